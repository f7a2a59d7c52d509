/- A greater number never has a lesser power, and a greater one above 0 never a greater reciprocal root. No condition: for every input. -/
import Derived.Test.YtmndomlpdajjmaaQx1
import Derived.Test.YtmndomlpdajjmaaQx2
import Derived.Test.YtmndomlpdajjmaaQx3
set_option linter.unusedVariables false
set_option linter.unusedSimpArgs false
namespace Go.Proofs.Ytmndomlpdajjmaa.Pure
open Go.RowKit Go.Proofs.Ytmndomlpdajjmaa.Q Go.Proofs.YtmndomlpdajjmaaW.PrintWords Go.Proofs.YtmndomlpdajjmaaW.PrintLast
namespace Cz

/-- Divided by d, rounded, a half to the even one. -/
def rnd (a d : Int) : Int :=
  if a % d > d - a % d then a / d + 1 else if a % d = d - a % d ∧ (a / d) % 2 = 1 then a / d + 1 else a / d
/-- What is promised of a rounded fraction. -/
def Near (a d r : Int) : Prop := 2 * (a - r * d) ≤ d ∧ -d ≤ 2 * (a - r * d) ∧ ((2 * (a - r * d) = d ∨ 2 * (a - r * d) = -d) → r % 2 = 0)
theorem rnd_near (a d : Int) (hd : 0 < d) : Near a d (rnd a d) := by
  have h1 := Int.emod_add_mul_ediv a d
  have h2 := Int.emod_nonneg a (by omega : d ≠ 0)
  have h3 := Int.emod_lt_of_pos a hd
  unfold Near rnd
  generalize a % d = m at *
  generalize a / d = q at *
  have e1 : (q + 1) * d = d * q + d := by rw [Int.add_mul, Int.one_mul, Int.mul_comm]
  have e2 : q * d = d * q := Int.mul_comm _ _
  generalize hk : d * q = k at *
  split
  · rw [e1]; omega
  · split
    · rw [e1]; omega
    · rw [e2]; omega
theorem near_le {a b d r s : Int} (hd : 0 < d) (ha : Near a d r) (hb : Near b d s) (h : a ≤ b) : r ≤ s := by
  obtain ⟨a1, a2, a3⟩ := ha
  obtain ⟨b1, b2, b3⟩ := hb
  by_cases hlt : s < r
  · exfalso
    obtain ⟨k, rfl⟩ : ∃ k : Int, r = s + 1 + k := ⟨r - s - 1, by omega⟩
    have hk : 0 ≤ k := by omega
    have e1 : (s + 1 + k) * d = s * d + d + k * d := by rw [Int.add_mul, Int.add_mul, Int.one_mul]
    rw [e1] at a1 a2 a3
    have hkd : 0 ≤ k * d := Int.mul_nonneg hk (by omega)
    generalize s * d = sd at *
    by_cases h0 : k = 0
    · subst h0
      rw [Int.zero_mul] at *
      have := a3 (by omega)
      have := b3 (by omega)
      omega
    · have : d ≤ k * d := by
        have := Int.mul_le_mul_of_nonneg_right (show (1 : Int) ≤ k by omega) (show 0 ≤ d by omega)
        omega
      generalize k * d = kd at *
      omega
  · omega
theorem near_unique {a d r s : Int} (hd : 0 < d) (ha : Near a d r) (hb : Near a d s) : r = s :=
  Int.le_antisymm (near_le hd ha hb (Int.le_refl a)) (near_le hd hb ha (Int.le_refl a))
theorem rnd_unique {a d r : Int} (hd : 0 < d) (h : Near a d r) : rnd a d = r := near_unique hd (rnd_near a d hd) h
theorem rnd_mono {a b d : Int} (hd : 0 < d) (h : a ≤ b) : rnd a d ≤ rnd b d := near_le hd (rnd_near a d hd) (rnd_near b d hd) h
theorem rnd_mul (q d : Int) (hd : 0 < d) : rnd (q * d) d = q := by
  apply rnd_unique hd
  unfold Near
  rw [Int.sub_self]
  omega
theorem rnd_ge {a d q : Int} (hd : 0 < d) (h : q * d ≤ a) : q ≤ rnd a d := by
  have := rnd_mono hd h
  rwa [rnd_mul q d hd] at this
theorem rnd_le {a d q : Int} (hd : 0 < d) (h : a ≤ q * d) : rnd a d ≤ q := by
  have := rnd_mono hd h
  rwa [rnd_mul q d hd] at this
theorem rnd_one (a : Int) : rnd a 1 = a := by
  have := rnd_mul a 1 (by omega)
  rwa [Int.mul_one] at this
theorem rnd_two (a d : Int) (hd : 0 < d) : rnd (2 * a) (2 * d) = rnd a d := by
  apply rnd_unique (by omega)
  obtain ⟨h1, h2, h3⟩ := rnd_near a d hd
  unfold Near
  have e : rnd a d * (2 * d) = 2 * (rnd a d * d) := by rw [← Int.mul_assoc, Int.mul_comm (rnd a d) 2, Int.mul_assoc]
  rw [e]
  generalize rnd a d * d = k at *
  omega
theorem two_pow_pos (n : Nat) : (0 : Int) < 2 ^ n := Int.pow_pos (by omega)
theorem two_pow_le (m : Nat) (d : Nat) : (2 : Int) ^ m ≤ 2 ^ (m + d) := by
  induction d with
  | zero => exact Int.le_refl _
  | succ d ih =>
    have h := two_pow_pos (m + d)
    have e : (2 : Int) ^ (m + (d + 1)) = 2 * 2 ^ (m + d) := by rw [← Nat.add_assoc, Int.pow_succ, Int.mul_comm]
    omega
theorem two_pow_max {m n : Nat} (h : m ≤ n) : (2 : Int) ^ m ≤ 2 ^ n := by
  obtain ⟨d, rfl⟩ : ∃ d, n = m + d := ⟨n - m, by omega⟩
  exact two_pow_le m d
theorem two_pow_62 {m : Nat} (h : m ≤ 62) : (2 : Int) ^ m ≤ 4611686018427387904 := two_pow_max h
theorem two_pow_succ (n : Nat) : (2 : Int) ^ (n + 1) = 2 * 2 ^ n := by rw [Int.pow_succ, Int.mul_comm]
/-- 2 to a fraction. -/
def of2 (f : Int) : Int := 65536 + f * (45613 + f * (14743 + f * 5180 / 65536) / 65536) / 65536
theorem of2_parts (f : Int) (h0 : 0 ≤ f) (h1 : f ≤ 65536) :
    14743 ≤ 14743 + f * 5180 / 65536 ∧ 14743 + f * 5180 / 65536 ≤ 19923 ∧
    45613 ≤ 45613 + f * (14743 + f * 5180 / 65536) / 65536 ∧ 45613 + f * (14743 + f * 5180 / 65536) / 65536 ≤ 65536 ∧
    0 ≤ f * (14743 + f * 5180 / 65536) ∧ f * (14743 + f * 5180 / 65536) ≤ 65536 * 19923 ∧
    0 ≤ f * (45613 + f * (14743 + f * 5180 / 65536) / 65536) ∧ f * (45613 + f * (14743 + f * 5180 / 65536) / 65536) ≤ f * 65536 := by
  have b1 : 14743 ≤ 14743 + f * 5180 / 65536 := by omega
  have b2 : 14743 + f * 5180 / 65536 ≤ 19923 := by omega
  generalize 14743 + f * 5180 / 65536 = B at *
  have c1 : 0 ≤ f * B := Int.mul_nonneg h0 (by omega)
  have c2 : f * B ≤ 65536 * 19923 := Int.mul_le_mul h1 b2 (by omega) (by omega)
  have c3 : 45613 + f * B / 65536 ≤ 65536 := by omega
  have c4 : 45613 ≤ 45613 + f * B / 65536 := by omega
  refine ⟨b1, b2, c4, c3, c1, c2, Int.mul_nonneg h0 (by omega), Int.mul_le_mul_of_nonneg_left c3 h0⟩
theorem of2_range (f : Int) (h0 : 0 ≤ f) (h1 : f ≤ 65536) : 65536 ≤ of2 f ∧ of2 f ≤ 65536 + f := by
  have := of2_parts f h0 h1
  unfold of2
  omega
theorem of2_mono {f g : Int} (h0 : 0 ≤ f) (h : f ≤ g) (h1 : g ≤ 65536) : of2 f ≤ of2 g := by
  have pf := of2_parts f h0 (by omega)
  have pg := of2_parts g (by omega) h1
  unfold of2
  have b : 14743 + f * 5180 / 65536 ≤ 14743 + g * 5180 / 65536 := by omega
  have c : f * (14743 + f * 5180 / 65536) ≤ g * (14743 + g * 5180 / 65536) := Int.mul_le_mul h b (by omega) (by omega)
  have c' : 45613 + f * (14743 + f * 5180 / 65536) / 65536 ≤ 45613 + g * (14743 + g * 5180 / 65536) / 65536 := by omega
  have d : f * (45613 + f * (14743 + f * 5180 / 65536) / 65536) ≤ g * (45613 + g * (14743 + g * 5180 / 65536) / 65536) := Int.mul_le_mul h c' (by omega) (by omega)
  omega
/-- The power of a t (n: how far down). -/
def powT (t : Int) : Int := rnd (of2 (t % 65536)) (2 ^ (-(t / 65536)).toNat)
/-- .. with what is too far down cut off. -/
def powC (t : Int) : Int := if -(t / 65536) > 62 then 0 else powT t
theorem rnd_halves (a : Int) (ha : 0 ≤ a) (n k : Nat) : rnd a (2 ^ (n + k)) ≤ rnd a (2 ^ n) := by
  induction k with
  | zero => exact Int.le_refl _
  | succ k ih =>
    refine Int.le_trans ?_ ih
    rw [← Nat.add_assoc, two_pow_succ, ← rnd_two a (2 ^ (n + k)) (two_pow_pos _)]
    exact rnd_mono (by have := two_pow_pos (n + k); omega) (by omega)
theorem powT_mono {t s : Int} (h : t ≤ s) (hs : s ≤ 0) : powT t ≤ powT s := by
  unfold powT
  by_cases he : t / 65536 = s / 65536
  · rw [he]
    exact rnd_mono (two_pow_pos _) (of2_mono (by omega) (by omega) (by omega))
  · obtain ⟨m, hm⟩ : ∃ m : Nat, (-(t / 65536)).toNat = (-(s / 65536)).toNat + m + 1 := ⟨(-(t / 65536)).toNat - (-(s / 65536)).toNat - 1, by omega⟩
    generalize (-(s / 65536)).toNat = n at *
    rw [hm]
    have r1 := of2_range (t % 65536) (by omega) (by omega)
    have r2 := of2_range (s % 65536) (by omega) (by omega)
    calc rnd (of2 (t % 65536)) (2 ^ (n + m + 1)) ≤ rnd (2 * 65536) (2 ^ (n + m + 1)) := rnd_mono (two_pow_pos _) (by omega)
      _ = rnd 65536 (2 ^ (n + m)) := by rw [two_pow_succ, rnd_two _ _ (two_pow_pos _)]
      _ ≤ rnd 65536 (2 ^ n) := rnd_halves _ (by omega) _ _
      _ ≤ rnd (of2 (s % 65536)) (2 ^ n) := rnd_mono (two_pow_pos _) r2.1
theorem powT_range (t : Int) (ht : t ≤ 0) : 0 ≤ powT t ∧ powT t ≤ 65536 := by
  constructor
  · unfold powT
    exact rnd_ge (two_pow_pos _) (by have := of2_range (t % 65536) (by omega) (by omega); omega)
  · have h := powT_mono ht (Int.le_refl 0)
    have : powT 0 = 65536 := by decide +kernel
    omega
theorem powC_mono {t s : Int} (h : t ≤ s) (hs : s ≤ 0) : powC t ≤ powC s := by
  have := powT_mono h hs
  have := powT_range s hs
  unfold powC
  split <;> split <;> omega
/-- r is the root of v. -/
def IsRoot (v r : Int) : Prop := 0 ≤ r ∧ r * r ≤ v ∧ v < (r + 1) * (r + 1)
theorem sq_le {a b : Int} (h0 : 0 ≤ a) (h : a ≤ b) : a * a ≤ b * b := Int.mul_le_mul h h h0 (by omega)
theorem root_le {v w r s : Int} (hr : IsRoot v r) (hs : IsRoot w s) (h : v ≤ w) : r ≤ s := by
  obtain ⟨r0, r1, r2⟩ := hr
  obtain ⟨s0, s1, s2⟩ := hs
  by_cases hlt : s < r
  · have := sq_le (by omega : 0 ≤ s + 1) (by omega : s + 1 ≤ r)
    omega
  · omega
theorem root_small {v r b : Int} (hr : IsRoot v r) (hb : 0 ≤ b) (h : v < (b + 1) * (b + 1)) : r ≤ b := by
  obtain ⟨r0, r1, r2⟩ := hr
  by_cases hlt : b < r
  · have := sq_le (by omega : 0 ≤ b + 1) (by omega : b + 1 ≤ r)
    omega
  · omega
/-- One bit of the root. -/
theorem root_bit {v x D : Int} (h : v < (x + 2 * D) * (x + 2 * D)) : v < (x + D + D) * (x + D + D) := by
  have : x + D + D = x + 2 * D := by omega
  rw [this]; exact h
theorem w64 (x : Int) (h0 : -9223372036854775808 ≤ x) (h1 : x ≤ 9223372036854775807) : wrap64 x = x := by unfold wrap64; omega
theorem w32 (x : Int) (h0 : -2147483648 ≤ x) (h1 : x ≤ 2147483647) : wrap32 x = x := by unfold wrap32; omega
theorem w64_sub (a b : Int) : wrap64 (a - wrap64 b) = wrap64 (a - b) := by unfold wrap64; omega
theorem wf32 {x : Int} (h : (Lit.int .i32 x).wf = true) : -2147483648 ≤ x ∧ x ≤ 2147483647 := by
  simp only [Lit.wf, IntKind.min, IntKind.max, IntKind.signed, IntKind.bits, Bool.and_eq_true, decide_eq_true_eq, if_true] at h
  omega
theorem and1 (x : Int) : Go.bits .and .i64 x 1 = x % 2 := by
  have h : (BitVec.ofInt 64 x &&& BitVec.ofInt 64 1).toNat = ((x % 2).toNat) := by
    have e : (BitVec.ofInt 64 1).toNat = 2 ^ 1 - 1 := by decide
    rw [BitVec.toNat_and, e, Nat.and_two_pow_sub_one_eq_mod, BitVec.toNat_ofInt]
    omega
  show IntKind.i64.wrap (((BitVec.ofInt 64 x &&& BitVec.ofInt 64 1).toNat : Nat) : Int) = _
  rw [h, IntKind.wrap_i64]
  omega
theorem div_half (v D : Int) (hD : 2 ≤ D) (h0 : -9223372036854775808 ≤ v) (h1 : v ≤ 9223372036854775807) : -4611686018427387904 ≤ v / D ∧ v / D ≤ 4611686018427387903 := by
  constructor
  · exact Int.le_ediv_of_mul_le (by omega) (by omega)
  · have : v / D < 4611686018427387904 := Int.ediv_lt_of_lt_mul (by omega) (by omega)
    omega
theorem half_core (v : Int) (m : Nat) (hm : m ≤ 62) (h0 : -9223372036854775808 ≤ v) (h1 : v ≤ 9223372036854775807) :
    (if (wrap64 (v - (wrap64 ((v / 2 ^ m) * 2 ^ m)))) > ((wrap64 (2 ^ m)) / 2) then (some (wrap64 ((v / 2 ^ m) + 1))) else (if (wrap64 (v - (wrap64 ((v / 2 ^ m) * 2 ^ m)))) = ((wrap64 (2 ^ m)) / 2) then (if (m : Int) > 0 then (if (v / 2 ^ m) % 2 = 1 then (some (wrap64 ((v / 2 ^ m) + 1))) else (some (v / 2 ^ m))) else (some (v / 2 ^ m))) else (some (v / 2 ^ m)))) = some (rnd v (2 ^ m)) := by
  have hD : (2 : Int) ^ m ≤ 4611686018427387904 := two_pow_62 hm
  have hp := two_pow_pos m
  have e1 := Int.emod_add_mul_ediv v (2 ^ m)
  have e2 := Int.emod_nonneg v (by omega : (2 : Int) ^ m ≠ 0)
  have e3 := Int.emod_lt_of_pos v hp
  have e4 : v - (v / 2 ^ m) * 2 ^ m = v % 2 ^ m := by rw [Int.mul_comm]; omega
  rw [w64_sub, e4, w64 (v % 2 ^ m) (by omega) (by omega), w64 (2 ^ m) (by omega) (by omega)]
  rcases Nat.eq_zero_or_pos m with rfl | hpos
  · have e5 : v % 2 ^ 0 = 0 := by rw [Int.pow_zero]; omega
    rw [e5, Int.pow_zero, Int.ediv_one, rnd_one, if_neg (by decide), if_pos (by decide), if_neg (by decide)]
  · obtain ⟨n, rfl⟩ : ∃ n, m = n + 1 := ⟨m - 1, by omega⟩
    have hq := div_half v (2 ^ (n + 1)) (by have := two_pow_pos n; rw [two_pow_succ]; omega) h0 h1
    rw [w64 (v / 2 ^ (n + 1) + 1) (by omega) (by omega)]
    unfold rnd
    have e6 : (2 : Int) ^ (n + 1) / 2 = 2 ^ n := by rw [two_pow_succ]; omega
    have e7 := two_pow_succ n
    rw [e6]
    generalize v % 2 ^ (n + 1) = r at *
    generalize v / 2 ^ (n + 1) = q at *
    rw [e7]
    generalize (2 : Int) ^ n = d at *
    clear e1 e4 e6
    repeat' split
    all_goals first | rfl | (exfalso; omega)
/-- Half's power. -/
def pw (n : Int) : Nat := (mn (mx n 0) 62).toNat
theorem half_eq (v n : Int) (h0 : -9223372036854775808 ≤ v) (h1 : v ≤ 9223372036854775807) : fix_Half.f v n = some (rnd v (2 ^ pw n)) := by
  have hm : pw n ≤ 62 := by unfold pw mn mx; omega
  have := half_core v (pw n) hm h0 h1
  unfold fix_Half.f
  simp only [and1]
  rw [show (mn (mx n 0) 62 : Int) = (pw n : Int) from by unfold pw mn mx; omega]
  exact this
theorem pw16 : (2 : Int) ^ pw 16 = 65536 := by decide
/-- How many powers of two, with 16 bits behind the point. -/
def tOf (x : Int) : Int := rnd (mn x 0 * 94548) 65536
theorem tOf_range (x : Int) (hx : -2147483648 ≤ x ∧ x ≤ 2147483647) : -3098148864 ≤ tOf x ∧ tOf x ≤ 0 := by
  have h : -2147483648 ≤ mn x 0 ∧ mn x 0 ≤ 0 := by unfold mn; split <;> omega
  unfold tOf
  exact ⟨rnd_ge (by omega) (by omega), rnd_le (by omega) (by omega)⟩
theorem tOf_mono {x y : Int} (h : x ≤ y) : tOf x ≤ tOf y := by
  have h : mn x 0 ≤ mn y 0 := by unfold mn; split <;> split <;> omega
  exact rnd_mono (by omega) (by omega)
def expI (x : Int) : Int := powC (tOf x)
theorem of2_eq (f : Int) (h0 : 0 ≤ f) (h1 : f ≤ 65536) : expo_of2.f f = some (of2 f) := by
  have p := of2_parts f h0 h1
  unfold expo_of2.f of2
  rw [w64 (f * 5180) (by omega) (by omega), w64 (14743 + f * 5180 / 65536) (by omega) (by omega), w64 (f * (14743 + f * 5180 / 65536)) (by omega) (by omega), w64 (45613 + f * (14743 + f * 5180 / 65536) / 65536) (by omega) (by omega), w64 (f * (45613 + f * (14743 + f * 5180 / 65536) / 65536)) (by omega) (by omega), w64 _ (by omega) (by omega)]
theorem exp_eq (x : Int) (hx : -2147483648 ≤ x ∧ x ≤ 2147483647) : expo_Exp.f x = some (expI x) := by
  have h : -2147483648 ≤ mn x 0 ∧ mn x 0 ≤ 0 := by unfold mn; split <;> omega
  have ht := tOf_range x hx
  unfold expo_Exp.f expI powC powT
  rw [w64 (mn x 0) (by omega) (by omega), w64 (mn x 0 * 94548) (by omega) (by omega), half_eq _ _ (by omega) (by omega), pw16]
  simp only [Option.bind_some]
  rw [show rnd (mn x 0 * 94548) 65536 = tOf x from rfl]
  generalize tOf x = t at *
  rw [w64 (-(t / 65536)) (by omega) (by omega), w64 (t / 65536 * 65536) (by omega) (by omega), show t - t / 65536 * 65536 = t % 65536 from by omega, w64 (t % 65536) (by omega) (by omega)]
  by_cases c : -(t / 65536) > 62
  · rw [if_pos c, if_pos c]
  · rw [if_neg c, if_neg c, of2_eq _ (by omega) (by omega)]
    simp only [Option.bind_some]
    have r := of2_range (t % 65536) (by omega) (by omega)
    rw [half_eq _ _ (by omega) (by omega), show pw (-(t / 65536)) = (-(t / 65536)).toNat from by unfold pw mn mx; (repeat' split) <;> omega]
    rfl
theorem expI_mono {x y : Int} (h : x ≤ y) (hy : -2147483648 ≤ y ∧ y ≤ 2147483647) : expI x ≤ expI y := powC_mono (tOf_mono h) (tOf_range y hy).2
theorem u64w (n : Int) (h0 : 0 ≤ n) (h1 : n < 18446744073709551616) : IntKind.u64.wrap n = n := by
  have : IntKind.u64.wrap n = n % 18446744073709551616 := by simp [IntKind.wrap, IntKind.bits, IntKind.signed]
  rw [this]; omega
theorem wraps_u64 (n : Int) (h0 : 0 ≤ n) (h1 : n < 2 ^ 64) : IntKind.u64.wrap n = n := u64w n h0 h1
set_option maxRecDepth 100000 in
def tab : ByteArray := ⟨#[0, 1, 2, 2, 3, 3, 3, 3, 4, 4, 4, 4, 4, 4, 4, 4, 5, 5, 5, 5, 5, 5, 5, 5, 5, 5, 5, 5, 5, 5, 5, 5, 6, 6, 6, 6, 6, 6, 6, 6, 6, 6, 6, 6, 6, 6, 6, 6, 6, 6, 6, 6, 6, 6, 6, 6, 6, 6, 6, 6, 6, 6, 6, 6, 7, 7, 7, 7, 7, 7, 7, 7, 7, 7, 7, 7, 7, 7, 7, 7, 7, 7, 7, 7, 7, 7, 7, 7, 7, 7, 7, 7, 7, 7, 7, 7, 7, 7, 7, 7, 7, 7, 7, 7, 7, 7, 7, 7, 7, 7, 7, 7, 7, 7, 7, 7, 7, 7, 7, 7, 7, 7, 7, 7, 7, 7, 7, 7, 8, 8, 8, 8, 8, 8, 8, 8, 8, 8, 8, 8, 8, 8, 8, 8, 8, 8, 8, 8, 8, 8, 8, 8, 8, 8, 8, 8, 8, 8, 8, 8, 8, 8, 8, 8, 8, 8, 8, 8, 8, 8, 8, 8, 8, 8, 8, 8, 8, 8, 8, 8, 8, 8, 8, 8, 8, 8, 8, 8, 8, 8, 8, 8, 8, 8, 8, 8, 8, 8, 8, 8, 8, 8, 8, 8, 8, 8, 8, 8, 8, 8, 8, 8, 8, 8, 8, 8, 8, 8, 8, 8, 8, 8, 8, 8, 8, 8, 8, 8, 8, 8, 8, 8, 8, 8, 8, 8, 8, 8, 8, 8, 8, 8, 8, 8, 8, 8, 8, 8, 8, 8, 8, 8, 8, 8, 8, 8]⟩
set_option maxRecDepth 100000 in
theorem tab_all : ∀ i : Fin 256, 0 ≤ bt tab (i.val : Int) ∧ bt tab (i.val : Int) ≤ 8 ∧ i.val < 2 ^ (bt tab (i.val : Int)).toNat := by decide +kernel
theorem tab_ok (i : Int) (h0 : 0 ≤ i) (h1 : i < 256) : ∃ t : Nat, bt tab i = (t : Int) ∧ t ≤ 8 ∧ i + 1 ≤ 2 ^ t := by
  obtain ⟨n, rfl⟩ := Int.eq_ofNat_of_zero_le h0
  obtain ⟨a, b, c⟩ := tab_all ⟨n, by omega⟩
  simp only at a b c
  refine ⟨(bt tab (n : Int)).toNat, by omega, by omega, ?_⟩
  have : ((n + 1 : Nat) : Int) ≤ ((2 ^ (bt tab (n : Int)).toNat : Nat) : Int) := by exact Int.ofNat_le.mpr c
  rwa [Int.natCast_pow] at this
theorem two_pow_split (a b : Nat) : (2 : Int) ^ (a + b) = 2 ^ a * 2 ^ b := Int.pow_add 2 a b
set_option maxRecDepth 100000 in
theorem len_j0 (k : Nat) (x n : Int) (h0 : 0 ≤ x) (h1 : x < 4294967296) (hn : 0 ≤ n) (hn1 : n ≤ 32) : ∃ m : Nat, bits_Len64.j0 (k + 1) x n = some (n + m) ∧ m ≤ 32 ∧ x < 2 ^ m := by
  have hu : bits_Len64.j0 (k + 1) x n = if x ≥ 65536 then (if (x / 65536) ≥ 256 then (if 0 ≤ (((x / 65536) / 256) % 256) then (if (((x / 65536) / 256) % 256) < 256 then (some (wrap64 ((wrap64 ((wrap64 (n + 16)) + 8)) + (wrap64 (bt tab (((x / 65536) / 256) % 256)))))) else (none)) else (none)) else (if 0 ≤ ((x / 65536) % 256) then (if ((x / 65536) % 256) < 256 then (some (wrap64 ((wrap64 (n + 16)) + (wrap64 (bt tab ((x / 65536) % 256)))))) else (none)) else (none))) else (if x ≥ 256 then (if 0 ≤ ((x / 256) % 256) then (if ((x / 256) % 256) < 256 then (some (wrap64 ((wrap64 (n + 8)) + (wrap64 (bt tab ((x / 256) % 256)))))) else (none)) else (none)) else (if 0 ≤ (x % 256) then (if (x % 256) < 256 then (some (wrap64 (n + (wrap64 (bt tab (x % 256)))))) else (none)) else (none))) := rfl
  rw [hu]
  clear hu
  rw [w64 (n + 16) (by omega) (by omega), w64 (n + 16 + 8) (by omega) (by omega), w64 (n + 8) (by omega) (by omega)]
  by_cases c1 : x ≥ 65536
  · rw [if_pos c1]
    by_cases c2 : x / 65536 ≥ 256
    · obtain ⟨t, et, ht, hx⟩ := tab_ok (x / 65536 / 256 % 256) (by omega) (by omega)
      rw [if_pos c2, if_pos (by omega), if_pos (by omega), et, w64 (t : Int) (by omega) (by omega), w64 _ (by omega) (by omega)]
      refine ⟨24 + t, by congr 1; omega, by omega, ?_⟩
      rw [two_pow_split]
      generalize (2 : Int) ^ t = p at *
      have : (2 : Int) ^ 24 = 16777216 := rfl
      omega
    · obtain ⟨t, et, ht, hx⟩ := tab_ok (x / 65536 % 256) (by omega) (by omega)
      rw [if_neg c2, if_pos (by omega), if_pos (by omega), et, w64 (t : Int) (by omega) (by omega), w64 _ (by omega) (by omega)]
      refine ⟨16 + t, by congr 1; omega, by omega, ?_⟩
      rw [two_pow_split]
      generalize (2 : Int) ^ t = p at *
      have : (2 : Int) ^ 16 = 65536 := rfl
      omega
  · rw [if_neg c1]
    by_cases c2 : x ≥ 256
    · obtain ⟨t, et, ht, hx⟩ := tab_ok (x / 256 % 256) (by omega) (by omega)
      rw [if_pos c2, if_pos (by omega), if_pos (by omega), et, w64 (t : Int) (by omega) (by omega), w64 _ (by omega) (by omega)]
      refine ⟨8 + t, by congr 1; omega, by omega, ?_⟩
      rw [two_pow_split]
      generalize (2 : Int) ^ t = p at *
      have : (2 : Int) ^ 8 = 256 := rfl
      omega
    · obtain ⟨t, et, ht, hx⟩ := tab_ok (x % 256) (by omega) (by omega)
      rw [if_neg c2, if_pos (by omega), if_pos (by omega), et, w64 (t : Int) (by omega) (by omega), w64 _ (by omega) (by omega)]
      exact ⟨t, rfl, by omega, by omega⟩
theorem len_ok (k : Nat) (v : Int) (h0 : 0 ≤ v) (h1 : v < 18446744073709551616) : ∃ m : Nat, bits_Len64.f (k + 1) v = some (m : Int) ∧ m ≤ 64 ∧ v < 2 ^ m := by
  unfold bits_Len64.f
  by_cases c : v ≥ 4294967296
  · rw [if_pos c]
    obtain ⟨m, e, hm, hx⟩ := len_j0 k (v / 4294967296) 32 (by omega) (by omega) (by omega) (by omega)
    refine ⟨32 + m, by rw [e]; congr 1, by omega, ?_⟩
    rw [two_pow_split]
    generalize (2 : Int) ^ m = p at *
    have : (2 : Int) ^ 32 = 4294967296 := rfl
    omega
  · rw [if_neg c]
    obtain ⟨m, e, hm, hx⟩ := len_j0 k v 0 (by omega) (by omega) (by omega) (by omega)
    exact ⟨m, by rw [e, Int.zero_add], by omega, hx⟩
theorem root_loop (v : Int) (hv : v < 18446744073709551616) (d : Nat) : ∀ (k : Nat) (x : Int), d < k → d ≤ 32 → 0 ≤ x → x % 2 ^ d = 0 → x + 2 ^ d ≤ 4294967296 → x * x ≤ v → v < (x + 2 ^ d) * (x + 2 ^ d) →
    ∃ r, expo_Root.l0 k v x ((d : Int) - 1) = some r ∧ IsRoot v r ∧ r ≤ 4294967295 := by
  induction d with
  | zero =>
    intro k x hk _ hx _ hb h1 h2
    obtain ⟨k, rfl⟩ : ∃ m, k = m + 1 := ⟨k - 1, by omega⟩
    rw [Int.pow_zero] at hb h2
    refine ⟨x, ?_, ⟨hx, h1, h2⟩, by omega⟩
    simp only [expo_Root.l0]
    rw [if_neg (by omega)]
  | succ d ih =>
    intro k x hk hd hx hm hb h1 h2
    obtain ⟨k, rfl⟩ : ∃ m, k = m + 1 := ⟨k - 1, by omega⟩
    have hp := two_pow_pos d
    have e2 := two_pow_succ d
    have hl : (2 : Int) ^ d ≤ 2147483648 := two_pow_max (n := 31) (by omega)
    have hs : shl .u64 1 (d : Int) = 2 ^ d := by
      unfold shl
      rw [Int.one_mul, show min (d : Int).toNat IntKind.u64.bits = d from by simp only [IntKind.bits]; omega]
      exact u64w _ (by omega) (by omega)
    have ho : Go.bits .or .u64 x (2 ^ d) = x + 2 ^ d :=
      bits_join .u64 64 (by decide) wraps_u64 (d + 1) x (2 ^ d) hx hm (by have : (2 : Int) ^ 64 = 18446744073709551616 := rfl; omega) (by omega) (by omega) (by have : (2 : Int) ^ 64 = 18446744073709551616 := rfl; omega)
    have hsq := sq_le (by omega : 0 ≤ x + 2 ^ d) (by omega : x + 2 ^ d ≤ 4294967295)
    have hsq0 := Int.mul_nonneg (by omega : 0 ≤ x + 2 ^ d) (by omega : 0 ≤ x + 2 ^ d)
    have hm' : x % 2 ^ d = 0 := by
      obtain ⟨c, hc⟩ := Int.dvd_of_emod_eq_zero hm
      rw [e2] at hc
      rw [hc, Int.mul_comm 2, Int.mul_assoc]
      exact Int.mul_emod_right _ _
    have hi : ((d + 1 : Nat) : Int) - 1 = (d : Int) := by omega
    rw [hi]
    simp only [expo_Root.l0]
    rw [if_pos (by omega), if_pos (by omega), hs, ho, u64w _ hsq0 (by omega), w64 ((d : Int) - 1) (by omega) (by omega)]
    by_cases c : (x + 2 ^ d) * (x + 2 ^ d) ≤ v
    · rw [if_pos c]
      refine ih k (x + 2 ^ d) (by omega) (by omega) (by omega) ?_ (by omega) c ?_
      · rw [Int.add_emod_right]; exact hm'
      · rw [e2] at h2; exact root_bit h2
    · rw [if_neg c]
      exact ih k x (by omega) (by omega) hx hm' (by omega) h1 (by omega)
theorem root_eq (v : Int) (h0 : 0 ≤ v) (h1 : v < 18446744073709551616) (k : Nat) (hk : 34 ≤ k) : ∃ r, expo_Root.f k v = some r ∧ IsRoot v r ∧ r ≤ 4294967295 := by
  obtain ⟨k, rfl⟩ : ∃ m, k = m + 1 := ⟨k - 1, by omega⟩
  obtain ⟨m, e, hm, hv⟩ := len_ok k v h0 h1
  unfold expo_Root.f
  rw [e]
  simp only [Option.bind_some]
  rw [w64 ((m : Int) - 1) (by omega) (by omega)]
  have key : ∃ d : Nat, Int.tdiv ((m : Int) - 1) 2 = (d : Int) - 1 ∧ d ≤ 32 ∧ 1 ≤ d ∧ m ≤ d + d := by
    rcases Nat.eq_zero_or_pos m with rfl | hp
    · exact ⟨1, by decide, by omega, by omega, by omega⟩
    · refine ⟨(m - 1) / 2 + 1, ?_, by omega, by omega, by omega⟩
      rw [Int.tdiv_eq_ediv_of_nonneg (by omega)]; omega
  obtain ⟨d, ed, hd, hd1, hmd⟩ := key
  rw [ed, w64 ((d : Int) - 1) (by omega) (by omega)]
  have hpd : (2 : Int) ^ d ≤ 4294967296 := two_pow_max (n := 32) hd
  refine root_loop v h1 d (k + 1) 0 (by omega) hd (by omega) (Int.zero_emod _) (by omega) (by omega) ?_
  rw [Int.zero_add, ← two_pow_split]
  exact Int.lt_of_lt_of_le hv (two_pow_max hmd)
theorem rsqrt_arg (v : Int) (hv : 1 ≤ v) : 0 ≤ (281474976710656 : Int) / v ∧ (281474976710656 : Int) / v ≤ 281474976710656 := ⟨Int.ediv_nonneg (by omega) (by omega), Int.ediv_le_self _ (by omega)⟩
theorem rsqrt_eq (v : Int) (h1 : v ≤ 9223372036854775807) (k : Nat) (hk : 34 ≤ k) : ∃ r, expo_Rsqrt.f k v = some r ∧ IsRoot (281474976710656 / mx v 1) r ∧ r ≤ 16777216 := by
  have hm : 1 ≤ mx v 1 ∧ mx v 1 ≤ 9223372036854775807 := by unfold mx; split <;> omega
  unfold expo_Rsqrt.f
  generalize mx v 1 = m at *
  have ha := rsqrt_arg m hm.1
  rw [u64w m (by omega) (by omega), if_neg (by omega), Int.tdiv_eq_ediv_of_nonneg (by omega), u64w _ ha.1 (by omega)]
  obtain ⟨r, e, hr, -⟩ := root_eq (281474976710656 / m) ha.1 (by omega) k hk
  have hb : r ≤ 16777216 := root_small hr (by omega) (by omega)
  rw [e]
  simp only [Option.bind_some]
  exact ⟨r, by rw [w32 r (by have := hr.1; omega) (by omega)], hr, hb⟩
theorem div_anti {a b : Int} (ha : 1 ≤ a) (h : a ≤ b) : (281474976710656 : Int) / b ≤ 281474976710656 / a := by
  apply Int.le_ediv_of_mul_le (by omega)
  have h1 : (281474976710656 : Int) / b * b ≤ 281474976710656 := Int.ediv_mul_le _ (by omega)
  have h2 := (rsqrt_arg b (by omega)).1
  have h3 := Int.mul_le_mul_of_nonneg_left h h2
  omega
end Cz

theorem ExpoRises : credenzalaw02_ExpoRises.Pure := by
  intro a b ha hb
  have ha := Cz.wf32 ha
  have hb := Cz.wf32 hb
  refine ⟨100, ?_⟩
  have aw : credenzalaw02_awake.f 100 = some true := by decide +kernel
  have h : -2147483648 ≤ mn a b ∧ mn a b ≤ mx a b ∧ mx a b ≤ 2147483647 := by unfold mn mx; split <;> omega
  unfold credenzalaw02_ExpoRises.f
  generalize mn a b = x at *
  generalize mx a b = y at *
  rw [Cz.exp_eq x (by omega), Cz.exp_eq y (by omega), Cz.w64 x (by omega) (by omega), Cz.w64 y (by omega) (by omega), aw]
  simp only [Option.bind_some]
  rw [if_pos (Cz.expI_mono h.2.1 (by omega))]
  obtain ⟨r, er, hr, -⟩ := Cz.rsqrt_eq x (by omega) 100 (by omega)
  obtain ⟨s, es, hs, -⟩ := Cz.rsqrt_eq y (by omega) 100 (by omega)
  rw [er, es]
  simp only [Option.bind_some]
  rw [if_pos (show r ≥ s from Cz.root_le hs hr (Cz.div_anti (by unfold mx; split <;> omega) (by unfold mx; split <;> split <;> omega)))]

end Go.Proofs.Ytmndomlpdajjmaa.Pure
