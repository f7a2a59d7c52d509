/- So much further down as the logarithm of 2 is (45426 of 65536) the power is half as great: twice that one is at most 4 away from the first one. No condition: for every input. -/
import Derived.Test.YtmndomlpdajjmaaQx1
import Derived.Test.YtmndomlpdajjmaaQx2
set_option linter.unusedVariables false
set_option linter.unusedSimpArgs false
namespace Go.Proofs.Ytmndomlpdajjmaa.Pure
open Go.RowKit Go.Proofs.Ytmndomlpdajjmaa.Q Go.Proofs.YtmndomlpdajjmaaW.PrintWords Go.Proofs.YtmndomlpdajjmaaW.PrintLast
namespace Cz

/-- Divided by d, rounded, a half to the even one. -/
def rnd (a d : Int) : Int :=
  if a % d > d - a % d then a / d + 1 else if a % d = d - a % d ∧ (a / d) % 2 = 1 then a / d + 1 else a / d
/-- What is promised of a rounded fraction. -/
def Near (a d r : Int) : Prop := 2 * (a - r * d) ≤ d ∧ -d ≤ 2 * (a - r * d) ∧ ((2 * (a - r * d) = d ∨ 2 * (a - r * d) = -d) → r % 2 = 0)
theorem rnd_near (a d : Int) (hd : 0 < d) : Near a d (rnd a d) := by
  have h1 := Int.emod_add_mul_ediv a d
  have h2 := Int.emod_nonneg a (by omega : d ≠ 0)
  have h3 := Int.emod_lt_of_pos a hd
  unfold Near rnd
  generalize a % d = m at *
  generalize a / d = q at *
  have e1 : (q + 1) * d = d * q + d := by rw [Int.add_mul, Int.one_mul, Int.mul_comm]
  have e2 : q * d = d * q := Int.mul_comm _ _
  generalize hk : d * q = k at *
  split
  · rw [e1]; omega
  · split
    · rw [e1]; omega
    · rw [e2]; omega
theorem near_le {a b d r s : Int} (hd : 0 < d) (ha : Near a d r) (hb : Near b d s) (h : a ≤ b) : r ≤ s := by
  obtain ⟨a1, a2, a3⟩ := ha
  obtain ⟨b1, b2, b3⟩ := hb
  by_cases hlt : s < r
  · exfalso
    obtain ⟨k, rfl⟩ : ∃ k : Int, r = s + 1 + k := ⟨r - s - 1, by omega⟩
    have hk : 0 ≤ k := by omega
    have e1 : (s + 1 + k) * d = s * d + d + k * d := by rw [Int.add_mul, Int.add_mul, Int.one_mul]
    rw [e1] at a1 a2 a3
    have hkd : 0 ≤ k * d := Int.mul_nonneg hk (by omega)
    generalize s * d = sd at *
    by_cases h0 : k = 0
    · subst h0
      rw [Int.zero_mul] at *
      have := a3 (by omega)
      have := b3 (by omega)
      omega
    · have : d ≤ k * d := by
        have := Int.mul_le_mul_of_nonneg_right (show (1 : Int) ≤ k by omega) (show 0 ≤ d by omega)
        omega
      generalize k * d = kd at *
      omega
  · omega
theorem near_unique {a d r s : Int} (hd : 0 < d) (ha : Near a d r) (hb : Near a d s) : r = s :=
  Int.le_antisymm (near_le hd ha hb (Int.le_refl a)) (near_le hd hb ha (Int.le_refl a))
theorem rnd_unique {a d r : Int} (hd : 0 < d) (h : Near a d r) : rnd a d = r := near_unique hd (rnd_near a d hd) h
theorem rnd_mono {a b d : Int} (hd : 0 < d) (h : a ≤ b) : rnd a d ≤ rnd b d := near_le hd (rnd_near a d hd) (rnd_near b d hd) h
theorem rnd_mul (q d : Int) (hd : 0 < d) : rnd (q * d) d = q := by
  apply rnd_unique hd
  unfold Near
  rw [Int.sub_self]
  omega
theorem rnd_ge {a d q : Int} (hd : 0 < d) (h : q * d ≤ a) : q ≤ rnd a d := by
  have := rnd_mono hd h
  rwa [rnd_mul q d hd] at this
theorem rnd_le {a d q : Int} (hd : 0 < d) (h : a ≤ q * d) : rnd a d ≤ q := by
  have := rnd_mono hd h
  rwa [rnd_mul q d hd] at this
theorem rnd_one (a : Int) : rnd a 1 = a := by
  have := rnd_mul a 1 (by omega)
  rwa [Int.mul_one] at this
theorem rnd_two (a d : Int) (hd : 0 < d) : rnd (2 * a) (2 * d) = rnd a d := by
  apply rnd_unique (by omega)
  obtain ⟨h1, h2, h3⟩ := rnd_near a d hd
  unfold Near
  have e : rnd a d * (2 * d) = 2 * (rnd a d * d) := by rw [← Int.mul_assoc, Int.mul_comm (rnd a d) 2, Int.mul_assoc]
  rw [e]
  generalize rnd a d * d = k at *
  omega
theorem two_pow_pos (n : Nat) : (0 : Int) < 2 ^ n := Int.pow_pos (by omega)
theorem two_pow_le (m : Nat) (d : Nat) : (2 : Int) ^ m ≤ 2 ^ (m + d) := by
  induction d with
  | zero => exact Int.le_refl _
  | succ d ih =>
    have h := two_pow_pos (m + d)
    have e : (2 : Int) ^ (m + (d + 1)) = 2 * 2 ^ (m + d) := by rw [← Nat.add_assoc, Int.pow_succ, Int.mul_comm]
    omega
theorem two_pow_max {m n : Nat} (h : m ≤ n) : (2 : Int) ^ m ≤ 2 ^ n := by
  obtain ⟨d, rfl⟩ : ∃ d, n = m + d := ⟨n - m, by omega⟩
  exact two_pow_le m d
theorem two_pow_62 {m : Nat} (h : m ≤ 62) : (2 : Int) ^ m ≤ 4611686018427387904 := two_pow_max h
theorem two_pow_succ (n : Nat) : (2 : Int) ^ (n + 1) = 2 * 2 ^ n := by rw [Int.pow_succ, Int.mul_comm]
/-- 2 to a fraction. -/
def of2 (f : Int) : Int := 65536 + f * (45613 + f * (14743 + f * 5180 / 65536) / 65536) / 65536
theorem of2_parts (f : Int) (h0 : 0 ≤ f) (h1 : f ≤ 65536) :
    14743 ≤ 14743 + f * 5180 / 65536 ∧ 14743 + f * 5180 / 65536 ≤ 19923 ∧
    45613 ≤ 45613 + f * (14743 + f * 5180 / 65536) / 65536 ∧ 45613 + f * (14743 + f * 5180 / 65536) / 65536 ≤ 65536 ∧
    0 ≤ f * (14743 + f * 5180 / 65536) ∧ f * (14743 + f * 5180 / 65536) ≤ 65536 * 19923 ∧
    0 ≤ f * (45613 + f * (14743 + f * 5180 / 65536) / 65536) ∧ f * (45613 + f * (14743 + f * 5180 / 65536) / 65536) ≤ f * 65536 := by
  have b1 : 14743 ≤ 14743 + f * 5180 / 65536 := by omega
  have b2 : 14743 + f * 5180 / 65536 ≤ 19923 := by omega
  generalize 14743 + f * 5180 / 65536 = B at *
  have c1 : 0 ≤ f * B := Int.mul_nonneg h0 (by omega)
  have c2 : f * B ≤ 65536 * 19923 := Int.mul_le_mul h1 b2 (by omega) (by omega)
  have c3 : 45613 + f * B / 65536 ≤ 65536 := by omega
  have c4 : 45613 ≤ 45613 + f * B / 65536 := by omega
  refine ⟨b1, b2, c4, c3, c1, c2, Int.mul_nonneg h0 (by omega), Int.mul_le_mul_of_nonneg_left c3 h0⟩
theorem of2_range (f : Int) (h0 : 0 ≤ f) (h1 : f ≤ 65536) : 65536 ≤ of2 f ∧ of2 f ≤ 65536 + f := by
  have := of2_parts f h0 h1
  unfold of2
  omega
theorem of2_mono {f g : Int} (h0 : 0 ≤ f) (h : f ≤ g) (h1 : g ≤ 65536) : of2 f ≤ of2 g := by
  have pf := of2_parts f h0 (by omega)
  have pg := of2_parts g (by omega) h1
  unfold of2
  have b : 14743 + f * 5180 / 65536 ≤ 14743 + g * 5180 / 65536 := by omega
  have c : f * (14743 + f * 5180 / 65536) ≤ g * (14743 + g * 5180 / 65536) := Int.mul_le_mul h b (by omega) (by omega)
  have c' : 45613 + f * (14743 + f * 5180 / 65536) / 65536 ≤ 45613 + g * (14743 + g * 5180 / 65536) / 65536 := by omega
  have d : f * (45613 + f * (14743 + f * 5180 / 65536) / 65536) ≤ g * (45613 + g * (14743 + g * 5180 / 65536) / 65536) := Int.mul_le_mul h c' (by omega) (by omega)
  omega
theorem of2_next (f : Int) (h0 : 0 ≤ f) (h1 : f + 1 ≤ 65536) : of2 (f + 1) ≤ of2 f + 5 := by
  have pf := of2_parts f h0 (by omega)
  have pg := of2_parts (f + 1) (by omega) h1
  unfold of2
  have e1 : 14743 + (f + 1) * 5180 / 65536 ≤ 14743 + f * 5180 / 65536 + 1 := by omega
  generalize 14743 + f * 5180 / 65536 = B at *
  generalize 14743 + (f + 1) * 5180 / 65536 = B' at *
  have e2 : (f + 1) * B' ≤ f * B + f + B' := by
    have : (f + 1) * B' = f * B' + B' := by rw [Int.add_mul, Int.one_mul]
    have : f * B' ≤ f * (B + 1) := Int.mul_le_mul_of_nonneg_left e1 h0
    have : f * (B + 1) = f * B + f := by rw [Int.mul_add, Int.mul_one]
    omega
  have e3 : 45613 + (f + 1) * B' / 65536 ≤ 45613 + f * B / 65536 + 2 := by omega
  generalize 45613 + f * B / 65536 = A at *
  generalize 45613 + (f + 1) * B' / 65536 = A' at *
  have e4 : (f + 1) * A' ≤ f * A + 2 * f + A' := by
    have : (f + 1) * A' = f * A' + A' := by rw [Int.add_mul, Int.one_mul]
    have : f * A' ≤ f * (A + 2) := Int.mul_le_mul_of_nonneg_left e3 h0
    have : f * (A + 2) = f * A + 2 * f := by rw [Int.mul_add, Int.mul_comm f 2]
    omega
  omega
/-- The power of a t (n: how far down). -/
def powT (t : Int) : Int := rnd (of2 (t % 65536)) (2 ^ (-(t / 65536)).toNat)
/-- .. with what is too far down cut off. -/
def powC (t : Int) : Int := if -(t / 65536) > 62 then 0 else powT t
theorem rnd_halves (a : Int) (ha : 0 ≤ a) (n k : Nat) : rnd a (2 ^ (n + k)) ≤ rnd a (2 ^ n) := by
  induction k with
  | zero => exact Int.le_refl _
  | succ k ih =>
    refine Int.le_trans ?_ ih
    rw [← Nat.add_assoc, two_pow_succ, ← rnd_two a (2 ^ (n + k)) (two_pow_pos _)]
    exact rnd_mono (by have := two_pow_pos (n + k); omega) (by omega)
theorem powT_mono {t s : Int} (h : t ≤ s) (hs : s ≤ 0) : powT t ≤ powT s := by
  unfold powT
  by_cases he : t / 65536 = s / 65536
  · rw [he]
    exact rnd_mono (two_pow_pos _) (of2_mono (by omega) (by omega) (by omega))
  · obtain ⟨m, hm⟩ : ∃ m : Nat, (-(t / 65536)).toNat = (-(s / 65536)).toNat + m + 1 := ⟨(-(t / 65536)).toNat - (-(s / 65536)).toNat - 1, by omega⟩
    generalize (-(s / 65536)).toNat = n at *
    rw [hm]
    have r1 := of2_range (t % 65536) (by omega) (by omega)
    have r2 := of2_range (s % 65536) (by omega) (by omega)
    calc rnd (of2 (t % 65536)) (2 ^ (n + m + 1)) ≤ rnd (2 * 65536) (2 ^ (n + m + 1)) := rnd_mono (two_pow_pos _) (by omega)
      _ = rnd 65536 (2 ^ (n + m)) := by rw [two_pow_succ, rnd_two _ _ (two_pow_pos _)]
      _ ≤ rnd 65536 (2 ^ n) := rnd_halves _ (by omega) _ _
      _ ≤ rnd (of2 (s % 65536)) (2 ^ n) := rnd_mono (two_pow_pos _) r2.1
theorem powT_range (t : Int) (ht : t ≤ 0) : 0 ≤ powT t ∧ powT t ≤ 65536 := by
  constructor
  · unfold powT
    exact rnd_ge (two_pow_pos _) (by have := of2_range (t % 65536) (by omega) (by omega); omega)
  · have h := powT_mono ht (Int.le_refl 0)
    have : powT 0 = 65536 := by decide +kernel
    omega
theorem powC_range (t : Int) (ht : t ≤ 0) : 0 ≤ powC t ∧ powC t ≤ 65536 := by
  have := powT_range t ht
  unfold powC
  split <;> omega
theorem powT_near (t : Int) : Near (of2 (t % 65536)) (2 ^ (-(t / 65536)).toNat) (powT t) := rnd_near _ _ (two_pow_pos _)
/-- Half as much, one power of two down. -/
theorem halves {p q D a b : Int} (hD : 1 ≤ D) (hpq : p ≤ q) (hq : q ≤ p + 5) (h2 : p = q ∨ 2 ≤ D) (ha : Near p D a) (hb : Near q (2 * D) b) : 2 * b - a ≤ 4 ∧ a - 2 * b ≤ 4 := by
  obtain ⟨a1, a2, -⟩ := ha
  obtain ⟨b1, b2, -⟩ := hb
  have e : b * (2 * D) = 2 * (b * D) := by rw [← Int.mul_assoc, Int.mul_comm b 2, Int.mul_assoc]
  rw [e] at b1 b2
  constructor
  · by_cases h : 2 * b - a ≤ 4
    · exact h
    · exfalso
      have := Int.mul_le_mul_of_nonneg_right (show 5 ≤ 2 * b - a by omega) (show 0 ≤ D by omega)
      rw [Int.sub_mul, Int.mul_assoc] at this
      generalize b * D = x at *
      generalize a * D = y at *
      omega
  · by_cases h : a - 2 * b ≤ 4
    · exact h
    · exfalso
      have := Int.mul_le_mul_of_nonneg_right (show 5 ≤ a - 2 * b by omega) (show 0 ≤ D by omega)
      rw [Int.sub_mul, Int.mul_assoc] at this
      generalize b * D = x at *
      generalize a * D = y at *
      omega
theorem powT_half {t s : Int} (ht : t ≤ -1) (hs : s = t - 65536 ∨ s = t - 65535) : 2 * powT s - powT t ≤ 4 ∧ powT t - 2 * powT s ≤ 4 := by
  have hD : ∃ m : Nat, (-(t / 65536)).toNat = m + 1 := ⟨(-(t / 65536)).toNat - 1, by omega⟩
  obtain ⟨m, hm⟩ := hD
  have hp := two_pow_pos m
  have na := powT_near t
  have nb := powT_near s
  rw [hm, two_pow_succ] at na
  rcases hs with rfl | rfl
  · have e1 : (t - 65536) % 65536 = t % 65536 := by omega
    have e2 : (-((t - 65536) / 65536)).toNat = m + 1 + 1 := by omega
    rw [e1, e2, two_pow_succ, two_pow_succ] at nb
    exact halves (by omega) (Int.le_refl _) (by omega) (Or.inl rfl) na nb
  · by_cases hw : t % 65536 = 65535
    · have e1 : (t - 65535) % 65536 = 0 := by omega
      have e2 : (-((t - 65535) / 65536)).toNat = m + 1 := by omega
      rw [e1, e2, two_pow_succ] at nb
      rw [hw] at na
      have v0 : of2 0 = 65536 := by decide +kernel
      have v1 : of2 65535 = 131069 ∨ of2 65535 = 131070 ∨ of2 65535 = 131071 := by decide +kernel
      rw [v0] at nb
      have nb' : Near 131072 (2 * (2 * 2 ^ m)) (powT (t - 65535)) := by
        obtain ⟨b1, b2, b3⟩ := nb
        unfold Near
        have e : powT (t - 65535) * (2 * (2 * 2 ^ m)) = 2 * (powT (t - 65535) * (2 * 2 ^ m)) := by rw [← Int.mul_assoc, Int.mul_comm _ 2, Int.mul_assoc]
        rw [e]
        generalize powT (t - 65535) * (2 * 2 ^ m) = k at *
        omega
      exact halves (by omega) (by omega) (by omega) (Or.inr (by omega)) na nb'
    · have e1 : (t - 65535) % 65536 = t % 65536 + 1 := by omega
      have e2 : (-((t - 65535) / 65536)).toNat = m + 1 + 1 := by omega
      rw [e1, e2, two_pow_succ, two_pow_succ] at nb
      exact halves (by omega) (of2_mono (by omega) (by omega) (by omega)) (of2_next _ (by omega) (by omega)) (Or.inr (by omega)) na nb
theorem w64 (x : Int) (h0 : -9223372036854775808 ≤ x) (h1 : x ≤ 9223372036854775807) : wrap64 x = x := by unfold wrap64; omega
theorem w32 (x : Int) (h0 : -2147483648 ≤ x) (h1 : x ≤ 2147483647) : wrap32 x = x := by unfold wrap32; omega
theorem w64_sub (a b : Int) : wrap64 (a - wrap64 b) = wrap64 (a - b) := by unfold wrap64; omega
theorem wf32 {x : Int} (h : (Lit.int .i32 x).wf = true) : -2147483648 ≤ x ∧ x ≤ 2147483647 := by
  simp only [Lit.wf, IntKind.min, IntKind.max, IntKind.signed, IntKind.bits, Bool.and_eq_true, decide_eq_true_eq, if_true] at h
  omega
theorem and1 (x : Int) : Go.bits .and .i64 x 1 = x % 2 := by
  have h : (BitVec.ofInt 64 x &&& BitVec.ofInt 64 1).toNat = ((x % 2).toNat) := by
    have e : (BitVec.ofInt 64 1).toNat = 2 ^ 1 - 1 := by decide
    rw [BitVec.toNat_and, e, Nat.and_two_pow_sub_one_eq_mod, BitVec.toNat_ofInt]
    omega
  show IntKind.i64.wrap (((BitVec.ofInt 64 x &&& BitVec.ofInt 64 1).toNat : Nat) : Int) = _
  rw [h, IntKind.wrap_i64]
  omega
theorem div_half (v D : Int) (hD : 2 ≤ D) (h0 : -9223372036854775808 ≤ v) (h1 : v ≤ 9223372036854775807) : -4611686018427387904 ≤ v / D ∧ v / D ≤ 4611686018427387903 := by
  constructor
  · exact Int.le_ediv_of_mul_le (by omega) (by omega)
  · have : v / D < 4611686018427387904 := Int.ediv_lt_of_lt_mul (by omega) (by omega)
    omega
theorem half_core (v : Int) (m : Nat) (hm : m ≤ 62) (h0 : -9223372036854775808 ≤ v) (h1 : v ≤ 9223372036854775807) :
    (if (wrap64 (v - (wrap64 ((v / 2 ^ m) * 2 ^ m)))) > ((wrap64 (2 ^ m)) / 2) then (some (wrap64 ((v / 2 ^ m) + 1))) else (if (wrap64 (v - (wrap64 ((v / 2 ^ m) * 2 ^ m)))) = ((wrap64 (2 ^ m)) / 2) then (if (m : Int) > 0 then (if (v / 2 ^ m) % 2 = 1 then (some (wrap64 ((v / 2 ^ m) + 1))) else (some (v / 2 ^ m))) else (some (v / 2 ^ m))) else (some (v / 2 ^ m)))) = some (rnd v (2 ^ m)) := by
  have hD : (2 : Int) ^ m ≤ 4611686018427387904 := two_pow_62 hm
  have hp := two_pow_pos m
  have e1 := Int.emod_add_mul_ediv v (2 ^ m)
  have e2 := Int.emod_nonneg v (by omega : (2 : Int) ^ m ≠ 0)
  have e3 := Int.emod_lt_of_pos v hp
  have e4 : v - (v / 2 ^ m) * 2 ^ m = v % 2 ^ m := by rw [Int.mul_comm]; omega
  rw [w64_sub, e4, w64 (v % 2 ^ m) (by omega) (by omega), w64 (2 ^ m) (by omega) (by omega)]
  rcases Nat.eq_zero_or_pos m with rfl | hpos
  · have e5 : v % 2 ^ 0 = 0 := by rw [Int.pow_zero]; omega
    rw [e5, Int.pow_zero, Int.ediv_one, rnd_one, if_neg (by decide), if_pos (by decide), if_neg (by decide)]
  · obtain ⟨n, rfl⟩ : ∃ n, m = n + 1 := ⟨m - 1, by omega⟩
    have hq := div_half v (2 ^ (n + 1)) (by have := two_pow_pos n; rw [two_pow_succ]; omega) h0 h1
    rw [w64 (v / 2 ^ (n + 1) + 1) (by omega) (by omega)]
    unfold rnd
    have e6 : (2 : Int) ^ (n + 1) / 2 = 2 ^ n := by rw [two_pow_succ]; omega
    have e7 := two_pow_succ n
    rw [e6]
    generalize v % 2 ^ (n + 1) = r at *
    generalize v / 2 ^ (n + 1) = q at *
    rw [e7]
    generalize (2 : Int) ^ n = d at *
    clear e1 e4 e6
    repeat' split
    all_goals first | rfl | (exfalso; omega)
/-- Half's power. -/
def pw (n : Int) : Nat := (mn (mx n 0) 62).toNat
theorem half_eq (v n : Int) (h0 : -9223372036854775808 ≤ v) (h1 : v ≤ 9223372036854775807) : fix_Half.f v n = some (rnd v (2 ^ pw n)) := by
  have hm : pw n ≤ 62 := by unfold pw mn mx; omega
  have := half_core v (pw n) hm h0 h1
  unfold fix_Half.f
  simp only [and1]
  rw [show (mn (mx n 0) 62 : Int) = (pw n : Int) from by unfold pw mn mx; omega]
  exact this
theorem pw16 : (2 : Int) ^ pw 16 = 65536 := by decide
/-- How many powers of two, with 16 bits behind the point. -/
def tOf (x : Int) : Int := rnd (mn x 0 * 94548) 65536
theorem tOf_range (x : Int) (hx : -2147483648 ≤ x ∧ x ≤ 2147483647) : -3098148864 ≤ tOf x ∧ tOf x ≤ 0 := by
  have h : -2147483648 ≤ mn x 0 ∧ mn x 0 ≤ 0 := by unfold mn; split <;> omega
  unfold tOf
  exact ⟨rnd_ge (by omega) (by omega), rnd_le (by omega) (by omega)⟩
def expI (x : Int) : Int := powC (tOf x)
theorem of2_eq (f : Int) (h0 : 0 ≤ f) (h1 : f ≤ 65536) : expo_of2.f f = some (of2 f) := by
  have p := of2_parts f h0 h1
  unfold expo_of2.f of2
  rw [w64 (f * 5180) (by omega) (by omega), w64 (14743 + f * 5180 / 65536) (by omega) (by omega), w64 (f * (14743 + f * 5180 / 65536)) (by omega) (by omega), w64 (45613 + f * (14743 + f * 5180 / 65536) / 65536) (by omega) (by omega), w64 (f * (45613 + f * (14743 + f * 5180 / 65536) / 65536)) (by omega) (by omega), w64 _ (by omega) (by omega)]
theorem exp_eq (x : Int) (hx : -2147483648 ≤ x ∧ x ≤ 2147483647) : expo_Exp.f x = some (expI x) := by
  have h : -2147483648 ≤ mn x 0 ∧ mn x 0 ≤ 0 := by unfold mn; split <;> omega
  have ht := tOf_range x hx
  unfold expo_Exp.f expI powC powT
  rw [w64 (mn x 0) (by omega) (by omega), w64 (mn x 0 * 94548) (by omega) (by omega), half_eq _ _ (by omega) (by omega), pw16]
  simp only [Option.bind_some]
  rw [show rnd (mn x 0 * 94548) 65536 = tOf x from rfl]
  generalize tOf x = t at *
  rw [w64 (-(t / 65536)) (by omega) (by omega), w64 (t / 65536 * 65536) (by omega) (by omega), show t - t / 65536 * 65536 = t % 65536 from by omega, w64 (t % 65536) (by omega) (by omega)]
  by_cases c : -(t / 65536) > 62
  · rw [if_pos c, if_pos c]
  · rw [if_neg c, if_neg c, of2_eq _ (by omega) (by omega)]
    simp only [Option.bind_some]
    have r := of2_range (t % 65536) (by omega) (by omega)
    rw [half_eq _ _ (by omega) (by omega), show pw (-(t / 65536)) = (-(t / 65536)).toNat from by unfold pw mn mx; (repeat' split) <;> omega]
    rfl
theorem expI_range (x : Int) (hx : -2147483648 ≤ x ∧ x ≤ 2147483647) : 0 ≤ expI x ∧ expI x ≤ 65536 := powC_range _ (tOf_range x hx).2
end Cz

theorem ExpoHalves : credenzalaw02_ExpoHalves.Pure := by
  intro x hx
  have hx := Cz.wf32 hx
  refine ⟨101, ?_⟩
  have aw : credenzalaw02_awake.f 100 = some true := by decide +kernel
  have J : credenzalaw02_ExpoHalves.j0 101 x true = some true := by
    simp only [credenzalaw02_ExpoHalves.j0]
    rw [if_pos trivial, aw]; rfl
  unfold credenzalaw02_ExpoHalves.f
  by_cases c0 : x > 0
  · rw [if_pos c0]; exact J
  rw [if_neg c0]
  by_cases c1 : x < -1048576
  · rw [show decide (x < (-1048576)) = true from by simpa using c1]; exact J
  rw [show decide (x < (-1048576)) = false from by simpa using c1]
  simp only [credenzalaw02_ExpoHalves.j0]
  rw [if_neg (by decide), Cz.w32 (x - 45426) (by omega) (by omega), Cz.exp_eq x hx, Cz.exp_eq (x - 45426) (by omega), aw]
  simp only [Option.bind_some]
  have r1 := Cz.expI_range x hx
  have r2 := Cz.expI_range (x - 45426) (by omega)
  have key : 2 * Cz.expI (x - 45426) - Cz.expI x ≤ 4 ∧ Cz.expI x - 2 * Cz.expI (x - 45426) ≤ 4 := by
    by_cases h0 : x = 0
    · subst h0; decide +kernel
    · have t0 := Cz.tOf_range x hx
      have t1 := Cz.tOf_range (x - 45426) (by omega)
      have m0 : mn x 0 = x := by unfold mn; split <;> omega
      have m1 : mn (x - 45426) 0 = x - 45426 := by unfold mn; split <;> omega
      obtain ⟨a1, a2, -⟩ := Cz.rnd_near (x * 94548) 65536 (by omega)
      obtain ⟨b1, b2, -⟩ := Cz.rnd_near ((x - 45426) * 94548) 65536 (by omega)
      have e0 : Cz.tOf x = Cz.rnd (x * 94548) 65536 := by unfold Cz.tOf; rw [m0]
      have e1 : Cz.tOf (x - 45426) = Cz.rnd ((x - 45426) * 94548) 65536 := by unfold Cz.tOf; rw [m1]
      rw [← e0] at a1 a2
      rw [← e1] at b1 b2
      have n0 : Cz.tOf x ≤ -1 := by omega
      have n1 : Cz.tOf x ≥ -1600000 := by omega
      have hs : Cz.tOf (x - 45426) = Cz.tOf x - 65536 ∨ Cz.tOf (x - 45426) = Cz.tOf x - 65535 := by omega
      have hh := Cz.powT_half n0 hs
      unfold Cz.expI Cz.powC
      rw [if_neg (by omega), if_neg (by omega)]
      exact hh
  rw [Cz.w64 (2 * Cz.expI (x - 45426)) (by omega) (by omega), Cz.w64 (2 * Cz.expI (x - 45426) - Cz.expI x) (by omega) (by omega), Cz.w64 (Cz.expI x - 2 * Cz.expI (x - 45426)) (by omega) (by omega), if_pos key.1, if_pos key.2]

end Go.Proofs.Ytmndomlpdajjmaa.Pure
