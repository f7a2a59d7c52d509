/- A greater score never has a lesser weight; the order of the lists plays no part in the mean. No condition: for every input. -/
import Derived.Test.YtmndomlpdajjmacSox0
import Derived.Test.YtmndomlpdajjmacSox1
import Derived.Test.YtmndomlpdajjmacSox2
import Derived.Test.YtmndomlpdajjmacSox3
import Derived.Test.YtmndomlpdajjmacSox4
import Derived.Test.YtmndomlpdajjmacSox5
import Derived.Test.YtmndomlpdajjmacSox6
set_option linter.unusedVariables false
set_option linter.unusedSimpArgs false
namespace Go.Proofs.Ytmndomlpdajjmac.Pure
open Go.RowKit Go.Proofs.Ytmndomlpdajjmac.So Go.Proofs.YtmndomlpdajjmacW.PrintWords Go.Proofs.YtmndomlpdajjmacW.PrintLast
namespace Cz

/-- Divided by d, rounded, a half to the even one. -/
def rnd (a d : Int) : Int :=
  if a % d > d - a % d then a / d + 1 else if a % d = d - a % d ∧ (a / d) % 2 = 1 then a / d + 1 else a / d
/-- What is promised of a rounded fraction. -/
def Near (a d r : Int) : Prop := 2 * (a - r * d) ≤ d ∧ -d ≤ 2 * (a - r * d) ∧ ((2 * (a - r * d) = d ∨ 2 * (a - r * d) = -d) → r % 2 = 0)
theorem rnd_near (a d : Int) (hd : 0 < d) : Near a d (rnd a d) := by
  have h1 := Int.emod_add_mul_ediv a d
  have h2 := Int.emod_nonneg a (by omega : d ≠ 0)
  have h3 := Int.emod_lt_of_pos a hd
  unfold Near rnd
  generalize a % d = m at *
  generalize a / d = q at *
  have e1 : (q + 1) * d = d * q + d := by rw [Int.add_mul, Int.one_mul, Int.mul_comm]
  have e2 : q * d = d * q := Int.mul_comm _ _
  generalize hk : d * q = k at *
  split
  · rw [e1]; omega
  · split
    · rw [e1]; omega
    · rw [e2]; omega
theorem near_le {a b d r s : Int} (hd : 0 < d) (ha : Near a d r) (hb : Near b d s) (h : a ≤ b) : r ≤ s := by
  obtain ⟨a1, a2, a3⟩ := ha
  obtain ⟨b1, b2, b3⟩ := hb
  by_cases hlt : s < r
  · exfalso
    obtain ⟨k, rfl⟩ : ∃ k : Int, r = s + 1 + k := ⟨r - s - 1, by omega⟩
    have hk : 0 ≤ k := by omega
    have e1 : (s + 1 + k) * d = s * d + d + k * d := by rw [Int.add_mul, Int.add_mul, Int.one_mul]
    rw [e1] at a1 a2 a3
    have hkd : 0 ≤ k * d := Int.mul_nonneg hk (by omega)
    generalize s * d = sd at *
    by_cases h0 : k = 0
    · subst h0
      rw [Int.zero_mul] at *
      have := a3 (by omega)
      have := b3 (by omega)
      omega
    · have : d ≤ k * d := by
        have := Int.mul_le_mul_of_nonneg_right (show (1 : Int) ≤ k by omega) (show 0 ≤ d by omega)
        omega
      generalize k * d = kd at *
      omega
  · omega
theorem near_unique {a d r s : Int} (hd : 0 < d) (ha : Near a d r) (hb : Near a d s) : r = s :=
  Int.le_antisymm (near_le hd ha hb (Int.le_refl a)) (near_le hd hb ha (Int.le_refl a))
theorem rnd_unique {a d r : Int} (hd : 0 < d) (h : Near a d r) : rnd a d = r := near_unique hd (rnd_near a d hd) h
theorem rnd_mono {a b d : Int} (hd : 0 < d) (h : a ≤ b) : rnd a d ≤ rnd b d := near_le hd (rnd_near a d hd) (rnd_near b d hd) h
theorem rnd_mul (q d : Int) (hd : 0 < d) : rnd (q * d) d = q := by
  apply rnd_unique hd
  unfold Near
  rw [Int.sub_self]
  omega
theorem rnd_ge {a d q : Int} (hd : 0 < d) (h : q * d ≤ a) : q ≤ rnd a d := by
  have := rnd_mono hd h
  rwa [rnd_mul q d hd] at this
theorem rnd_le {a d q : Int} (hd : 0 < d) (h : a ≤ q * d) : rnd a d ≤ q := by
  have := rnd_mono hd h
  rwa [rnd_mul q d hd] at this
theorem rnd_one (a : Int) : rnd a 1 = a := by
  have := rnd_mul a 1 (by omega)
  rwa [Int.mul_one] at this
theorem rnd_two (a d : Int) (hd : 0 < d) : rnd (2 * a) (2 * d) = rnd a d := by
  apply rnd_unique (by omega)
  obtain ⟨h1, h2, h3⟩ := rnd_near a d hd
  unfold Near
  have e : rnd a d * (2 * d) = 2 * (rnd a d * d) := by rw [← Int.mul_assoc, Int.mul_comm (rnd a d) 2, Int.mul_assoc]
  rw [e]
  generalize rnd a d * d = k at *
  omega
theorem two_pow_pos (n : Nat) : (0 : Int) < 2 ^ n := Int.pow_pos (by omega)
theorem two_pow_le (m : Nat) (d : Nat) : (2 : Int) ^ m ≤ 2 ^ (m + d) := by
  induction d with
  | zero => exact Int.le_refl _
  | succ d ih =>
    have h := two_pow_pos (m + d)
    have e : (2 : Int) ^ (m + (d + 1)) = 2 * 2 ^ (m + d) := by rw [← Nat.add_assoc, Int.pow_succ, Int.mul_comm]
    omega
theorem two_pow_max {m n : Nat} (h : m ≤ n) : (2 : Int) ^ m ≤ 2 ^ n := by
  obtain ⟨d, rfl⟩ : ∃ d, n = m + d := ⟨n - m, by omega⟩
  exact two_pow_le m d
theorem two_pow_62 {m : Nat} (h : m ≤ 62) : (2 : Int) ^ m ≤ 4611686018427387904 := two_pow_max h
theorem two_pow_61 {m : Nat} (h : m ≤ 61) : (2 : Int) ^ m ≤ 2305843009213693952 := two_pow_max h
theorem two_pow_succ (n : Nat) : (2 : Int) ^ (n + 1) = 2 * 2 ^ n := by rw [Int.pow_succ, Int.mul_comm]
/-- 2 to a fraction. -/
def of2 (f : Int) : Int := 65536 + f * (45613 + f * (14743 + f * 5180 / 65536) / 65536) / 65536
theorem of2_parts (f : Int) (h0 : 0 ≤ f) (h1 : f ≤ 65536) :
    14743 ≤ 14743 + f * 5180 / 65536 ∧ 14743 + f * 5180 / 65536 ≤ 19923 ∧
    45613 ≤ 45613 + f * (14743 + f * 5180 / 65536) / 65536 ∧ 45613 + f * (14743 + f * 5180 / 65536) / 65536 ≤ 65536 ∧
    0 ≤ f * (14743 + f * 5180 / 65536) ∧ f * (14743 + f * 5180 / 65536) ≤ 65536 * 19923 ∧
    0 ≤ f * (45613 + f * (14743 + f * 5180 / 65536) / 65536) ∧ f * (45613 + f * (14743 + f * 5180 / 65536) / 65536) ≤ f * 65536 := by
  have b1 : 14743 ≤ 14743 + f * 5180 / 65536 := by omega
  have b2 : 14743 + f * 5180 / 65536 ≤ 19923 := by omega
  generalize 14743 + f * 5180 / 65536 = B at *
  have c1 : 0 ≤ f * B := Int.mul_nonneg h0 (by omega)
  have c2 : f * B ≤ 65536 * 19923 := Int.mul_le_mul h1 b2 (by omega) (by omega)
  have c3 : 45613 + f * B / 65536 ≤ 65536 := by omega
  have c4 : 45613 ≤ 45613 + f * B / 65536 := by omega
  refine ⟨b1, b2, c4, c3, c1, c2, Int.mul_nonneg h0 (by omega), Int.mul_le_mul_of_nonneg_left c3 h0⟩
theorem of2_range (f : Int) (h0 : 0 ≤ f) (h1 : f ≤ 65536) : 65536 ≤ of2 f ∧ of2 f ≤ 65536 + f := by
  have := of2_parts f h0 h1
  unfold of2
  omega
theorem of2_mono {f g : Int} (h0 : 0 ≤ f) (h : f ≤ g) (h1 : g ≤ 65536) : of2 f ≤ of2 g := by
  have pf := of2_parts f h0 (by omega)
  have pg := of2_parts g (by omega) h1
  unfold of2
  have b : 14743 + f * 5180 / 65536 ≤ 14743 + g * 5180 / 65536 := by omega
  have c : f * (14743 + f * 5180 / 65536) ≤ g * (14743 + g * 5180 / 65536) := Int.mul_le_mul h b (by omega) (by omega)
  have c' : 45613 + f * (14743 + f * 5180 / 65536) / 65536 ≤ 45613 + g * (14743 + g * 5180 / 65536) / 65536 := by omega
  have d : f * (45613 + f * (14743 + f * 5180 / 65536) / 65536) ≤ g * (45613 + g * (14743 + g * 5180 / 65536) / 65536) := Int.mul_le_mul h c' (by omega) (by omega)
  omega
/-- The power of a t (n: how far down). -/
def powT (t : Int) : Int := rnd (of2 (t % 65536)) (2 ^ (-(t / 65536)).toNat)
/-- .. with what is too far down cut off. -/
def powC (t : Int) : Int := if -(t / 65536) > 62 then 0 else powT t
theorem rnd_halves (a : Int) (ha : 0 ≤ a) (n k : Nat) : rnd a (2 ^ (n + k)) ≤ rnd a (2 ^ n) := by
  induction k with
  | zero => exact Int.le_refl _
  | succ k ih =>
    refine Int.le_trans ?_ ih
    rw [← Nat.add_assoc, two_pow_succ, ← rnd_two a (2 ^ (n + k)) (two_pow_pos _)]
    exact rnd_mono (by have := two_pow_pos (n + k); omega) (by omega)
theorem powT_mono {t s : Int} (h : t ≤ s) (hs : s ≤ 0) : powT t ≤ powT s := by
  unfold powT
  by_cases he : t / 65536 = s / 65536
  · rw [he]
    exact rnd_mono (two_pow_pos _) (of2_mono (by omega) (by omega) (by omega))
  · obtain ⟨m, hm⟩ : ∃ m : Nat, (-(t / 65536)).toNat = (-(s / 65536)).toNat + m + 1 := ⟨(-(t / 65536)).toNat - (-(s / 65536)).toNat - 1, by omega⟩
    generalize (-(s / 65536)).toNat = n at *
    rw [hm]
    have r1 := of2_range (t % 65536) (by omega) (by omega)
    have r2 := of2_range (s % 65536) (by omega) (by omega)
    calc rnd (of2 (t % 65536)) (2 ^ (n + m + 1)) ≤ rnd (2 * 65536) (2 ^ (n + m + 1)) := rnd_mono (two_pow_pos _) (by omega)
      _ = rnd 65536 (2 ^ (n + m)) := by rw [two_pow_succ, rnd_two _ _ (two_pow_pos _)]
      _ ≤ rnd 65536 (2 ^ n) := rnd_halves _ (by omega) _ _
      _ ≤ rnd (of2 (s % 65536)) (2 ^ n) := rnd_mono (two_pow_pos _) r2.1
theorem powT_range (t : Int) (ht : t ≤ 0) : 0 ≤ powT t ∧ powT t ≤ 65536 := by
  constructor
  · unfold powT
    exact rnd_ge (two_pow_pos _) (by have := of2_range (t % 65536) (by omega) (by omega); omega)
  · have h := powT_mono ht (Int.le_refl 0)
    have : powT 0 = 65536 := by decide +kernel
    omega
theorem powC_mono {t s : Int} (h : t ≤ s) (hs : s ≤ 0) : powC t ≤ powC s := by
  have := powT_mono h hs
  have := powT_range s hs
  unfold powC
  split <;> split <;> omega
theorem w64 (x : Int) (h0 : -9223372036854775808 ≤ x) (h1 : x ≤ 9223372036854775807) : wrap64 x = x := by unfold wrap64; omega
theorem w32 (x : Int) (h0 : -2147483648 ≤ x) (h1 : x ≤ 2147483647) : wrap32 x = x := by unfold wrap32; omega
theorem w64_sub (a b : Int) : wrap64 (a - wrap64 b) = wrap64 (a - b) := by unfold wrap64; omega
theorem wf32 {x : Int} (h : (Lit.int .i32 x).wf = true) : -2147483648 ≤ x ∧ x ≤ 2147483647 := by
  simp only [Lit.wf, IntKind.min, IntKind.max, IntKind.signed, IntKind.bits, Bool.and_eq_true, decide_eq_true_eq, if_true] at h
  omega
theorem and1 (x : Int) : Go.bits .and .i64 x 1 = x % 2 := by
  have h : (BitVec.ofInt 64 x &&& BitVec.ofInt 64 1).toNat = ((x % 2).toNat) := by
    have e : (BitVec.ofInt 64 1).toNat = 2 ^ 1 - 1 := by decide
    rw [BitVec.toNat_and, e, Nat.and_two_pow_sub_one_eq_mod, BitVec.toNat_ofInt]
    omega
  show IntKind.i64.wrap (((BitVec.ofInt 64 x &&& BitVec.ofInt 64 1).toNat : Nat) : Int) = _
  rw [h, IntKind.wrap_i64]
  omega
theorem mul_bound {a b A B : Int} (ha : -A ≤ a) (ha' : a ≤ A) (hb : -B ≤ b) (hb' : b ≤ B) : -(A * B) ≤ a * b ∧ a * b ≤ A * B := by
  have h1 : 0 ≤ (A - a) * (B + b) := Int.mul_nonneg (by omega) (by omega)
  have h2 : 0 ≤ (A + a) * (B - b) := Int.mul_nonneg (by omega) (by omega)
  have h3 : 0 ≤ (A - a) * (B - b) := Int.mul_nonneg (by omega) (by omega)
  have h4 : 0 ≤ (A + a) * (B + b) := Int.mul_nonneg (by omega) (by omega)
  simp only [Int.sub_mul, Int.mul_sub, Int.add_mul, Int.mul_add] at h1 h2 h3 h4
  generalize A * B = p at *
  generalize a * b = q at *
  generalize A * b = r at *
  generalize a * B = s at *
  omega
theorem div_bound (v D : Int) (hD : 1 ≤ D) : (0 ≤ v → 0 ≤ v / D ∧ v / D ≤ v) ∧ (v < 0 → v ≤ v / D ∧ v / D < 0) := by
  have h1 := Int.emod_add_mul_ediv v D
  have h2 := Int.emod_nonneg v (by omega : D ≠ 0)
  have h3 := Int.emod_lt_of_pos v (by omega : 0 < D)
  constructor
  · intro h
    exact ⟨Int.ediv_nonneg h (by omega), Int.ediv_le_self D h⟩
  · intro h
    have hn : v / D < 0 := Int.ediv_neg_of_neg_of_pos h (by omega)
    have : (v / D + 1) * (D - 1) ≤ 0 := Int.mul_nonpos_of_nonpos_of_nonneg (by omega) (by omega)
    rw [Int.mul_sub, Int.mul_one, Int.add_mul, Int.one_mul, Int.mul_comm (v / D)] at this
    omega
theorem div_half (v D : Int) (hD : 2 ≤ D) (h0 : -9223372036854775808 ≤ v) (h1 : v ≤ 9223372036854775807) : -4611686018427387904 ≤ v / D ∧ v / D ≤ 4611686018427387903 := by
  constructor
  · exact Int.le_ediv_of_mul_le (by omega) (by omega)
  · have : v / D < 4611686018427387904 := Int.ediv_lt_of_lt_mul (by omega) (by omega)
    omega
/-- Cut to a range. -/
def cutI (v lo hi : Int) : Int := if v < lo then lo else if v > hi then hi else v
def wide (v : Int) : Int := cutI v (-2147483648) 2147483647
def narrow (v : Int) : Int := cutI v (-8388608) 8388608
theorem wide_range (v : Int) : -2147483648 ≤ wide v ∧ wide v ≤ 2147483647 := by unfold wide cutI; omega
theorem cut_eq (v lo hi : Int) (h0 : -2147483648 ≤ lo) (h1 : lo ≤ hi) (h2 : hi ≤ 2147483647) : fix_cut.f v lo hi = some (cutI v lo hi) := by
  unfold fix_cut.f cutI mn mx wrap32
  congr 1
  split <;> split <;> (try split) <;> (try split) <;> omega
theorem wide_eq (v : Int) : fix_Wide.f v = some (wide v) := by
  unfold fix_Wide.f
  rw [cut_eq _ _ _ (by omega) (by omega) (by omega)]; rfl
theorem narrow_eq (v : Int) : fix_Narrow.f v = some (narrow v) := by
  unfold fix_Narrow.f
  rw [cut_eq _ _ _ (by omega) (by omega) (by omega)]; rfl
theorem half_core (v : Int) (m : Nat) (hm : m ≤ 62) (h0 : -9223372036854775808 ≤ v) (h1 : v ≤ 9223372036854775807) :
    (if (wrap64 (v - (wrap64 ((v / 2 ^ m) * 2 ^ m)))) > ((wrap64 (2 ^ m)) / 2) then (some (wrap64 ((v / 2 ^ m) + 1))) else (if (wrap64 (v - (wrap64 ((v / 2 ^ m) * 2 ^ m)))) = ((wrap64 (2 ^ m)) / 2) then (if (m : Int) > 0 then (if (v / 2 ^ m) % 2 = 1 then (some (wrap64 ((v / 2 ^ m) + 1))) else (some (v / 2 ^ m))) else (some (v / 2 ^ m))) else (some (v / 2 ^ m)))) = some (rnd v (2 ^ m)) := by
  have hD : (2 : Int) ^ m ≤ 4611686018427387904 := two_pow_62 hm
  have hp := two_pow_pos m
  have e1 := Int.emod_add_mul_ediv v (2 ^ m)
  have e2 := Int.emod_nonneg v (by omega : (2 : Int) ^ m ≠ 0)
  have e3 := Int.emod_lt_of_pos v hp
  have e4 : v - (v / 2 ^ m) * 2 ^ m = v % 2 ^ m := by rw [Int.mul_comm]; omega
  rw [w64_sub, e4, w64 (v % 2 ^ m) (by omega) (by omega), w64 (2 ^ m) (by omega) (by omega)]
  rcases Nat.eq_zero_or_pos m with rfl | hpos
  · have e5 : v % 2 ^ 0 = 0 := by rw [Int.pow_zero]; omega
    rw [e5, Int.pow_zero, Int.ediv_one, rnd_one, if_neg (by decide), if_pos (by decide), if_neg (by decide)]
  · obtain ⟨n, rfl⟩ : ∃ n, m = n + 1 := ⟨m - 1, by omega⟩
    have hq := div_half v (2 ^ (n + 1)) (by have := two_pow_pos n; rw [two_pow_succ]; omega) h0 h1
    rw [w64 (v / 2 ^ (n + 1) + 1) (by omega) (by omega)]
    unfold rnd
    have e6 : (2 : Int) ^ (n + 1) / 2 = 2 ^ n := by rw [two_pow_succ]; omega
    have e7 := two_pow_succ n
    rw [e6]
    generalize v % 2 ^ (n + 1) = r at *
    generalize v / 2 ^ (n + 1) = q at *
    rw [e7]
    generalize (2 : Int) ^ n = d at *
    clear e1 e4 e6
    repeat' split
    all_goals first | rfl | (exfalso; omega)
/-- Half's power. -/
def pw (n : Int) : Nat := (mn (mx n 0) 62).toNat
theorem half_eq (v n : Int) (h0 : -9223372036854775808 ≤ v) (h1 : v ≤ 9223372036854775807) : fix_Half.f v n = some (rnd v (2 ^ pw n)) := by
  have hm : pw n ≤ 62 := by unfold pw mn mx; omega
  have := half_core v (pw n) hm h0 h1
  unfold fix_Half.f
  simp only [and1]
  rw [show (mn (mx n 0) 62 : Int) = (pw n : Int) from by unfold pw mn mx; omega]
  exact this
theorem tdiv_eq (a b : Int) (hb : 0 < b) : Int.tdiv a b = if a < 0 ∧ a % b ≠ 0 then a / b + 1 else a / b := by
  rw [Int.tdiv_eq_ediv]
  have hs : b.sign = 1 := Int.sign_eq_one_of_pos hb
  have hd : b ∣ a ↔ a % b = 0 := ⟨Int.emod_eq_zero_of_dvd, Int.dvd_of_emod_eq_zero⟩
  by_cases c : a < 0 ∧ a % b ≠ 0
  · rw [if_pos c, if_neg (by rw [hd]; omega), hs]
  · rw [if_neg c, if_pos (by rw [hd]; omega)]; omega
theorem tmod_eq (a b : Int) (hb : 0 < b) : Int.tmod a b = if a < 0 ∧ a % b ≠ 0 then a % b - b else a % b := by
  have h1 := Int.tmod_add_mul_tdiv a b
  have h2 := Int.emod_add_mul_ediv a b
  rw [tdiv_eq a b hb] at h1
  split at h1
  · rename_i c
    rw [if_pos c]
    rw [Int.mul_add, Int.mul_one] at h1
    omega
  · rename_i c
    rw [if_neg c]
    omega
theorem ratio_eq (a b : Int) (h0 : -9223372036854775808 ≤ a) (h1 : a ≤ 9223372036854775807) (hb : 0 < b) (hb1 : b ≤ 9223372036854775807) : fix_Ratio.f a b = some (rnd a b) := by
  have e2 := Int.emod_nonneg a (by omega : b ≠ 0)
  have e3 := Int.emod_lt_of_pos a hb
  have hq := div_bound a b (by omega)
  have hq2 := fun h => div_half a b h h0 h1
  unfold fix_Ratio.f rnd
  rw [if_neg (by omega), if_neg (by omega), tdiv_eq a b hb, tmod_eq a b hb]
  simp only [and1]
  generalize a % b = r at *
  generalize a / b = q at *
  by_cases c : a < 0 ∧ r ≠ 0
  · rw [if_pos c, if_pos c, if_pos (by omega), w64 (q + 1) (by omega) (by omega), show q + 1 - 1 = q from by omega, w64 q (by omega) (by omega), show r - b + b = r from by omega, w64 r (by omega) (by omega), w64 (b - r) (by omega) (by omega), w64 (q + 1) (by omega) (by omega)]
    repeat' split
    all_goals first | rfl | (exfalso; omega)
  · rw [if_neg c, if_neg c, if_neg (by omega), w64 q (by omega) (by omega), w64 (b - r) (by omega) (by omega)]
    by_cases c1 : 2 ≤ b
    · rw [w64 (q + 1) (by omega) (by omega)]
      repeat' split
      all_goals first | rfl | (exfalso; omega)
    · repeat' split
      all_goals first | rfl | (exfalso; omega)
theorem sub_eq (a b : Int) (ha : -2147483648 ≤ a ∧ a ≤ 2147483647) (hb : -2147483648 ≤ b ∧ b ≤ 2147483647) : fix_Sub.f a b = some (wide (a - b)) := by
  unfold fix_Sub.f
  rw [w64 a (by omega) (by omega), w64 b (by omega) (by omega), w64 (a - b) (by omega) (by omega), wide_eq]; rfl
theorem pw16 : (2 : Int) ^ pw 16 = 65536 := by decide
theorem rfloor_eq (a b : Int) (h0 : -9223372036854775808 ≤ a) (h1 : a ≤ 9223372036854775807) (hb : 0 < b) : credenzaref01_Floor.f a b = some (a / b) := by
  have e1 := Int.emod_add_mul_ediv a b
  have e2 := Int.emod_nonneg a (by omega : b ≠ 0)
  have e3 := Int.emod_lt_of_pos a hb
  have hq := div_bound a b (by omega)
  have hn : a < 0 → (a / b + 1) * b ≤ 0 := fun h => Int.mul_nonpos_of_nonpos_of_nonneg (by omega) (by omega)
  have hz : 0 ≤ a → 0 ≤ b * (a / b) := fun h => Int.mul_nonneg (by omega) (hq.1 h).1
  have ep : (a / b + 1) * b = b * (a / b) + b := by rw [Int.add_mul, Int.one_mul, Int.mul_comm]
  have eq' : a / b * b = b * (a / b) := Int.mul_comm _ _
  unfold credenzaref01_Floor.f
  rw [if_neg (by omega), tdiv_eq a b hb]
  by_cases c : a < 0 ∧ a % b ≠ 0
  · have := hn c.1
    rw [if_pos c, w64 (a / b + 1) (by omega) (by omega), ep, w64 (b * (a / b) + b) (by omega) (by omega), if_pos (by omega), show a / b + 1 - 1 = a / b from by omega, w64 _ (by omega) (by omega)]
  · rw [if_neg c, w64 (a / b) (by omega) (by omega), eq', w64 (b * (a / b)) (by omega) (by omega), if_neg (by omega)]
theorem rratio_eq (a b : Int) (h0 : -9223372036854775808 ≤ a) (h1 : a ≤ 9223372036854775807) (hb : 0 < b) (hb1 : b ≤ 9223372036854775807) : credenzaref01_Ratio.f a b = some (rnd a b) := by
  have e1 := Int.emod_add_mul_ediv a b
  have e2 := Int.emod_nonneg a (by omega : b ≠ 0)
  have e3 := Int.emod_lt_of_pos a hb
  have hq := div_bound a b (by omega)
  have hq2 := fun h => div_half a b h h0 h1
  have e4 : a - (a / b) * b = a % b := by rw [Int.mul_comm]; omega
  unfold credenzaref01_Ratio.f rnd
  rw [rfloor_eq a b h0 h1 hb]
  simp only [Option.bind_some]
  rw [w64_sub, e4, w64 (a % b) (by omega) (by omega), w64 (b - a % b) (by omega) (by omega), tmod_eq _ 2 (by omega)]
  generalize a % b = r at *
  generalize a / b = q at *
  by_cases c1 : 2 ≤ b
  · rw [w64 (q + 1) (by omega) (by omega)]
    repeat' split
    all_goals first | rfl | (exfalso; omega)
  · repeat' split
    all_goals first | rfl | (exfalso; omega)
theorem rcut_eq (v lo hi : Int) : credenzaref01_Cut.f v lo hi = some (cutI v lo hi) := by
  unfold credenzaref01_Cut.f cutI
  split
  · rfl
  · split <;> rfl
theorem rpower_loop (n : Nat) (hn : n ≤ 62) (d : Nat) : ∀ (k i : Nat), i + d = n → d < k → credenzaref01_Power.l0 k (n : Int) (2 ^ i) (i : Int) = some (2 ^ n) := by
  induction d with
  | zero =>
    intro k i h hk
    obtain ⟨k, rfl⟩ : ∃ m, k = m + 1 := ⟨k - 1, by omega⟩
    obtain rfl : i = n := by omega
    simp only [credenzaref01_Power.l0]; rw [if_neg (by omega)]
  | succ d ih =>
    intro k i h hk
    obtain ⟨k, rfl⟩ : ∃ m, k = m + 1 := ⟨k - 1, by omega⟩
    have hD : (2 : Int) ^ i ≤ 2305843009213693952 := two_pow_61 (by omega)
    have hp := two_pow_pos i
    simp only [credenzaref01_Power.l0]
    rw [if_pos (by omega), w64 (2 ^ i * 2) (by omega) (by omega), w64 ((i : Int) + 1) (by omega) (by omega), show (2 : Int) ^ i * 2 = 2 ^ (i + 1) from by rw [two_pow_succ, Int.mul_comm], show (i : Int) + 1 = ((i + 1 : Nat) : Int) from by omega]
    exact ih k (i + 1) (by omega) (by omega)
theorem rpower_eq (n : Nat) (hn : n ≤ 62) (k : Nat) (hk : 63 ≤ k) : credenzaref01_Power.f k (n : Int) = some (2 ^ n) := by
  unfold credenzaref01_Power.f
  exact rpower_loop n hn n k 0 (by omega) (by omega)
theorem rhalf_eq (v n : Int) (h0 : -9223372036854775808 ≤ v) (h1 : v ≤ 9223372036854775807) (k : Nat) (hk : 63 ≤ k) : credenzaref01_Half.f k v n = some (rnd v (2 ^ pw n)) := by
  have hm : pw n ≤ 62 := by unfold pw mn mx; omega
  have hD : (2 : Int) ^ pw n ≤ 4611686018427387904 := two_pow_62 hm
  have hc : cutI n 0 62 = (pw n : Int) := by unfold pw mn mx cutI; omega
  unfold credenzaref01_Half.f
  rw [rcut_eq, hc]
  simp only [Option.bind_some]
  rw [rpower_eq _ hm k hk]
  simp only [Option.bind_some]
  rw [rratio_eq v _ h0 h1 (two_pow_pos _) (by omega)]
  rfl
theorem rwide_eq (v : Int) : credenzaref01_Wide.f v = some (wide v) := by
  have := wide_range v
  unfold credenzaref01_Wide.f
  rw [rcut_eq]
  show some (wrap32 (wide v)) = some (wide v)
  rw [w32 _ this.1 this.2]
/-- How many powers of two, with 16 bits behind the point. -/
def tOf (x : Int) : Int := rnd (mn x 0 * 94548) 65536
theorem tOf_range (x : Int) (hx : -2147483648 ≤ x ∧ x ≤ 2147483647) : -3098148864 ≤ tOf x ∧ tOf x ≤ 0 := by
  have h : -2147483648 ≤ mn x 0 ∧ mn x 0 ≤ 0 := by unfold mn; split <;> omega
  unfold tOf
  exact ⟨rnd_ge (by omega) (by omega), rnd_le (by omega) (by omega)⟩
theorem tOf_mono {x y : Int} (h : x ≤ y) : tOf x ≤ tOf y := by
  have h : mn x 0 ≤ mn y 0 := by unfold mn; split <;> split <;> omega
  exact rnd_mono (by omega) (by omega)
def expI (x : Int) : Int := powC (tOf x)
theorem of2_eq (f : Int) (h0 : 0 ≤ f) (h1 : f ≤ 65536) : expo_of2.f f = some (of2 f) := by
  have p := of2_parts f h0 h1
  unfold expo_of2.f of2
  rw [w64 (f * 5180) (by omega) (by omega), w64 (14743 + f * 5180 / 65536) (by omega) (by omega), w64 (f * (14743 + f * 5180 / 65536)) (by omega) (by omega), w64 (45613 + f * (14743 + f * 5180 / 65536) / 65536) (by omega) (by omega), w64 (f * (45613 + f * (14743 + f * 5180 / 65536) / 65536)) (by omega) (by omega), w64 _ (by omega) (by omega)]
theorem exp_eq (x : Int) (hx : -2147483648 ≤ x ∧ x ≤ 2147483647) : expo_Exp.f x = some (expI x) := by
  have h : -2147483648 ≤ mn x 0 ∧ mn x 0 ≤ 0 := by unfold mn; split <;> omega
  have ht := tOf_range x hx
  unfold expo_Exp.f expI powC powT
  rw [w64 (mn x 0) (by omega) (by omega), w64 (mn x 0 * 94548) (by omega) (by omega), half_eq _ _ (by omega) (by omega), pw16]
  simp only [Option.bind_some]
  rw [show rnd (mn x 0 * 94548) 65536 = tOf x from rfl]
  generalize tOf x = t at *
  rw [w64 (-(t / 65536)) (by omega) (by omega), w64 (t / 65536 * 65536) (by omega) (by omega), show t - t / 65536 * 65536 = t % 65536 from by omega, w64 (t % 65536) (by omega) (by omega)]
  by_cases c : -(t / 65536) > 62
  · rw [if_pos c, if_pos c]
  · rw [if_neg c, if_neg c, of2_eq _ (by omega) (by omega)]
    simp only [Option.bind_some]
    have r := of2_range (t % 65536) (by omega) (by omega)
    rw [half_eq _ _ (by omega) (by omega), show pw (-(t / 65536)) = (-(t / 65536)).toNat from by unfold pw mn mx; (repeat' split) <;> omega]
    rfl
theorem expI_mono {x y : Int} (h : x ≤ y) (hy : -2147483648 ≤ y ∧ y ≤ 2147483647) : expI x ≤ expI y := powC_mono (tOf_mono h) (tOf_range y hy).2
theorem tdiv_pos (a : Int) (h : 0 ≤ a) : Int.tdiv a 65536 = a / 65536 := Int.tdiv_eq_ediv_of_nonneg h
theorem rexp_j0 (x : Int) (hx : -2147483648 ≤ x ∧ x ≤ 0) (k : Nat) (hk : 64 ≤ k) : credenzaref02_Exp.j0 k x = some (powC (rnd (x * 94548) 65536)) := by
  obtain ⟨k, rfl⟩ : ∃ m, k = m + 1 := ⟨k - 1, by omega⟩
  have ht : -3098148864 ≤ rnd (x * 94548) 65536 ∧ rnd (x * 94548) 65536 ≤ 0 := ⟨rnd_ge (by omega) (by omega), rnd_le (by omega) (by omega)⟩
  simp only [credenzaref02_Exp.j0]
  unfold powC powT
  rw [w64 x (by omega) (by omega), w64 (x * 94548) (by omega) (by omega), rratio_eq _ _ (by omega) (by omega) (by omega) (by omega)]
  simp only [Option.bind_some]
  generalize rnd (x * 94548) 65536 = t at *
  rw [rfloor_eq t 65536 (by omega) (by omega) (by omega)]
  simp only [Option.bind_some]
  rw [w64 (-(t / 65536)) (by omega) (by omega), w64 (t / 65536 * 65536) (by omega) (by omega), show t - t / 65536 * 65536 = t % 65536 from by omega, w64 (t % 65536) (by omega) (by omega)]
  by_cases c : -(t / 65536) > 62
  · rw [if_pos c, if_pos c]
  · rw [if_neg c, if_neg c]
    have p := of2_parts (t % 65536) (by omega) (by omega)
    have r := of2_range (t % 65536) (by omega) (by omega)
    generalize hf : t % 65536 = f at *
    have h0 : 0 ≤ f := by omega
    have h1 : f < 65536 := by omega
    rw [w64 (f * 5180) (by omega) (by omega), tdiv_pos (f * 5180) (by omega), w64 (f * 5180 / 65536) (by omega) (by omega), w64 (14743 + f * 5180 / 65536) (by omega) (by omega), w64 (f * (14743 + f * 5180 / 65536)) (by omega) (by omega), tdiv_pos (f * (14743 + f * 5180 / 65536)) (by omega), w64 (f * (14743 + f * 5180 / 65536) / 65536) (by omega) (by omega), w64 (45613 + f * (14743 + f * 5180 / 65536) / 65536) (by omega) (by omega), w64 (f * (45613 + f * (14743 + f * 5180 / 65536) / 65536)) (by omega) (by omega), tdiv_pos (f * (45613 + f * (14743 + f * 5180 / 65536) / 65536)) (by omega), w64 (f * (45613 + f * (14743 + f * 5180 / 65536) / 65536) / 65536) (by omega) (by omega), w64 (65536 + f * (45613 + f * (14743 + f * 5180 / 65536) / 65536) / 65536) (by omega) (by omega)]
    rw [show 65536 + f * (45613 + f * (14743 + f * 5180 / 65536) / 65536) / 65536 = of2 f from rfl, rhalf_eq _ _ (by omega) (by omega) k (by omega), show pw (-(t / 65536)) = (-(t / 65536)).toNat from by unfold pw mn mx; (repeat' split) <;> omega]
    rfl
theorem rexp_eq (x : Int) (hx : -2147483648 ≤ x ∧ x ≤ 2147483647) (k : Nat) (hk : 64 ≤ k) : credenzaref02_Exp.f k x = some (expI x) := by
  unfold credenzaref02_Exp.f expI tOf
  by_cases c : x > 0
  · rw [if_pos c, rexp_j0 0 (by omega) k hk, show mn x 0 = 0 from by unfold mn; rw [if_pos (by omega)]]
  · rw [if_neg c, rexp_j0 x (by omega) k hk, show mn x 0 = x from by unfold mn; split <;> omega]
theorem rd_drop (l : List Int) (i : Nat) (h : i < l.length) : l.drop i = rd l (i : Int) :: l.drop (i + 1) := by
  rw [List.drop_eq_getElem_cons h]
  congr 1
  unfold rd
  rw [Int.toNat_natCast, List.getD_eq_getElem?_getD, List.getElem?_eq_getElem h]
  rfl
theorem rd_mem (l : List Int) (i : Nat) (h : i < l.length) : rd l (i : Int) ∈ l := by
  have := rd_drop l i h
  exact List.mem_of_mem_drop (this ▸ List.mem_cons_self : rd l (i : Int) ∈ l.drop i)
theorem w64_succ (i n : Nat) (h : i < n) (hn : n ≤ 140737488351232) : wrap64 ((i : Int) + 1) = ((i + 1 : Nat) : Int) := by
  rw [w64 _ (by omega) (by omega)]; omega
/-- All numbers are of 32 bits. -/
def I32 (l : List Int) : Prop := ∀ x ∈ l, -2147483648 ≤ x ∧ x ≤ 2147483647
theorem i32_of {l : List Int} (h : ∀ x ∈ l, (Lit.int .i32 x).wf = true) : I32 l := fun x hx => wf32 (h x hx)
theorem set_take (l : List Int) (i : Nat) (v : Int) (h : i < l.length) : (l.set i v).take (i + 1) = l.take i ++ [v] := by
  rw [List.take_add_one, List.take_set, List.getElem?_set_self h, List.set_eq_of_length_le (by rw [List.length_take]; omega)]
  rfl
def badI (x : Int) : Bool := decide (x < -16777216) || decide (x > 16777216)
def mildB (l : List Int) : Bool := decide ((l.length : Int) ≤ 1024) && !(l.any badI)
theorem mild1_eq (x : Int) : dot_Mild_1.f x = some (badI x) := by
  unfold dot_Mild_1.f badI
  by_cases h : x < -16777216
  · rw [if_pos h, decide_eq_true h]; rfl
  · rw [if_neg h, decide_eq_false h]; rfl
theorem mild_index (l : List Int) (hl : l.length ≤ 140737488351232) (d : Nat) : ∀ (k i : Nat), i + d = l.length → d < k →
    ∃ r, slices_IndexFunc_int32_int32_of_dot_Mild_1.l0 k l (l.length : Int) (i : Int) = some r ∧ decide (r ≥ 0) = (l.drop i).any badI := by
  induction d with
  | zero =>
    intro k i h hk
    obtain ⟨k, rfl⟩ : ∃ m, k = m + 1 := ⟨k - 1, by omega⟩
    refine ⟨-1, ?_, ?_⟩
    · simp only [slices_IndexFunc_int32_int32_of_dot_Mild_1.l0]; rw [if_neg (by omega)]
    · rw [List.drop_of_length_le (by omega)]; rfl
  | succ d ih =>
    intro k i h hk
    obtain ⟨k, rfl⟩ : ∃ m, k = m + 1 := ⟨k - 1, by omega⟩
    simp only [slices_IndexFunc_int32_int32_of_dot_Mild_1.l0]
    rw [if_pos (by omega), if_pos (by omega), if_pos (by omega), mild1_eq, rd_drop l i (by omega), List.any_cons]
    simp only [Option.bind_some]
    by_cases hb : badI (rd l (i : Int)) = true
    · rw [if_pos hb, hb]
      exact ⟨_, rfl, by simp⟩
    · rw [if_neg hb, w64_succ i l.length (by omega) hl]
      obtain ⟨r, e, hr⟩ := ih k (i + 1) (by omega) (by omega)
      rw [Bool.not_eq_true] at hb
      exact ⟨r, e, by rw [hr, hb]; rfl⟩
theorem mild_eq (l : List Int) (k : Nat) (hk : 1025 < k) : dot_Mild.f k l = some (mildB l) := by
  unfold dot_Mild.f mildB
  by_cases h : (l.length : Int) ≤ 1024
  · rw [if_pos h, decide_eq_true h]
    obtain ⟨r, e, hr⟩ := mild_index l (by omega) l.length k 0 (by omega) (by omega)
    unfold slices_ContainsFunc_int32_int32_of_dot_Mild_1.f slices_IndexFunc_int32_int32_of_dot_Mild_1.f
    have e' : slices_IndexFunc_int32_int32_of_dot_Mild_1.l0 k l (l.length : Int) 0 = some r := e
    rw [e']
    simp only [Option.bind_some]
    rw [hr, List.drop_zero]; rfl
  · rw [if_neg h, decide_eq_false h]; rfl
theorem mild_mem {l : List Int} (h : mildB l = true) : (l.length : Int) ≤ 1024 ∧ ∀ x ∈ l, -16777216 ≤ x ∧ x ≤ 16777216 := by
  unfold mildB at h
  rw [Bool.and_eq_true, decide_eq_true_eq, Bool.not_eq_true', List.any_eq_false] at h
  refine ⟨h.1, fun x hx => ?_⟩
  have := h.2 x hx
  simp only [badI, Bool.or_eq_true, decide_eq_true_eq] at this
  omega
theorem mild_of {l : List Int} (h0 : (l.length : Int) ≤ 1024) (h : ∀ x ∈ l, -16777216 ≤ x ∧ x ≤ 16777216) : mildB l = true := by
  unfold mildB
  rw [Bool.and_eq_true, decide_eq_true_eq, Bool.not_eq_true', List.any_eq_false]
  refine ⟨h0, fun x hx => ?_⟩
  have := h x hx
  simp only [badI, Bool.or_eq_true, decide_eq_true_eq]
  omega
theorem same_loop (a b : List Int) (hab : a.length = b.length) (hn : a.length ≤ 140737488351232) (d : Nat) : ∀ (k i : Nat), i + d = a.length → d < k →
    credenzaref03_Same.l0 k a b (i : Int) = some (decide (a.drop i = b.drop i)) := by
  induction d with
  | zero =>
    intro k i h hk
    obtain ⟨k, rfl⟩ : ∃ m, k = m + 1 := ⟨k - 1, by omega⟩
    simp only [credenzaref03_Same.l0]
    rw [if_neg (by omega), List.drop_of_length_le (by omega : a.length ≤ i), List.drop_of_length_le (by omega : b.length ≤ i)]
    simp
  | succ d ih =>
    intro k i h hk
    obtain ⟨k, rfl⟩ : ∃ m, k = m + 1 := ⟨k - 1, by omega⟩
    simp only [credenzaref03_Same.l0]
    rw [if_pos (by omega), if_pos (by omega), if_pos (by omega), w64_succ i a.length (by omega) hn, ih k (i + 1) (by omega) (by omega), rd_drop a i (by omega), rd_drop b i (by omega)]
    by_cases c : rd a (i : Int) = rd b (i : Int)
    · rw [if_pos c, c]; simp
    · rw [if_neg c]; simp [c]
theorem same_eq (a b : List Int) (hn : a.length ≤ 140737488351232) (k : Nat) (hk : a.length < k) : credenzaref03_Same.f k a b = some (decide (a = b)) := by
  unfold credenzaref03_Same.f
  by_cases h : (a.length : Int) = (b.length : Int)
  · rw [if_pos h]
    have := same_loop a b (by omega) hn a.length k 0 (by omega) hk
    rwa [List.drop_zero, List.drop_zero] at this
  · rw [if_neg h, decide_eq_false (fun e => h (by rw [e]))]
theorem same_self (a : List Int) (hn : a.length ≤ 140737488351232) (k : Nat) (hk : a.length < k) : credenzaref03_Same.f k a a = some true := by
  rw [same_eq a a hn k hk]; simp
/-- The first place of the greatest one. -/
def FirstMax (l : List Int) (p : Nat) : Prop := p < l.length ∧ (∀ j : Nat, j < l.length → rd l (j : Int) ≤ rd l (p : Int)) ∧ ∀ j : Nat, j < p → rd l (j : Int) < rd l (p : Int)
theorem first_unique {l : List Int} {p q : Nat} (hp : FirstMax l p) (hq : FirstMax l q) : p = q := by
  obtain ⟨p0, p1, p2⟩ := hp
  obtain ⟨q0, q1, q2⟩ := hq
  have h1 := p1 q q0
  have h2 := q1 p p0
  rcases Nat.lt_trichotomy p q with h | h | h
  · have := q2 p h; omega
  · exact h
  · have := p2 q h; omega
theorem max_loop (l : List Int) (hn : l.length ≤ 140737488351232) (d : Nat) : ∀ (k i : Nat) (m : Int), i + d = l.length → d < k → (∀ j : Nat, j < i → rd l (j : Int) ≤ m) → (∃ j : Nat, j < i ∧ rd l (j : Int) = m) →
    ∃ M, slices_Max_int32_int32.l0 k l m (i : Int) = some M ∧ (∀ j : Nat, j < l.length → rd l (j : Int) ≤ M) ∧ ∃ j : Nat, j < l.length ∧ rd l (j : Int) = M := by
  induction d with
  | zero =>
    intro k i m h hk hm he
    obtain ⟨k, rfl⟩ : ∃ m, k = m + 1 := ⟨k - 1, by omega⟩
    obtain rfl : i = l.length := by omega
    refine ⟨m, ?_, hm, he⟩
    simp only [slices_Max_int32_int32.l0]
    rw [if_neg (by omega)]
  | succ d ih =>
    intro k i m h hk hm he
    obtain ⟨k, rfl⟩ : ∃ m, k = m + 1 := ⟨k - 1, by omega⟩
    simp only [slices_Max_int32_int32.l0]
    rw [if_pos (by omega), if_pos (by omega), w64_succ i l.length (by omega) hn]
    have hmx : m ≤ mx m (rd l (i : Int)) ∧ rd l (i : Int) ≤ mx m (rd l (i : Int)) ∧ (mx m (rd l (i : Int)) = m ∨ mx m (rd l (i : Int)) = rd l (i : Int)) := by unfold mx; split <;> omega
    apply ih k (i + 1) _ (by omega) (by omega)
    · intro j hj
      rcases Nat.lt_succ_iff_lt_or_eq.mp hj with h1 | rfl
      · have := hm j h1; omega
      · exact hmx.2.1
    · rcases hmx.2.2 with h1 | h1
      · obtain ⟨j, hj, e⟩ := he
        exact ⟨j, by omega, by rw [e, h1]⟩
      · exact ⟨i, by omega, h1.symm⟩
theorem index_loop (l : List Int) (v : Int) (hn : l.length ≤ 140737488351232) (d : Nat) : ∀ (k i : Nat), i + d = l.length → d < k → (∃ j : Nat, i ≤ j ∧ j < l.length ∧ rd l (j : Int) = v) →
    ∃ p : Nat, slices_Index_int32_int32.l0 k l v (l.length : Int) (i : Int) = some (p : Int) ∧ i ≤ p ∧ p < l.length ∧ rd l (p : Int) = v ∧ ∀ j : Nat, i ≤ j → j < p → rd l (j : Int) ≠ v := by
  induction d with
  | zero =>
    intro k i h hk he
    obtain ⟨j, h1, h2, -⟩ := he
    omega
  | succ d ih =>
    intro k i h hk he
    obtain ⟨k, rfl⟩ : ∃ m, k = m + 1 := ⟨k - 1, by omega⟩
    simp only [slices_Index_int32_int32.l0]
    rw [if_pos (by omega), if_pos (by omega), if_pos (by omega)]
    by_cases c : v = rd l (i : Int)
    · rw [if_pos c]
      exact ⟨i, rfl, by omega, by omega, c.symm, fun j h1 h2 => by omega⟩
    · rw [if_neg c, w64_succ i l.length (by omega) hn]
      obtain ⟨j, h1, h2, h3⟩ := he
      have hj : i + 1 ≤ j := by
        rcases Nat.eq_or_lt_of_le h1 with rfl | h4
        · exact absurd h3.symm c
        · omega
      obtain ⟨p, e, g1, g2, g3, g4⟩ := ih k (i + 1) (by omega) (by omega) ⟨j, hj, h2, h3⟩
      refine ⟨p, e, by omega, g2, g3, fun j h5 h6 => ?_⟩
      rcases Nat.eq_or_lt_of_le h5 with rfl | h7
      · exact fun e2 => c e2.symm
      · exact g4 j (by omega) h6
theorem top_eq (l : List Int) (h0 : 0 < l.length) (hn : l.length ≤ 140737488351232) (k : Nat) (hk : l.length < k) : ∃ p : Nat, FirstMax l p ∧ dot_Top.f k l = some ((p : Int), rd l (p : Int), 0) := by
  obtain ⟨M, eM, hM, j, hj, ej⟩ := max_loop l hn (l.length - 1) k 1 (rd l ((0 : Nat) : Int)) (by omega) (by omega) (fun j h => Nat.lt_one_iff.mp h ▸ Int.le_refl _) ⟨0, by omega, rfl⟩
  obtain ⟨p, ep, -, hp, rp, np⟩ := index_loop l M hn l.length k 0 (by omega) hk ⟨j, by omega, hj, ej⟩
  refine ⟨p, ⟨hp, fun q hq => by rw [rp]; exact hM q hq, fun q hq => ?_⟩, ?_⟩
  · have h1 := hM q (by omega)
    have h2 := np q (by omega) hq
    rw [rp]; omega
  · unfold dot_Top.f slices_Max_int32_int32.f slices_Index_int32_int32.f
    rw [if_neg (by omega), if_neg (by omega), if_pos (by omega)]
    have eM' : slices_Max_int32_int32.l0 k l (rd l 0) 1 = some M := eM
    have ep' : slices_Index_int32_int32.l0 k l M (l.length : Int) 0 = some (p : Int) := ep
    rw [eM']
    simp only [Option.bind_some]
    rw [ep', rp]; rfl
theorem rtop_loop (l : List Int) (hn : l.length ≤ 140737488351232) (d : Nat) : ∀ (k i p : Nat), i + d = l.length → d < k → p < l.length → (∀ j : Nat, j < i → rd l (j : Int) ≤ rd l (p : Int)) → (∀ j : Nat, j < p → rd l (j : Int) < rd l (p : Int)) →
    p ≤ i → ∃ q : Nat, credenzaref03_Top.l0 k l (p : Int) (i : Int) = some (q : Int) ∧ FirstMax l q := by
  induction d with
  | zero =>
    intro k i p h hk hp h1 h2 h3
    obtain ⟨k, rfl⟩ : ∃ m, k = m + 1 := ⟨k - 1, by omega⟩
    refine ⟨p, ?_, hp, fun j hj => h1 j (by omega), h2⟩
    simp only [credenzaref03_Top.l0]
    rw [if_neg (by omega)]
  | succ d ih =>
    intro k i p h hk hp h1 h2 h3
    obtain ⟨k, rfl⟩ : ∃ m, k = m + 1 := ⟨k - 1, by omega⟩
    simp only [credenzaref03_Top.l0]
    rw [if_pos (by omega), if_pos (by omega), if_pos (by omega), if_pos (by omega), w64_succ i l.length (by omega) hn]
    by_cases c : rd l (i : Int) > rd l (p : Int)
    · rw [if_pos c]
      apply ih k (i + 1) i (by omega) (by omega) (by omega)
      · intro j hj
        rcases Nat.lt_succ_iff_lt_or_eq.mp hj with h4 | rfl
        · have := h1 j h4; omega
        · exact Int.le_refl _
      · intro j hj
        have := h1 j hj
        omega
      · omega
    · rw [if_neg c]
      apply ih k (i + 1) p (by omega) (by omega) hp
      · intro j hj
        rcases Nat.lt_succ_iff_lt_or_eq.mp hj with h4 | rfl
        · exact h1 j h4
        · omega
      · exact h2
      · omega
theorem rtop_eq (l : List Int) (h0 : 0 < l.length) (hn : l.length ≤ 140737488351232) (k : Nat) (hk : l.length < k) : ∃ p : Nat, FirstMax l p ∧ credenzaref03_Top.f k l = some (p : Int) := by
  obtain ⟨q, e, hq⟩ := rtop_loop l hn l.length k 0 0 (by omega) hk h0 (fun j h => by omega) (fun j h => by omega) (by omega)
  exact ⟨q, hq, e⟩
theorem rd_map (f : Int → Int) (l : List Int) (i : Nat) (h : i < l.length) : rd (l.map f) (i : Int) = f (rd l (i : Int)) := by
  unfold rd
  rw [Int.toNat_natCast, List.getD_eq_getElem?_getD, List.getD_eq_getElem?_getD, List.getElem?_eq_getElem h, List.getElem?_eq_getElem (by rw [List.length_map]; omega), List.getElem_map]
  rfl
/-- A score's weight, the greatest one being top. -/
def weigh (top x : Int) : Int := expI (wide (x - top))
def weighL (top : Int) (l : List Int) : List Int := l.map (weigh top)
theorem weights_loop (l : List Int) (top : Int) (ht : -2147483648 ≤ top ∧ top ≤ 2147483647) (hn : l.length ≤ 1000000) (hl : I32 l) (d : Nat) : ∀ (k i : Nat) (acc : List Int), i + d = l.length → d < k → acc.length = i →
    soft_Weights.l0 k top acc l (l.length : Int) (i : Int) = some (acc ++ weighL top (l.drop i), 0) := by
  induction d with
  | zero =>
    intro k i acc h hk ho
    obtain ⟨k, rfl⟩ : ∃ m, k = m + 1 := ⟨k - 1, by omega⟩
    simp only [soft_Weights.l0]
    rw [if_neg (by omega), List.drop_of_length_le (by omega : l.length ≤ i)]
    simp [weighL]
  | succ d ih =>
    intro k i acc h hk ho
    obtain ⟨k, rfl⟩ : ∃ m, k = m + 1 := ⟨k - 1, by omega⟩
    have hx := hl _ (rd_mem l i (by omega))
    simp only [soft_Weights.l0]
    rw [if_pos (by omega), if_pos (by omega), if_pos (by omega), sub_eq _ _ hx ht]
    simp only [Option.bind_some]
    rw [exp_eq _ (wide_range _)]
    simp only [Option.bind_some]
    rw [if_pos (by omega), w64_succ i l.length (by omega) (by omega), ih k (i + 1) _ (by omega) (by omega) (by rw [List.length_append]; simp; omega), rd_drop l i (by omega), List.append_assoc]
    rfl
theorem weights_eq (l : List Int) (h0 : 0 < l.length) (h1 : (l.length : Int) ≤ 1024) (hl : I32 l) (k : Nat) (hk : l.length < k) (p : Nat) (hp : FirstMax l p) : soft_Weights.f k l = some (weighL (rd l (p : Int)) l, 0) := by
  obtain ⟨q, hq, e⟩ := top_eq l h0 (by omega) k hk
  obtain rfl := first_unique hp hq
  unfold soft_Weights.f
  rw [if_neg (by omega), e]
  simp only [Option.bind_some]
  rw [if_pos trivial]
  have := weights_loop l (rd l (p : Int)) (hl _ (rd_mem l p hp.1)) (by omega) hl l.length k 0 [] (by omega) hk rfl
  rw [List.drop_zero, List.nil_append] at this
  exact this
theorem first_ex (l : List Int) (h0 : 0 < l.length) (hn : l.length ≤ 140737488351232) : ∃ p, FirstMax l p := by
  obtain ⟨q, hq, -⟩ := top_eq l h0 hn (l.length + 1) (by omega)
  exact ⟨q, hq⟩
theorem weighL_length (top : Int) (l : List Int) : (weighL top l).length = l.length := by unfold weighL; rw [List.length_map]
theorem rweights_loop (l : List Int) (top : Int) (ht : -2147483648 ≤ top ∧ top ≤ 2147483647) (hn : l.length ≤ 1000000) (hl : I32 l) (d : Nat) : ∀ (k i : Nat) (acc : List Int), i + d = l.length → d + 70 < k → acc.length = i →
    credenzaref04_Weights.l0 k l top acc (i : Int) = some (acc ++ weighL top (l.drop i)) := by
  induction d with
  | zero =>
    intro k i acc h hk ho
    obtain ⟨k, rfl⟩ : ∃ m, k = m + 1 := ⟨k - 1, by omega⟩
    simp only [credenzaref04_Weights.l0]
    rw [if_neg (by omega), List.drop_of_length_le (by omega : l.length ≤ i)]
    simp [weighL]
  | succ d ih =>
    intro k i acc h hk ho
    obtain ⟨k, rfl⟩ : ∃ m, k = m + 1 := ⟨k - 1, by omega⟩
    have hx := hl _ (rd_mem l i (by omega))
    simp only [credenzaref04_Weights.l0]
    rw [if_pos (by omega), if_pos (by omega), w64 (rd l (i : Int)) (by omega) (by omega), w64 top (by omega) (by omega), w64 (rd l (i : Int) - top) (by omega) (by omega), rwide_eq]
    simp only [Option.bind_some]
    rw [rexp_eq _ (wide_range _) k (by omega)]
    simp only [Option.bind_some]
    rw [if_pos (by omega), w64_succ i l.length (by omega) (by omega), ih k (i + 1) _ (by omega) (by omega) (by rw [List.length_append]; simp; omega), rd_drop l i (by omega), List.append_assoc]
    rfl
theorem rweights_eq (l : List Int) (h0 : 0 < l.length) (hn : l.length ≤ 1000000) (hl : I32 l) (k : Nat) (hk : l.length + 70 < k) (p : Nat) (hp : FirstMax l p) : credenzaref04_Weights.f k l = some (weighL (rd l (p : Int)) l) := by
  obtain ⟨q, hq, e⟩ := rtop_eq l h0 (by omega) k (by omega)
  obtain rfl := first_unique hp hq
  have hpl := hp.1
  unfold credenzaref04_Weights.f
  rw [e]
  simp only [Option.bind_some]
  rw [if_pos (by omega), if_pos (by omega)]
  have := rweights_loop l (rd l (p : Int)) (hl _ (rd_mem l p hp.1)) hn hl l.length k 0 [] (by omega) (by omega) rfl
  rw [List.drop_zero, List.nil_append] at this
  exact this
/-- The sum, as an int64 has it. -/
def sumW : Int → List Int → Int
  | s, [] => s
  | s, x :: xs => sumW (wrap64 (s + x)) xs
theorem sum_loop (l : List Int) (hn : l.length ≤ 140737488351232) (d : Nat) : ∀ (k i : Nat) (s : Int), i + d = l.length → d < k → soft_Sum.l0 k s l (l.length : Int) (i : Int) = some (sumW s (l.drop i)) := by
  induction d with
  | zero =>
    intro k i s h hk
    obtain ⟨k, rfl⟩ : ∃ m, k = m + 1 := ⟨k - 1, by omega⟩
    simp only [soft_Sum.l0]
    rw [if_neg (by omega), List.drop_of_length_le (by omega : l.length ≤ i)]
    rfl
  | succ d ih =>
    intro k i s h hk
    obtain ⟨k, rfl⟩ : ∃ m, k = m + 1 := ⟨k - 1, by omega⟩
    simp only [soft_Sum.l0]
    rw [if_pos (by omega), if_pos (by omega), if_pos (by omega), w64_succ i l.length (by omega) hn, ih k (i + 1) _ (by omega) (by omega), rd_drop l i (by omega)]
    rfl
theorem sum_eq (l : List Int) (hn : l.length ≤ 140737488351232) (k : Nat) (hk : l.length < k) : soft_Sum.f k l = some (sumW 0 l) := by
  unfold soft_Sum.f
  have := sum_loop l hn l.length k 0 0 (by omega) hk
  rwa [List.drop_zero] at this
theorem rsum_loop (l : List Int) (hn : l.length ≤ 140737488351232) (d : Nat) : ∀ (k i : Nat) (s : Int), i + d = l.length → d < k → credenzaref04_Sum.l0 k l s (i : Int) = some (sumW s (l.drop i)) := by
  induction d with
  | zero =>
    intro k i s h hk
    obtain ⟨k, rfl⟩ : ∃ m, k = m + 1 := ⟨k - 1, by omega⟩
    simp only [credenzaref04_Sum.l0]
    rw [if_neg (by omega), List.drop_of_length_le (by omega : l.length ≤ i)]
    rfl
  | succ d ih =>
    intro k i s h hk
    obtain ⟨k, rfl⟩ : ∃ m, k = m + 1 := ⟨k - 1, by omega⟩
    simp only [credenzaref04_Sum.l0]
    rw [if_pos (by omega), if_pos (by omega), w64_succ i l.length (by omega) hn, ih k (i + 1) _ (by omega) (by omega), rd_drop l i (by omega)]
    rfl
theorem rsum_eq (l : List Int) (hn : l.length ≤ 140737488351232) (k : Nat) (hk : l.length < k) : credenzaref04_Sum.f k l = some (sumW 0 l) := by
  unfold credenzaref04_Sum.f
  have := rsum_loop l hn l.length k 0 0 (by omega) hk
  rwa [List.drop_zero] at this
theorem rdL_drop (l : List (List Int)) (i : Nat) (h : i < l.length) : l.drop i = rd_L2 l (i : Int) :: l.drop (i + 1) := by
  rw [List.drop_eq_getElem_cons h]
  congr 1
  unfold rd_L2
  rw [Int.toNat_natCast, List.getD_eq_getElem?_getD, List.getElem?_eq_getElem h]
  rfl
theorem rdL_mem (l : List (List Int)) (i : Nat) (h : i < l.length) : rd_L2 l (i : Int) ∈ l := by
  have := rdL_drop l i h
  exact List.mem_of_mem_drop (this ▸ List.mem_cons_self : rd_L2 l (i : Int) ∈ l.drop i)
def othB (n : Int) (y : List Int) : Bool := (y.length : Int) != n
def shareB (x : Int) : Bool := decide (x < 0) || decide (x > 65536)
theorem share_eq (x : Int) : soft_right_2.f x = some (shareB x) := by
  unfold soft_right_2.f shareB
  by_cases h : x < 0
  · rw [if_pos h, decide_eq_true h]; rfl
  · rw [if_neg h, decide_eq_false h]; rfl
theorem oth_index (l : List (List Int)) (n : Int) (hl : l.length ≤ 140737488351232) (d : Nat) : ∀ (k i : Nat), i + d = l.length → d < k →
    ∃ r, slices_IndexFunc_int32_int32_of_soft_right_1.l0 k l (l.length : Int) (i : Int) n = some r ∧ decide (r ≥ 0) = (l.drop i).any (othB n) := by
  induction d with
  | zero =>
    intro k i h hk
    obtain ⟨k, rfl⟩ : ∃ m, k = m + 1 := ⟨k - 1, by omega⟩
    refine ⟨-1, ?_, ?_⟩
    · simp only [slices_IndexFunc_int32_int32_of_soft_right_1.l0]; rw [if_neg (by omega)]
    · rw [List.drop_of_length_le (by omega)]; rfl
  | succ d ih =>
    intro k i h hk
    obtain ⟨k, rfl⟩ : ∃ m, k = m + 1 := ⟨k - 1, by omega⟩
    simp only [slices_IndexFunc_int32_int32_of_soft_right_1.l0]
    rw [if_pos (by omega), if_pos (by omega), if_pos (by omega), rdL_drop l i (by omega), List.any_cons, show soft_right_1.f (rd_L2 l (i : Int)) n = some (othB n (rd_L2 l (i : Int))) from rfl]
    simp only [Option.bind_some]
    by_cases hb : othB n (rd_L2 l (i : Int)) = true
    · rw [if_pos hb, hb]
      exact ⟨_, rfl, by simp⟩
    · rw [if_neg hb, w64_succ i l.length (by omega) hl]
      obtain ⟨r, e, hr⟩ := ih k (i + 1) (by omega) (by omega)
      rw [Bool.not_eq_true] at hb
      exact ⟨r, e, by rw [hr, hb]; rfl⟩
theorem share_index (l : List Int) (hl : l.length ≤ 140737488351232) (d : Nat) : ∀ (k i : Nat), i + d = l.length → d < k →
    ∃ r, slices_IndexFunc_int_int_of_soft_right_2.l0 k l (l.length : Int) (i : Int) = some r ∧ decide (r ≥ 0) = (l.drop i).any shareB := by
  induction d with
  | zero =>
    intro k i h hk
    obtain ⟨k, rfl⟩ : ∃ m, k = m + 1 := ⟨k - 1, by omega⟩
    refine ⟨-1, ?_, ?_⟩
    · simp only [slices_IndexFunc_int_int_of_soft_right_2.l0]; rw [if_neg (by omega)]
    · rw [List.drop_of_length_le (by omega)]; rfl
  | succ d ih =>
    intro k i h hk
    obtain ⟨k, rfl⟩ : ∃ m, k = m + 1 := ⟨k - 1, by omega⟩
    simp only [slices_IndexFunc_int_int_of_soft_right_2.l0]
    rw [if_pos (by omega), if_pos (by omega), if_pos (by omega), share_eq, rd_drop l i (by omega), List.any_cons]
    simp only [Option.bind_some]
    by_cases hb : shareB (rd l (i : Int)) = true
    · rw [if_pos hb, hb]
      exact ⟨_, rfl, by simp⟩
    · rw [if_neg hb, w64_succ i l.length (by omega) hl]
      obtain ⟨r, e, hr⟩ := ih k (i + 1) (by omega) (by omega)
      rw [Bool.not_eq_true] at hb
      exact ⟨r, e, by rw [hr, hb]; rfl⟩
def wildB (y : List Int) : Bool := !mildB y
theorem wild_index (l : List (List Int)) (hl : l.length ≤ 140737488351232) (d : Nat) : ∀ (k i : Nat), i + d = l.length → d + 1030 < k →
    ∃ r, slices_IndexFunc_int32_int32_of_soft_right_3.l0 k l (l.length : Int) (i : Int) = some r ∧ decide (r ≥ 0) = (l.drop i).any wildB := by
  induction d with
  | zero =>
    intro k i h hk
    obtain ⟨k, rfl⟩ : ∃ m, k = m + 1 := ⟨k - 1, by omega⟩
    refine ⟨-1, ?_, ?_⟩
    · simp only [slices_IndexFunc_int32_int32_of_soft_right_3.l0]; rw [if_neg (by omega)]
    · rw [List.drop_of_length_le (by omega)]; rfl
  | succ d ih =>
    intro k i h hk
    obtain ⟨k, rfl⟩ : ∃ m, k = m + 1 := ⟨k - 1, by omega⟩
    have e3 : soft_right_3.f k (rd_L2 l (i : Int)) = some (wildB (rd_L2 l (i : Int))) := by
      unfold soft_right_3.f wildB
      rw [mild_eq _ k (by omega)]; rfl
    simp only [slices_IndexFunc_int32_int32_of_soft_right_3.l0]
    rw [if_pos (by omega), if_pos (by omega), if_pos (by omega), e3, rdL_drop l i (by omega), List.any_cons]
    simp only [Option.bind_some]
    by_cases hb : wildB (rd_L2 l (i : Int)) = true
    · rw [if_pos hb, hb]
      exact ⟨_, rfl, by simp⟩
    · rw [if_neg hb, w64_succ i l.length (by omega) hl]
      obtain ⟨r, e, hr⟩ := ih k (i + 1) (by omega) (by omega)
      rw [Bool.not_eq_true] at hb
      exact ⟨r, e, by rw [hr, hb]; rfl⟩
/-- Can lists be mixed? -/
def mixR (w : List Int) (l : List (List Int)) : Int :=
  if (l.length : Int) = 0 then 14 else if (l.length : Int) > 1024 then 12 else if (l.length : Int) = (w.length : Int) then
    (if l.any (othB ((rd_L2 l 0).length : Int)) = true then 25 else if w.any shareB = true then 11 else if sumW 0 w = 0 then 11 else if l.any wildB = true then 11 else 0) else 25
theorem mixr_eq (w : List Int) (l : List (List Int)) (k : Nat) (hk : 2100 < k) : soft_right.f k w l = some (mixR w l) := by
  unfold soft_right.f mixR
  by_cases h0 : (l.length : Int) = 0
  · rw [if_pos h0, if_pos h0]
  rw [if_neg h0, if_neg h0]
  by_cases h1 : (l.length : Int) > 1024
  · rw [if_pos h1, if_pos h1]
  rw [if_neg h1, if_neg h1]
  by_cases h2 : (l.length : Int) = (w.length : Int)
  · rw [if_pos h2, if_pos h2, if_pos (by omega)]
    obtain ⟨r1, e1, g1⟩ := oth_index l ((rd_L2 l 0).length : Int) (by omega) l.length k 0 (by omega) (by omega)
    obtain ⟨r2, e2, g2⟩ := share_index w (by omega) w.length k 0 (by omega) (by omega)
    obtain ⟨r3, e3, g3⟩ := wild_index l (by omega) l.length k 0 (by omega) (by omega)
    rw [List.drop_zero] at g1 g2 g3
    unfold slices_ContainsFunc_int32_int32_of_soft_right_1.f slices_IndexFunc_int32_int32_of_soft_right_1.f slices_ContainsFunc_int_int_of_soft_right_2.f slices_IndexFunc_int_int_of_soft_right_2.f slices_ContainsFunc_int32_int32_of_soft_right_3.f slices_IndexFunc_int32_int32_of_soft_right_3.f
    have e1' : slices_IndexFunc_int32_int32_of_soft_right_1.l0 k l (l.length : Int) 0 ((rd_L2 l 0).length : Int) = some r1 := e1
    have e2' : slices_IndexFunc_int_int_of_soft_right_2.l0 k w (w.length : Int) 0 = some r2 := e2
    have e3' : slices_IndexFunc_int32_int32_of_soft_right_3.l0 k l (l.length : Int) 0 = some r3 := e3
    rw [e1', e2', e3', sum_eq w (by omega) k (by omega)]
    simp only [Option.bind_some]
    rw [g1, g2, g3]
    repeat' split
    all_goals first | rfl | (exfalso; simp_all; done)
  · rw [if_neg h2, if_neg h2]
/-- The weighed sum at a place. -/
def mixAt : List Int → List (List Int) → Nat → Int
  | x :: xs, y :: ys, i => x * rd y (i : Int) + mixAt xs ys i
  | _, _, _ => 0
def mixL (w : List Int) (l : List (List Int)) (all : Int) : Nat → Nat → List Int
  | 0, _ => []
  | d + 1, i => narrow (rnd (mixAt w l i) all) :: mixL w l all d (i + 1)
theorem mixL_length (w : List Int) (l : List (List Int)) (all : Int) (d : Nat) : ∀ i, (mixL w l all d i).length = d := by
  induction d with
  | zero => intro i; rfl
  | succ d ih => intro i; simp only [mixL, List.length_cons]; rw [ih]
/-- What lists that can be mixed have. -/
structure MixOk (w : List Int) (l : List (List Int)) (n : Nat) : Prop where
  len : l.length = w.length
  pos : 0 < l.length
  few : l.length ≤ 1024
  wide : ∀ y ∈ l, y.length = n
  share : ∀ x ∈ w, 0 ≤ x ∧ x ≤ 65536
  mild : ∀ y ∈ l, ∀ x ∈ y, -16777216 ≤ x ∧ x ≤ 16777216
  all : sumW 0 w ≠ 0
theorem mixok_of {w : List Int} {l : List (List Int)} (h : mixR w l = 0) : MixOk w l (rd_L2 l 0).length := by
  unfold mixR at h
  by_cases h0 : (l.length : Int) = 0
  · rw [if_pos h0] at h; omega
  rw [if_neg h0] at h
  by_cases h1 : (l.length : Int) > 1024
  · rw [if_pos h1] at h; omega
  rw [if_neg h1] at h
  by_cases h2 : (l.length : Int) = (w.length : Int)
  · rw [if_pos h2] at h
    by_cases h3 : l.any (othB ((rd_L2 l 0).length : Int)) = true
    · rw [if_pos h3] at h; omega
    rw [if_neg h3] at h
    by_cases h4 : w.any shareB = true
    · rw [if_pos h4] at h; omega
    rw [if_neg h4] at h
    by_cases h5 : sumW 0 w = 0
    · rw [if_pos h5] at h; omega
    rw [if_neg h5] at h
    by_cases h6 : l.any wildB = true
    · rw [if_pos h6] at h; omega
    rw [Bool.not_eq_true, List.any_eq_false] at h3 h4 h6
    refine ⟨by omega, by omega, by omega, fun y hy => ?_, fun x hx => ?_, fun y hy => ?_, h5⟩
    · have := h3 y hy
      simp only [othB, bne_iff_ne, ne_eq, Decidable.not_not] at this
      omega
    · have := h4 x hx
      simp only [shareB, Bool.or_eq_true, decide_eq_true_eq] at this
      omega
    · have := h6 y hy
      simp only [wildB, Bool.not_eq_true', Bool.not_eq_false] at this
      exact (mild_mem this).2
  · rw [if_neg h2] at h; omega
theorem sumW_bound (w : List Int) : ∀ s : Int, (∀ x ∈ w, 0 ≤ x ∧ x ≤ 65536) → 0 ≤ s → s + w.length * 65536 ≤ 1000000000 → 0 ≤ sumW s w ∧ sumW s w ≤ s + w.length * 65536 := by
  induction w with
  | nil => intro s _ h0 h1; simp only [sumW, List.length_nil]; omega
  | cons x xs ih =>
    intro s h h0 h1
    have hx := h x List.mem_cons_self
    rw [List.length_cons] at h1 ⊢
    simp only [sumW]
    rw [w64 (s + x) (by omega) (by omega)]
    have := ih (s + x) (fun y hy => h y (List.mem_cons_of_mem _ hy)) (by omega) (by omega)
    omega
theorem mix_loop1 (w : List Int) (l : List (List Int)) (n : Nat) (H : MixOk w l n) (i : Nat) (hi : i < n) (out : List Int) (all m x28 : Int) (ho : i < out.length) (ha : 0 < all) (ha' : all ≤ 1000000000) (d : Nat) : ∀ (k j : Nat) (s : Int), j + d = l.length → d < k → -(j * 1099511627776) ≤ s → s ≤ j * 1099511627776 →
    soft_Mix.l1 k w l out all (i : Int) s m x28 l (l.length : Int) (j : Int) = soft_Mix.l0 (k - d - 1) w l (out.set i (narrow (rnd (s + mixAt (w.drop j) (l.drop j) i) all))) all m (wrap64 (x28 + 1)) := by
  have hlen := H.len
  have hfew := H.few
  induction d with
  | zero =>
    intro k j s h hk h0 h1
    obtain ⟨k, rfl⟩ : ∃ q, k = q + 1 := ⟨k - 1, by omega⟩
    simp only [soft_Mix.l1]
    rw [if_neg (by omega), List.drop_of_length_le (by omega : l.length ≤ j), List.drop_of_length_le (by omega : w.length ≤ j), ratio_eq _ _ (by omega) (by omega) ha (by omega)]
    simp only [Option.bind_some]
    rw [narrow_eq]
    simp only [Option.bind_some]
    rw [if_pos (by omega), if_pos (by omega), Int.toNat_natCast, show mixAt [] [] i = 0 from rfl, Int.add_zero]
    rfl
  | succ d ih =>
    intro k j s h hk h0 h1
    obtain ⟨k, rfl⟩ : ∃ q, k = q + 1 := ⟨k - 1, by omega⟩
    have hy := rdL_mem l j (by omega)
    have hyl := H.wide _ hy
    have hv := H.mild _ hy _ (rd_mem (rd_L2 l (j : Int)) i (by omega))
    have hx := H.share _ (rd_mem w j (by omega))
    have hp := mul_bound (a := rd w (j : Int)) (b := rd (rd_L2 l (j : Int)) (i : Int)) (A := 65536) (B := 16777216) (by omega) (by omega) (by omega) (by omega)
    simp only [soft_Mix.l1]
    rw [if_pos (by omega), if_pos (by omega), if_pos (by omega), if_pos (by omega), if_pos (by omega), if_pos (by omega), w64_succ j l.length (by omega) (by omega), w64 (rd (rd_L2 l (j : Int)) (i : Int)) (by omega) (by omega), w64 (rd w (j : Int) * rd (rd_L2 l (j : Int)) (i : Int)) (by omega) (by omega), w64 (s + rd w (j : Int) * rd (rd_L2 l (j : Int)) (i : Int)) (by omega) (by omega)]
    rw [ih k (j + 1) _ (by omega) (by omega) (by omega) (by omega), rd_drop w j (by omega), rdL_drop l j (by omega), show k + 1 - (d + 1) - 1 = k - d - 1 from by omega]
    simp only [mixAt]
    rw [Int.add_assoc]
theorem mix_fuel (d k L F : Nat) (h : (d + 1) * F < k + 1) (hL : L + 2 ≤ F) : d * F < k - L - 1 ∧ L < k := by
  rw [Nat.succ_mul] at h
  generalize d * F = q at *
  omega
theorem mix_loop0 (w : List Int) (l : List (List Int)) (n : Nat) (H : MixOk w l n) (hn : n ≤ 1024) (all : Int) (ha : 0 < all) (ha' : all ≤ 1000000000) (d : Nat) : ∀ (k i : Nat) (out : List Int), i + d = n → d * 1026 < k → out.length = n →
    soft_Mix.l0 k w l out all (n : Int) (i : Int) = some (out.take i ++ mixL w l all d i, 0) := by
  have hfew := H.few
  induction d with
  | zero =>
    intro k i out h hk ho
    obtain ⟨k, rfl⟩ : ∃ q, k = q + 1 := ⟨k - 1, by omega⟩
    simp only [soft_Mix.l0]
    rw [if_neg (by omega), List.take_of_length_le (by omega)]
    simp [mixL]
  | succ d ih =>
    intro k i out h hk ho
    obtain ⟨k, rfl⟩ : ∃ q, k = q + 1 := ⟨k - 1, by omega⟩
    obtain ⟨hk2, hk3⟩ := mix_fuel d k l.length 1026 hk (by omega)
    simp only [soft_Mix.l0]
    rw [if_pos (by omega)]
    have := mix_loop1 w l n H i (by omega) out all (n : Int) (i : Int) (by omega) ha ha' l.length k 0 0 (by omega) hk3 (by omega) (by omega)
    rw [List.drop_zero, List.drop_zero, Int.zero_add] at this
    refine Eq.trans this ?_
    rw [w64_succ i n (by omega) (by omega), ih (k - l.length - 1) (i + 1) _ (by omega) hk2 (by rw [List.length_set]; exact ho), set_take _ _ _ (by omega), List.append_assoc]
    rfl
theorem mixr_zero {w : List Int} {l : List (List Int)} (h0 : l.length = w.length) (h1 : 0 < l.length) (h2 : l.length ≤ 1024) (h3 : ∀ y ∈ l, y.length = (rd_L2 l 0).length) (h4 : ∀ x ∈ w, 0 ≤ x ∧ x ≤ 65536) (h5 : sumW 0 w ≠ 0) (h6 : ∀ y ∈ l, mildB y = true) : mixR w l = 0 := by
  unfold mixR
  rw [if_neg (by omega), if_neg (by omega), if_pos (by omega), if_neg, if_neg, if_neg h5, if_neg]
  · rw [Bool.not_eq_true, List.any_eq_false]
    intro y hy
    unfold wildB
    rw [h6 y hy]; decide
  · rw [Bool.not_eq_true, List.any_eq_false]
    intro x hx
    have := h4 x hx
    simp only [shareB, Bool.or_eq_true, decide_eq_true_eq]
    omega
  · rw [Bool.not_eq_true, List.any_eq_false]
    intro y hy
    unfold othB
    rw [h3 y hy]; simp
theorem rd_rev (l : List Int) (i : Nat) (h : i < l.length) : rd l.reverse (i : Int) = rd l ((l.length - 1 - i : Nat) : Int) := by
  unfold rd
  rw [Int.toNat_natCast, Int.toNat_natCast, List.getD_eq_getElem?_getD, List.getD_eq_getElem?_getD, List.getElem?_reverse h]
theorem take_snoc (l : List Int) (i : Nat) (h : i < l.length) : l.take i ++ [rd l (i : Int)] = l.take (i + 1) := by
  rw [List.take_succ_eq_append_getElem h]
  congr 1
  unfold rd
  rw [Int.toNat_natCast, List.getD_eq_getElem?_getD, List.getElem?_eq_getElem h]
  rfl
theorem w64_succL (i n : Nat) (h : i < n) (hn : n ≤ 9223372036854775807) : wrap64 ((i : Int) + 1) = ((i + 1 : Nat) : Int) := by
  rw [w64 _ (by omega) (by omega)]; omega
theorem rmildL_loop (l : List Int) (hl : l.length ≤ 9223372036854775807) (d : Nat) : ∀ (k i : Nat), i + d = l.length → d < k →
    credenzaref03_Mild.l0 k l (i : Int) = some (decide ((l.length : Int) ≤ 1024) && !((l.drop i).any badI)) := by
  induction d with
  | zero =>
    intro k i h hk
    obtain ⟨k, rfl⟩ : ∃ m, k = m + 1 := ⟨k - 1, by omega⟩
    simp only [credenzaref03_Mild.l0]
    rw [if_neg (by omega), List.drop_of_length_le (by omega)]
    simp
  | succ d ih =>
    intro k i h hk
    obtain ⟨k, rfl⟩ : ∃ m, k = m + 1 := ⟨k - 1, by omega⟩
    simp only [credenzaref03_Mild.l0]
    rw [if_pos (by omega), if_pos (by omega), w64_succL i l.length (by omega) hl, ih k (i + 1) (by omega) (by omega), rd_drop l i (by omega), List.any_cons]
    unfold badI
    by_cases h1 : rd l (i : Int) < -16777216
    · rw [if_pos h1, decide_eq_true h1]; simp
    · rw [if_neg h1, decide_eq_false h1]
      by_cases h2 : rd l (i : Int) > 16777216
      · rw [if_pos h2, decide_eq_true h2]; simp
      · rw [if_neg h2, decide_eq_false h2]; simp
theorem rmildL_eq (l : List Int) (hl : l.length ≤ 9223372036854775807) (k : Nat) (hk : l.length < k) : credenzaref03_Mild.f k l = some (mildB l) := by
  unfold credenzaref03_Mild.f mildB
  have := rmildL_loop l hl l.length k 0 (by omega) hk
  rwa [List.drop_zero] at this
theorem rmixrL_loop1 (w : List Int) (l : List (List Int)) (hlen : l.length = w.length) (hn : l.length ≤ 1024) (L : Nat) (hL : L ≤ 9223372036854775807) (hy : ∀ y ∈ l, y.length ≤ L) (d : Nat) : ∀ (k i : Nat), i + d = l.length → d + L + 1100 < k →
    credenzaref04_Right.l1 k w l (i : Int) = some (if ((w.drop i).any shareB || (l.drop i).any wildB) = true then 11 else if sumW 0 w = 0 then 11 else 0) := by
  induction d with
  | zero =>
    intro k i h hk
    obtain ⟨k, rfl⟩ : ∃ m, k = m + 1 := ⟨k - 1, by omega⟩
    simp only [credenzaref04_Right.l1]
    rw [if_neg (by omega), rsum_eq w (by omega) k (by omega), List.drop_of_length_le (by omega : w.length ≤ i), List.drop_of_length_le (by omega : l.length ≤ i)]
    simp only [Option.bind_some, List.any_nil, Bool.or_self]
    rw [if_neg (by decide : ¬ (false = true))]
    by_cases c : sumW 0 w = 0
    · rw [if_pos c, if_pos c]
    · rw [if_neg c, if_neg c]
  | succ d ih =>
    intro k i h hk
    obtain ⟨k, rfl⟩ : ∃ m, k = m + 1 := ⟨k - 1, by omega⟩
    have hm := hy _ (rdL_mem l i (by omega))
    simp only [credenzaref04_Right.l1]
    rw [if_pos (by omega), if_pos (by omega), if_pos (by omega), rmildL_eq _ (by omega) k (by omega), w64_succ i l.length (by omega) (by omega), ih k (i + 1) (by omega) (by omega), rd_drop w i (by omega), rdL_drop l i (by omega), List.any_cons, List.any_cons]
    simp only [Option.bind_some]
    by_cases c1 : rd w (i : Int) < 0
    · rw [if_pos c1, show shareB (rd w (i : Int)) = true from by unfold shareB; rw [decide_eq_true c1]; rfl]; rfl
    · rw [if_neg c1]
      by_cases c2 : rd w (i : Int) > 65536
      · rw [if_pos c2, show shareB (rd w (i : Int)) = true from by unfold shareB; rw [decide_eq_true c2, Bool.or_true]]; rfl
      · rw [if_neg c2, show shareB (rd w (i : Int)) = false from by unfold shareB; rw [decide_eq_false c1, decide_eq_false c2]; rfl]
        by_cases c3 : mildB (rd_L2 l (i : Int)) = true
        · rw [if_pos c3, show wildB (rd_L2 l (i : Int)) = false from by unfold wildB; rw [c3]; rfl, Bool.false_or, Bool.false_or]
        · rw [if_neg c3, show wildB (rd_L2 l (i : Int)) = true from by unfold wildB; rw [Bool.not_eq_true] at c3; rw [c3]; rfl, Bool.true_or, Bool.or_true, if_pos rfl]
theorem rmixrL_loop0 (w : List Int) (l : List (List Int)) (hlen : l.length = w.length) (hpos : 0 < l.length) (hn : l.length ≤ 1024) (L : Nat) (hL : L ≤ 9223372036854775807) (hy : ∀ y ∈ l, y.length ≤ L) (d : Nat) : ∀ (k i : Nat), i + d = l.length → d + L + 2200 < k →
    credenzaref04_Right.l0 k w l (i : Int) = some (if (l.drop i).any (othB ((rd_L2 l 0).length : Int)) = true then 25 else if (w.any shareB || l.any wildB) = true then 11 else if sumW 0 w = 0 then 11 else 0) := by
  induction d with
  | zero =>
    intro k i h hk
    obtain ⟨k, rfl⟩ : ∃ m, k = m + 1 := ⟨k - 1, by omega⟩
    simp only [credenzaref04_Right.l0]
    have := rmixrL_loop1 w l hlen hn L hL hy l.length k 0 (by omega) (by omega)
    rw [List.drop_zero, List.drop_zero] at this
    rw [if_neg (by omega), List.drop_of_length_le (by omega : l.length ≤ i), List.any_nil, if_neg (by decide : ¬ (false = true))]
    exact this
  | succ d ih =>
    intro k i h hk
    obtain ⟨k, rfl⟩ : ∃ m, k = m + 1 := ⟨k - 1, by omega⟩
    simp only [credenzaref04_Right.l0]
    rw [if_pos (by omega), if_pos (by omega), if_pos (by omega), w64_succ i l.length (by omega) (by omega), ih k (i + 1) (by omega) (by omega), rdL_drop l i (by omega), List.any_cons]
    by_cases c : ((rd_L2 l (i : Int)).length : Int) = ((rd_L2 l 0).length : Int)
    · rw [if_pos c, show othB ((rd_L2 l 0).length : Int) (rd_L2 l (i : Int)) = false from by unfold othB; simp; omega, Bool.false_or]
    · rw [if_neg c, show othB ((rd_L2 l 0).length : Int) (rd_L2 l (i : Int)) = true from by unfold othB; simp; omega, Bool.true_or, if_pos rfl]
theorem rmixrL_eq (w : List Int) (l : List (List Int)) (L : Nat) (hL : L ≤ 9223372036854775807) (hy : ∀ y ∈ l, y.length ≤ L) (k : Nat) (hk : L + 4000 < k) : credenzaref04_Right.f k w l = some (mixR w l) := by
  unfold credenzaref04_Right.f mixR
  by_cases h0 : (l.length : Int) = 0
  · rw [if_pos h0, if_pos h0]
  rw [if_neg h0, if_neg h0]
  by_cases h1 : (l.length : Int) > 1024
  · rw [if_pos h1, if_pos h1]
  rw [if_neg h1, if_neg h1]
  by_cases h2 : (l.length : Int) = (w.length : Int)
  · rw [if_pos h2, if_pos h2]
    have := rmixrL_loop0 w l (by omega) (by omega) (by omega) L hL hy l.length k 0 (by omega) (by omega)
    rw [List.drop_zero] at this
    refine Eq.trans this ?_
    cases l.any (othB ((rd_L2 l 0).length : Int)) <;> cases w.any shareB <;> cases l.any wildB <;> by_cases c : sumW 0 w = 0 <;> simp [c]
  · rw [if_neg h2, if_neg h2]
theorem mixr_few {w : List Int} {l : List (List Int)} (h : mixR w l = 0) : ∀ y ∈ l, y.length ≤ 1024 := by
  unfold mixR at h
  by_cases h0 : (l.length : Int) = 0
  · rw [if_pos h0] at h; omega
  rw [if_neg h0] at h
  by_cases h1 : (l.length : Int) > 1024
  · rw [if_pos h1] at h; omega
  rw [if_neg h1] at h
  by_cases h2 : (l.length : Int) = (w.length : Int)
  · rw [if_pos h2] at h
    by_cases h3 : l.any (othB ((rd_L2 l 0).length : Int)) = true
    · rw [if_pos h3] at h; omega
    rw [if_neg h3] at h
    by_cases h4 : w.any shareB = true
    · rw [if_pos h4] at h; omega
    rw [if_neg h4] at h
    by_cases h5 : sumW 0 w = 0
    · rw [if_pos h5] at h; omega
    rw [if_neg h5] at h
    by_cases h6 : l.any wildB = true
    · rw [if_pos h6] at h; omega
    rw [Bool.not_eq_true, List.any_eq_false] at h6
    intro y hy
    have := h6 y hy
    simp only [wildB, Bool.not_eq_true', Bool.not_eq_false] at this
    have := (mild_mem this).1
    omega
  · rw [if_neg h2] at h; omega
theorem mixL_eq (w : List Int) (l : List (List Int)) (h : mixR w l = 0) (k : Nat) (hk : 1100000 < k) : soft_Mix.f k w l = some (mixL w l (sumW 0 w) (rd_L2 l 0).length 0, 0) := by
  have H := mixok_of h
  have hlen := H.len
  have hpos := H.pos
  have hfew := H.few
  have hn : (rd_L2 l 0).length ≤ 1024 := mixr_few h _ (rdL_mem l 0 hpos)
  have hs := sumW_bound w 0 H.share (by omega) (by omega)
  have hne := H.all
  unfold soft_Mix.f
  rw [mixr_eq w l k (by omega), h]
  simp only [Option.bind_some]
  rw [if_pos trivial, if_pos (by omega), if_pos (by omega), if_pos (by omega), sum_eq w (by omega) k (by omega)]
  simp only [Option.bind_some]
  rw [List.length_replicate, Int.toNat_natCast]
  have := mix_loop0 w l _ H (by omega) (sumW 0 w) (by omega) (by omega) (rd_L2 l 0).length k 0 (List.replicate (rd_L2 l 0).length 0) (by omega) (by omega) (by rw [List.length_replicate])
  rw [List.take_zero, List.nil_append] at this
  exact this
def sumI : List Int → Int
  | [] => 0
  | x :: xs => x + sumI xs
theorem sumW_sum (w : List Int) : ∀ s : Int, (∀ x ∈ w, 0 ≤ x ∧ x ≤ 65536) → 0 ≤ s → s + w.length * 65536 ≤ 1000000000 → sumW s w = s + sumI w := by
  induction w with
  | nil => intro s _ _ _; simp [sumW, sumI]
  | cons x xs ih =>
    intro s h h0 h1
    have hx := h x List.mem_cons_self
    rw [List.length_cons] at h1
    simp only [sumW, sumI]
    rw [w64 (s + x) (by omega) (by omega), ih (s + x) (fun y hy => h y (List.mem_cons_of_mem _ hy)) (by omega) (by omega), Int.add_assoc]
theorem sumI_snoc : ∀ (a : List Int) (x : Int), sumI (a ++ [x]) = sumI a + x
  | [], x => by simp [sumI]
  | y :: ys, x => by simp only [List.cons_append, sumI]; rw [sumI_snoc ys x, Int.add_assoc]
theorem sumI_rev : ∀ a : List Int, sumI a.reverse = sumI a
  | [] => rfl
  | y :: ys => by rw [List.reverse_cons, sumI_snoc, sumI_rev ys]; simp only [sumI]; omega
theorem mixAt_snoc : ∀ (w : List Int) (l : List (List Int)) (x : Int) (y : List Int) (i : Nat), w.length = l.length → mixAt (w ++ [x]) (l ++ [y]) i = mixAt w l i + x * rd y (i : Int)
  | [], [], _, _, _, _ => by simp [mixAt]
  | [], _ :: _, _, _, _, h => by simp at h
  | _ :: _, [], _, _, _, h => by simp at h
  | u :: us, v :: vs, x, y, i, h => by
    simp only [List.cons_append, mixAt]
    rw [mixAt_snoc us vs x y i (by simpa using h), Int.add_assoc]
theorem mixAt_rev : ∀ (w : List Int) (l : List (List Int)) (i : Nat), w.length = l.length → mixAt w.reverse l.reverse i = mixAt w l i
  | [], [], _, _ => rfl
  | [], _ :: _, _, h => by simp at h
  | _ :: _, [], _, h => by simp at h
  | u :: us, v :: vs, i, h => by
    have h' : us.length = vs.length := by simpa using h
    rw [List.reverse_cons, List.reverse_cons, mixAt_snoc _ _ _ _ _ (by rw [List.length_reverse, List.length_reverse]; exact h'), mixAt_rev us vs i h']
    simp only [mixAt]
    omega
theorem mixL_rev (w : List Int) (l : List (List Int)) (h : w.length = l.length) (all : Int) (d : Nat) : ∀ i, mixL w.reverse l.reverse all d i = mixL w l all d i := by
  induction d with
  | zero => intro i; rfl
  | succ d ih => intro i; simp only [mixL]; rw [ih, mixAt_rev w l i h]
theorem rdL_rev (l : List (List Int)) (i : Nat) (h : i < l.length) : rd_L2 l.reverse (i : Int) = rd_L2 l ((l.length - 1 - i : Nat) : Int) := by
  unfold rd_L2
  rw [Int.toNat_natCast, Int.toNat_natCast, List.getD_eq_getElem?_getD, List.getD_eq_getElem?_getD, List.getElem?_reverse h]
theorem takeL_snoc (l : List (List Int)) (i : Nat) (h : i < l.length) : l.take i ++ [rd_L2 l (i : Int)] = l.take (i + 1) := by
  rw [List.take_succ_eq_append_getElem h]
  congr 1
  unfold rd_L2
  rw [Int.toNat_natCast, List.getD_eq_getElem?_getD, List.getElem?_eq_getElem h]
  rfl
theorem mixr_rev {w : List Int} {l : List (List Int)} (h : mixR w l = 0) : mixR w.reverse l.reverse = 0 ∧ (rd_L2 l.reverse 0).length = (rd_L2 l 0).length ∧ sumW 0 w.reverse = sumW 0 w := by
  have H := mixok_of h
  have hlen := H.len
  have hpos := H.pos
  have hfew := H.few
  have hlr : l.reverse.length = l.length := List.length_reverse
  have hwr : w.reverse.length = w.length := List.length_reverse
  have hsr : ∀ x ∈ w.reverse, 0 ≤ x ∧ x ≤ 65536 := fun x hx => H.share x (List.mem_reverse.mp hx)
  have hw0 : (rd_L2 l.reverse 0).length = (rd_L2 l 0).length := H.wide _ (List.mem_reverse.mp (rdL_mem l.reverse 0 (by omega)))
  have hsum : sumW 0 w.reverse = sumW 0 w := by
    rw [sumW_sum w 0 H.share (by omega) (by omega), sumW_sum w.reverse 0 hsr (by omega) (by omega), sumI_rev]
  refine ⟨mixr_zero (by omega) (by omega) (by omega) (fun y hy => ?_) hsr (by rw [hsum]; exact H.all) (fun y hy => ?_), hw0, hsum⟩
  · rw [hw0]; exact H.wide y (List.mem_reverse.mp hy)
  · have hy' := List.mem_reverse.mp hy
    have := mixr_few h y hy'
    exact mild_of (by omega) (H.mild y hy')
theorem weigh_mono (top : Int) {x y : Int} (h : x ≤ y) : weigh top x ≤ weigh top y := by
  unfold weigh
  refine expI_mono ?_ (wide_range _)
  unfold wide cutI
  split <;> split <;> (try split) <;> (try split) <;> omega
end Cz

theorem evK {α : Type} {g : Nat → Option α} {r : α} (K : Nat) (h : ∀ k, K < k → g k = some r) : Ev g r := ⟨K + 1, fun k hk => h k (by omega)⟩
theorem awakeEv : Ev (fun k => credenzalaw04_awake.f k) true := Ev.of credenzalaw04_awake.mono (k := 1200) (by decide +kernel)
theorem awakeT : Ev (fun k => (credenzalaw04_awake.f k).bind fun t => some t) true := Ev.bind (f := fun _ t => some t) awakeEv (Ev.now true)
theorem order_end (s : List Int) (l : List (List Int)) (w : List Int) (hz : Cz.mixR w l = 0) : Ev (fun k => (soft_Mix.f k w l).bind fun bt265 => ((soft_Mix.f k w.reverse l.reverse).bind fun bt269 => (if bt265.2 = 0 then (if bt269.2 = 0 then ((credenzaref03_Same.f k bt265.1 bt269.1).bind fun t273 => (if t273 = true then ((credenzalaw04_awake.f k).bind fun t274 => (some t274)) else (some false))) else (some false)) else (some false)))) true := by
  have H := Cz.mixok_of hz
  have hlen := H.len
  obtain ⟨z1, z2, z3⟩ := Cz.mixr_rev hz
  have hfew := Cz.mixr_few hz _ (Cz.rdL_mem l 0 H.pos)
  have hfew' : (rd_L2 l 0).length ≤ 1024 := hfew
  have hml := Cz.mixL_length w l (Cz.sumW 0 w) (rd_L2 l 0).length 0
  obtain ⟨K, A⟩ := awakeEv
  refine ⟨K + 1100001, fun k hk => ?_⟩
  have e1 := Cz.mixL_eq w l hz k (by omega)
  have e2 := Cz.mixL_eq w.reverse l.reverse z1 k (by omega)
  rw [z2, z3, Cz.mixL_rev w l hlen.symm] at e2
  show ((soft_Mix.f k w l).bind _) = _
  rw [e1, Option.bind_some, e2, Option.bind_some, if_pos (Eq.refl (0 : Int)), if_pos (Eq.refl (0 : Int)), Cz.same_self (Cz.mixL w l (Cz.sumW 0 w) (rd_L2 l 0).length 0) (by omega) k (by omega), Option.bind_some, if_pos (Eq.refl true), show credenzalaw04_awake.f k = some true from A k (by omega)]
  rfl
theorem order_l0 (s : List Int) (l : List (List Int)) (top : Int) (h0 : 0 < s.length) (hn : s.length ≤ 40) (hl : l.length = s.length) (hz : Cz.mixR (Cz.weighL top s) l = 0) (d : Nat) : ∀ i : Nat, i + d = s.length →
    Ev (fun k => credenzalaw04_SoftOrder.l0 k s l (Cz.weighL top s) ((Cz.weighL top s).reverse.take i) (l.reverse.take i) (s.length : Int) (i : Int)) true := by
  have hw := Cz.weighL_length top s
  have hwr : (Cz.weighL top s).reverse.length = (Cz.weighL top s).length := List.length_reverse
  have hlr : l.reverse.length = l.length := List.length_reverse
  induction d with
  | zero =>
    intro i h
    obtain rfl : i = s.length := by omega
    refine Ev.step (fun k => ?_) (order_end s l (Cz.weighL top s) hz)
    simp only [credenzalaw04_SoftOrder.l0]
    rw [if_neg (by omega), List.take_of_length_le (by omega), List.take_of_length_le (by omega)]
  | succ d ih =>
    intro i h
    have e1 : wrap64 (wrap64 ((s.length : Int) - 1) - (i : Int)) = ((s.length - 1 - i : Nat) : Int) := by
      rw [Cz.w64 ((s.length : Int) - 1) (by omega) (by omega), Cz.w64 _ (by omega) (by omega)]; omega
    have e2 : rd (Cz.weighL top s) ((s.length - 1 - i : Nat) : Int) = rd (Cz.weighL top s).reverse (i : Int) := by rw [Cz.rd_rev _ i (by omega), hw]
    have e3 : rd_L2 l ((s.length - 1 - i : Nat) : Int) = rd_L2 l.reverse (i : Int) := by rw [Cz.rdL_rev l i (by omega), hl]
    have g1 : rd (Cz.weighL top s) (i : Int) = Cz.weigh top (rd s (i : Int)) := Cz.rd_map _ _ _ (by omega)
    have g0 : rd (Cz.weighL top s) 0 = Cz.weigh top (rd s 0) := Cz.rd_map (Cz.weigh top) s 0 h0
    have m1 : rd s (i : Int) ≤ rd s 0 → ¬ rd (Cz.weighL top s) (i : Int) > rd (Cz.weighL top s) 0 := fun c => by
      rw [g1, g0]; have := Cz.weigh_mono top c; omega
    have m2 : rd s (i : Int) ≥ rd s 0 → ¬ rd (Cz.weighL top s) (i : Int) < rd (Cz.weighL top s) 0 := fun c => by
      rw [g1, g0]; have := Cz.weigh_mono top c; omega
    refine Ev.step (fun k => ?_) (ih (i + 1) (by omega))
    simp only [credenzalaw04_SoftOrder.l0]
    rw [if_pos (by omega), e1, if_pos (by omega), if_pos (by omega)]
    simp only [Option.bind_some, List.length_singleton]
    rw [if_pos (by rw [List.length_take]; omega), if_pos (by omega), if_pos (by rw [List.length_take]; omega), if_pos (by omega), if_pos (by omega), if_pos (by omega), e2, e3, Cz.take_snoc _ i (by omega), Cz.takeL_snoc _ i (by omega), Cz.w64_succ i s.length (by omega) (by omega)]
    by_cases c : rd s (i : Int) ≤ rd s 0
    · rw [if_pos c, if_pos (by omega), if_pos (by omega), if_neg (m1 c)]
      by_cases c2 : rd s (i : Int) ≥ rd s 0
      · rw [if_pos c2, if_neg (m2 c2)]
      · rw [if_neg c2]
    · rw [if_neg c, if_pos (by omega), if_pos (by omega), if_pos (by omega), if_neg (m2 (by omega))]
theorem SoftOrder : ∀ (l0 : List Int) (l1 : List (List Int)), l0.length ≤ maxLen → (∀ x ∈ l0, (Lit.int .i32 x).wf = true) → l1.length ≤ maxLen → (∀ y ∈ l1, y.length ≤ maxLen ∧ ∀ x ∈ y, (Lit.int .i32 x).wf = true) → ∃ k, credenzalaw04_SoftOrder.f k l0 l1 = some true := by
  intro s l _ hs _ hl
  have hs := Cz.i32_of hs
  apply Ev.rounds (g := fun k => credenzalaw04_SoftOrder.f k s l)
  have J : Ev (fun k => credenzalaw04_SoftOrder.j0 k s l true) true := by
    refine Ev.step (fun k => ?_) awakeT
    simp only [credenzalaw04_SoftOrder.j0]
    rw [if_pos trivial]
  by_cases c0 : (s.length : Int) = 0
  · refine Ev.congr (fun k => ?_) J
    unfold credenzalaw04_SoftOrder.f
    rw [if_pos c0]
  by_cases c1 : (s.length : Int) > 40
  · refine Ev.congr (fun k => ?_) J
    unfold credenzalaw04_SoftOrder.f
    rw [if_neg c0, if_pos c1]
  by_cases c2 : (l.length : Int) = (s.length : Int)
  · obtain ⟨p, hp⟩ := Cz.first_ex s (by omega) (by omega)
    have hw := Cz.weighL_length (rd s (p : Int)) s
    refine Ev.congr (f := fun k => (credenzaref04_Weights.f k s).bind fun t230 => ((credenzaref04_Right.f k t230 l).bind fun t233 => (credenzalaw04_SoftOrder.j0 k s l (t233 != 0)))) (fun k => ?_) ?_
    · unfold credenzalaw04_SoftOrder.f
      rw [if_neg c0, if_neg c1, if_pos c2]
    refine Ev.bind (f := fun k t230 => ((credenzaref04_Right.f k t230 l).bind fun t233 => (credenzalaw04_SoftOrder.j0 k s l (t233 != 0)))) (evK 1000 (fun k hk => Cz.rweights_eq s (by omega) (by omega) hs k (by omega) p hp)) ?_
    refine Ev.bind (f := fun k t233 => (credenzalaw04_SoftOrder.j0 k s l (t233 != 0))) (evK (maxLen + 4000) (fun k hk => Cz.rmixrL_eq _ l maxLen (by decide) (fun y hy => (hl y hy).1) k hk)) ?_
    by_cases hz : Cz.mixR (Cz.weighL (rd s (p : Int)) s) l = 0
    · have E := order_l0 s l (rd s (p : Int)) (by omega) (by omega) (by omega) hz s.length 0 (Nat.zero_add _)
      rw [hz]
      refine Ev.step (f := fun k => (soft_Weights.f k s).bind fun bt235 => (if bt235.2 = 0 then (credenzalaw04_SoftOrder.j1 k s l bt235.1 ((bt235.1.length : Int) != (s.length : Int))) else (credenzalaw04_SoftOrder.j1 k s l bt235.1 true))) (fun k => ?_) ?_
      · simp only [credenzalaw04_SoftOrder.j0]
        rw [if_neg (by decide)]
      refine Ev.bind (f := fun k bt235 => (if bt235.2 = 0 then (credenzalaw04_SoftOrder.j1 k s l bt235.1 ((bt235.1.length : Int) != (s.length : Int))) else (credenzalaw04_SoftOrder.j1 k s l bt235.1 true))) (evK 1000 (fun k hk => Cz.weights_eq s (by omega) (by omega) hs k (by omega) p hp)) ?_
      refine Ev.step (fun k => ?_) E
      rw [if_pos (Eq.refl (0 : Int)), hw]
      simp only [credenzalaw04_SoftOrder.j1]
      rw [if_neg (by simp), List.take_zero, List.take_zero]
      rfl
    · rw [bne_iff_ne.mpr hz]; exact J
  · refine Ev.congr (fun k => ?_) J
    unfold credenzalaw04_SoftOrder.f
    rw [if_neg c0, if_neg c1, if_neg c2]

end Go.Proofs.Ytmndomlpdajjmac.Pure
