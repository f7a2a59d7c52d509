/- The opposite of a list, made even, is the opposite; the order of its numbers, with their gains, plays no part. No condition: for every input. -/
import Derived.Test.YtmndomlpdajjmacNox1
import Derived.Test.YtmndomlpdajjmacNox2
import Derived.Test.YtmndomlpdajjmacNox3
import Derived.Test.YtmndomlpdajjmacNox4
import Derived.Test.YtmndomlpdajjmacNox5
set_option linter.unusedVariables false
set_option linter.unusedSimpArgs false
namespace Go.Proofs.Ytmndomlpdajjmac.Pure
open Go.RowKit Go.Proofs.Ytmndomlpdajjmac.No Go.Proofs.YtmndomlpdajjmacW.PrintWords Go.Proofs.YtmndomlpdajjmacW.PrintLast
namespace Cz

/-- Divided by d, rounded, a half to the even one. -/
def rnd (a d : Int) : Int :=
  if a % d > d - a % d then a / d + 1 else if a % d = d - a % d ∧ (a / d) % 2 = 1 then a / d + 1 else a / d
/-- What is promised of a rounded fraction. -/
def Near (a d r : Int) : Prop := 2 * (a - r * d) ≤ d ∧ -d ≤ 2 * (a - r * d) ∧ ((2 * (a - r * d) = d ∨ 2 * (a - r * d) = -d) → r % 2 = 0)
theorem rnd_near (a d : Int) (hd : 0 < d) : Near a d (rnd a d) := by
  have h1 := Int.emod_add_mul_ediv a d
  have h2 := Int.emod_nonneg a (by omega : d ≠ 0)
  have h3 := Int.emod_lt_of_pos a hd
  unfold Near rnd
  generalize a % d = m at *
  generalize a / d = q at *
  have e1 : (q + 1) * d = d * q + d := by rw [Int.add_mul, Int.one_mul, Int.mul_comm]
  have e2 : q * d = d * q := Int.mul_comm _ _
  generalize hk : d * q = k at *
  split
  · rw [e1]; omega
  · split
    · rw [e1]; omega
    · rw [e2]; omega
theorem near_le {a b d r s : Int} (hd : 0 < d) (ha : Near a d r) (hb : Near b d s) (h : a ≤ b) : r ≤ s := by
  obtain ⟨a1, a2, a3⟩ := ha
  obtain ⟨b1, b2, b3⟩ := hb
  by_cases hlt : s < r
  · exfalso
    obtain ⟨k, rfl⟩ : ∃ k : Int, r = s + 1 + k := ⟨r - s - 1, by omega⟩
    have hk : 0 ≤ k := by omega
    have e1 : (s + 1 + k) * d = s * d + d + k * d := by rw [Int.add_mul, Int.add_mul, Int.one_mul]
    rw [e1] at a1 a2 a3
    have hkd : 0 ≤ k * d := Int.mul_nonneg hk (by omega)
    generalize s * d = sd at *
    by_cases h0 : k = 0
    · subst h0
      rw [Int.zero_mul] at *
      have := a3 (by omega)
      have := b3 (by omega)
      omega
    · have : d ≤ k * d := by
        have := Int.mul_le_mul_of_nonneg_right (show (1 : Int) ≤ k by omega) (show 0 ≤ d by omega)
        omega
      generalize k * d = kd at *
      omega
  · omega
theorem near_unique {a d r s : Int} (hd : 0 < d) (ha : Near a d r) (hb : Near a d s) : r = s :=
  Int.le_antisymm (near_le hd ha hb (Int.le_refl a)) (near_le hd hb ha (Int.le_refl a))
theorem rnd_unique {a d r : Int} (hd : 0 < d) (h : Near a d r) : rnd a d = r := near_unique hd (rnd_near a d hd) h
theorem rnd_mono {a b d : Int} (hd : 0 < d) (h : a ≤ b) : rnd a d ≤ rnd b d := near_le hd (rnd_near a d hd) (rnd_near b d hd) h
theorem near_neg {a d r : Int} (h : Near a d r) : Near (-a) d (-r) := by
  obtain ⟨h1, h2, h3⟩ := h
  unfold Near
  rw [Int.neg_mul]
  generalize r * d = k at *
  omega
theorem rnd_neg (a d : Int) (hd : 0 < d) : rnd (-a) d = -rnd a d := rnd_unique hd (near_neg (rnd_near a d hd))
theorem rnd_mul (q d : Int) (hd : 0 < d) : rnd (q * d) d = q := by
  apply rnd_unique hd
  unfold Near
  rw [Int.sub_self]
  omega
theorem rnd_ge {a d q : Int} (hd : 0 < d) (h : q * d ≤ a) : q ≤ rnd a d := by
  have := rnd_mono hd h
  rwa [rnd_mul q d hd] at this
theorem rnd_le {a d q : Int} (hd : 0 < d) (h : a ≤ q * d) : rnd a d ≤ q := by
  have := rnd_mono hd h
  rwa [rnd_mul q d hd] at this
theorem rnd_one (a : Int) : rnd a 1 = a := by
  have := rnd_mul a 1 (by omega)
  rwa [Int.mul_one] at this
theorem two_pow_pos (n : Nat) : (0 : Int) < 2 ^ n := Int.pow_pos (by omega)
theorem two_pow_le (m : Nat) (d : Nat) : (2 : Int) ^ m ≤ 2 ^ (m + d) := by
  induction d with
  | zero => exact Int.le_refl _
  | succ d ih =>
    have h := two_pow_pos (m + d)
    have e : (2 : Int) ^ (m + (d + 1)) = 2 * 2 ^ (m + d) := by rw [← Nat.add_assoc, Int.pow_succ, Int.mul_comm]
    omega
theorem two_pow_max {m n : Nat} (h : m ≤ n) : (2 : Int) ^ m ≤ 2 ^ n := by
  obtain ⟨d, rfl⟩ : ∃ d, n = m + d := ⟨n - m, by omega⟩
  exact two_pow_le m d
theorem two_pow_62 {m : Nat} (h : m ≤ 62) : (2 : Int) ^ m ≤ 4611686018427387904 := two_pow_max h
theorem two_pow_succ (n : Nat) : (2 : Int) ^ (n + 1) = 2 * 2 ^ n := by rw [Int.pow_succ, Int.mul_comm]
/-- r is the root of v. -/
def IsRoot (v r : Int) : Prop := 0 ≤ r ∧ r * r ≤ v ∧ v < (r + 1) * (r + 1)
theorem sq_le {a b : Int} (h0 : 0 ≤ a) (h : a ≤ b) : a * a ≤ b * b := Int.mul_le_mul h h h0 (by omega)
theorem root_le {v w r s : Int} (hr : IsRoot v r) (hs : IsRoot w s) (h : v ≤ w) : r ≤ s := by
  obtain ⟨r0, r1, r2⟩ := hr
  obtain ⟨s0, s1, s2⟩ := hs
  by_cases hlt : s < r
  · have := sq_le (by omega : 0 ≤ s + 1) (by omega : s + 1 ≤ r)
    omega
  · omega
theorem root_unique {v r s : Int} (hr : IsRoot v r) (hs : IsRoot v s) : r = s :=
  Int.le_antisymm (root_le hr hs (Int.le_refl v)) (root_le hs hr (Int.le_refl v))
theorem root_small {v r b : Int} (hr : IsRoot v r) (hb : 0 ≤ b) (h : v < (b + 1) * (b + 1)) : r ≤ b := by
  obtain ⟨r0, r1, r2⟩ := hr
  by_cases hlt : b < r
  · have := sq_le (by omega : 0 ≤ b + 1) (by omega : b + 1 ≤ r)
    omega
  · omega
/-- One bit of the root. -/
theorem root_bit {v x D : Int} (h : v < (x + 2 * D) * (x + 2 * D)) : v < (x + D + D) * (x + D + D) := by
  have : x + D + D = x + 2 * D := by omega
  rw [this]; exact h
theorem w64 (x : Int) (h0 : -9223372036854775808 ≤ x) (h1 : x ≤ 9223372036854775807) : wrap64 x = x := by unfold wrap64; omega
theorem w32 (x : Int) (h0 : -2147483648 ≤ x) (h1 : x ≤ 2147483647) : wrap32 x = x := by unfold wrap32; omega
theorem w64_sub (a b : Int) : wrap64 (a - wrap64 b) = wrap64 (a - b) := by unfold wrap64; omega
theorem wf32 {x : Int} (h : (Lit.int .i32 x).wf = true) : -2147483648 ≤ x ∧ x ≤ 2147483647 := by
  simp only [Lit.wf, IntKind.min, IntKind.max, IntKind.signed, IntKind.bits, Bool.and_eq_true, decide_eq_true_eq, if_true] at h
  omega
theorem and1 (x : Int) : Go.bits .and .i64 x 1 = x % 2 := by
  have h : (BitVec.ofInt 64 x &&& BitVec.ofInt 64 1).toNat = ((x % 2).toNat) := by
    have e : (BitVec.ofInt 64 1).toNat = 2 ^ 1 - 1 := by decide
    rw [BitVec.toNat_and, e, Nat.and_two_pow_sub_one_eq_mod, BitVec.toNat_ofInt]
    omega
  show IntKind.i64.wrap (((BitVec.ofInt 64 x &&& BitVec.ofInt 64 1).toNat : Nat) : Int) = _
  rw [h, IntKind.wrap_i64]
  omega
theorem mul_bound {a b A B : Int} (ha : -A ≤ a) (ha' : a ≤ A) (hb : -B ≤ b) (hb' : b ≤ B) : -(A * B) ≤ a * b ∧ a * b ≤ A * B := by
  have h1 : 0 ≤ (A - a) * (B + b) := Int.mul_nonneg (by omega) (by omega)
  have h2 : 0 ≤ (A + a) * (B - b) := Int.mul_nonneg (by omega) (by omega)
  have h3 : 0 ≤ (A - a) * (B - b) := Int.mul_nonneg (by omega) (by omega)
  have h4 : 0 ≤ (A + a) * (B + b) := Int.mul_nonneg (by omega) (by omega)
  simp only [Int.sub_mul, Int.mul_sub, Int.add_mul, Int.mul_add] at h1 h2 h3 h4
  generalize A * B = p at *
  generalize a * b = q at *
  generalize A * b = r at *
  generalize a * B = s at *
  omega
theorem div_bound (v D : Int) (hD : 1 ≤ D) : (0 ≤ v → 0 ≤ v / D ∧ v / D ≤ v) ∧ (v < 0 → v ≤ v / D ∧ v / D < 0) := by
  have h1 := Int.emod_add_mul_ediv v D
  have h2 := Int.emod_nonneg v (by omega : D ≠ 0)
  have h3 := Int.emod_lt_of_pos v (by omega : 0 < D)
  constructor
  · intro h
    exact ⟨Int.ediv_nonneg h (by omega), Int.ediv_le_self D h⟩
  · intro h
    have hn : v / D < 0 := Int.ediv_neg_of_neg_of_pos h (by omega)
    have : (v / D + 1) * (D - 1) ≤ 0 := Int.mul_nonpos_of_nonpos_of_nonneg (by omega) (by omega)
    rw [Int.mul_sub, Int.mul_one, Int.add_mul, Int.one_mul, Int.mul_comm (v / D)] at this
    omega
theorem div_half (v D : Int) (hD : 2 ≤ D) (h0 : -9223372036854775808 ≤ v) (h1 : v ≤ 9223372036854775807) : -4611686018427387904 ≤ v / D ∧ v / D ≤ 4611686018427387903 := by
  constructor
  · exact Int.le_ediv_of_mul_le (by omega) (by omega)
  · have : v / D < 4611686018427387904 := Int.ediv_lt_of_lt_mul (by omega) (by omega)
    omega
/-- Cut to a range. -/
def cutI (v lo hi : Int) : Int := if v < lo then lo else if v > hi then hi else v
def narrow (v : Int) : Int := cutI v (-8388608) 8388608
theorem narrow_range (v : Int) : -8388608 ≤ narrow v ∧ narrow v ≤ 8388608 := by unfold narrow cutI; omega
theorem cut_eq (v lo hi : Int) (h0 : -2147483648 ≤ lo) (h1 : lo ≤ hi) (h2 : hi ≤ 2147483647) : fix_cut.f v lo hi = some (cutI v lo hi) := by
  unfold fix_cut.f cutI mn mx wrap32
  congr 1
  split <;> split <;> (try split) <;> (try split) <;> omega
theorem narrow_eq (v : Int) : fix_Narrow.f v = some (narrow v) := by
  unfold fix_Narrow.f
  rw [cut_eq _ _ _ (by omega) (by omega) (by omega)]; rfl
theorem half_core (v : Int) (m : Nat) (hm : m ≤ 62) (h0 : -9223372036854775808 ≤ v) (h1 : v ≤ 9223372036854775807) :
    (if (wrap64 (v - (wrap64 ((v / 2 ^ m) * 2 ^ m)))) > ((wrap64 (2 ^ m)) / 2) then (some (wrap64 ((v / 2 ^ m) + 1))) else (if (wrap64 (v - (wrap64 ((v / 2 ^ m) * 2 ^ m)))) = ((wrap64 (2 ^ m)) / 2) then (if (m : Int) > 0 then (if (v / 2 ^ m) % 2 = 1 then (some (wrap64 ((v / 2 ^ m) + 1))) else (some (v / 2 ^ m))) else (some (v / 2 ^ m))) else (some (v / 2 ^ m)))) = some (rnd v (2 ^ m)) := by
  have hD : (2 : Int) ^ m ≤ 4611686018427387904 := two_pow_62 hm
  have hp := two_pow_pos m
  have e1 := Int.emod_add_mul_ediv v (2 ^ m)
  have e2 := Int.emod_nonneg v (by omega : (2 : Int) ^ m ≠ 0)
  have e3 := Int.emod_lt_of_pos v hp
  have e4 : v - (v / 2 ^ m) * 2 ^ m = v % 2 ^ m := by rw [Int.mul_comm]; omega
  rw [w64_sub, e4, w64 (v % 2 ^ m) (by omega) (by omega), w64 (2 ^ m) (by omega) (by omega)]
  rcases Nat.eq_zero_or_pos m with rfl | hpos
  · have e5 : v % 2 ^ 0 = 0 := by rw [Int.pow_zero]; omega
    rw [e5, Int.pow_zero, Int.ediv_one, rnd_one, if_neg (by decide), if_pos (by decide), if_neg (by decide)]
  · obtain ⟨n, rfl⟩ : ∃ n, m = n + 1 := ⟨m - 1, by omega⟩
    have hq := div_half v (2 ^ (n + 1)) (by have := two_pow_pos n; rw [two_pow_succ]; omega) h0 h1
    rw [w64 (v / 2 ^ (n + 1) + 1) (by omega) (by omega)]
    unfold rnd
    have e6 : (2 : Int) ^ (n + 1) / 2 = 2 ^ n := by rw [two_pow_succ]; omega
    have e7 := two_pow_succ n
    rw [e6]
    generalize v % 2 ^ (n + 1) = r at *
    generalize v / 2 ^ (n + 1) = q at *
    rw [e7]
    generalize (2 : Int) ^ n = d at *
    clear e1 e4 e6
    repeat' split
    all_goals first | rfl | (exfalso; omega)
/-- Half's power. -/
def pw (n : Int) : Nat := (mn (mx n 0) 62).toNat
theorem half_eq (v n : Int) (h0 : -9223372036854775808 ≤ v) (h1 : v ≤ 9223372036854775807) : fix_Half.f v n = some (rnd v (2 ^ pw n)) := by
  have hm : pw n ≤ 62 := by unfold pw mn mx; omega
  have := half_core v (pw n) hm h0 h1
  unfold fix_Half.f
  simp only [and1]
  rw [show (mn (mx n 0) 62 : Int) = (pw n : Int) from by unfold pw mn mx; omega]
  exact this
theorem tdiv_eq (a b : Int) (hb : 0 < b) : Int.tdiv a b = if a < 0 ∧ a % b ≠ 0 then a / b + 1 else a / b := by
  rw [Int.tdiv_eq_ediv]
  have hs : b.sign = 1 := Int.sign_eq_one_of_pos hb
  have hd : b ∣ a ↔ a % b = 0 := ⟨Int.emod_eq_zero_of_dvd, Int.dvd_of_emod_eq_zero⟩
  by_cases c : a < 0 ∧ a % b ≠ 0
  · rw [if_pos c, if_neg (by rw [hd]; omega), hs]
  · rw [if_neg c, if_pos (by rw [hd]; omega)]; omega
theorem tmod_eq (a b : Int) (hb : 0 < b) : Int.tmod a b = if a < 0 ∧ a % b ≠ 0 then a % b - b else a % b := by
  have h1 := Int.tmod_add_mul_tdiv a b
  have h2 := Int.emod_add_mul_ediv a b
  rw [tdiv_eq a b hb] at h1
  split at h1
  · rename_i c
    rw [if_pos c]
    rw [Int.mul_add, Int.mul_one] at h1
    omega
  · rename_i c
    rw [if_neg c]
    omega
theorem ratio_eq (a b : Int) (h0 : -9223372036854775808 ≤ a) (h1 : a ≤ 9223372036854775807) (hb : 0 < b) (hb1 : b ≤ 9223372036854775807) : fix_Ratio.f a b = some (rnd a b) := by
  have e2 := Int.emod_nonneg a (by omega : b ≠ 0)
  have e3 := Int.emod_lt_of_pos a hb
  have hq := div_bound a b (by omega)
  have hq2 := fun h => div_half a b h h0 h1
  unfold fix_Ratio.f rnd
  rw [if_neg (by omega), if_neg (by omega), tdiv_eq a b hb, tmod_eq a b hb]
  simp only [and1]
  generalize a % b = r at *
  generalize a / b = q at *
  by_cases c : a < 0 ∧ r ≠ 0
  · rw [if_pos c, if_pos c, if_pos (by omega), w64 (q + 1) (by omega) (by omega), show q + 1 - 1 = q from by omega, w64 q (by omega) (by omega), show r - b + b = r from by omega, w64 r (by omega) (by omega), w64 (b - r) (by omega) (by omega), w64 (q + 1) (by omega) (by omega)]
    repeat' split
    all_goals first | rfl | (exfalso; omega)
  · rw [if_neg c, if_neg c, if_neg (by omega), w64 q (by omega) (by omega), w64 (b - r) (by omega) (by omega)]
    by_cases c1 : 2 ≤ b
    · rw [w64 (q + 1) (by omega) (by omega)]
      repeat' split
      all_goals first | rfl | (exfalso; omega)
    · repeat' split
      all_goals first | rfl | (exfalso; omega)
theorem pw16 : (2 : Int) ^ pw 16 = 65536 := by decide
theorem mul_range (a b : Int) (ha : -2147483648 ≤ a ∧ a ≤ 2147483647) (hb : -2147483648 ≤ b ∧ b ≤ 2147483647) : -4611686018427387904 ≤ a * b ∧ a * b ≤ 4611686018427387904 :=
  mul_bound (A := 2147483648) (B := 2147483648) (by omega) (by omega) (by omega) (by omega)
theorem u64w (n : Int) (h0 : 0 ≤ n) (h1 : n < 18446744073709551616) : IntKind.u64.wrap n = n := by
  have : IntKind.u64.wrap n = n % 18446744073709551616 := by simp [IntKind.wrap, IntKind.bits, IntKind.signed]
  rw [this]; omega
theorem wraps_u64 (n : Int) (h0 : 0 ≤ n) (h1 : n < 2 ^ 64) : IntKind.u64.wrap n = n := u64w n h0 h1
set_option maxRecDepth 100000 in
def tab : ByteArray := ⟨#[0, 1, 2, 2, 3, 3, 3, 3, 4, 4, 4, 4, 4, 4, 4, 4, 5, 5, 5, 5, 5, 5, 5, 5, 5, 5, 5, 5, 5, 5, 5, 5, 6, 6, 6, 6, 6, 6, 6, 6, 6, 6, 6, 6, 6, 6, 6, 6, 6, 6, 6, 6, 6, 6, 6, 6, 6, 6, 6, 6, 6, 6, 6, 6, 7, 7, 7, 7, 7, 7, 7, 7, 7, 7, 7, 7, 7, 7, 7, 7, 7, 7, 7, 7, 7, 7, 7, 7, 7, 7, 7, 7, 7, 7, 7, 7, 7, 7, 7, 7, 7, 7, 7, 7, 7, 7, 7, 7, 7, 7, 7, 7, 7, 7, 7, 7, 7, 7, 7, 7, 7, 7, 7, 7, 7, 7, 7, 7, 8, 8, 8, 8, 8, 8, 8, 8, 8, 8, 8, 8, 8, 8, 8, 8, 8, 8, 8, 8, 8, 8, 8, 8, 8, 8, 8, 8, 8, 8, 8, 8, 8, 8, 8, 8, 8, 8, 8, 8, 8, 8, 8, 8, 8, 8, 8, 8, 8, 8, 8, 8, 8, 8, 8, 8, 8, 8, 8, 8, 8, 8, 8, 8, 8, 8, 8, 8, 8, 8, 8, 8, 8, 8, 8, 8, 8, 8, 8, 8, 8, 8, 8, 8, 8, 8, 8, 8, 8, 8, 8, 8, 8, 8, 8, 8, 8, 8, 8, 8, 8, 8, 8, 8, 8, 8, 8, 8, 8, 8, 8, 8, 8, 8, 8, 8, 8, 8, 8, 8, 8, 8, 8, 8, 8, 8, 8, 8]⟩
set_option maxRecDepth 100000 in
theorem tab_all : ∀ i : Fin 256, 0 ≤ bt tab (i.val : Int) ∧ bt tab (i.val : Int) ≤ 8 ∧ i.val < 2 ^ (bt tab (i.val : Int)).toNat := by decide +kernel
theorem tab_ok (i : Int) (h0 : 0 ≤ i) (h1 : i < 256) : ∃ t : Nat, bt tab i = (t : Int) ∧ t ≤ 8 ∧ i + 1 ≤ 2 ^ t := by
  obtain ⟨n, rfl⟩ := Int.eq_ofNat_of_zero_le h0
  obtain ⟨a, b, c⟩ := tab_all ⟨n, by omega⟩
  simp only at a b c
  refine ⟨(bt tab (n : Int)).toNat, by omega, by omega, ?_⟩
  have : ((n + 1 : Nat) : Int) ≤ ((2 ^ (bt tab (n : Int)).toNat : Nat) : Int) := by exact Int.ofNat_le.mpr c
  rwa [Int.natCast_pow] at this
theorem two_pow_split (a b : Nat) : (2 : Int) ^ (a + b) = 2 ^ a * 2 ^ b := Int.pow_add 2 a b
set_option maxRecDepth 100000 in
theorem len_j0 (k : Nat) (x n : Int) (h0 : 0 ≤ x) (h1 : x < 4294967296) (hn : 0 ≤ n) (hn1 : n ≤ 32) : ∃ m : Nat, bits_Len64.j0 (k + 1) x n = some (n + m) ∧ m ≤ 32 ∧ x < 2 ^ m := by
  have hu : bits_Len64.j0 (k + 1) x n = if x ≥ 65536 then (if (x / 65536) ≥ 256 then (if 0 ≤ (((x / 65536) / 256) % 256) then (if (((x / 65536) / 256) % 256) < 256 then (some (wrap64 ((wrap64 ((wrap64 (n + 16)) + 8)) + (wrap64 (bt tab (((x / 65536) / 256) % 256)))))) else (none)) else (none)) else (if 0 ≤ ((x / 65536) % 256) then (if ((x / 65536) % 256) < 256 then (some (wrap64 ((wrap64 (n + 16)) + (wrap64 (bt tab ((x / 65536) % 256)))))) else (none)) else (none))) else (if x ≥ 256 then (if 0 ≤ ((x / 256) % 256) then (if ((x / 256) % 256) < 256 then (some (wrap64 ((wrap64 (n + 8)) + (wrap64 (bt tab ((x / 256) % 256)))))) else (none)) else (none)) else (if 0 ≤ (x % 256) then (if (x % 256) < 256 then (some (wrap64 (n + (wrap64 (bt tab (x % 256)))))) else (none)) else (none))) := rfl
  rw [hu]
  clear hu
  rw [w64 (n + 16) (by omega) (by omega), w64 (n + 16 + 8) (by omega) (by omega), w64 (n + 8) (by omega) (by omega)]
  by_cases c1 : x ≥ 65536
  · rw [if_pos c1]
    by_cases c2 : x / 65536 ≥ 256
    · obtain ⟨t, et, ht, hx⟩ := tab_ok (x / 65536 / 256 % 256) (by omega) (by omega)
      rw [if_pos c2, if_pos (by omega), if_pos (by omega), et, w64 (t : Int) (by omega) (by omega), w64 _ (by omega) (by omega)]
      refine ⟨24 + t, by congr 1; omega, by omega, ?_⟩
      rw [two_pow_split]
      generalize (2 : Int) ^ t = p at *
      have : (2 : Int) ^ 24 = 16777216 := rfl
      omega
    · obtain ⟨t, et, ht, hx⟩ := tab_ok (x / 65536 % 256) (by omega) (by omega)
      rw [if_neg c2, if_pos (by omega), if_pos (by omega), et, w64 (t : Int) (by omega) (by omega), w64 _ (by omega) (by omega)]
      refine ⟨16 + t, by congr 1; omega, by omega, ?_⟩
      rw [two_pow_split]
      generalize (2 : Int) ^ t = p at *
      have : (2 : Int) ^ 16 = 65536 := rfl
      omega
  · rw [if_neg c1]
    by_cases c2 : x ≥ 256
    · obtain ⟨t, et, ht, hx⟩ := tab_ok (x / 256 % 256) (by omega) (by omega)
      rw [if_pos c2, if_pos (by omega), if_pos (by omega), et, w64 (t : Int) (by omega) (by omega), w64 _ (by omega) (by omega)]
      refine ⟨8 + t, by congr 1; omega, by omega, ?_⟩
      rw [two_pow_split]
      generalize (2 : Int) ^ t = p at *
      have : (2 : Int) ^ 8 = 256 := rfl
      omega
    · obtain ⟨t, et, ht, hx⟩ := tab_ok (x % 256) (by omega) (by omega)
      rw [if_neg c2, if_pos (by omega), if_pos (by omega), et, w64 (t : Int) (by omega) (by omega), w64 _ (by omega) (by omega)]
      exact ⟨t, rfl, by omega, by omega⟩
theorem len_ok (k : Nat) (v : Int) (h0 : 0 ≤ v) (h1 : v < 18446744073709551616) : ∃ m : Nat, bits_Len64.f (k + 1) v = some (m : Int) ∧ m ≤ 64 ∧ v < 2 ^ m := by
  unfold bits_Len64.f
  by_cases c : v ≥ 4294967296
  · rw [if_pos c]
    obtain ⟨m, e, hm, hx⟩ := len_j0 k (v / 4294967296) 32 (by omega) (by omega) (by omega) (by omega)
    refine ⟨32 + m, by rw [e]; congr 1, by omega, ?_⟩
    rw [two_pow_split]
    generalize (2 : Int) ^ m = p at *
    have : (2 : Int) ^ 32 = 4294967296 := rfl
    omega
  · rw [if_neg c]
    obtain ⟨m, e, hm, hx⟩ := len_j0 k v 0 (by omega) (by omega) (by omega) (by omega)
    exact ⟨m, by rw [e, Int.zero_add], by omega, hx⟩
theorem root_loop (v : Int) (hv : v < 18446744073709551616) (d : Nat) : ∀ (k : Nat) (x : Int), d < k → d ≤ 32 → 0 ≤ x → x % 2 ^ d = 0 → x + 2 ^ d ≤ 4294967296 → x * x ≤ v → v < (x + 2 ^ d) * (x + 2 ^ d) →
    ∃ r, expo_Root.l0 k v x ((d : Int) - 1) = some r ∧ IsRoot v r ∧ r ≤ 4294967295 := by
  induction d with
  | zero =>
    intro k x hk _ hx _ hb h1 h2
    obtain ⟨k, rfl⟩ : ∃ m, k = m + 1 := ⟨k - 1, by omega⟩
    rw [Int.pow_zero] at hb h2
    refine ⟨x, ?_, ⟨hx, h1, h2⟩, by omega⟩
    simp only [expo_Root.l0]
    rw [if_neg (by omega)]
  | succ d ih =>
    intro k x hk hd hx hm hb h1 h2
    obtain ⟨k, rfl⟩ : ∃ m, k = m + 1 := ⟨k - 1, by omega⟩
    have hp := two_pow_pos d
    have e2 := two_pow_succ d
    have hl : (2 : Int) ^ d ≤ 2147483648 := two_pow_max (n := 31) (by omega)
    have hs : shl .u64 1 (d : Int) = 2 ^ d := by
      unfold shl
      rw [Int.one_mul, show min (d : Int).toNat IntKind.u64.bits = d from by simp only [IntKind.bits]; omega]
      exact u64w _ (by omega) (by omega)
    have ho : Go.bits .or .u64 x (2 ^ d) = x + 2 ^ d :=
      bits_join .u64 64 (by decide) wraps_u64 (d + 1) x (2 ^ d) hx hm (by have : (2 : Int) ^ 64 = 18446744073709551616 := rfl; omega) (by omega) (by omega) (by have : (2 : Int) ^ 64 = 18446744073709551616 := rfl; omega)
    have hsq := sq_le (by omega : 0 ≤ x + 2 ^ d) (by omega : x + 2 ^ d ≤ 4294967295)
    have hsq0 := Int.mul_nonneg (by omega : 0 ≤ x + 2 ^ d) (by omega : 0 ≤ x + 2 ^ d)
    have hm' : x % 2 ^ d = 0 := by
      obtain ⟨c, hc⟩ := Int.dvd_of_emod_eq_zero hm
      rw [e2] at hc
      rw [hc, Int.mul_comm 2, Int.mul_assoc]
      exact Int.mul_emod_right _ _
    have hi : ((d + 1 : Nat) : Int) - 1 = (d : Int) := by omega
    rw [hi]
    simp only [expo_Root.l0]
    rw [if_pos (by omega), if_pos (by omega), hs, ho, u64w _ hsq0 (by omega), w64 ((d : Int) - 1) (by omega) (by omega)]
    by_cases c : (x + 2 ^ d) * (x + 2 ^ d) ≤ v
    · rw [if_pos c]
      refine ih k (x + 2 ^ d) (by omega) (by omega) (by omega) ?_ (by omega) c ?_
      · rw [Int.add_emod_right]; exact hm'
      · rw [e2] at h2; exact root_bit h2
    · rw [if_neg c]
      exact ih k x (by omega) (by omega) hx hm' (by omega) h1 (by omega)
theorem root_eq (v : Int) (h0 : 0 ≤ v) (h1 : v < 18446744073709551616) (k : Nat) (hk : 34 ≤ k) : ∃ r, expo_Root.f k v = some r ∧ IsRoot v r ∧ r ≤ 4294967295 := by
  obtain ⟨k, rfl⟩ : ∃ m, k = m + 1 := ⟨k - 1, by omega⟩
  obtain ⟨m, e, hm, hv⟩ := len_ok k v h0 h1
  unfold expo_Root.f
  rw [e]
  simp only [Option.bind_some]
  rw [w64 ((m : Int) - 1) (by omega) (by omega)]
  have key : ∃ d : Nat, Int.tdiv ((m : Int) - 1) 2 = (d : Int) - 1 ∧ d ≤ 32 ∧ 1 ≤ d ∧ m ≤ d + d := by
    rcases Nat.eq_zero_or_pos m with rfl | hp
    · exact ⟨1, by decide, by omega, by omega, by omega⟩
    · refine ⟨(m - 1) / 2 + 1, ?_, by omega, by omega, by omega⟩
      rw [Int.tdiv_eq_ediv_of_nonneg (by omega)]; omega
  obtain ⟨d, ed, hd, hd1, hmd⟩ := key
  rw [ed, w64 ((d : Int) - 1) (by omega) (by omega)]
  have hpd : (2 : Int) ^ d ≤ 4294967296 := two_pow_max (n := 32) hd
  refine root_loop v h1 d (k + 1) 0 (by omega) hd (by omega) (Int.zero_emod _) (by omega) (by omega) ?_
  rw [Int.zero_add, ← two_pow_split]
  exact Int.lt_of_lt_of_le hv (two_pow_max hmd)
theorem rsqrt_arg (v : Int) (hv : 1 ≤ v) : 0 ≤ (281474976710656 : Int) / v ∧ (281474976710656 : Int) / v ≤ 281474976710656 := ⟨Int.ediv_nonneg (by omega) (by omega), Int.ediv_le_self _ (by omega)⟩
theorem rsqrt_eq (v : Int) (h1 : v ≤ 9223372036854775807) (k : Nat) (hk : 34 ≤ k) : ∃ r, expo_Rsqrt.f k v = some r ∧ IsRoot (281474976710656 / mx v 1) r ∧ r ≤ 16777216 := by
  have hm : 1 ≤ mx v 1 ∧ mx v 1 ≤ 9223372036854775807 := by unfold mx; split <;> omega
  unfold expo_Rsqrt.f
  generalize mx v 1 = m at *
  have ha := rsqrt_arg m hm.1
  rw [u64w m (by omega) (by omega), if_neg (by omega), Int.tdiv_eq_ediv_of_nonneg (by omega), u64w _ ha.1 (by omega)]
  obtain ⟨r, e, hr, -⟩ := root_eq (281474976710656 / m) ha.1 (by omega) k hk
  have hb : r ≤ 16777216 := root_small hr (by omega) (by omega)
  rw [e]
  simp only [Option.bind_some]
  exact ⟨r, by rw [w32 r (by have := hr.1; omega) (by omega)], hr, hb⟩
theorem rd_drop (l : List Int) (i : Nat) (h : i < l.length) : l.drop i = rd l (i : Int) :: l.drop (i + 1) := by
  rw [List.drop_eq_getElem_cons h]
  congr 1
  unfold rd
  rw [Int.toNat_natCast, List.getD_eq_getElem?_getD, List.getElem?_eq_getElem h]
  rfl
theorem rd_mem (l : List Int) (i : Nat) (h : i < l.length) : rd l (i : Int) ∈ l := by
  have := rd_drop l i h
  exact List.mem_of_mem_drop (this ▸ List.mem_cons_self : rd l (i : Int) ∈ l.drop i)
theorem w64_succ (i n : Nat) (h : i < n) (hn : n ≤ 140737488351232) : wrap64 ((i : Int) + 1) = ((i + 1 : Nat) : Int) := by
  rw [w64 _ (by omega) (by omega)]; omega
/-- All numbers are of 32 bits. -/
def I32 (l : List Int) : Prop := ∀ x ∈ l, -2147483648 ≤ x ∧ x ≤ 2147483647
theorem i32_of {l : List Int} (h : ∀ x ∈ l, (Lit.int .i32 x).wf = true) : I32 l := fun x hx => wf32 (h x hx)
theorem set_take (l : List Int) (i : Nat) (v : Int) (h : i < l.length) : (l.set i v).take (i + 1) = l.take i ++ [v] := by
  rw [List.take_add_one, List.take_set, List.getElem?_set_self h, List.set_eq_of_length_le (by rw [List.length_take]; omega)]
  rfl
def badI (x : Int) : Bool := decide (x < -16777216) || decide (x > 16777216)
def mildB (l : List Int) : Bool := decide ((l.length : Int) ≤ 1024) && !(l.any badI)
theorem mild1_eq (x : Int) : dot_Mild_1.f x = some (badI x) := by
  unfold dot_Mild_1.f badI
  by_cases h : x < -16777216
  · rw [if_pos h, decide_eq_true h]; rfl
  · rw [if_neg h, decide_eq_false h]; rfl
theorem mild_index (l : List Int) (hl : l.length ≤ 140737488351232) (d : Nat) : ∀ (k i : Nat), i + d = l.length → d < k →
    ∃ r, slices_IndexFunc_int32_int32_of_dot_Mild_1.l0 k l (l.length : Int) (i : Int) = some r ∧ decide (r ≥ 0) = (l.drop i).any badI := by
  induction d with
  | zero =>
    intro k i h hk
    obtain ⟨k, rfl⟩ : ∃ m, k = m + 1 := ⟨k - 1, by omega⟩
    refine ⟨-1, ?_, ?_⟩
    · simp only [slices_IndexFunc_int32_int32_of_dot_Mild_1.l0]; rw [if_neg (by omega)]
    · rw [List.drop_of_length_le (by omega)]; rfl
  | succ d ih =>
    intro k i h hk
    obtain ⟨k, rfl⟩ : ∃ m, k = m + 1 := ⟨k - 1, by omega⟩
    simp only [slices_IndexFunc_int32_int32_of_dot_Mild_1.l0]
    rw [if_pos (by omega), if_pos (by omega), if_pos (by omega), mild1_eq, rd_drop l i (by omega), List.any_cons]
    simp only [Option.bind_some]
    by_cases hb : badI (rd l (i : Int)) = true
    · rw [if_pos hb, hb]
      exact ⟨_, rfl, by simp⟩
    · rw [if_neg hb, w64_succ i l.length (by omega) hl]
      obtain ⟨r, e, hr⟩ := ih k (i + 1) (by omega) (by omega)
      rw [Bool.not_eq_true] at hb
      exact ⟨r, e, by rw [hr, hb]; rfl⟩
theorem mild_eq (l : List Int) (k : Nat) (hk : 1025 < k) : dot_Mild.f k l = some (mildB l) := by
  unfold dot_Mild.f mildB
  by_cases h : (l.length : Int) ≤ 1024
  · rw [if_pos h, decide_eq_true h]
    obtain ⟨r, e, hr⟩ := mild_index l (by omega) l.length k 0 (by omega) (by omega)
    unfold slices_ContainsFunc_int32_int32_of_dot_Mild_1.f slices_IndexFunc_int32_int32_of_dot_Mild_1.f
    have e' : slices_IndexFunc_int32_int32_of_dot_Mild_1.l0 k l (l.length : Int) 0 = some r := e
    rw [e']
    simp only [Option.bind_some]
    rw [hr, List.drop_zero]; rfl
  · rw [if_neg h, decide_eq_false h]; rfl
theorem mild_mem {l : List Int} (h : mildB l = true) : (l.length : Int) ≤ 1024 ∧ ∀ x ∈ l, -16777216 ≤ x ∧ x ≤ 16777216 := by
  unfold mildB at h
  rw [Bool.and_eq_true, decide_eq_true_eq, Bool.not_eq_true', List.any_eq_false] at h
  refine ⟨h.1, fun x hx => ?_⟩
  have := h.2 x hx
  simp only [badI, Bool.or_eq_true, decide_eq_true_eq] at this
  omega
theorem mild_of {l : List Int} (h0 : (l.length : Int) ≤ 1024) (h : ∀ x ∈ l, -16777216 ≤ x ∧ x ≤ 16777216) : mildB l = true := by
  unfold mildB
  rw [Bool.and_eq_true, decide_eq_true_eq, Bool.not_eq_true', List.any_eq_false]
  refine ⟨h0, fun x hx => ?_⟩
  have := h x hx
  simp only [badI, Bool.or_eq_true, decide_eq_true_eq]
  omega
/-- The sum of the products. -/
def dotI : List Int → List Int → Int
  | x :: xs, y :: ys => x * y + dotI xs ys
  | _, _ => 0
theorem dotI_bound (A B : Int) (hA : 0 ≤ A) (hB : 0 ≤ B) : ∀ (a b : List Int), (∀ x ∈ a, -A ≤ x ∧ x ≤ A) → (∀ x ∈ b, -B ≤ x ∧ x ≤ B) → -(a.length * (A * B)) ≤ dotI a b ∧ dotI a b ≤ a.length * (A * B)
  | [], b, _, _ => by simp [dotI]
  | x :: xs, [], _, _ => by
    have : 0 ≤ ((x :: xs).length : Int) * (A * B) := Int.mul_nonneg (by omega) (Int.mul_nonneg hA hB)
    simp only [dotI]; omega
  | x :: xs, y :: ys, ha, hb => by
    have ih := dotI_bound A B hA hB xs ys (fun z hz => ha z (List.mem_cons_of_mem _ hz)) (fun z hz => hb z (List.mem_cons_of_mem _ hz))
    have h1 := ha x List.mem_cons_self
    have h2 := hb y List.mem_cons_self
    have h3 := mul_bound (a := x) (b := y) (A := A) (B := B) (by omega) (by omega) (by omega) (by omega)
    have e : (((x :: xs).length : Nat) : Int) * (A * B) = xs.length * (A * B) + A * B := by rw [List.length_cons, Int.natCast_succ, Int.add_mul, Int.one_mul]
    simp only [dotI]
    rw [e]
    omega
theorem shape_eq (a b : List Int) : dot_shape.f a b = some (if (a.length : Int) = (b.length : Int) then (if (a.length : Int) > 1024 then 12 else 0) else 25) := by
  unfold dot_shape.f
  repeat' split
  all_goals rfl
theorem dot_loop (a b : List Int) (hab : a.length = b.length) (hn : a.length ≤ 1024) (ha : ∀ x ∈ a, -16777216 ≤ x ∧ x ≤ 16777216) (hb : ∀ x ∈ b, -16777216 ≤ x ∧ x ≤ 16777216) (d : Nat) :
    ∀ (k i : Nat) (acc : Int), i + d = a.length → d < k → -(i * 281474976710656) ≤ acc → acc ≤ i * 281474976710656 →
      dot_Dot.l0 k b acc a (a.length : Int) (i : Int) = some (acc + dotI (a.drop i) (b.drop i), 0) := by
  induction d with
  | zero =>
    intro k i acc h hk _ _
    obtain ⟨k, rfl⟩ : ∃ m, k = m + 1 := ⟨k - 1, by omega⟩
    simp only [dot_Dot.l0]
    rw [if_neg (by omega), List.drop_of_length_le (by omega : a.length ≤ i)]
    simp [dotI]
  | succ d ih =>
    intro k i acc h hk h0 h1
    obtain ⟨k, rfl⟩ : ∃ m, k = m + 1 := ⟨k - 1, by omega⟩
    have hx := ha _ (rd_mem a i (by omega))
    have hy := hb _ (rd_mem b i (by omega))
    have hp := mul_bound (a := rd a (i : Int)) (b := rd b (i : Int)) (A := 16777216) (B := 16777216) (by omega) (by omega) (by omega) (by omega)
    simp only [dot_Dot.l0]
    rw [if_pos (by omega), if_pos (by omega), if_pos (by omega), if_pos (by omega), w64_succ i a.length (by omega) (by omega), w64 (rd a (i : Int)) (by omega) (by omega), w64 (rd b (i : Int)) (by omega) (by omega), w64 (rd a (i : Int) * rd b (i : Int)) (by omega) (by omega), w64 (acc + rd a (i : Int) * rd b (i : Int)) (by omega) (by omega)]
    rw [ih k (i + 1) _ (by omega) (by omega) (by omega) (by omega), rd_drop a i (by omega), rd_drop b i (by omega)]
    simp only [dotI]
    rw [Int.add_assoc]
/-- What Dot tells. -/
def dotR (a b : List Int) : Int × Int :=
  if (a.length : Int) = (b.length : Int) then (if (a.length : Int) > 1024 then (0, 12) else if mildB a = true ∧ mildB b = true then (dotI a b, 0) else (0, 11)) else (0, 25)
theorem dot_eq (a b : List Int) (k : Nat) (hk : 1027 < k) : dot_Dot.f k a b = some (dotR a b) := by
  obtain ⟨k, rfl⟩ : ∃ m, k = m + 1 := ⟨k - 1, by omega⟩
  unfold dot_Dot.f dotR
  rw [shape_eq, mild_eq a (k + 1) (by omega), mild_eq b (k + 1) (by omega)]
  simp only [Option.bind_some]
  by_cases h1 : (a.length : Int) = (b.length : Int)
  · rw [if_pos h1, if_pos h1]
    by_cases h2 : (a.length : Int) > 1024
    · rw [if_pos h2, if_pos h2, if_neg (by decide)]
    · rw [if_neg h2, if_neg h2, if_pos rfl]
      by_cases ma : mildB a = true
      · rw [if_pos ma]
        by_cases mb : mildB b = true
        · rw [if_pos ⟨ma, mb⟩, mb]
          simp only [dot_Dot.j0]
          rw [if_neg (by decide)]
          have := dot_loop a b (by omega) (by omega) (mild_mem ma).2 (mild_mem mb).2 a.length k 0 0 (by omega) (by omega) (by omega) (by omega)
          rw [List.drop_zero, List.drop_zero, Int.zero_add] at this
          exact this
        · rw [if_neg (fun h => mb h.2)]
          rw [Bool.not_eq_true] at mb
          rw [mb]
          simp only [dot_Dot.j0]
          rw [if_pos (by rfl)]
      · rw [if_neg ma, if_neg (fun h => ma h.1)]
        simp only [dot_Dot.j0]
        rw [if_pos trivial]
  · rw [if_neg h1, if_neg h1, if_neg (by decide)]
def prodG (x y : Int) : Int := narrow (rnd (x * y) 65536)
def eachR (g : Int → Int → Int) (a b : List Int) : List Int × Int :=
  if (a.length : Int) = (b.length : Int) then (if (a.length : Int) > 1024 then ([], 12) else (List.zipWith g a b, 0)) else ([], 25)
theorem product_eq (x y : Int) (hx : -2147483648 ≤ x ∧ x ≤ 2147483647) (hy : -2147483648 ≤ y ∧ y ≤ 2147483647) : dot_product.f x y = some (rnd (x * y) 65536) := by
  have h := mul_range x y hx hy
  unfold dot_product.f
  rw [w64 (x * y) (by omega) (by omega), half_eq _ _ (by omega) (by omega), pw16]; rfl
theorem product1_eq (x y : Int) (hx : -2147483648 ≤ x ∧ x ≤ 2147483647) (hy : -2147483648 ≤ y ∧ y ≤ 2147483647) : dot_product.f (wrap64 x) (wrap64 y) = some (rnd (x * y) 65536) := by
  rw [w64 x (by omega) (by omega), w64 y (by omega) (by omega), product_eq x y hx hy]
theorem times1_eq (x y z : Int) (hx : -2147483648 ≤ x ∧ x ≤ 2147483647) (hz : -2147483648 ≤ z ∧ z ≤ 2147483647) : dot_Times_1.f (wrap64 x) y z = some (rnd (x * z) 65536) := by
  unfold dot_Times_1.f
  rw [w64 x (by omega) (by omega), w64 z (by omega) (by omega), product_eq x z hx hz]; rfl
theorem zip_range (f : Int → Int → Int) (a b : List Int) : ∀ x ∈ List.zipWith (fun x y => narrow (f x y)) a b, -8388608 ≤ x ∧ x ≤ 8388608 := by
  induction a generalizing b with
  | nil => intro x hx; simp at hx
  | cons y ys ih =>
    cases b with
    | nil => intro x hx; simp at hx
    | cons z zs =>
      intro x hx
      rw [List.zipWith_cons_cons, List.mem_cons] at hx
      rcases hx with rfl | hx
      · exact narrow_range _
      · exact ih zs x hx
theorem each_by_loop (a b : List Int) (hab : a.length = b.length) (hn : a.length ≤ 140737488351232) (ha : I32 a) (hb : I32 b) (d : Nat) :
    ∀ (k i : Nat) (out : List Int), i + d = a.length → d < k → out.length = a.length →
      dot_each_of_dot_product.l0 k b out a (a.length : Int) (i : Int) = some (out.take i ++ List.zipWith prodG (a.drop i) (b.drop i), 0) := by
  induction d with
  | zero =>
    intro k i out h hk ho
    obtain ⟨k, rfl⟩ : ∃ m, k = m + 1 := ⟨k - 1, by omega⟩
    simp only [dot_each_of_dot_product.l0]
    rw [if_neg (by omega), List.drop_of_length_le (by omega : a.length ≤ i), List.take_of_length_le (by omega)]
    simp
  | succ d ih =>
    intro k i out h hk ho
    obtain ⟨k, rfl⟩ : ∃ m, k = m + 1 := ⟨k - 1, by omega⟩
    have hx := ha _ (rd_mem a i (by omega))
    have hy := hb _ (rd_mem b i (by omega))
    simp only [dot_each_of_dot_product.l0]
    rw [if_pos (by omega), if_pos (by omega), if_pos (by omega), if_pos (by omega), product1_eq _ _ hx hy]
    simp only [Option.bind_some]
    rw [narrow_eq]
    simp only [Option.bind_some]
    rw [if_pos (by omega), w64_succ i a.length (by omega) hn, Int.toNat_natCast, ih k (i + 1) _ (by omega) (by omega) (by rw [List.length_set]; exact ho), set_take _ _ _ (by omega), rd_drop a i (by omega), rd_drop b i (by omega), List.zipWith_cons_cons, List.append_assoc]
    rfl
theorem each_by_eq (a b : List Int) (ha : I32 a) (hb : I32 b) (k : Nat) (hk : 1025 < k) : dot_each_of_dot_product.f k a b = some (eachR prodG a b) := by
  unfold dot_each_of_dot_product.f eachR
  rw [shape_eq]
  simp only [Option.bind_some]
  by_cases h1 : (a.length : Int) = (b.length : Int)
  · rw [if_pos h1, if_pos h1]
    by_cases h2 : (a.length : Int) > 1024
    · rw [if_pos h2, if_pos h2, if_neg (by decide)]
    · rw [if_neg h2, if_neg h2, if_pos rfl, if_pos (by omega), if_pos (by omega)]
      have := each_by_loop a b (by omega) (by omega) ha hb a.length k 0 (List.replicate (a.length : Int).toNat 0) (by omega) (by omega) (by rw [List.length_replicate, Int.toNat_natCast])
      rw [List.drop_zero, List.drop_zero, List.take_zero, List.nil_append] at this
      exact this
  · rw [if_neg h1, if_neg h1, if_neg (by decide)]
theorem each_times_loop (a b : List Int) (hab : a.length = b.length) (hn : a.length ≤ 140737488351232) (ha : I32 a) (hb : I32 b) (z : Int) (hz : -2147483648 ≤ z ∧ z ≤ 2147483647) (d : Nat) :
    ∀ (k i : Nat) (out : List Int), i + d = a.length → d < k → out.length = a.length →
      dot_each_of_dot_Times_1.l0 k b out a (a.length : Int) (i : Int) z = some (out.take i ++ List.zipWith (fun x _ => prodG x z) (a.drop i) (b.drop i), 0) := by
  induction d with
  | zero =>
    intro k i out h hk ho
    obtain ⟨k, rfl⟩ : ∃ m, k = m + 1 := ⟨k - 1, by omega⟩
    simp only [dot_each_of_dot_Times_1.l0]
    rw [if_neg (by omega), List.drop_of_length_le (by omega : a.length ≤ i), List.take_of_length_le (by omega)]
    simp
  | succ d ih =>
    intro k i out h hk ho
    obtain ⟨k, rfl⟩ : ∃ m, k = m + 1 := ⟨k - 1, by omega⟩
    have hx := ha _ (rd_mem a i (by omega))
    have hy := hb _ (rd_mem b i (by omega))
    simp only [dot_each_of_dot_Times_1.l0]
    rw [if_pos (by omega), if_pos (by omega), if_pos (by omega), if_pos (by omega), times1_eq _ _ _ hx hz]
    simp only [Option.bind_some]
    rw [narrow_eq]
    simp only [Option.bind_some]
    rw [if_pos (by omega), w64_succ i a.length (by omega) hn, Int.toNat_natCast, ih k (i + 1) _ (by omega) (by omega) (by rw [List.length_set]; exact ho), set_take _ _ _ (by omega), rd_drop a i (by omega), rd_drop b i (by omega), List.zipWith_cons_cons, List.append_assoc]
    rfl
theorem each_times_eq (a b : List Int) (ha : I32 a) (hb : I32 b) (z : Int) (hz : -2147483648 ≤ z ∧ z ≤ 2147483647) (k : Nat) (hk : 1025 < k) : dot_each_of_dot_Times_1.f k a b z = some (eachR (fun x _ => prodG x z) a b) := by
  unfold dot_each_of_dot_Times_1.f eachR
  rw [shape_eq]
  simp only [Option.bind_some]
  by_cases h1 : (a.length : Int) = (b.length : Int)
  · rw [if_pos h1, if_pos h1]
    by_cases h2 : (a.length : Int) > 1024
    · rw [if_pos h2, if_pos h2, if_neg (by decide)]
    · rw [if_neg h2, if_neg h2, if_pos rfl, if_pos (by omega), if_pos (by omega)]
      have := each_times_loop a b (by omega) (by omega) ha hb z hz a.length k 0 (List.replicate (a.length : Int).toNat 0) (by omega) (by omega) (by rw [List.length_replicate, Int.toNat_natCast])
      rw [List.drop_zero, List.drop_zero, List.take_zero, List.nil_append] at this
      exact this
  · rw [if_neg h1, if_neg h1, if_neg (by decide)]
theorem dby_eq (a b : List Int) (ha : I32 a) (hb : I32 b) (k : Nat) (hk : 1025 < k) : dot_By.f k a b = some (eachR prodG a b) := by
  unfold dot_By.f; rw [each_by_eq a b ha hb k hk]; rfl
theorem dtimes_eq (a : List Int) (z : Int) (ha : I32 a) (hz : -2147483648 ≤ z ∧ z ≤ 2147483647) (k : Nat) (hk : 1025 < k) : dot_Times.f k a z = some (eachR (fun x _ => prodG x z) a a) := by
  unfold dot_Times.f; rw [each_times_eq a a ha ha z hz k hk]; rfl
theorem all_rd (l : List Int) (P : Int → Prop) (h : ∀ j : Nat, j < l.length → P (rd l (j : Int))) : ∀ x ∈ l, P x := by
  intro x hx
  obtain ⟨j, hj, rfl⟩ := List.mem_iff_getElem.mp hx
  have := h j hj
  unfold rd at this
  rwa [Int.toNat_natCast, List.getD_eq_getElem?_getD, List.getElem?_eq_getElem hj] at this
def narrowL (l : List Int) : List Int := l.map narrow
theorem narrowL_length (l : List Int) : (narrowL l).length = l.length := by unfold narrowL; rw [List.length_map]
theorem narrowL_range (l : List Int) : ∀ x ∈ narrowL l, -8388608 ≤ x ∧ x ≤ 8388608 := by
  intro x hx
  obtain ⟨y, -, rfl⟩ := List.mem_map.mp hx
  exact narrow_range y
theorem narrowL_i32 (l : List Int) : I32 (narrowL l) := fun x hx => by have := narrowL_range l x hx; omega
theorem narrowL_mild (l : List Int) (h : (l.length : Int) ≤ 1024) : mildB (narrowL l) = true :=
  mild_of (by rw [narrowL_length]; exact h) (fun x hx => by have := narrowL_range l x hx; omega)
theorem nnarrow_loop (l : List Int) (hn : l.length ≤ 140737488351232) (hl : I32 l) (d : Nat) : ∀ (k i : Nat) (out : List Int), i + d = l.length → d < k → out.length = l.length →
    norm_narrow.l0 k out l (l.length : Int) (i : Int) = some (out.take i ++ narrowL (l.drop i)) := by
  induction d with
  | zero =>
    intro k i out h hk ho
    obtain ⟨k, rfl⟩ : ∃ m, k = m + 1 := ⟨k - 1, by omega⟩
    simp only [norm_narrow.l0]
    rw [if_neg (by omega), List.drop_of_length_le (by omega : l.length ≤ i), List.take_of_length_le (by omega)]
    simp [narrowL]
  | succ d ih =>
    intro k i out h hk ho
    obtain ⟨k, rfl⟩ : ∃ m, k = m + 1 := ⟨k - 1, by omega⟩
    have hx := hl _ (rd_mem l i (by omega))
    simp only [norm_narrow.l0]
    rw [if_pos (by omega), if_pos (by omega), if_pos (by omega), w64 (rd l (i : Int)) (by omega) (by omega), narrow_eq]
    simp only [Option.bind_some]
    rw [if_pos (by omega), w64_succ i l.length (by omega) hn, Int.toNat_natCast, ih k (i + 1) _ (by omega) (by omega) (by rw [List.length_set]; exact ho), set_take _ _ _ (by omega), rd_drop l i (by omega), List.append_assoc]
    rfl
theorem nnarrow_eq (l : List Int) (hn : l.length ≤ 1000000) (hl : I32 l) (k : Nat) (hk : l.length < k) : norm_narrow.f k l = some (narrowL l) := by
  unfold norm_narrow.f
  rw [if_pos (by omega), if_pos (by omega)]
  have := nnarrow_loop l (by omega) hl l.length k 0 (List.replicate (l.length : Int).toNat 0) (by omega) (by omega) (by rw [List.length_replicate, Int.toNat_natCast])
  rw [List.drop_zero, List.take_zero, List.nil_append] at this
  exact this
theorem dotI_self (l : List Int) : 0 ≤ dotI l l := by
  induction l with
  | nil => exact Int.le_refl _
  | cons x xs ih =>
    simp only [dotI]
    have : 0 ≤ x * x := by
      rcases Int.le_total 0 x with h | h
      · exact Int.mul_nonneg h h
      · exact Int.mul_nonneg_of_nonpos_of_nonpos h h
    omega
/-- The sum of the squares. -/
def squares (l : List Int) : Int := dotI (narrowL l) (narrowL l)
theorem squares_range (l : List Int) (h : (l.length : Int) ≤ 1024) : 0 ≤ squares l ∧ squares l ≤ 72057594037927936 := by
  have h1 := dotI_self (narrowL l)
  have h2 := dotI_bound 8388608 8388608 (by omega) (by omega) (narrowL l) (narrowL l) (fun x hx => by have := narrowL_range l x hx; omega) (fun x hx => by have := narrowL_range l x hx; omega)
  rw [narrowL_length] at h2
  unfold squares
  omega
def sqI (l : List Int) : Int := rnd (rnd (squares l) (l.length : Int)) 65536 + 1
theorem sqI_range (l : List Int) (h0 : 0 < l.length) (h : (l.length : Int) ≤ 1024) : (0 ≤ rnd (squares l) (l.length : Int) ∧ rnd (squares l) (l.length : Int) ≤ 72057594037927936) ∧ 1 ≤ sqI l ∧ sqI l ≤ 72057594037927937 := by
  have hs := squares_range l h
  have g0 : 0 ≤ rnd (squares l) (l.length : Int) := rnd_ge (by omega) (by omega)
  have g1 : rnd (squares l) (l.length : Int) ≤ 72057594037927936 := rnd_le (by omega) (by have := Int.mul_le_mul_of_nonneg_left (show (1 : Int) ≤ (l.length : Int) by omega) (show (0 : Int) ≤ 72057594037927936 by omega); omega)
  have g2 : 0 ≤ rnd (rnd (squares l) (l.length : Int)) 65536 := rnd_ge (by omega) (by omega)
  have g3 : rnd (rnd (squares l) (l.length : Int)) 65536 ≤ 72057594037927936 := rnd_le (by omega) (by omega)
  unfold sqI
  omega
theorem nsquare_eq (l : List Int) (hn : l.length ≤ 1000000) (hl : I32 l) (k : Nat) (hk : l.length + 1100 < k) : norm_Square.f k l = some (if l.length = 0 ∨ (l.length : Int) > 1024 then 0 else sqI l) := by
  obtain ⟨k, rfl⟩ : ∃ m, k = m + 1 := ⟨k - 1, by omega⟩
  unfold norm_Square.f
  rw [nnarrow_eq l hn hl (k + 1) (by omega)]
  simp only [Option.bind_some]
  rw [dot_eq _ _ (k + 1) (by omega)]
  simp only [Option.bind_some]
  unfold dotR
  rw [narrowL_length, if_pos rfl]
  by_cases h1 : (l.length : Int) > 1024
  · rw [if_pos h1, if_pos (Or.inr h1), if_neg (by decide)]
    simp only [norm_Square.j0]
    rw [if_pos trivial]
  · have hm := narrowL_mild l (by omega)
    rw [if_neg h1, if_pos (show mildB (narrowL l) = true ∧ mildB (narrowL l) = true from ⟨hm, hm⟩), if_pos rfl]
    simp only [norm_Square.j0]
    by_cases h0 : l.length = 0
    · rw [if_pos (by rw [h0]; rfl), if_pos (Or.inl h0)]
    · have hs := squares_range l (by omega)
      have hq := sqI_range l (by omega) (by omega)
      rw [if_neg (by rw [beq_iff_eq]; omega), if_neg (by omega)]
      rw [show dotI (narrowL l) (narrowL l) = squares l from rfl, ratio_eq _ _ (by omega) (by omega) (by omega) (by omega)]
      simp only [Option.bind_some]
      rw [half_eq _ _ (by omega) (by omega), pw16]
      simp only [Option.bind_some]
      rw [w64 _ (by unfold sqI at hq; omega) (by unfold sqI at hq; omega)]
      rfl
/-- Made even by a reciprocal root. -/
def evenI (x gain : List Int) (r : Int) : List Int := List.zipWith prodG (List.zipWith (fun y _ => prodG y r) (narrowL x) (narrowL x)) gain
theorem prod_i32 (g : Int → Int → Int) (a b : List Int) : I32 (List.zipWith (fun x y => narrow (g x y)) a b) := fun x hx => by have := zip_range g a b x hx; omega
theorem neven_eq (x gain : List Int) (h0 : 0 < x.length) (h1 : (x.length : Int) ≤ 1024) (hg : (x.length : Int) = gain.length) (hx : I32 x) (hgain : I32 gain) (k : Nat) (hk : 2200 < k) :
    ∃ r, IsRoot (281474976710656 / mx (sqI x) 1) r ∧ r ≤ 16777216 ∧ norm_Even.f k x gain = some (evenI x gain r, 0) := by
  have hq := sqI_range x h0 h1
  obtain ⟨r, er, hr, hb⟩ := rsqrt_eq (sqI x) (by omega) k (by omega)
  refine ⟨r, hr, hb, ?_⟩
  have hr0 := hr.1
  unfold norm_Even.f
  rw [if_neg (by omega), if_neg (by omega), if_pos hg, nnarrow_eq x (by omega) hx k (by omega), nsquare_eq x (by omega) hx k (by omega), if_neg (by omega)]
  simp only [Option.bind_some]
  rw [er]
  simp only [Option.bind_some]
  rw [dtimes_eq _ r (narrowL_i32 x) (by omega) k (by omega)]
  simp only [Option.bind_some]
  have e1 : eachR (fun y _ => prodG y r) (narrowL x) (narrowL x) = (List.zipWith (fun y _ => prodG y r) (narrowL x) (narrowL x), 0) := by unfold eachR; rw [if_pos rfl, narrowL_length, if_neg (by omega)]
  have hz : (List.zipWith (fun y _ => prodG y r) (narrowL x) (narrowL x)).length = x.length := by rw [List.length_zipWith, narrowL_length]; omega
  have e2 : eachR prodG (List.zipWith (fun y _ => prodG y r) (narrowL x) (narrowL x)) gain = (evenI x gain r, 0) := by unfold eachR; rw [hz, if_pos hg, if_neg (by omega)]; rfl
  have hi : I32 (List.zipWith (fun y _ => prodG y r) (narrowL x) (narrowL x)) := prod_i32 (fun y _ => rnd (y * r) 65536) _ _
  rw [e1, if_pos rfl, dby_eq _ _ hi hgain k (by omega), e2]
  rfl
theorem narrow_neg (x : Int) : narrow (-x) = -narrow x := by
  unfold narrow cutI
  by_cases h1 : x < -8388608
  · rw [if_pos h1, if_neg (by omega), if_pos (by omega)]; omega
  · rw [if_neg h1]
    by_cases h2 : x > 8388608
    · rw [if_pos h2, if_pos (by omega)]
    · rw [if_neg h2, if_neg (by omega), if_neg (by omega)]
theorem prodG_neg (a b : Int) : prodG (-a) b = -prodG a b := by
  unfold prodG
  rw [Int.neg_mul, rnd_neg _ _ (by omega), narrow_neg]
def negL (l : List Int) : List Int := l.map (fun x => -x)
theorem negL_length (l : List Int) : (negL l).length = l.length := by unfold negL; rw [List.length_map]
theorem narrowL_neg (l : List Int) : narrowL (negL l) = negL (narrowL l) := by
  unfold narrowL negL
  rw [List.map_map, List.map_map]
  apply List.map_congr_left
  intro x _
  exact narrow_neg x
theorem dotI_neg : ∀ (a b : List Int), dotI (negL a) (negL b) = dotI a b
  | [], [] => rfl
  | [], _ :: _ => rfl
  | _ :: _, [] => rfl
  | x :: xs, y :: ys => by
    have := dotI_neg xs ys
    unfold negL at this ⊢
    simp only [List.map_cons, dotI]
    rw [this, Int.neg_mul_neg]
theorem sqI_neg (l : List Int) : sqI (negL l) = sqI l := by
  unfold sqI squares
  rw [narrowL_neg, dotI_neg, negL_length]
theorem zipprod_neg : ∀ (a g : List Int), List.zipWith prodG (negL a) g = negL (List.zipWith prodG a g)
  | [], _ => rfl
  | _ :: _, [] => rfl
  | x :: xs, y :: ys => by
    have := zipprod_neg xs ys
    unfold negL at this ⊢
    simp only [List.map_cons, List.zipWith_cons_cons]
    rw [this, prodG_neg]
theorem zipself (f : Int → Int) : ∀ a : List Int, List.zipWith (fun y _ => f y) a a = a.map f
  | [] => rfl
  | x :: xs => by simp only [List.zipWith_cons_cons, List.map_cons]; rw [zipself f xs]
theorem evenI_map (x gain : List Int) (r : Int) : evenI x gain r = List.zipWith prodG ((narrowL x).map (fun y => prodG y r)) gain := by
  unfold evenI
  rw [zipself (fun y => prodG y r)]
theorem evenI_neg (x gain : List Int) (r : Int) : evenI (negL x) gain r = negL (evenI x gain r) := by
  rw [evenI_map, evenI_map, narrowL_neg, ← zipprod_neg]
  congr 1
  unfold negL
  rw [List.map_map, List.map_map]
  apply List.map_congr_left
  intro y _
  exact prodG_neg y r
theorem zip_snoc (f : Int → Int → Int) : ∀ (a b : List Int) (x y : Int), a.length = b.length → List.zipWith f (a ++ [x]) (b ++ [y]) = List.zipWith f a b ++ [f x y]
  | [], [], _, _, _ => rfl
  | [], _ :: _, _, _, h => by simp at h
  | _ :: _, [], _, _, h => by simp at h
  | u :: us, v :: vs, x, y, h => by
    simp only [List.cons_append, List.zipWith_cons_cons]
    rw [zip_snoc f us vs x y (by simpa using h)]
theorem zip_rev (f : Int → Int → Int) : ∀ (a b : List Int), a.length = b.length → List.zipWith f a.reverse b.reverse = (List.zipWith f a b).reverse
  | [], [], _ => rfl
  | [], _ :: _, h => by simp at h
  | _ :: _, [], h => by simp at h
  | u :: us, v :: vs, h => by
    have h' : us.length = vs.length := by simpa using h
    simp only [List.reverse_cons, List.zipWith_cons_cons]
    rw [zip_snoc f _ _ _ _ (by rw [List.length_reverse, List.length_reverse]; exact h'), zip_rev f us vs h']
theorem dotI_snoc : ∀ (a b : List Int) (x y : Int), a.length = b.length → dotI (a ++ [x]) (b ++ [y]) = dotI a b + x * y
  | [], [], _, _, _ => by simp [dotI]
  | [], _ :: _, _, _, h => by simp at h
  | _ :: _, [], _, _, h => by simp at h
  | u :: us, v :: vs, x, y, h => by
    simp only [List.cons_append, dotI]
    rw [dotI_snoc us vs x y (by simpa using h), Int.add_assoc]
theorem dotI_rev : ∀ (a b : List Int), a.length = b.length → dotI a.reverse b.reverse = dotI a b
  | [], [], _ => rfl
  | [], _ :: _, h => by simp at h
  | _ :: _, [], h => by simp at h
  | u :: us, v :: vs, h => by
    have h' : us.length = vs.length := by simpa using h
    simp only [List.reverse_cons, dotI]
    rw [dotI_snoc _ _ _ _ (by rw [List.length_reverse, List.length_reverse]; exact h'), dotI_rev us vs h', Int.add_comm]
theorem narrowL_rev (l : List Int) : narrowL l.reverse = (narrowL l).reverse := by unfold narrowL; rw [List.map_reverse]
theorem sqI_rev (l : List Int) : sqI l.reverse = sqI l := by
  unfold sqI squares
  rw [narrowL_rev, dotI_rev _ _ rfl, List.length_reverse]
theorem evenI_rev (x gain : List Int) (r : Int) (h : x.length = gain.length) : evenI x.reverse gain.reverse r = (evenI x gain r).reverse := by
  rw [evenI_map, evenI_map, narrowL_rev, List.map_reverse, zip_rev _ _ _ (by rw [List.length_map, narrowL_length]; exact h)]
theorem evenI_length (x gain : List Int) (r : Int) (h : x.length = gain.length) : (evenI x gain r).length = x.length := by
  rw [evenI_map, List.length_zipWith, List.length_map, narrowL_length]; omega
theorem evenI_range (x gain : List Int) (r : Int) : ∀ y ∈ evenI x gain r, -8388608 ≤ y ∧ y ≤ 8388608 := zip_range (fun x y => rnd (x * y) 65536) _ _
theorem rd_rev (l : List Int) (i : Nat) (h : i < l.length) : rd l.reverse (i : Int) = rd l ((l.length - 1 - i : Nat) : Int) := by
  unfold rd
  rw [Int.toNat_natCast, Int.toNat_natCast, List.getD_eq_getElem?_getD, List.getD_eq_getElem?_getD, List.getElem?_reverse h]
theorem take_snoc (l : List Int) (i : Nat) (h : i < l.length) : l.take i ++ [rd l (i : Int)] = l.take (i + 1) := by
  rw [List.take_succ_eq_append_getElem h]
  congr 1
  unfold rd
  rw [Int.toNat_natCast, List.getD_eq_getElem?_getD, List.getElem?_eq_getElem h]
  rfl
theorem rd_negL (l : List Int) (i : Nat) (h : i < l.length) : rd (negL l) (i : Int) = -rd l (i : Int) := by
  unfold rd negL
  rw [Int.toNat_natCast, List.getD_eq_getElem?_getD, List.getD_eq_getElem?_getD, List.getElem?_map, List.getElem?_eq_getElem h]
  rfl
theorem neven_ev (x gain : List Int) (h0 : 0 < x.length) (h1 : (x.length : Int) ≤ 1024) (hg : (x.length : Int) = gain.length) (hx : I32 x) (hgain : I32 gain) :
    ∃ r, IsRoot (281474976710656 / mx (sqI x) 1) r ∧ ∀ k, 2200 < k → norm_Even.f k x gain = some (evenI x gain r, 0) := by
  obtain ⟨r, hr, _, _⟩ := neven_eq x gain h0 h1 hg hx hgain 2201 (by omega)
  refine ⟨r, hr, fun k hk => ?_⟩
  obtain ⟨s, hs, _, e⟩ := neven_eq x gain h0 h1 hg hx hgain k hk
  rw [root_unique hr hs]; exact e
end Cz

theorem evK {α : Type} {g : Nat → Option α} {r : α} (K : Nat) (h : ∀ k, K < k → g k = some r) : Ev g r := ⟨K + 1, fun k hk => h k (by omega)⟩
theorem awakeEv : Ev (fun k => credenzalaw15_awake.f k) true := Ev.of credenzalaw15_awake.mono (k := 1200) (by decide +kernel)
theorem awakeT : Ev (fun k => (credenzalaw15_awake.f k).bind fun t => some t) true := Ev.bind (f := fun _ t => some t) awakeEv (Ev.now true)
theorem odd_l1 (x l : List Int) (hl : l.length = x.length) (hn : x.length ≤ 200) (hr : ∀ y ∈ l, -8388608 ≤ y ∧ y ≤ 8388608) (d : Nat) : ∀ i : Nat, i + d = l.length →
    Ev (fun k => credenzalaw15_NormOdd.l1 k x l (Cz.negL l) l.reverse (l.length : Int) (i : Int)) true := by
  induction d with
  | zero =>
    intro i h
    refine Ev.step (fun k => ?_) awakeT
    simp only [credenzalaw15_NormOdd.l1]
    rw [if_neg (by omega)]
  | succ d ih =>
    intro i h
    have hv := hr _ (Cz.rd_mem l i (by omega))
    have hln := Cz.negL_length l
    have hlr : l.reverse.length = l.length := List.length_reverse
    have e1 : wrap64 (wrap64 ((x.length : Int) - 1) - (i : Int)) = ((l.length - 1 - i : Nat) : Int) := by
      rw [Cz.w64 ((x.length : Int) - 1) (by omega) (by omega), Cz.w64 _ (by omega) (by omega)]; omega
    have e2 : rd l.reverse ((l.length - 1 - i : Nat) : Int) = rd l (i : Int) := by
      rw [Cz.rd_rev l _ (by omega), show l.length - 1 - (l.length - 1 - i) = i from by omega]
    refine Ev.step (fun k => ?_) (ih (i + 1) (by omega))
    simp only [credenzalaw15_NormOdd.l1]
    rw [if_pos (by omega), if_pos (by omega), if_pos (by omega), if_pos (by omega), Cz.rd_negL l i (by omega), Cz.w32 _ (by omega) (by omega), if_pos (Eq.refl _), e1, e2, if_pos (by omega), if_pos (by omega), if_pos (Eq.refl _), Cz.w64_succ i l.length (by omega) (by omega)]
theorem odd_l0 (x gain : List Int) (h0 : 0 < x.length) (hn : x.length ≤ 200) (hg : gain.length = x.length) (hx : Cz.I32 x) (hgain : Cz.I32 gain) (d : Nat) : ∀ i : Nat, i + d = x.length → (∀ j : Nat, j < i → rd x (j : Int) ≠ -2147483648) →
    Ev (fun k => credenzalaw15_NormOdd.l0 k x gain (Cz.negL (x.take i)) (x.reverse.take i) (gain.reverse.take i) (x.length : Int) (i : Int)) true := by
  induction d with
  | zero =>
    intro i h hm
    obtain rfl : i = x.length := by omega
    have hlr : x.reverse.length = x.length := List.length_reverse
    have hgr : gain.reverse.length = gain.length := List.length_reverse
    have hln := Cz.negL_length x
    rw [List.take_length, List.take_of_length_le (by omega), List.take_of_length_le (by omega)]
    have hm' := Cz.all_rd x (fun y => y ≠ -2147483648) hm
    have hxn : Cz.I32 (Cz.negL x) := by
      intro y hy
      unfold Cz.negL at hy
      obtain ⟨z, hz, rfl⟩ := List.mem_map.mp hy
      have := hx z hz
      have := hm' z hz
      show -2147483648 ≤ -z ∧ -z ≤ 2147483647
      omega
    have hxr : Cz.I32 x.reverse := fun y hy => hx y (List.mem_reverse.mp hy)
    have hgrr : Cz.I32 gain.reverse := fun y hy => hgain y (List.mem_reverse.mp hy)
    obtain ⟨r, r1, r2⟩ := Cz.neven_ev x gain h0 (by omega) (by omega) hx hgain
    obtain ⟨s, s1, s2⟩ := Cz.neven_ev (Cz.negL x) gain (by omega) (by omega) (by omega) hxn hgain
    obtain ⟨t, t1, t2⟩ := Cz.neven_ev x.reverse gain.reverse (by omega) (by omega) (by omega) hxr hgrr
    rw [Cz.sqI_neg] at s1
    rw [Cz.sqI_rev] at t1
    obtain rfl := Cz.root_unique r1 s1
    obtain rfl := Cz.root_unique r1 t1
    have q1 := Cz.nsquare_eq x (by omega) hx
    have q2 := Cz.nsquare_eq x.reverse (by omega) hxr
    rw [hlr, Cz.sqI_rev] at q2
    rw [Cz.evenI_neg] at s2
    rw [Cz.evenI_rev x gain r hg.symm] at t2
    have hel := Cz.evenI_length x gain r hg.symm
    have her := Cz.evenI_range x gain r
    generalize Cz.evenI x gain r = l at *
    have hnl := Cz.negL_length l
    have hrl : l.reverse.length = l.length := List.length_reverse
    have E := odd_l1 x l hel hn her l.length 0 (Nat.zero_add _)
    obtain ⟨K, E⟩ := E
    refine ⟨K + 3000, fun k hk => ?_⟩
    obtain ⟨k, rfl⟩ : ∃ m, k = m + 1 := ⟨k - 1, by omega⟩
    simp only [credenzalaw15_NormOdd.l0]
    rw [if_neg (by omega), r2 k (by omega), s2 k (by omega), t2 k (by omega)]
    simp only [Option.bind_some]
    rw [if_pos trivial, if_pos trivial, if_pos trivial, if_pos (by omega), if_pos (by omega), if_pos (by omega), q1 k (by omega), q2 k (by omega)]
    simp only [Option.bind_some, bne_self_eq_false]
    obtain ⟨k, rfl⟩ : ∃ m, k = m + 1 := ⟨k - 1, by omega⟩
    simp only [credenzalaw15_NormOdd.j2]
    rw [if_neg (by decide)]
    exact E k (by omega)
  | succ d ih =>
    intro i h hm
    have hlr : x.reverse.length = x.length := List.length_reverse
    have hgr : gain.reverse.length = gain.length := List.length_reverse
    by_cases c : rd x (i : Int) = -2147483648
    · refine Ev.step (fun k => ?_) awakeT
      simp only [credenzalaw15_NormOdd.l0]
      rw [if_pos (by omega), if_pos (by omega), if_pos (by omega), if_pos c]
    · have hv := hx _ (Cz.rd_mem x i (by omega))
      have e1 : wrap64 (wrap64 ((x.length : Int) - 1) - (i : Int)) = ((x.length - 1 - i : Nat) : Int) := by
        rw [Cz.w64 ((x.length : Int) - 1) (by omega) (by omega), Cz.w64 _ (by omega) (by omega)]; omega
      have e2 : rd x ((x.length - 1 - i : Nat) : Int) = rd x.reverse (i : Int) := (Cz.rd_rev x i (by omega)).symm
      have e3 : rd gain ((x.length - 1 - i : Nat) : Int) = rd gain.reverse (i : Int) := by rw [Cz.rd_rev gain i (by omega), hg]
      have e4 : Cz.negL (x.take i) ++ [-rd x (i : Int)] = Cz.negL (x.take (i + 1)) := by
        rw [← Cz.take_snoc x i (by omega)]; unfold Cz.negL; rw [List.map_append]; rfl
      refine Ev.step (fun k => ?_) (ih (i + 1) (by omega) (fun j hj => ?_))
      · simp only [credenzalaw15_NormOdd.l0]
        rw [if_pos (by omega), if_pos (by omega), if_pos (by omega), if_neg c]
        simp only [Option.bind_some, List.length_singleton]
        rw [if_pos (by rw [Cz.negL_length, List.length_take]; omega), e1, if_pos (by omega), if_pos (by omega), if_pos (by rw [List.length_take]; omega), if_pos (by omega), if_pos (by rw [List.length_take]; omega), e2, e3, Cz.w32 _ (by omega) (by omega), e4, Cz.take_snoc x.reverse i (by omega), Cz.take_snoc gain.reverse i (by omega), Cz.w64_succ i x.length (by omega) (by omega)]
      · rcases Nat.lt_succ_iff_lt_or_eq.mp hj with h4 | rfl
        · exact hm j h4
        · exact c
theorem NormOdd : credenzalaw15_NormOdd.Pure := by
  intro x gain _ _ hx _ _ hg
  have hx := Cz.i32_of hx
  have hg := Cz.i32_of hg
  apply Ev.rounds (g := fun k => credenzalaw15_NormOdd.f k x gain)
  have J : Ev (fun k => credenzalaw15_NormOdd.j0 k x gain true) true := by
    refine Ev.step (fun k => ?_) awakeT
    simp only [credenzalaw15_NormOdd.j0]
    rw [if_pos trivial]
  by_cases c0 : (x.length : Int) = 0
  · refine Ev.congr (fun k => ?_) J
    unfold credenzalaw15_NormOdd.f
    rw [if_pos c0]
  by_cases c1 : (x.length : Int) > 200
  · refine Ev.congr (fun k => ?_) J
    unfold credenzalaw15_NormOdd.f
    rw [if_neg c0, if_pos c1]
  by_cases c2 : (gain.length : Int) = (x.length : Int)
  · have E := odd_l0 x gain (by omega) (by omega) (by omega) hx hg x.length 0 (Nat.zero_add _) (fun j hj => by omega)
    refine Ev.congr (f := fun k => credenzalaw15_NormOdd.j0 k x gain false) (fun k => ?_) (Ev.step (fun k => ?_) E)
    · unfold credenzalaw15_NormOdd.f
      rw [if_neg c0, if_neg c1, c2]
      simp
    · simp only [credenzalaw15_NormOdd.j0]
      rw [if_neg (by decide), List.take_zero, List.take_zero, List.take_zero]
      rfl
  · refine Ev.congr (fun k => ?_) J
    unfold credenzalaw15_NormOdd.f
    rw [if_neg c0, if_neg c1, bne_iff_ne.mpr c2]

end Go.Proofs.Ytmndomlpdajjmac.Pure
