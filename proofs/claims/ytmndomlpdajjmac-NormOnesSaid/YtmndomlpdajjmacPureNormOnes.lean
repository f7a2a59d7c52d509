/- A list of one number alone, by gains of 1, made even is a list of one number alone, which is 0, or has its sign. No condition: for every input. -/
import Derived.Test.YtmndomlpdajjmacQx1
import Derived.Test.YtmndomlpdajjmacQx10
import Derived.Test.YtmndomlpdajjmacQx13
import Derived.Test.YtmndomlpdajjmacQx2
import Derived.Test.YtmndomlpdajjmacQx3
import Derived.Test.YtmndomlpdajjmacQx6
import Derived.Test.YtmndomlpdajjmacQx7
import Derived.Test.YtmndomlpdajjmacQx8
import Derived.Test.YtmndomlpdajjmacQx9
set_option linter.unusedVariables false
set_option linter.unusedSimpArgs false
namespace Go.Proofs.Ytmndomlpdajjmac.Pure
open Go.RowKit Go.Proofs.Ytmndomlpdajjmac.Q Go.Proofs.YtmndomlpdajjmacW.PrintWords Go.Proofs.YtmndomlpdajjmacW.PrintLast
namespace Cz

/-- Divided by d, rounded, a half to the even one. -/
def rnd (a d : Int) : Int :=
  if a % d > d - a % d then a / d + 1 else if a % d = d - a % d ∧ (a / d) % 2 = 1 then a / d + 1 else a / d
/-- What is promised of a rounded fraction. -/
def Near (a d r : Int) : Prop := 2 * (a - r * d) ≤ d ∧ -d ≤ 2 * (a - r * d) ∧ ((2 * (a - r * d) = d ∨ 2 * (a - r * d) = -d) → r % 2 = 0)
theorem rnd_near (a d : Int) (hd : 0 < d) : Near a d (rnd a d) := by
  have h1 := Int.emod_add_mul_ediv a d
  have h2 := Int.emod_nonneg a (by omega : d ≠ 0)
  have h3 := Int.emod_lt_of_pos a hd
  unfold Near rnd
  generalize a % d = m at *
  generalize a / d = q at *
  have e1 : (q + 1) * d = d * q + d := by rw [Int.add_mul, Int.one_mul, Int.mul_comm]
  have e2 : q * d = d * q := Int.mul_comm _ _
  generalize hk : d * q = k at *
  split
  · rw [e1]; omega
  · split
    · rw [e1]; omega
    · rw [e2]; omega
theorem near_le {a b d r s : Int} (hd : 0 < d) (ha : Near a d r) (hb : Near b d s) (h : a ≤ b) : r ≤ s := by
  obtain ⟨a1, a2, a3⟩ := ha
  obtain ⟨b1, b2, b3⟩ := hb
  by_cases hlt : s < r
  · exfalso
    obtain ⟨k, rfl⟩ : ∃ k : Int, r = s + 1 + k := ⟨r - s - 1, by omega⟩
    have hk : 0 ≤ k := by omega
    have e1 : (s + 1 + k) * d = s * d + d + k * d := by rw [Int.add_mul, Int.add_mul, Int.one_mul]
    rw [e1] at a1 a2 a3
    have hkd : 0 ≤ k * d := Int.mul_nonneg hk (by omega)
    generalize s * d = sd at *
    by_cases h0 : k = 0
    · subst h0
      rw [Int.zero_mul] at *
      have := a3 (by omega)
      have := b3 (by omega)
      omega
    · have : d ≤ k * d := by
        have := Int.mul_le_mul_of_nonneg_right (show (1 : Int) ≤ k by omega) (show 0 ≤ d by omega)
        omega
      generalize k * d = kd at *
      omega
  · omega
theorem near_unique {a d r s : Int} (hd : 0 < d) (ha : Near a d r) (hb : Near a d s) : r = s :=
  Int.le_antisymm (near_le hd ha hb (Int.le_refl a)) (near_le hd hb ha (Int.le_refl a))
theorem rnd_unique {a d r : Int} (hd : 0 < d) (h : Near a d r) : rnd a d = r := near_unique hd (rnd_near a d hd) h
theorem rnd_mono {a b d : Int} (hd : 0 < d) (h : a ≤ b) : rnd a d ≤ rnd b d := near_le hd (rnd_near a d hd) (rnd_near b d hd) h
theorem rnd_mul (q d : Int) (hd : 0 < d) : rnd (q * d) d = q := by
  apply rnd_unique hd
  unfold Near
  rw [Int.sub_self]
  omega
theorem rnd_ge {a d q : Int} (hd : 0 < d) (h : q * d ≤ a) : q ≤ rnd a d := by
  have := rnd_mono hd h
  rwa [rnd_mul q d hd] at this
theorem rnd_le {a d q : Int} (hd : 0 < d) (h : a ≤ q * d) : rnd a d ≤ q := by
  have := rnd_mono hd h
  rwa [rnd_mul q d hd] at this
theorem rnd_one (a : Int) : rnd a 1 = a := by
  have := rnd_mul a 1 (by omega)
  rwa [Int.mul_one] at this
theorem two_pow_pos (n : Nat) : (0 : Int) < 2 ^ n := Int.pow_pos (by omega)
theorem two_pow_le (m : Nat) (d : Nat) : (2 : Int) ^ m ≤ 2 ^ (m + d) := by
  induction d with
  | zero => exact Int.le_refl _
  | succ d ih =>
    have h := two_pow_pos (m + d)
    have e : (2 : Int) ^ (m + (d + 1)) = 2 * 2 ^ (m + d) := by rw [← Nat.add_assoc, Int.pow_succ, Int.mul_comm]
    omega
theorem two_pow_max {m n : Nat} (h : m ≤ n) : (2 : Int) ^ m ≤ 2 ^ n := by
  obtain ⟨d, rfl⟩ : ∃ d, n = m + d := ⟨n - m, by omega⟩
  exact two_pow_le m d
theorem two_pow_62 {m : Nat} (h : m ≤ 62) : (2 : Int) ^ m ≤ 4611686018427387904 := two_pow_max h
theorem two_pow_61 {m : Nat} (h : m ≤ 61) : (2 : Int) ^ m ≤ 2305843009213693952 := two_pow_max h
theorem two_pow_succ (n : Nat) : (2 : Int) ^ (n + 1) = 2 * 2 ^ n := by rw [Int.pow_succ, Int.mul_comm]
/-- r is the root of v. -/
def IsRoot (v r : Int) : Prop := 0 ≤ r ∧ r * r ≤ v ∧ v < (r + 1) * (r + 1)
theorem sq_le {a b : Int} (h0 : 0 ≤ a) (h : a ≤ b) : a * a ≤ b * b := Int.mul_le_mul h h h0 (by omega)
theorem root_le {v w r s : Int} (hr : IsRoot v r) (hs : IsRoot w s) (h : v ≤ w) : r ≤ s := by
  obtain ⟨r0, r1, r2⟩ := hr
  obtain ⟨s0, s1, s2⟩ := hs
  by_cases hlt : s < r
  · have := sq_le (by omega : 0 ≤ s + 1) (by omega : s + 1 ≤ r)
    omega
  · omega
theorem root_unique {v r s : Int} (hr : IsRoot v r) (hs : IsRoot v s) : r = s :=
  Int.le_antisymm (root_le hr hs (Int.le_refl v)) (root_le hs hr (Int.le_refl v))
theorem root_small {v r b : Int} (hr : IsRoot v r) (hb : 0 ≤ b) (h : v < (b + 1) * (b + 1)) : r ≤ b := by
  obtain ⟨r0, r1, r2⟩ := hr
  by_cases hlt : b < r
  · have := sq_le (by omega : 0 ≤ b + 1) (by omega : b + 1 ≤ r)
    omega
  · omega
/-- One bit of the root. -/
theorem root_bit {v x D : Int} (h : v < (x + 2 * D) * (x + 2 * D)) : v < (x + D + D) * (x + D + D) := by
  have : x + D + D = x + 2 * D := by omega
  rw [this]; exact h
theorem w64 (x : Int) (h0 : -9223372036854775808 ≤ x) (h1 : x ≤ 9223372036854775807) : wrap64 x = x := by unfold wrap64; omega
theorem w32 (x : Int) (h0 : -2147483648 ≤ x) (h1 : x ≤ 2147483647) : wrap32 x = x := by unfold wrap32; omega
theorem w64_sub (a b : Int) : wrap64 (a - wrap64 b) = wrap64 (a - b) := by unfold wrap64; omega
theorem wf64 {x : Int} (h : (Lit.int .i64 x).wf = true) : -9223372036854775808 ≤ x ∧ x ≤ 9223372036854775807 := by
  simp only [Lit.wf, IntKind.min, IntKind.max, IntKind.signed, IntKind.bits, Bool.and_eq_true, decide_eq_true_eq, if_true] at h
  omega
theorem wf32 {x : Int} (h : (Lit.int .i32 x).wf = true) : -2147483648 ≤ x ∧ x ≤ 2147483647 := by
  simp only [Lit.wf, IntKind.min, IntKind.max, IntKind.signed, IntKind.bits, Bool.and_eq_true, decide_eq_true_eq, if_true] at h
  omega
theorem and1 (x : Int) : Go.bits .and .i64 x 1 = x % 2 := by
  have h : (BitVec.ofInt 64 x &&& BitVec.ofInt 64 1).toNat = ((x % 2).toNat) := by
    have e : (BitVec.ofInt 64 1).toNat = 2 ^ 1 - 1 := by decide
    rw [BitVec.toNat_and, e, Nat.and_two_pow_sub_one_eq_mod, BitVec.toNat_ofInt]
    omega
  show IntKind.i64.wrap (((BitVec.ofInt 64 x &&& BitVec.ofInt 64 1).toNat : Nat) : Int) = _
  rw [h, IntKind.wrap_i64]
  omega
theorem up {α : Type} {f : Nat → Option α} (hm : ∀ k, LeO (f k) (f (k + 1))) {k0 : Nat} {r : α} (h : f k0 = some r) {k : Nat} (hk : k0 ≤ k) : f k = some r := by
  obtain ⟨d, rfl⟩ : ∃ d, k = k0 + d := ⟨k - k0, by omega⟩
  clear hk
  induction d with
  | zero => exact h
  | succ d ih => exact hm _ _ ih
theorem mul_bound {a b A B : Int} (ha : -A ≤ a) (ha' : a ≤ A) (hb : -B ≤ b) (hb' : b ≤ B) : -(A * B) ≤ a * b ∧ a * b ≤ A * B := by
  have h1 : 0 ≤ (A - a) * (B + b) := Int.mul_nonneg (by omega) (by omega)
  have h2 : 0 ≤ (A + a) * (B - b) := Int.mul_nonneg (by omega) (by omega)
  have h3 : 0 ≤ (A - a) * (B - b) := Int.mul_nonneg (by omega) (by omega)
  have h4 : 0 ≤ (A + a) * (B + b) := Int.mul_nonneg (by omega) (by omega)
  simp only [Int.sub_mul, Int.mul_sub, Int.add_mul, Int.mul_add] at h1 h2 h3 h4
  generalize A * B = p at *
  generalize a * b = q at *
  generalize A * b = r at *
  generalize a * B = s at *
  omega
theorem div_bound (v D : Int) (hD : 1 ≤ D) : (0 ≤ v → 0 ≤ v / D ∧ v / D ≤ v) ∧ (v < 0 → v ≤ v / D ∧ v / D < 0) := by
  have h1 := Int.emod_add_mul_ediv v D
  have h2 := Int.emod_nonneg v (by omega : D ≠ 0)
  have h3 := Int.emod_lt_of_pos v (by omega : 0 < D)
  constructor
  · intro h
    exact ⟨Int.ediv_nonneg h (by omega), Int.ediv_le_self D h⟩
  · intro h
    have hn : v / D < 0 := Int.ediv_neg_of_neg_of_pos h (by omega)
    have : (v / D + 1) * (D - 1) ≤ 0 := Int.mul_nonpos_of_nonpos_of_nonneg (by omega) (by omega)
    rw [Int.mul_sub, Int.mul_one, Int.add_mul, Int.one_mul, Int.mul_comm (v / D)] at this
    omega
theorem div_half (v D : Int) (hD : 2 ≤ D) (h0 : -9223372036854775808 ≤ v) (h1 : v ≤ 9223372036854775807) : -4611686018427387904 ≤ v / D ∧ v / D ≤ 4611686018427387903 := by
  constructor
  · exact Int.le_ediv_of_mul_le (by omega) (by omega)
  · have : v / D < 4611686018427387904 := Int.ediv_lt_of_lt_mul (by omega) (by omega)
    omega
/-- Cut to a range. -/
def cutI (v lo hi : Int) : Int := if v < lo then lo else if v > hi then hi else v
def narrow (v : Int) : Int := cutI v (-8388608) 8388608
theorem narrow_range (v : Int) : -8388608 ≤ narrow v ∧ narrow v ≤ 8388608 := by unfold narrow cutI; omega
theorem cut_eq (v lo hi : Int) (h0 : -2147483648 ≤ lo) (h1 : lo ≤ hi) (h2 : hi ≤ 2147483647) : fix_cut.f v lo hi = some (cutI v lo hi) := by
  unfold fix_cut.f cutI mn mx wrap32
  congr 1
  split <;> split <;> (try split) <;> (try split) <;> omega
theorem narrow_eq (v : Int) : fix_Narrow.f v = some (narrow v) := by
  unfold fix_Narrow.f
  rw [cut_eq _ _ _ (by omega) (by omega) (by omega)]; rfl
theorem half_core (v : Int) (m : Nat) (hm : m ≤ 62) (h0 : -9223372036854775808 ≤ v) (h1 : v ≤ 9223372036854775807) :
    (if (wrap64 (v - (wrap64 ((v / 2 ^ m) * 2 ^ m)))) > ((wrap64 (2 ^ m)) / 2) then (some (wrap64 ((v / 2 ^ m) + 1))) else (if (wrap64 (v - (wrap64 ((v / 2 ^ m) * 2 ^ m)))) = ((wrap64 (2 ^ m)) / 2) then (if (m : Int) > 0 then (if (v / 2 ^ m) % 2 = 1 then (some (wrap64 ((v / 2 ^ m) + 1))) else (some (v / 2 ^ m))) else (some (v / 2 ^ m))) else (some (v / 2 ^ m)))) = some (rnd v (2 ^ m)) := by
  have hD : (2 : Int) ^ m ≤ 4611686018427387904 := two_pow_62 hm
  have hp := two_pow_pos m
  have e1 := Int.emod_add_mul_ediv v (2 ^ m)
  have e2 := Int.emod_nonneg v (by omega : (2 : Int) ^ m ≠ 0)
  have e3 := Int.emod_lt_of_pos v hp
  have e4 : v - (v / 2 ^ m) * 2 ^ m = v % 2 ^ m := by rw [Int.mul_comm]; omega
  rw [w64_sub, e4, w64 (v % 2 ^ m) (by omega) (by omega), w64 (2 ^ m) (by omega) (by omega)]
  rcases Nat.eq_zero_or_pos m with rfl | hpos
  · have e5 : v % 2 ^ 0 = 0 := by rw [Int.pow_zero]; omega
    rw [e5, Int.pow_zero, Int.ediv_one, rnd_one, if_neg (by decide), if_pos (by decide), if_neg (by decide)]
  · obtain ⟨n, rfl⟩ : ∃ n, m = n + 1 := ⟨m - 1, by omega⟩
    have hq := div_half v (2 ^ (n + 1)) (by have := two_pow_pos n; rw [two_pow_succ]; omega) h0 h1
    rw [w64 (v / 2 ^ (n + 1) + 1) (by omega) (by omega)]
    unfold rnd
    have e6 : (2 : Int) ^ (n + 1) / 2 = 2 ^ n := by rw [two_pow_succ]; omega
    have e7 := two_pow_succ n
    rw [e6]
    generalize v % 2 ^ (n + 1) = r at *
    generalize v / 2 ^ (n + 1) = q at *
    rw [e7]
    generalize (2 : Int) ^ n = d at *
    clear e1 e4 e6
    repeat' split
    all_goals first | rfl | (exfalso; omega)
/-- Half's power. -/
def pw (n : Int) : Nat := (mn (mx n 0) 62).toNat
theorem half_eq (v n : Int) (h0 : -9223372036854775808 ≤ v) (h1 : v ≤ 9223372036854775807) : fix_Half.f v n = some (rnd v (2 ^ pw n)) := by
  have hm : pw n ≤ 62 := by unfold pw mn mx; omega
  have := half_core v (pw n) hm h0 h1
  unfold fix_Half.f
  simp only [and1]
  rw [show (mn (mx n 0) 62 : Int) = (pw n : Int) from by unfold pw mn mx; omega]
  exact this
theorem tdiv_eq (a b : Int) (hb : 0 < b) : Int.tdiv a b = if a < 0 ∧ a % b ≠ 0 then a / b + 1 else a / b := by
  rw [Int.tdiv_eq_ediv]
  have hs : b.sign = 1 := Int.sign_eq_one_of_pos hb
  have hd : b ∣ a ↔ a % b = 0 := ⟨Int.emod_eq_zero_of_dvd, Int.dvd_of_emod_eq_zero⟩
  by_cases c : a < 0 ∧ a % b ≠ 0
  · rw [if_pos c, if_neg (by rw [hd]; omega), hs]
  · rw [if_neg c, if_pos (by rw [hd]; omega)]; omega
theorem tmod_eq (a b : Int) (hb : 0 < b) : Int.tmod a b = if a < 0 ∧ a % b ≠ 0 then a % b - b else a % b := by
  have h1 := Int.tmod_add_mul_tdiv a b
  have h2 := Int.emod_add_mul_ediv a b
  rw [tdiv_eq a b hb] at h1
  split at h1
  · rename_i c
    rw [if_pos c]
    rw [Int.mul_add, Int.mul_one] at h1
    omega
  · rename_i c
    rw [if_neg c]
    omega
theorem ratio_eq (a b : Int) (h0 : -9223372036854775808 ≤ a) (h1 : a ≤ 9223372036854775807) (hb : 0 < b) (hb1 : b ≤ 9223372036854775807) : fix_Ratio.f a b = some (rnd a b) := by
  have e2 := Int.emod_nonneg a (by omega : b ≠ 0)
  have e3 := Int.emod_lt_of_pos a hb
  have hq := div_bound a b (by omega)
  have hq2 := fun h => div_half a b h h0 h1
  unfold fix_Ratio.f rnd
  rw [if_neg (by omega), if_neg (by omega), tdiv_eq a b hb, tmod_eq a b hb]
  simp only [and1]
  generalize a % b = r at *
  generalize a / b = q at *
  by_cases c : a < 0 ∧ r ≠ 0
  · rw [if_pos c, if_pos c, if_pos (by omega), w64 (q + 1) (by omega) (by omega), show q + 1 - 1 = q from by omega, w64 q (by omega) (by omega), show r - b + b = r from by omega, w64 r (by omega) (by omega), w64 (b - r) (by omega) (by omega), w64 (q + 1) (by omega) (by omega)]
    repeat' split
    all_goals first | rfl | (exfalso; omega)
  · rw [if_neg c, if_neg c, if_neg (by omega), w64 q (by omega) (by omega), w64 (b - r) (by omega) (by omega)]
    by_cases c1 : 2 ≤ b
    · rw [w64 (q + 1) (by omega) (by omega)]
      repeat' split
      all_goals first | rfl | (exfalso; omega)
    · repeat' split
      all_goals first | rfl | (exfalso; omega)
theorem pw16 : (2 : Int) ^ pw 16 = 65536 := by decide
theorem mul_range (a b : Int) (ha : -2147483648 ≤ a ∧ a ≤ 2147483647) (hb : -2147483648 ≤ b ∧ b ≤ 2147483647) : -4611686018427387904 ≤ a * b ∧ a * b ≤ 4611686018427387904 :=
  mul_bound (A := 2147483648) (B := 2147483648) (by omega) (by omega) (by omega) (by omega)
theorem rfloor_eq (a b : Int) (h0 : -9223372036854775808 ≤ a) (h1 : a ≤ 9223372036854775807) (hb : 0 < b) : credenzaref01_Floor.f a b = some (a / b) := by
  have e1 := Int.emod_add_mul_ediv a b
  have e2 := Int.emod_nonneg a (by omega : b ≠ 0)
  have e3 := Int.emod_lt_of_pos a hb
  have hq := div_bound a b (by omega)
  have hn : a < 0 → (a / b + 1) * b ≤ 0 := fun h => Int.mul_nonpos_of_nonpos_of_nonneg (by omega) (by omega)
  have hz : 0 ≤ a → 0 ≤ b * (a / b) := fun h => Int.mul_nonneg (by omega) (hq.1 h).1
  have ep : (a / b + 1) * b = b * (a / b) + b := by rw [Int.add_mul, Int.one_mul, Int.mul_comm]
  have eq' : a / b * b = b * (a / b) := Int.mul_comm _ _
  unfold credenzaref01_Floor.f
  rw [if_neg (by omega), tdiv_eq a b hb]
  by_cases c : a < 0 ∧ a % b ≠ 0
  · have := hn c.1
    rw [if_pos c, w64 (a / b + 1) (by omega) (by omega), ep, w64 (b * (a / b) + b) (by omega) (by omega), if_pos (by omega), show a / b + 1 - 1 = a / b from by omega, w64 _ (by omega) (by omega)]
  · rw [if_neg c, w64 (a / b) (by omega) (by omega), eq', w64 (b * (a / b)) (by omega) (by omega), if_neg (by omega)]
theorem rratio_eq (a b : Int) (h0 : -9223372036854775808 ≤ a) (h1 : a ≤ 9223372036854775807) (hb : 0 < b) (hb1 : b ≤ 9223372036854775807) : credenzaref01_Ratio.f a b = some (rnd a b) := by
  have e1 := Int.emod_add_mul_ediv a b
  have e2 := Int.emod_nonneg a (by omega : b ≠ 0)
  have e3 := Int.emod_lt_of_pos a hb
  have hq := div_bound a b (by omega)
  have hq2 := fun h => div_half a b h h0 h1
  have e4 : a - (a / b) * b = a % b := by rw [Int.mul_comm]; omega
  unfold credenzaref01_Ratio.f rnd
  rw [rfloor_eq a b h0 h1 hb]
  simp only [Option.bind_some]
  rw [w64_sub, e4, w64 (a % b) (by omega) (by omega), w64 (b - a % b) (by omega) (by omega), tmod_eq _ 2 (by omega)]
  generalize a % b = r at *
  generalize a / b = q at *
  by_cases c1 : 2 ≤ b
  · rw [w64 (q + 1) (by omega) (by omega)]
    repeat' split
    all_goals first | rfl | (exfalso; omega)
  · repeat' split
    all_goals first | rfl | (exfalso; omega)
theorem rcut_eq (v lo hi : Int) : credenzaref01_Cut.f v lo hi = some (cutI v lo hi) := by
  unfold credenzaref01_Cut.f cutI
  split
  · rfl
  · split <;> rfl
theorem rpower_loop (n : Nat) (hn : n ≤ 62) (d : Nat) : ∀ (k i : Nat), i + d = n → d < k → credenzaref01_Power.l0 k (n : Int) (2 ^ i) (i : Int) = some (2 ^ n) := by
  induction d with
  | zero =>
    intro k i h hk
    obtain ⟨k, rfl⟩ : ∃ m, k = m + 1 := ⟨k - 1, by omega⟩
    obtain rfl : i = n := by omega
    simp only [credenzaref01_Power.l0]; rw [if_neg (by omega)]
  | succ d ih =>
    intro k i h hk
    obtain ⟨k, rfl⟩ : ∃ m, k = m + 1 := ⟨k - 1, by omega⟩
    have hD : (2 : Int) ^ i ≤ 2305843009213693952 := two_pow_61 (by omega)
    have hp := two_pow_pos i
    simp only [credenzaref01_Power.l0]
    rw [if_pos (by omega), w64 (2 ^ i * 2) (by omega) (by omega), w64 ((i : Int) + 1) (by omega) (by omega), show (2 : Int) ^ i * 2 = 2 ^ (i + 1) from by rw [two_pow_succ, Int.mul_comm], show (i : Int) + 1 = ((i + 1 : Nat) : Int) from by omega]
    exact ih k (i + 1) (by omega) (by omega)
theorem rpower_eq (n : Nat) (hn : n ≤ 62) (k : Nat) (hk : 63 ≤ k) : credenzaref01_Power.f k (n : Int) = some (2 ^ n) := by
  unfold credenzaref01_Power.f
  exact rpower_loop n hn n k 0 (by omega) (by omega)
theorem rhalf_eq (v n : Int) (h0 : -9223372036854775808 ≤ v) (h1 : v ≤ 9223372036854775807) (k : Nat) (hk : 63 ≤ k) : credenzaref01_Half.f k v n = some (rnd v (2 ^ pw n)) := by
  have hm : pw n ≤ 62 := by unfold pw mn mx; omega
  have hD : (2 : Int) ^ pw n ≤ 4611686018427387904 := two_pow_62 hm
  have hc : cutI n 0 62 = (pw n : Int) := by unfold pw mn mx cutI; omega
  unfold credenzaref01_Half.f
  rw [rcut_eq, hc]
  simp only [Option.bind_some]
  rw [rpower_eq _ hm k hk]
  simp only [Option.bind_some]
  rw [rratio_eq v _ h0 h1 (two_pow_pos _) (by omega)]
  rfl
theorem rnarrow_eq (v : Int) : credenzaref01_Narrow.f v = some (narrow v) := by
  have := narrow_range v
  unfold credenzaref01_Narrow.f
  rw [rcut_eq]
  show some (wrap32 (narrow v)) = some (narrow v)
  rw [w32 _ (by omega) (by omega)]
theorem u64w (n : Int) (h0 : 0 ≤ n) (h1 : n < 18446744073709551616) : IntKind.u64.wrap n = n := by
  have : IntKind.u64.wrap n = n % 18446744073709551616 := by simp [IntKind.wrap, IntKind.bits, IntKind.signed]
  rw [this]; omega
theorem wraps_u64 (n : Int) (h0 : 0 ≤ n) (h1 : n < 2 ^ 64) : IntKind.u64.wrap n = n := u64w n h0 h1
set_option maxRecDepth 100000 in
def tab : ByteArray := ⟨#[0, 1, 2, 2, 3, 3, 3, 3, 4, 4, 4, 4, 4, 4, 4, 4, 5, 5, 5, 5, 5, 5, 5, 5, 5, 5, 5, 5, 5, 5, 5, 5, 6, 6, 6, 6, 6, 6, 6, 6, 6, 6, 6, 6, 6, 6, 6, 6, 6, 6, 6, 6, 6, 6, 6, 6, 6, 6, 6, 6, 6, 6, 6, 6, 7, 7, 7, 7, 7, 7, 7, 7, 7, 7, 7, 7, 7, 7, 7, 7, 7, 7, 7, 7, 7, 7, 7, 7, 7, 7, 7, 7, 7, 7, 7, 7, 7, 7, 7, 7, 7, 7, 7, 7, 7, 7, 7, 7, 7, 7, 7, 7, 7, 7, 7, 7, 7, 7, 7, 7, 7, 7, 7, 7, 7, 7, 7, 7, 8, 8, 8, 8, 8, 8, 8, 8, 8, 8, 8, 8, 8, 8, 8, 8, 8, 8, 8, 8, 8, 8, 8, 8, 8, 8, 8, 8, 8, 8, 8, 8, 8, 8, 8, 8, 8, 8, 8, 8, 8, 8, 8, 8, 8, 8, 8, 8, 8, 8, 8, 8, 8, 8, 8, 8, 8, 8, 8, 8, 8, 8, 8, 8, 8, 8, 8, 8, 8, 8, 8, 8, 8, 8, 8, 8, 8, 8, 8, 8, 8, 8, 8, 8, 8, 8, 8, 8, 8, 8, 8, 8, 8, 8, 8, 8, 8, 8, 8, 8, 8, 8, 8, 8, 8, 8, 8, 8, 8, 8, 8, 8, 8, 8, 8, 8, 8, 8, 8, 8, 8, 8, 8, 8, 8, 8, 8, 8]⟩
set_option maxRecDepth 100000 in
theorem tab_all : ∀ i : Fin 256, 0 ≤ bt tab (i.val : Int) ∧ bt tab (i.val : Int) ≤ 8 ∧ i.val < 2 ^ (bt tab (i.val : Int)).toNat := by decide +kernel
theorem tab_ok (i : Int) (h0 : 0 ≤ i) (h1 : i < 256) : ∃ t : Nat, bt tab i = (t : Int) ∧ t ≤ 8 ∧ i + 1 ≤ 2 ^ t := by
  obtain ⟨n, rfl⟩ := Int.eq_ofNat_of_zero_le h0
  obtain ⟨a, b, c⟩ := tab_all ⟨n, by omega⟩
  simp only at a b c
  refine ⟨(bt tab (n : Int)).toNat, by omega, by omega, ?_⟩
  have : ((n + 1 : Nat) : Int) ≤ ((2 ^ (bt tab (n : Int)).toNat : Nat) : Int) := by exact Int.ofNat_le.mpr c
  rwa [Int.natCast_pow] at this
theorem two_pow_split (a b : Nat) : (2 : Int) ^ (a + b) = 2 ^ a * 2 ^ b := Int.pow_add 2 a b
set_option maxRecDepth 100000 in
theorem len_j0 (k : Nat) (x n : Int) (h0 : 0 ≤ x) (h1 : x < 4294967296) (hn : 0 ≤ n) (hn1 : n ≤ 32) : ∃ m : Nat, bits_Len64.j0 (k + 1) x n = some (n + m) ∧ m ≤ 32 ∧ x < 2 ^ m := by
  have hu : bits_Len64.j0 (k + 1) x n = if x ≥ 65536 then (if (x / 65536) ≥ 256 then (if 0 ≤ (((x / 65536) / 256) % 256) then (if (((x / 65536) / 256) % 256) < 256 then (some (wrap64 ((wrap64 ((wrap64 (n + 16)) + 8)) + (wrap64 (bt tab (((x / 65536) / 256) % 256)))))) else (none)) else (none)) else (if 0 ≤ ((x / 65536) % 256) then (if ((x / 65536) % 256) < 256 then (some (wrap64 ((wrap64 (n + 16)) + (wrap64 (bt tab ((x / 65536) % 256)))))) else (none)) else (none))) else (if x ≥ 256 then (if 0 ≤ ((x / 256) % 256) then (if ((x / 256) % 256) < 256 then (some (wrap64 ((wrap64 (n + 8)) + (wrap64 (bt tab ((x / 256) % 256)))))) else (none)) else (none)) else (if 0 ≤ (x % 256) then (if (x % 256) < 256 then (some (wrap64 (n + (wrap64 (bt tab (x % 256)))))) else (none)) else (none))) := rfl
  rw [hu]
  clear hu
  rw [w64 (n + 16) (by omega) (by omega), w64 (n + 16 + 8) (by omega) (by omega), w64 (n + 8) (by omega) (by omega)]
  by_cases c1 : x ≥ 65536
  · rw [if_pos c1]
    by_cases c2 : x / 65536 ≥ 256
    · obtain ⟨t, et, ht, hx⟩ := tab_ok (x / 65536 / 256 % 256) (by omega) (by omega)
      rw [if_pos c2, if_pos (by omega), if_pos (by omega), et, w64 (t : Int) (by omega) (by omega), w64 _ (by omega) (by omega)]
      refine ⟨24 + t, by congr 1; omega, by omega, ?_⟩
      rw [two_pow_split]
      generalize (2 : Int) ^ t = p at *
      have : (2 : Int) ^ 24 = 16777216 := rfl
      omega
    · obtain ⟨t, et, ht, hx⟩ := tab_ok (x / 65536 % 256) (by omega) (by omega)
      rw [if_neg c2, if_pos (by omega), if_pos (by omega), et, w64 (t : Int) (by omega) (by omega), w64 _ (by omega) (by omega)]
      refine ⟨16 + t, by congr 1; omega, by omega, ?_⟩
      rw [two_pow_split]
      generalize (2 : Int) ^ t = p at *
      have : (2 : Int) ^ 16 = 65536 := rfl
      omega
  · rw [if_neg c1]
    by_cases c2 : x ≥ 256
    · obtain ⟨t, et, ht, hx⟩ := tab_ok (x / 256 % 256) (by omega) (by omega)
      rw [if_pos c2, if_pos (by omega), if_pos (by omega), et, w64 (t : Int) (by omega) (by omega), w64 _ (by omega) (by omega)]
      refine ⟨8 + t, by congr 1; omega, by omega, ?_⟩
      rw [two_pow_split]
      generalize (2 : Int) ^ t = p at *
      have : (2 : Int) ^ 8 = 256 := rfl
      omega
    · obtain ⟨t, et, ht, hx⟩ := tab_ok (x % 256) (by omega) (by omega)
      rw [if_neg c2, if_pos (by omega), if_pos (by omega), et, w64 (t : Int) (by omega) (by omega), w64 _ (by omega) (by omega)]
      exact ⟨t, rfl, by omega, by omega⟩
theorem len_ok (k : Nat) (v : Int) (h0 : 0 ≤ v) (h1 : v < 18446744073709551616) : ∃ m : Nat, bits_Len64.f (k + 1) v = some (m : Int) ∧ m ≤ 64 ∧ v < 2 ^ m := by
  unfold bits_Len64.f
  by_cases c : v ≥ 4294967296
  · rw [if_pos c]
    obtain ⟨m, e, hm, hx⟩ := len_j0 k (v / 4294967296) 32 (by omega) (by omega) (by omega) (by omega)
    refine ⟨32 + m, by rw [e]; congr 1, by omega, ?_⟩
    rw [two_pow_split]
    generalize (2 : Int) ^ m = p at *
    have : (2 : Int) ^ 32 = 4294967296 := rfl
    omega
  · rw [if_neg c]
    obtain ⟨m, e, hm, hx⟩ := len_j0 k v 0 (by omega) (by omega) (by omega) (by omega)
    exact ⟨m, by rw [e, Int.zero_add], by omega, hx⟩
theorem root_loop (v : Int) (hv : v < 18446744073709551616) (d : Nat) : ∀ (k : Nat) (x : Int), d < k → d ≤ 32 → 0 ≤ x → x % 2 ^ d = 0 → x + 2 ^ d ≤ 4294967296 → x * x ≤ v → v < (x + 2 ^ d) * (x + 2 ^ d) →
    ∃ r, expo_Root.l0 k v x ((d : Int) - 1) = some r ∧ IsRoot v r ∧ r ≤ 4294967295 := by
  induction d with
  | zero =>
    intro k x hk _ hx _ hb h1 h2
    obtain ⟨k, rfl⟩ : ∃ m, k = m + 1 := ⟨k - 1, by omega⟩
    rw [Int.pow_zero] at hb h2
    refine ⟨x, ?_, ⟨hx, h1, h2⟩, by omega⟩
    simp only [expo_Root.l0]
    rw [if_neg (by omega)]
  | succ d ih =>
    intro k x hk hd hx hm hb h1 h2
    obtain ⟨k, rfl⟩ : ∃ m, k = m + 1 := ⟨k - 1, by omega⟩
    have hp := two_pow_pos d
    have e2 := two_pow_succ d
    have hl : (2 : Int) ^ d ≤ 2147483648 := two_pow_max (n := 31) (by omega)
    have hs : shl .u64 1 (d : Int) = 2 ^ d := by
      unfold shl
      rw [Int.one_mul, show min (d : Int).toNat IntKind.u64.bits = d from by simp only [IntKind.bits]; omega]
      exact u64w _ (by omega) (by omega)
    have ho : Go.bits .or .u64 x (2 ^ d) = x + 2 ^ d :=
      bits_join .u64 64 (by decide) wraps_u64 (d + 1) x (2 ^ d) hx hm (by have : (2 : Int) ^ 64 = 18446744073709551616 := rfl; omega) (by omega) (by omega) (by have : (2 : Int) ^ 64 = 18446744073709551616 := rfl; omega)
    have hsq := sq_le (by omega : 0 ≤ x + 2 ^ d) (by omega : x + 2 ^ d ≤ 4294967295)
    have hsq0 := Int.mul_nonneg (by omega : 0 ≤ x + 2 ^ d) (by omega : 0 ≤ x + 2 ^ d)
    have hm' : x % 2 ^ d = 0 := by
      obtain ⟨c, hc⟩ := Int.dvd_of_emod_eq_zero hm
      rw [e2] at hc
      rw [hc, Int.mul_comm 2, Int.mul_assoc]
      exact Int.mul_emod_right _ _
    have hi : ((d + 1 : Nat) : Int) - 1 = (d : Int) := by omega
    rw [hi]
    simp only [expo_Root.l0]
    rw [if_pos (by omega), if_pos (by omega), hs, ho, u64w _ hsq0 (by omega), w64 ((d : Int) - 1) (by omega) (by omega)]
    by_cases c : (x + 2 ^ d) * (x + 2 ^ d) ≤ v
    · rw [if_pos c]
      refine ih k (x + 2 ^ d) (by omega) (by omega) (by omega) ?_ (by omega) c ?_
      · rw [Int.add_emod_right]; exact hm'
      · rw [e2] at h2; exact root_bit h2
    · rw [if_neg c]
      exact ih k x (by omega) (by omega) hx hm' (by omega) h1 (by omega)
theorem root_eq (v : Int) (h0 : 0 ≤ v) (h1 : v < 18446744073709551616) (k : Nat) (hk : 34 ≤ k) : ∃ r, expo_Root.f k v = some r ∧ IsRoot v r ∧ r ≤ 4294967295 := by
  obtain ⟨k, rfl⟩ : ∃ m, k = m + 1 := ⟨k - 1, by omega⟩
  obtain ⟨m, e, hm, hv⟩ := len_ok k v h0 h1
  unfold expo_Root.f
  rw [e]
  simp only [Option.bind_some]
  rw [w64 ((m : Int) - 1) (by omega) (by omega)]
  have key : ∃ d : Nat, Int.tdiv ((m : Int) - 1) 2 = (d : Int) - 1 ∧ d ≤ 32 ∧ 1 ≤ d ∧ m ≤ d + d := by
    rcases Nat.eq_zero_or_pos m with rfl | hp
    · exact ⟨1, by decide, by omega, by omega, by omega⟩
    · refine ⟨(m - 1) / 2 + 1, ?_, by omega, by omega, by omega⟩
      rw [Int.tdiv_eq_ediv_of_nonneg (by omega)]; omega
  obtain ⟨d, ed, hd, hd1, hmd⟩ := key
  rw [ed, w64 ((d : Int) - 1) (by omega) (by omega)]
  have hpd : (2 : Int) ^ d ≤ 4294967296 := two_pow_max (n := 32) hd
  refine root_loop v h1 d (k + 1) 0 (by omega) hd (by omega) (Int.zero_emod _) (by omega) (by omega) ?_
  rw [Int.zero_add, ← two_pow_split]
  exact Int.lt_of_lt_of_le hv (two_pow_max hmd)
theorem rsqrt_arg (v : Int) (hv : 1 ≤ v) : 0 ≤ (281474976710656 : Int) / v ∧ (281474976710656 : Int) / v ≤ 281474976710656 := ⟨Int.ediv_nonneg (by omega) (by omega), Int.ediv_le_self _ (by omega)⟩
theorem rsqrt_eq (v : Int) (h1 : v ≤ 9223372036854775807) (k : Nat) (hk : 34 ≤ k) : ∃ r, expo_Rsqrt.f k v = some r ∧ IsRoot (281474976710656 / mx v 1) r ∧ r ≤ 16777216 := by
  have hm : 1 ≤ mx v 1 ∧ mx v 1 ≤ 9223372036854775807 := by unfold mx; split <;> omega
  unfold expo_Rsqrt.f
  generalize mx v 1 = m at *
  have ha := rsqrt_arg m hm.1
  rw [u64w m (by omega) (by omega), if_neg (by omega), Int.tdiv_eq_ediv_of_nonneg (by omega), u64w _ ha.1 (by omega)]
  obtain ⟨r, e, hr, -⟩ := root_eq (281474976710656 / m) ha.1 (by omega) k hk
  have hb : r ≤ 16777216 := root_small hr (by omega) (by omega)
  rw [e]
  simp only [Option.bind_some]
  exact ⟨r, by rw [w32 r (by have := hr.1; omega) (by omega)], hr, hb⟩
theorem rroot_loop (v : Int) (j : Nat) : ∀ (k : Nat) (lo hi : Int), j < k → 0 ≤ lo → lo ≤ hi → hi ≤ 4294967295 → hi - lo < 2 ^ j → lo * lo ≤ v → v < (hi + 1) * (hi + 1) →
    ∃ r, credenzaref02_Root.l0 k v lo hi = some r ∧ IsRoot v r := by
  induction j with
  | zero =>
    intro k lo hi hk h0 h1 h2 hj hl hh
    obtain ⟨k, rfl⟩ : ∃ m, k = m + 1 := ⟨k - 1, by omega⟩
    rw [Int.pow_zero] at hj
    obtain rfl : lo = hi := by omega
    refine ⟨lo, ?_, h0, hl, hh⟩
    simp only [credenzaref02_Root.l0]
    rw [if_neg (by omega)]
  | succ j ih =>
    intro k lo hi hk h0 h1 h2 hj hl hh
    obtain ⟨k, rfl⟩ : ∃ m, k = m + 1 := ⟨k - 1, by omega⟩
    rw [two_pow_succ] at hj
    generalize (2 : Int) ^ j = p at *
    simp only [credenzaref02_Root.l0]
    by_cases c : lo < hi
    · have hm : Int.tdiv (hi - lo + 1) 2 = (hi - lo + 1) / 2 := Int.tdiv_eq_ediv_of_nonneg (by omega)
      rw [if_pos c, u64w (hi - lo) (by omega) (by omega), u64w (hi - lo + 1) (by omega) (by omega), hm, u64w ((hi - lo + 1) / 2) (by omega) (by omega), u64w (lo + (hi - lo + 1) / 2) (by omega) (by omega), u64w (lo + (hi - lo + 1) / 2 - 1) (by omega) (by omega)]
      generalize hM : lo + (hi - lo + 1) / 2 = M at *
      have hsq := sq_le (by omega : 0 ≤ M) (by omega : M ≤ 4294967295)
      have hsq0 := Int.mul_nonneg (by omega : 0 ≤ M) (by omega : 0 ≤ M)
      rw [u64w (M * M) hsq0 (by omega)]
      by_cases c1 : M * M ≤ v
      · rw [if_pos c1]
        exact ih k M hi (by omega) (by omega) (by omega) h2 (by omega) c1 hh
      · rw [if_neg c1]
        refine ih k lo (M - 1) (by omega) h0 (by omega) (by omega) (by omega) hl ?_
        rw [show M - 1 + 1 = M from by omega]; omega
    · rw [if_neg c]
      obtain rfl : lo = hi := by omega
      exact ⟨lo, rfl, h0, hl, hh⟩
theorem rroot_eq (v : Int) (h0 : 0 ≤ v) (h1 : v < 18446744073709551616) (k : Nat) (hk : 34 ≤ k) : ∃ r, credenzaref02_Root.f k v = some r ∧ IsRoot v r := by
  unfold credenzaref02_Root.f
  exact rroot_loop v 32 k 0 4294967295 (by omega) (by omega) (by omega) (by omega) (by have : (2 : Int) ^ 32 = 4294967296 := rfl; omega) (by omega) (by omega)
theorem rrsqrt_eq (v : Int) (h1 : v ≤ 9223372036854775807) (k : Nat) (hk : 34 ≤ k) : ∃ r, credenzaref02_Rsqrt.f k v = some r ∧ IsRoot (281474976710656 / mx v 1) r := by
  unfold credenzaref02_Rsqrt.f
  by_cases c : v < 1
  · rw [if_pos c, show mx v 1 = 1 from by unfold mx; split <;> omega]
    obtain ⟨r, e, hr⟩ := rroot_eq (281474976710656 / 1) (by decide) (by decide) k hk
    have hb : r ≤ 16777216 := root_small hr (by omega) (by omega)
    rw [e]
    simp only [Option.bind_some]
    exact ⟨r, by rw [w32 r (by have := hr.1; omega) (by omega)], hr⟩
  · rw [if_neg c, show mx v 1 = v from by unfold mx; split <;> omega]
    have ha := rsqrt_arg v (by omega)
    rw [u64w v (by omega) (by omega), if_neg (by omega), Int.tdiv_eq_ediv_of_nonneg (by omega), u64w _ ha.1 (by omega)]
    obtain ⟨r, e, hr⟩ := rroot_eq (281474976710656 / v) ha.1 (by omega) k hk
    have hb : r ≤ 16777216 := root_small hr (by omega) (by omega)
    rw [e]
    simp only [Option.bind_some]
    exact ⟨r, by rw [w32 r (by have := hr.1; omega) (by omega)], hr⟩
theorem rd_drop (l : List Int) (i : Nat) (h : i < l.length) : l.drop i = rd l (i : Int) :: l.drop (i + 1) := by
  rw [List.drop_eq_getElem_cons h]
  congr 1
  unfold rd
  rw [Int.toNat_natCast, List.getD_eq_getElem?_getD, List.getElem?_eq_getElem h]
  rfl
theorem rd_mem (l : List Int) (i : Nat) (h : i < l.length) : rd l (i : Int) ∈ l := by
  have := rd_drop l i h
  exact List.mem_of_mem_drop (this ▸ List.mem_cons_self : rd l (i : Int) ∈ l.drop i)
theorem w64_succ (i n : Nat) (h : i < n) (hn : n ≤ 140737488351232) : wrap64 ((i : Int) + 1) = ((i + 1 : Nat) : Int) := by
  rw [w64 _ (by omega) (by omega)]; omega
/-- All numbers are of 32 bits. -/
def I32 (l : List Int) : Prop := ∀ x ∈ l, -2147483648 ≤ x ∧ x ≤ 2147483647
theorem set_take (l : List Int) (i : Nat) (v : Int) (h : i < l.length) : (l.set i v).take (i + 1) = l.take i ++ [v] := by
  rw [List.take_add_one, List.take_set, List.getElem?_set_self h, List.set_eq_of_length_le (by rw [List.length_take]; omega)]
  rfl
def badI (x : Int) : Bool := decide (x < -16777216) || decide (x > 16777216)
def mildB (l : List Int) : Bool := decide ((l.length : Int) ≤ 1024) && !(l.any badI)
theorem mild1_eq (x : Int) : dot_Mild_1.f x = some (badI x) := by
  unfold dot_Mild_1.f badI
  by_cases h : x < -16777216
  · rw [if_pos h, decide_eq_true h]; rfl
  · rw [if_neg h, decide_eq_false h]; rfl
theorem mild_index (l : List Int) (hl : l.length ≤ 140737488351232) (d : Nat) : ∀ (k i : Nat), i + d = l.length → d < k →
    ∃ r, slices_IndexFunc_int32_int32_of_dot_Mild_1.l0 k l (l.length : Int) (i : Int) = some r ∧ decide (r ≥ 0) = (l.drop i).any badI := by
  induction d with
  | zero =>
    intro k i h hk
    obtain ⟨k, rfl⟩ : ∃ m, k = m + 1 := ⟨k - 1, by omega⟩
    refine ⟨-1, ?_, ?_⟩
    · simp only [slices_IndexFunc_int32_int32_of_dot_Mild_1.l0]; rw [if_neg (by omega)]
    · rw [List.drop_of_length_le (by omega)]; rfl
  | succ d ih =>
    intro k i h hk
    obtain ⟨k, rfl⟩ : ∃ m, k = m + 1 := ⟨k - 1, by omega⟩
    simp only [slices_IndexFunc_int32_int32_of_dot_Mild_1.l0]
    rw [if_pos (by omega), if_pos (by omega), if_pos (by omega), mild1_eq, rd_drop l i (by omega), List.any_cons]
    simp only [Option.bind_some]
    by_cases hb : badI (rd l (i : Int)) = true
    · rw [if_pos hb, hb]
      exact ⟨_, rfl, by simp⟩
    · rw [if_neg hb, w64_succ i l.length (by omega) hl]
      obtain ⟨r, e, hr⟩ := ih k (i + 1) (by omega) (by omega)
      rw [Bool.not_eq_true] at hb
      exact ⟨r, e, by rw [hr, hb]; rfl⟩
theorem mild_eq (l : List Int) (k : Nat) (hk : 1025 < k) : dot_Mild.f k l = some (mildB l) := by
  unfold dot_Mild.f mildB
  by_cases h : (l.length : Int) ≤ 1024
  · rw [if_pos h, decide_eq_true h]
    obtain ⟨r, e, hr⟩ := mild_index l (by omega) l.length k 0 (by omega) (by omega)
    unfold slices_ContainsFunc_int32_int32_of_dot_Mild_1.f slices_IndexFunc_int32_int32_of_dot_Mild_1.f
    have e' : slices_IndexFunc_int32_int32_of_dot_Mild_1.l0 k l (l.length : Int) 0 = some r := e
    rw [e']
    simp only [Option.bind_some]
    rw [hr, List.drop_zero]; rfl
  · rw [if_neg h, decide_eq_false h]; rfl
theorem mild_mem {l : List Int} (h : mildB l = true) : (l.length : Int) ≤ 1024 ∧ ∀ x ∈ l, -16777216 ≤ x ∧ x ≤ 16777216 := by
  unfold mildB at h
  rw [Bool.and_eq_true, decide_eq_true_eq, Bool.not_eq_true', List.any_eq_false] at h
  refine ⟨h.1, fun x hx => ?_⟩
  have := h.2 x hx
  simp only [badI, Bool.or_eq_true, decide_eq_true_eq] at this
  omega
theorem mild_of {l : List Int} (h0 : (l.length : Int) ≤ 1024) (h : ∀ x ∈ l, -16777216 ≤ x ∧ x ≤ 16777216) : mildB l = true := by
  unfold mildB
  rw [Bool.and_eq_true, decide_eq_true_eq, Bool.not_eq_true', List.any_eq_false]
  refine ⟨h0, fun x hx => ?_⟩
  have := h x hx
  simp only [badI, Bool.or_eq_true, decide_eq_true_eq]
  omega
/-- The sum of the products. -/
def dotI : List Int → List Int → Int
  | x :: xs, y :: ys => x * y + dotI xs ys
  | _, _ => 0
theorem dotI_bound (A B : Int) (hA : 0 ≤ A) (hB : 0 ≤ B) : ∀ (a b : List Int), (∀ x ∈ a, -A ≤ x ∧ x ≤ A) → (∀ x ∈ b, -B ≤ x ∧ x ≤ B) → -(a.length * (A * B)) ≤ dotI a b ∧ dotI a b ≤ a.length * (A * B)
  | [], b, _, _ => by simp [dotI]
  | x :: xs, [], _, _ => by
    have : 0 ≤ ((x :: xs).length : Int) * (A * B) := Int.mul_nonneg (by omega) (Int.mul_nonneg hA hB)
    simp only [dotI]; omega
  | x :: xs, y :: ys, ha, hb => by
    have ih := dotI_bound A B hA hB xs ys (fun z hz => ha z (List.mem_cons_of_mem _ hz)) (fun z hz => hb z (List.mem_cons_of_mem _ hz))
    have h1 := ha x List.mem_cons_self
    have h2 := hb y List.mem_cons_self
    have h3 := mul_bound (a := x) (b := y) (A := A) (B := B) (by omega) (by omega) (by omega) (by omega)
    have e : (((x :: xs).length : Nat) : Int) * (A * B) = xs.length * (A * B) + A * B := by rw [List.length_cons, Int.natCast_succ, Int.add_mul, Int.one_mul]
    simp only [dotI]
    rw [e]
    omega
theorem shape_eq (a b : List Int) : dot_shape.f a b = some (if (a.length : Int) = (b.length : Int) then (if (a.length : Int) > 1024 then 12 else 0) else 25) := by
  unfold dot_shape.f
  repeat' split
  all_goals rfl
theorem dot_loop (a b : List Int) (hab : a.length = b.length) (hn : a.length ≤ 1024) (ha : ∀ x ∈ a, -16777216 ≤ x ∧ x ≤ 16777216) (hb : ∀ x ∈ b, -16777216 ≤ x ∧ x ≤ 16777216) (d : Nat) :
    ∀ (k i : Nat) (acc : Int), i + d = a.length → d < k → -(i * 281474976710656) ≤ acc → acc ≤ i * 281474976710656 →
      dot_Dot.l0 k b acc a (a.length : Int) (i : Int) = some (acc + dotI (a.drop i) (b.drop i), 0) := by
  induction d with
  | zero =>
    intro k i acc h hk _ _
    obtain ⟨k, rfl⟩ : ∃ m, k = m + 1 := ⟨k - 1, by omega⟩
    simp only [dot_Dot.l0]
    rw [if_neg (by omega), List.drop_of_length_le (by omega : a.length ≤ i)]
    simp [dotI]
  | succ d ih =>
    intro k i acc h hk h0 h1
    obtain ⟨k, rfl⟩ : ∃ m, k = m + 1 := ⟨k - 1, by omega⟩
    have hx := ha _ (rd_mem a i (by omega))
    have hy := hb _ (rd_mem b i (by omega))
    have hp := mul_bound (a := rd a (i : Int)) (b := rd b (i : Int)) (A := 16777216) (B := 16777216) (by omega) (by omega) (by omega) (by omega)
    simp only [dot_Dot.l0]
    rw [if_pos (by omega), if_pos (by omega), if_pos (by omega), if_pos (by omega), w64_succ i a.length (by omega) (by omega), w64 (rd a (i : Int)) (by omega) (by omega), w64 (rd b (i : Int)) (by omega) (by omega), w64 (rd a (i : Int) * rd b (i : Int)) (by omega) (by omega), w64 (acc + rd a (i : Int) * rd b (i : Int)) (by omega) (by omega)]
    rw [ih k (i + 1) _ (by omega) (by omega) (by omega) (by omega), rd_drop a i (by omega), rd_drop b i (by omega)]
    simp only [dotI]
    rw [Int.add_assoc]
/-- What Dot tells. -/
def dotR (a b : List Int) : Int × Int :=
  if (a.length : Int) = (b.length : Int) then (if (a.length : Int) > 1024 then (0, 12) else if mildB a = true ∧ mildB b = true then (dotI a b, 0) else (0, 11)) else (0, 25)
theorem dot_eq (a b : List Int) (k : Nat) (hk : 1027 < k) : dot_Dot.f k a b = some (dotR a b) := by
  obtain ⟨k, rfl⟩ : ∃ m, k = m + 1 := ⟨k - 1, by omega⟩
  unfold dot_Dot.f dotR
  rw [shape_eq, mild_eq a (k + 1) (by omega), mild_eq b (k + 1) (by omega)]
  simp only [Option.bind_some]
  by_cases h1 : (a.length : Int) = (b.length : Int)
  · rw [if_pos h1, if_pos h1]
    by_cases h2 : (a.length : Int) > 1024
    · rw [if_pos h2, if_pos h2, if_neg (by decide)]
    · rw [if_neg h2, if_neg h2, if_pos rfl]
      by_cases ma : mildB a = true
      · rw [if_pos ma]
        by_cases mb : mildB b = true
        · rw [if_pos ⟨ma, mb⟩, mb]
          simp only [dot_Dot.j0]
          rw [if_neg (by decide)]
          have := dot_loop a b (by omega) (by omega) (mild_mem ma).2 (mild_mem mb).2 a.length k 0 0 (by omega) (by omega) (by omega) (by omega)
          rw [List.drop_zero, List.drop_zero, Int.zero_add] at this
          exact this
        · rw [if_neg (fun h => mb h.2)]
          rw [Bool.not_eq_true] at mb
          rw [mb]
          simp only [dot_Dot.j0]
          rw [if_pos (by rfl)]
      · rw [if_neg ma, if_neg (fun h => ma h.1)]
        simp only [dot_Dot.j0]
        rw [if_pos trivial]
  · rw [if_neg h1, if_neg h1, if_neg (by decide)]
theorem rdot_loop (a b : List Int) (hab : a.length = b.length) (hn : a.length ≤ 1024) (ha : ∀ x ∈ a, -16777216 ≤ x ∧ x ≤ 16777216) (hb : ∀ x ∈ b, -16777216 ≤ x ∧ x ≤ 16777216) (d : Nat) :
    ∀ (k i : Nat) (acc : Int), i + d = a.length → d < k → -(i * 281474976710656) ≤ acc → acc ≤ i * 281474976710656 →
      credenzaref03_Dot.l0 k a b acc (i : Int) = some (acc + dotI (a.drop i) (b.drop i)) := by
  induction d with
  | zero =>
    intro k i acc h hk _ _
    obtain ⟨k, rfl⟩ : ∃ m, k = m + 1 := ⟨k - 1, by omega⟩
    simp only [credenzaref03_Dot.l0]
    rw [if_neg (by omega), List.drop_of_length_le (by omega : a.length ≤ i)]
    simp [dotI]
  | succ d ih =>
    intro k i acc h hk h0 h1
    obtain ⟨k, rfl⟩ : ∃ m, k = m + 1 := ⟨k - 1, by omega⟩
    have hx := ha _ (rd_mem a i (by omega))
    have hy := hb _ (rd_mem b i (by omega))
    have hp := mul_bound (a := rd a (i : Int)) (b := rd b (i : Int)) (A := 16777216) (B := 16777216) (by omega) (by omega) (by omega) (by omega)
    simp only [credenzaref03_Dot.l0]
    rw [if_pos (by omega), if_pos (by omega), if_pos (by omega), w64_succ i a.length (by omega) (by omega), w64 (rd a (i : Int)) (by omega) (by omega), w64 (rd b (i : Int)) (by omega) (by omega), w64 (rd a (i : Int) * rd b (i : Int)) (by omega) (by omega), w64 (acc + rd a (i : Int) * rd b (i : Int)) (by omega) (by omega)]
    rw [ih k (i + 1) _ (by omega) (by omega) (by omega) (by omega), rd_drop a i (by omega), rd_drop b i (by omega)]
    simp only [dotI]
    rw [Int.add_assoc]
theorem rdot_eq (a b : List Int) (hab : a.length = b.length) (ma : mildB a = true) (mb : mildB b = true) (k : Nat) (hk : 1025 < k) : credenzaref03_Dot.f k a b = some (dotI a b) := by
  have h1 := mild_mem ma
  have h2 := mild_mem mb
  have := rdot_loop a b hab (by omega) h1.2 h2.2 a.length k 0 0 (by omega) (by omega) (by omega) (by omega)
  rw [List.drop_zero, List.drop_zero, Int.zero_add] at this
  exact this
theorem same_loop (a b : List Int) (hab : a.length = b.length) (hn : a.length ≤ 140737488351232) (d : Nat) : ∀ (k i : Nat), i + d = a.length → d < k →
    credenzaref03_Same.l0 k a b (i : Int) = some (decide (a.drop i = b.drop i)) := by
  induction d with
  | zero =>
    intro k i h hk
    obtain ⟨k, rfl⟩ : ∃ m, k = m + 1 := ⟨k - 1, by omega⟩
    simp only [credenzaref03_Same.l0]
    rw [if_neg (by omega), List.drop_of_length_le (by omega : a.length ≤ i), List.drop_of_length_le (by omega : b.length ≤ i)]
    simp
  | succ d ih =>
    intro k i h hk
    obtain ⟨k, rfl⟩ : ∃ m, k = m + 1 := ⟨k - 1, by omega⟩
    simp only [credenzaref03_Same.l0]
    rw [if_pos (by omega), if_pos (by omega), if_pos (by omega), w64_succ i a.length (by omega) hn, ih k (i + 1) (by omega) (by omega), rd_drop a i (by omega), rd_drop b i (by omega)]
    by_cases c : rd a (i : Int) = rd b (i : Int)
    · rw [if_pos c, c]; simp
    · rw [if_neg c]; simp [c]
theorem same_eq (a b : List Int) (hn : a.length ≤ 140737488351232) (k : Nat) (hk : a.length < k) : credenzaref03_Same.f k a b = some (decide (a = b)) := by
  unfold credenzaref03_Same.f
  by_cases h : (a.length : Int) = (b.length : Int)
  · rw [if_pos h]
    have := same_loop a b (by omega) hn a.length k 0 (by omega) hk
    rwa [List.drop_zero, List.drop_zero] at this
  · rw [if_neg h, decide_eq_false (fun e => h (by rw [e]))]
theorem same_self (a : List Int) (hn : a.length ≤ 140737488351232) (k : Nat) (hk : a.length < k) : credenzaref03_Same.f k a a = some true := by
  rw [same_eq a a hn k hk]; simp
def prodG (x y : Int) : Int := narrow (rnd (x * y) 65536)
def eachR (g : Int → Int → Int) (a b : List Int) : List Int × Int :=
  if (a.length : Int) = (b.length : Int) then (if (a.length : Int) > 1024 then ([], 12) else (List.zipWith g a b, 0)) else ([], 25)
theorem product_eq (x y : Int) (hx : -2147483648 ≤ x ∧ x ≤ 2147483647) (hy : -2147483648 ≤ y ∧ y ≤ 2147483647) : dot_product.f x y = some (rnd (x * y) 65536) := by
  have h := mul_range x y hx hy
  unfold dot_product.f
  rw [w64 (x * y) (by omega) (by omega), half_eq _ _ (by omega) (by omega), pw16]; rfl
theorem product1_eq (x y : Int) (hx : -2147483648 ≤ x ∧ x ≤ 2147483647) (hy : -2147483648 ≤ y ∧ y ≤ 2147483647) : dot_product.f (wrap64 x) (wrap64 y) = some (rnd (x * y) 65536) := by
  rw [w64 x (by omega) (by omega), w64 y (by omega) (by omega), product_eq x y hx hy]
theorem times1_eq (x y z : Int) (hx : -2147483648 ≤ x ∧ x ≤ 2147483647) (hz : -2147483648 ≤ z ∧ z ≤ 2147483647) : dot_Times_1.f (wrap64 x) y z = some (rnd (x * z) 65536) := by
  unfold dot_Times_1.f
  rw [w64 x (by omega) (by omega), w64 z (by omega) (by omega), product_eq x z hx hz]; rfl
theorem zip_range (f : Int → Int → Int) (a b : List Int) : ∀ x ∈ List.zipWith (fun x y => narrow (f x y)) a b, -8388608 ≤ x ∧ x ≤ 8388608 := by
  induction a generalizing b with
  | nil => intro x hx; simp at hx
  | cons y ys ih =>
    cases b with
    | nil => intro x hx; simp at hx
    | cons z zs =>
      intro x hx
      rw [List.zipWith_cons_cons, List.mem_cons] at hx
      rcases hx with rfl | hx
      · exact narrow_range _
      · exact ih zs x hx
theorem each_by_loop (a b : List Int) (hab : a.length = b.length) (hn : a.length ≤ 140737488351232) (ha : I32 a) (hb : I32 b) (d : Nat) :
    ∀ (k i : Nat) (out : List Int), i + d = a.length → d < k → out.length = a.length →
      dot_each_of_dot_product.l0 k b out a (a.length : Int) (i : Int) = some (out.take i ++ List.zipWith prodG (a.drop i) (b.drop i), 0) := by
  induction d with
  | zero =>
    intro k i out h hk ho
    obtain ⟨k, rfl⟩ : ∃ m, k = m + 1 := ⟨k - 1, by omega⟩
    simp only [dot_each_of_dot_product.l0]
    rw [if_neg (by omega), List.drop_of_length_le (by omega : a.length ≤ i), List.take_of_length_le (by omega)]
    simp
  | succ d ih =>
    intro k i out h hk ho
    obtain ⟨k, rfl⟩ : ∃ m, k = m + 1 := ⟨k - 1, by omega⟩
    have hx := ha _ (rd_mem a i (by omega))
    have hy := hb _ (rd_mem b i (by omega))
    simp only [dot_each_of_dot_product.l0]
    rw [if_pos (by omega), if_pos (by omega), if_pos (by omega), if_pos (by omega), product1_eq _ _ hx hy]
    simp only [Option.bind_some]
    rw [narrow_eq]
    simp only [Option.bind_some]
    rw [if_pos (by omega), w64_succ i a.length (by omega) hn, Int.toNat_natCast, ih k (i + 1) _ (by omega) (by omega) (by rw [List.length_set]; exact ho), set_take _ _ _ (by omega), rd_drop a i (by omega), rd_drop b i (by omega), List.zipWith_cons_cons, List.append_assoc]
    rfl
theorem each_by_eq (a b : List Int) (ha : I32 a) (hb : I32 b) (k : Nat) (hk : 1025 < k) : dot_each_of_dot_product.f k a b = some (eachR prodG a b) := by
  unfold dot_each_of_dot_product.f eachR
  rw [shape_eq]
  simp only [Option.bind_some]
  by_cases h1 : (a.length : Int) = (b.length : Int)
  · rw [if_pos h1, if_pos h1]
    by_cases h2 : (a.length : Int) > 1024
    · rw [if_pos h2, if_pos h2, if_neg (by decide)]
    · rw [if_neg h2, if_neg h2, if_pos rfl, if_pos (by omega), if_pos (by omega)]
      have := each_by_loop a b (by omega) (by omega) ha hb a.length k 0 (List.replicate (a.length : Int).toNat 0) (by omega) (by omega) (by rw [List.length_replicate, Int.toNat_natCast])
      rw [List.drop_zero, List.drop_zero, List.take_zero, List.nil_append] at this
      exact this
  · rw [if_neg h1, if_neg h1, if_neg (by decide)]
theorem each_times_loop (a b : List Int) (hab : a.length = b.length) (hn : a.length ≤ 140737488351232) (ha : I32 a) (hb : I32 b) (z : Int) (hz : -2147483648 ≤ z ∧ z ≤ 2147483647) (d : Nat) :
    ∀ (k i : Nat) (out : List Int), i + d = a.length → d < k → out.length = a.length →
      dot_each_of_dot_Times_1.l0 k b out a (a.length : Int) (i : Int) z = some (out.take i ++ List.zipWith (fun x _ => prodG x z) (a.drop i) (b.drop i), 0) := by
  induction d with
  | zero =>
    intro k i out h hk ho
    obtain ⟨k, rfl⟩ : ∃ m, k = m + 1 := ⟨k - 1, by omega⟩
    simp only [dot_each_of_dot_Times_1.l0]
    rw [if_neg (by omega), List.drop_of_length_le (by omega : a.length ≤ i), List.take_of_length_le (by omega)]
    simp
  | succ d ih =>
    intro k i out h hk ho
    obtain ⟨k, rfl⟩ : ∃ m, k = m + 1 := ⟨k - 1, by omega⟩
    have hx := ha _ (rd_mem a i (by omega))
    have hy := hb _ (rd_mem b i (by omega))
    simp only [dot_each_of_dot_Times_1.l0]
    rw [if_pos (by omega), if_pos (by omega), if_pos (by omega), if_pos (by omega), times1_eq _ _ _ hx hz]
    simp only [Option.bind_some]
    rw [narrow_eq]
    simp only [Option.bind_some]
    rw [if_pos (by omega), w64_succ i a.length (by omega) hn, Int.toNat_natCast, ih k (i + 1) _ (by omega) (by omega) (by rw [List.length_set]; exact ho), set_take _ _ _ (by omega), rd_drop a i (by omega), rd_drop b i (by omega), List.zipWith_cons_cons, List.append_assoc]
    rfl
theorem each_times_eq (a b : List Int) (ha : I32 a) (hb : I32 b) (z : Int) (hz : -2147483648 ≤ z ∧ z ≤ 2147483647) (k : Nat) (hk : 1025 < k) : dot_each_of_dot_Times_1.f k a b z = some (eachR (fun x _ => prodG x z) a b) := by
  unfold dot_each_of_dot_Times_1.f eachR
  rw [shape_eq]
  simp only [Option.bind_some]
  by_cases h1 : (a.length : Int) = (b.length : Int)
  · rw [if_pos h1, if_pos h1]
    by_cases h2 : (a.length : Int) > 1024
    · rw [if_pos h2, if_pos h2, if_neg (by decide)]
    · rw [if_neg h2, if_neg h2, if_pos rfl, if_pos (by omega), if_pos (by omega)]
      have := each_times_loop a b (by omega) (by omega) ha hb z hz a.length k 0 (List.replicate (a.length : Int).toNat 0) (by omega) (by omega) (by rw [List.length_replicate, Int.toNat_natCast])
      rw [List.drop_zero, List.drop_zero, List.take_zero, List.nil_append] at this
      exact this
  · rw [if_neg h1, if_neg h1, if_neg (by decide)]
theorem dby_eq (a b : List Int) (ha : I32 a) (hb : I32 b) (k : Nat) (hk : 1025 < k) : dot_By.f k a b = some (eachR prodG a b) := by
  unfold dot_By.f; rw [each_by_eq a b ha hb k hk]; rfl
theorem dtimes_eq (a : List Int) (z : Int) (ha : I32 a) (hz : -2147483648 ≤ z ∧ z ≤ 2147483647) (k : Nat) (hk : 1025 < k) : dot_Times.f k a z = some (eachR (fun x _ => prodG x z) a a) := by
  unfold dot_Times.f; rw [each_times_eq a a ha ha z hz k hk]; rfl
theorem rproduct_eq (x y : Int) (hx : -2147483648 ≤ x ∧ x ≤ 2147483647) (hy : -2147483648 ≤ y ∧ y ≤ 2147483647) (k : Nat) (hk : 63 ≤ k) : credenzaref03_Product.f k x y = some (prodG x y) := by
  have h := mul_range x y hx hy
  unfold credenzaref03_Product.f
  rw [w64 x (by omega) (by omega), w64 y (by omega) (by omega), w64 (x * y) (by omega) (by omega), rhalf_eq _ _ (by omega) (by omega) k hk, pw16]
  simp only [Option.bind_some]
  rw [rnarrow_eq]; rfl
theorem rby_loop (a b : List Int) (hab : a.length = b.length) (hn : a.length ≤ 1000000) (ha : I32 a) (hb : I32 b) (d : Nat) :
    ∀ (k i : Nat) (acc : List Int), i + d = a.length → d + 64 < k → acc.length = i →
      credenzaref03_By.l0 k a b acc (i : Int) = some (acc ++ List.zipWith prodG (a.drop i) (b.drop i)) := by
  induction d with
  | zero =>
    intro k i acc h hk ho
    obtain ⟨k, rfl⟩ : ∃ m, k = m + 1 := ⟨k - 1, by omega⟩
    simp only [credenzaref03_By.l0]
    rw [if_neg (by omega), List.drop_of_length_le (by omega : a.length ≤ i)]
    simp
  | succ d ih =>
    intro k i acc h hk ho
    obtain ⟨k, rfl⟩ : ∃ m, k = m + 1 := ⟨k - 1, by omega⟩
    have hx := ha _ (rd_mem a i (by omega))
    have hy := hb _ (rd_mem b i (by omega))
    simp only [credenzaref03_By.l0]
    rw [if_pos (by omega), if_pos (by omega), if_pos (by omega), rproduct_eq _ _ hx hy k (by omega)]
    simp only [Option.bind_some]
    rw [if_pos (by omega), w64_succ i a.length (by omega) (by omega), ih k (i + 1) _ (by omega) (by omega) (by rw [List.length_append]; simp; omega), rd_drop a i (by omega), rd_drop b i (by omega), List.zipWith_cons_cons, List.append_assoc]
    rfl
theorem rby_eq (a b : List Int) (hab : a.length = b.length) (hn : a.length ≤ 1000000) (ha : I32 a) (hb : I32 b) (k : Nat) (hk : a.length + 64 < k) : credenzaref03_By.f k a b = some (List.zipWith prodG a b) := by
  unfold credenzaref03_By.f
  have := rby_loop a b hab hn ha hb a.length k 0 [] (by omega) (by omega) rfl
  rw [List.drop_zero, List.drop_zero, List.nil_append] at this
  exact this
theorem rtimes_loop (a : List Int) (hn : a.length ≤ 1000000) (ha : I32 a) (z : Int) (hz : -2147483648 ≤ z ∧ z ≤ 2147483647) (d : Nat) :
    ∀ (k i : Nat) (acc : List Int), i + d = a.length → d + 64 < k → acc.length = i →
      credenzaref03_Times.l0 k a z acc (i : Int) = some (acc ++ List.zipWith (fun x _ => prodG x z) (a.drop i) (a.drop i)) := by
  induction d with
  | zero =>
    intro k i acc h hk ho
    obtain ⟨k, rfl⟩ : ∃ m, k = m + 1 := ⟨k - 1, by omega⟩
    simp only [credenzaref03_Times.l0]
    rw [if_neg (by omega), List.drop_of_length_le (by omega : a.length ≤ i)]
    simp
  | succ d ih =>
    intro k i acc h hk ho
    obtain ⟨k, rfl⟩ : ∃ m, k = m + 1 := ⟨k - 1, by omega⟩
    have hx := ha _ (rd_mem a i (by omega))
    simp only [credenzaref03_Times.l0]
    rw [if_pos (by omega), if_pos (by omega), rproduct_eq _ _ hx hz k (by omega)]
    simp only [Option.bind_some]
    rw [if_pos (by omega), w64_succ i a.length (by omega) (by omega), ih k (i + 1) _ (by omega) (by omega) (by rw [List.length_append]; simp; omega), rd_drop a i (by omega), List.zipWith_cons_cons, List.append_assoc]
    rfl
theorem rtimes_eq (a : List Int) (hn : a.length ≤ 1000000) (ha : I32 a) (z : Int) (hz : -2147483648 ≤ z ∧ z ≤ 2147483647) (k : Nat) (hk : a.length + 64 < k) : credenzaref03_Times.f k a z = some (List.zipWith (fun x _ => prodG x z) a a) := by
  unfold credenzaref03_Times.f
  have := rtimes_loop a hn ha z hz a.length k 0 [] (by omega) (by omega) rfl
  rw [List.drop_zero, List.nil_append] at this
  exact this
def narrowL (l : List Int) : List Int := l.map narrow
theorem narrowL_length (l : List Int) : (narrowL l).length = l.length := by unfold narrowL; rw [List.length_map]
theorem narrowL_range (l : List Int) : ∀ x ∈ narrowL l, -8388608 ≤ x ∧ x ≤ 8388608 := by
  intro x hx
  obtain ⟨y, -, rfl⟩ := List.mem_map.mp hx
  exact narrow_range y
theorem narrowL_i32 (l : List Int) : I32 (narrowL l) := fun x hx => by have := narrowL_range l x hx; omega
theorem narrowL_mild (l : List Int) (h : (l.length : Int) ≤ 1024) : mildB (narrowL l) = true :=
  mild_of (by rw [narrowL_length]; exact h) (fun x hx => by have := narrowL_range l x hx; omega)
theorem nnarrow_loop (l : List Int) (hn : l.length ≤ 140737488351232) (hl : I32 l) (d : Nat) : ∀ (k i : Nat) (out : List Int), i + d = l.length → d < k → out.length = l.length →
    norm_narrow.l0 k out l (l.length : Int) (i : Int) = some (out.take i ++ narrowL (l.drop i)) := by
  induction d with
  | zero =>
    intro k i out h hk ho
    obtain ⟨k, rfl⟩ : ∃ m, k = m + 1 := ⟨k - 1, by omega⟩
    simp only [norm_narrow.l0]
    rw [if_neg (by omega), List.drop_of_length_le (by omega : l.length ≤ i), List.take_of_length_le (by omega)]
    simp [narrowL]
  | succ d ih =>
    intro k i out h hk ho
    obtain ⟨k, rfl⟩ : ∃ m, k = m + 1 := ⟨k - 1, by omega⟩
    have hx := hl _ (rd_mem l i (by omega))
    simp only [norm_narrow.l0]
    rw [if_pos (by omega), if_pos (by omega), if_pos (by omega), w64 (rd l (i : Int)) (by omega) (by omega), narrow_eq]
    simp only [Option.bind_some]
    rw [if_pos (by omega), w64_succ i l.length (by omega) hn, Int.toNat_natCast, ih k (i + 1) _ (by omega) (by omega) (by rw [List.length_set]; exact ho), set_take _ _ _ (by omega), rd_drop l i (by omega), List.append_assoc]
    rfl
theorem nnarrow_eq (l : List Int) (hn : l.length ≤ 1000000) (hl : I32 l) (k : Nat) (hk : l.length < k) : norm_narrow.f k l = some (narrowL l) := by
  unfold norm_narrow.f
  rw [if_pos (by omega), if_pos (by omega)]
  have := nnarrow_loop l (by omega) hl l.length k 0 (List.replicate (l.length : Int).toNat 0) (by omega) (by omega) (by rw [List.length_replicate, Int.toNat_natCast])
  rw [List.drop_zero, List.take_zero, List.nil_append] at this
  exact this
theorem dotI_self (l : List Int) : 0 ≤ dotI l l := by
  induction l with
  | nil => exact Int.le_refl _
  | cons x xs ih =>
    simp only [dotI]
    have : 0 ≤ x * x := by
      rcases Int.le_total 0 x with h | h
      · exact Int.mul_nonneg h h
      · exact Int.mul_nonneg_of_nonpos_of_nonpos h h
    omega
/-- The sum of the squares. -/
def squares (l : List Int) : Int := dotI (narrowL l) (narrowL l)
theorem squares_range (l : List Int) (h : (l.length : Int) ≤ 1024) : 0 ≤ squares l ∧ squares l ≤ 72057594037927936 := by
  have h1 := dotI_self (narrowL l)
  have h2 := dotI_bound 8388608 8388608 (by omega) (by omega) (narrowL l) (narrowL l) (fun x hx => by have := narrowL_range l x hx; omega) (fun x hx => by have := narrowL_range l x hx; omega)
  rw [narrowL_length] at h2
  unfold squares
  omega
def sqI (l : List Int) : Int := rnd (rnd (squares l) (l.length : Int)) 65536 + 1
theorem sqI_range (l : List Int) (h0 : 0 < l.length) (h : (l.length : Int) ≤ 1024) : (0 ≤ rnd (squares l) (l.length : Int) ∧ rnd (squares l) (l.length : Int) ≤ 72057594037927936) ∧ 1 ≤ sqI l ∧ sqI l ≤ 72057594037927937 := by
  have hs := squares_range l h
  have g0 : 0 ≤ rnd (squares l) (l.length : Int) := rnd_ge (by omega) (by omega)
  have g1 : rnd (squares l) (l.length : Int) ≤ 72057594037927936 := rnd_le (by omega) (by have := Int.mul_le_mul_of_nonneg_left (show (1 : Int) ≤ (l.length : Int) by omega) (show (0 : Int) ≤ 72057594037927936 by omega); omega)
  have g2 : 0 ≤ rnd (rnd (squares l) (l.length : Int)) 65536 := rnd_ge (by omega) (by omega)
  have g3 : rnd (rnd (squares l) (l.length : Int)) 65536 ≤ 72057594037927936 := rnd_le (by omega) (by omega)
  unfold sqI
  omega
theorem nsquare_eq (l : List Int) (hn : l.length ≤ 1000000) (hl : I32 l) (k : Nat) (hk : l.length + 1100 < k) : norm_Square.f k l = some (if l.length = 0 ∨ (l.length : Int) > 1024 then 0 else sqI l) := by
  obtain ⟨k, rfl⟩ : ∃ m, k = m + 1 := ⟨k - 1, by omega⟩
  unfold norm_Square.f
  rw [nnarrow_eq l hn hl (k + 1) (by omega)]
  simp only [Option.bind_some]
  rw [dot_eq _ _ (k + 1) (by omega)]
  simp only [Option.bind_some]
  unfold dotR
  rw [narrowL_length, if_pos rfl]
  by_cases h1 : (l.length : Int) > 1024
  · rw [if_pos h1, if_pos (Or.inr h1), if_neg (by decide)]
    simp only [norm_Square.j0]
    rw [if_pos trivial]
  · have hm := narrowL_mild l (by omega)
    rw [if_neg h1, if_pos (show mildB (narrowL l) = true ∧ mildB (narrowL l) = true from ⟨hm, hm⟩), if_pos rfl]
    simp only [norm_Square.j0]
    by_cases h0 : l.length = 0
    · rw [if_pos (by rw [h0]; rfl), if_pos (Or.inl h0)]
    · have hs := squares_range l (by omega)
      have hq := sqI_range l (by omega) (by omega)
      rw [if_neg (by rw [beq_iff_eq]; omega), if_neg (by omega)]
      rw [show dotI (narrowL l) (narrowL l) = squares l from rfl, ratio_eq _ _ (by omega) (by omega) (by omega) (by omega)]
      simp only [Option.bind_some]
      rw [half_eq _ _ (by omega) (by omega), pw16]
      simp only [Option.bind_some]
      rw [w64 _ (by unfold sqI at hq; omega) (by unfold sqI at hq; omega)]
      rfl
/-- Made even by a reciprocal root. -/
def evenI (x gain : List Int) (r : Int) : List Int := List.zipWith prodG (List.zipWith (fun y _ => prodG y r) (narrowL x) (narrowL x)) gain
theorem prod_i32 (g : Int → Int → Int) (a b : List Int) : I32 (List.zipWith (fun x y => narrow (g x y)) a b) := fun x hx => by have := zip_range g a b x hx; omega
theorem neven_eq (x gain : List Int) (h0 : 0 < x.length) (h1 : (x.length : Int) ≤ 1024) (hg : (x.length : Int) = gain.length) (hx : I32 x) (hgain : I32 gain) (k : Nat) (hk : 2200 < k) :
    ∃ r, IsRoot (281474976710656 / mx (sqI x) 1) r ∧ r ≤ 16777216 ∧ norm_Even.f k x gain = some (evenI x gain r, 0) := by
  have hq := sqI_range x h0 h1
  obtain ⟨r, er, hr, hb⟩ := rsqrt_eq (sqI x) (by omega) k (by omega)
  refine ⟨r, hr, hb, ?_⟩
  have hr0 := hr.1
  unfold norm_Even.f
  rw [if_neg (by omega), if_neg (by omega), if_pos hg, nnarrow_eq x (by omega) hx k (by omega), nsquare_eq x (by omega) hx k (by omega), if_neg (by omega)]
  simp only [Option.bind_some]
  rw [er]
  simp only [Option.bind_some]
  rw [dtimes_eq _ r (narrowL_i32 x) (by omega) k (by omega)]
  simp only [Option.bind_some]
  have e1 : eachR (fun y _ => prodG y r) (narrowL x) (narrowL x) = (List.zipWith (fun y _ => prodG y r) (narrowL x) (narrowL x), 0) := by unfold eachR; rw [if_pos rfl, narrowL_length, if_neg (by omega)]
  have hz : (List.zipWith (fun y _ => prodG y r) (narrowL x) (narrowL x)).length = x.length := by rw [List.length_zipWith, narrowL_length]; omega
  have e2 : eachR prodG (List.zipWith (fun y _ => prodG y r) (narrowL x) (narrowL x)) gain = (evenI x gain r, 0) := by unfold eachR; rw [hz, if_pos hg, if_neg (by omega)]; rfl
  have hi : I32 (List.zipWith (fun y _ => prodG y r) (narrowL x) (narrowL x)) := prod_i32 (fun y _ => rnd (y * r) 65536) _ _
  rw [e1, if_pos rfl, dby_eq _ _ hi hgain k (by omega), e2]
  rfl
theorem rnarrowl_loop (l : List Int) (hn : l.length ≤ 1000000) (hl : I32 l) (d : Nat) : ∀ (k i : Nat) (acc : List Int), i + d = l.length → d < k → acc.length = i →
    credenzaref14_Narrow.l0 k l acc (i : Int) = some (acc ++ narrowL (l.drop i)) := by
  induction d with
  | zero =>
    intro k i acc h hk ho
    obtain ⟨k, rfl⟩ : ∃ m, k = m + 1 := ⟨k - 1, by omega⟩
    simp only [credenzaref14_Narrow.l0]
    rw [if_neg (by omega), List.drop_of_length_le (by omega : l.length ≤ i)]
    simp [narrowL]
  | succ d ih =>
    intro k i acc h hk ho
    obtain ⟨k, rfl⟩ : ∃ m, k = m + 1 := ⟨k - 1, by omega⟩
    have hx := hl _ (rd_mem l i (by omega))
    simp only [credenzaref14_Narrow.l0]
    rw [if_pos (by omega), if_pos (by omega), w64 (rd l (i : Int)) (by omega) (by omega), rnarrow_eq]
    simp only [Option.bind_some]
    rw [if_pos (by omega), w64_succ i l.length (by omega) (by omega), ih k (i + 1) _ (by omega) (by omega) (by rw [List.length_append]; simp; omega), rd_drop l i (by omega), List.append_assoc]
    rfl
theorem rnarrowl_eq (l : List Int) (hn : l.length ≤ 1000000) (hl : I32 l) (k : Nat) (hk : l.length < k) : credenzaref14_Narrow.f k l = some (narrowL l) := by
  unfold credenzaref14_Narrow.f
  have := rnarrowl_loop l hn hl l.length k 0 [] (by omega) (by omega) rfl
  rw [List.drop_zero, List.nil_append] at this
  exact this
theorem rsquare_eq (l : List Int) (h0 : 0 < l.length) (h1 : (l.length : Int) ≤ 1024) (hl : I32 l) (k : Nat) (hk : l.length + 1100 < k) : credenzaref15_Square.f k l = some (sqI l) := by
  have hm := narrowL_mild l h1
  have hs := squares_range l h1
  have hq := sqI_range l h0 h1
  unfold credenzaref15_Square.f
  rw [rnarrowl_eq l (by omega) hl k (by omega)]
  simp only [Option.bind_some]
  rw [rdot_eq _ _ rfl hm hm k (by omega)]
  simp only [Option.bind_some]
  rw [show dotI (narrowL l) (narrowL l) = squares l from rfl, rratio_eq _ _ (by omega) (by omega) (by omega) (by omega)]
  simp only [Option.bind_some]
  rw [rratio_eq _ _ (by omega) (by omega) (by omega) (by omega)]
  simp only [Option.bind_some]
  rw [w64 _ (by unfold sqI at hq; omega) (by unfold sqI at hq; omega)]
  rfl
theorem reven_eq (x gain : List Int) (h0 : 0 < x.length) (h1 : (x.length : Int) ≤ 1024) (hg : (x.length : Int) = gain.length) (hx : I32 x) (hgain : I32 gain) (k : Nat) (hk : 2200 < k) (r : Int) (hr : IsRoot (281474976710656 / mx (sqI x) 1) r) (hb : r ≤ 16777216) :
    credenzaref15_Even.f k x gain = some (evenI x gain r) := by
  have hq := sqI_range x h0 h1
  obtain ⟨s, es, hs⟩ := rrsqrt_eq (sqI x) (by omega) k (by omega)
  obtain rfl : s = r := root_unique hs hr
  have hr0 := hr.1
  have hz : (List.zipWith (fun y _ => prodG y s) (narrowL x) (narrowL x)).length = x.length := by rw [List.length_zipWith, narrowL_length]; omega
  unfold credenzaref15_Even.f
  rw [rsquare_eq x h0 h1 hx k (by omega)]
  simp only [Option.bind_some]
  rw [es, rnarrowl_eq x (by omega) hx k (by omega)]
  simp only [Option.bind_some]
  rw [rtimes_eq _ (by rw [narrowL_length]; omega) (narrowL_i32 x) s (by omega) k (by rw [narrowL_length]; omega)]
  simp only [Option.bind_some]
  have hi : I32 (List.zipWith (fun y _ => prodG y s) (narrowL x) (narrowL x)) := prod_i32 (fun y _ => rnd (y * s) 65536) _ _
  rw [rby_eq _ gain (by rw [hz]; omega) (by rw [hz]; omega) hi hgain k (by rw [hz]; omega)]
  rfl
theorem prodG_nonneg (a b : Int) (ha : 0 ≤ a) (hb : 0 ≤ b) : 0 ≤ prodG a b := by
  have h : 0 ≤ rnd (a * b) 65536 := rnd_ge (by omega) (by have := Int.mul_nonneg ha hb; omega)
  unfold prodG narrow cutI
  split <;> (try split) <;> omega
theorem prodG_nonpos (a b : Int) (ha : a ≤ 0) (hb : 0 ≤ b) : prodG a b ≤ 0 := by
  have h : rnd (a * b) 65536 ≤ 0 := rnd_le (by omega) (by have := Int.mul_nonpos_of_nonpos_of_nonneg ha hb; omega)
  unfold prodG narrow cutI
  split <;> (try split) <;> omega
end Cz

theorem nones_loop (x v : Int) (l g y : List Int) (hy : ∀ j : Nat, j < y.length → rd y (j : Int) = v) (hn : y.length ≤ 200) (hpos : x > 0 → ¬ v < 0) (hneg : x < 0 → ¬ v > 0) (aw : ∀ k, 1200 ≤ k → credenzalaw15_awake.f k = some true) (he : ∀ k, 3000 ≤ k → credenzaref15_Even.f k l g = some y) (d : Nat) : ∀ (k i : Nat), i + d = y.length → d + 3000 < k →
    credenzalaw15_NormOnes.l1 k x l g y y (y.length : Int) (i : Int) = some true := by
  induction d with
  | zero =>
    intro k i h' hk
    obtain ⟨k, rfl⟩ : ∃ m, k = m + 1 := ⟨k - 1, by omega⟩
    simp only [credenzalaw15_NormOnes.l1]
    rw [if_neg (by omega), he k (by omega)]
    simp only [Option.bind_some]
    rw [Cz.same_self _ (by omega) k (by omega), aw k (by omega)]
    simp
  | succ d ih =>
    intro k i h' hk
    obtain ⟨k, rfl⟩ : ∃ m, k = m + 1 := ⟨k - 1, by omega⟩
    have e0 : rd y 0 = v := hy 0 (by omega)
    simp only [credenzalaw15_NormOnes.l1]
    rw [if_pos (by omega), if_pos (by omega), if_pos (by omega), if_pos (by omega), hy i (by omega), e0, if_pos rfl, Cz.w64_succ i y.length (by omega) (by omega), ih k (i + 1) (by omega) (by omega)]
    by_cases c1 : x > 0
    · rw [if_pos c1, if_neg (hpos c1), if_neg (by omega)]
    · rw [if_neg c1]
      by_cases c2 : x < 0
      · rw [if_pos c2, if_neg (hneg c2)]
      · rw [if_neg c2]
theorem nones_make (x : Int) (n : Nat) (hn : n ≤ 200) (hx : -2147483648 ≤ x ∧ x ≤ 2147483647) (aw : ∀ k, 1200 ≤ k → credenzalaw15_awake.f k = some true) (h1 : 1 ≤ n) (d : Nat) : ∀ (k i : Nat), i + d = n → d + 4000 < k →
    credenzalaw15_NormOnes.l0 k x (n : Int) (List.replicate i x) (List.replicate i 65536) (n : Int) (i : Int) = some true := by
  induction d with
  | zero =>
    intro k i h' hk
    obtain ⟨k, rfl⟩ : ∃ m, k = m + 1 := ⟨k - 1, by omega⟩
    obtain rfl : i = n := by omega
    have hxl : Cz.I32 (List.replicate i x) := fun y hy => by rw [List.eq_of_mem_replicate hy]; exact hx
    have hgl : Cz.I32 (List.replicate i (65536 : Int)) := fun y hy => by rw [List.eq_of_mem_replicate hy]; omega
    have hlen : (List.replicate i x).length = i := List.length_replicate
    have hlg : (List.replicate i (65536 : Int)).length = i := List.length_replicate
    obtain ⟨r, hr, hb, e⟩ := Cz.neven_eq (List.replicate i x) (List.replicate i 65536) (by omega) (by omega) (by rw [hlen, hlg]) hxl hgl k (by omega)
    have hev : Cz.evenI (List.replicate i x) (List.replicate i 65536) r = List.replicate i (Cz.prodG (Cz.prodG (Cz.narrow x) r) 65536) := by
      unfold Cz.evenI Cz.narrowL
      rw [List.map_replicate, List.zipWith_replicate, List.zipWith_replicate, Nat.min_self, Nat.min_self]
    have hr0 := hr.1
    have nr := Cz.narrow_range x
    simp only [credenzalaw15_NormOnes.l0]
    rw [if_neg (by omega), e]
    simp only [Option.bind_some]
    have hel : (Cz.evenI (List.replicate i x) (List.replicate i 65536) r).length = i := by rw [hev, List.length_replicate]
    rw [if_pos trivial, hel, show ((i : Int) != (i : Int)) = false from by simp]
    obtain ⟨k, rfl⟩ : ∃ m, k = m + 1 := ⟨k - 1, by omega⟩
    simp only [credenzalaw15_NormOnes.j2]
    rw [if_neg (by decide)]
    have hpn : x > 0 → 0 ≤ Cz.prodG (Cz.prodG (Cz.narrow x) r) 65536 := by
      intro h
      have h2 : 0 ≤ Cz.narrow x := by unfold Cz.narrow Cz.cutI; split <;> (try split) <;> omega
      exact Cz.prodG_nonneg _ _ (Cz.prodG_nonneg _ _ h2 hr0) (by omega)
    have hnn : x < 0 → Cz.prodG (Cz.prodG (Cz.narrow x) r) 65536 ≤ 0 := by
      intro h
      have h2 : Cz.narrow x ≤ 0 := by unfold Cz.narrow Cz.cutI; split <;> (try split) <;> omega
      exact Cz.prodG_nonpos _ _ (Cz.prodG_nonpos _ _ h2 hr0) (by omega)
    refine nones_loop x (Cz.prodG (Cz.prodG (Cz.narrow x) r) 65536) _ _ _ (fun j hj => ?_) (by omega) (fun h => by have := hpn h; omega) (fun h => by have := hnn h; omega) aw (fun k' hk' => Cz.reven_eq _ _ (by omega) (by omega) (by rw [hlen, hlg]) hxl hgl k' (by omega) r hr hb) (Cz.evenI (List.replicate i x) (List.replicate i 65536) r).length k 0 (by omega) (by omega)
    rw [hel] at hj
    rw [hev]
    unfold rd
    rw [Int.toNat_natCast, List.getD_eq_getElem?_getD, List.getElem?_replicate, if_pos hj]
    rfl
  | succ d ih =>
    intro k i h' hk
    obtain ⟨k, rfl⟩ : ∃ m, k = m + 1 := ⟨k - 1, by omega⟩
    simp only [credenzalaw15_NormOnes.l0]
    rw [if_pos (by omega), List.length_replicate, if_pos (by omega), List.length_replicate, if_pos (by omega), Cz.w64_succ i n (by omega) (by omega), ← List.replicate_succ', ← List.replicate_succ']
    exact ih k (i + 1) (by omega) (by omega)
theorem NormOnes : credenzalaw15_NormOnes.Pure := by
  intro x n hx hn
  have hx := Cz.wf32 hx
  have hn := Cz.wf64 hn
  have aw : credenzalaw15_awake.f 1200 = some true := by decide +kernel
  have awk := fun k (hk : 1200 ≤ k) => Cz.up credenzalaw15_awake.mono aw hk
  refine ⟨9002, ?_⟩
  have J : ∀ b, credenzalaw15_NormOnes.j0 9002 x n b = some true ∨ b = false := by
    intro b
    cases b with
    | false => exact Or.inr rfl
    | true =>
      refine Or.inl ?_
      simp only [credenzalaw15_NormOnes.j0]
      rw [if_pos trivial, awk _ (by omega)]; rfl
  have Jt : credenzalaw15_NormOnes.j0 9002 x n true = some true := by rcases J true with h | h; exact h; cases h
  unfold credenzalaw15_NormOnes.f
  by_cases c0 : n < 1
  · rw [if_pos c0]; exact Jt
  rw [if_neg c0]
  by_cases c1 : n > 200
  · rw [if_pos c1]; exact Jt
  rw [if_neg c1]
  have Jf : credenzalaw15_NormOnes.j0 9002 x n false = some true := by
    simp only [credenzalaw15_NormOnes.j0]
    rw [if_neg (by decide)]
    obtain ⟨m, rfl⟩ := Int.eq_ofNat_of_zero_le (show 0 ≤ n by omega)
    exact nones_make x m (by omega) hx awk (by omega) m 9001 0 (by omega) (by omega)
  by_cases c2 : x > (-256)
  · rw [if_pos c2]
    by_cases c3 : x < 256
    · rw [decide_eq_true c3]; exact Jt
    · rw [decide_eq_false c3]; exact Jf
  · rw [if_neg c2]; exact Jf

end Go.Proofs.Ytmndomlpdajjmac.Pure
