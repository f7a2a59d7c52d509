/- Any number has the reciprocal, and any whole number the reciprocal root, that the document says. No condition: for every input. -/
import Derived.Test.YtmndomlpdajjmaaQx1
import Derived.Test.YtmndomlpdajjmaaQx2
import Derived.Test.YtmndomlpdajjmaaQx3
set_option linter.unusedVariables false
set_option linter.unusedSimpArgs false
namespace Go.Proofs.Ytmndomlpdajjmaa.Pure
open Go.RowKit Go.Proofs.Ytmndomlpdajjmaa.Q Go.Proofs.YtmndomlpdajjmaaW.PrintWords Go.Proofs.YtmndomlpdajjmaaW.PrintLast
namespace Cz

/-- Divided by d, rounded, a half to the even one. -/
def rnd (a d : Int) : Int :=
  if a % d > d - a % d then a / d + 1 else if a % d = d - a % d ∧ (a / d) % 2 = 1 then a / d + 1 else a / d
theorem two_pow_pos (n : Nat) : (0 : Int) < 2 ^ n := Int.pow_pos (by omega)
theorem two_pow_le (m : Nat) (d : Nat) : (2 : Int) ^ m ≤ 2 ^ (m + d) := by
  induction d with
  | zero => exact Int.le_refl _
  | succ d ih =>
    have h := two_pow_pos (m + d)
    have e : (2 : Int) ^ (m + (d + 1)) = 2 * 2 ^ (m + d) := by rw [← Nat.add_assoc, Int.pow_succ, Int.mul_comm]
    omega
theorem two_pow_max {m n : Nat} (h : m ≤ n) : (2 : Int) ^ m ≤ 2 ^ n := by
  obtain ⟨d, rfl⟩ : ∃ d, n = m + d := ⟨n - m, by omega⟩
  exact two_pow_le m d
theorem two_pow_succ (n : Nat) : (2 : Int) ^ (n + 1) = 2 * 2 ^ n := by rw [Int.pow_succ, Int.mul_comm]
/-- r is the root of v. -/
def IsRoot (v r : Int) : Prop := 0 ≤ r ∧ r * r ≤ v ∧ v < (r + 1) * (r + 1)
theorem sq_le {a b : Int} (h0 : 0 ≤ a) (h : a ≤ b) : a * a ≤ b * b := Int.mul_le_mul h h h0 (by omega)
theorem root_le {v w r s : Int} (hr : IsRoot v r) (hs : IsRoot w s) (h : v ≤ w) : r ≤ s := by
  obtain ⟨r0, r1, r2⟩ := hr
  obtain ⟨s0, s1, s2⟩ := hs
  by_cases hlt : s < r
  · have := sq_le (by omega : 0 ≤ s + 1) (by omega : s + 1 ≤ r)
    omega
  · omega
theorem root_unique {v r s : Int} (hr : IsRoot v r) (hs : IsRoot v s) : r = s :=
  Int.le_antisymm (root_le hr hs (Int.le_refl v)) (root_le hs hr (Int.le_refl v))
theorem root_small {v r b : Int} (hr : IsRoot v r) (hb : 0 ≤ b) (h : v < (b + 1) * (b + 1)) : r ≤ b := by
  obtain ⟨r0, r1, r2⟩ := hr
  by_cases hlt : b < r
  · have := sq_le (by omega : 0 ≤ b + 1) (by omega : b + 1 ≤ r)
    omega
  · omega
/-- One bit of the root. -/
theorem root_bit {v x D : Int} (h : v < (x + 2 * D) * (x + 2 * D)) : v < (x + D + D) * (x + D + D) := by
  have : x + D + D = x + 2 * D := by omega
  rw [this]; exact h
theorem w64 (x : Int) (h0 : -9223372036854775808 ≤ x) (h1 : x ≤ 9223372036854775807) : wrap64 x = x := by unfold wrap64; omega
theorem w32 (x : Int) (h0 : -2147483648 ≤ x) (h1 : x ≤ 2147483647) : wrap32 x = x := by unfold wrap32; omega
theorem w64_sub (a b : Int) : wrap64 (a - wrap64 b) = wrap64 (a - b) := by unfold wrap64; omega
theorem wf64 {x : Int} (h : (Lit.int .i64 x).wf = true) : -9223372036854775808 ≤ x ∧ x ≤ 9223372036854775807 := by
  simp only [Lit.wf, IntKind.min, IntKind.max, IntKind.signed, IntKind.bits, Bool.and_eq_true, decide_eq_true_eq, if_true] at h
  omega
theorem wf32 {x : Int} (h : (Lit.int .i32 x).wf = true) : -2147483648 ≤ x ∧ x ≤ 2147483647 := by
  simp only [Lit.wf, IntKind.min, IntKind.max, IntKind.signed, IntKind.bits, Bool.and_eq_true, decide_eq_true_eq, if_true] at h
  omega
theorem and1 (x : Int) : Go.bits .and .i64 x 1 = x % 2 := by
  have h : (BitVec.ofInt 64 x &&& BitVec.ofInt 64 1).toNat = ((x % 2).toNat) := by
    have e : (BitVec.ofInt 64 1).toNat = 2 ^ 1 - 1 := by decide
    rw [BitVec.toNat_and, e, Nat.and_two_pow_sub_one_eq_mod, BitVec.toNat_ofInt]
    omega
  show IntKind.i64.wrap (((BitVec.ofInt 64 x &&& BitVec.ofInt 64 1).toNat : Nat) : Int) = _
  rw [h, IntKind.wrap_i64]
  omega
theorem div_bound (v D : Int) (hD : 1 ≤ D) : (0 ≤ v → 0 ≤ v / D ∧ v / D ≤ v) ∧ (v < 0 → v ≤ v / D ∧ v / D < 0) := by
  have h1 := Int.emod_add_mul_ediv v D
  have h2 := Int.emod_nonneg v (by omega : D ≠ 0)
  have h3 := Int.emod_lt_of_pos v (by omega : 0 < D)
  constructor
  · intro h
    exact ⟨Int.ediv_nonneg h (by omega), Int.ediv_le_self D h⟩
  · intro h
    have hn : v / D < 0 := Int.ediv_neg_of_neg_of_pos h (by omega)
    have : (v / D + 1) * (D - 1) ≤ 0 := Int.mul_nonpos_of_nonpos_of_nonneg (by omega) (by omega)
    rw [Int.mul_sub, Int.mul_one, Int.add_mul, Int.one_mul, Int.mul_comm (v / D)] at this
    omega
theorem div_half (v D : Int) (hD : 2 ≤ D) (h0 : -9223372036854775808 ≤ v) (h1 : v ≤ 9223372036854775807) : -4611686018427387904 ≤ v / D ∧ v / D ≤ 4611686018427387903 := by
  constructor
  · exact Int.le_ediv_of_mul_le (by omega) (by omega)
  · have : v / D < 4611686018427387904 := Int.ediv_lt_of_lt_mul (by omega) (by omega)
    omega
/-- Cut to a range. -/
def cutI (v lo hi : Int) : Int := if v < lo then lo else if v > hi then hi else v
def wide (v : Int) : Int := cutI v (-2147483648) 2147483647
theorem wide_range (v : Int) : -2147483648 ≤ wide v ∧ wide v ≤ 2147483647 := by unfold wide cutI; omega
theorem cut_eq (v lo hi : Int) (h0 : -2147483648 ≤ lo) (h1 : lo ≤ hi) (h2 : hi ≤ 2147483647) : fix_cut.f v lo hi = some (cutI v lo hi) := by
  unfold fix_cut.f cutI mn mx wrap32
  congr 1
  split <;> split <;> (try split) <;> (try split) <;> omega
theorem wide_eq (v : Int) : fix_Wide.f v = some (wide v) := by
  unfold fix_Wide.f
  rw [cut_eq _ _ _ (by omega) (by omega) (by omega)]; rfl
theorem tdiv_eq (a b : Int) (hb : 0 < b) : Int.tdiv a b = if a < 0 ∧ a % b ≠ 0 then a / b + 1 else a / b := by
  rw [Int.tdiv_eq_ediv]
  have hs : b.sign = 1 := Int.sign_eq_one_of_pos hb
  have hd : b ∣ a ↔ a % b = 0 := ⟨Int.emod_eq_zero_of_dvd, Int.dvd_of_emod_eq_zero⟩
  by_cases c : a < 0 ∧ a % b ≠ 0
  · rw [if_pos c, if_neg (by rw [hd]; omega), hs]
  · rw [if_neg c, if_pos (by rw [hd]; omega)]; omega
theorem tmod_eq (a b : Int) (hb : 0 < b) : Int.tmod a b = if a < 0 ∧ a % b ≠ 0 then a % b - b else a % b := by
  have h1 := Int.tmod_add_mul_tdiv a b
  have h2 := Int.emod_add_mul_ediv a b
  rw [tdiv_eq a b hb] at h1
  split at h1
  · rename_i c
    rw [if_pos c]
    rw [Int.mul_add, Int.mul_one] at h1
    omega
  · rename_i c
    rw [if_neg c]
    omega
theorem ratio_eq (a b : Int) (h0 : -9223372036854775808 ≤ a) (h1 : a ≤ 9223372036854775807) (hb : 0 < b) (hb1 : b ≤ 9223372036854775807) : fix_Ratio.f a b = some (rnd a b) := by
  have e2 := Int.emod_nonneg a (by omega : b ≠ 0)
  have e3 := Int.emod_lt_of_pos a hb
  have hq := div_bound a b (by omega)
  have hq2 := fun h => div_half a b h h0 h1
  unfold fix_Ratio.f rnd
  rw [if_neg (by omega), if_neg (by omega), tdiv_eq a b hb, tmod_eq a b hb]
  simp only [and1]
  generalize a % b = r at *
  generalize a / b = q at *
  by_cases c : a < 0 ∧ r ≠ 0
  · rw [if_pos c, if_pos c, if_pos (by omega), w64 (q + 1) (by omega) (by omega), show q + 1 - 1 = q from by omega, w64 q (by omega) (by omega), show r - b + b = r from by omega, w64 r (by omega) (by omega), w64 (b - r) (by omega) (by omega), w64 (q + 1) (by omega) (by omega)]
    repeat' split
    all_goals first | rfl | (exfalso; omega)
  · rw [if_neg c, if_neg c, if_neg (by omega), w64 q (by omega) (by omega), w64 (b - r) (by omega) (by omega)]
    by_cases c1 : 2 ≤ b
    · rw [w64 (q + 1) (by omega) (by omega)]
      repeat' split
      all_goals first | rfl | (exfalso; omega)
    · repeat' split
      all_goals first | rfl | (exfalso; omega)
theorem ratio_none (a b : Int) (hb : b ≤ 0) : fix_Ratio.f a b = some 0 := by
  unfold fix_Ratio.f; rw [if_pos hb]
def divI (a b : Int) : Int := if b = 0 then wide (a * 4294967296) else if b < 0 then wide (rnd (a * (-65536)) (-b)) else wide (rnd (a * 65536) b)
theorem div_eq (a b : Int) (ha : -2147483648 ≤ a ∧ a ≤ 2147483647) (hb : -2147483648 ≤ b ∧ b ≤ 2147483647) (k : Nat) (hk : 3 ≤ k) : fix_Div.f k a b = some (divI a b) := by
  obtain ⟨k, rfl⟩ : ∃ m, k = m + 3 := ⟨k - 3, by omega⟩
  unfold fix_Div.f divI
  rw [w64 a (by omega) (by omega), w64 b (by omega) (by omega), w64 (a * 65536) (by omega) (by omega), w64 (-(a * 65536)) (by omega) (by omega), w64 (-b) (by omega) (by omega)]
  by_cases c0 : b = 0
  · subst c0
    rw [if_neg (by omega), if_pos rfl, if_pos rfl]
    simp only [fix_Div.j0]
    by_cases c1 : a > 0
    · rw [if_pos (by simpa using c1)]
      unfold wide cutI; rw [if_neg (by omega), if_pos (by omega)]
    · rw [if_neg (by simpa using c1), if_pos trivial]
      simp only [fix_Div.j1]
      by_cases c2 : a < 0
      · rw [if_pos (by simpa using c2)]
        unfold wide cutI; rw [if_pos (by omega)]
      · rw [if_neg (by simpa using c2), ratio_none _ _ (by omega)]
        simp only [Option.bind_some]
        rw [wide_eq, show a * 4294967296 = 0 from by omega]; rfl
  · rw [if_neg c0, if_neg c0]
    by_cases c1 : b < 0
    · rw [if_pos c1, if_pos c1, ratio_eq _ _ (by omega) (by omega) (by omega) (by omega), show -(a * 65536) = a * (-65536) from by omega]
      simp only [Option.bind_some]
      rw [wide_eq]; rfl
    · rw [if_neg c1, if_neg c1]
      simp only [fix_Div.j0]
      rw [if_neg (by decide), if_neg c0]
      simp only [fix_Div.j1]
      rw [if_neg (by decide), ratio_eq _ _ (by omega) (by omega) (by omega) (by omega)]
      simp only [Option.bind_some]
      rw [wide_eq]; rfl
theorem rfloor_eq (a b : Int) (h0 : -9223372036854775808 ≤ a) (h1 : a ≤ 9223372036854775807) (hb : 0 < b) : credenzaref01_Floor.f a b = some (a / b) := by
  have e1 := Int.emod_add_mul_ediv a b
  have e2 := Int.emod_nonneg a (by omega : b ≠ 0)
  have e3 := Int.emod_lt_of_pos a hb
  have hq := div_bound a b (by omega)
  have hn : a < 0 → (a / b + 1) * b ≤ 0 := fun h => Int.mul_nonpos_of_nonpos_of_nonneg (by omega) (by omega)
  have hz : 0 ≤ a → 0 ≤ b * (a / b) := fun h => Int.mul_nonneg (by omega) (hq.1 h).1
  have ep : (a / b + 1) * b = b * (a / b) + b := by rw [Int.add_mul, Int.one_mul, Int.mul_comm]
  have eq' : a / b * b = b * (a / b) := Int.mul_comm _ _
  unfold credenzaref01_Floor.f
  rw [if_neg (by omega), tdiv_eq a b hb]
  by_cases c : a < 0 ∧ a % b ≠ 0
  · have := hn c.1
    rw [if_pos c, w64 (a / b + 1) (by omega) (by omega), ep, w64 (b * (a / b) + b) (by omega) (by omega), if_pos (by omega), show a / b + 1 - 1 = a / b from by omega, w64 _ (by omega) (by omega)]
  · rw [if_neg c, w64 (a / b) (by omega) (by omega), eq', w64 (b * (a / b)) (by omega) (by omega), if_neg (by omega)]
theorem rratio_eq (a b : Int) (h0 : -9223372036854775808 ≤ a) (h1 : a ≤ 9223372036854775807) (hb : 0 < b) (hb1 : b ≤ 9223372036854775807) : credenzaref01_Ratio.f a b = some (rnd a b) := by
  have e1 := Int.emod_add_mul_ediv a b
  have e2 := Int.emod_nonneg a (by omega : b ≠ 0)
  have e3 := Int.emod_lt_of_pos a hb
  have hq := div_bound a b (by omega)
  have hq2 := fun h => div_half a b h h0 h1
  have e4 : a - (a / b) * b = a % b := by rw [Int.mul_comm]; omega
  unfold credenzaref01_Ratio.f rnd
  rw [rfloor_eq a b h0 h1 hb]
  simp only [Option.bind_some]
  rw [w64_sub, e4, w64 (a % b) (by omega) (by omega), w64 (b - a % b) (by omega) (by omega), tmod_eq _ 2 (by omega)]
  generalize a % b = r at *
  generalize a / b = q at *
  by_cases c1 : 2 ≤ b
  · rw [w64 (q + 1) (by omega) (by omega)]
    repeat' split
    all_goals first | rfl | (exfalso; omega)
  · repeat' split
    all_goals first | rfl | (exfalso; omega)
theorem rcut_eq (v lo hi : Int) : credenzaref01_Cut.f v lo hi = some (cutI v lo hi) := by
  unfold credenzaref01_Cut.f cutI
  split
  · rfl
  · split <;> rfl
theorem rwide_eq (v : Int) : credenzaref01_Wide.f v = some (wide v) := by
  have := wide_range v
  unfold credenzaref01_Wide.f
  rw [rcut_eq]
  show some (wrap32 (wide v)) = some (wide v)
  rw [w32 _ this.1 this.2]
theorem rdiv_eq (a b : Int) (ha : -2147483648 ≤ a ∧ a ≤ 2147483647) (hb : -2147483648 ≤ b ∧ b ≤ 2147483647) : credenzaref01_Div.f a b = some (divI a b) := by
  unfold credenzaref01_Div.f divI
  rw [w64 a (by omega) (by omega), w64 b (by omega) (by omega), w64 (a * 65536) (by omega) (by omega), w64 (a * (-65536)) (by omega) (by omega), w64 (a * 4294967296) (by omega) (by omega), w64 (-b) (by omega) (by omega)]
  by_cases c0 : b = 0
  · rw [if_pos c0, if_pos c0, rwide_eq]; rfl
  · rw [if_neg c0, if_neg c0]
    by_cases c1 : b < 0
    · rw [if_pos c1, if_pos c1, rratio_eq _ _ (by omega) (by omega) (by omega) (by omega)]
      simp only [Option.bind_some]
      rw [rwide_eq]; rfl
    · rw [if_neg c1, if_neg c1, rratio_eq _ _ (by omega) (by omega) (by omega) (by omega)]
      simp only [Option.bind_some]
      rw [rwide_eq]; rfl
theorem u64w (n : Int) (h0 : 0 ≤ n) (h1 : n < 18446744073709551616) : IntKind.u64.wrap n = n := by
  have : IntKind.u64.wrap n = n % 18446744073709551616 := by simp [IntKind.wrap, IntKind.bits, IntKind.signed]
  rw [this]; omega
theorem wraps_u64 (n : Int) (h0 : 0 ≤ n) (h1 : n < 2 ^ 64) : IntKind.u64.wrap n = n := u64w n h0 h1
set_option maxRecDepth 100000 in
def tab : ByteArray := ⟨#[0, 1, 2, 2, 3, 3, 3, 3, 4, 4, 4, 4, 4, 4, 4, 4, 5, 5, 5, 5, 5, 5, 5, 5, 5, 5, 5, 5, 5, 5, 5, 5, 6, 6, 6, 6, 6, 6, 6, 6, 6, 6, 6, 6, 6, 6, 6, 6, 6, 6, 6, 6, 6, 6, 6, 6, 6, 6, 6, 6, 6, 6, 6, 6, 7, 7, 7, 7, 7, 7, 7, 7, 7, 7, 7, 7, 7, 7, 7, 7, 7, 7, 7, 7, 7, 7, 7, 7, 7, 7, 7, 7, 7, 7, 7, 7, 7, 7, 7, 7, 7, 7, 7, 7, 7, 7, 7, 7, 7, 7, 7, 7, 7, 7, 7, 7, 7, 7, 7, 7, 7, 7, 7, 7, 7, 7, 7, 7, 8, 8, 8, 8, 8, 8, 8, 8, 8, 8, 8, 8, 8, 8, 8, 8, 8, 8, 8, 8, 8, 8, 8, 8, 8, 8, 8, 8, 8, 8, 8, 8, 8, 8, 8, 8, 8, 8, 8, 8, 8, 8, 8, 8, 8, 8, 8, 8, 8, 8, 8, 8, 8, 8, 8, 8, 8, 8, 8, 8, 8, 8, 8, 8, 8, 8, 8, 8, 8, 8, 8, 8, 8, 8, 8, 8, 8, 8, 8, 8, 8, 8, 8, 8, 8, 8, 8, 8, 8, 8, 8, 8, 8, 8, 8, 8, 8, 8, 8, 8, 8, 8, 8, 8, 8, 8, 8, 8, 8, 8, 8, 8, 8, 8, 8, 8, 8, 8, 8, 8, 8, 8, 8, 8, 8, 8, 8, 8]⟩
set_option maxRecDepth 100000 in
theorem tab_all : ∀ i : Fin 256, 0 ≤ bt tab (i.val : Int) ∧ bt tab (i.val : Int) ≤ 8 ∧ i.val < 2 ^ (bt tab (i.val : Int)).toNat := by decide +kernel
theorem tab_ok (i : Int) (h0 : 0 ≤ i) (h1 : i < 256) : ∃ t : Nat, bt tab i = (t : Int) ∧ t ≤ 8 ∧ i + 1 ≤ 2 ^ t := by
  obtain ⟨n, rfl⟩ := Int.eq_ofNat_of_zero_le h0
  obtain ⟨a, b, c⟩ := tab_all ⟨n, by omega⟩
  simp only at a b c
  refine ⟨(bt tab (n : Int)).toNat, by omega, by omega, ?_⟩
  have : ((n + 1 : Nat) : Int) ≤ ((2 ^ (bt tab (n : Int)).toNat : Nat) : Int) := by exact Int.ofNat_le.mpr c
  rwa [Int.natCast_pow] at this
theorem two_pow_split (a b : Nat) : (2 : Int) ^ (a + b) = 2 ^ a * 2 ^ b := Int.pow_add 2 a b
set_option maxRecDepth 100000 in
theorem len_j0 (k : Nat) (x n : Int) (h0 : 0 ≤ x) (h1 : x < 4294967296) (hn : 0 ≤ n) (hn1 : n ≤ 32) : ∃ m : Nat, bits_Len64.j0 (k + 1) x n = some (n + m) ∧ m ≤ 32 ∧ x < 2 ^ m := by
  have hu : bits_Len64.j0 (k + 1) x n = if x ≥ 65536 then (if (x / 65536) ≥ 256 then (if 0 ≤ (((x / 65536) / 256) % 256) then (if (((x / 65536) / 256) % 256) < 256 then (some (wrap64 ((wrap64 ((wrap64 (n + 16)) + 8)) + (wrap64 (bt tab (((x / 65536) / 256) % 256)))))) else (none)) else (none)) else (if 0 ≤ ((x / 65536) % 256) then (if ((x / 65536) % 256) < 256 then (some (wrap64 ((wrap64 (n + 16)) + (wrap64 (bt tab ((x / 65536) % 256)))))) else (none)) else (none))) else (if x ≥ 256 then (if 0 ≤ ((x / 256) % 256) then (if ((x / 256) % 256) < 256 then (some (wrap64 ((wrap64 (n + 8)) + (wrap64 (bt tab ((x / 256) % 256)))))) else (none)) else (none)) else (if 0 ≤ (x % 256) then (if (x % 256) < 256 then (some (wrap64 (n + (wrap64 (bt tab (x % 256)))))) else (none)) else (none))) := rfl
  rw [hu]
  clear hu
  rw [w64 (n + 16) (by omega) (by omega), w64 (n + 16 + 8) (by omega) (by omega), w64 (n + 8) (by omega) (by omega)]
  by_cases c1 : x ≥ 65536
  · rw [if_pos c1]
    by_cases c2 : x / 65536 ≥ 256
    · obtain ⟨t, et, ht, hx⟩ := tab_ok (x / 65536 / 256 % 256) (by omega) (by omega)
      rw [if_pos c2, if_pos (by omega), if_pos (by omega), et, w64 (t : Int) (by omega) (by omega), w64 _ (by omega) (by omega)]
      refine ⟨24 + t, by congr 1; omega, by omega, ?_⟩
      rw [two_pow_split]
      generalize (2 : Int) ^ t = p at *
      have : (2 : Int) ^ 24 = 16777216 := rfl
      omega
    · obtain ⟨t, et, ht, hx⟩ := tab_ok (x / 65536 % 256) (by omega) (by omega)
      rw [if_neg c2, if_pos (by omega), if_pos (by omega), et, w64 (t : Int) (by omega) (by omega), w64 _ (by omega) (by omega)]
      refine ⟨16 + t, by congr 1; omega, by omega, ?_⟩
      rw [two_pow_split]
      generalize (2 : Int) ^ t = p at *
      have : (2 : Int) ^ 16 = 65536 := rfl
      omega
  · rw [if_neg c1]
    by_cases c2 : x ≥ 256
    · obtain ⟨t, et, ht, hx⟩ := tab_ok (x / 256 % 256) (by omega) (by omega)
      rw [if_pos c2, if_pos (by omega), if_pos (by omega), et, w64 (t : Int) (by omega) (by omega), w64 _ (by omega) (by omega)]
      refine ⟨8 + t, by congr 1; omega, by omega, ?_⟩
      rw [two_pow_split]
      generalize (2 : Int) ^ t = p at *
      have : (2 : Int) ^ 8 = 256 := rfl
      omega
    · obtain ⟨t, et, ht, hx⟩ := tab_ok (x % 256) (by omega) (by omega)
      rw [if_neg c2, if_pos (by omega), if_pos (by omega), et, w64 (t : Int) (by omega) (by omega), w64 _ (by omega) (by omega)]
      exact ⟨t, rfl, by omega, by omega⟩
theorem len_ok (k : Nat) (v : Int) (h0 : 0 ≤ v) (h1 : v < 18446744073709551616) : ∃ m : Nat, bits_Len64.f (k + 1) v = some (m : Int) ∧ m ≤ 64 ∧ v < 2 ^ m := by
  unfold bits_Len64.f
  by_cases c : v ≥ 4294967296
  · rw [if_pos c]
    obtain ⟨m, e, hm, hx⟩ := len_j0 k (v / 4294967296) 32 (by omega) (by omega) (by omega) (by omega)
    refine ⟨32 + m, by rw [e]; congr 1, by omega, ?_⟩
    rw [two_pow_split]
    generalize (2 : Int) ^ m = p at *
    have : (2 : Int) ^ 32 = 4294967296 := rfl
    omega
  · rw [if_neg c]
    obtain ⟨m, e, hm, hx⟩ := len_j0 k v 0 (by omega) (by omega) (by omega) (by omega)
    exact ⟨m, by rw [e, Int.zero_add], by omega, hx⟩
theorem root_loop (v : Int) (hv : v < 18446744073709551616) (d : Nat) : ∀ (k : Nat) (x : Int), d < k → d ≤ 32 → 0 ≤ x → x % 2 ^ d = 0 → x + 2 ^ d ≤ 4294967296 → x * x ≤ v → v < (x + 2 ^ d) * (x + 2 ^ d) →
    ∃ r, expo_Root.l0 k v x ((d : Int) - 1) = some r ∧ IsRoot v r ∧ r ≤ 4294967295 := by
  induction d with
  | zero =>
    intro k x hk _ hx _ hb h1 h2
    obtain ⟨k, rfl⟩ : ∃ m, k = m + 1 := ⟨k - 1, by omega⟩
    rw [Int.pow_zero] at hb h2
    refine ⟨x, ?_, ⟨hx, h1, h2⟩, by omega⟩
    simp only [expo_Root.l0]
    rw [if_neg (by omega)]
  | succ d ih =>
    intro k x hk hd hx hm hb h1 h2
    obtain ⟨k, rfl⟩ : ∃ m, k = m + 1 := ⟨k - 1, by omega⟩
    have hp := two_pow_pos d
    have e2 := two_pow_succ d
    have hl : (2 : Int) ^ d ≤ 2147483648 := two_pow_max (n := 31) (by omega)
    have hs : shl .u64 1 (d : Int) = 2 ^ d := by
      unfold shl
      rw [Int.one_mul, show min (d : Int).toNat IntKind.u64.bits = d from by simp only [IntKind.bits]; omega]
      exact u64w _ (by omega) (by omega)
    have ho : Go.bits .or .u64 x (2 ^ d) = x + 2 ^ d :=
      bits_join .u64 64 (by decide) wraps_u64 (d + 1) x (2 ^ d) hx hm (by have : (2 : Int) ^ 64 = 18446744073709551616 := rfl; omega) (by omega) (by omega) (by have : (2 : Int) ^ 64 = 18446744073709551616 := rfl; omega)
    have hsq := sq_le (by omega : 0 ≤ x + 2 ^ d) (by omega : x + 2 ^ d ≤ 4294967295)
    have hsq0 := Int.mul_nonneg (by omega : 0 ≤ x + 2 ^ d) (by omega : 0 ≤ x + 2 ^ d)
    have hm' : x % 2 ^ d = 0 := by
      obtain ⟨c, hc⟩ := Int.dvd_of_emod_eq_zero hm
      rw [e2] at hc
      rw [hc, Int.mul_comm 2, Int.mul_assoc]
      exact Int.mul_emod_right _ _
    have hi : ((d + 1 : Nat) : Int) - 1 = (d : Int) := by omega
    rw [hi]
    simp only [expo_Root.l0]
    rw [if_pos (by omega), if_pos (by omega), hs, ho, u64w _ hsq0 (by omega), w64 ((d : Int) - 1) (by omega) (by omega)]
    by_cases c : (x + 2 ^ d) * (x + 2 ^ d) ≤ v
    · rw [if_pos c]
      refine ih k (x + 2 ^ d) (by omega) (by omega) (by omega) ?_ (by omega) c ?_
      · rw [Int.add_emod_right]; exact hm'
      · rw [e2] at h2; exact root_bit h2
    · rw [if_neg c]
      exact ih k x (by omega) (by omega) hx hm' (by omega) h1 (by omega)
theorem root_eq (v : Int) (h0 : 0 ≤ v) (h1 : v < 18446744073709551616) (k : Nat) (hk : 34 ≤ k) : ∃ r, expo_Root.f k v = some r ∧ IsRoot v r ∧ r ≤ 4294967295 := by
  obtain ⟨k, rfl⟩ : ∃ m, k = m + 1 := ⟨k - 1, by omega⟩
  obtain ⟨m, e, hm, hv⟩ := len_ok k v h0 h1
  unfold expo_Root.f
  rw [e]
  simp only [Option.bind_some]
  rw [w64 ((m : Int) - 1) (by omega) (by omega)]
  have key : ∃ d : Nat, Int.tdiv ((m : Int) - 1) 2 = (d : Int) - 1 ∧ d ≤ 32 ∧ 1 ≤ d ∧ m ≤ d + d := by
    rcases Nat.eq_zero_or_pos m with rfl | hp
    · exact ⟨1, by decide, by omega, by omega, by omega⟩
    · refine ⟨(m - 1) / 2 + 1, ?_, by omega, by omega, by omega⟩
      rw [Int.tdiv_eq_ediv_of_nonneg (by omega)]; omega
  obtain ⟨d, ed, hd, hd1, hmd⟩ := key
  rw [ed, w64 ((d : Int) - 1) (by omega) (by omega)]
  have hpd : (2 : Int) ^ d ≤ 4294967296 := two_pow_max (n := 32) hd
  refine root_loop v h1 d (k + 1) 0 (by omega) hd (by omega) (Int.zero_emod _) (by omega) (by omega) ?_
  rw [Int.zero_add, ← two_pow_split]
  exact Int.lt_of_lt_of_le hv (two_pow_max hmd)
theorem rsqrt_arg (v : Int) (hv : 1 ≤ v) : 0 ≤ (281474976710656 : Int) / v ∧ (281474976710656 : Int) / v ≤ 281474976710656 := ⟨Int.ediv_nonneg (by omega) (by omega), Int.ediv_le_self _ (by omega)⟩
theorem rsqrt_eq (v : Int) (h1 : v ≤ 9223372036854775807) (k : Nat) (hk : 34 ≤ k) : ∃ r, expo_Rsqrt.f k v = some r ∧ IsRoot (281474976710656 / mx v 1) r ∧ r ≤ 16777216 := by
  have hm : 1 ≤ mx v 1 ∧ mx v 1 ≤ 9223372036854775807 := by unfold mx; split <;> omega
  unfold expo_Rsqrt.f
  generalize mx v 1 = m at *
  have ha := rsqrt_arg m hm.1
  rw [u64w m (by omega) (by omega), if_neg (by omega), Int.tdiv_eq_ediv_of_nonneg (by omega), u64w _ ha.1 (by omega)]
  obtain ⟨r, e, hr, -⟩ := root_eq (281474976710656 / m) ha.1 (by omega) k hk
  have hb : r ≤ 16777216 := root_small hr (by omega) (by omega)
  rw [e]
  simp only [Option.bind_some]
  exact ⟨r, by rw [w32 r (by have := hr.1; omega) (by omega)], hr, hb⟩
theorem recip_eq (x : Int) (hx : -2147483648 ≤ x ∧ x ≤ 2147483647) (k : Nat) (hk : 3 ≤ k) : expo_Recip.f k x = some (divI 65536 x) := by
  unfold expo_Recip.f
  rw [div_eq 65536 x (by omega) hx k hk]; rfl
theorem rroot_loop (v : Int) (j : Nat) : ∀ (k : Nat) (lo hi : Int), j < k → 0 ≤ lo → lo ≤ hi → hi ≤ 4294967295 → hi - lo < 2 ^ j → lo * lo ≤ v → v < (hi + 1) * (hi + 1) →
    ∃ r, credenzaref02_Root.l0 k v lo hi = some r ∧ IsRoot v r := by
  induction j with
  | zero =>
    intro k lo hi hk h0 h1 h2 hj hl hh
    obtain ⟨k, rfl⟩ : ∃ m, k = m + 1 := ⟨k - 1, by omega⟩
    rw [Int.pow_zero] at hj
    obtain rfl : lo = hi := by omega
    refine ⟨lo, ?_, h0, hl, hh⟩
    simp only [credenzaref02_Root.l0]
    rw [if_neg (by omega)]
  | succ j ih =>
    intro k lo hi hk h0 h1 h2 hj hl hh
    obtain ⟨k, rfl⟩ : ∃ m, k = m + 1 := ⟨k - 1, by omega⟩
    rw [two_pow_succ] at hj
    generalize (2 : Int) ^ j = p at *
    simp only [credenzaref02_Root.l0]
    by_cases c : lo < hi
    · have hm : Int.tdiv (hi - lo + 1) 2 = (hi - lo + 1) / 2 := Int.tdiv_eq_ediv_of_nonneg (by omega)
      rw [if_pos c, u64w (hi - lo) (by omega) (by omega), u64w (hi - lo + 1) (by omega) (by omega), hm, u64w ((hi - lo + 1) / 2) (by omega) (by omega), u64w (lo + (hi - lo + 1) / 2) (by omega) (by omega), u64w (lo + (hi - lo + 1) / 2 - 1) (by omega) (by omega)]
      generalize hM : lo + (hi - lo + 1) / 2 = M at *
      have hsq := sq_le (by omega : 0 ≤ M) (by omega : M ≤ 4294967295)
      have hsq0 := Int.mul_nonneg (by omega : 0 ≤ M) (by omega : 0 ≤ M)
      rw [u64w (M * M) hsq0 (by omega)]
      by_cases c1 : M * M ≤ v
      · rw [if_pos c1]
        exact ih k M hi (by omega) (by omega) (by omega) h2 (by omega) c1 hh
      · rw [if_neg c1]
        refine ih k lo (M - 1) (by omega) h0 (by omega) (by omega) (by omega) hl ?_
        rw [show M - 1 + 1 = M from by omega]; omega
    · rw [if_neg c]
      obtain rfl : lo = hi := by omega
      exact ⟨lo, rfl, h0, hl, hh⟩
theorem rroot_eq (v : Int) (h0 : 0 ≤ v) (h1 : v < 18446744073709551616) (k : Nat) (hk : 34 ≤ k) : ∃ r, credenzaref02_Root.f k v = some r ∧ IsRoot v r := by
  unfold credenzaref02_Root.f
  exact rroot_loop v 32 k 0 4294967295 (by omega) (by omega) (by omega) (by omega) (by have : (2 : Int) ^ 32 = 4294967296 := rfl; omega) (by omega) (by omega)
theorem rrsqrt_eq (v : Int) (h1 : v ≤ 9223372036854775807) (k : Nat) (hk : 34 ≤ k) : ∃ r, credenzaref02_Rsqrt.f k v = some r ∧ IsRoot (281474976710656 / mx v 1) r := by
  unfold credenzaref02_Rsqrt.f
  by_cases c : v < 1
  · rw [if_pos c, show mx v 1 = 1 from by unfold mx; split <;> omega]
    obtain ⟨r, e, hr⟩ := rroot_eq (281474976710656 / 1) (by decide) (by decide) k hk
    have hb : r ≤ 16777216 := root_small hr (by omega) (by omega)
    rw [e]
    simp only [Option.bind_some]
    exact ⟨r, by rw [w32 r (by have := hr.1; omega) (by omega)], hr⟩
  · rw [if_neg c, show mx v 1 = v from by unfold mx; split <;> omega]
    have ha := rsqrt_arg v (by omega)
    rw [u64w v (by omega) (by omega), if_neg (by omega), Int.tdiv_eq_ediv_of_nonneg (by omega), u64w _ ha.1 (by omega)]
    obtain ⟨r, e, hr⟩ := rroot_eq (281474976710656 / v) ha.1 (by omega) k hk
    have hb : r ≤ 16777216 := root_small hr (by omega) (by omega)
    rw [e]
    simp only [Option.bind_some]
    exact ⟨r, by rw [w32 r (by have := hr.1; omega) (by omega)], hr⟩
end Cz

theorem ExpoReciprocals : credenzalaw02_ExpoReciprocals.Pure := by
  intro x v hx hv
  have hx := Cz.wf32 hx
  have hv := Cz.wf64 hv
  refine ⟨100, ?_⟩
  have aw : credenzalaw02_awake.f 100 = some true := by decide +kernel
  obtain ⟨r, er, hr, hb⟩ := Cz.rsqrt_eq v hv.2 100 (by omega)
  obtain ⟨s, es, hs⟩ := Cz.rrsqrt_eq v hv.2 100 (by omega)
  obtain rfl : r = s := Cz.root_unique hr hs
  unfold credenzalaw02_ExpoReciprocals.f
  rw [er, es, Cz.recip_eq x hx 100 (by omega), Cz.rdiv_eq 65536 x (by omega) hx, aw]
  simp only [Option.bind_some, if_true]
  rw [if_pos hr.1, if_pos hb]

end Go.Proofs.Ytmndomlpdajjmaa.Pure
