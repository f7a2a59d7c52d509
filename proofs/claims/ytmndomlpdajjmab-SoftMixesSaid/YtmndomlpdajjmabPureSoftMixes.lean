/- Any lists, by any weights, have the mean that the document says, or are refused. No condition: for every input. -/
import Derived.Test.YtmndomlpdajjmabSmx0
import Derived.Test.YtmndomlpdajjmabSmx1
import Derived.Test.YtmndomlpdajjmabSmx2
import Derived.Test.YtmndomlpdajjmabSmx3
import Derived.Test.YtmndomlpdajjmabSmx4
import Derived.Test.YtmndomlpdajjmabSmx5
set_option linter.unusedVariables false
set_option linter.unusedSimpArgs false
namespace Go.Proofs.Ytmndomlpdajjmab.Pure
open Go.RowKit Go.Proofs.Ytmndomlpdajjmab.Sm Go.Proofs.YtmndomlpdajjmabW.PrintWords Go.Proofs.YtmndomlpdajjmabW.PrintLast
namespace Cz

/-- Divided by d, rounded, a half to the even one. -/
def rnd (a d : Int) : Int :=
  if a % d > d - a % d then a / d + 1 else if a % d = d - a % d ∧ (a / d) % 2 = 1 then a / d + 1 else a / d
theorem w64 (x : Int) (h0 : -9223372036854775808 ≤ x) (h1 : x ≤ 9223372036854775807) : wrap64 x = x := by unfold wrap64; omega
theorem w32 (x : Int) (h0 : -2147483648 ≤ x) (h1 : x ≤ 2147483647) : wrap32 x = x := by unfold wrap32; omega
theorem w64_sub (a b : Int) : wrap64 (a - wrap64 b) = wrap64 (a - b) := by unfold wrap64; omega
theorem and1 (x : Int) : Go.bits .and .i64 x 1 = x % 2 := by
  have h : (BitVec.ofInt 64 x &&& BitVec.ofInt 64 1).toNat = ((x % 2).toNat) := by
    have e : (BitVec.ofInt 64 1).toNat = 2 ^ 1 - 1 := by decide
    rw [BitVec.toNat_and, e, Nat.and_two_pow_sub_one_eq_mod, BitVec.toNat_ofInt]
    omega
  show IntKind.i64.wrap (((BitVec.ofInt 64 x &&& BitVec.ofInt 64 1).toNat : Nat) : Int) = _
  rw [h, IntKind.wrap_i64]
  omega
theorem up {α : Type} {f : Nat → Option α} (hm : ∀ k, LeO (f k) (f (k + 1))) {k0 : Nat} {r : α} (h : f k0 = some r) {k : Nat} (hk : k0 ≤ k) : f k = some r := by
  obtain ⟨d, rfl⟩ : ∃ d, k = k0 + d := ⟨k - k0, by omega⟩
  clear hk
  induction d with
  | zero => exact h
  | succ d ih => exact hm _ _ ih
theorem mul_bound {a b A B : Int} (ha : -A ≤ a) (ha' : a ≤ A) (hb : -B ≤ b) (hb' : b ≤ B) : -(A * B) ≤ a * b ∧ a * b ≤ A * B := by
  have h1 : 0 ≤ (A - a) * (B + b) := Int.mul_nonneg (by omega) (by omega)
  have h2 : 0 ≤ (A + a) * (B - b) := Int.mul_nonneg (by omega) (by omega)
  have h3 : 0 ≤ (A - a) * (B - b) := Int.mul_nonneg (by omega) (by omega)
  have h4 : 0 ≤ (A + a) * (B + b) := Int.mul_nonneg (by omega) (by omega)
  simp only [Int.sub_mul, Int.mul_sub, Int.add_mul, Int.mul_add] at h1 h2 h3 h4
  generalize A * B = p at *
  generalize a * b = q at *
  generalize A * b = r at *
  generalize a * B = s at *
  omega
theorem div_bound (v D : Int) (hD : 1 ≤ D) : (0 ≤ v → 0 ≤ v / D ∧ v / D ≤ v) ∧ (v < 0 → v ≤ v / D ∧ v / D < 0) := by
  have h1 := Int.emod_add_mul_ediv v D
  have h2 := Int.emod_nonneg v (by omega : D ≠ 0)
  have h3 := Int.emod_lt_of_pos v (by omega : 0 < D)
  constructor
  · intro h
    exact ⟨Int.ediv_nonneg h (by omega), Int.ediv_le_self D h⟩
  · intro h
    have hn : v / D < 0 := Int.ediv_neg_of_neg_of_pos h (by omega)
    have : (v / D + 1) * (D - 1) ≤ 0 := Int.mul_nonpos_of_nonpos_of_nonneg (by omega) (by omega)
    rw [Int.mul_sub, Int.mul_one, Int.add_mul, Int.one_mul, Int.mul_comm (v / D)] at this
    omega
theorem div_half (v D : Int) (hD : 2 ≤ D) (h0 : -9223372036854775808 ≤ v) (h1 : v ≤ 9223372036854775807) : -4611686018427387904 ≤ v / D ∧ v / D ≤ 4611686018427387903 := by
  constructor
  · exact Int.le_ediv_of_mul_le (by omega) (by omega)
  · have : v / D < 4611686018427387904 := Int.ediv_lt_of_lt_mul (by omega) (by omega)
    omega
/-- Cut to a range. -/
def cutI (v lo hi : Int) : Int := if v < lo then lo else if v > hi then hi else v
def wide (v : Int) : Int := cutI v (-2147483648) 2147483647
def narrow (v : Int) : Int := cutI v (-8388608) 8388608
theorem narrow_range (v : Int) : -8388608 ≤ narrow v ∧ narrow v ≤ 8388608 := by unfold narrow cutI; omega
theorem cut_eq (v lo hi : Int) (h0 : -2147483648 ≤ lo) (h1 : lo ≤ hi) (h2 : hi ≤ 2147483647) : fix_cut.f v lo hi = some (cutI v lo hi) := by
  unfold fix_cut.f cutI mn mx wrap32
  congr 1
  split <;> split <;> (try split) <;> (try split) <;> omega
theorem narrow_eq (v : Int) : fix_Narrow.f v = some (narrow v) := by
  unfold fix_Narrow.f
  rw [cut_eq _ _ _ (by omega) (by omega) (by omega)]; rfl
theorem tdiv_eq (a b : Int) (hb : 0 < b) : Int.tdiv a b = if a < 0 ∧ a % b ≠ 0 then a / b + 1 else a / b := by
  rw [Int.tdiv_eq_ediv]
  have hs : b.sign = 1 := Int.sign_eq_one_of_pos hb
  have hd : b ∣ a ↔ a % b = 0 := ⟨Int.emod_eq_zero_of_dvd, Int.dvd_of_emod_eq_zero⟩
  by_cases c : a < 0 ∧ a % b ≠ 0
  · rw [if_pos c, if_neg (by rw [hd]; omega), hs]
  · rw [if_neg c, if_pos (by rw [hd]; omega)]; omega
theorem tmod_eq (a b : Int) (hb : 0 < b) : Int.tmod a b = if a < 0 ∧ a % b ≠ 0 then a % b - b else a % b := by
  have h1 := Int.tmod_add_mul_tdiv a b
  have h2 := Int.emod_add_mul_ediv a b
  rw [tdiv_eq a b hb] at h1
  split at h1
  · rename_i c
    rw [if_pos c]
    rw [Int.mul_add, Int.mul_one] at h1
    omega
  · rename_i c
    rw [if_neg c]
    omega
theorem ratio_eq (a b : Int) (h0 : -9223372036854775808 ≤ a) (h1 : a ≤ 9223372036854775807) (hb : 0 < b) (hb1 : b ≤ 9223372036854775807) : fix_Ratio.f a b = some (rnd a b) := by
  have e2 := Int.emod_nonneg a (by omega : b ≠ 0)
  have e3 := Int.emod_lt_of_pos a hb
  have hq := div_bound a b (by omega)
  have hq2 := fun h => div_half a b h h0 h1
  unfold fix_Ratio.f rnd
  rw [if_neg (by omega), if_neg (by omega), tdiv_eq a b hb, tmod_eq a b hb]
  simp only [and1]
  generalize a % b = r at *
  generalize a / b = q at *
  by_cases c : a < 0 ∧ r ≠ 0
  · rw [if_pos c, if_pos c, if_pos (by omega), w64 (q + 1) (by omega) (by omega), show q + 1 - 1 = q from by omega, w64 q (by omega) (by omega), show r - b + b = r from by omega, w64 r (by omega) (by omega), w64 (b - r) (by omega) (by omega), w64 (q + 1) (by omega) (by omega)]
    repeat' split
    all_goals first | rfl | (exfalso; omega)
  · rw [if_neg c, if_neg c, if_neg (by omega), w64 q (by omega) (by omega), w64 (b - r) (by omega) (by omega)]
    by_cases c1 : 2 ≤ b
    · rw [w64 (q + 1) (by omega) (by omega)]
      repeat' split
      all_goals first | rfl | (exfalso; omega)
    · repeat' split
      all_goals first | rfl | (exfalso; omega)
theorem rfloor_eq (a b : Int) (h0 : -9223372036854775808 ≤ a) (h1 : a ≤ 9223372036854775807) (hb : 0 < b) : credenzaref01_Floor.f a b = some (a / b) := by
  have e1 := Int.emod_add_mul_ediv a b
  have e2 := Int.emod_nonneg a (by omega : b ≠ 0)
  have e3 := Int.emod_lt_of_pos a hb
  have hq := div_bound a b (by omega)
  have hn : a < 0 → (a / b + 1) * b ≤ 0 := fun h => Int.mul_nonpos_of_nonpos_of_nonneg (by omega) (by omega)
  have hz : 0 ≤ a → 0 ≤ b * (a / b) := fun h => Int.mul_nonneg (by omega) (hq.1 h).1
  have ep : (a / b + 1) * b = b * (a / b) + b := by rw [Int.add_mul, Int.one_mul, Int.mul_comm]
  have eq' : a / b * b = b * (a / b) := Int.mul_comm _ _
  unfold credenzaref01_Floor.f
  rw [if_neg (by omega), tdiv_eq a b hb]
  by_cases c : a < 0 ∧ a % b ≠ 0
  · have := hn c.1
    rw [if_pos c, w64 (a / b + 1) (by omega) (by omega), ep, w64 (b * (a / b) + b) (by omega) (by omega), if_pos (by omega), show a / b + 1 - 1 = a / b from by omega, w64 _ (by omega) (by omega)]
  · rw [if_neg c, w64 (a / b) (by omega) (by omega), eq', w64 (b * (a / b)) (by omega) (by omega), if_neg (by omega)]
theorem rratio_eq (a b : Int) (h0 : -9223372036854775808 ≤ a) (h1 : a ≤ 9223372036854775807) (hb : 0 < b) (hb1 : b ≤ 9223372036854775807) : credenzaref01_Ratio.f a b = some (rnd a b) := by
  have e1 := Int.emod_add_mul_ediv a b
  have e2 := Int.emod_nonneg a (by omega : b ≠ 0)
  have e3 := Int.emod_lt_of_pos a hb
  have hq := div_bound a b (by omega)
  have hq2 := fun h => div_half a b h h0 h1
  have e4 : a - (a / b) * b = a % b := by rw [Int.mul_comm]; omega
  unfold credenzaref01_Ratio.f rnd
  rw [rfloor_eq a b h0 h1 hb]
  simp only [Option.bind_some]
  rw [w64_sub, e4, w64 (a % b) (by omega) (by omega), w64 (b - a % b) (by omega) (by omega), tmod_eq _ 2 (by omega)]
  generalize a % b = r at *
  generalize a / b = q at *
  by_cases c1 : 2 ≤ b
  · rw [w64 (q + 1) (by omega) (by omega)]
    repeat' split
    all_goals first | rfl | (exfalso; omega)
  · repeat' split
    all_goals first | rfl | (exfalso; omega)
theorem rcut_eq (v lo hi : Int) : credenzaref01_Cut.f v lo hi = some (cutI v lo hi) := by
  unfold credenzaref01_Cut.f cutI
  split
  · rfl
  · split <;> rfl
theorem rnarrow_eq (v : Int) : credenzaref01_Narrow.f v = some (narrow v) := by
  have := narrow_range v
  unfold credenzaref01_Narrow.f
  rw [rcut_eq]
  show some (wrap32 (narrow v)) = some (narrow v)
  rw [w32 _ (by omega) (by omega)]
theorem rd_drop (l : List Int) (i : Nat) (h : i < l.length) : l.drop i = rd l (i : Int) :: l.drop (i + 1) := by
  rw [List.drop_eq_getElem_cons h]
  congr 1
  unfold rd
  rw [Int.toNat_natCast, List.getD_eq_getElem?_getD, List.getElem?_eq_getElem h]
  rfl
theorem rd_mem (l : List Int) (i : Nat) (h : i < l.length) : rd l (i : Int) ∈ l := by
  have := rd_drop l i h
  exact List.mem_of_mem_drop (this ▸ List.mem_cons_self : rd l (i : Int) ∈ l.drop i)
theorem w64_succ (i n : Nat) (h : i < n) (hn : n ≤ 140737488351232) : wrap64 ((i : Int) + 1) = ((i + 1 : Nat) : Int) := by
  rw [w64 _ (by omega) (by omega)]; omega
theorem set_take (l : List Int) (i : Nat) (v : Int) (h : i < l.length) : (l.set i v).take (i + 1) = l.take i ++ [v] := by
  rw [List.take_add_one, List.take_set, List.getElem?_set_self h, List.set_eq_of_length_le (by rw [List.length_take]; omega)]
  rfl
def badI (x : Int) : Bool := decide (x < -16777216) || decide (x > 16777216)
def mildB (l : List Int) : Bool := decide ((l.length : Int) ≤ 1024) && !(l.any badI)
theorem mild1_eq (x : Int) : dot_Mild_1.f x = some (badI x) := by
  unfold dot_Mild_1.f badI
  by_cases h : x < -16777216
  · rw [if_pos h, decide_eq_true h]; rfl
  · rw [if_neg h, decide_eq_false h]; rfl
theorem mild_index (l : List Int) (hl : l.length ≤ 140737488351232) (d : Nat) : ∀ (k i : Nat), i + d = l.length → d < k →
    ∃ r, slices_IndexFunc_int32_int32_of_dot_Mild_1.l0 k l (l.length : Int) (i : Int) = some r ∧ decide (r ≥ 0) = (l.drop i).any badI := by
  induction d with
  | zero =>
    intro k i h hk
    obtain ⟨k, rfl⟩ : ∃ m, k = m + 1 := ⟨k - 1, by omega⟩
    refine ⟨-1, ?_, ?_⟩
    · simp only [slices_IndexFunc_int32_int32_of_dot_Mild_1.l0]; rw [if_neg (by omega)]
    · rw [List.drop_of_length_le (by omega)]; rfl
  | succ d ih =>
    intro k i h hk
    obtain ⟨k, rfl⟩ : ∃ m, k = m + 1 := ⟨k - 1, by omega⟩
    simp only [slices_IndexFunc_int32_int32_of_dot_Mild_1.l0]
    rw [if_pos (by omega), if_pos (by omega), if_pos (by omega), mild1_eq, rd_drop l i (by omega), List.any_cons]
    simp only [Option.bind_some]
    by_cases hb : badI (rd l (i : Int)) = true
    · rw [if_pos hb, hb]
      exact ⟨_, rfl, by simp⟩
    · rw [if_neg hb, w64_succ i l.length (by omega) hl]
      obtain ⟨r, e, hr⟩ := ih k (i + 1) (by omega) (by omega)
      rw [Bool.not_eq_true] at hb
      exact ⟨r, e, by rw [hr, hb]; rfl⟩
theorem mild_eq (l : List Int) (k : Nat) (hk : 1025 < k) : dot_Mild.f k l = some (mildB l) := by
  unfold dot_Mild.f mildB
  by_cases h : (l.length : Int) ≤ 1024
  · rw [if_pos h, decide_eq_true h]
    obtain ⟨r, e, hr⟩ := mild_index l (by omega) l.length k 0 (by omega) (by omega)
    unfold slices_ContainsFunc_int32_int32_of_dot_Mild_1.f slices_IndexFunc_int32_int32_of_dot_Mild_1.f
    have e' : slices_IndexFunc_int32_int32_of_dot_Mild_1.l0 k l (l.length : Int) 0 = some r := e
    rw [e']
    simp only [Option.bind_some]
    rw [hr, List.drop_zero]; rfl
  · rw [if_neg h, decide_eq_false h]; rfl
theorem mild_mem {l : List Int} (h : mildB l = true) : (l.length : Int) ≤ 1024 ∧ ∀ x ∈ l, -16777216 ≤ x ∧ x ≤ 16777216 := by
  unfold mildB at h
  rw [Bool.and_eq_true, decide_eq_true_eq, Bool.not_eq_true', List.any_eq_false] at h
  refine ⟨h.1, fun x hx => ?_⟩
  have := h.2 x hx
  simp only [badI, Bool.or_eq_true, decide_eq_true_eq] at this
  omega
theorem rmild_loop (l : List Int) (hl : l.length ≤ 140737488351232) (d : Nat) : ∀ (k i : Nat), i + d = l.length → d < k →
    credenzaref03_Mild.l0 k l (i : Int) = some (decide ((l.length : Int) ≤ 1024) && !((l.drop i).any badI)) := by
  induction d with
  | zero =>
    intro k i h hk
    obtain ⟨k, rfl⟩ : ∃ m, k = m + 1 := ⟨k - 1, by omega⟩
    simp only [credenzaref03_Mild.l0]
    rw [if_neg (by omega), List.drop_of_length_le (by omega)]
    simp
  | succ d ih =>
    intro k i h hk
    obtain ⟨k, rfl⟩ : ∃ m, k = m + 1 := ⟨k - 1, by omega⟩
    simp only [credenzaref03_Mild.l0]
    rw [if_pos (by omega), if_pos (by omega), w64_succ i l.length (by omega) hl, ih k (i + 1) (by omega) (by omega), rd_drop l i (by omega), List.any_cons]
    unfold badI
    by_cases h1 : rd l (i : Int) < -16777216
    · rw [if_pos h1, decide_eq_true h1]; simp
    · rw [if_neg h1, decide_eq_false h1]
      by_cases h2 : rd l (i : Int) > 16777216
      · rw [if_pos h2, decide_eq_true h2]; simp
      · rw [if_neg h2, decide_eq_false h2]; simp
theorem rmild_eq (l : List Int) (hl : l.length ≤ 140737488351232) (k : Nat) (hk : l.length < k) : credenzaref03_Mild.f k l = some (mildB l) := by
  unfold credenzaref03_Mild.f mildB
  have := rmild_loop l hl l.length k 0 (by omega) hk
  rwa [List.drop_zero] at this
theorem same_loop (a b : List Int) (hab : a.length = b.length) (hn : a.length ≤ 140737488351232) (d : Nat) : ∀ (k i : Nat), i + d = a.length → d < k →
    credenzaref03_Same.l0 k a b (i : Int) = some (decide (a.drop i = b.drop i)) := by
  induction d with
  | zero =>
    intro k i h hk
    obtain ⟨k, rfl⟩ : ∃ m, k = m + 1 := ⟨k - 1, by omega⟩
    simp only [credenzaref03_Same.l0]
    rw [if_neg (by omega), List.drop_of_length_le (by omega : a.length ≤ i), List.drop_of_length_le (by omega : b.length ≤ i)]
    simp
  | succ d ih =>
    intro k i h hk
    obtain ⟨k, rfl⟩ : ∃ m, k = m + 1 := ⟨k - 1, by omega⟩
    simp only [credenzaref03_Same.l0]
    rw [if_pos (by omega), if_pos (by omega), if_pos (by omega), w64_succ i a.length (by omega) hn, ih k (i + 1) (by omega) (by omega), rd_drop a i (by omega), rd_drop b i (by omega)]
    by_cases c : rd a (i : Int) = rd b (i : Int)
    · rw [if_pos c, c]; simp
    · rw [if_neg c]; simp [c]
theorem same_eq (a b : List Int) (hn : a.length ≤ 140737488351232) (k : Nat) (hk : a.length < k) : credenzaref03_Same.f k a b = some (decide (a = b)) := by
  unfold credenzaref03_Same.f
  by_cases h : (a.length : Int) = (b.length : Int)
  · rw [if_pos h]
    have := same_loop a b (by omega) hn a.length k 0 (by omega) hk
    rwa [List.drop_zero, List.drop_zero] at this
  · rw [if_neg h, decide_eq_false (fun e => h (by rw [e]))]
theorem same_self (a : List Int) (hn : a.length ≤ 140737488351232) (k : Nat) (hk : a.length < k) : credenzaref03_Same.f k a a = some true := by
  rw [same_eq a a hn k hk]; simp
/-- The sum, as an int64 has it. -/
def sumW : Int → List Int → Int
  | s, [] => s
  | s, x :: xs => sumW (wrap64 (s + x)) xs
theorem sum_loop (l : List Int) (hn : l.length ≤ 140737488351232) (d : Nat) : ∀ (k i : Nat) (s : Int), i + d = l.length → d < k → soft_Sum.l0 k s l (l.length : Int) (i : Int) = some (sumW s (l.drop i)) := by
  induction d with
  | zero =>
    intro k i s h hk
    obtain ⟨k, rfl⟩ : ∃ m, k = m + 1 := ⟨k - 1, by omega⟩
    simp only [soft_Sum.l0]
    rw [if_neg (by omega), List.drop_of_length_le (by omega : l.length ≤ i)]
    rfl
  | succ d ih =>
    intro k i s h hk
    obtain ⟨k, rfl⟩ : ∃ m, k = m + 1 := ⟨k - 1, by omega⟩
    simp only [soft_Sum.l0]
    rw [if_pos (by omega), if_pos (by omega), if_pos (by omega), w64_succ i l.length (by omega) hn, ih k (i + 1) _ (by omega) (by omega), rd_drop l i (by omega)]
    rfl
theorem sum_eq (l : List Int) (hn : l.length ≤ 140737488351232) (k : Nat) (hk : l.length < k) : soft_Sum.f k l = some (sumW 0 l) := by
  unfold soft_Sum.f
  have := sum_loop l hn l.length k 0 0 (by omega) hk
  rwa [List.drop_zero] at this
theorem rsum_loop (l : List Int) (hn : l.length ≤ 140737488351232) (d : Nat) : ∀ (k i : Nat) (s : Int), i + d = l.length → d < k → credenzaref04_Sum.l0 k l s (i : Int) = some (sumW s (l.drop i)) := by
  induction d with
  | zero =>
    intro k i s h hk
    obtain ⟨k, rfl⟩ : ∃ m, k = m + 1 := ⟨k - 1, by omega⟩
    simp only [credenzaref04_Sum.l0]
    rw [if_neg (by omega), List.drop_of_length_le (by omega : l.length ≤ i)]
    rfl
  | succ d ih =>
    intro k i s h hk
    obtain ⟨k, rfl⟩ : ∃ m, k = m + 1 := ⟨k - 1, by omega⟩
    simp only [credenzaref04_Sum.l0]
    rw [if_pos (by omega), if_pos (by omega), w64_succ i l.length (by omega) hn, ih k (i + 1) _ (by omega) (by omega), rd_drop l i (by omega)]
    rfl
theorem rsum_eq (l : List Int) (hn : l.length ≤ 140737488351232) (k : Nat) (hk : l.length < k) : credenzaref04_Sum.f k l = some (sumW 0 l) := by
  unfold credenzaref04_Sum.f
  have := rsum_loop l hn l.length k 0 0 (by omega) hk
  rwa [List.drop_zero] at this
theorem rdL_drop (l : List (List Int)) (i : Nat) (h : i < l.length) : l.drop i = rd_L2 l (i : Int) :: l.drop (i + 1) := by
  rw [List.drop_eq_getElem_cons h]
  congr 1
  unfold rd_L2
  rw [Int.toNat_natCast, List.getD_eq_getElem?_getD, List.getElem?_eq_getElem h]
  rfl
theorem rdL_mem (l : List (List Int)) (i : Nat) (h : i < l.length) : rd_L2 l (i : Int) ∈ l := by
  have := rdL_drop l i h
  exact List.mem_of_mem_drop (this ▸ List.mem_cons_self : rd_L2 l (i : Int) ∈ l.drop i)
def othB (n : Int) (y : List Int) : Bool := (y.length : Int) != n
def shareB (x : Int) : Bool := decide (x < 0) || decide (x > 65536)
theorem share_eq (x : Int) : soft_right_2.f x = some (shareB x) := by
  unfold soft_right_2.f shareB
  by_cases h : x < 0
  · rw [if_pos h, decide_eq_true h]; rfl
  · rw [if_neg h, decide_eq_false h]; rfl
theorem oth_index (l : List (List Int)) (n : Int) (hl : l.length ≤ 140737488351232) (d : Nat) : ∀ (k i : Nat), i + d = l.length → d < k →
    ∃ r, slices_IndexFunc_int32_int32_of_soft_right_1.l0 k l (l.length : Int) (i : Int) n = some r ∧ decide (r ≥ 0) = (l.drop i).any (othB n) := by
  induction d with
  | zero =>
    intro k i h hk
    obtain ⟨k, rfl⟩ : ∃ m, k = m + 1 := ⟨k - 1, by omega⟩
    refine ⟨-1, ?_, ?_⟩
    · simp only [slices_IndexFunc_int32_int32_of_soft_right_1.l0]; rw [if_neg (by omega)]
    · rw [List.drop_of_length_le (by omega)]; rfl
  | succ d ih =>
    intro k i h hk
    obtain ⟨k, rfl⟩ : ∃ m, k = m + 1 := ⟨k - 1, by omega⟩
    simp only [slices_IndexFunc_int32_int32_of_soft_right_1.l0]
    rw [if_pos (by omega), if_pos (by omega), if_pos (by omega), rdL_drop l i (by omega), List.any_cons, show soft_right_1.f (rd_L2 l (i : Int)) n = some (othB n (rd_L2 l (i : Int))) from rfl]
    simp only [Option.bind_some]
    by_cases hb : othB n (rd_L2 l (i : Int)) = true
    · rw [if_pos hb, hb]
      exact ⟨_, rfl, by simp⟩
    · rw [if_neg hb, w64_succ i l.length (by omega) hl]
      obtain ⟨r, e, hr⟩ := ih k (i + 1) (by omega) (by omega)
      rw [Bool.not_eq_true] at hb
      exact ⟨r, e, by rw [hr, hb]; rfl⟩
theorem share_index (l : List Int) (hl : l.length ≤ 140737488351232) (d : Nat) : ∀ (k i : Nat), i + d = l.length → d < k →
    ∃ r, slices_IndexFunc_int_int_of_soft_right_2.l0 k l (l.length : Int) (i : Int) = some r ∧ decide (r ≥ 0) = (l.drop i).any shareB := by
  induction d with
  | zero =>
    intro k i h hk
    obtain ⟨k, rfl⟩ : ∃ m, k = m + 1 := ⟨k - 1, by omega⟩
    refine ⟨-1, ?_, ?_⟩
    · simp only [slices_IndexFunc_int_int_of_soft_right_2.l0]; rw [if_neg (by omega)]
    · rw [List.drop_of_length_le (by omega)]; rfl
  | succ d ih =>
    intro k i h hk
    obtain ⟨k, rfl⟩ : ∃ m, k = m + 1 := ⟨k - 1, by omega⟩
    simp only [slices_IndexFunc_int_int_of_soft_right_2.l0]
    rw [if_pos (by omega), if_pos (by omega), if_pos (by omega), share_eq, rd_drop l i (by omega), List.any_cons]
    simp only [Option.bind_some]
    by_cases hb : shareB (rd l (i : Int)) = true
    · rw [if_pos hb, hb]
      exact ⟨_, rfl, by simp⟩
    · rw [if_neg hb, w64_succ i l.length (by omega) hl]
      obtain ⟨r, e, hr⟩ := ih k (i + 1) (by omega) (by omega)
      rw [Bool.not_eq_true] at hb
      exact ⟨r, e, by rw [hr, hb]; rfl⟩
def wildB (y : List Int) : Bool := !mildB y
theorem wild_index (l : List (List Int)) (hl : l.length ≤ 140737488351232) (d : Nat) : ∀ (k i : Nat), i + d = l.length → d + 1030 < k →
    ∃ r, slices_IndexFunc_int32_int32_of_soft_right_3.l0 k l (l.length : Int) (i : Int) = some r ∧ decide (r ≥ 0) = (l.drop i).any wildB := by
  induction d with
  | zero =>
    intro k i h hk
    obtain ⟨k, rfl⟩ : ∃ m, k = m + 1 := ⟨k - 1, by omega⟩
    refine ⟨-1, ?_, ?_⟩
    · simp only [slices_IndexFunc_int32_int32_of_soft_right_3.l0]; rw [if_neg (by omega)]
    · rw [List.drop_of_length_le (by omega)]; rfl
  | succ d ih =>
    intro k i h hk
    obtain ⟨k, rfl⟩ : ∃ m, k = m + 1 := ⟨k - 1, by omega⟩
    have e3 : soft_right_3.f k (rd_L2 l (i : Int)) = some (wildB (rd_L2 l (i : Int))) := by
      unfold soft_right_3.f wildB
      rw [mild_eq _ k (by omega)]; rfl
    simp only [slices_IndexFunc_int32_int32_of_soft_right_3.l0]
    rw [if_pos (by omega), if_pos (by omega), if_pos (by omega), e3, rdL_drop l i (by omega), List.any_cons]
    simp only [Option.bind_some]
    by_cases hb : wildB (rd_L2 l (i : Int)) = true
    · rw [if_pos hb, hb]
      exact ⟨_, rfl, by simp⟩
    · rw [if_neg hb, w64_succ i l.length (by omega) hl]
      obtain ⟨r, e, hr⟩ := ih k (i + 1) (by omega) (by omega)
      rw [Bool.not_eq_true] at hb
      exact ⟨r, e, by rw [hr, hb]; rfl⟩
/-- Can lists be mixed? -/
def mixR (w : List Int) (l : List (List Int)) : Int :=
  if (l.length : Int) = 0 then 14 else if (l.length : Int) > 1024 then 12 else if (l.length : Int) = (w.length : Int) then
    (if l.any (othB ((rd_L2 l 0).length : Int)) = true then 25 else if w.any shareB = true then 11 else if sumW 0 w = 0 then 11 else if l.any wildB = true then 11 else 0) else 25
theorem mixr_eq (w : List Int) (l : List (List Int)) (k : Nat) (hk : 2100 < k) : soft_right.f k w l = some (mixR w l) := by
  unfold soft_right.f mixR
  by_cases h0 : (l.length : Int) = 0
  · rw [if_pos h0, if_pos h0]
  rw [if_neg h0, if_neg h0]
  by_cases h1 : (l.length : Int) > 1024
  · rw [if_pos h1, if_pos h1]
  rw [if_neg h1, if_neg h1]
  by_cases h2 : (l.length : Int) = (w.length : Int)
  · rw [if_pos h2, if_pos h2, if_pos (by omega)]
    obtain ⟨r1, e1, g1⟩ := oth_index l ((rd_L2 l 0).length : Int) (by omega) l.length k 0 (by omega) (by omega)
    obtain ⟨r2, e2, g2⟩ := share_index w (by omega) w.length k 0 (by omega) (by omega)
    obtain ⟨r3, e3, g3⟩ := wild_index l (by omega) l.length k 0 (by omega) (by omega)
    rw [List.drop_zero] at g1 g2 g3
    unfold slices_ContainsFunc_int32_int32_of_soft_right_1.f slices_IndexFunc_int32_int32_of_soft_right_1.f slices_ContainsFunc_int_int_of_soft_right_2.f slices_IndexFunc_int_int_of_soft_right_2.f slices_ContainsFunc_int32_int32_of_soft_right_3.f slices_IndexFunc_int32_int32_of_soft_right_3.f
    have e1' : slices_IndexFunc_int32_int32_of_soft_right_1.l0 k l (l.length : Int) 0 ((rd_L2 l 0).length : Int) = some r1 := e1
    have e2' : slices_IndexFunc_int_int_of_soft_right_2.l0 k w (w.length : Int) 0 = some r2 := e2
    have e3' : slices_IndexFunc_int32_int32_of_soft_right_3.l0 k l (l.length : Int) 0 = some r3 := e3
    rw [e1', e2', e3', sum_eq w (by omega) k (by omega)]
    simp only [Option.bind_some]
    rw [g1, g2, g3]
    repeat' split
    all_goals first | rfl | (exfalso; simp_all; done)
  · rw [if_neg h2, if_neg h2]
/-- The weighed sum at a place. -/
def mixAt : List Int → List (List Int) → Nat → Int
  | x :: xs, y :: ys, i => x * rd y (i : Int) + mixAt xs ys i
  | _, _, _ => 0
def mixL (w : List Int) (l : List (List Int)) (all : Int) : Nat → Nat → List Int
  | 0, _ => []
  | d + 1, i => narrow (rnd (mixAt w l i) all) :: mixL w l all d (i + 1)
theorem mixL_length (w : List Int) (l : List (List Int)) (all : Int) (d : Nat) : ∀ i, (mixL w l all d i).length = d := by
  induction d with
  | zero => intro i; rfl
  | succ d ih => intro i; simp only [mixL, List.length_cons]; rw [ih]
/-- What lists that can be mixed have. -/
structure MixOk (w : List Int) (l : List (List Int)) (n : Nat) : Prop where
  len : l.length = w.length
  pos : 0 < l.length
  few : l.length ≤ 1024
  wide : ∀ y ∈ l, y.length = n
  share : ∀ x ∈ w, 0 ≤ x ∧ x ≤ 65536
  mild : ∀ y ∈ l, ∀ x ∈ y, -16777216 ≤ x ∧ x ≤ 16777216
  all : sumW 0 w ≠ 0
theorem mixok_of {w : List Int} {l : List (List Int)} (h : mixR w l = 0) : MixOk w l (rd_L2 l 0).length := by
  unfold mixR at h
  by_cases h0 : (l.length : Int) = 0
  · rw [if_pos h0] at h; omega
  rw [if_neg h0] at h
  by_cases h1 : (l.length : Int) > 1024
  · rw [if_pos h1] at h; omega
  rw [if_neg h1] at h
  by_cases h2 : (l.length : Int) = (w.length : Int)
  · rw [if_pos h2] at h
    by_cases h3 : l.any (othB ((rd_L2 l 0).length : Int)) = true
    · rw [if_pos h3] at h; omega
    rw [if_neg h3] at h
    by_cases h4 : w.any shareB = true
    · rw [if_pos h4] at h; omega
    rw [if_neg h4] at h
    by_cases h5 : sumW 0 w = 0
    · rw [if_pos h5] at h; omega
    rw [if_neg h5] at h
    by_cases h6 : l.any wildB = true
    · rw [if_pos h6] at h; omega
    rw [Bool.not_eq_true, List.any_eq_false] at h3 h4 h6
    refine ⟨by omega, by omega, by omega, fun y hy => ?_, fun x hx => ?_, fun y hy => ?_, h5⟩
    · have := h3 y hy
      simp only [othB, bne_iff_ne, ne_eq, Decidable.not_not] at this
      omega
    · have := h4 x hx
      simp only [shareB, Bool.or_eq_true, decide_eq_true_eq] at this
      omega
    · have := h6 y hy
      simp only [wildB, Bool.not_eq_true', Bool.not_eq_false] at this
      exact (mild_mem this).2
  · rw [if_neg h2] at h; omega
theorem sumW_bound (w : List Int) : ∀ s : Int, (∀ x ∈ w, 0 ≤ x ∧ x ≤ 65536) → 0 ≤ s → s + w.length * 65536 ≤ 1000000000 → 0 ≤ sumW s w ∧ sumW s w ≤ s + w.length * 65536 := by
  induction w with
  | nil => intro s _ h0 h1; simp only [sumW, List.length_nil]; omega
  | cons x xs ih =>
    intro s h h0 h1
    have hx := h x List.mem_cons_self
    rw [List.length_cons] at h1 ⊢
    simp only [sumW]
    rw [w64 (s + x) (by omega) (by omega)]
    have := ih (s + x) (fun y hy => h y (List.mem_cons_of_mem _ hy)) (by omega) (by omega)
    omega
theorem mix_loop1 (w : List Int) (l : List (List Int)) (n : Nat) (H : MixOk w l n) (i : Nat) (hi : i < n) (out : List Int) (all m x28 : Int) (ho : i < out.length) (ha : 0 < all) (ha' : all ≤ 1000000000) (d : Nat) : ∀ (k j : Nat) (s : Int), j + d = l.length → d < k → -(j * 1099511627776) ≤ s → s ≤ j * 1099511627776 →
    soft_Mix.l1 k w l out all (i : Int) s m x28 l (l.length : Int) (j : Int) = soft_Mix.l0 (k - d - 1) w l (out.set i (narrow (rnd (s + mixAt (w.drop j) (l.drop j) i) all))) all m (wrap64 (x28 + 1)) := by
  have hlen := H.len
  have hfew := H.few
  induction d with
  | zero =>
    intro k j s h hk h0 h1
    obtain ⟨k, rfl⟩ : ∃ q, k = q + 1 := ⟨k - 1, by omega⟩
    simp only [soft_Mix.l1]
    rw [if_neg (by omega), List.drop_of_length_le (by omega : l.length ≤ j), List.drop_of_length_le (by omega : w.length ≤ j), ratio_eq _ _ (by omega) (by omega) ha (by omega)]
    simp only [Option.bind_some]
    rw [narrow_eq]
    simp only [Option.bind_some]
    rw [if_pos (by omega), if_pos (by omega), Int.toNat_natCast, show mixAt [] [] i = 0 from rfl, Int.add_zero]
    rfl
  | succ d ih =>
    intro k j s h hk h0 h1
    obtain ⟨k, rfl⟩ : ∃ q, k = q + 1 := ⟨k - 1, by omega⟩
    have hy := rdL_mem l j (by omega)
    have hyl := H.wide _ hy
    have hv := H.mild _ hy _ (rd_mem (rd_L2 l (j : Int)) i (by omega))
    have hx := H.share _ (rd_mem w j (by omega))
    have hp := mul_bound (a := rd w (j : Int)) (b := rd (rd_L2 l (j : Int)) (i : Int)) (A := 65536) (B := 16777216) (by omega) (by omega) (by omega) (by omega)
    simp only [soft_Mix.l1]
    rw [if_pos (by omega), if_pos (by omega), if_pos (by omega), if_pos (by omega), if_pos (by omega), if_pos (by omega), w64_succ j l.length (by omega) (by omega), w64 (rd (rd_L2 l (j : Int)) (i : Int)) (by omega) (by omega), w64 (rd w (j : Int) * rd (rd_L2 l (j : Int)) (i : Int)) (by omega) (by omega), w64 (s + rd w (j : Int) * rd (rd_L2 l (j : Int)) (i : Int)) (by omega) (by omega)]
    rw [ih k (j + 1) _ (by omega) (by omega) (by omega) (by omega), rd_drop w j (by omega), rdL_drop l j (by omega), show k + 1 - (d + 1) - 1 = k - d - 1 from by omega]
    simp only [mixAt]
    rw [Int.add_assoc]
theorem mix_fuel (d k L F : Nat) (h : (d + 1) * F < k + 1) (hL : L + 2 ≤ F) : d * F < k - L - 1 ∧ L < k := by
  rw [Nat.succ_mul] at h
  generalize d * F = q at *
  omega
theorem mix_loop0 (w : List Int) (l : List (List Int)) (n : Nat) (H : MixOk w l n) (hn : n ≤ 1024) (all : Int) (ha : 0 < all) (ha' : all ≤ 1000000000) (d : Nat) : ∀ (k i : Nat) (out : List Int), i + d = n → d * 1026 < k → out.length = n →
    soft_Mix.l0 k w l out all (n : Int) (i : Int) = some (out.take i ++ mixL w l all d i, 0) := by
  have hfew := H.few
  induction d with
  | zero =>
    intro k i out h hk ho
    obtain ⟨k, rfl⟩ : ∃ q, k = q + 1 := ⟨k - 1, by omega⟩
    simp only [soft_Mix.l0]
    rw [if_neg (by omega), List.take_of_length_le (by omega)]
    simp [mixL]
  | succ d ih =>
    intro k i out h hk ho
    obtain ⟨k, rfl⟩ : ∃ q, k = q + 1 := ⟨k - 1, by omega⟩
    obtain ⟨hk2, hk3⟩ := mix_fuel d k l.length 1026 hk (by omega)
    simp only [soft_Mix.l0]
    rw [if_pos (by omega)]
    have := mix_loop1 w l n H i (by omega) out all (n : Int) (i : Int) (by omega) ha ha' l.length k 0 0 (by omega) hk3 (by omega) (by omega)
    rw [List.drop_zero, List.drop_zero, Int.zero_add] at this
    refine Eq.trans this ?_
    rw [w64_succ i n (by omega) (by omega), ih (k - l.length - 1) (i + 1) _ (by omega) hk2 (by rw [List.length_set]; exact ho), set_take _ _ _ (by omega), List.append_assoc]
    rfl
theorem mix_eq (w : List Int) (l : List (List Int)) (h : mixR w l = 0) (hn : (rd_L2 l 0).length ≤ 40) (k : Nat) (hk : 50000 < k) : soft_Mix.f k w l = some (mixL w l (sumW 0 w) (rd_L2 l 0).length 0, 0) := by
  have H := mixok_of h
  have hlen := H.len
  have hpos := H.pos
  have hfew := H.few
  have hs := sumW_bound w 0 H.share (by omega) (by omega)
  have hne := H.all
  unfold soft_Mix.f
  rw [mixr_eq w l k (by omega), h]
  simp only [Option.bind_some]
  rw [if_pos trivial, if_pos (by omega), if_pos (by omega), if_pos (by omega), sum_eq w (by omega) k (by omega)]
  simp only [Option.bind_some]
  rw [List.length_replicate, Int.toNat_natCast]
  have := mix_loop0 w l _ H (by omega) (sumW 0 w) (by omega) (by omega) (rd_L2 l 0).length k 0 (List.replicate (rd_L2 l 0).length 0) (by omega) (by omega) (by rw [List.length_replicate])
  rw [List.take_zero, List.nil_append] at this
  exact this
theorem mix_not (w : List Int) (l : List (List Int)) (h : mixR w l ≠ 0) (k : Nat) (hk : 2100 < k) : soft_Mix.f k w l = some ([], mixR w l) := by
  unfold soft_Mix.f
  rw [mixr_eq w l k hk, Option.bind_some, if_neg h]
theorem rmixr_loop1 (w : List Int) (l : List (List Int)) (hlen : l.length = w.length) (hn : l.length ≤ 1024) (hy : ∀ y ∈ l, y.length ≤ 40) (d : Nat) : ∀ (k i : Nat), i + d = l.length → d + 1100 < k →
    credenzaref04_Right.l1 k w l (i : Int) = some (if ((w.drop i).any shareB || (l.drop i).any wildB) = true then 11 else if sumW 0 w = 0 then 11 else 0) := by
  induction d with
  | zero =>
    intro k i h hk
    obtain ⟨k, rfl⟩ : ∃ m, k = m + 1 := ⟨k - 1, by omega⟩
    simp only [credenzaref04_Right.l1]
    rw [if_neg (by omega), rsum_eq w (by omega) k (by omega), List.drop_of_length_le (by omega : w.length ≤ i), List.drop_of_length_le (by omega : l.length ≤ i)]
    simp only [Option.bind_some, List.any_nil, Bool.or_self]
    rw [if_neg (by decide : ¬ (false = true))]
    by_cases c : sumW 0 w = 0
    · rw [if_pos c, if_pos c]
    · rw [if_neg c, if_neg c]
  | succ d ih =>
    intro k i h hk
    obtain ⟨k, rfl⟩ : ∃ m, k = m + 1 := ⟨k - 1, by omega⟩
    have hm := hy _ (rdL_mem l i (by omega))
    simp only [credenzaref04_Right.l1]
    rw [if_pos (by omega), if_pos (by omega), if_pos (by omega), rmild_eq _ (by omega) k (by omega), w64_succ i l.length (by omega) (by omega), ih k (i + 1) (by omega) (by omega), rd_drop w i (by omega), rdL_drop l i (by omega), List.any_cons, List.any_cons]
    simp only [Option.bind_some]
    by_cases c1 : rd w (i : Int) < 0
    · rw [if_pos c1, show shareB (rd w (i : Int)) = true from by unfold shareB; rw [decide_eq_true c1]; rfl]; rfl
    · rw [if_neg c1]
      by_cases c2 : rd w (i : Int) > 65536
      · rw [if_pos c2, show shareB (rd w (i : Int)) = true from by unfold shareB; rw [decide_eq_true c2, Bool.or_true]]; rfl
      · rw [if_neg c2, show shareB (rd w (i : Int)) = false from by unfold shareB; rw [decide_eq_false c1, decide_eq_false c2]; rfl]
        by_cases c3 : mildB (rd_L2 l (i : Int)) = true
        · rw [if_pos c3, show wildB (rd_L2 l (i : Int)) = false from by unfold wildB; rw [c3]; rfl, Bool.false_or, Bool.false_or]
        · rw [if_neg c3, show wildB (rd_L2 l (i : Int)) = true from by unfold wildB; rw [Bool.not_eq_true] at c3; rw [c3]; rfl, Bool.true_or, Bool.or_true, if_pos rfl]
theorem rmixr_loop0 (w : List Int) (l : List (List Int)) (hlen : l.length = w.length) (hpos : 0 < l.length) (hn : l.length ≤ 1024) (hy : ∀ y ∈ l, y.length ≤ 40) (d : Nat) : ∀ (k i : Nat), i + d = l.length → d + 2200 < k →
    credenzaref04_Right.l0 k w l (i : Int) = some (if (l.drop i).any (othB ((rd_L2 l 0).length : Int)) = true then 25 else if (w.any shareB || l.any wildB) = true then 11 else if sumW 0 w = 0 then 11 else 0) := by
  induction d with
  | zero =>
    intro k i h hk
    obtain ⟨k, rfl⟩ : ∃ m, k = m + 1 := ⟨k - 1, by omega⟩
    simp only [credenzaref04_Right.l0]
    have := rmixr_loop1 w l hlen hn hy l.length k 0 (by omega) (by omega)
    rw [List.drop_zero, List.drop_zero] at this
    rw [if_neg (by omega), List.drop_of_length_le (by omega : l.length ≤ i), List.any_nil, if_neg (by decide : ¬ (false = true))]
    exact this
  | succ d ih =>
    intro k i h hk
    obtain ⟨k, rfl⟩ : ∃ m, k = m + 1 := ⟨k - 1, by omega⟩
    simp only [credenzaref04_Right.l0]
    rw [if_pos (by omega), if_pos (by omega), if_pos (by omega), w64_succ i l.length (by omega) (by omega), ih k (i + 1) (by omega) (by omega), rdL_drop l i (by omega), List.any_cons]
    by_cases c : ((rd_L2 l (i : Int)).length : Int) = ((rd_L2 l 0).length : Int)
    · rw [if_pos c, show othB ((rd_L2 l 0).length : Int) (rd_L2 l (i : Int)) = false from by unfold othB; simp; omega, Bool.false_or]
    · rw [if_neg c, show othB ((rd_L2 l 0).length : Int) (rd_L2 l (i : Int)) = true from by unfold othB; simp; omega, Bool.true_or, if_pos rfl]
theorem rmixr_eq (w : List Int) (l : List (List Int)) (hy : ∀ y ∈ l, y.length ≤ 40) (k : Nat) (hk : 4000 < k) : credenzaref04_Right.f k w l = some (mixR w l) := by
  unfold credenzaref04_Right.f mixR
  by_cases h0 : (l.length : Int) = 0
  · rw [if_pos h0, if_pos h0]
  rw [if_neg h0, if_neg h0]
  by_cases h1 : (l.length : Int) > 1024
  · rw [if_pos h1, if_pos h1]
  rw [if_neg h1, if_neg h1]
  by_cases h2 : (l.length : Int) = (w.length : Int)
  · rw [if_pos h2, if_pos h2]
    have := rmixr_loop0 w l (by omega) (by omega) (by omega) hy l.length k 0 (by omega) (by omega)
    rw [List.drop_zero] at this
    refine Eq.trans this ?_
    cases l.any (othB ((rd_L2 l 0).length : Int)) <;> cases w.any shareB <;> cases l.any wildB <;> by_cases c : sumW 0 w = 0 <;> simp [c]
  · rw [if_neg h2, if_neg h2]
theorem rmix_loop1 (w : List Int) (l : List (List Int)) (n : Nat) (H : MixOk w l n) (i : Nat) (hi : i < n) (out : List Int) (ho : out.length < 1000000) (d : Nat) : ∀ (k j : Nat) (s : Int), j + d = l.length → d + 1100 < k → -(j * 1099511627776) ≤ s → s ≤ j * 1099511627776 →
    credenzaref04_Mix.l1 k w l out (i : Int) s (j : Int) = credenzaref04_Mix.l0 (k - d - 1) w l (out ++ [narrow (rnd (s + mixAt (w.drop j) (l.drop j) i) (sumW 0 w))]) (wrap64 ((i : Int) + 1)) := by
  have hlen := H.len
  have hfew := H.few
  have hpos := H.pos
  have hs := sumW_bound w 0 H.share (by omega) (by omega)
  have hne := H.all
  induction d with
  | zero =>
    intro k j s h hk h0 h1
    obtain ⟨k, rfl⟩ : ∃ q, k = q + 1 := ⟨k - 1, by omega⟩
    simp only [credenzaref04_Mix.l1]
    rw [if_neg (by omega), rsum_eq w (by omega) k (by omega), List.drop_of_length_le (by omega : l.length ≤ j), List.drop_of_length_le (by omega : w.length ≤ j)]
    simp only [Option.bind_some]
    rw [rratio_eq _ _ (by omega) (by omega) (by omega) (by omega)]
    simp only [Option.bind_some]
    rw [rnarrow_eq]
    simp only [Option.bind_some]
    rw [if_pos (by omega), show mixAt [] [] i = 0 from rfl, Int.add_zero]
    rfl
  | succ d ih =>
    intro k j s h hk h0 h1
    obtain ⟨k, rfl⟩ : ∃ q, k = q + 1 := ⟨k - 1, by omega⟩
    have hy := rdL_mem l j (by omega)
    have hyl := H.wide _ hy
    have hv := H.mild _ hy _ (rd_mem (rd_L2 l (j : Int)) i (by omega))
    have hx := H.share _ (rd_mem w j (by omega))
    have hp := mul_bound (a := rd w (j : Int)) (b := rd (rd_L2 l (j : Int)) (i : Int)) (A := 65536) (B := 16777216) (by omega) (by omega) (by omega) (by omega)
    simp only [credenzaref04_Mix.l1]
    rw [if_pos (by omega), if_pos (by omega), if_pos (by omega), if_pos (by omega), if_pos (by omega), w64_succ j l.length (by omega) (by omega), w64 (rd (rd_L2 l (j : Int)) (i : Int)) (by omega) (by omega), w64 (rd w (j : Int) * rd (rd_L2 l (j : Int)) (i : Int)) (by omega) (by omega), w64 (s + rd w (j : Int) * rd (rd_L2 l (j : Int)) (i : Int)) (by omega) (by omega)]
    rw [ih k (j + 1) _ (by omega) (by omega) (by omega) (by omega), rd_drop w j (by omega), rdL_drop l j (by omega), show k + 1 - (d + 1) - 1 = k - d - 1 from by omega]
    simp only [mixAt]
    rw [Int.add_assoc]
theorem rmix_fuel (d k L F : Nat) (h : (d + 1) * F + 1200 < k + 1) (hL : L + 2 ≤ F) : d * F + 1200 < k - L - 1 ∧ L + 1100 < k := by
  rw [Nat.succ_mul] at h
  generalize d * F = q at *
  omega
theorem rmix_loop0 (w : List Int) (l : List (List Int)) (H : MixOk w l (rd_L2 l 0).length) (hn : (rd_L2 l 0).length ≤ 1024) (d : Nat) : ∀ (k i : Nat) (acc : List Int), i + d = (rd_L2 l 0).length → d * 1026 + 1200 < k → acc.length = i →
    credenzaref04_Mix.l0 k w l acc (i : Int) = some (acc ++ mixL w l (sumW 0 w) d i) := by
  have hfew := H.few
  have hpos := H.pos
  induction d with
  | zero =>
    intro k i acc h hk ho
    obtain ⟨k, rfl⟩ : ∃ q, k = q + 1 := ⟨k - 1, by omega⟩
    simp only [credenzaref04_Mix.l0]
    rw [if_pos (by omega), if_neg (by omega)]
    simp [mixL]
  | succ d ih =>
    intro k i acc h hk ho
    obtain ⟨k, rfl⟩ : ∃ q, k = q + 1 := ⟨k - 1, by omega⟩
    obtain ⟨hk2, hk3⟩ := rmix_fuel d k l.length 1026 hk (by omega)
    simp only [credenzaref04_Mix.l0]
    rw [if_pos (by omega), if_pos (by omega)]
    have := rmix_loop1 w l _ H i (by omega) acc (by omega) l.length k 0 0 (by omega) hk3 (by omega) (by omega)
    rw [List.drop_zero, List.drop_zero, Int.zero_add] at this
    refine Eq.trans this ?_
    rw [w64_succ i (rd_L2 l 0).length (by omega) (by omega), ih (k - l.length - 1) (i + 1) _ (by omega) hk2 (by rw [List.length_append]; simp; omega), List.append_assoc]
    rfl
theorem rmix_eq (w : List Int) (l : List (List Int)) (h : mixR w l = 0) (hn : (rd_L2 l 0).length ≤ 40) (k : Nat) (hk : 50000 < k) : credenzaref04_Mix.f k w l = some (mixL w l (sumW 0 w) (rd_L2 l 0).length 0) := by
  have H := mixok_of h
  unfold credenzaref04_Mix.f
  have := rmix_loop0 w l H (by omega) (rd_L2 l 0).length k 0 [] (by omega) (by omega) rfl
  rw [List.nil_append] at this
  exact this
end Cz

theorem mixes_loop (w : List Int) (l : List (List Int)) (hl : (l.length : Int) ≤ 1100) (aw : ∀ k, 1200 ≤ k → credenzalaw04_awake.f k = some true) (R : ∀ k, 55000 ≤ k → (∀ y ∈ l, y.length ≤ 40) → credenzalaw04_SoftMixes.l0 k w l l (l.length : Int) (l.length : Int) = some true) (d : Nat) : ∀ (k i : Nat), i + d = l.length → d + 60000 < k → (∀ y ∈ l.take i, y.length ≤ 40) →
    credenzalaw04_SoftMixes.l0 k w l l (l.length : Int) (i : Int) = some true := by
  induction d with
  | zero =>
    intro k i h hk ho
    obtain rfl : i = l.length := by omega
    exact R k (by omega) (fun y hy => ho y (by rw [List.take_length]; exact hy))
  | succ d ih =>
    intro k i h hk ho
    obtain ⟨k, rfl⟩ : ∃ m, k = m + 1 := ⟨k - 1, by omega⟩
    simp only [credenzalaw04_SoftMixes.l0]
    rw [if_pos (by omega), if_pos (by omega), if_pos (by omega)]
    by_cases c : ((rd_L2 l (i : Int)).length : Int) > 40
    · rw [if_pos c, aw k (by omega)]; rfl
    · rw [if_neg c, Cz.w64_succ i l.length (by omega) (by omega)]
      refine ih k (i + 1) (by omega) (by omega) (fun y hy => ?_)
      rw [List.take_add_one] at hy
      rcases List.mem_append.mp hy with h1 | h1
      · exact ho y h1
      · have e := Cz.rdL_drop l i (by omega)
        rw [List.getElem?_eq_getElem (by omega : i < l.length)] at h1
        rw [List.drop_eq_getElem_cons (by omega : i < l.length)] at e
        have e2 := (List.cons.inj e).1
        simp only [Option.toList_some, List.mem_singleton] at h1
        rw [h1, e2]; omega
theorem SoftMixes : ∀ (l0 : List Int) (l1 : List (List Int)), l0.length ≤ maxLen → (∀ x ∈ l0, (Lit.int .i64 x).wf = true) → l1.length ≤ maxLen → (∀ y ∈ l1, y.length ≤ maxLen ∧ ∀ x ∈ y, (Lit.int .i32 x).wf = true) → ∃ k, credenzalaw04_SoftMixes.f k l0 l1 = some true := by
  intro w l _ _ _ _
  have aw : credenzalaw04_awake.f 1200 = some true := by decide +kernel
  have awk := fun k (hk : 1200 ≤ k) => Cz.up credenzalaw04_awake.mono aw hk
  clear aw
  suffices key : ∀ k, 70000 ≤ k → credenzalaw04_SoftMixes.f (k + 1) w l = some true from ⟨70000 + 1, key 70000 (Nat.le_refl _)⟩
  intro k hk
  have Jt : credenzalaw04_SoftMixes.j0 (k + 1) w l true = some true := by
    simp only [credenzalaw04_SoftMixes.j0]
    rw [if_pos trivial, awk _ (by omega)]; rfl
  unfold credenzalaw04_SoftMixes.f
  by_cases c0 : (l.length : Int) > 1100
  · rw [if_pos c0]; exact Jt
  rw [if_neg c0]
  by_cases c1 : (w.length : Int) > 1100
  · rw [decide_eq_true c1]; exact Jt
  rw [decide_eq_false c1]
  simp only [credenzalaw04_SoftMixes.j0]
  rw [if_neg (by decide)]
  refine mixes_loop w l (by omega) awk (fun k' hk' hy => ?_) l.length k 0 (by omega) (by omega) (fun y hy => by rw [List.take_zero] at hy; cases hy)
  obtain ⟨k', rfl⟩ : ∃ m, k' = m + 1 := ⟨k' - 1, by omega⟩
  simp only [credenzalaw04_SoftMixes.l0]
  rw [if_neg (by omega), Cz.rmixr_eq w l hy k' (by omega)]
  by_cases h : Cz.mixR w l = 0
  · have H := Cz.mixok_of h
    have hpos := H.pos
    have hn := hy _ (Cz.rdL_mem l 0 hpos)
    have hn' : (rd_L2 l 0).length ≤ 40 := hn
    have hlen := Cz.mixL_length w l (Cz.sumW 0 w) (rd_L2 l 0).length 0
    rw [Cz.mix_eq w l h hn' k' (by omega), Cz.rmix_eq w l h hn' k' (by omega), h]
    simp only [Option.bind_some]
    rw [if_pos trivial, if_pos trivial, Cz.same_self _ (by omega) k' (by omega), awk k' (by omega)]
    simp
  · rw [Cz.mix_not w l h k' (by omega)]
    simp only [Option.bind_some]
    rw [if_neg h, if_pos trivial, if_pos (by decide), awk k' (by omega)]
    rfl

end Go.Proofs.Ytmndomlpdajjmab.Pure
