/- A right table's rows are told, in new memory; others aren't there. No condition: for every input. -/
import Derived.Test.YtmndomlpdajjmabMx1
import Derived.Test.YtmndomlpdajjmabMx2
import Derived.Test.YtmndomlpdajjmabMx3
import Derived.Test.YtmndomlpdajjmabMx4
import Derived.Test.YtmndomlpdajjmabMx6
set_option linter.unusedVariables false
set_option linter.unusedSimpArgs false
namespace Go.Proofs.Ytmndomlpdajjmab.Pure
open Go.RowKit Go.Proofs.Ytmndomlpdajjmab.M Go.Proofs.YtmndomlpdajjmabW.PrintWords Go.Proofs.YtmndomlpdajjmabW.PrintLast
namespace Cz
theorem w64 (x : Int) (h0 : -9223372036854775808 ≤ x) (h1 : x ≤ 9223372036854775807) : wrap64 x = x := by unfold wrap64; omega
theorem up {α : Type} {f : Nat → Option α} (hm : ∀ k, LeO (f k) (f (k + 1))) {k0 : Nat} {r : α} (h : f k0 = some r) {k : Nat} (hk : k0 ≤ k) : f k = some r := by
  obtain ⟨d, rfl⟩ : ∃ d, k = k0 + d := ⟨k - k0, by omega⟩
  clear hk
  induction d with
  | zero => exact h
  | succ d ih => exact hm _ _ ih
theorem mul_bound {a b A B : Int} (ha : -A ≤ a) (ha' : a ≤ A) (hb : -B ≤ b) (hb' : b ≤ B) : -(A * B) ≤ a * b ∧ a * b ≤ A * B := by
  have h1 : 0 ≤ (A - a) * (B + b) := Int.mul_nonneg (by omega) (by omega)
  have h2 : 0 ≤ (A + a) * (B - b) := Int.mul_nonneg (by omega) (by omega)
  have h3 : 0 ≤ (A - a) * (B - b) := Int.mul_nonneg (by omega) (by omega)
  have h4 : 0 ≤ (A + a) * (B + b) := Int.mul_nonneg (by omega) (by omega)
  simp only [Int.sub_mul, Int.mul_sub, Int.add_mul, Int.mul_add] at h1 h2 h3 h4
  generalize A * B = p at *
  generalize a * b = q at *
  generalize A * b = r at *
  generalize a * B = s at *
  omega
theorem rd_drop (l : List Int) (i : Nat) (h : i < l.length) : l.drop i = rd l (i : Int) :: l.drop (i + 1) := by
  rw [List.drop_eq_getElem_cons h]
  congr 1
  unfold rd
  rw [Int.toNat_natCast, List.getD_eq_getElem?_getD, List.getElem?_eq_getElem h]
  rfl
theorem w64_succ (i n : Nat) (h : i < n) (hn : n ≤ 140737488351232) : wrap64 ((i : Int) + 1) = ((i + 1 : Nat) : Int) := by
  rw [w64 _ (by omega) (by omega)]; omega
theorem same_loop (a b : List Int) (hab : a.length = b.length) (hn : a.length ≤ 140737488351232) (d : Nat) : ∀ (k i : Nat), i + d = a.length → d < k →
    credenzaref03_Same.l0 k a b (i : Int) = some (decide (a.drop i = b.drop i)) := by
  induction d with
  | zero =>
    intro k i h hk
    obtain ⟨k, rfl⟩ : ∃ m, k = m + 1 := ⟨k - 1, by omega⟩
    simp only [credenzaref03_Same.l0]
    rw [if_neg (by omega), List.drop_of_length_le (by omega : a.length ≤ i), List.drop_of_length_le (by omega : b.length ≤ i)]
    simp
  | succ d ih =>
    intro k i h hk
    obtain ⟨k, rfl⟩ : ∃ m, k = m + 1 := ⟨k - 1, by omega⟩
    simp only [credenzaref03_Same.l0]
    rw [if_pos (by omega), if_pos (by omega), if_pos (by omega), w64_succ i a.length (by omega) hn, ih k (i + 1) (by omega) (by omega), rd_drop a i (by omega), rd_drop b i (by omega)]
    by_cases c : rd a (i : Int) = rd b (i : Int)
    · rw [if_pos c, c]; simp
    · rw [if_neg c]; simp [c]
theorem same_eq (a b : List Int) (hn : a.length ≤ 140737488351232) (k : Nat) (hk : a.length < k) : credenzaref03_Same.f k a b = some (decide (a = b)) := by
  unfold credenzaref03_Same.f
  by_cases h : (a.length : Int) = (b.length : Int)
  · rw [if_pos h]
    have := same_loop a b (by omega) hn a.length k 0 (by omega) hk
    rwa [List.drop_zero, List.drop_zero] at this
  · rw [if_neg h, decide_eq_false (fun e => h (by rw [e]))]
theorem same_self (a : List Int) (hn : a.length ≤ 140737488351232) (k : Nat) (hk : a.length < k) : credenzaref03_Same.f k a a = some true := by
  rw [same_eq a a hn k hk]; simp
def heavyI (x : Int) : Bool := decide (x < -1048576) || decide (x > 1048576)
theorem heavy1_eq (x : Int) : mat_Mat_Right_1.f x = some (heavyI x) := by
  unfold mat_Mat_Right_1.f heavyI
  by_cases h : x < -1048576
  · rw [if_pos h, decide_eq_true h]; rfl
  · rw [if_neg h, decide_eq_false h]; rfl
theorem heavy_index (l : List Int) (hl : l.length ≤ 140737488351232) (d : Nat) : ∀ (k i : Nat), i + d = l.length → d < k →
    ∃ r, slices_IndexFunc_int32_int32_of_mat_Mat_Right_1.l0 k l (l.length : Int) (i : Int) = some r ∧ decide (r ≥ 0) = (l.drop i).any heavyI := by
  induction d with
  | zero =>
    intro k i h hk
    obtain ⟨k, rfl⟩ : ∃ m, k = m + 1 := ⟨k - 1, by omega⟩
    refine ⟨-1, ?_, ?_⟩
    · simp only [slices_IndexFunc_int32_int32_of_mat_Mat_Right_1.l0]; rw [if_neg (by omega)]
    · rw [List.drop_of_length_le (by omega)]; rfl
  | succ d ih =>
    intro k i h hk
    obtain ⟨k, rfl⟩ : ∃ m, k = m + 1 := ⟨k - 1, by omega⟩
    simp only [slices_IndexFunc_int32_int32_of_mat_Mat_Right_1.l0]
    rw [if_pos (by omega), if_pos (by omega), if_pos (by omega), heavy1_eq, rd_drop l i (by omega), List.any_cons]
    simp only [Option.bind_some]
    by_cases hb : heavyI (rd l (i : Int)) = true
    · rw [if_pos hb, hb]
      exact ⟨_, rfl, by simp⟩
    · rw [if_neg hb, w64_succ i l.length (by omega) hl]
      obtain ⟨r, e, hr⟩ := ih k (i + 1) (by omega) (by omega)
      rw [Bool.not_eq_true] at hb
      exact ⟨r, e, by rw [hr, hb]; rfl⟩
/-- May a table be? -/
def rightI (r c : Int) (w : List Int) : Int :=
  if 1 ≤ r ∧ r ≤ 64 ∧ 1 ≤ c ∧ c ≤ 64 then (if (w.length : Int) = r * c then (if w.any heavyI = true then 11 else 0) else 25) else 11
theorem cells_few {r c : Int} (h : 1 ≤ r ∧ r ≤ 64 ∧ 1 ≤ c ∧ c ≤ 64) : -4096 ≤ r * c ∧ r * c ≤ 4096 := by
  have := mul_bound (a := r) (b := c) (A := 64) (B := 64) (by omega) (by omega) (by omega) (by omega)
  omega
theorem sized_eq (n : Int) : mat_sized.f n = some (decide (1 ≤ n ∧ n ≤ 64)) := by
  unfold mat_sized.f
  by_cases h : n ≥ 1
  · rw [if_pos h]
    by_cases h2 : n ≤ 64
    · rw [decide_eq_true h2, decide_eq_true ⟨h, h2⟩]
    · rw [decide_eq_false h2, decide_eq_false (by omega)]
  · rw [if_neg h, decide_eq_false (by omega)]
theorem right_eq (r c : Int) (w : List Int) (k : Nat) (hk : 4100 < k) : mat_Mat_Right.f k r c w = some (rightI r c w) := by
  obtain ⟨k, rfl⟩ : ∃ m, k = m + 1 := ⟨k - 1, by omega⟩
  unfold mat_Mat_Right.f rightI
  rw [sized_eq, sized_eq]
  simp only [Option.bind_some]
  by_cases h1 : 1 ≤ r ∧ r ≤ 64
  · rw [decide_eq_true h1, if_pos rfl]
    by_cases h2 : 1 ≤ c ∧ c ≤ 64
    · have hf := cells_few (r := r) (c := c) (by omega)
      rw [decide_eq_true h2, if_pos (show 1 ≤ r ∧ r ≤ 64 ∧ 1 ≤ c ∧ c ≤ 64 from ⟨h1.1, h1.2, h2.1, h2.2⟩)]
      simp only [mat_Mat_Right.j0]
      rw [if_neg (by decide), w64 (r * c) (by omega) (by omega)]
      by_cases h3 : (w.length : Int) = r * c
      · rw [if_pos h3, if_pos h3]
        obtain ⟨v, e, hv⟩ := heavy_index w (by omega) w.length k 0 (by omega) (by omega)
        unfold slices_ContainsFunc_int32_int32_of_mat_Mat_Right_1.f slices_IndexFunc_int32_int32_of_mat_Mat_Right_1.f
        have e' : slices_IndexFunc_int32_int32_of_mat_Mat_Right_1.l0 k w (w.length : Int) 0 = some v := e
        rw [e']
        simp only [Option.bind_some]
        rw [hv, List.drop_zero]
        by_cases h4 : w.any heavyI = true
        · rw [if_pos h4, if_pos h4]
        · rw [if_neg h4, if_neg h4]
      · rw [if_neg h3, if_neg h3]
    · rw [decide_eq_false h2, if_neg (by omega)]
      simp only [mat_Mat_Right.j0]
      rw [if_pos (by decide)]
  · rw [decide_eq_false h1, if_neg (by decide), if_neg (by omega)]
    simp only [mat_Mat_Right.j0]
    rw [if_pos trivial]
theorem right_parts {r c : Int} {w : List Int} (h : rightI r c w = 0) :
    ∃ rn cn : Nat, r = (rn : Int) ∧ c = (cn : Int) ∧ 1 ≤ rn ∧ rn ≤ 64 ∧ 1 ≤ cn ∧ cn ≤ 64 ∧ w.length = rn * cn ∧ ∀ x ∈ w, -1048576 ≤ x ∧ x ≤ 1048576 := by
  unfold rightI at h
  by_cases h1 : 1 ≤ r ∧ r ≤ 64 ∧ 1 ≤ c ∧ c ≤ 64
  · rw [if_pos h1] at h
    by_cases h2 : (w.length : Int) = r * c
    · rw [if_pos h2] at h
      by_cases h3 : w.any heavyI = true
      · rw [if_pos h3] at h; omega
      · obtain ⟨rn, rfl⟩ := Int.eq_ofNat_of_zero_le (show 0 ≤ r by omega)
        obtain ⟨cn, rfl⟩ := Int.eq_ofNat_of_zero_le (show 0 ≤ c by omega)
        refine ⟨rn, cn, rfl, rfl, by omega, by omega, by omega, by omega, by exact_mod_cast h2, fun x hx => ?_⟩
        rw [Bool.not_eq_true, List.any_eq_false] at h3
        have := h3 x hx
        simp only [heavyI, Bool.or_eq_true, decide_eq_true_eq] at this
        omega
    · rw [if_neg h2] at h; omega
  · rw [if_neg h1] at h; omega
theorem right_of {r c : Nat} {w : List Int} (h1 : 1 ≤ r) (h2 : r ≤ 64) (h3 : 1 ≤ c) (h4 : c ≤ 64) (h5 : w.length = r * c) (h6 : ∀ x ∈ w, -1048576 ≤ x ∧ x ≤ 1048576) : rightI (r : Int) (c : Int) w = 0 := by
  unfold rightI
  rw [if_pos (by omega), if_pos (by rw [h5]; exact_mod_cast rfl), if_neg]
  rw [Bool.not_eq_true, List.any_eq_false]
  intro x hx
  have := h6 x hx
  simp only [heavyI, Bool.or_eq_true, decide_eq_true_eq]
  omega
/-- One of a table's rows. -/
def rowN (w : List Int) (c i : Nat) : List Int := (w.drop (i * c)).take c
theorem row_in {r c i : Nat} (hr : r ≤ 64) (hc : c ≤ 64) (hi : i < r) : i * c + c ≤ r * c ∧ r * c ≤ 4096 := by
  have h1 : (i + 1) * c ≤ r * c := Nat.mul_le_mul_right c (by omega)
  have h2 : r * c ≤ 64 * 64 := Nat.mul_le_mul hr hc
  rw [Nat.succ_mul] at h1
  omega
theorem rowN_length {w : List Int} {r c i : Nat} (hw : w.length = r * c) (hr : r ≤ 64) (hc : c ≤ 64) (hi : i < r) : (rowN w c i).length = c := by
  have := row_in hr hc hi
  unfold rowN
  rw [List.length_take, List.length_drop]
  omega
theorem mrow_eq (w : List Int) (r c i : Nat) (r' : Int) (hw : w.length = r * c) (hr : r ≤ 64) (hc : c ≤ 64) (hi : i < r) : mat_Mat_row.f r' (c : Int) w (i : Int) = some (rowN w c i) := by
  have h := row_in hr hc hi
  have e1 : wrap64 ((i : Int) * (c : Int)) = ((i * c : Nat) : Int) := by rw [← Int.natCast_mul, w64 _ (by omega) (by omega)]
  have e2 : wrap64 ((i : Int) + 1) = ((i + 1 : Nat) : Int) := by rw [w64 _ (by omega) (by omega)]; omega
  have e3 : wrap64 (((i + 1 : Nat) : Int) * (c : Int)) = ((i * c + c : Nat) : Int) := by rw [← Int.natCast_mul, Nat.succ_mul, w64 _ (by omega) (by omega)]
  unfold mat_Mat_row.f rowN
  rw [e2, e1, e3, if_pos (by omega), if_pos (by omega), if_pos (by omega), Int.toNat_natCast, Int.toNat_natCast, List.drop_take]
  congr 2
  omega
theorem rright_loop (r c : Int) (w : List Int) (hn : w.length ≤ 140737488351232) (d : Nat) : ∀ (k i : Nat), i + d = w.length → d < k →
    credenzaref17_Right.l0 k (i : Int) r c w = some (if (w.drop i).any heavyI = true then 11 else 0) := by
  induction d with
  | zero =>
    intro k i h hk
    obtain ⟨k, rfl⟩ : ∃ m, k = m + 1 := ⟨k - 1, by omega⟩
    simp only [credenzaref17_Right.l0]
    rw [if_neg (by omega), List.drop_of_length_le (by omega)]; rfl
  | succ d ih =>
    intro k i h hk
    obtain ⟨k, rfl⟩ : ∃ m, k = m + 1 := ⟨k - 1, by omega⟩
    simp only [credenzaref17_Right.l0]
    rw [if_pos (by omega), if_pos (by omega), w64_succ i w.length (by omega) hn, ih k (i + 1) (by omega) (by omega), rd_drop w i (by omega), List.any_cons]
    by_cases c1 : rd w (i : Int) < -1048576
    · rw [if_pos c1, show heavyI (rd w (i : Int)) = true from by unfold heavyI; rw [decide_eq_true c1]; rfl]; rfl
    · rw [if_neg c1]
      by_cases c2 : rd w (i : Int) > 1048576
      · rw [if_pos c2, show heavyI (rd w (i : Int)) = true from by unfold heavyI; rw [decide_eq_true c2, Bool.or_true]]; rfl
      · rw [if_neg c2, show heavyI (rd w (i : Int)) = false from by unfold heavyI; rw [decide_eq_false c1, decide_eq_false c2]; rfl]; rfl
theorem rright_eq (r c : Int) (w : List Int) (k : Nat) (hk : 4100 < k) : credenzaref17_Right.f k r c w = some (rightI r c w) := by
  obtain ⟨k, rfl⟩ : ∃ m, k = m + 1 := ⟨k - 1, by omega⟩
  unfold credenzaref17_Right.f rightI
  simp only [credenzaref17_Right.j0]
  by_cases h1 : r < 1
  · rw [if_pos h1, if_pos trivial, if_neg (by omega)]
  rw [if_neg h1]
  by_cases h2 : r > 64
  · rw [if_pos h2, if_pos trivial, if_neg (by omega)]
  rw [if_neg h2]
  by_cases h3 : c < 1
  · rw [if_pos h3, if_pos trivial, if_neg (by omega)]
  rw [if_neg h3]
  by_cases h4 : c > 64
  · rw [decide_eq_true h4, if_pos rfl, if_neg (by omega)]
  have hf := cells_few (r := r) (c := c) (by omega)
  rw [decide_eq_false h4, if_neg (by decide), if_pos (show 1 ≤ r ∧ r ≤ 64 ∧ 1 ≤ c ∧ c ≤ 64 by omega), w64 (r * c) (by omega) (by omega)]
  by_cases h5 : (w.length : Int) = r * c
  · rw [if_pos h5, if_pos h5]
    have := rright_loop r c w (by omega) w.length k 0 (by omega) (by omega)
    rw [List.drop_zero] at this
    exact this
  · rw [if_neg h5, if_neg h5]
theorem rrow_eq (w : List Int) (r c i : Nat) (r' : Int) (hw : w.length = r * c) (hr : r ≤ 64) (hc : c ≤ 64) (hi : i < r) : credenzaref17_Row.f r' (c : Int) w (i : Int) = some (rowN w c i) := by
  have h := row_in hr hc hi
  have e1 : wrap64 ((i : Int) * (c : Int)) = ((i * c : Nat) : Int) := by rw [← Int.natCast_mul, w64 _ (by omega) (by omega)]
  have e3 : wrap64 (((i * c : Nat) : Int) + (c : Int)) = ((i * c + c : Nat) : Int) := by rw [← Int.natCast_add, w64 _ (by omega) (by omega)]
  unfold credenzaref17_Row.f rowN
  rw [e1, e3, if_pos (by omega), if_pos (by omega), if_pos (by omega), Int.toNat_natCast, Int.toNat_natCast, List.drop_take]
  congr 2
  omega
theorem mRow_in (w : List Int) (r c i : Nat) (h1 : 1 ≤ r) (hr : r ≤ 64) (h3 : 1 ≤ c) (hc : c ≤ 64) (hw : w.length = r * c) (hm : ∀ y ∈ w, -1048576 ≤ y ∧ y ≤ 1048576) (hi : i < r) (k : Nat) (hk : 4100 < k) : mat_Mat_Row.f k (r : Int) (c : Int) w (i : Int) = some (rowN w c i) := by
  obtain ⟨k, rfl⟩ : ∃ m, k = m + 1 := ⟨k - 1, by omega⟩
  have hl := rowN_length hw hr hc hi
  have hcl : slices_Clone_int32_int32.f (rowN w c i) = some (rowN w c i) := by
    unfold slices_Clone_int32_int32.f
    rw [Option.bind_some, List.length_nil, List.nil_append, if_pos (by omega)]
  unfold mat_Mat_Row.f
  rw [if_neg (by omega), if_neg (by omega), right_eq _ _ w (k + 1) hk, right_of h1 hr h3 hc hw hm, Option.bind_some]
  simp only [mat_Mat_Row.j0]
  rw [if_neg (by decide), mrow_eq w r c i _ hw hr hc hi, Option.bind_some, hcl, Option.bind_some]
theorem mRow_out (w : List Int) (r c i : Int) (hi : i < 0 ∨ i ≥ r) (k : Nat) (hk : 1 ≤ k) : mat_Mat_Row.f k r c w i = some [] := by
  obtain ⟨k, rfl⟩ : ∃ m, k = m + 1 := ⟨k - 1, by omega⟩
  unfold mat_Mat_Row.f
  simp only [mat_Mat_Row.j0]
  rw [if_pos trivial]
  by_cases h : i < 0
  · rw [if_pos h]
  · rw [if_neg h, if_pos (by omega)]
end Cz

theorem rd_setN (l : List Int) (p q : Nat) (v : Int) (hp : p < l.length) : rd (l.set p v) (q : Int) = if p = q then v else rd l (q : Int) := by
  unfold rd
  rw [Int.toNat_natCast, List.getD_eq_getElem?_getD, List.getD_eq_getElem?_getD, List.getElem?_set]
  by_cases h : p = q
  · rw [if_pos h, if_pos h, if_pos hp]; rfl
  · rw [if_neg h, if_neg h]
theorem cell_at (i c j r : Nat) (hr : r ≤ 64) (hc : c ≤ 64) (hi : i < r) (hj : j < c) : wrap64 (wrap64 ((i : Int) * (c : Int)) + (j : Int)) = ((i * c + j : Nat) : Int) ∧ i * c + j < r * c := by
  have hin := Cz.row_in hr hc hi
  rw [← Int.natCast_mul]
  generalize i * c = m at *
  generalize r * c = n at *
  rw [Cz.w64 (m : Int) (by omega) (by omega), Cz.w64 _ (by omega) (by omega)]
  omega
theorem rj1 (k : Nat) (x1 : Int) (x5 : List Int) (x28 : Bool) (x475000 x475001 : Int) (x475002 : List Int) : credenzalaw17_MatRows.j1 (k + 1) x1 x5 x28 x475000 x475001 x475002 = if x28 = true then (if (x5.length : Int) = 0 then ((credenzalaw17_awake.f k).bind fun t485 => (some t485)) else (some false)) else ((credenzalaw17_ref.f x475000 x475001 x475002).bind fun bt486 => ((credenzaref17_Row.f bt486.1 bt486.2.1 bt486.2.2 x1).bind fun t491 => ((credenzaref03_Same.f k x5 t491).bind fun t494 => (if t494 = true then (credenzalaw17_MatRows.l0 k x1 x5 (x5.length : Int) 0 x475000 x475001 x475002) else (some false))))) := rfl
theorem ref17 (a b : Int) (l : List Int) : credenzalaw17_ref.f a b l = some (a, b, l) := rfl
theorem rl0 (k : Nat) (x1 : Int) (x5 : List Int) (x43 x44 x475000 x475001 : Int) (x475002 : List Int) : credenzalaw17_MatRows.l0 (k + 1) x1 x5 x43 x44 x475000 x475001 x475002 = if x44 < x43 then (if 0 ≤ x44 then (if x44 < (x5.length : Int) then ((some (x5.set (x44 : Int).toNat (wrap32 ((rd x5 x44) + 1)) : List Int)).bind fun y496 => (if 0 ≤ (wrap64 ((wrap64 (x1 * x475001)) + x44)) then (if (wrap64 ((wrap64 (x1 * x475001)) + x44)) < (x475002.length : Int) then (if (rd x475002 (wrap64 ((wrap64 (x1 * x475001)) + x44))) = (rd y496 x44) then (some false) else (credenzalaw17_MatRows.l0 k x1 y496 x43 (wrap64 (x44 + 1)) x475000 x475001 x475002)) else (none)) else (none))) else (none)) else (none)) else ((credenzalaw17_awake.f k).bind fun t499 => (some t499)) := rfl
theorem rows_loop (w : List Int) (r c i : Nat) (hr : r ≤ 64) (hc : c ≤ 64) (hw : w.length = r * c) (hi : i < r) (aw : ∀ k, 1200 ≤ k → credenzalaw17_awake.f k = some true) (d : Nat) : ∀ (k j : Nat) (y : List Int), j + d = c → d + 1300 < k → y.length = c → (∀ q : Nat, j ≤ q → q < c → rd y (q : Int) = rd w ((i * c + q : Nat) : Int)) →
    credenzalaw17_MatRows.l0 k (i : Int) y (c : Int) (j : Int) (r : Int) (c : Int) w = some true := by
  induction d with
  | zero =>
    intro k j y h hk hy ho
    obtain ⟨k, rfl⟩ : ∃ m, k = m + 1 := ⟨k - 1, by omega⟩
    rw [rl0, if_neg (by omega), aw k (by omega), Option.bind_some]
  | succ d ih =>
    intro k j y h hk hy ho
    obtain ⟨k, rfl⟩ : ∃ m, k = m + 1 := ⟨k - 1, by omega⟩
    obtain ⟨e1, e2⟩ := cell_at i c j r hr hc hi (by omega)
    have hj := ho j (Nat.le_refl _) (by omega)
    rw [rl0, Option.bind_some, if_pos (by omega), if_pos (by omega), if_pos (by omega), e1, if_pos (Int.natCast_nonneg _), if_pos (by rw [hw]; exact_mod_cast e2), Cz.w64_succ j c (by omega) (by omega), Int.toNat_natCast, rd_setN _ _ _ _ (by omega), if_pos (Eq.refl j), hj, if_neg (by unfold wrap32; omega)]
    refine ih k (j + 1) _ (by omega) (by omega) (by rw [List.length_set]; exact hy) (fun q h1 h2 => ?_)
    rw [rd_setN _ _ _ _ (by omega), if_neg (by omega)]
    exact ho q (by omega) h2
theorem MatRows : ∀ (a0_0 a0_1 : Int) (l0_2 : List Int) (a1 : Int), (Lit.int .i64 a0_0).wf = true → (Lit.int .i64 a0_1).wf = true → l0_2.length ≤ maxLen → (∀ x ∈ l0_2, (Lit.int .i32 x).wf = true) → (Lit.int .i64 a1).wf = true → ∃ k, credenzalaw17_MatRows.f k a0_0 a0_1 l0_2 a1 = some true := by
  intro r c w i _ _ _ hw _
  have aw : credenzalaw17_awake.f 1200 = some true := by decide +kernel
  have awk := fun k (hk : 1200 ≤ k) => Cz.up credenzalaw17_awake.mono aw hk
  suffices key : ∀ k, 6000 ≤ k → credenzalaw17_MatRows.f (k + 3) r c w i = some true from ⟨6000 + 3, key 6000 (Nat.le_refl _)⟩
  intro k hk
  clear aw
  have Jt : credenzalaw17_MatRows.j0 (k + 3) i true r c w = some true := by
    simp only [credenzalaw17_MatRows.j0]
    rw [if_pos trivial, awk _ (by omega)]; rfl
  unfold credenzalaw17_MatRows.f
  by_cases c0 : (w.length : Int) > 5000
  · rw [if_pos c0]; exact Jt
  rw [if_neg c0]
  simp only [credenzalaw17_ref.f, Option.bind_some]
  rw [Cz.rright_eq r c w (k + 3) (by omega)]
  simp only [Option.bind_some]
  by_cases h0 : Cz.rightI r c w = 0
  · rw [h0]
    obtain ⟨rn, cn, rfl, rfl, h1, h2, h3, h4, h5, h6⟩ := Cz.right_parts h0
    simp only [show ((0 : Int) != 0) = false from rfl, credenzalaw17_MatRows.j0]
    rw [if_neg (by decide)]
    have J1 : credenzalaw17_MatRows.j1 (k + 2) i [] true (rn : Int) (cn : Int) w = some true := by
      simp only [credenzalaw17_MatRows.j1]
      rw [if_pos trivial, if_pos (by decide), awk _ (by omega)]; rfl
    by_cases c1 : i < 0
    · rw [Cz.mRow_out w _ _ i (Or.inl c1) (k + 2) (by omega)]
      simp only [Option.bind_some]
      rw [if_pos c1]; exact J1
    by_cases c2 : i ≥ (rn : Int)
    · rw [Cz.mRow_out w _ _ i (Or.inr c2) (k + 2) (by omega)]
      simp only [Option.bind_some]
      rw [if_neg c1, decide_eq_true c2]; exact J1
    obtain ⟨j, rfl⟩ := Int.eq_ofNat_of_zero_le (show 0 ≤ i by omega)
    have hlen := Cz.rowN_length h5 h2 h4 (show j < rn by omega)
    rw [Cz.mRow_in w rn cn j h1 h2 h3 h4 h5 h6 (by omega) (k + 2) (by omega)]
    simp only [Option.bind_some]
    rw [if_neg c1, decide_eq_false c2]
    rw [rj1, if_neg (by decide), ref17, Option.bind_some, Cz.rrow_eq w rn cn j _ h5 h2 h4 (by omega)]
    simp only [Option.bind_some]
    rw [Cz.same_self _ (by omega) (k + 1) (by omega)]
    simp only [Option.bind_some]
    rw [if_pos trivial, hlen]
    refine rows_loop w rn cn j h2 h4 h5 (by omega) awk cn (k + 1) 0 _ (by omega) (by omega) hlen (fun q _ hq => ?_)
    unfold rd Cz.rowN
    rw [Int.toNat_natCast, Int.toNat_natCast, List.getD_eq_getElem?_getD, List.getD_eq_getElem?_getD, List.getElem?_take, if_pos hq, List.getElem?_drop]
  · rw [show (Cz.rightI r c w != 0) = true from by simp [h0]]
    exact Jt

end Go.Proofs.Ytmndomlpdajjmab.Pure
