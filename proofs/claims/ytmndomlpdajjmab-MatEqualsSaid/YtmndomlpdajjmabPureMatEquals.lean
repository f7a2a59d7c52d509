/- Two tables are one just if all of both is the same. No condition: for every input. -/
import Derived.Test.YtmndomlpdajjmabMx1
import Derived.Test.YtmndomlpdajjmabMx3
import Derived.Test.YtmndomlpdajjmabMx4
import Derived.Test.YtmndomlpdajjmabMx7
set_option linter.unusedVariables false
set_option linter.unusedSimpArgs false
namespace Go.Proofs.Ytmndomlpdajjmab.Pure
open Go.RowKit Go.Proofs.Ytmndomlpdajjmab.M Go.Proofs.YtmndomlpdajjmabW.PrintWords Go.Proofs.YtmndomlpdajjmabW.PrintLast
namespace Cz
theorem w64 (x : Int) (h0 : -9223372036854775808 ≤ x) (h1 : x ≤ 9223372036854775807) : wrap64 x = x := by unfold wrap64; omega
theorem up {α : Type} {f : Nat → Option α} (hm : ∀ k, LeO (f k) (f (k + 1))) {k0 : Nat} {r : α} (h : f k0 = some r) {k : Nat} (hk : k0 ≤ k) : f k = some r := by
  obtain ⟨d, rfl⟩ : ∃ d, k = k0 + d := ⟨k - k0, by omega⟩
  clear hk
  induction d with
  | zero => exact h
  | succ d ih => exact hm _ _ ih
theorem rd_drop (l : List Int) (i : Nat) (h : i < l.length) : l.drop i = rd l (i : Int) :: l.drop (i + 1) := by
  rw [List.drop_eq_getElem_cons h]
  congr 1
  unfold rd
  rw [Int.toNat_natCast, List.getD_eq_getElem?_getD, List.getElem?_eq_getElem h]
  rfl
theorem w64_succ (i n : Nat) (h : i < n) (hn : n ≤ 140737488351232) : wrap64 ((i : Int) + 1) = ((i + 1 : Nat) : Int) := by
  rw [w64 _ (by omega) (by omega)]; omega
theorem same_loop (a b : List Int) (hab : a.length = b.length) (hn : a.length ≤ 140737488351232) (d : Nat) : ∀ (k i : Nat), i + d = a.length → d < k →
    credenzaref03_Same.l0 k a b (i : Int) = some (decide (a.drop i = b.drop i)) := by
  induction d with
  | zero =>
    intro k i h hk
    obtain ⟨k, rfl⟩ : ∃ m, k = m + 1 := ⟨k - 1, by omega⟩
    simp only [credenzaref03_Same.l0]
    rw [if_neg (by omega), List.drop_of_length_le (by omega : a.length ≤ i), List.drop_of_length_le (by omega : b.length ≤ i)]
    simp
  | succ d ih =>
    intro k i h hk
    obtain ⟨k, rfl⟩ : ∃ m, k = m + 1 := ⟨k - 1, by omega⟩
    simp only [credenzaref03_Same.l0]
    rw [if_pos (by omega), if_pos (by omega), if_pos (by omega), w64_succ i a.length (by omega) hn, ih k (i + 1) (by omega) (by omega), rd_drop a i (by omega), rd_drop b i (by omega)]
    by_cases c : rd a (i : Int) = rd b (i : Int)
    · rw [if_pos c, c]; simp
    · rw [if_neg c]; simp [c]
theorem same_eq (a b : List Int) (hn : a.length ≤ 140737488351232) (k : Nat) (hk : a.length < k) : credenzaref03_Same.f k a b = some (decide (a = b)) := by
  unfold credenzaref03_Same.f
  by_cases h : (a.length : Int) = (b.length : Int)
  · rw [if_pos h]
    have := same_loop a b (by omega) hn a.length k 0 (by omega) hk
    rwa [List.drop_zero, List.drop_zero] at this
  · rw [if_neg h, decide_eq_false (fun e => h (by rw [e]))]
theorem eq_loop (a b : List Int) (hab : a.length = b.length) (hn : a.length ≤ 140737488351232) (d : Nat) : ∀ (k i : Nat), i + d = a.length → d < k →
    slices_Equal_int32_int32.l0 k a b (a.length : Int) (i : Int) = some (decide (a.drop i = b.drop i)) := by
  induction d with
  | zero =>
    intro k i h hk
    obtain ⟨k, rfl⟩ : ∃ m, k = m + 1 := ⟨k - 1, by omega⟩
    simp only [slices_Equal_int32_int32.l0]
    rw [if_neg (by omega), List.drop_of_length_le (by omega : a.length ≤ i), List.drop_of_length_le (by omega : b.length ≤ i)]
    simp
  | succ d ih =>
    intro k i h hk
    obtain ⟨k, rfl⟩ : ∃ m, k = m + 1 := ⟨k - 1, by omega⟩
    simp only [slices_Equal_int32_int32.l0]
    rw [if_pos (by omega), if_pos (by omega), if_pos (by omega), if_pos (by omega), w64_succ i a.length (by omega) hn, ih k (i + 1) (by omega) (by omega), rd_drop a i (by omega), rd_drop b i (by omega)]
    by_cases c : rd a (i : Int) = rd b (i : Int)
    · rw [if_pos c, c]; simp
    · rw [if_neg c]; simp [c]
theorem eq_eq (a b : List Int) (hn : a.length ≤ 140737488351232) (k : Nat) (hk : a.length < k) : slices_Equal_int32_int32.f k a b = some (decide (a = b)) := by
  unfold slices_Equal_int32_int32.f
  by_cases h : (a.length : Int) = (b.length : Int)
  · rw [if_pos h]
    have := eq_loop a b (by omega) hn a.length k 0 (by omega) hk
    rwa [List.drop_zero, List.drop_zero] at this
  · rw [if_neg h, decide_eq_false (fun e => h (by rw [e]))]
def mateqB (r c : Int) (w : List Int) (s e : Int) (v : List Int) : Bool := decide (r = s) && (decide (c = e) && decide (w = v))
theorem mateq_eq (r c : Int) (w : List Int) (s e : Int) (v : List Int) (hn : w.length ≤ 140737488351232) (k : Nat) (hk : w.length < k) : mat_Equal.f k r c w s e v = some (mateqB r c w s e v) := by
  unfold mat_Equal.f mateqB
  rw [eq_eq w v hn k hk]
  by_cases h1 : r = s
  · rw [if_pos h1, decide_eq_true h1]
    by_cases h2 : c = e
    · rw [if_pos h2, decide_eq_true h2]; rfl
    · rw [if_neg h2, decide_eq_false h2]; rfl
  · rw [if_neg h1, decide_eq_false h1]; rfl
theorem rmateq_eq (r c : Int) (w : List Int) (s e : Int) (v : List Int) (hn : w.length ≤ 140737488351232) (k : Nat) (hk : w.length < k) : credenzaref17_Same.f k r c w s e v = some (mateqB r c w s e v) := by
  unfold credenzaref17_Same.f mateqB
  rw [same_eq w v hn k hk]
  by_cases h1 : r = s
  · rw [if_pos h1, decide_eq_true h1]
    by_cases h2 : c = e
    · rw [if_pos h2, decide_eq_true h2]; rfl
    · rw [if_neg h2, decide_eq_false h2]; rfl
  · rw [if_neg h1, decide_eq_false h1]; rfl
theorem mateq_comm (r c : Int) (w : List Int) (s e : Int) (v : List Int) : mateqB s e v r c w = mateqB r c w s e v := by
  unfold mateqB
  rw [decide_eq_decide.mpr (eq_comm : s = r ↔ r = s), decide_eq_decide.mpr (eq_comm : e = c ↔ c = e), decide_eq_decide.mpr (eq_comm : v = w ↔ w = v)]
end Cz

theorem MatEquals : ∀ (a0_0 a0_1 : Int) (l0_2 : List Int) (a1_0 a1_1 : Int) (l1_2 : List Int), (Lit.int .i64 a0_0).wf = true → (Lit.int .i64 a0_1).wf = true → l0_2.length ≤ maxLen → (∀ x ∈ l0_2, (Lit.int .i32 x).wf = true) → (Lit.int .i64 a1_0).wf = true → (Lit.int .i64 a1_1).wf = true → l1_2.length ≤ maxLen → (∀ x ∈ l1_2, (Lit.int .i32 x).wf = true) → ∃ k, credenzalaw17_MatEquals.f k a0_0 a0_1 l0_2 a1_0 a1_1 l1_2 = some true := by
  intro r c w s e v _ _ _ _ _ _ _ _
  have aw : credenzalaw17_awake.f 1200 = some true := by decide +kernel
  have awk := fun k (hk : 1200 ≤ k) => Cz.up credenzalaw17_awake.mono aw hk
  refine ⟨9003, ?_⟩
  have Jt : credenzalaw17_MatEquals.j0 9003 true r c w s e v = some true := by
    simp only [credenzalaw17_MatEquals.j0]
    rw [if_pos trivial, awk _ (by omega)]; rfl
  unfold credenzalaw17_MatEquals.f
  by_cases c0 : (w.length : Int) > 5000
  · rw [if_pos c0]; exact Jt
  rw [if_neg c0]
  by_cases c1 : (v.length : Int) > 5000
  · rw [decide_eq_true c1]; exact Jt
  rw [decide_eq_false c1]
  simp only [credenzalaw17_MatEquals.j0, credenzalaw17_ref.f, Option.bind_some]
  rw [if_neg (by decide), Cz.mateq_eq r c w s e v (by omega) 9002 (by omega), Cz.mateq_eq s e v r c w (by omega) 9002 (by omega), Cz.rmateq_eq r c w s e v (by omega) 9002 (by omega), Cz.mateq_comm r c w s e v, awk 9002 (by omega)]
  simp

end Go.Proofs.Ytmndomlpdajjmab.Pure
