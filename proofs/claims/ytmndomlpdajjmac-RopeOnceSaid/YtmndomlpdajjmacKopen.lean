/- What a row hands in, read: slices of whole numbers and slices of these, as the printed texts take them. No program. -/
import Derived.Deep.Matrix
import Derived.Lib.SmallJoins
import Derived.ProofKit
import Derived.OpenShut
import Derived.Test.YtmndomlpdajjmacWWords
namespace Go.Proofs.Ytmndomlpdajjmac.Kopen
open Go.Deep Go.ChangeShapes Go.WideShapes Go.ChangeAt Go.RowKit Go.Proofs.YtmndomlpdajjmacW.PrintWords
set_option linter.unusedVariables false
section
variable {H : Type} {enc : TypeId × Value → H} {P : Program} {w : World} {base : Nat} {held : Bool}
theorem ints_C {t e : TypeId} {k : IntKind} {fuel : Nat} {v : Value} {x : DataW H × List MemPlace} (ht : P.underlying t = some (.slice e)) (he : P.underlying e = some (.int k)) (hc : P.cellsOf e = 1)
    (h : DataW.trod enc P w base (fun _ => true) held fuel t [v] = some x) :
    ∃ (A : Option Addr) (c : Nat) (l : List Int), v = .slice A l.length c ∧ l.length ≤ c ∧ l.length ≤ maxLen ∧ (Kd.int k).C w A l.length l ∧ ∀ n ∈ l, (Lit.int k n).wf = true := by
  rcases open_ints ht he hc h with ⟨hcs, _⟩ | ⟨a, len, cap, zs, hcs, _, hl, hm, hz, _, hcell, hwz⟩
  · have hv : v = .slice none 0 0 := by simpa using hcs
    exact ⟨none, 0, [], hv, Nat.le_refl _, Nat.zero_le _, Kd.C_nil _ _, fun n hn => by cases hn⟩
  · have hv : v = .slice (some a) len cap := by simpa using hcs
    subst hv
    obtain ⟨l, rfl, hr, hm', hw, hc'⟩ := ReadsInt.ofRowC (k := k) (w := w) (a := some a) (len := len) (cap := cap) (zs := zs) (.inr ⟨a, rfl, hl, hm, by simpa using hz, hcell, hwz⟩)
    exact ⟨some a, cap, l, rfl, hc', hm', Kd.C_of_reads (d := (0 : Int)) (h1 := fun _ => rfl) hr, hw⟩
theorem rows_C {t e q : TypeId} {k : IntKind} {fuel : Nat} {v : Value} {x : DataW H × List MemPlace} (ht : P.underlying t = some (.slice e)) (he : P.underlying e = some (.slice q)) (hq : P.underlying q = some (.int k)) (ce : P.cellsOf e = 1) (cq : P.cellsOf q = 1)
    (h : DataW.trod enc P w base (fun _ => true) held fuel t [v] = some x) :
    ∃ (A : Option Addr) (c : Nat) (l : List (List Int)), v = .slice A l.length c ∧ l.length ≤ c ∧ l.length ≤ maxLen ∧ (Kd.slice q (Kd.int k)).C w A l.length l ∧ ∀ y ∈ l, y.length ≤ maxLen ∧ ∀ n ∈ y, (Lit.int k n).wf = true := by
  rcases open_int_rows ht he hq ce cq h with ⟨hcs, _⟩ | ⟨a, len, cap, A, L, C, Z, hcs, _, hl, hm, _, hr⟩
  · have hv : v = .slice none 0 0 := by simpa using hcs
    exact ⟨none, 0, [], hv, Nat.le_refl _, Nat.zero_le _, Kd.C_nil _ _, fun n hn => by cases hn⟩
  · have hv : v = .slice (some a) len cap := by simpa using hcs
    subst hv
    have each : ∀ r, r < cap → ∃ l : List Int, L r = l.length ∧ w.cell? (a.add r) = some (.slice (A r) l.length (C r)) ∧ l.length ≤ C r ∧ l.length ≤ maxLen ∧ (Kd.int k).C w (A r) l.length l ∧ ∀ n ∈ l, (Lit.int k n).wf = true := by
      intro r hrc
      obtain ⟨h1, h2, h3, h4, h5, h6, h7⟩ := hr r hrc
      have hrow : (A r = none ∧ L r = 0 ∧ C r = 0 ∧ Z r = []) ∨ ∃ x, A r = some x ∧ L r ≤ C r ∧ C r ≤ maxLen ∧ (Z r).length = C r ∧ (∀ i, i < (Z r).length → w.cell? (x.add i) = some (.int k ((Z r).getD i 0))) ∧ ∀ n ∈ Z r, (Lit.int k n).wf = true := by
        cases hA : A r with
        | none =>
          have hC := h6 hA
          exact .inl ⟨rfl, by omega, hC, List.eq_nil_of_length_eq_zero (by omega)⟩
        | some x => exact .inr ⟨x, rfl, h2, h3, h4, fun i hi => (h7 x hA).2 i (by omega), h5⟩
      obtain ⟨l, e, hr', hm', hw, hc'⟩ := ReadsInt.ofRowC hrow
      exact ⟨l, e, by rw [← e]; exact h1, hc', hm', Kd.C_of_reads (d := (0 : Int)) (h1 := fun _ => rfl) hr', hw⟩
    obtain ⟨F, hF⟩ := choose_lt each
    refine ⟨some a, cap, (List.range len).map F, by rw [List.length_map, List.length_range], by rw [List.length_map, List.length_range]; exact hl, by rw [List.length_map, List.length_range]; omega, ?_, ?_⟩
    · have hlen : ((List.range len).map F).length = len := by rw [List.length_map, List.length_range]
      refine ⟨rfl, by rw [hlen]; unfold maxLen at hm; omega, fun _ => ⟨a, rfl, fun j p hj => ?_⟩⟩
      have hjl : j < len := by have := (List.getElem?_eq_some_iff.1 hj).1; omega
      have hp : F j = p := by
        rw [List.getElem?_map, List.getElem?_range hjl] at hj
        simpa using hj
      subst hp
      obtain ⟨g1, g2, g3, g4, g5, g6⟩ := hF j (by omega)
      refine ⟨[.slice (A j) (F j).length (C j)], rfl, ⟨A j, C j, rfl, g3, g5⟩, fun i u hu => ?_⟩
      cases i with
      | zero =>
        have : Value.slice (A j) (F j).length (C j) = u := by simpa using hu
        subst this
        rw [show j * (Kd.slice q (Kd.int k)).sz + 0 = j from by show j * 1 + 0 = j; omega]
        exact g2
      | succ i => simp at hu
    · intro y hy
      obtain ⟨j, hj, rfl⟩ := List.mem_map.mp hy
      obtain ⟨g1, g2, g3, g4, g5, g6⟩ := hF j (by have := List.mem_range.mp hj; omega)
      exact ⟨g4, g6⟩
end
end Go.Proofs.Ytmndomlpdajjmac.Kopen
