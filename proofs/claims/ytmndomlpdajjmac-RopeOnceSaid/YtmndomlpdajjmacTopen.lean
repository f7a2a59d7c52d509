/- What a row hands in, read: a slice of turns; a slice of numbers lies in a block that is there. -/
import Derived.Deep.SlicePairs
import Derived.Test.YtmndomlpdajjmacKopen
import Derived.Test.YtmndomlpdajjmacRtx0
namespace Go.Proofs.Ytmndomlpdajjmac.Topen
open Go.Deep Go.ChangeShapes Go.WideShapes Go.ChangeAt Go.RowKit Go.Proofs.YtmndomlpdajjmacW.PrintWords Go.Proofs.Ytmndomlpdajjmac.Rt
set_option linter.unusedVariables false
theorem ints_lt {k : IntKind} {w : World} {A : Option Addr} {xs : List Int} (h : Kd.C (Kd.int k) w A xs.length xs) : 0 < xs.length → ∀ ad, A = some ad → ad.block < w.heap.size := by
  intro hn ad e
  subst e
  obtain ⟨ad', e, hc⟩ := Kd.at_int h 0 (by omega) (by omega)
  injection e with e
  subst e
  rw [show (0 : Int).toNat = 0 from rfl, Addr.add_zero'] at hc
  exact World.block_lt_of_cell? w _ hc
section
variable {H : Type} {enc : TypeId × Value → H} {w : World} {base : Nat} {held : Bool}
theorem turns_C {fuel : Nat} {v : Value} {x : DataW H × List MemPlace} (h : DataW.trod enc Try.prog w base (fun _ => true) held fuel 42 [v] = some x) :
    ∃ (A : Option Addr) (c : Nat) (l : List S54), v = .slice A l.length c ∧ l.length ≤ c ∧ l.length ≤ maxLen ∧ Kd.C k54 w A l.length l := by
  rcases open_slice_pairs Try.underlying42 Try.underlying54 (by kernel_rfl) rfl rfl (by kernel_rfl) (by kernel_rfl) h with ⟨hcs, _⟩ | ⟨a, len, cap, m, n, V0, V1, D0, D1, P0, P1, hcs, _, hl, hm, hmm, _, hr⟩
  · have hv : v = .slice none 0 0 := by simpa using hcs
    exact ⟨none, 0, [], hv, Nat.le_refl _, Nat.zero_le _, Kd.C_nil _ _⟩
  · have hv : v = .slice (some a) len cap := by simpa using hcs
    subst hv
    have hmc : m = cap := by rw [hmm]; rfl
    have each : ∀ i, i < m → ∃ t : Int × Int, V0 i = .int .i32 t.1 ∧ V1 i = .int .i32 t.2 := by
      intro i hi
      obtain ⟨_, _, h0, h1⟩ := hr i hi
      obtain ⟨x0, e0, _⟩ := DataW.trod_int Try.underlying21 h0
      obtain ⟨x1, e1, _⟩ := DataW.trod_int Try.underlying21 h1
      exact ⟨(x0, x1), by simpa using e0, by simpa using e1⟩
    obtain ⟨T, hT⟩ := choose_lt each
    have hlen : ((List.range len).map fun i => (⟨(T i).1, (T i).2⟩ : S54)).length = len := by rw [List.length_map, List.length_range]
    refine ⟨some a, cap, (List.range len).map fun i => ⟨(T i).1, (T i).2⟩, by rw [hlen], by rw [hlen]; exact hl, by rw [hlen]; omega, ?_⟩
    refine ⟨rfl, by rw [hlen]; unfold maxLen at hm; omega, fun _ => ⟨a, rfl, fun j p hj => ?_⟩⟩
    have hjl : j < len := by have := (List.getElem?_eq_some_iff.1 hj).1; omega
    have hp : (⟨(T j).1, (T j).2⟩ : S54) = p := by
      rw [List.getElem?_map, List.getElem?_range hjl] at hj
      simpa using hj
    subst hp
    obtain ⟨h0, h1, _, _⟩ := hr j (by omega)
    obtain ⟨e0, e1⟩ := hT j (by omega)
    rw [e0] at h0
    rw [e1] at h1
    refine ⟨[.int .i32 (T j).1, .int .i32 (T j).2], rfl, k54_mk w _, fun i u hu => ?_⟩
    match i, hu with
    | 0, hu =>
      have : Value.int .i32 (T j).1 = u := by simpa using hu
      subst this
      exact h0
    | 1, hu =>
      have : Value.int .i32 (T j).2 = u := by simpa using hu
      subst this
      exact h1
    | i + 2, hu => simp at hu
end
end Go.Proofs.Ytmndomlpdajjmac.Topen
