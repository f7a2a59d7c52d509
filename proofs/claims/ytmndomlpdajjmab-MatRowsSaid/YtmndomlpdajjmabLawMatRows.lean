-- Ytmndomlpdajjmab: the row MatRows: its parameters opened by hand, its walk the printed text's.
import Derived.Test.YtmndomlpdajjmabRows
import Derived.Test.YtmndomlpdajjmabMx6
import Derived.Test.YtmndomlpdajjmabPureMatRows
import Derived.Test.YtmndomlpdajjmabKopen
import Derived.WalkKit
import Derived.ProofKit
import Derived.OpenShut
import Derived.ShutString
import Derived.ChangeOld
import Derived.Below
import Derived.SizedLaws
namespace Go.Proofs.Ytmndomlpdajjmab.matRows
open Go.ChangeShapes Go.WideShapes Go.ChangeAt Go.RowKit
set_option linter.unusedVariables false
theorem own : ownKnob Try.prog.godebug = none := by kernel_rfl
theorem laidOut : laidOutB Try.prog = true := by kernel_rfl
set_option maxRecDepth 100000 in
theorem lifted (os : Os) (started : os.Started) (H : Type) (enc : TypeId × Value → H) :
    ReturnsInHanded {} Try.checked os 9 .any (Rows.matRowsSpec.pre6 enc Try.prog Try.f9 Rows.matRowsRow.domain false) (Rows.matRowsSpec.post enc Try.prog Try.f9 false true false false) := by
  refine returnsInHanded_of_change_sized (C := Try.checked) own started (by kernel_rfl) Try.func9
    (ChangeSpec.witness6 (enc := enc) (C := Try.checked) false ⟨#[], #[.agg #[.int .i64 0, .int .i64 0, .slice none 0 0], .int .i64 0], []⟩ 8 (by kernel_rfl) (by kernel_rfl) (by kernel_rfl) (by kernel_rfl)) ?_
  intro W base args ds gs before hval0 hW hcnd hsz0 _
  have hval : ∀ (j : Nat) t v, Try.f9.params[j]? = some t → args[j]? = some v → Value.okWide Try.prog W .any base t v := hval0
  have hW' := hW
  obtain ⟨p, q, hA0, hV, rfl, hfz, hnd⟩ := hW
  have hA : DataW.TrodAll enc Try.prog W 0 (fun _ => true) true Try.f9.params.toList args.toList ds p := hA0
  rw [Try.params9] at hA hval
  obtain ⟨v0, vs0, d0, ds0, p0, q0, hargs, rfl, rfl, h0, r0⟩ := trodAll_cons hA
  obtain ⟨v1, vs1, d1, ds1, p1, q1, rfl, rfl, rfl, h1, r1⟩ := trodAll_cons r0
  obtain ⟨rfl, rfl, rfl⟩ := trodAll_nil r1
  obtain rfl : args = #[v0, v1] := by cases args; simp_all
  obtain ⟨rfl, rfl⟩ := trodVars_none hV
  clear hA0 hval0 hsz0
  have k0 := h0
  have lt0 : ∀ x ∈ p0, x.block < W.heap.size := by obtain ⟨m, hm⟩ := k0; exact DataW.trod_lt m _ _ _ hm
  obtain ⟨u0_0, u0_1, u0_2, y0_0, y0_1, y0_2, m0, hv0, _, _, g0_0, g0_1, g0_2⟩ := Go.Joins.open_agg3 Try.underlying43 (by kernel_rfl) (by kernel_rfl) (hval 0 43 v0 rfl rfl) h0
  obtain ⟨a0_0, e0_0, _, x0_0⟩ := DataW.trod_int Try.underlying3 g0_0
  obtain ⟨a0_1, e0_1, _, x0_1⟩ := DataW.trod_int Try.underlying3 g0_1
  obtain ⟨A0_2, c0_2, l0_2, s0_2, hc0_2, hm0_2, hr0_2, hw0_2⟩ := Kopen.ints_C Try.underlying22 Try.underlying21 (by kernel_rfl) g0_2
  simp only [List.cons.injEq, and_true] at e0_0 e0_1
  subst e0_0 e0_1 s0_2 hv0
  have k1 := h1
  have lt1 : ∀ x ∈ p1, x.block < W.heap.size := by obtain ⟨m, hm⟩ := k1; exact DataW.trod_lt m _ _ _ hm
  obtain ⟨a1, z1, _, _, x1⟩ := open_int Try.underlying3 (hval 1 3 v1 rfl rfl) h1
  subst z1
  obtain ⟨k, hk⟩ := Pure.MatRows a0_0 a0_1 l0_2 a1 x0_0 x0_1 hm0_2 hw0_2 x1
  refine (M.credenzalaw17_MatRows.calls k a0_0 a0_1 A0_2 c0_2 l0_2 a1 true W hr0_2 hc0_2 hk rfl).mono fun e W' ⟨he, bel⟩ => ?_
  subst he
  exact ⟨_, rfl, _, _, _, [], _, [], hW', trodAll_mk1 (shut_bool Try.underlying4 _), (trodAll_cons_mk (Below.trod laidOut (by kernel_rfl) (of_decide_eq_true (by kernel_rfl)) k0 bel lt0) (trodAll_cons_mk (Below.trod laidOut (by kernel_rfl) (of_decide_eq_true (by kernel_rfl)) k1 bel lt1) trodAll_mk0)), rfl, bel.frame _, fun h => by cases h⟩
theorem over : Rows.matRowsRow.holds Try.pinned (OpenSpec.ofChange Rows.matRowsSpec) :=
  OpenClaim.holds_of_wide 9 Try.f9 rfl rfl rfl rfl rfl rfl rfl ⟨rfl, rfl, rfl, rfl, rfl⟩ rfl rfl rfl rfl rfl (by kernel_rfl) Try.func9 (by kernel_rfl)
    (of_decide_eq_true (by kernel_rfl)) (by unfold Func.isWrapper; first | (rw [if_pos (by decide +kernel)]; kernel_rfl) | (rw [if_neg (by decide +kernel)]; exact ⟨rfl, rfl⟩))
    (fun os started H enc _ => lifted os started H enc)
theorem proved : Rows.MatRowsSaid := over
#print axioms proved
end Go.Proofs.Ytmndomlpdajjmab.matRows
namespace Go.Proofs.Ytmndomlpdajjmab
/-- The row, under a short name, for the claim. -/
theorem matRows_holds : Rows.MatRowsSaid := matRows.proved
end Go.Proofs.Ytmndomlpdajjmab
