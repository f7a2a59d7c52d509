-- Ytmndomlpdajjmab: the row MatEquals: its parameters opened by hand, its walk the printed text's.
import Derived.Test.YtmndomlpdajjmabRows
import Derived.Test.YtmndomlpdajjmabMx7
import Derived.Test.YtmndomlpdajjmabPureMatEquals
import Derived.Test.YtmndomlpdajjmabKopen
import Derived.WalkKit
import Derived.ProofKit
import Derived.OpenShut
import Derived.ShutString
import Derived.ChangeOld
import Derived.Below
import Derived.SizedLaws
namespace Go.Proofs.Ytmndomlpdajjmab.matEquals
open Go.ChangeShapes Go.WideShapes Go.ChangeAt Go.RowKit
set_option linter.unusedVariables false
theorem own : ownKnob Try.prog.godebug = none := by kernel_rfl
theorem laidOut : laidOutB Try.prog = true := by kernel_rfl
set_option maxRecDepth 100000 in
theorem lifted (os : Os) (started : os.Started) (H : Type) (enc : TypeId × Value → H) :
    ReturnsInHanded {} Try.checked os 12 .any (Rows.matEqualsSpec.pre6 enc Try.prog Try.f12 Rows.matEqualsRow.domain false) (Rows.matEqualsSpec.post enc Try.prog Try.f12 false true false false) := by
  refine returnsInHanded_of_change_sized (C := Try.checked) own started (by kernel_rfl) Try.func12
    (ChangeSpec.witness6 (enc := enc) (C := Try.checked) false ⟨#[], #[.agg #[.int .i64 0, .int .i64 0, .slice none 0 0], .agg #[.int .i64 0, .int .i64 0, .slice none 0 0]], []⟩ 8 (by kernel_rfl) (by kernel_rfl) (by kernel_rfl) (by kernel_rfl)) ?_
  intro W base args ds gs before hval0 hW hcnd hsz0 _
  have hval : ∀ (j : Nat) t v, Try.f12.params[j]? = some t → args[j]? = some v → Value.okWide Try.prog W .any base t v := hval0
  have hW' := hW
  obtain ⟨p, q, hA0, hV, rfl, hfz, hnd⟩ := hW
  have hA : DataW.TrodAll enc Try.prog W 0 (fun _ => true) true Try.f12.params.toList args.toList ds p := hA0
  rw [Try.params12] at hA hval
  obtain ⟨v0, vs0, d0, ds0, p0, q0, hargs, rfl, rfl, h0, r0⟩ := trodAll_cons hA
  obtain ⟨v1, vs1, d1, ds1, p1, q1, rfl, rfl, rfl, h1, r1⟩ := trodAll_cons r0
  obtain ⟨rfl, rfl, rfl⟩ := trodAll_nil r1
  obtain rfl : args = #[v0, v1] := by cases args; simp_all
  obtain ⟨rfl, rfl⟩ := trodVars_none hV
  clear hA0 hval0 hsz0
  have k0 := h0
  have lt0 : ∀ x ∈ p0, x.block < W.heap.size := by obtain ⟨m, hm⟩ := k0; exact DataW.trod_lt m _ _ _ hm
  obtain ⟨u0_0, u0_1, u0_2, y0_0, y0_1, y0_2, m0, hv0, _, _, g0_0, g0_1, g0_2⟩ := Go.Joins.open_agg3 Try.underlying43 (by kernel_rfl) (by kernel_rfl) (hval 0 43 v0 rfl rfl) h0
  obtain ⟨a0_0, e0_0, _, x0_0⟩ := DataW.trod_int Try.underlying3 g0_0
  obtain ⟨a0_1, e0_1, _, x0_1⟩ := DataW.trod_int Try.underlying3 g0_1
  obtain ⟨A0_2, c0_2, l0_2, s0_2, hc0_2, hm0_2, hr0_2, hw0_2⟩ := Kopen.ints_C Try.underlying22 Try.underlying21 (by kernel_rfl) g0_2
  simp only [List.cons.injEq, and_true] at e0_0 e0_1
  subst e0_0 e0_1 s0_2 hv0
  have k1 := h1
  have lt1 : ∀ x ∈ p1, x.block < W.heap.size := by obtain ⟨m, hm⟩ := k1; exact DataW.trod_lt m _ _ _ hm
  obtain ⟨u1_0, u1_1, u1_2, y1_0, y1_1, y1_2, m1, hv1, _, _, g1_0, g1_1, g1_2⟩ := Go.Joins.open_agg3 Try.underlying43 (by kernel_rfl) (by kernel_rfl) (hval 1 43 v1 rfl rfl) h1
  obtain ⟨a1_0, e1_0, _, x1_0⟩ := DataW.trod_int Try.underlying3 g1_0
  obtain ⟨a1_1, e1_1, _, x1_1⟩ := DataW.trod_int Try.underlying3 g1_1
  obtain ⟨A1_2, c1_2, l1_2, s1_2, hc1_2, hm1_2, hr1_2, hw1_2⟩ := Kopen.ints_C Try.underlying22 Try.underlying21 (by kernel_rfl) g1_2
  simp only [List.cons.injEq, and_true] at e1_0 e1_1
  subst e1_0 e1_1 s1_2 hv1
  obtain ⟨k, hk⟩ := Pure.MatEquals a0_0 a0_1 l0_2 a1_0 a1_1 l1_2 x0_0 x0_1 hm0_2 hw0_2 x1_0 x1_1 hm1_2 hw1_2
  refine (M.credenzalaw17_MatEquals.calls k a0_0 a0_1 A0_2 c0_2 l0_2 a1_0 a1_1 A1_2 c1_2 l1_2 true W hr0_2 hc0_2 hr1_2 hc1_2 hk rfl).mono fun e W' ⟨he, bel⟩ => ?_
  subst he
  exact ⟨_, rfl, _, _, _, [], _, [], hW', trodAll_mk1 (shut_bool Try.underlying4 _), (trodAll_cons_mk (Below.trod laidOut (by kernel_rfl) (of_decide_eq_true (by kernel_rfl)) k0 bel lt0) (trodAll_cons_mk (Below.trod laidOut (by kernel_rfl) (of_decide_eq_true (by kernel_rfl)) k1 bel lt1) trodAll_mk0)), rfl, bel.frame _, fun h => by cases h⟩
theorem over : Rows.matEqualsRow.holds Try.pinned (OpenSpec.ofChange Rows.matEqualsSpec) :=
  OpenClaim.holds_of_wide 12 Try.f12 rfl rfl rfl rfl rfl rfl rfl ⟨rfl, rfl, rfl, rfl, rfl⟩ rfl rfl rfl rfl rfl (by kernel_rfl) Try.func12 (by kernel_rfl)
    (of_decide_eq_true (by kernel_rfl)) (by unfold Func.isWrapper; first | (rw [if_pos (by decide +kernel)]; kernel_rfl) | (rw [if_neg (by decide +kernel)]; exact ⟨rfl, rfl⟩))
    (fun os started H enc _ => lifted os started H enc)
theorem proved : Rows.MatEqualsSaid := over
#print axioms proved
end Go.Proofs.Ytmndomlpdajjmab.matEquals
namespace Go.Proofs.Ytmndomlpdajjmab
/-- The row, under a short name, for the claim. -/
theorem matEquals_holds : Rows.MatEqualsSaid := matEquals.proved
end Go.Proofs.Ytmndomlpdajjmab
