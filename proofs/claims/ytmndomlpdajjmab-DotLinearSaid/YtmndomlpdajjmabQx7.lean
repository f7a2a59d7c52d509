-- Ytmndomlpdajjmab: the machine side of the statements, written by a program of the session.
import Derived.Test.YtmndomlpdajjmabQx0
import Derived.Test.YtmndomlpdajjmabQx1
import Derived.Test.YtmndomlpdajjmabQx2
import Derived.Test.YtmndomlpdajjmabQx3
import Derived.Test.YtmndomlpdajjmabQx6
namespace Go.Proofs.Ytmndomlpdajjmab.Q
open Go.RowKit Go.Proofs.YtmndomlpdajjmabW.PrintWords Go.Proofs.YtmndomlpdajjmabW.PrintLast Go.Proofs.YtmndomlpdajjmabW.PrintMore
attribute [local go_sem] max2_int min2_int max_two min_two max_three min_three max_four min_four   -- for this text's walks alone
set_option linter.unusedVariables false
set_option linter.unusedSimpArgs false

/-! ### credenzalaw03_DotTops: function 6 -/
def credenzalaw03_DotTops.f (k : Nat) (l0 : List Int) : Option (Bool) := if (l0.length : Int) > 2000 then ((credenzalaw03_awake.f k).bind fun t305 => (some t305)) else ((dot_Top.f k l0).bind fun bt306 => (if (l0.length : Int) = 0 then (if bt306.2.2 = 14 then (if bt306.1 = 0 then (if bt306.2.1 = 0 then ((credenzalaw03_awake.f k).bind fun t309 => (some t309)) else (some false)) else (some false)) else (some false)) else (if bt306.2.2 = 0 then ((credenzaref03_Top.f k l0).bind fun t310 => (if bt306.1 = t310 then ((credenzaref03_Top.f k l0).bind fun t311 => (if 0 ≤ t311 then (if t311 < (l0.length : Int) then (if bt306.2.1 = (rd l0 t311) then ((credenzalaw03_awake.f k).bind fun t313 => (some t313)) else (some false)) else (none)) else (none))) else (some false))) else (some false))))
theorem credenzalaw03_DotTops.mono : ∀ a0 k, LeO (credenzalaw03_DotTops.f k a0) (credenzalaw03_DotTops.f (k + 1) a0) := by
  intro a0 k
  unfold credenzalaw03_DotTops.f
  repeat' first
      | (with_reducible exact credenzalaw03_awake.mono _)
      | (with_reducible exact credenzaref03_Top.mono _ _)
      | (with_reducible exact dot_Top.mono _ _)
      | (with_reducible exact LeO.refl _)
      | (with_reducible exact LeO.none _)
      | (with_reducible refine LeO.ite ?_ ?_)
      | (with_reducible refine LeO.bind ?_ (fun _ => ?_))
      | exact credenzalaw03_awake.mono _
      | exact credenzaref03_Top.mono _ _
      | exact dot_Top.mono _ _
      | exact LeO.none _
      | refine LeO.ite ?_ ?_
      | refine LeO.bind ?_ (fun _ => ?_)
set_option maxHeartbeats 8000000 in
set_option maxRecDepth 100000 in
theorem credenzalaw03_DotTops.calls (k : Nat) (A0 : Option Addr) (c0 : Nat) (l0 : List Int) (r : Bool) (w : World) (hr0 : Kd.C (Kd.int .i32) w A0 l0.length l0) (hc0 : l0.length ≤ c0) (h : credenzalaw03_DotTops.f k l0 = some r) (hrt_ : r = true) :
    Calls Try.prog 6 #[.slice A0 l0.length c0] w fun e w' => e = .returned (.bool r) ∧ Below w.heap.size w w' := by
  have HR0 := Aside0.mk hr0
  have HC0 := Aside0.mk hc0
  clear hr0 hc0
  have HRT := Aside0.mk hrt_
  clear hrt_
  have HB := Aside0.mk (Below.refl w.heap.size w)
  have H : (if (l0.length : Int) > 2000 then ((credenzalaw03_awake.f k).bind fun t305 => (some t305)) else ((dot_Top.f k l0).bind fun bt306 => (if (l0.length : Int) = 0 then (if bt306.2.2 = 14 then (if bt306.1 = 0 then (if bt306.2.1 = 0 then ((credenzalaw03_awake.f k).bind fun t309 => (some t309)) else (some false)) else (some false)) else (some false)) else (if bt306.2.2 = 0 then ((credenzaref03_Top.f k l0).bind fun t310 => (if bt306.1 = t310 then ((credenzaref03_Top.f k l0).bind fun t311 => (if 0 ≤ t311 then (if t311 < (l0.length : Int) then (if bt306.2.1 = (rd l0 t311) then ((credenzalaw03_awake.f k).bind fun t313 => (some t313)) else (some false)) else (none)) else (none))) else (some false))) else (some false))))) = some r := h
  clear h
  by_cases c2 : (l0.length : Int) > 2000
  · rw [if_pos c2] at H
    have c2b0 : decide (2000 < (l0.length : Int)) = true := decide_eq_true c2
    have c2b1 : decide (2000 < l0.length) = true := decide_eq_true (by omega)
    clear c2
    replace H := Option.bind_eq_some_iff.mp H
    obtain ⟨t305, A30, H⟩ := H
    replace H : (some t305) = some r := H
    have A3 := Aside0.mk A30
    clear A30
    obtain rfl := Option.some.inj H
    go_enter Try.func6, Try.ntmps6
    go_wp2_with (first | ((with_reducible refine gate_callee (f := 17) rfl ?_); refine goesL_ (some 9) rfl rfl Try.func17 (by kernel_rfl) rfl #[] rfl (by (try simp only [List.map_toArray, List.map_cons, List.map_nil]); first | done | rfl | (simp only [List.length_drop, List.length_take]; rfl)) ?_; (with_reducible refine (credenzalaw03_awake.calls k  t305 _ A3.out).mono ?_); rintro e w4 ⟨rfl, hb⟩; refine ⟨_, rfl, ?_⟩; have n0_ := Aside0.mk (below_step (by repeat (first | (with_reducible first | exact HB.out | apply below_alloc | apply pw_below_drewN | apply below_drew1) | exact HB.out)) hb); clear HB; have HB := n0_; clear n0_; (try clear hb); (try clear hb2); (try clear hk); (try clear hi)))
    go_ret
    exact ⟨by first | rfl | (simp [errW_none, errW_some] <;> rfl) | (simp [*, errW_none, errW_some] <;> rfl), by repeat (first | (with_reducible first | exact HB.out | apply below_alloc | apply pw_below_drewN | apply below_drew1) | exact HB.out)⟩
  · rw [if_neg c2] at H
    have c2b0 : decide (2000 < (l0.length : Int)) = false := decide_eq_false c2
    have c2b1 : decide (2000 < l0.length) = false := decide_eq_false (by omega)
    clear c2
    replace H := Option.bind_eq_some_iff.mp H
    obtain ⟨⟨t306, t307, t308⟩, A50, H⟩ := H
    replace H : (if (l0.length : Int) = 0 then (if t308 = 14 then (if t306 = 0 then (if t307 = 0 then ((credenzalaw03_awake.f k).bind fun t309 => (some t309)) else (some false)) else (some false)) else (some false)) else (if t308 = 0 then ((credenzaref03_Top.f k l0).bind fun t310 => (if t306 = t310 then ((credenzaref03_Top.f k l0).bind fun t311 => (if 0 ≤ t311 then (if t311 < (l0.length : Int) then (if t307 = (rd l0 t311) then ((credenzalaw03_awake.f k).bind fun t313 => (some t313)) else (some false)) else (none)) else (none))) else (some false))) else (some false))) = some r := H
    have A5 := Aside0.mk A50
    clear A50
    by_cases c6 : (l0.length : Int) = 0
    · rw [if_pos c6] at H
      have c6b0 : ((l0.length : Int) == 0) = true := beq_iff_eq.mpr c6
      have c6b1 : ((l0.length : Int) != 0) = false := bne_eq_false_iff_eq.mpr c6
      clear c6
      by_cases c7 : t308 = 14
      · rw [if_pos c7] at H
        have c7b0 : (t308 == 14) = true := beq_iff_eq.mpr c7
        have c7b1 : (t308 != 14) = false := bne_eq_false_iff_eq.mpr c7
        clear c7
        by_cases c8 : t306 = 0
        · rw [if_pos c8] at H
          have c8b0 : (t306 == 0) = true := beq_iff_eq.mpr c8
          have c8b1 : (t306 != 0) = false := bne_eq_false_iff_eq.mpr c8
          clear c8
          by_cases c9 : t307 = 0
          · rw [if_pos c9] at H
            have c9b0 : (t307 == 0) = true := beq_iff_eq.mpr c9
            have c9b1 : (t307 != 0) = false := bne_eq_false_iff_eq.mpr c9
            clear c9
            replace H := Option.bind_eq_some_iff.mp H
            obtain ⟨t309, A100, H⟩ := H
            replace H : (some t309) = some r := H
            have A10 := Aside0.mk A100
            clear A100
            obtain rfl := Option.some.inj H
            go_enter Try.func6, Try.ntmps6
            go_wp2_with (first | ((with_reducible refine gate_callee (f := 28) rfl ?_); refine goesL_ (some 12) rfl rfl Try.func28 (by kernel_rfl) rfl #[.slice A0 l0.length c0] rfl (by (try simp only [List.map_toArray, List.map_cons, List.map_nil]); first | done | rfl | (simp only [List.length_drop, List.length_take]; rfl)) ?_; (with_reducible refine (dot_Top.calls k _ _ l0 t306 t307 t308 _ ?side1 ?side2 A5.out).mono ?_); (case side1 => repeat (first | exact HR0.out | (with_reducible refine Kd.C_alloc ?_ _) | (with_reducible refine Kd.C_drewN ?_ _) | (with_reducible refine Kd.C_drew ?_))); (case side2 => exact HC0.out); rintro e w11 ⟨rfl, hb⟩; refine ⟨_, rfl, ?_⟩; have n0_ := Aside0.mk (below_step (by repeat (first | (with_reducible first | exact HB.out | apply below_alloc | apply pw_below_drewN | apply below_drew1) | exact HB.out)) hb); clear HB; have HB := n0_; clear n0_; (try clear hb); (try clear hb2); (try clear hk); (try clear hi)) | (go_at_call 17; (with_reducible refine (credenzalaw03_awake.calls k  t309 _ A10.out).mono ?_); rintro e w12 ⟨rfl, hb⟩; have n0_ := Aside0.mk (below_step (by repeat (first | (with_reducible first | exact HB.out | apply below_alloc | apply pw_below_drewN | apply below_drew1) | exact HB.out)) hb); clear HB; have HB := n0_; clear n0_; (try clear hb); (try clear hb2); (try clear hk); (try clear hi)))
            go_ret
            exact ⟨by first | rfl | (simp [errW_none, errW_some] <;> rfl) | (simp [*, errW_none, errW_some] <;> rfl), by repeat (first | (with_reducible first | exact HB.out | apply below_alloc | apply pw_below_drewN | apply below_drew1) | exact HB.out)⟩
          · rw [if_neg c9] at H
            have c9b0 : (t307 == 0) = false := beq_eq_false_iff_ne.mpr c9
            have c9b1 : (t307 != 0) = true := bne_iff_ne.mpr c9
            exact absurd (H.trans (congrArg some HRT.out)) (by simp)
        · rw [if_neg c8] at H
          have c8b0 : (t306 == 0) = false := beq_eq_false_iff_ne.mpr c8
          have c8b1 : (t306 != 0) = true := bne_iff_ne.mpr c8
          exact absurd (H.trans (congrArg some HRT.out)) (by simp)
      · rw [if_neg c7] at H
        have c7b0 : (t308 == 14) = false := beq_eq_false_iff_ne.mpr c7
        have c7b1 : (t308 != 14) = true := bne_iff_ne.mpr c7
        exact absurd (H.trans (congrArg some HRT.out)) (by simp)
    · rw [if_neg c6] at H
      have c6b0 : ((l0.length : Int) == 0) = false := beq_eq_false_iff_ne.mpr c6
      have c6b1 : ((l0.length : Int) != 0) = true := bne_iff_ne.mpr c6
      have c6b2 : ¬ (l0 = []) := fun h_ => c6 (by rw [h_]; rfl)
      by_cases c13 : t308 = 0
      · rw [if_pos c13] at H
        have c13b0 : (t308 == 0) = true := beq_iff_eq.mpr c13
        have c13b1 : (t308 != 0) = false := bne_eq_false_iff_eq.mpr c13
        clear c13
        replace H := Option.bind_eq_some_iff.mp H
        obtain ⟨t310, A140, H⟩ := H
        replace H : (if t306 = t310 then ((credenzaref03_Top.f k l0).bind fun t311 => (if 0 ≤ t311 then (if t311 < (l0.length : Int) then (if t307 = (rd l0 t311) then ((credenzalaw03_awake.f k).bind fun t313 => (some t313)) else (some false)) else (none)) else (none))) else (some false)) = some r := H
        have A14 := Aside0.mk A140
        clear A140
        by_cases c15 : t306 = t310
        · rw [if_pos c15] at H
          have c15b0 : (t306 == t310) = true := beq_iff_eq.mpr c15
          have c15b1 : (t306 != t310) = false := bne_eq_false_iff_eq.mpr c15
          clear c15
          replace H := Option.bind_eq_some_iff.mp H
          obtain ⟨t311, A160, H⟩ := H
          replace H : (if 0 ≤ t311 then (if t311 < (l0.length : Int) then (if t307 = (rd l0 t311) then ((credenzalaw03_awake.f k).bind fun t313 => (some t313)) else (some false)) else (none)) else (none)) = some r := H
          have A16 := Aside0.mk A160
          clear A160
          obtain rfl : t310 = t311 := Option.some.inj (A14.out.symm.trans A16.out)
          by_cases c17 : 0 ≤ t310
          · rw [if_pos c17] at H
            have c17b0 : decide (0 ≤ t310) = true := decide_eq_true c17
            clear c17
            by_cases c18 : t310 < (l0.length : Int)
            · rw [if_pos c18] at H
              have c18b0 : decide (t310 < (l0.length : Int)) = true := decide_eq_true c18
              clear c18
              by_cases c19 : t307 = (rd l0 t310)
              · rw [if_pos c19] at H
                have c19b0 : (t307 == (rd l0 t310)) = true := beq_iff_eq.mpr c19
                have c19b1 : (t307 != (rd l0 t310)) = false := bne_eq_false_iff_eq.mpr c19
                clear c19
                replace H := Option.bind_eq_some_iff.mp H
                obtain ⟨t313, A200, H⟩ := H
                replace H : (some t313) = some r := H
                have A20 := Aside0.mk A200
                clear A200
                obtain rfl := Option.some.inj H
                go_enter Try.func6, Try.ntmps6
                go_wp2_with (first | ((with_reducible refine gate_callee (f := 28) rfl ?_); refine goesL_ (some 12) rfl rfl Try.func28 (by kernel_rfl) rfl #[.slice A0 l0.length c0] rfl (by (try simp only [List.map_toArray, List.map_cons, List.map_nil]); first | done | rfl | (simp only [List.length_drop, List.length_take]; rfl)) ?_; (with_reducible refine (dot_Top.calls k _ _ l0 t306 t307 t308 _ ?side1 ?side2 A5.out).mono ?_); (case side1 => repeat (first | exact HR0.out | (with_reducible refine Kd.C_alloc ?_ _) | (with_reducible refine Kd.C_drewN ?_ _) | (with_reducible refine Kd.C_drew ?_))); (case side2 => exact HC0.out); rintro e w21 ⟨rfl, hb⟩; refine ⟨_, rfl, ?_⟩; have n0_ := Aside0.mk (below_step (by repeat (first | (with_reducible first | exact HB.out | apply below_alloc | apply pw_below_drewN | apply below_drew1) | exact HB.out)) hb); clear HB; have HB := n0_; clear n0_; (try clear hb); (try clear hb2); (try clear hk); (try clear hi)) | (go_at_call 29; (with_reducible refine (credenzaref03_Top.calls k _ _ l0 t310 _ ?side1 ?side2 A14.out).mono ?_); (case side1 => repeat (first | exact (Kd.C_below HR0.out HB.out) | (with_reducible refine Kd.C_alloc ?_ _) | (with_reducible refine Kd.C_drewN ?_ _) | (with_reducible refine Kd.C_drew ?_))); (case side2 => exact HC0.out); rintro e w' ⟨rfl, ⟨nd, rfl⟩⟩; clear A14) | (go_at_call 29; (with_reducible refine (credenzaref03_Top.calls k _ _ l0 t310 _ ?side1 ?side2 A16.out).mono ?_); (case side1 => repeat (first | exact (Kd.C_below HR0.out (by repeat (first | (with_reducible first | exact HB.out | apply below_alloc | apply pw_below_drewN | apply below_drew1) | exact HB.out))) | (with_reducible refine Kd.C_alloc ?_ _) | (with_reducible refine Kd.C_drewN ?_ _) | (with_reducible refine Kd.C_drew ?_))); (case side2 => exact HC0.out); rintro e w' ⟨rfl, ⟨nd, rfl⟩⟩; have p312 : 0 ≤ (t310 : Int) := of_decide_eq_true (by first | (with_reducible assumption) | assumption); have q312 : t310 < (l0.length : Int) := of_decide_eq_true (by first | (with_reducible assumption) | assumption); obtain ⟨ad312, e312, hx312_0⟩ := Kd.at_int HR0.out t310 p312 q312; cases e312; replace hx312_0 := (HB.out.cell (World.block_lt_of_cell? w _ hx312_0)).trans hx312_0; replace p312 := eq_true p312; replace q312 := eq_true q312) | (go_at_call 17; (with_reducible refine (credenzalaw03_awake.calls k  t313 _ A20.out).mono ?_); rintro e w22 ⟨rfl, hb⟩; have n0_ := Aside0.mk (below_step (by repeat (first | (with_reducible first | exact HB.out | apply below_alloc | apply pw_below_drewN | apply below_drew1) | exact HB.out)) hb); clear HB; have HB := n0_; clear n0_; (try clear hb); (try clear hb2); (try clear hk); (try clear hi)))
                go_ret
                exact ⟨by first | rfl | (simp [errW_none, errW_some] <;> rfl) | (simp [*, errW_none, errW_some] <;> rfl), by repeat (first | (with_reducible first | exact HB.out | apply below_alloc | apply pw_below_drewN | apply below_drew1) | exact HB.out)⟩
              · rw [if_neg c19] at H
                have c19b0 : (t307 == (rd l0 t310)) = false := beq_eq_false_iff_ne.mpr c19
                have c19b1 : (t307 != (rd l0 t310)) = true := bne_iff_ne.mpr c19
                exact absurd (H.trans (congrArg some HRT.out)) (by simp)
            · rw [if_neg c18] at H
              exact absurd H (by simp)
          · rw [if_neg c17] at H
            exact absurd H (by simp)
        · rw [if_neg c15] at H
          have c15b0 : (t306 == t310) = false := beq_eq_false_iff_ne.mpr c15
          have c15b1 : (t306 != t310) = true := bne_iff_ne.mpr c15
          exact absurd (H.trans (congrArg some HRT.out)) (by simp)
      · rw [if_neg c13] at H
        have c13b0 : (t308 == 0) = false := beq_eq_false_iff_ne.mpr c13
        have c13b1 : (t308 != 0) = true := bne_iff_ne.mpr c13
        exact absurd (H.trans (congrArg some HRT.out)) (by simp)

/-- THE ONE PURE STATEMENT of credenzalaw03_DotTops: yours. -/
def credenzalaw03_DotTops.Pure : Prop := ∀ (l0 : List Int), l0.length ≤ maxLen → l0.length * 4 ≤ 140737488351232 → (∀ x ∈ l0, (Lit.int .i32 x).wf = true) → ∃ k, credenzalaw03_DotTops.f k l0 = some true
theorem credenzalaw03_DotTops.walk (P : credenzalaw03_DotTops.Pure) (a0 : Option Addr) (len0 cap0 : Nat) (z0 : List Int) (w : World) (w0 : (a0 = none ∧ len0 = 0 ∧ cap0 = 0 ∧ z0 = []) ∨ ∃ x, a0 = some x ∧ len0 ≤ cap0 ∧ cap0 ≤ maxLen ∧ z0.length = cap0 ∧ (∀ i, i < z0.length → w.cell? (x.add i) = some (.int .i32 (z0.getD i 0))) ∧ ∀ n ∈ z0, (Lit.int .i32 n).wf = true) (y0 : len0 * 4 ≤ 140737488351232) :
    Calls Try.prog 6 #[.slice a0 len0 cap0] w fun e w' => e = .returned (.bool true) ∧ Below w.heap.size w w' := by
  obtain ⟨l0, rfl, hr0, hm0, hw0, hc0⟩ := ReadsInt.ofRowC w0
  obtain ⟨k, h⟩ := P l0 hm0 y0 hw0
  refine (credenzalaw03_DotTops.calls k _ _ l0 true w (Kd.C_of_reads (d := (0 : Int)) (h1 := fun _ => rfl) hr0) hc0 h rfl).mono ?_
  rintro e w' ⟨rfl, hd⟩
  exact ⟨rfl, hd⟩

/-! ### credenzalaw03_DotLinear: function 7 -/
mutual
def credenzalaw03_DotLinear.j0 : Nat → List Int → List Int → List Int → Bool → Option (Bool)
  | 0, _, _, _, _ => none
  | k + 1, x0, x1, x2, x32 => if x32 = true then ((credenzalaw03_awake.f k).bind fun t314 => (some t314)) else (credenzalaw03_DotLinear.l0 k x0 x1 x2 (x0.length : Int) 0)
def credenzalaw03_DotLinear.l0 : Nat → List Int → List Int → List Int → Int → Int → Option (Bool)
  | 0, _, _, _, _, _ => none
  | k + 1, x0, x1, x2, x35, x36 => if x36 < x35 then (if 0 ≤ x36 then (if x36 < (x0.length : Int) then (if (rd x0 x36) > 4194304 then ((credenzalaw03_awake.f k).bind fun t316 => (some t316)) else (if (rd x0 x36) < (-4194304) then ((credenzalaw03_awake.f k).bind fun t318 => (some t318)) else (if x36 < (x1.length : Int) then (if (rd x1 x36) > 4194304 then ((credenzalaw03_awake.f k).bind fun t320 => (some t320)) else (if (rd x1 x36) < (-4194304) then ((credenzalaw03_awake.f k).bind fun t322 => (some t322)) else (if x36 < (x2.length : Int) then (if (rd x2 x36) > 16777216 then ((credenzalaw03_awake.f k).bind fun t324 => (some t324)) else (if (rd x2 x36) < (-16777216) then ((credenzalaw03_awake.f k).bind fun t326 => (some t326)) else (credenzalaw03_DotLinear.l0 k x0 x1 x2 x35 (wrap64 (x36 + 1))))) else (none)))) else (none)))) else (none)) else (none)) else ((dot_Add.f k x0 x1).bind fun bt327 => ((dot_Dot.f k bt327.1 x2).bind fun bt331 => ((dot_Dot.f k x0 x2).bind fun bt333 => ((dot_Dot.f k x1 x2).bind fun bt335 => (if bt327.2 = 0 then (if bt331.2 = 0 then (if bt333.2 = 0 then (if bt335.2 = 0 then (if bt331.1 = (wrap64 (bt333.1 + bt335.1)) then ((credenzalaw03_awake.f k).bind fun t337 => (some t337)) else (some false)) else (some false)) else (some false)) else (some false)) else (some false))))))
end
def credenzalaw03_DotLinear.f (k : Nat) (l0 : List Int) (l1 : List Int) (l2 : List Int) : Option (Bool) := if (l0.length : Int) = (l1.length : Int) then (if (l0.length : Int) = (l2.length : Int) then (credenzalaw03_DotLinear.j0 k l0 l1 l2 (decide ((l0.length : Int) > 1024))) else (credenzalaw03_DotLinear.j0 k l0 l1 l2 true)) else (credenzalaw03_DotLinear.j0 k l0 l1 l2 true)
theorem credenzalaw03_DotLinear.mono_l : ∀ k, (∀ y0 y1 y2 y3, LeO (credenzalaw03_DotLinear.j0 k y0 y1 y2 y3) (credenzalaw03_DotLinear.j0 (k + 1) y0 y1 y2 y3)) ∧ (∀ y0 y1 y2 y3 y4, LeO (credenzalaw03_DotLinear.l0 k y0 y1 y2 y3 y4) (credenzalaw03_DotLinear.l0 (k + 1) y0 y1 y2 y3 y4))
  | 0 => ⟨fun _ _ _ _ r h => by simp [credenzalaw03_DotLinear.j0] at h, fun _ _ _ _ _ r h => by simp [credenzalaw03_DotLinear.l0] at h⟩
  | k + 1 => by
    obtain ⟨ih0, ih1⟩ := credenzalaw03_DotLinear.mono_l k
    refine ⟨?_, ?_⟩
    · intro y0 y1 y2 y3
      unfold credenzalaw03_DotLinear.j0
      repeat' first
      | (with_reducible exact ih0 _ _ _ _)
      | (with_reducible exact ih1 _ _ _ _ _)
      | (with_reducible exact credenzalaw03_awake.mono _)
      | (with_reducible exact dot_Add.mono _ _ _)
      | (with_reducible exact dot_Dot.mono _ _ _)
      | (with_reducible exact LeO.refl _)
      | (with_reducible exact LeO.none _)
      | (with_reducible refine LeO.ite ?_ ?_)
      | (with_reducible refine LeO.bind ?_ (fun _ => ?_))
      | exact ih0 _ _ _ _
      | exact ih1 _ _ _ _ _
      | exact credenzalaw03_awake.mono _
      | exact dot_Add.mono _ _ _
      | exact dot_Dot.mono _ _ _
      | exact LeO.none _
      | refine LeO.ite ?_ ?_
      | refine LeO.bind ?_ (fun _ => ?_)
    · intro y0 y1 y2 y3 y4
      unfold credenzalaw03_DotLinear.l0
      repeat' first
      | (with_reducible exact ih0 _ _ _ _)
      | (with_reducible exact ih1 _ _ _ _ _)
      | (with_reducible exact credenzalaw03_awake.mono _)
      | (with_reducible exact dot_Add.mono _ _ _)
      | (with_reducible exact dot_Dot.mono _ _ _)
      | (with_reducible exact LeO.refl _)
      | (with_reducible exact LeO.none _)
      | (with_reducible refine LeO.ite ?_ ?_)
      | (with_reducible refine LeO.bind ?_ (fun _ => ?_))
      | exact ih0 _ _ _ _
      | exact ih1 _ _ _ _ _
      | exact credenzalaw03_awake.mono _
      | exact dot_Add.mono _ _ _
      | exact dot_Dot.mono _ _ _
      | exact LeO.none _
      | refine LeO.ite ?_ ?_
      | refine LeO.bind ?_ (fun _ => ?_)
theorem credenzalaw03_DotLinear.mono : ∀ a0 a1 a2 k, LeO (credenzalaw03_DotLinear.f k a0 a1 a2) (credenzalaw03_DotLinear.f (k + 1) a0 a1 a2) := by
  intro a0 a1 a2 k
  obtain ⟨ih0, ih1⟩ := credenzalaw03_DotLinear.mono_l k
  unfold credenzalaw03_DotLinear.f
  repeat' first
      | (with_reducible exact ih0 _ _ _ _)
      | (with_reducible exact ih1 _ _ _ _ _)
      | (with_reducible exact credenzalaw03_awake.mono _)
      | (with_reducible exact dot_Add.mono _ _ _)
      | (with_reducible exact dot_Dot.mono _ _ _)
      | (with_reducible exact LeO.refl _)
      | (with_reducible exact LeO.none _)
      | (with_reducible refine LeO.ite ?_ ?_)
      | (with_reducible refine LeO.bind ?_ (fun _ => ?_))
      | exact ih0 _ _ _ _
      | exact ih1 _ _ _ _ _
      | exact credenzalaw03_awake.mono _
      | exact dot_Add.mono _ _ _
      | exact dot_Dot.mono _ _ _
      | exact LeO.none _
      | refine LeO.ite ?_ ?_
      | refine LeO.bind ?_ (fun _ => ?_)
set_option maxHeartbeats 8000000 in
set_option maxRecDepth 100000 in
theorem credenzalaw03_DotLinear.calls (k : Nat) (A0 : Option Addr) (c0 : Nat) (l0 : List Int) (A1 : Option Addr) (c1 : Nat) (l1 : List Int) (A2 : Option Addr) (c2 : Nat) (l2 : List Int) (r : Bool) (w : World) (hr0 : Kd.C (Kd.int .i32) w A0 l0.length l0) (hc0 : l0.length ≤ c0) (hr1 : Kd.C (Kd.int .i32) w A1 l1.length l1) (hc1 : l1.length ≤ c1) (hr2 : Kd.C (Kd.int .i32) w A2 l2.length l2) (hc2 : l2.length ≤ c2) (h : credenzalaw03_DotLinear.f k l0 l1 l2 = some r) (hrt_ : r = true) :
    Calls Try.prog 7 #[.slice A0 l0.length c0, .slice A1 l1.length c1, .slice A2 l2.length c2] w fun e w' => e = .returned (.bool r) ∧ Below w.heap.size w w' := by
  have HR0 := Aside0.mk hr0
  have HC0 := Aside0.mk hc0
  clear hr0 hc0
  have HR1 := Aside0.mk hr1
  have HC1 := Aside0.mk hc1
  clear hr1 hc1
  have HR2 := Aside0.mk hr2
  have HC2 := Aside0.mk hc2
  clear hr2 hc2
  have HRT := Aside0.mk hrt_
  clear hrt_
  have HB := Aside0.mk (Below.refl w.heap.size w)
  have H : (if (l0.length : Int) = (l1.length : Int) then (if (l0.length : Int) = (l2.length : Int) then (credenzalaw03_DotLinear.j0 k l0 l1 l2 (decide ((l0.length : Int) > 1024))) else (credenzalaw03_DotLinear.j0 k l0 l1 l2 true)) else (credenzalaw03_DotLinear.j0 k l0 l1 l2 true)) = some r := h
  clear h
  have HC4 := Aside0.mk H
  clear H
  go_enter Try.func7, Try.ntmps7
  go_upto_region 1 with (fail)
  go_cut [32] (fun v32 wc => ∃ (kq : Nat) (x32_3 : Bool), v32 = .bool x32_3 ∧ Aside0 (credenzalaw03_DotLinear.j0 kq l0 l1 l2 x32_3 = some r) ∧ Aside0 (kq ≤ k) ∧ Aside0 (Below w.heap.size w wc))
  case first =>
    have H := HC4.out
    clear HC4
    by_cases c5 : (l0.length : Int) = (l1.length : Int)
    · rw [if_pos c5] at H
      have c5b0 : ((l0.length : Int) == (l1.length : Int)) = true := beq_iff_eq.mpr c5
      have c5b1 : ((l0.length : Int) != (l1.length : Int)) = false := bne_eq_false_iff_eq.mpr c5
      have c5b2 : (l0.length == l1.length) = true := by first | simpa using c5 | (simp at c5 ⊢; omega)
      clear c5
      (first | rw [c5b0] | (simp only [i64_w, i32_w]; rw [c5b0]) | skip)
      by_cases c6 : (l0.length : Int) = (l2.length : Int)
      · rw [if_pos c6] at H
        have c6b0 : ((l0.length : Int) == (l2.length : Int)) = true := beq_iff_eq.mpr c6
        have c6b1 : ((l0.length : Int) != (l2.length : Int)) = false := bne_eq_false_iff_eq.mpr c6
        have c6b2 : (l0.length == l2.length) = true := by first | simpa using c6 | (simp at c6 ⊢; omega)
        clear c6
        have H' := Aside0.mk H
        clear H
        go_wp2
        go_meet
        case rel => exact ⟨_, (decide ((l0.length : Int) > 1024)), (by first | rfl | (simp; done) | (simp [*]; done)), H', ⟨by first | omega | exact Nat.le_refl _⟩, ⟨by repeat (first | (with_reducible first | exact HB.out | apply below_alloc | apply pw_below_drewN | apply below_drew1) | exact HB.out)⟩⟩
      · rw [if_neg c6] at H
        have c6b0 : ((l0.length : Int) == (l2.length : Int)) = false := beq_eq_false_iff_ne.mpr c6
        have c6b1 : ((l0.length : Int) != (l2.length : Int)) = true := bne_iff_ne.mpr c6
        have c6b2 : (l0.length == l2.length) = false := by first | simpa using c6 | (simp at c6 ⊢; omega)
        have H' := Aside0.mk H
        clear H
        go_wp2
        go_meet
        case rel => exact ⟨_, (true), (by first | rfl | (simp; done) | (simp [*]; done)), H', ⟨by first | omega | exact Nat.le_refl _⟩, ⟨by repeat (first | (with_reducible first | exact HB.out | apply below_alloc | apply pw_below_drewN | apply below_drew1) | exact HB.out)⟩⟩
    · rw [if_neg c5] at H
      have c5b0 : ((l0.length : Int) == (l1.length : Int)) = false := beq_eq_false_iff_ne.mpr c5
      have c5b1 : ((l0.length : Int) != (l1.length : Int)) = true := bne_iff_ne.mpr c5
      have c5b2 : (l0.length == l1.length) = false := by first | simpa using c5 | (simp at c5 ⊢; omega)
      (first | rw [c5b0] | (simp only [i64_w, i32_w]; rw [c5b0]) | skip)
      have H' := Aside0.mk H
      clear H
      go_wp2
      go_meet
      case rel => exact ⟨_, (true), (by first | rfl | (simp; done) | (simp [*]; done)), H', ⟨by first | omega | exact Nat.le_refl _⟩, ⟨by repeat (first | (with_reducible first | exact HB.out | apply below_alloc | apply pw_below_drewN | apply below_drew1) | exact HB.out)⟩⟩
  case rest =>
    clear HC4
    try clear c1
    try clear c2
    try clear p2
    try clear c5
    try clear c5b0
    try clear c5b1
    try clear c5b2
    try clear c6
    try clear c6b0
    try clear c6b1
    try clear c6b2
    obtain ⟨kq, x32_3, rfl, HA, HJ3, HB⟩ := hcut
    cases kq with
    | zero => exact absurd HA.out (by simp [credenzalaw03_DotLinear.j0])
    | succ kj3 =>
      have H := HA.out
      clear HA
      simp only [credenzalaw03_DotLinear.j0] at H
      by_cases c7 : x32_3 = true
      · subst c7
        have H1 : ((credenzalaw03_awake.f kj3).bind fun t314 => (some t314)) = some r := by rw [if_pos rfl] at H; exact H
        clear H
        have H := H1
        clear H1
        replace H := Option.bind_eq_some_iff.mp H
        obtain ⟨t314, A80, H⟩ := H
        replace H : (some t314) = some r := H
        have A8 := Aside0.mk A80
        clear A80
        obtain rfl := Option.some.inj H
        go_wp2_with (first | ((with_reducible refine gate_callee (f := 17) rfl ?_); refine goesL_ (some 33) rfl rfl Try.func17 (by kernel_rfl) rfl #[] rfl (by (try simp only [List.map_toArray, List.map_cons, List.map_nil]); first | done | rfl | (simp only [List.length_drop, List.length_take]; rfl)) ?_; (with_reducible refine (credenzalaw03_awake.calls kj3  t314 _ A8.out).mono ?_); rintro e w9 ⟨rfl, hb⟩; refine ⟨_, rfl, ?_⟩; have n0_ := Aside0.mk (below_step (by repeat (first | (with_reducible first | exact HB.out | apply below_alloc | apply pw_below_drewN | apply below_drew1) | exact HB.out)) hb); clear HB; have HB := n0_; clear n0_; (try clear hb); (try clear hb2); (try clear hk); (try clear hi)))
        go_ret
        exact ⟨by first | rfl | (simp [errW_none, errW_some] <;> rfl) | (simp [*, errW_none, errW_some] <;> rfl), by repeat (first | (with_reducible first | exact HB.out | apply below_alloc | apply pw_below_drewN | apply below_drew1) | exact HB.out)⟩
      · replace c7 := Bool.eq_false_iff.mpr c7
        subst c7
        have H1 : (credenzalaw03_DotLinear.l0 kj3 l0 l1 l2 (l0.length : Int) 0) = some r := by rw [if_neg (show ¬ (false = true) by decide)] at H; exact H
        clear H
        have H := H1
        clear H1
        have H' := Aside0.mk H
        clear H
        go_wp2
        go_loopg [36] kj3 (fun kq v36 w' => ∃ (x36_2 : Int), v36 = .int .i64 x36_2 ∧ Aside0 (credenzalaw03_DotLinear.l0 kq l0 l1 l2 (l0.length : Int) x36_2 = some r) ∧ Aside0 (kq ≤ kj3) ∧ Aside0 (Below w.heap.size w w'))
        case atStart => exact ⟨(0), (by first | rfl | (simp; done) | (simp [*]; done)), H', ⟨Nat.le_refl _⟩, ⟨by repeat (first | (with_reducible first | exact HB.out | apply below_alloc | apply pw_below_drewN | apply below_drew1) | exact HB.out)⟩⟩
        case round =>
          clear H'
          try clear c1
          try clear c2
          try clear p2
          try clear c5
          try clear c5b0
          try clear c5b1
          try clear c5b2
          try clear c6
          try clear c6b0
          try clear c6b1
          try clear c6b2
          try clear c7
          try clear p2
          obtain ⟨x36_2, rfl, HA, HK2, HB⟩ := hrel
          cases gk with
          | zero => exact absurd HA.out (by simp [credenzalaw03_DotLinear.l0])
          | succ k2 =>
            have H := HA.out
            clear HA
            simp only [credenzalaw03_DotLinear.l0] at H
            by_cases c10 : x36_2 < (l0.length : Int)
            · rw [if_pos c10] at H
              have c10b0 : decide (x36_2 < (l0.length : Int)) = true := decide_eq_true c10
              clear c10
              by_cases c11 : 0 ≤ x36_2
              · rw [if_pos c11] at H
                have c11b0 : decide (0 ≤ x36_2) = true := decide_eq_true c11
                clear c11
                by_cases c12 : x36_2 < (l0.length : Int)
                · rw [if_pos c12] at H
                  have c12b0 : decide (x36_2 < (l0.length : Int)) = true := decide_eq_true c12
                  clear c12
                  by_cases c13 : (rd l0 x36_2) > 4194304
                  · rw [if_pos c13] at H
                    have c13b0 : decide (4194304 < (rd l0 x36_2)) = true := decide_eq_true c13
                    clear c13
                    replace H := Option.bind_eq_some_iff.mp H
                    obtain ⟨t316, A140, H⟩ := H
                    replace H : (some t316) = some r := H
                    have A14 := Aside0.mk A140
                    clear A140
                    obtain rfl := Option.some.inj H
                    have p315 : 0 ≤ (x36_2 : Int) := of_decide_eq_true (by first | (with_reducible assumption) | assumption)
                    have q315 : x36_2 < (l0.length : Int) := of_decide_eq_true (by first | (with_reducible assumption) | assumption)
                    obtain ⟨ad315, e315, hx315_0⟩ := Kd.at_int HR0.out x36_2 p315 q315
                    cases e315
                    replace hx315_0 := (HB.out.cell (World.block_lt_of_cell? w _ hx315_0)).trans hx315_0
                    replace p315 := eq_true p315
                    replace q315 := eq_true q315
                    go_wp2_with (first | ((with_reducible refine gate_callee (f := 17) rfl ?_); refine goesL_ (some 79) rfl rfl Try.func17 (by kernel_rfl) rfl #[] rfl (by (try simp only [List.map_toArray, List.map_cons, List.map_nil]); first | done | rfl | (simp only [List.length_drop, List.length_take]; rfl)) ?_; (with_reducible refine (credenzalaw03_awake.calls k2  t316 _ A14.out).mono ?_); rintro e w15 ⟨rfl, hb⟩; refine ⟨_, rfl, ?_⟩; have n0_ := Aside0.mk (below_step (by repeat (first | (with_reducible first | exact HB.out | apply below_alloc | apply pw_below_drewN | apply below_drew1) | exact HB.out)) hb); clear HB; have HB := n0_; clear n0_; (try clear hb); (try clear hb2); (try clear hk); (try clear hi)))
                    go_ret
                    exact ⟨by first | rfl | (simp [errW_none, errW_some] <;> rfl) | (simp [*, errW_none, errW_some] <;> rfl), by repeat (first | (with_reducible first | exact HB.out | apply below_alloc | apply pw_below_drewN | apply below_drew1) | exact HB.out)⟩
                  · rw [if_neg c13] at H
                    have c13b0 : decide (4194304 < (rd l0 x36_2)) = false := decide_eq_false c13
                    clear c13
                    by_cases c16 : (rd l0 x36_2) < (-4194304)
                    · rw [if_pos c16] at H
                      have c16b0 : decide ((rd l0 x36_2) < (-4194304)) = true := decide_eq_true c16
                      clear c16
                      replace H := Option.bind_eq_some_iff.mp H
                      obtain ⟨t318, A170, H⟩ := H
                      replace H : (some t318) = some r := H
                      have A17 := Aside0.mk A170
                      clear A170
                      obtain rfl := Option.some.inj H
                      have p315 : 0 ≤ (x36_2 : Int) := of_decide_eq_true (by first | (with_reducible assumption) | assumption)
                      have q315 : x36_2 < (l0.length : Int) := of_decide_eq_true (by first | (with_reducible assumption) | assumption)
                      obtain ⟨ad315, e315, hx315_0⟩ := Kd.at_int HR0.out x36_2 p315 q315
                      cases e315
                      replace hx315_0 := (HB.out.cell (World.block_lt_of_cell? w _ hx315_0)).trans hx315_0
                      replace p315 := eq_true p315
                      replace q315 := eq_true q315
                      have p317 : 0 ≤ (x36_2 : Int) := of_decide_eq_true (by first | (with_reducible assumption) | assumption)
                      have q317 : x36_2 < (l0.length : Int) := of_decide_eq_true (by first | (with_reducible assumption) | assumption)
                      obtain ⟨ad317, e317, hx317_0⟩ := Kd.at_int HR0.out x36_2 p317 q317
                      obtain rfl : ad315 = ad317 := (by injection e317)
                      replace hx317_0 := (HB.out.cell (World.block_lt_of_cell? w _ hx317_0)).trans hx317_0
                      replace p317 := eq_true p317
                      replace q317 := eq_true q317
                      go_wp2_with (first | ((with_reducible refine gate_callee (f := 17) rfl ?_); refine goesL_ (some 79) rfl rfl Try.func17 (by kernel_rfl) rfl #[] rfl (by (try simp only [List.map_toArray, List.map_cons, List.map_nil]); first | done | rfl | (simp only [List.length_drop, List.length_take]; rfl)) ?_; (with_reducible refine (credenzalaw03_awake.calls k2  t318 _ A17.out).mono ?_); rintro e w18 ⟨rfl, hb⟩; refine ⟨_, rfl, ?_⟩; have n0_ := Aside0.mk (below_step (by repeat (first | (with_reducible first | exact HB.out | apply below_alloc | apply pw_below_drewN | apply below_drew1) | exact HB.out)) hb); clear HB; have HB := n0_; clear n0_; (try clear hb); (try clear hb2); (try clear hk); (try clear hi)))
                      go_ret
                      exact ⟨by first | rfl | (simp [errW_none, errW_some] <;> rfl) | (simp [*, errW_none, errW_some] <;> rfl), by repeat (first | (with_reducible first | exact HB.out | apply below_alloc | apply pw_below_drewN | apply below_drew1) | exact HB.out)⟩
                    · rw [if_neg c16] at H
                      have c16b0 : decide ((rd l0 x36_2) < (-4194304)) = false := decide_eq_false c16
                      clear c16
                      by_cases c19 : x36_2 < (l1.length : Int)
                      · rw [if_pos c19] at H
                        have c19b0 : decide (x36_2 < (l1.length : Int)) = true := decide_eq_true c19
                        clear c19
                        by_cases c20 : (rd l1 x36_2) > 4194304
                        · rw [if_pos c20] at H
                          have c20b0 : decide (4194304 < (rd l1 x36_2)) = true := decide_eq_true c20
                          clear c20
                          replace H := Option.bind_eq_some_iff.mp H
                          obtain ⟨t320, A210, H⟩ := H
                          replace H : (some t320) = some r := H
                          have A21 := Aside0.mk A210
                          clear A210
                          obtain rfl := Option.some.inj H
                          have p315 : 0 ≤ (x36_2 : Int) := of_decide_eq_true (by first | (with_reducible assumption) | assumption)
                          have q315 : x36_2 < (l0.length : Int) := of_decide_eq_true (by first | (with_reducible assumption) | assumption)
                          obtain ⟨ad315, e315, hx315_0⟩ := Kd.at_int HR0.out x36_2 p315 q315
                          cases e315
                          replace hx315_0 := (HB.out.cell (World.block_lt_of_cell? w _ hx315_0)).trans hx315_0
                          replace p315 := eq_true p315
                          replace q315 := eq_true q315
                          have p317 : 0 ≤ (x36_2 : Int) := of_decide_eq_true (by first | (with_reducible assumption) | assumption)
                          have q317 : x36_2 < (l0.length : Int) := of_decide_eq_true (by first | (with_reducible assumption) | assumption)
                          obtain ⟨ad317, e317, hx317_0⟩ := Kd.at_int HR0.out x36_2 p317 q317
                          obtain rfl : ad315 = ad317 := (by injection e317)
                          replace hx317_0 := (HB.out.cell (World.block_lt_of_cell? w _ hx317_0)).trans hx317_0
                          replace p317 := eq_true p317
                          replace q317 := eq_true q317
                          have p319 : 0 ≤ (x36_2 : Int) := of_decide_eq_true (by first | (with_reducible assumption) | assumption)
                          have q319 : x36_2 < (l1.length : Int) := of_decide_eq_true (by first | (with_reducible assumption) | assumption)
                          obtain ⟨ad319, e319, hx319_0⟩ := Kd.at_int HR1.out x36_2 p319 q319
                          cases e319
                          replace hx319_0 := (HB.out.cell (World.block_lt_of_cell? w _ hx319_0)).trans hx319_0
                          replace p319 := eq_true p319
                          replace q319 := eq_true q319
                          go_wp2_with (first | ((with_reducible refine gate_callee (f := 17) rfl ?_); refine goesL_ (some 79) rfl rfl Try.func17 (by kernel_rfl) rfl #[] rfl (by (try simp only [List.map_toArray, List.map_cons, List.map_nil]); first | done | rfl | (simp only [List.length_drop, List.length_take]; rfl)) ?_; (with_reducible refine (credenzalaw03_awake.calls k2  t320 _ A21.out).mono ?_); rintro e w22 ⟨rfl, hb⟩; refine ⟨_, rfl, ?_⟩; have n0_ := Aside0.mk (below_step (by repeat (first | (with_reducible first | exact HB.out | apply below_alloc | apply pw_below_drewN | apply below_drew1) | exact HB.out)) hb); clear HB; have HB := n0_; clear n0_; (try clear hb); (try clear hb2); (try clear hk); (try clear hi)))
                          go_ret
                          exact ⟨by first | rfl | (simp [errW_none, errW_some] <;> rfl) | (simp [*, errW_none, errW_some] <;> rfl), by repeat (first | (with_reducible first | exact HB.out | apply below_alloc | apply pw_below_drewN | apply below_drew1) | exact HB.out)⟩
                        · rw [if_neg c20] at H
                          have c20b0 : decide (4194304 < (rd l1 x36_2)) = false := decide_eq_false c20
                          clear c20
                          by_cases c23 : (rd l1 x36_2) < (-4194304)
                          · rw [if_pos c23] at H
                            have c23b0 : decide ((rd l1 x36_2) < (-4194304)) = true := decide_eq_true c23
                            clear c23
                            replace H := Option.bind_eq_some_iff.mp H
                            obtain ⟨t322, A240, H⟩ := H
                            replace H : (some t322) = some r := H
                            have A24 := Aside0.mk A240
                            clear A240
                            obtain rfl := Option.some.inj H
                            have p315 : 0 ≤ (x36_2 : Int) := of_decide_eq_true (by first | (with_reducible assumption) | assumption)
                            have q315 : x36_2 < (l0.length : Int) := of_decide_eq_true (by first | (with_reducible assumption) | assumption)
                            obtain ⟨ad315, e315, hx315_0⟩ := Kd.at_int HR0.out x36_2 p315 q315
                            cases e315
                            replace hx315_0 := (HB.out.cell (World.block_lt_of_cell? w _ hx315_0)).trans hx315_0
                            replace p315 := eq_true p315
                            replace q315 := eq_true q315
                            have p317 : 0 ≤ (x36_2 : Int) := of_decide_eq_true (by first | (with_reducible assumption) | assumption)
                            have q317 : x36_2 < (l0.length : Int) := of_decide_eq_true (by first | (with_reducible assumption) | assumption)
                            obtain ⟨ad317, e317, hx317_0⟩ := Kd.at_int HR0.out x36_2 p317 q317
                            obtain rfl : ad315 = ad317 := (by injection e317)
                            replace hx317_0 := (HB.out.cell (World.block_lt_of_cell? w _ hx317_0)).trans hx317_0
                            replace p317 := eq_true p317
                            replace q317 := eq_true q317
                            have p319 : 0 ≤ (x36_2 : Int) := of_decide_eq_true (by first | (with_reducible assumption) | assumption)
                            have q319 : x36_2 < (l1.length : Int) := of_decide_eq_true (by first | (with_reducible assumption) | assumption)
                            obtain ⟨ad319, e319, hx319_0⟩ := Kd.at_int HR1.out x36_2 p319 q319
                            cases e319
                            replace hx319_0 := (HB.out.cell (World.block_lt_of_cell? w _ hx319_0)).trans hx319_0
                            replace p319 := eq_true p319
                            replace q319 := eq_true q319
                            have p321 : 0 ≤ (x36_2 : Int) := of_decide_eq_true (by first | (with_reducible assumption) | assumption)
                            have q321 : x36_2 < (l1.length : Int) := of_decide_eq_true (by first | (with_reducible assumption) | assumption)
                            obtain ⟨ad321, e321, hx321_0⟩ := Kd.at_int HR1.out x36_2 p321 q321
                            obtain rfl : ad319 = ad321 := (by injection e321)
                            replace hx321_0 := (HB.out.cell (World.block_lt_of_cell? w _ hx321_0)).trans hx321_0
                            replace p321 := eq_true p321
                            replace q321 := eq_true q321
                            go_wp2_with (first | ((with_reducible refine gate_callee (f := 17) rfl ?_); refine goesL_ (some 79) rfl rfl Try.func17 (by kernel_rfl) rfl #[] rfl (by (try simp only [List.map_toArray, List.map_cons, List.map_nil]); first | done | rfl | (simp only [List.length_drop, List.length_take]; rfl)) ?_; (with_reducible refine (credenzalaw03_awake.calls k2  t322 _ A24.out).mono ?_); rintro e w25 ⟨rfl, hb⟩; refine ⟨_, rfl, ?_⟩; have n0_ := Aside0.mk (below_step (by repeat (first | (with_reducible first | exact HB.out | apply below_alloc | apply pw_below_drewN | apply below_drew1) | exact HB.out)) hb); clear HB; have HB := n0_; clear n0_; (try clear hb); (try clear hb2); (try clear hk); (try clear hi)))
                            go_ret
                            exact ⟨by first | rfl | (simp [errW_none, errW_some] <;> rfl) | (simp [*, errW_none, errW_some] <;> rfl), by repeat (first | (with_reducible first | exact HB.out | apply below_alloc | apply pw_below_drewN | apply below_drew1) | exact HB.out)⟩
                          · rw [if_neg c23] at H
                            have c23b0 : decide ((rd l1 x36_2) < (-4194304)) = false := decide_eq_false c23
                            clear c23
                            by_cases c26 : x36_2 < (l2.length : Int)
                            · rw [if_pos c26] at H
                              have c26b0 : decide (x36_2 < (l2.length : Int)) = true := decide_eq_true c26
                              clear c26
                              by_cases c27 : (rd l2 x36_2) > 16777216
                              · rw [if_pos c27] at H
                                have c27b0 : decide (16777216 < (rd l2 x36_2)) = true := decide_eq_true c27
                                clear c27
                                replace H := Option.bind_eq_some_iff.mp H
                                obtain ⟨t324, A280, H⟩ := H
                                replace H : (some t324) = some r := H
                                have A28 := Aside0.mk A280
                                clear A280
                                obtain rfl := Option.some.inj H
                                have p315 : 0 ≤ (x36_2 : Int) := of_decide_eq_true (by first | (with_reducible assumption) | assumption)
                                have q315 : x36_2 < (l0.length : Int) := of_decide_eq_true (by first | (with_reducible assumption) | assumption)
                                obtain ⟨ad315, e315, hx315_0⟩ := Kd.at_int HR0.out x36_2 p315 q315
                                cases e315
                                replace hx315_0 := (HB.out.cell (World.block_lt_of_cell? w _ hx315_0)).trans hx315_0
                                replace p315 := eq_true p315
                                replace q315 := eq_true q315
                                have p317 : 0 ≤ (x36_2 : Int) := of_decide_eq_true (by first | (with_reducible assumption) | assumption)
                                have q317 : x36_2 < (l0.length : Int) := of_decide_eq_true (by first | (with_reducible assumption) | assumption)
                                obtain ⟨ad317, e317, hx317_0⟩ := Kd.at_int HR0.out x36_2 p317 q317
                                obtain rfl : ad315 = ad317 := (by injection e317)
                                replace hx317_0 := (HB.out.cell (World.block_lt_of_cell? w _ hx317_0)).trans hx317_0
                                replace p317 := eq_true p317
                                replace q317 := eq_true q317
                                have p319 : 0 ≤ (x36_2 : Int) := of_decide_eq_true (by first | (with_reducible assumption) | assumption)
                                have q319 : x36_2 < (l1.length : Int) := of_decide_eq_true (by first | (with_reducible assumption) | assumption)
                                obtain ⟨ad319, e319, hx319_0⟩ := Kd.at_int HR1.out x36_2 p319 q319
                                cases e319
                                replace hx319_0 := (HB.out.cell (World.block_lt_of_cell? w _ hx319_0)).trans hx319_0
                                replace p319 := eq_true p319
                                replace q319 := eq_true q319
                                have p321 : 0 ≤ (x36_2 : Int) := of_decide_eq_true (by first | (with_reducible assumption) | assumption)
                                have q321 : x36_2 < (l1.length : Int) := of_decide_eq_true (by first | (with_reducible assumption) | assumption)
                                obtain ⟨ad321, e321, hx321_0⟩ := Kd.at_int HR1.out x36_2 p321 q321
                                obtain rfl : ad319 = ad321 := (by injection e321)
                                replace hx321_0 := (HB.out.cell (World.block_lt_of_cell? w _ hx321_0)).trans hx321_0
                                replace p321 := eq_true p321
                                replace q321 := eq_true q321
                                have p323 : 0 ≤ (x36_2 : Int) := of_decide_eq_true (by first | (with_reducible assumption) | assumption)
                                have q323 : x36_2 < (l2.length : Int) := of_decide_eq_true (by first | (with_reducible assumption) | assumption)
                                obtain ⟨ad323, e323, hx323_0⟩ := Kd.at_int HR2.out x36_2 p323 q323
                                cases e323
                                replace hx323_0 := (HB.out.cell (World.block_lt_of_cell? w _ hx323_0)).trans hx323_0
                                replace p323 := eq_true p323
                                replace q323 := eq_true q323
                                go_wp2_with (first | ((with_reducible refine gate_callee (f := 17) rfl ?_); refine goesL_ (some 79) rfl rfl Try.func17 (by kernel_rfl) rfl #[] rfl (by (try simp only [List.map_toArray, List.map_cons, List.map_nil]); first | done | rfl | (simp only [List.length_drop, List.length_take]; rfl)) ?_; (with_reducible refine (credenzalaw03_awake.calls k2  t324 _ A28.out).mono ?_); rintro e w29 ⟨rfl, hb⟩; refine ⟨_, rfl, ?_⟩; have n0_ := Aside0.mk (below_step (by repeat (first | (with_reducible first | exact HB.out | apply below_alloc | apply pw_below_drewN | apply below_drew1) | exact HB.out)) hb); clear HB; have HB := n0_; clear n0_; (try clear hb); (try clear hb2); (try clear hk); (try clear hi)))
                                go_ret
                                exact ⟨by first | rfl | (simp [errW_none, errW_some] <;> rfl) | (simp [*, errW_none, errW_some] <;> rfl), by repeat (first | (with_reducible first | exact HB.out | apply below_alloc | apply pw_below_drewN | apply below_drew1) | exact HB.out)⟩
                              · rw [if_neg c27] at H
                                have c27b0 : decide (16777216 < (rd l2 x36_2)) = false := decide_eq_false c27
                                clear c27
                                by_cases c30 : (rd l2 x36_2) < (-16777216)
                                · rw [if_pos c30] at H
                                  have c30b0 : decide ((rd l2 x36_2) < (-16777216)) = true := decide_eq_true c30
                                  clear c30
                                  replace H := Option.bind_eq_some_iff.mp H
                                  obtain ⟨t326, A310, H⟩ := H
                                  replace H : (some t326) = some r := H
                                  have A31 := Aside0.mk A310
                                  clear A310
                                  obtain rfl := Option.some.inj H
                                  have p315 : 0 ≤ (x36_2 : Int) := of_decide_eq_true (by first | (with_reducible assumption) | assumption)
                                  have q315 : x36_2 < (l0.length : Int) := of_decide_eq_true (by first | (with_reducible assumption) | assumption)
                                  obtain ⟨ad315, e315, hx315_0⟩ := Kd.at_int HR0.out x36_2 p315 q315
                                  cases e315
                                  replace hx315_0 := (HB.out.cell (World.block_lt_of_cell? w _ hx315_0)).trans hx315_0
                                  replace p315 := eq_true p315
                                  replace q315 := eq_true q315
                                  have p317 : 0 ≤ (x36_2 : Int) := of_decide_eq_true (by first | (with_reducible assumption) | assumption)
                                  have q317 : x36_2 < (l0.length : Int) := of_decide_eq_true (by first | (with_reducible assumption) | assumption)
                                  obtain ⟨ad317, e317, hx317_0⟩ := Kd.at_int HR0.out x36_2 p317 q317
                                  obtain rfl : ad315 = ad317 := (by injection e317)
                                  replace hx317_0 := (HB.out.cell (World.block_lt_of_cell? w _ hx317_0)).trans hx317_0
                                  replace p317 := eq_true p317
                                  replace q317 := eq_true q317
                                  have p319 : 0 ≤ (x36_2 : Int) := of_decide_eq_true (by first | (with_reducible assumption) | assumption)
                                  have q319 : x36_2 < (l1.length : Int) := of_decide_eq_true (by first | (with_reducible assumption) | assumption)
                                  obtain ⟨ad319, e319, hx319_0⟩ := Kd.at_int HR1.out x36_2 p319 q319
                                  cases e319
                                  replace hx319_0 := (HB.out.cell (World.block_lt_of_cell? w _ hx319_0)).trans hx319_0
                                  replace p319 := eq_true p319
                                  replace q319 := eq_true q319
                                  have p321 : 0 ≤ (x36_2 : Int) := of_decide_eq_true (by first | (with_reducible assumption) | assumption)
                                  have q321 : x36_2 < (l1.length : Int) := of_decide_eq_true (by first | (with_reducible assumption) | assumption)
                                  obtain ⟨ad321, e321, hx321_0⟩ := Kd.at_int HR1.out x36_2 p321 q321
                                  obtain rfl : ad319 = ad321 := (by injection e321)
                                  replace hx321_0 := (HB.out.cell (World.block_lt_of_cell? w _ hx321_0)).trans hx321_0
                                  replace p321 := eq_true p321
                                  replace q321 := eq_true q321
                                  have p323 : 0 ≤ (x36_2 : Int) := of_decide_eq_true (by first | (with_reducible assumption) | assumption)
                                  have q323 : x36_2 < (l2.length : Int) := of_decide_eq_true (by first | (with_reducible assumption) | assumption)
                                  obtain ⟨ad323, e323, hx323_0⟩ := Kd.at_int HR2.out x36_2 p323 q323
                                  cases e323
                                  replace hx323_0 := (HB.out.cell (World.block_lt_of_cell? w _ hx323_0)).trans hx323_0
                                  replace p323 := eq_true p323
                                  replace q323 := eq_true q323
                                  have p325 : 0 ≤ (x36_2 : Int) := of_decide_eq_true (by first | (with_reducible assumption) | assumption)
                                  have q325 : x36_2 < (l2.length : Int) := of_decide_eq_true (by first | (with_reducible assumption) | assumption)
                                  obtain ⟨ad325, e325, hx325_0⟩ := Kd.at_int HR2.out x36_2 p325 q325
                                  obtain rfl : ad323 = ad325 := (by injection e325)
                                  replace hx325_0 := (HB.out.cell (World.block_lt_of_cell? w _ hx325_0)).trans hx325_0
                                  replace p325 := eq_true p325
                                  replace q325 := eq_true q325
                                  go_wp2_with (first | ((with_reducible refine gate_callee (f := 17) rfl ?_); refine goesL_ (some 79) rfl rfl Try.func17 (by kernel_rfl) rfl #[] rfl (by (try simp only [List.map_toArray, List.map_cons, List.map_nil]); first | done | rfl | (simp only [List.length_drop, List.length_take]; rfl)) ?_; (with_reducible refine (credenzalaw03_awake.calls k2  t326 _ A31.out).mono ?_); rintro e w32 ⟨rfl, hb⟩; refine ⟨_, rfl, ?_⟩; have n0_ := Aside0.mk (below_step (by repeat (first | (with_reducible first | exact HB.out | apply below_alloc | apply pw_below_drewN | apply below_drew1) | exact HB.out)) hb); clear HB; have HB := n0_; clear n0_; (try clear hb); (try clear hb2); (try clear hk); (try clear hi)))
                                  go_ret
                                  exact ⟨by first | rfl | (simp [errW_none, errW_some] <;> rfl) | (simp [*, errW_none, errW_some] <;> rfl), by repeat (first | (with_reducible first | exact HB.out | apply below_alloc | apply pw_below_drewN | apply below_drew1) | exact HB.out)⟩
                                · rw [if_neg c30] at H
                                  have c30b0 : decide ((rd l2 x36_2) < (-16777216)) = false := decide_eq_false c30
                                  clear c30
                                  have H' := Aside0.mk H
                                  clear H
                                  have p315 : 0 ≤ (x36_2 : Int) := of_decide_eq_true (by first | (with_reducible assumption) | assumption)
                                  have q315 : x36_2 < (l0.length : Int) := of_decide_eq_true (by first | (with_reducible assumption) | assumption)
                                  obtain ⟨ad315, e315, hx315_0⟩ := Kd.at_int HR0.out x36_2 p315 q315
                                  cases e315
                                  replace hx315_0 := (HB.out.cell (World.block_lt_of_cell? w _ hx315_0)).trans hx315_0
                                  replace p315 := eq_true p315
                                  replace q315 := eq_true q315
                                  have p317 : 0 ≤ (x36_2 : Int) := of_decide_eq_true (by first | (with_reducible assumption) | assumption)
                                  have q317 : x36_2 < (l0.length : Int) := of_decide_eq_true (by first | (with_reducible assumption) | assumption)
                                  obtain ⟨ad317, e317, hx317_0⟩ := Kd.at_int HR0.out x36_2 p317 q317
                                  obtain rfl : ad315 = ad317 := (by injection e317)
                                  replace hx317_0 := (HB.out.cell (World.block_lt_of_cell? w _ hx317_0)).trans hx317_0
                                  replace p317 := eq_true p317
                                  replace q317 := eq_true q317
                                  have p319 : 0 ≤ (x36_2 : Int) := of_decide_eq_true (by first | (with_reducible assumption) | assumption)
                                  have q319 : x36_2 < (l1.length : Int) := of_decide_eq_true (by first | (with_reducible assumption) | assumption)
                                  obtain ⟨ad319, e319, hx319_0⟩ := Kd.at_int HR1.out x36_2 p319 q319
                                  cases e319
                                  replace hx319_0 := (HB.out.cell (World.block_lt_of_cell? w _ hx319_0)).trans hx319_0
                                  replace p319 := eq_true p319
                                  replace q319 := eq_true q319
                                  have p321 : 0 ≤ (x36_2 : Int) := of_decide_eq_true (by first | (with_reducible assumption) | assumption)
                                  have q321 : x36_2 < (l1.length : Int) := of_decide_eq_true (by first | (with_reducible assumption) | assumption)
                                  obtain ⟨ad321, e321, hx321_0⟩ := Kd.at_int HR1.out x36_2 p321 q321
                                  obtain rfl : ad319 = ad321 := (by injection e321)
                                  replace hx321_0 := (HB.out.cell (World.block_lt_of_cell? w _ hx321_0)).trans hx321_0
                                  replace p321 := eq_true p321
                                  replace q321 := eq_true q321
                                  have p323 : 0 ≤ (x36_2 : Int) := of_decide_eq_true (by first | (with_reducible assumption) | assumption)
                                  have q323 : x36_2 < (l2.length : Int) := of_decide_eq_true (by first | (with_reducible assumption) | assumption)
                                  obtain ⟨ad323, e323, hx323_0⟩ := Kd.at_int HR2.out x36_2 p323 q323
                                  cases e323
                                  replace hx323_0 := (HB.out.cell (World.block_lt_of_cell? w _ hx323_0)).trans hx323_0
                                  replace p323 := eq_true p323
                                  replace q323 := eq_true q323
                                  have p325 : 0 ≤ (x36_2 : Int) := of_decide_eq_true (by first | (with_reducible assumption) | assumption)
                                  have q325 : x36_2 < (l2.length : Int) := of_decide_eq_true (by first | (with_reducible assumption) | assumption)
                                  obtain ⟨ad325, e325, hx325_0⟩ := Kd.at_int HR2.out x36_2 p325 q325
                                  obtain rfl : ad323 = ad325 := (by injection e325)
                                  replace hx325_0 := (HB.out.cell (World.block_lt_of_cell? w _ hx325_0)).trans hx325_0
                                  replace p325 := eq_true p325
                                  replace q325 := eq_true q325
                                  go_wp2
                                  go_roundg k2
                                  case measure => have := HJ3.out; have := HK2.out; omega
                                  case rel => exact ⟨(wrap64 (x36_2 + 1)), (by first | rfl | (simp; done) | (simp [*]; done)), H', ⟨by have := HJ3.out; have := HK2.out; omega⟩, ⟨by repeat (first | (with_reducible first | exact HB.out | apply below_alloc | apply pw_below_drewN | apply below_drew1) | exact HB.out)⟩⟩
                            · rw [if_neg c26] at H
                              exact absurd H (by simp)
                      · rw [if_neg c19] at H
                        exact absurd H (by simp)
                · rw [if_neg c12] at H
                  exact absurd H (by simp)
              · rw [if_neg c11] at H
                exact absurd H (by simp)
            · rw [if_neg c10] at H
              have c10b0 : decide (x36_2 < (l0.length : Int)) = false := decide_eq_false c10
              clear c10
              replace H := Option.bind_eq_some_iff.mp H
              obtain ⟨⟨t327, t328⟩, A330, H⟩ := H
              replace H : ((dot_Dot.f k2 t327 l2).bind fun bt331 => ((dot_Dot.f k2 l0 l2).bind fun bt333 => ((dot_Dot.f k2 l1 l2).bind fun bt335 => (if t328 = 0 then (if bt331.2 = 0 then (if bt333.2 = 0 then (if bt335.2 = 0 then (if bt331.1 = (wrap64 (bt333.1 + bt335.1)) then ((credenzalaw03_awake.f k2).bind fun t337 => (some t337)) else (some false)) else (some false)) else (some false)) else (some false)) else (some false))))) = some r := H
              have A33 := Aside0.mk A330
              clear A330
              replace H := Option.bind_eq_some_iff.mp H
              obtain ⟨⟨t331, t332⟩, A340, H⟩ := H
              replace H : ((dot_Dot.f k2 l0 l2).bind fun bt333 => ((dot_Dot.f k2 l1 l2).bind fun bt335 => (if t328 = 0 then (if t332 = 0 then (if bt333.2 = 0 then (if bt335.2 = 0 then (if t331 = (wrap64 (bt333.1 + bt335.1)) then ((credenzalaw03_awake.f k2).bind fun t337 => (some t337)) else (some false)) else (some false)) else (some false)) else (some false)) else (some false)))) = some r := H
              have A34 := Aside0.mk A340
              clear A340
              replace H := Option.bind_eq_some_iff.mp H
              obtain ⟨⟨t333, t334⟩, A350, H⟩ := H
              replace H : ((dot_Dot.f k2 l1 l2).bind fun bt335 => (if t328 = 0 then (if t332 = 0 then (if t334 = 0 then (if bt335.2 = 0 then (if t331 = (wrap64 (t333 + bt335.1)) then ((credenzalaw03_awake.f k2).bind fun t337 => (some t337)) else (some false)) else (some false)) else (some false)) else (some false)) else (some false))) = some r := H
              have A35 := Aside0.mk A350
              clear A350
              replace H := Option.bind_eq_some_iff.mp H
              obtain ⟨⟨t335, t336⟩, A360, H⟩ := H
              replace H : (if t328 = 0 then (if t332 = 0 then (if t334 = 0 then (if t336 = 0 then (if t331 = (wrap64 (t333 + t335)) then ((credenzalaw03_awake.f k2).bind fun t337 => (some t337)) else (some false)) else (some false)) else (some false)) else (some false)) else (some false)) = some r := H
              have A36 := Aside0.mk A360
              clear A360
              by_cases c37 : t328 = 0
              · rw [if_pos c37] at H
                have c37b0 : (t328 == 0) = true := beq_iff_eq.mpr c37
                have c37b1 : (t328 != 0) = false := bne_eq_false_iff_eq.mpr c37
                clear c37
                by_cases c38 : t332 = 0
                · rw [if_pos c38] at H
                  have c38b0 : (t332 == 0) = true := beq_iff_eq.mpr c38
                  have c38b1 : (t332 != 0) = false := bne_eq_false_iff_eq.mpr c38
                  clear c38
                  by_cases c39 : t334 = 0
                  · rw [if_pos c39] at H
                    have c39b0 : (t334 == 0) = true := beq_iff_eq.mpr c39
                    have c39b1 : (t334 != 0) = false := bne_eq_false_iff_eq.mpr c39
                    clear c39
                    by_cases c40 : t336 = 0
                    · rw [if_pos c40] at H
                      have c40b0 : (t336 == 0) = true := beq_iff_eq.mpr c40
                      have c40b1 : (t336 != 0) = false := bne_eq_false_iff_eq.mpr c40
                      clear c40
                      by_cases c41 : t331 = (wrap64 (t333 + t335))
                      · rw [if_pos c41] at H
                        have c41b0 : (t331 == (wrap64 (t333 + t335))) = true := beq_iff_eq.mpr c41
                        have c41b1 : (t331 != (wrap64 (t333 + t335))) = false := bne_eq_false_iff_eq.mpr c41
                        clear c41
                        replace H := Option.bind_eq_some_iff.mp H
                        obtain ⟨t337, A420, H⟩ := H
                        replace H : (some t337) = some r := H
                        have A42 := Aside0.mk A420
                        clear A420
                        obtain rfl := Option.some.inj H
                        go_wp2_with (first | ((with_reducible refine gate_callee (f := 21) rfl ?_); refine goesL_ (some 84) rfl rfl Try.func21 (by kernel_rfl) rfl #[.slice A0 l0.length c0, .slice A1 l1.length c1] rfl (by (try simp only [List.map_toArray, List.map_cons, List.map_nil]); first | done | rfl | (simp only [List.length_drop, List.length_take]; rfl)) ?_; (with_reducible refine (dot_Add.calls k2 _ _ l0 _ _ l1 t327 t328 _ ?side1 ?side2 ?side3 ?side4 A33.out).mono ?_); (case side1 => repeat (first | exact (Kd.C_below HR0.out HB.out) | (with_reducible refine Kd.C_alloc ?_ _) | (with_reducible refine Kd.C_drewN ?_ _) | (with_reducible refine Kd.C_drew ?_))); (case side2 => exact HC0.out); (case side3 => repeat (first | exact (Kd.C_below HR1.out HB.out) | (with_reducible refine Kd.C_alloc ?_ _) | (with_reducible refine Kd.C_drewN ?_ _) | (with_reducible refine Kd.C_drew ?_))); (case side4 => exact HC1.out); rintro e w43 ⟨v329, rfl, ho0, hb⟩; refine ⟨_, rfl, ?_⟩; have n0_ := Aside0.mk (Kd.R_lower ho0 (below_size (by repeat (first | (with_reducible first | exact HB.out | apply below_alloc | apply pw_below_drewN | apply below_drew1) | exact HB.out)))); have n1_ := Aside0.mk (below_step (by repeat (first | (with_reducible first | exact HB.out | apply below_alloc | apply pw_below_drewN | apply below_drew1) | exact HB.out)) hb); clear HB; have HO330 := n0_; have HB := n1_; clear n0_ n1_; (try clear hb); (try clear hb2); (try clear hk); (try clear hi); (try clear ho0); obtain ⟨Ao44, co44, eo44⟩ := Kd.R_slice HO330.out; subst eo44) | ((with_reducible refine gate_callee (f := 15) rfl ?_); refine goesL_ (some 90) rfl rfl Try.func15 (by kernel_rfl) rfl #[.slice Ao44 t327.length co44, .slice A2 l2.length c2] rfl (by (try simp only [List.map_toArray, List.map_cons, List.map_nil]); first | done | rfl | (simp only [List.length_drop, List.length_take]; rfl)) ?_; (with_reducible refine (dot_Dot.calls k2 _ _ t327 _ _ l2 t331 t332 _ ?side1 ?side2 ?side3 ?side4 A34.out).mono ?_); (case side1 => repeat (first | exact (Kd.R_reads' HO330.out).2.2 | (with_reducible refine Kd.C_alloc ?_ _) | (with_reducible refine Kd.C_drewN ?_ _) | (with_reducible refine Kd.C_drew ?_))); (case side2 => exact (Kd.R_reads' HO330.out).2.1); (case side3 => repeat (first | exact (Kd.C_below HR2.out HB.out) | (with_reducible refine Kd.C_alloc ?_ _) | (with_reducible refine Kd.C_drewN ?_ _) | (with_reducible refine Kd.C_drew ?_))); (case side4 => exact HC2.out); rintro e w' ⟨rfl, ⟨nd, rfl⟩⟩; refine ⟨_, rfl, ?_⟩) | ((with_reducible refine gate_callee (f := 15) rfl ?_); refine goesL_ (some 96) rfl rfl Try.func15 (by kernel_rfl) rfl #[.slice A0 l0.length c0, .slice A2 l2.length c2] rfl (by (try simp only [List.map_toArray, List.map_cons, List.map_nil]); first | done | rfl | (simp only [List.length_drop, List.length_take]; rfl)) ?_; (with_reducible refine (dot_Dot.calls k2 _ _ l0 _ _ l2 t333 t334 _ ?side1 ?side2 ?side3 ?side4 A35.out).mono ?_); (case side1 => repeat (first | exact (Kd.C_below HR0.out (by repeat (first | (with_reducible first | exact HB.out | apply below_alloc | apply pw_below_drewN | apply below_drew1) | exact HB.out))) | (with_reducible refine Kd.C_alloc ?_ _) | (with_reducible refine Kd.C_drewN ?_ _) | (with_reducible refine Kd.C_drew ?_))); (case side2 => exact HC0.out); (case side3 => repeat (first | exact (Kd.C_below HR2.out (by repeat (first | (with_reducible first | exact HB.out | apply below_alloc | apply pw_below_drewN | apply below_drew1) | exact HB.out))) | (with_reducible refine Kd.C_alloc ?_ _) | (with_reducible refine Kd.C_drewN ?_ _) | (with_reducible refine Kd.C_drew ?_))); (case side4 => exact HC2.out); rintro e w' ⟨rfl, ⟨nd, rfl⟩⟩; refine ⟨_, rfl, ?_⟩) | ((with_reducible refine gate_callee (f := 15) rfl ?_); refine goesL_ (some 102) rfl rfl Try.func15 (by kernel_rfl) rfl #[.slice A1 l1.length c1, .slice A2 l2.length c2] rfl (by (try simp only [List.map_toArray, List.map_cons, List.map_nil]); first | done | rfl | (simp only [List.length_drop, List.length_take]; rfl)) ?_; (with_reducible refine (dot_Dot.calls k2 _ _ l1 _ _ l2 t335 t336 _ ?side1 ?side2 ?side3 ?side4 A36.out).mono ?_); (case side1 => repeat (first | exact (Kd.C_below HR1.out (by repeat (first | (with_reducible first | exact HB.out | apply below_alloc | apply pw_below_drewN | apply below_drew1) | exact HB.out))) | (with_reducible refine Kd.C_alloc ?_ _) | (with_reducible refine Kd.C_drewN ?_ _) | (with_reducible refine Kd.C_drew ?_))); (case side2 => exact HC1.out); (case side3 => repeat (first | exact (Kd.C_below HR2.out (by repeat (first | (with_reducible first | exact HB.out | apply below_alloc | apply pw_below_drewN | apply below_drew1) | exact HB.out))) | (with_reducible refine Kd.C_alloc ?_ _) | (with_reducible refine Kd.C_drewN ?_ _) | (with_reducible refine Kd.C_drew ?_))); (case side4 => exact HC2.out); rintro e w' ⟨rfl, ⟨nd, rfl⟩⟩; refine ⟨_, rfl, ?_⟩) | (go_at_call 17; (with_reducible refine (credenzalaw03_awake.calls k2  t337 _ A42.out).mono ?_); rintro e w45 ⟨rfl, hb⟩; have n0_ := Aside0.mk (Kd.R_below (by (with_reducible repeat (first | apply Kd.R_alloc | apply Kd.R_drewN | apply Kd.R_drew)); exact HO330.out) hb); have n1_ := Aside0.mk (below_step (by repeat (first | (with_reducible first | exact HB.out | apply below_alloc | apply pw_below_drewN | apply below_drew1) | exact HB.out)) hb); clear HO330; clear HB; have HO330 := n0_; have HB := n1_; clear n0_ n1_; (try clear hb); (try clear hb2); (try clear hk); (try clear hi)))
                        go_ret
                        exact ⟨by first | rfl | (simp [errW_none, errW_some] <;> rfl) | (simp [*, errW_none, errW_some] <;> rfl), by repeat (first | (with_reducible first | exact HB.out | apply below_alloc | apply pw_below_drewN | apply below_drew1) | exact HB.out)⟩
                      · rw [if_neg c41] at H
                        have c41b0 : (t331 == (wrap64 (t333 + t335))) = false := beq_eq_false_iff_ne.mpr c41
                        have c41b1 : (t331 != (wrap64 (t333 + t335))) = true := bne_iff_ne.mpr c41
                        exact absurd (H.trans (congrArg some HRT.out)) (by simp)
                    · rw [if_neg c40] at H
                      have c40b0 : (t336 == 0) = false := beq_eq_false_iff_ne.mpr c40
                      have c40b1 : (t336 != 0) = true := bne_iff_ne.mpr c40
                      exact absurd (H.trans (congrArg some HRT.out)) (by simp)
                  · rw [if_neg c39] at H
                    have c39b0 : (t334 == 0) = false := beq_eq_false_iff_ne.mpr c39
                    have c39b1 : (t334 != 0) = true := bne_iff_ne.mpr c39
                    exact absurd (H.trans (congrArg some HRT.out)) (by simp)
                · rw [if_neg c38] at H
                  have c38b0 : (t332 == 0) = false := beq_eq_false_iff_ne.mpr c38
                  have c38b1 : (t332 != 0) = true := bne_iff_ne.mpr c38
                  exact absurd (H.trans (congrArg some HRT.out)) (by simp)
              · rw [if_neg c37] at H
                have c37b0 : (t328 == 0) = false := beq_eq_false_iff_ne.mpr c37
                have c37b1 : (t328 != 0) = true := bne_iff_ne.mpr c37
                exact absurd (H.trans (congrArg some HRT.out)) (by simp)

/-- THE ONE PURE STATEMENT of credenzalaw03_DotLinear: yours. -/
def credenzalaw03_DotLinear.Pure : Prop := ∀ (l0 : List Int) (l1 : List Int) (l2 : List Int), l0.length ≤ maxLen → l0.length * 4 ≤ 140737488351232 → (∀ x ∈ l0, (Lit.int .i32 x).wf = true) → l1.length ≤ maxLen → l1.length * 4 ≤ 140737488351232 → (∀ x ∈ l1, (Lit.int .i32 x).wf = true) → l2.length ≤ maxLen → l2.length * 4 ≤ 140737488351232 → (∀ x ∈ l2, (Lit.int .i32 x).wf = true) → ∃ k, credenzalaw03_DotLinear.f k l0 l1 l2 = some true
theorem credenzalaw03_DotLinear.walk (P : credenzalaw03_DotLinear.Pure) (a0 : Option Addr) (len0 cap0 : Nat) (z0 : List Int) (a1 : Option Addr) (len1 cap1 : Nat) (z1 : List Int) (a2 : Option Addr) (len2 cap2 : Nat) (z2 : List Int) (w : World) (w0 : (a0 = none ∧ len0 = 0 ∧ cap0 = 0 ∧ z0 = []) ∨ ∃ x, a0 = some x ∧ len0 ≤ cap0 ∧ cap0 ≤ maxLen ∧ z0.length = cap0 ∧ (∀ i, i < z0.length → w.cell? (x.add i) = some (.int .i32 (z0.getD i 0))) ∧ ∀ n ∈ z0, (Lit.int .i32 n).wf = true) (y0 : len0 * 4 ≤ 140737488351232) (w1 : (a1 = none ∧ len1 = 0 ∧ cap1 = 0 ∧ z1 = []) ∨ ∃ x, a1 = some x ∧ len1 ≤ cap1 ∧ cap1 ≤ maxLen ∧ z1.length = cap1 ∧ (∀ i, i < z1.length → w.cell? (x.add i) = some (.int .i32 (z1.getD i 0))) ∧ ∀ n ∈ z1, (Lit.int .i32 n).wf = true) (y1 : len1 * 4 ≤ 140737488351232) (w2 : (a2 = none ∧ len2 = 0 ∧ cap2 = 0 ∧ z2 = []) ∨ ∃ x, a2 = some x ∧ len2 ≤ cap2 ∧ cap2 ≤ maxLen ∧ z2.length = cap2 ∧ (∀ i, i < z2.length → w.cell? (x.add i) = some (.int .i32 (z2.getD i 0))) ∧ ∀ n ∈ z2, (Lit.int .i32 n).wf = true) (y2 : len2 * 4 ≤ 140737488351232) :
    Calls Try.prog 7 #[.slice a0 len0 cap0, .slice a1 len1 cap1, .slice a2 len2 cap2] w fun e w' => e = .returned (.bool true) ∧ Below w.heap.size w w' := by
  obtain ⟨l0, rfl, hr0, hm0, hw0, hc0⟩ := ReadsInt.ofRowC w0
  obtain ⟨l1, rfl, hr1, hm1, hw1, hc1⟩ := ReadsInt.ofRowC w1
  obtain ⟨l2, rfl, hr2, hm2, hw2, hc2⟩ := ReadsInt.ofRowC w2
  obtain ⟨k, h⟩ := P l0 l1 l2 hm0 y0 hw0 hm1 y1 hw1 hm2 y2 hw2
  refine (credenzalaw03_DotLinear.calls k _ _ l0 _ _ l1 _ _ l2 true w (Kd.C_of_reads (d := (0 : Int)) (h1 := fun _ => rfl) hr0) hc0 (Kd.C_of_reads (d := (0 : Int)) (h1 := fun _ => rfl) hr1) hc1 (Kd.C_of_reads (d := (0 : Int)) (h1 := fun _ => rfl) hr2) hc2 h rfl).mono ?_
  rintro e w' ⟨rfl, hd⟩
  exact ⟨rfl, hd⟩

/-! ### mat_Mat_Right_1: function 64 -/
def mat_Mat_Right_1.f (a0 : Int) : Option (Bool) := if a0 < (-1048576) then (some true) else (some (decide (a0 > 1048576)))
set_option maxHeartbeats 8000000 in
set_option maxRecDepth 100000 in
theorem mat_Mat_Right_1.calls (a0 : Int) (r : Bool) (w : World) (h : mat_Mat_Right_1.f a0 = some r) :
    Calls Try.prog 64 #[.int .i32 a0] w fun e w' => e = .returned (.bool r) ∧ Drawn0 w w' := by
  have H : (if a0 < (-1048576) then (some true) else (some (decide (a0 > 1048576)))) = some r := h
  clear h
  by_cases c2 : a0 < (-1048576)
  · rw [if_pos c2] at H
    have c2b0 : decide (a0 < (-1048576)) = true := decide_eq_true c2
    clear c2
    obtain rfl := Option.some.inj H
    go_enter Try.func64, Try.ntmps64
    go_wp2
    go_ret
    exact ⟨by first | rfl | (simp; done) | (simp [*]; done), by repeat (first | exact Drawn0.refl _ | apply Drawn0.step)⟩
  · rw [if_neg c2] at H
    have c2b0 : decide (a0 < (-1048576)) = false := decide_eq_false c2
    clear c2
    obtain rfl := Option.some.inj H
    go_enter Try.func64, Try.ntmps64
    go_wp2
    go_ret
    exact ⟨by first | rfl | (simp; done) | (simp [*]; done), by repeat (first | exact Drawn0.refl _ | apply Drawn0.step)⟩

/-! ### mat_sized: function 65 -/
def mat_sized.f (a0 : Int) : Option (Bool) := if a0 ≥ 1 then (some (decide (a0 ≤ 64))) else (some false)
set_option maxHeartbeats 8000000 in
set_option maxRecDepth 100000 in
theorem mat_sized.calls (a0 : Int) (r : Bool) (w : World) (h : mat_sized.f a0 = some r) :
    Calls Try.prog 65 #[.int .i64 a0] w fun e w' => e = .returned (.bool r) ∧ Drawn0 w w' := by
  have H : (if a0 ≥ 1 then (some (decide (a0 ≤ 64))) else (some false)) = some r := h
  clear h
  by_cases c2 : a0 ≥ 1
  · rw [if_pos c2] at H
    have c2b0 : decide (1 ≤ a0) = true := decide_eq_true c2
    clear c2
    obtain rfl := Option.some.inj H
    go_enter Try.func65, Try.ntmps65
    go_wp2
    go_ret
    exact ⟨by first | rfl | (simp; done) | (simp [*]; done), by repeat (first | exact Drawn0.refl _ | apply Drawn0.step)⟩
  · rw [if_neg c2] at H
    have c2b0 : decide (1 ≤ a0) = false := decide_eq_false c2
    clear c2
    obtain rfl := Option.some.inj H
    go_enter Try.func65, Try.ntmps65
    go_wp2
    go_ret
    exact ⟨by first | rfl | (simp; done) | (simp [*]; done), by repeat (first | exact Drawn0.refl _ | apply Drawn0.step)⟩

end Go.Proofs.Ytmndomlpdajjmab.Q
