-- Ytmndomlpdajjmab: the machine side of the statements, written by a program of the session.
import Derived.Test.YtmndomlpdajjmabSwx0
import Derived.Test.YtmndomlpdajjmabSwx1
import Derived.Test.YtmndomlpdajjmabSwx3
import Derived.Test.YtmndomlpdajjmabSwx4
namespace Go.Proofs.Ytmndomlpdajjmab.Sw
open Go.RowKit Go.Proofs.YtmndomlpdajjmabW.PrintWords Go.Proofs.YtmndomlpdajjmabW.PrintLast Go.Proofs.YtmndomlpdajjmabW.PrintMore
attribute [local go_sem] max2_int min2_int max_two min_two max_three min_three max_four min_four   -- for this text's walks alone
set_option linter.unusedVariables false
set_option linter.unusedSimpArgs false

/-! ### credenzalaw04_SoftWeighs: function 13 -/
def credenzalaw04_SoftWeighs.f (k : Nat) (l0 : List Int) : Option (Bool) := if (l0.length : Int) > 2000 then ((credenzalaw04_awake.f k).bind fun t221 => (some t221)) else ((soft_Weights.f k l0).bind fun bt222 => (if (l0.length : Int) = 0 then (if bt222.2 = 14 then (if (bt222.1.length : Int) = 0 then ((credenzalaw04_awake.f k).bind fun t226 => (some t226)) else (some false)) else (some false)) else (if (l0.length : Int) > 1024 then (if bt222.2 = 12 then (if (bt222.1.length : Int) = 0 then ((credenzalaw04_awake.f k).bind fun t227 => (some t227)) else (some false)) else (some false)) else ((credenzaref04_Weights.f k l0).bind fun t228 => (if bt222.2 = 0 then ((credenzalaw04_same.f k bt222.1 t228).bind fun t231 => (if t231 = true then ((credenzaref03_Top.f k l0).bind fun t232 => (if 0 ≤ t232 then (if t232 < (bt222.1.length : Int) then (if (rd bt222.1 t232) = 65536 then ((soft_Sum.f k bt222.1).bind fun t234 => ((credenzaref04_Sum.f k t228).bind fun t235 => (if t234 = t235 then ((credenzalaw04_awake.f k).bind fun t236 => (some t236)) else (some false)))) else (some false)) else (none)) else (none))) else (some false))) else (some false))))))
theorem credenzalaw04_SoftWeighs.mono : ∀ a0 k, LeO (credenzalaw04_SoftWeighs.f k a0) (credenzalaw04_SoftWeighs.f (k + 1) a0) := by
  intro a0 k
  unfold credenzalaw04_SoftWeighs.f
  repeat' first
      | (with_reducible exact credenzalaw04_awake.mono _)
      | (with_reducible exact credenzalaw04_same.mono _ _ _)
      | (with_reducible exact credenzaref03_Top.mono _ _)
      | (with_reducible exact credenzaref04_Sum.mono _ _)
      | (with_reducible exact credenzaref04_Weights.mono _ _)
      | (with_reducible exact soft_Sum.mono _ _)
      | (with_reducible exact soft_Weights.mono _ _)
      | (with_reducible exact LeO.refl _)
      | (with_reducible exact LeO.none _)
      | (with_reducible refine LeO.ite ?_ ?_)
      | (with_reducible refine LeO.bind ?_ (fun _ => ?_))
      | exact credenzalaw04_awake.mono _
      | exact credenzalaw04_same.mono _ _ _
      | exact credenzaref03_Top.mono _ _
      | exact credenzaref04_Sum.mono _ _
      | exact credenzaref04_Weights.mono _ _
      | exact soft_Sum.mono _ _
      | exact soft_Weights.mono _ _
      | exact LeO.none _
      | refine LeO.ite ?_ ?_
      | refine LeO.bind ?_ (fun _ => ?_)
set_option maxHeartbeats 8000000 in
set_option maxRecDepth 100000 in
theorem credenzalaw04_SoftWeighs.calls (k : Nat) (A0 : Option Addr) (c0 : Nat) (l0 : List Int) (r : Bool) (w : World) (hr0 : Kd.C (Kd.int .i32) w A0 l0.length l0) (hc0 : l0.length ≤ c0) (h : credenzalaw04_SoftWeighs.f k l0 = some r) (hrt_ : r = true) :
    Calls Try.prog 13 #[.slice A0 l0.length c0] w fun e w' => e = .returned (.bool r) ∧ Below w.heap.size w w' := by
  have HR0 := Aside0.mk hr0
  have HC0 := Aside0.mk hc0
  clear hr0 hc0
  have HRT := Aside0.mk hrt_
  clear hrt_
  have HB := Aside0.mk (Below.refl w.heap.size w)
  have H : (if (l0.length : Int) > 2000 then ((credenzalaw04_awake.f k).bind fun t221 => (some t221)) else ((soft_Weights.f k l0).bind fun bt222 => (if (l0.length : Int) = 0 then (if bt222.2 = 14 then (if (bt222.1.length : Int) = 0 then ((credenzalaw04_awake.f k).bind fun t226 => (some t226)) else (some false)) else (some false)) else (if (l0.length : Int) > 1024 then (if bt222.2 = 12 then (if (bt222.1.length : Int) = 0 then ((credenzalaw04_awake.f k).bind fun t227 => (some t227)) else (some false)) else (some false)) else ((credenzaref04_Weights.f k l0).bind fun t228 => (if bt222.2 = 0 then ((credenzalaw04_same.f k bt222.1 t228).bind fun t231 => (if t231 = true then ((credenzaref03_Top.f k l0).bind fun t232 => (if 0 ≤ t232 then (if t232 < (bt222.1.length : Int) then (if (rd bt222.1 t232) = 65536 then ((soft_Sum.f k bt222.1).bind fun t234 => ((credenzaref04_Sum.f k t228).bind fun t235 => (if t234 = t235 then ((credenzalaw04_awake.f k).bind fun t236 => (some t236)) else (some false)))) else (some false)) else (none)) else (none))) else (some false))) else (some false))))))) = some r := h
  clear h
  by_cases c2 : (l0.length : Int) > 2000
  · rw [if_pos c2] at H
    have c2b0 : decide (2000 < (l0.length : Int)) = true := decide_eq_true c2
    have c2b1 : decide (2000 < l0.length) = true := decide_eq_true (by omega)
    clear c2
    replace H := Option.bind_eq_some_iff.mp H
    obtain ⟨t221, A30, H⟩ := H
    replace H : (some t221) = some r := H
    have A3 := Aside0.mk A30
    clear A30
    obtain rfl := Option.some.inj H
    go_enter Try.func13, Try.ntmps13
    go_wp2_with (first | ((with_reducible refine gate_callee (f := 41) rfl ?_); refine goesL_ (some 9) rfl rfl Try.func41 (by kernel_rfl) rfl #[] rfl (by (try simp only [List.map_toArray, List.map_cons, List.map_nil]); first | done | rfl | (simp only [List.length_drop, List.length_take]; rfl)) ?_; (with_reducible refine (credenzalaw04_awake.calls k  t221 _ A3.out).mono ?_); rintro e w4 ⟨rfl, hb⟩; refine ⟨_, rfl, ?_⟩; have n0_ := Aside0.mk (below_step (by repeat (first | (with_reducible first | exact HB.out | apply below_alloc | apply pw_below_drewN | apply below_drew1) | exact HB.out)) hb); clear HB; have HB := n0_; clear n0_; (try clear hb); (try clear hb2); (try clear hk); (try clear hi)))
    go_ret
    exact ⟨by first | rfl | (simp [errW_none, errW_some] <;> rfl) | (simp [*, errW_none, errW_some] <;> rfl), by repeat (first | (with_reducible first | exact HB.out | apply below_alloc | apply pw_below_drewN | apply below_drew1) | exact HB.out)⟩
  · rw [if_neg c2] at H
    have c2b0 : decide (2000 < (l0.length : Int)) = false := decide_eq_false c2
    have c2b1 : decide (2000 < l0.length) = false := decide_eq_false (by omega)
    clear c2
    replace H := Option.bind_eq_some_iff.mp H
    obtain ⟨⟨t222, t223⟩, A50, H⟩ := H
    replace H : (if (l0.length : Int) = 0 then (if t223 = 14 then (if (t222.length : Int) = 0 then ((credenzalaw04_awake.f k).bind fun t226 => (some t226)) else (some false)) else (some false)) else (if (l0.length : Int) > 1024 then (if t223 = 12 then (if (t222.length : Int) = 0 then ((credenzalaw04_awake.f k).bind fun t227 => (some t227)) else (some false)) else (some false)) else ((credenzaref04_Weights.f k l0).bind fun t228 => (if t223 = 0 then ((credenzalaw04_same.f k t222 t228).bind fun t231 => (if t231 = true then ((credenzaref03_Top.f k l0).bind fun t232 => (if 0 ≤ t232 then (if t232 < (t222.length : Int) then (if (rd t222 t232) = 65536 then ((soft_Sum.f k t222).bind fun t234 => ((credenzaref04_Sum.f k t228).bind fun t235 => (if t234 = t235 then ((credenzalaw04_awake.f k).bind fun t236 => (some t236)) else (some false)))) else (some false)) else (none)) else (none))) else (some false))) else (some false))))) = some r := H
    have A5 := Aside0.mk A50
    clear A50
    by_cases c6 : (l0.length : Int) = 0
    · rw [if_pos c6] at H
      have c6b0 : ((l0.length : Int) == 0) = true := beq_iff_eq.mpr c6
      have c6b1 : ((l0.length : Int) != 0) = false := bne_eq_false_iff_eq.mpr c6
      clear c6
      by_cases c7 : t223 = 14
      · rw [if_pos c7] at H
        have c7b0 : (t223 == 14) = true := beq_iff_eq.mpr c7
        have c7b1 : (t223 != 14) = false := bne_eq_false_iff_eq.mpr c7
        clear c7
        by_cases c8 : (t222.length : Int) = 0
        · rw [if_pos c8] at H
          have c8b0 : ((t222.length : Int) == 0) = true := beq_iff_eq.mpr c8
          have c8b1 : ((t222.length : Int) != 0) = false := bne_eq_false_iff_eq.mpr c8
          clear c8
          replace H := Option.bind_eq_some_iff.mp H
          obtain ⟨t226, A90, H⟩ := H
          replace H : (some t226) = some r := H
          have A9 := Aside0.mk A90
          clear A90
          obtain rfl := Option.some.inj H
          go_enter Try.func13, Try.ntmps13
          go_wp2_with (first | ((with_reducible refine gate_callee (f := 42) rfl ?_); refine goesL_ (some 12) rfl rfl Try.func42 (by kernel_rfl) rfl #[.slice A0 l0.length c0] rfl (by (try simp only [List.map_toArray, List.map_cons, List.map_nil]); first | done | rfl | (simp only [List.length_drop, List.length_take]; rfl)) ?_; (with_reducible refine (soft_Weights.calls k _ _ l0 t222 t223 _ ?side1 ?side2 A5.out).mono ?_); (case side1 => repeat (first | exact HR0.out | (with_reducible refine Kd.C_alloc ?_ _) | (with_reducible refine Kd.C_drewN ?_ _) | (with_reducible refine Kd.C_drew ?_))); (case side2 => exact HC0.out); rintro e w10 ⟨v224, rfl, ho0, hb⟩; refine ⟨_, rfl, ?_⟩; have n0_ := Aside0.mk (Kd.R_lower ho0 (below_size (by repeat (first | (with_reducible first | exact HB.out | apply below_alloc | apply pw_below_drewN | apply below_drew1) | exact HB.out)))); have n1_ := Aside0.mk (below_step (by repeat (first | (with_reducible first | exact HB.out | apply below_alloc | apply pw_below_drewN | apply below_drew1) | exact HB.out)) hb); clear HB; have HO225 := n0_; have HB := n1_; clear n0_ n1_; (try clear hb); (try clear hb2); (try clear hk); (try clear hi); (try clear ho0); obtain ⟨Ao11, co11, eo11⟩ := Kd.R_slice HO225.out; subst eo11) | (go_at_call 41; (with_reducible refine (credenzalaw04_awake.calls k  t226 _ A9.out).mono ?_); rintro e w12 ⟨rfl, hb⟩; have n0_ := Aside0.mk (Kd.R_below (by (with_reducible repeat (first | apply Kd.R_alloc | apply Kd.R_drewN | apply Kd.R_drew)); exact HO225.out) hb); have n1_ := Aside0.mk (below_step (by repeat (first | (with_reducible first | exact HB.out | apply below_alloc | apply pw_below_drewN | apply below_drew1) | exact HB.out)) hb); clear HO225; clear HB; have HO225 := n0_; have HB := n1_; clear n0_ n1_; (try clear hb); (try clear hb2); (try clear hk); (try clear hi)))
          go_ret
          exact ⟨by first | rfl | (simp [errW_none, errW_some] <;> rfl) | (simp [*, errW_none, errW_some] <;> rfl), by repeat (first | (with_reducible first | exact HB.out | apply below_alloc | apply pw_below_drewN | apply below_drew1) | exact HB.out)⟩
        · rw [if_neg c8] at H
          have c8b0 : ((t222.length : Int) == 0) = false := beq_eq_false_iff_ne.mpr c8
          have c8b1 : ((t222.length : Int) != 0) = true := bne_iff_ne.mpr c8
          have c8b2 : ¬ (t222 = []) := fun h_ => c8 (by rw [h_]; rfl)
          exact absurd (H.trans (congrArg some HRT.out)) (by simp)
      · rw [if_neg c7] at H
        have c7b0 : (t223 == 14) = false := beq_eq_false_iff_ne.mpr c7
        have c7b1 : (t223 != 14) = true := bne_iff_ne.mpr c7
        exact absurd (H.trans (congrArg some HRT.out)) (by simp)
    · rw [if_neg c6] at H
      have c6b0 : ((l0.length : Int) == 0) = false := beq_eq_false_iff_ne.mpr c6
      have c6b1 : ((l0.length : Int) != 0) = true := bne_iff_ne.mpr c6
      have c6b2 : ¬ (l0 = []) := fun h_ => c6 (by rw [h_]; rfl)
      by_cases c13 : (l0.length : Int) > 1024
      · rw [if_pos c13] at H
        have c13b0 : decide (1024 < (l0.length : Int)) = true := decide_eq_true c13
        have c13b1 : decide (1024 < l0.length) = true := decide_eq_true (by omega)
        clear c13
        by_cases c14 : t223 = 12
        · rw [if_pos c14] at H
          have c14b0 : (t223 == 12) = true := beq_iff_eq.mpr c14
          have c14b1 : (t223 != 12) = false := bne_eq_false_iff_eq.mpr c14
          clear c14
          by_cases c15 : (t222.length : Int) = 0
          · rw [if_pos c15] at H
            have c15b0 : ((t222.length : Int) == 0) = true := beq_iff_eq.mpr c15
            have c15b1 : ((t222.length : Int) != 0) = false := bne_eq_false_iff_eq.mpr c15
            clear c15
            replace H := Option.bind_eq_some_iff.mp H
            obtain ⟨t227, A160, H⟩ := H
            replace H : (some t227) = some r := H
            have A16 := Aside0.mk A160
            clear A160
            obtain rfl := Option.some.inj H
            go_enter Try.func13, Try.ntmps13
            go_wp2_with (first | ((with_reducible refine gate_callee (f := 42) rfl ?_); refine goesL_ (some 12) rfl rfl Try.func42 (by kernel_rfl) rfl #[.slice A0 l0.length c0] rfl (by (try simp only [List.map_toArray, List.map_cons, List.map_nil]); first | done | rfl | (simp only [List.length_drop, List.length_take]; rfl)) ?_; (with_reducible refine (soft_Weights.calls k _ _ l0 t222 t223 _ ?side1 ?side2 A5.out).mono ?_); (case side1 => repeat (first | exact HR0.out | (with_reducible refine Kd.C_alloc ?_ _) | (with_reducible refine Kd.C_drewN ?_ _) | (with_reducible refine Kd.C_drew ?_))); (case side2 => exact HC0.out); rintro e w17 ⟨v224, rfl, ho0, hb⟩; refine ⟨_, rfl, ?_⟩; have n0_ := Aside0.mk (Kd.R_lower ho0 (below_size (by repeat (first | (with_reducible first | exact HB.out | apply below_alloc | apply pw_below_drewN | apply below_drew1) | exact HB.out)))); have n1_ := Aside0.mk (below_step (by repeat (first | (with_reducible first | exact HB.out | apply below_alloc | apply pw_below_drewN | apply below_drew1) | exact HB.out)) hb); clear HB; have HO225 := n0_; have HB := n1_; clear n0_ n1_; (try clear hb); (try clear hb2); (try clear hk); (try clear hi); (try clear ho0); obtain ⟨Ao18, co18, eo18⟩ := Kd.R_slice HO225.out; subst eo18) | (go_at_call 41; (with_reducible refine (credenzalaw04_awake.calls k  t227 _ A16.out).mono ?_); rintro e w19 ⟨rfl, hb⟩; have n0_ := Aside0.mk (Kd.R_below (by (with_reducible repeat (first | apply Kd.R_alloc | apply Kd.R_drewN | apply Kd.R_drew)); exact HO225.out) hb); have n1_ := Aside0.mk (below_step (by repeat (first | (with_reducible first | exact HB.out | apply below_alloc | apply pw_below_drewN | apply below_drew1) | exact HB.out)) hb); clear HO225; clear HB; have HO225 := n0_; have HB := n1_; clear n0_ n1_; (try clear hb); (try clear hb2); (try clear hk); (try clear hi)))
            go_ret
            exact ⟨by first | rfl | (simp [errW_none, errW_some] <;> rfl) | (simp [*, errW_none, errW_some] <;> rfl), by repeat (first | (with_reducible first | exact HB.out | apply below_alloc | apply pw_below_drewN | apply below_drew1) | exact HB.out)⟩
          · rw [if_neg c15] at H
            have c15b0 : ((t222.length : Int) == 0) = false := beq_eq_false_iff_ne.mpr c15
            have c15b1 : ((t222.length : Int) != 0) = true := bne_iff_ne.mpr c15
            have c15b2 : ¬ (t222 = []) := fun h_ => c15 (by rw [h_]; rfl)
            exact absurd (H.trans (congrArg some HRT.out)) (by simp)
        · rw [if_neg c14] at H
          have c14b0 : (t223 == 12) = false := beq_eq_false_iff_ne.mpr c14
          have c14b1 : (t223 != 12) = true := bne_iff_ne.mpr c14
          exact absurd (H.trans (congrArg some HRT.out)) (by simp)
      · rw [if_neg c13] at H
        have c13b0 : decide (1024 < (l0.length : Int)) = false := decide_eq_false c13
        have c13b1 : decide (1024 < l0.length) = false := decide_eq_false (by omega)
        clear c13
        replace H := Option.bind_eq_some_iff.mp H
        obtain ⟨t228, A200, H⟩ := H
        replace H : (if t223 = 0 then ((credenzalaw04_same.f k t222 t228).bind fun t231 => (if t231 = true then ((credenzaref03_Top.f k l0).bind fun t232 => (if 0 ≤ t232 then (if t232 < (t222.length : Int) then (if (rd t222 t232) = 65536 then ((soft_Sum.f k t222).bind fun t234 => ((credenzaref04_Sum.f k t228).bind fun t235 => (if t234 = t235 then ((credenzalaw04_awake.f k).bind fun t236 => (some t236)) else (some false)))) else (some false)) else (none)) else (none))) else (some false))) else (some false)) = some r := H
        have A20 := Aside0.mk A200
        clear A200
        by_cases c21 : t223 = 0
        · rw [if_pos c21] at H
          have c21b0 : (t223 == 0) = true := beq_iff_eq.mpr c21
          have c21b1 : (t223 != 0) = false := bne_eq_false_iff_eq.mpr c21
          clear c21
          replace H := Option.bind_eq_some_iff.mp H
          obtain ⟨t231, A220, H⟩ := H
          replace H : (if t231 = true then ((credenzaref03_Top.f k l0).bind fun t232 => (if 0 ≤ t232 then (if t232 < (t222.length : Int) then (if (rd t222 t232) = 65536 then ((soft_Sum.f k t222).bind fun t234 => ((credenzaref04_Sum.f k t228).bind fun t235 => (if t234 = t235 then ((credenzalaw04_awake.f k).bind fun t236 => (some t236)) else (some false)))) else (some false)) else (none)) else (none))) else (some false)) = some r := H
          have A22 := Aside0.mk A220
          clear A220
          by_cases c23 : t231 = true
          · subst c23
            have H1 : ((credenzaref03_Top.f k l0).bind fun t232 => (if 0 ≤ t232 then (if t232 < (t222.length : Int) then (if (rd t222 t232) = 65536 then ((soft_Sum.f k t222).bind fun t234 => ((credenzaref04_Sum.f k t228).bind fun t235 => (if t234 = t235 then ((credenzalaw04_awake.f k).bind fun t236 => (some t236)) else (some false)))) else (some false)) else (none)) else (none))) = some r := by rw [if_pos rfl] at H; exact H
            clear H
            have H := H1
            clear H1
            replace H := Option.bind_eq_some_iff.mp H
            obtain ⟨t232, A240, H⟩ := H
            replace H : (if 0 ≤ t232 then (if t232 < (t222.length : Int) then (if (rd t222 t232) = 65536 then ((soft_Sum.f k t222).bind fun t234 => ((credenzaref04_Sum.f k t228).bind fun t235 => (if t234 = t235 then ((credenzalaw04_awake.f k).bind fun t236 => (some t236)) else (some false)))) else (some false)) else (none)) else (none)) = some r := H
            have A24 := Aside0.mk A240
            clear A240
            by_cases c25 : 0 ≤ t232
            · rw [if_pos c25] at H
              have c25b0 : decide (0 ≤ t232) = true := decide_eq_true c25
              clear c25
              by_cases c26 : t232 < (t222.length : Int)
              · rw [if_pos c26] at H
                have c26b0 : decide (t232 < (t222.length : Int)) = true := decide_eq_true c26
                clear c26
                by_cases c27 : (rd t222 t232) = 65536
                · rw [if_pos c27] at H
                  have c27b0 : ((rd t222 t232) == 65536) = true := beq_iff_eq.mpr c27
                  have c27b1 : ((rd t222 t232) != 65536) = false := bne_eq_false_iff_eq.mpr c27
                  clear c27
                  replace H := Option.bind_eq_some_iff.mp H
                  obtain ⟨t234, A280, H⟩ := H
                  replace H : ((credenzaref04_Sum.f k t228).bind fun t235 => (if t234 = t235 then ((credenzalaw04_awake.f k).bind fun t236 => (some t236)) else (some false))) = some r := H
                  have A28 := Aside0.mk A280
                  clear A280
                  replace H := Option.bind_eq_some_iff.mp H
                  obtain ⟨t235, A290, H⟩ := H
                  replace H : (if t234 = t235 then ((credenzalaw04_awake.f k).bind fun t236 => (some t236)) else (some false)) = some r := H
                  have A29 := Aside0.mk A290
                  clear A290
                  by_cases c30 : t234 = t235
                  · rw [if_pos c30] at H
                    have c30b0 : (t234 == t235) = true := beq_iff_eq.mpr c30
                    have c30b1 : (t234 != t235) = false := bne_eq_false_iff_eq.mpr c30
                    clear c30
                    replace H := Option.bind_eq_some_iff.mp H
                    obtain ⟨t236, A310, H⟩ := H
                    replace H : (some t236) = some r := H
                    have A31 := Aside0.mk A310
                    clear A310
                    obtain rfl := Option.some.inj H
                    go_enter Try.func13, Try.ntmps13
                    go_wp2_with (first | ((with_reducible refine gate_callee (f := 42) rfl ?_); refine goesL_ (some 12) rfl rfl Try.func42 (by kernel_rfl) rfl #[.slice A0 l0.length c0] rfl (by (try simp only [List.map_toArray, List.map_cons, List.map_nil]); first | done | rfl | (simp only [List.length_drop, List.length_take]; rfl)) ?_; (with_reducible refine (soft_Weights.calls k _ _ l0 t222 t223 _ ?side1 ?side2 A5.out).mono ?_); (case side1 => repeat (first | exact HR0.out | (with_reducible refine Kd.C_alloc ?_ _) | (with_reducible refine Kd.C_drewN ?_ _) | (with_reducible refine Kd.C_drew ?_))); (case side2 => exact HC0.out); rintro e w32 ⟨v224, rfl, ho0, hb⟩; refine ⟨_, rfl, ?_⟩; have n0_ := Aside0.mk (Kd.R_lower ho0 (below_size (by repeat (first | (with_reducible first | exact HB.out | apply below_alloc | apply pw_below_drewN | apply below_drew1) | exact HB.out)))); have n1_ := Aside0.mk (below_step (by repeat (first | (with_reducible first | exact HB.out | apply below_alloc | apply pw_below_drewN | apply below_drew1) | exact HB.out)) hb); clear HB; have HO225 := n0_; have HB := n1_; clear n0_ n1_; (try clear hb); (try clear hb2); (try clear hk); (try clear hi); (try clear ho0)) | ((with_reducible refine gate_callee (f := 43) rfl ?_); refine goesL_ (some 42) rfl rfl Try.func43 (by kernel_rfl) rfl #[.slice A0 l0.length c0] rfl (by (try simp only [List.map_toArray, List.map_cons, List.map_nil]); first | done | rfl | (simp only [List.length_drop, List.length_take]; rfl)) ?_; (with_reducible refine (credenzaref04_Weights.calls k _ _ l0 t228 _ ?side1 ?side2 A20.out).mono ?_); (case side1 => repeat (first | exact (Kd.C_below HR0.out HB.out) | (with_reducible refine Kd.C_alloc ?_ _) | (with_reducible refine Kd.C_drewN ?_ _) | (with_reducible refine Kd.C_drew ?_))); (case side2 => exact HC0.out); rintro e w33 ⟨v229, rfl, ho0, hb⟩; refine ⟨_, rfl, ?_⟩; have n0_ := Aside0.mk (Kd.R_elder' (by (with_reducible repeat (first | apply Kd.R_alloc | apply Kd.R_drewN | apply Kd.R_drew)); exact HO225.out) (Kd.R_base ho0) hb); have n1_ := Aside0.mk (Kd.R_lower (Kd.R_new' ho0 (Kd.R_lt (by (with_reducible repeat (first | apply Kd.R_alloc | apply Kd.R_drewN | apply Kd.R_drew)); exact HO225.out))) (below_size (by repeat (first | (with_reducible first | exact HB.out | apply below_alloc | apply pw_below_drewN | apply below_drew1) | exact HB.out)))); have n2_ := Aside0.mk (below_step (by repeat (first | (with_reducible first | exact HB.out | apply below_alloc | apply pw_below_drewN | apply below_drew1) | exact HB.out)) hb); clear HO225; clear HB; have HO225 := n0_; have HO230 := n1_; have HB := n2_; clear n0_ n1_ n2_; (try clear hb); (try clear hb2); (try clear hk); (try clear hi); (try clear ho0); obtain ⟨Ao34, co34, eo34⟩ := Kd.R_slice HO225.out; subst eo34; obtain ⟨Ao35, co35, eo35⟩ := Kd.R_slice HO230.out; subst eo35) | (go_at_call 44; (with_reducible refine (credenzalaw04_same.calls k _ _ t222 _ _ t228 true _ ?side1 ?side2 ?side3 ?side4 A22.out).mono ?_); (case side1 => repeat (first | exact (Kd.R_reads' HO225.out).2.2 | (with_reducible refine Kd.C_alloc ?_ _) | (with_reducible refine Kd.C_drewN ?_ _) | (with_reducible refine Kd.C_drew ?_))); (case side2 => exact (Kd.R_reads' HO225.out).2.1); (case side3 => repeat (first | exact (Kd.R_reads' HO230.out).2.2 | (with_reducible refine Kd.C_alloc ?_ _) | (with_reducible refine Kd.C_drewN ?_ _) | (with_reducible refine Kd.C_drew ?_))); (case side4 => exact (Kd.R_reads' HO230.out).2.1); rintro e w' ⟨rfl, ⟨nd, rfl⟩⟩) | (go_at_call 29; (with_reducible refine (credenzaref03_Top.calls k _ _ l0 t232 _ ?side1 ?side2 A24.out).mono ?_); (case side1 => repeat (first | exact (Kd.C_below HR0.out (by repeat (first | (with_reducible first | exact HB.out | apply below_alloc | apply pw_below_drewN | apply below_drew1) | exact HB.out))) | (with_reducible refine Kd.C_alloc ?_ _) | (with_reducible refine Kd.C_drewN ?_ _) | (with_reducible refine Kd.C_drew ?_))); (case side2 => exact HC0.out); rintro e w' ⟨rfl, ⟨nd, rfl⟩⟩; have p233 : 0 ≤ (t232 : Int) := of_decide_eq_true (by first | (with_reducible assumption) | assumption); have q233 : t232 < (t222.length : Int) := of_decide_eq_true (by first | (with_reducible assumption) | assumption); obtain ⟨ad233, e233, hx233_0⟩ := Kd.at_int (Kd.R_reads' HO225.out).2.2 t232 p233 q233; cases e233; replace p233 := eq_true p233; replace q233 := eq_true q233) | (go_at_call 45; (with_reducible refine (soft_Sum.calls k _ _ t222 t234 _ ?side1 ?side2 A28.out).mono ?_); (case side1 => repeat (first | exact (Kd.R_reads' HO225.out).2.2 | (with_reducible refine Kd.C_alloc ?_ _) | (with_reducible refine Kd.C_drewN ?_ _) | (with_reducible refine Kd.C_drew ?_))); (case side2 => exact (Kd.R_reads' HO225.out).2.1); rintro e w' ⟨rfl, ⟨nd, rfl⟩⟩) | (go_at_call 46; (with_reducible refine (credenzaref04_Sum.calls k _ _ t228 t235 _ ?side1 ?side2 A29.out).mono ?_); (case side1 => repeat (first | exact (Kd.R_reads' HO230.out).2.2 | (with_reducible refine Kd.C_alloc ?_ _) | (with_reducible refine Kd.C_drewN ?_ _) | (with_reducible refine Kd.C_drew ?_))); (case side2 => exact (Kd.R_reads' HO230.out).2.1); rintro e w' ⟨rfl, ⟨nd, rfl⟩⟩) | (go_at_call 41; (with_reducible refine (credenzalaw04_awake.calls k  t236 _ A31.out).mono ?_); rintro e w36 ⟨rfl, hb⟩; have n0_ := Aside0.mk (Kd.R_below (by (with_reducible repeat (first | apply Kd.R_alloc | apply Kd.R_drewN | apply Kd.R_drew)); exact HO225.out) hb); have n1_ := Aside0.mk (Kd.R_below (by (with_reducible repeat (first | apply Kd.R_alloc | apply Kd.R_drewN | apply Kd.R_drew)); exact HO230.out) hb); have n2_ := Aside0.mk (below_step (by repeat (first | (with_reducible first | exact HB.out | apply below_alloc | apply pw_below_drewN | apply below_drew1) | exact HB.out)) hb); clear HO225; clear HO230; clear HB; have HO225 := n0_; have HO230 := n1_; have HB := n2_; clear n0_ n1_ n2_; (try clear hb); (try clear hb2); (try clear hk); (try clear hi)))
                    go_ret
                    exact ⟨by first | rfl | (simp [errW_none, errW_some] <;> rfl) | (simp [*, errW_none, errW_some] <;> rfl), by repeat (first | (with_reducible first | exact HB.out | apply below_alloc | apply pw_below_drewN | apply below_drew1) | exact HB.out)⟩
                  · rw [if_neg c30] at H
                    have c30b0 : (t234 == t235) = false := beq_eq_false_iff_ne.mpr c30
                    have c30b1 : (t234 != t235) = true := bne_iff_ne.mpr c30
                    exact absurd (H.trans (congrArg some HRT.out)) (by simp)
                · rw [if_neg c27] at H
                  have c27b0 : ((rd t222 t232) == 65536) = false := beq_eq_false_iff_ne.mpr c27
                  have c27b1 : ((rd t222 t232) != 65536) = true := bne_iff_ne.mpr c27
                  exact absurd (H.trans (congrArg some HRT.out)) (by simp)
              · rw [if_neg c26] at H
                exact absurd H (by simp)
            · rw [if_neg c25] at H
              exact absurd H (by simp)
          · replace c23 := Bool.eq_false_iff.mpr c23
            subst c23
            have H1 : (some false) = some r := by rw [if_neg (show ¬ (false = true) by decide)] at H; exact H
            clear H
            have H := H1
            clear H1
            exact absurd (H.trans (congrArg some HRT.out)) (by simp)
        · rw [if_neg c21] at H
          have c21b0 : (t223 == 0) = false := beq_eq_false_iff_ne.mpr c21
          have c21b1 : (t223 != 0) = true := bne_iff_ne.mpr c21
          exact absurd (H.trans (congrArg some HRT.out)) (by simp)

/-- THE ONE PURE STATEMENT of credenzalaw04_SoftWeighs: yours. -/
def credenzalaw04_SoftWeighs.Pure : Prop := ∀ (l0 : List Int), l0.length ≤ maxLen → l0.length * 4 ≤ 140737488351232 → (∀ x ∈ l0, (Lit.int .i32 x).wf = true) → ∃ k, credenzalaw04_SoftWeighs.f k l0 = some true
theorem credenzalaw04_SoftWeighs.walk (P : credenzalaw04_SoftWeighs.Pure) (a0 : Option Addr) (len0 cap0 : Nat) (z0 : List Int) (w : World) (w0 : (a0 = none ∧ len0 = 0 ∧ cap0 = 0 ∧ z0 = []) ∨ ∃ x, a0 = some x ∧ len0 ≤ cap0 ∧ cap0 ≤ maxLen ∧ z0.length = cap0 ∧ (∀ i, i < z0.length → w.cell? (x.add i) = some (.int .i32 (z0.getD i 0))) ∧ ∀ n ∈ z0, (Lit.int .i32 n).wf = true) (y0 : len0 * 4 ≤ 140737488351232) :
    Calls Try.prog 13 #[.slice a0 len0 cap0] w fun e w' => e = .returned (.bool true) ∧ Below w.heap.size w w' := by
  obtain ⟨l0, rfl, hr0, hm0, hw0, hc0⟩ := ReadsInt.ofRowC w0
  obtain ⟨k, h⟩ := P l0 hm0 y0 hw0
  refine (credenzalaw04_SoftWeighs.calls k _ _ l0 true w (Kd.C_of_reads (d := (0 : Int)) (h1 := fun _ => rfl) hr0) hc0 h rfl).mono ?_
  rintro e w' ⟨rfl, hd⟩
  exact ⟨rfl, hd⟩

end Go.Proofs.Ytmndomlpdajjmab.Sw
