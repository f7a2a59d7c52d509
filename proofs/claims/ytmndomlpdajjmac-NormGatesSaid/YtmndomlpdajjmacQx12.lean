-- Ytmndomlpdajjmac: the machine side of the statements, written by a program of the session.
import Derived.Test.YtmndomlpdajjmacQx0
import Derived.Test.YtmndomlpdajjmacQx7
import Derived.Test.YtmndomlpdajjmacQx9
import Derived.Test.YtmndomlpdajjmacQx11
namespace Go.Proofs.Ytmndomlpdajjmac.Q
open Go.RowKit Go.Proofs.YtmndomlpdajjmacW.PrintWords Go.Proofs.YtmndomlpdajjmacW.PrintLast Go.Proofs.YtmndomlpdajjmacW.PrintMore
attribute [local go_sem] max2_int min2_int max_two min_two max_three min_three max_four min_four   -- for this text's walks alone
set_option linter.unusedVariables false
set_option linter.unusedSimpArgs false

/-! ### credenzalaw15_NormGates: function 7 -/
mutual
def credenzalaw15_NormGates.j0 : Nat → List Int → List Int → Bool → Option (Bool)
  | 0, _, _, _ => none
  | k + 1, x0, x1, x17 => if x17 = true then ((credenzalaw15_awake.f k).bind fun t450 => (some t450)) else ((norm_Gate.f k x0 x1).bind fun bt451 => ((credenzaref03_Shape.f x0 x1).bind fun t455 => (if t455 = 0 then (if bt451.2 = 0 then ((credenzaref15_Gate.f k x0 x1).bind fun t457 => ((credenzaref03_Same.f k bt451.1 t457).bind fun t460 => (credenzalaw15_NormGates.j1 k x1 bt451.1 (!t460)))) else (credenzalaw15_NormGates.j1 k x1 bt451.1 true)) else (if bt451.2 = t455 then (if (bt451.1.length : Int) = 0 then ((credenzalaw15_awake.f k).bind fun t456 => (some t456)) else (some false)) else (some false)))))
def credenzalaw15_NormGates.j1 : Nat → List Int → List Int → Bool → Option (Bool)
  | 0, _, _, _ => none
  | k + 1, x1, x5, x50 => if x50 = true then (some false) else (credenzalaw15_NormGates.l0 k x5 x1 (x1.length : Int) 0)
def credenzalaw15_NormGates.l0 : Nat → List Int → List Int → Int → Int → Option (Bool)
  | 0, _, _, _, _ => none
  | k + 1, x5, x51, x52, x53 => if x53 < x52 then (if 0 ≤ x53 then (if x53 < (x51.length : Int) then (if (rd x51 x53) ≤ 0 then (if x53 < (x5.length : Int) then (if (rd x5 x53) = 0 then (credenzalaw15_NormGates.l0 k x5 x51 x52 (wrap64 (x53 + 1))) else (some false)) else (none)) else (credenzalaw15_NormGates.l0 k x5 x51 x52 (wrap64 (x53 + 1)))) else (none)) else (none)) else ((credenzalaw15_awake.f k).bind fun t463 => (some t463))
end
def credenzalaw15_NormGates.f (k : Nat) (l0 : List Int) (l1 : List Int) : Option (Bool) := if (l0.length : Int) > 2000 then (credenzalaw15_NormGates.j0 k l0 l1 true) else (credenzalaw15_NormGates.j0 k l0 l1 (decide ((l1.length : Int) > 2000)))
theorem credenzalaw15_NormGates.mono_l : ∀ k, (∀ y0 y1 y2, LeO (credenzalaw15_NormGates.j0 k y0 y1 y2) (credenzalaw15_NormGates.j0 (k + 1) y0 y1 y2)) ∧ (∀ y0 y1 y2, LeO (credenzalaw15_NormGates.j1 k y0 y1 y2) (credenzalaw15_NormGates.j1 (k + 1) y0 y1 y2)) ∧ (∀ y0 y1 y2 y3, LeO (credenzalaw15_NormGates.l0 k y0 y1 y2 y3) (credenzalaw15_NormGates.l0 (k + 1) y0 y1 y2 y3))
  | 0 => ⟨fun _ _ _ r h => by simp [credenzalaw15_NormGates.j0] at h, fun _ _ _ r h => by simp [credenzalaw15_NormGates.j1] at h, fun _ _ _ _ r h => by simp [credenzalaw15_NormGates.l0] at h⟩
  | k + 1 => by
    obtain ⟨ih0, ih1, ih2⟩ := credenzalaw15_NormGates.mono_l k
    refine ⟨?_, ?_, ?_⟩
    · intro y0 y1 y2
      unfold credenzalaw15_NormGates.j0
      repeat' first
      | (with_reducible exact ih0 _ _ _)
      | (with_reducible exact ih1 _ _ _)
      | (with_reducible exact ih2 _ _ _ _)
      | (with_reducible exact credenzalaw15_awake.mono _)
      | (with_reducible exact credenzaref03_Same.mono _ _ _)
      | (with_reducible exact credenzaref15_Gate.mono _ _ _)
      | (with_reducible exact norm_Gate.mono _ _ _)
      | (with_reducible exact LeO.refl _)
      | (with_reducible exact LeO.none _)
      | (with_reducible refine LeO.ite ?_ ?_)
      | (with_reducible refine LeO.bind ?_ (fun _ => ?_))
      | exact ih0 _ _ _
      | exact ih1 _ _ _
      | exact ih2 _ _ _ _
      | exact credenzalaw15_awake.mono _
      | exact credenzaref03_Same.mono _ _ _
      | exact credenzaref15_Gate.mono _ _ _
      | exact norm_Gate.mono _ _ _
      | exact LeO.none _
      | refine LeO.ite ?_ ?_
      | refine LeO.bind ?_ (fun _ => ?_)
    · intro y0 y1 y2
      unfold credenzalaw15_NormGates.j1
      repeat' first
      | (with_reducible exact ih0 _ _ _)
      | (with_reducible exact ih1 _ _ _)
      | (with_reducible exact ih2 _ _ _ _)
      | (with_reducible exact credenzalaw15_awake.mono _)
      | (with_reducible exact credenzaref03_Same.mono _ _ _)
      | (with_reducible exact credenzaref15_Gate.mono _ _ _)
      | (with_reducible exact norm_Gate.mono _ _ _)
      | (with_reducible exact LeO.refl _)
      | (with_reducible exact LeO.none _)
      | (with_reducible refine LeO.ite ?_ ?_)
      | (with_reducible refine LeO.bind ?_ (fun _ => ?_))
      | exact ih0 _ _ _
      | exact ih1 _ _ _
      | exact ih2 _ _ _ _
      | exact credenzalaw15_awake.mono _
      | exact credenzaref03_Same.mono _ _ _
      | exact credenzaref15_Gate.mono _ _ _
      | exact norm_Gate.mono _ _ _
      | exact LeO.none _
      | refine LeO.ite ?_ ?_
      | refine LeO.bind ?_ (fun _ => ?_)
    · intro y0 y1 y2 y3
      unfold credenzalaw15_NormGates.l0
      repeat' first
      | (with_reducible exact ih0 _ _ _)
      | (with_reducible exact ih1 _ _ _)
      | (with_reducible exact ih2 _ _ _ _)
      | (with_reducible exact credenzalaw15_awake.mono _)
      | (with_reducible exact credenzaref03_Same.mono _ _ _)
      | (with_reducible exact credenzaref15_Gate.mono _ _ _)
      | (with_reducible exact norm_Gate.mono _ _ _)
      | (with_reducible exact LeO.refl _)
      | (with_reducible exact LeO.none _)
      | (with_reducible refine LeO.ite ?_ ?_)
      | (with_reducible refine LeO.bind ?_ (fun _ => ?_))
      | exact ih0 _ _ _
      | exact ih1 _ _ _
      | exact ih2 _ _ _ _
      | exact credenzalaw15_awake.mono _
      | exact credenzaref03_Same.mono _ _ _
      | exact credenzaref15_Gate.mono _ _ _
      | exact norm_Gate.mono _ _ _
      | exact LeO.none _
      | refine LeO.ite ?_ ?_
      | refine LeO.bind ?_ (fun _ => ?_)
theorem credenzalaw15_NormGates.mono : ∀ a0 a1 k, LeO (credenzalaw15_NormGates.f k a0 a1) (credenzalaw15_NormGates.f (k + 1) a0 a1) := by
  intro a0 a1 k
  obtain ⟨ih0, ih1, ih2⟩ := credenzalaw15_NormGates.mono_l k
  unfold credenzalaw15_NormGates.f
  repeat' first
      | (with_reducible exact ih0 _ _ _)
      | (with_reducible exact ih1 _ _ _)
      | (with_reducible exact ih2 _ _ _ _)
      | (with_reducible exact credenzalaw15_awake.mono _)
      | (with_reducible exact credenzaref03_Same.mono _ _ _)
      | (with_reducible exact credenzaref15_Gate.mono _ _ _)
      | (with_reducible exact norm_Gate.mono _ _ _)
      | (with_reducible exact LeO.refl _)
      | (with_reducible exact LeO.none _)
      | (with_reducible refine LeO.ite ?_ ?_)
      | (with_reducible refine LeO.bind ?_ (fun _ => ?_))
      | exact ih0 _ _ _
      | exact ih1 _ _ _
      | exact ih2 _ _ _ _
      | exact credenzalaw15_awake.mono _
      | exact credenzaref03_Same.mono _ _ _
      | exact credenzaref15_Gate.mono _ _ _
      | exact norm_Gate.mono _ _ _
      | exact LeO.none _
      | refine LeO.ite ?_ ?_
      | refine LeO.bind ?_ (fun _ => ?_)
set_option maxHeartbeats 8000000 in
set_option maxRecDepth 100000 in
theorem credenzalaw15_NormGates.calls (k : Nat) (A0 : Option Addr) (c0 : Nat) (l0 : List Int) (A1 : Option Addr) (c1 : Nat) (l1 : List Int) (r : Bool) (w : World) (hr0 : Kd.C (Kd.int .i32) w A0 l0.length l0) (hc0 : l0.length ≤ c0) (hr1 : Kd.C (Kd.int .i32) w A1 l1.length l1) (hc1 : l1.length ≤ c1) (h : credenzalaw15_NormGates.f k l0 l1 = some r) (hrt_ : r = true) :
    Calls Try.prog 7 #[.slice A0 l0.length c0, .slice A1 l1.length c1] w fun e w' => e = .returned (.bool r) ∧ Below w.heap.size w w' := by
  have HR0 := Aside0.mk hr0
  have HC0 := Aside0.mk hc0
  clear hr0 hc0
  have HR1 := Aside0.mk hr1
  have HC1 := Aside0.mk hc1
  clear hr1 hc1
  have HRT := Aside0.mk hrt_
  clear hrt_
  have HB := Aside0.mk (Below.refl w.heap.size w)
  have H : (if (l0.length : Int) > 2000 then (credenzalaw15_NormGates.j0 k l0 l1 true) else (credenzalaw15_NormGates.j0 k l0 l1 (decide ((l1.length : Int) > 2000)))) = some r := h
  clear h
  have HC3 := Aside0.mk H
  clear H
  go_enter Try.func7, Try.ntmps7
  go_upto_region 1 with (fail)
  go_cut [17] (fun v17 wc => ∃ (kq : Nat) (x17_2 : Bool), v17 = .bool x17_2 ∧ Aside0 (credenzalaw15_NormGates.j0 kq l0 l1 x17_2 = some r) ∧ Aside0 (kq ≤ k) ∧ Aside0 (Below w.heap.size w wc))
  case first =>
    have H := HC3.out
    clear HC3
    by_cases c4 : (l0.length : Int) > 2000
    · rw [if_pos c4] at H
      have c4b0 : decide (2000 < (l0.length : Int)) = true := decide_eq_true c4
      have c4b1 : decide (2000 < l0.length) = true := decide_eq_true (by omega)
      clear c4
      (first | rw [c4b0] | (simp only [i64_w, i32_w]; rw [c4b0]) | skip)
      have H' := Aside0.mk H
      clear H
      go_wp2
      go_meet
      case rel => exact ⟨_, (true), (by first | rfl | (simp; done) | (simp [*]; done)), H', ⟨by first | omega | exact Nat.le_refl _⟩, ⟨by repeat (first | (with_reducible first | exact HB.out | apply below_alloc | apply pw_below_drewN | apply below_drew1) | exact HB.out)⟩⟩
    · rw [if_neg c4] at H
      have c4b0 : decide (2000 < (l0.length : Int)) = false := decide_eq_false c4
      have c4b1 : decide (2000 < l0.length) = false := decide_eq_false (by omega)
      clear c4
      (first | rw [c4b0] | (simp only [i64_w, i32_w]; rw [c4b0]) | skip)
      have H' := Aside0.mk H
      clear H
      go_wp2
      go_meet
      case rel => exact ⟨_, (decide ((l1.length : Int) > 2000)), (by first | rfl | (simp; done) | (simp [*]; done)), H', ⟨by first | omega | exact Nat.le_refl _⟩, ⟨by repeat (first | (with_reducible first | exact HB.out | apply below_alloc | apply pw_below_drewN | apply below_drew1) | exact HB.out)⟩⟩
  case rest =>
    clear HC3
    try clear c1
    try clear p2
    try clear c4
    try clear c4b0
    try clear c4b1
    obtain ⟨kq, x17_2, rfl, HA, HJ2, HB⟩ := hcut
    cases kq with
    | zero => exact absurd HA.out (by simp [credenzalaw15_NormGates.j0])
    | succ kj2 =>
      have H := HA.out
      clear HA
      simp only [credenzalaw15_NormGates.j0] at H
      by_cases c5 : x17_2 = true
      · subst c5
        have H1 : ((credenzalaw15_awake.f kj2).bind fun t450 => (some t450)) = some r := by rw [if_pos rfl] at H; exact H
        clear H
        have H := H1
        clear H1
        replace H := Option.bind_eq_some_iff.mp H
        obtain ⟨t450, A60, H⟩ := H
        replace H : (some t450) = some r := H
        have A6 := Aside0.mk A60
        clear A60
        obtain rfl := Option.some.inj H
        go_wp2_with (first | ((with_reducible refine gate_callee (f := 22) rfl ?_); refine goesL_ (some 18) rfl rfl Try.func22 (by kernel_rfl) rfl #[] rfl (by (try simp only [List.map_toArray, List.map_cons, List.map_nil]); first | done | rfl | (simp only [List.length_drop, List.length_take]; rfl)) ?_; (with_reducible refine (credenzalaw15_awake.calls kj2  t450 _ A6.out).mono ?_); rintro e w7 ⟨rfl, hb⟩; refine ⟨_, rfl, ?_⟩; have n0_ := Aside0.mk (below_step (by repeat (first | (with_reducible first | exact HB.out | apply below_alloc | apply pw_below_drewN | apply below_drew1) | exact HB.out)) hb); clear HB; have HB := n0_; clear n0_; (try clear hb); (try clear hb2); (try clear hk); (try clear hi)))
        go_ret
        exact ⟨by first | rfl | (simp [errW_none, errW_some] <;> rfl) | (simp [*, errW_none, errW_some] <;> rfl), by repeat (first | (with_reducible first | exact HB.out | apply below_alloc | apply pw_below_drewN | apply below_drew1) | exact HB.out)⟩
      · replace c5 := Bool.eq_false_iff.mpr c5
        subst c5
        have H1 : ((norm_Gate.f kj2 l0 l1).bind fun bt451 => ((credenzaref03_Shape.f l0 l1).bind fun t455 => (if t455 = 0 then (if bt451.2 = 0 then ((credenzaref15_Gate.f kj2 l0 l1).bind fun t457 => ((credenzaref03_Same.f kj2 bt451.1 t457).bind fun t460 => (credenzalaw15_NormGates.j1 kj2 l1 bt451.1 (!t460)))) else (credenzalaw15_NormGates.j1 kj2 l1 bt451.1 true)) else (if bt451.2 = t455 then (if (bt451.1.length : Int) = 0 then ((credenzalaw15_awake.f kj2).bind fun t456 => (some t456)) else (some false)) else (some false))))) = some r := by rw [if_neg (show ¬ (false = true) by decide)] at H; exact H
        clear H
        have H := H1
        clear H1
        replace H := Option.bind_eq_some_iff.mp H
        obtain ⟨⟨t451, t452⟩, A80, H⟩ := H
        replace H : ((credenzaref03_Shape.f l0 l1).bind fun t455 => (if t455 = 0 then (if t452 = 0 then ((credenzaref15_Gate.f kj2 l0 l1).bind fun t457 => ((credenzaref03_Same.f kj2 t451 t457).bind fun t460 => (credenzalaw15_NormGates.j1 kj2 l1 t451 (!t460)))) else (credenzalaw15_NormGates.j1 kj2 l1 t451 true)) else (if t452 = t455 then (if (t451.length : Int) = 0 then ((credenzalaw15_awake.f kj2).bind fun t456 => (some t456)) else (some false)) else (some false)))) = some r := H
        have A8 := Aside0.mk A80
        clear A80
        replace H := Option.bind_eq_some_iff.mp H
        obtain ⟨t455, A90, H⟩ := H
        replace H : (if t455 = 0 then (if t452 = 0 then ((credenzaref15_Gate.f kj2 l0 l1).bind fun t457 => ((credenzaref03_Same.f kj2 t451 t457).bind fun t460 => (credenzalaw15_NormGates.j1 kj2 l1 t451 (!t460)))) else (credenzalaw15_NormGates.j1 kj2 l1 t451 true)) else (if t452 = t455 then (if (t451.length : Int) = 0 then ((credenzalaw15_awake.f kj2).bind fun t456 => (some t456)) else (some false)) else (some false))) = some r := H
        have A9 := Aside0.mk A90
        clear A90
        by_cases c10 : t455 = 0
        · rw [if_pos c10] at H
          have c10b0 : (t455 == 0) = true := beq_iff_eq.mpr c10
          have c10b1 : (t455 != 0) = false := bne_eq_false_iff_eq.mpr c10
          clear c10
          have HC11 := Aside0.mk H
          clear H
          go_upto_region 7 with (first | ((with_reducible refine gate_callee (f := 27) rfl ?_); refine goesL_ (some 22) rfl rfl Try.func27 (by kernel_rfl) rfl #[.slice A0 l0.length c0, .slice A1 l1.length c1] rfl (by (try simp only [List.map_toArray, List.map_cons, List.map_nil]); first | done | rfl | (simp only [List.length_drop, List.length_take]; rfl)) ?_; (with_reducible refine (norm_Gate.calls kj2 _ _ l0 _ _ l1 t451 t452 _ ?side1 ?side2 ?side3 ?side4 A8.out).mono ?_); (case side1 => repeat (first | exact (Kd.C_below HR0.out HB.out) | (with_reducible refine Kd.C_alloc ?_ _) | (with_reducible refine Kd.C_drewN ?_ _) | (with_reducible refine Kd.C_drew ?_))); (case side2 => exact HC0.out); (case side3 => repeat (first | exact (Kd.C_below HR1.out HB.out) | (with_reducible refine Kd.C_alloc ?_ _) | (with_reducible refine Kd.C_drewN ?_ _) | (with_reducible refine Kd.C_drew ?_))); (case side4 => exact HC1.out); rintro e w12 ⟨v453, rfl, ho0, hb⟩; refine ⟨_, rfl, ?_⟩; have n0_ := Aside0.mk (Kd.R_lower ho0 (below_size (by repeat (first | (with_reducible first | exact HB.out | apply below_alloc | apply pw_below_drewN | apply below_drew1) | exact HB.out)))); have n1_ := Aside0.mk (below_step (by repeat (first | (with_reducible first | exact HB.out | apply below_alloc | apply pw_below_drewN | apply below_drew1) | exact HB.out)) hb); clear HB; have HO454 := n0_; have HB := n1_; clear n0_ n1_; (try clear hb); (try clear hb2); (try clear hk); (try clear hi); (try clear ho0)) | ((with_reducible refine gate_callee (f := 28) rfl ?_); refine goesL_ (some 27) rfl rfl Try.func28 (by kernel_rfl) rfl #[.slice A0 l0.length c0, .slice A1 l1.length c1] rfl (by (try simp only [List.map_toArray, List.map_cons, List.map_nil]); first | done | rfl | (simp only [List.length_drop, List.length_take]; rfl)) ?_; (with_reducible refine (credenzaref03_Shape.calls _ _ l0 _ _ l1 t455 _ ?side1 ?side2 ?side3 ?side4 A9.out).mono ?_); (case side1 => repeat (first | exact (Kd.C_below HR0.out HB.out) | (with_reducible refine Kd.C_alloc ?_ _) | (with_reducible refine Kd.C_drewN ?_ _) | (with_reducible refine Kd.C_drew ?_))); (case side2 => exact HC0.out); (case side3 => repeat (first | exact (Kd.C_below HR1.out HB.out) | (with_reducible refine Kd.C_alloc ?_ _) | (with_reducible refine Kd.C_drewN ?_ _) | (with_reducible refine Kd.C_drew ?_))); (case side4 => exact HC1.out); rintro e w' ⟨rfl, ⟨nd, rfl⟩⟩; refine ⟨_, rfl, ?_⟩))
          (try simp only [Act.put, List.setIfInBounds_toArray, List.set_cons_zero, List.set_cons_succ])
          go_cut [50] (fun v50 wc => ∃ (kq : Nat) (x50_10 : Bool), v50 = .bool x50_10 ∧ Aside0 (credenzalaw15_NormGates.j1 kq l1 t451 x50_10 = some r) ∧ Aside0 (kq ≤ kj2) ∧ Aside0 (Kd.R (Kd.int .i32) 21 wc w.heap.size (fun _ => True) v453 t451) ∧ Aside0 (Below w.heap.size w wc))
          case first =>
            have H := HC11.out
            clear HC11
            by_cases c13 : t452 = 0
            · rw [if_pos c13] at H
              have c13b0 : (t452 == 0) = true := beq_iff_eq.mpr c13
              have c13b1 : (t452 != 0) = false := bne_eq_false_iff_eq.mpr c13
              clear c13
              (first | rw [c13b0] | (simp only [i64_w, i32_w]; rw [c13b0]) | skip)
              replace H := Option.bind_eq_some_iff.mp H
              obtain ⟨t457, A140, H⟩ := H
              replace H : ((credenzaref03_Same.f kj2 t451 t457).bind fun t460 => (credenzalaw15_NormGates.j1 kj2 l1 t451 (!t460))) = some r := H
              have A14 := Aside0.mk A140
              clear A140
              replace H := Option.bind_eq_some_iff.mp H
              obtain ⟨t460, A150, H⟩ := H
              replace H : (credenzalaw15_NormGates.j1 kj2 l1 t451 (!t460)) = some r := H
              have A15 := Aside0.mk A150
              clear A150
              have H' := Aside0.mk H
              clear H
              go_wp2_with (first | (go_at_call 29; (with_reducible refine (credenzaref15_Gate.calls kj2 _ _ l0 _ _ l1 t457 _ ?side1 ?side2 ?side3 ?side4 A14.out).mono ?_); (case side1 => repeat (first | exact (Kd.C_below HR0.out HB.out) | (with_reducible refine Kd.C_alloc ?_ _) | (with_reducible refine Kd.C_drewN ?_ _) | (with_reducible refine Kd.C_drew ?_))); (case side2 => exact HC0.out); (case side3 => repeat (first | exact (Kd.C_below HR1.out HB.out) | (with_reducible refine Kd.C_alloc ?_ _) | (with_reducible refine Kd.C_drewN ?_ _) | (with_reducible refine Kd.C_drew ?_))); (case side4 => exact HC1.out); rintro e w16 ⟨v458, rfl, ho0, hb⟩; have n0_ := Aside0.mk (Kd.R_elder' (by (with_reducible repeat (first | apply Kd.R_alloc | apply Kd.R_drewN | apply Kd.R_drew)); exact HO454.out) (Kd.R_base ho0) hb); have n1_ := Aside0.mk (Kd.R_lower (Kd.R_new' ho0 (Kd.R_lt (by (with_reducible repeat (first | apply Kd.R_alloc | apply Kd.R_drewN | apply Kd.R_drew)); exact HO454.out))) (below_size (by repeat (first | (with_reducible first | exact HB.out | apply below_alloc | apply pw_below_drewN | apply below_drew1) | exact HB.out)))); have n2_ := Aside0.mk (below_step (by repeat (first | (with_reducible first | exact HB.out | apply below_alloc | apply pw_below_drewN | apply below_drew1) | exact HB.out)) hb); clear HO454; clear HB; have HO454 := n0_; have HO459 := n1_; have HB := n2_; clear n0_ n1_ n2_; (try clear hb); (try clear hb2); (try clear hk); (try clear hi); (try clear ho0); obtain ⟨Ao17, co17, eo17⟩ := Kd.R_slice HO454.out; subst eo17; obtain ⟨Ao18, co18, eo18⟩ := Kd.R_slice HO459.out; subst eo18) | (go_at_call 21; (with_reducible refine (credenzaref03_Same.calls kj2 _ _ t451 _ _ t457 t460 _ ?side1 ?side2 ?side3 ?side4 A15.out).mono ?_); (case side1 => repeat (first | exact (Kd.R_reads' HO454.out).2.2 | (with_reducible refine Kd.C_alloc ?_ _) | (with_reducible refine Kd.C_drewN ?_ _) | (with_reducible refine Kd.C_drew ?_))); (case side2 => exact (Kd.R_reads' HO454.out).2.1); (case side3 => repeat (first | exact (Kd.R_reads' HO459.out).2.2 | (with_reducible refine Kd.C_alloc ?_ _) | (with_reducible refine Kd.C_drewN ?_ _) | (with_reducible refine Kd.C_drew ?_))); (case side4 => exact (Kd.R_reads' HO459.out).2.1); rintro e w' ⟨rfl, ⟨nd, rfl⟩⟩))
              go_meet
              case rel => exact ⟨_, (!t460), (by first | rfl | (simp; done) | (simp [*]; done)), H', ⟨by have := HJ2.out; first | omega | exact Nat.le_refl _⟩, ⟨by (with_reducible repeat (first | apply Kd.R_alloc | apply Kd.R_drewN | apply Kd.R_drew)); exact Kd.R_mono HO454.out (fun _ hk => trivial)⟩, ⟨by repeat (first | (with_reducible first | exact HB.out | apply below_alloc | apply pw_below_drewN | apply below_drew1) | exact HB.out)⟩⟩
            · rw [if_neg c13] at H
              have c13b0 : (t452 == 0) = false := beq_eq_false_iff_ne.mpr c13
              have c13b1 : (t452 != 0) = true := bne_iff_ne.mpr c13
              (first | rw [c13b0] | (simp only [i64_w, i32_w]; rw [c13b0]) | skip)
              have H' := Aside0.mk H
              clear H
              go_wp2
              go_meet
              case rel => exact ⟨_, (true), (by first | rfl | (simp; done) | (simp [*]; done)), H', ⟨by have := HJ2.out; first | omega | exact Nat.le_refl _⟩, ⟨by (with_reducible repeat (first | apply Kd.R_alloc | apply Kd.R_drewN | apply Kd.R_drew)); exact HO454.out⟩, ⟨by repeat (first | (with_reducible first | exact HB.out | apply below_alloc | apply pw_below_drewN | apply below_drew1) | exact HB.out)⟩⟩
          case rest =>
            clear HC11
            try clear c1
            try clear c2
            try clear p2
            try clear c4
            try clear c4b0
            try clear c4b1
            try clear c5
            try clear c7
            try clear c10
            try clear c10b0
            try clear c10b1
            try clear c13
            try clear c13b0
            try clear c13b1
            try clear p2
            obtain ⟨kq, x50_10, rfl, HA, HJ10, HO_5, HB⟩ := hcut
            cases kq with
            | zero => exact absurd HA.out (by simp [credenzalaw15_NormGates.j1])
            | succ kj10 =>
              have H := HA.out
              clear HA
              simp only [credenzalaw15_NormGates.j1] at H
              by_cases c19 : x50_10 = true
              · subst c19
                have H1 : (some false) = some r := by rw [if_pos rfl] at H; exact H
                clear H
                have H := H1
                clear H1
                exact absurd (H.trans (congrArg some HRT.out)) (by simp)
              · replace c19 := Bool.eq_false_iff.mpr c19
                subst c19
                have H1 : (credenzalaw15_NormGates.l0 kj10 t451 l1 (l1.length : Int) 0) = some r := by rw [if_neg (show ¬ (false = true) by decide)] at H; exact H
                clear H
                have H := H1
                clear H1
                have H' := Aside0.mk H
                clear H
                go_wp2
                go_loopg [53] kj10 (fun kq v53 w' => ∃ (x53_3 : Int), v53 = .int .i64 x53_3 ∧ Aside0 (credenzalaw15_NormGates.l0 kq t451 l1 (l1.length : Int) x53_3 = some r) ∧ Aside0 (kq ≤ kj10) ∧ Aside0 (Kd.R (Kd.int .i32) 21 w' w.heap.size (fun _ => True) v453 t451) ∧ Aside0 (Below w.heap.size w w'))
                case atStart => exact ⟨(0), (by first | rfl | (simp; done) | (simp [*]; done)), H', ⟨Nat.le_refl _⟩, ⟨by (with_reducible repeat (first | apply Kd.R_alloc | apply Kd.R_drewN | apply Kd.R_drew)); exact HO_5.out⟩, ⟨by repeat (first | (with_reducible first | exact HB.out | apply below_alloc | apply pw_below_drewN | apply below_drew1) | exact HB.out)⟩⟩
                case round =>
                  clear H'
                  try clear c1
                  try clear c2
                  try clear p2
                  try clear c4
                  try clear c4b0
                  try clear c4b1
                  try clear c5
                  try clear c7
                  try clear c10
                  try clear c10b0
                  try clear c10b1
                  try clear c13
                  try clear c13b0
                  try clear c13b1
                  try clear c19
                  try clear p2
                  obtain ⟨x53_3, rfl, HA, HK3, HO_5, HB⟩ := hrel
                  cases gk with
                  | zero => exact absurd HA.out (by simp [credenzalaw15_NormGates.l0])
                  | succ k3 =>
                    have H := HA.out
                    clear HA
                    simp only [credenzalaw15_NormGates.l0] at H
                    by_cases c20 : x53_3 < (l1.length : Int)
                    · rw [if_pos c20] at H
                      have c20b0 : decide (x53_3 < (l1.length : Int)) = true := decide_eq_true c20
                      clear c20
                      by_cases c21 : 0 ≤ x53_3
                      · rw [if_pos c21] at H
                        have c21b0 : decide (0 ≤ x53_3) = true := decide_eq_true c21
                        clear c21
                        by_cases c22 : x53_3 < (l1.length : Int)
                        · rw [if_pos c22] at H
                          have c22b0 : decide (x53_3 < (l1.length : Int)) = true := decide_eq_true c22
                          clear c22
                          by_cases c23 : (rd l1 x53_3) ≤ 0
                          · rw [if_pos c23] at H
                            have c23b0 : decide ((rd l1 x53_3) ≤ 0) = true := decide_eq_true c23
                            clear c23
                            by_cases c24 : x53_3 < (t451.length : Int)
                            · rw [if_pos c24] at H
                              have c24b0 : decide (x53_3 < (t451.length : Int)) = true := decide_eq_true c24
                              clear c24
                              by_cases c25 : (rd t451 x53_3) = 0
                              · rw [if_pos c25] at H
                                have c25b0 : ((rd t451 x53_3) == 0) = true := beq_iff_eq.mpr c25
                                have c25b1 : ((rd t451 x53_3) != 0) = false := bne_eq_false_iff_eq.mpr c25
                                clear c25
                                have H' := Aside0.mk H
                                clear H
                                have p461 : 0 ≤ (x53_3 : Int) := of_decide_eq_true (by first | (with_reducible assumption) | assumption)
                                have q461 : x53_3 < (l1.length : Int) := of_decide_eq_true (by first | (with_reducible assumption) | assumption)
                                obtain ⟨ad461, e461, hx461_0⟩ := Kd.at_int HR1.out x53_3 p461 q461
                                cases e461
                                replace hx461_0 := (HB.out.cell (World.block_lt_of_cell? w _ hx461_0)).trans hx461_0
                                replace p461 := eq_true p461
                                replace q461 := eq_true q461
                                obtain ⟨Ao26, co26, eo26⟩ := Kd.R_slice HO_5.out
                                subst eo26
                                have p462 : 0 ≤ (x53_3 : Int) := of_decide_eq_true (by first | (with_reducible assumption) | assumption)
                                have q462 : x53_3 < (t451.length : Int) := of_decide_eq_true (by first | (with_reducible assumption) | assumption)
                                obtain ⟨ad462, e462, hx462_0⟩ := Kd.at_int (Kd.R_reads' HO_5.out).2.2 x53_3 p462 q462
                                cases e462
                                replace p462 := eq_true p462
                                replace q462 := eq_true q462
                                go_wp2
                                go_roundg k3
                                case measure => have := HJ2.out; have := HJ10.out; have := HK3.out; omega
                                case rel => exact ⟨(wrap64 (x53_3 + 1)), (by first | rfl | (simp; done) | (simp [*]; done)), H', ⟨by have := HJ2.out; have := HJ10.out; have := HK3.out; omega⟩, ⟨by (with_reducible repeat (first | apply Kd.R_alloc | apply Kd.R_drewN | apply Kd.R_drew)); exact HO_5.out⟩, ⟨by repeat (first | (with_reducible first | exact HB.out | apply below_alloc | apply pw_below_drewN | apply below_drew1) | exact HB.out)⟩⟩
                              · rw [if_neg c25] at H
                                have c25b0 : ((rd t451 x53_3) == 0) = false := beq_eq_false_iff_ne.mpr c25
                                have c25b1 : ((rd t451 x53_3) != 0) = true := bne_iff_ne.mpr c25
                                exact absurd (H.trans (congrArg some HRT.out)) (by simp)
                            · rw [if_neg c24] at H
                              exact absurd H (by simp)
                          · rw [if_neg c23] at H
                            have c23b0 : decide ((rd l1 x53_3) ≤ 0) = false := decide_eq_false c23
                            clear c23
                            have H' := Aside0.mk H
                            clear H
                            have p461 : 0 ≤ (x53_3 : Int) := of_decide_eq_true (by first | (with_reducible assumption) | assumption)
                            have q461 : x53_3 < (l1.length : Int) := of_decide_eq_true (by first | (with_reducible assumption) | assumption)
                            obtain ⟨ad461, e461, hx461_0⟩ := Kd.at_int HR1.out x53_3 p461 q461
                            cases e461
                            replace hx461_0 := (HB.out.cell (World.block_lt_of_cell? w _ hx461_0)).trans hx461_0
                            replace p461 := eq_true p461
                            replace q461 := eq_true q461
                            go_wp2
                            go_roundg k3
                            case measure => have := HJ2.out; have := HJ10.out; have := HK3.out; omega
                            case rel => exact ⟨(wrap64 (x53_3 + 1)), (by first | rfl | (simp; done) | (simp [*]; done)), H', ⟨by have := HJ2.out; have := HJ10.out; have := HK3.out; omega⟩, ⟨by (with_reducible repeat (first | apply Kd.R_alloc | apply Kd.R_drewN | apply Kd.R_drew)); exact HO_5.out⟩, ⟨by repeat (first | (with_reducible first | exact HB.out | apply below_alloc | apply pw_below_drewN | apply below_drew1) | exact HB.out)⟩⟩
                        · rw [if_neg c22] at H
                          exact absurd H (by simp)
                      · rw [if_neg c21] at H
                        exact absurd H (by simp)
                    · rw [if_neg c20] at H
                      have c20b0 : decide (x53_3 < (l1.length : Int)) = false := decide_eq_false c20
                      clear c20
                      replace H := Option.bind_eq_some_iff.mp H
                      obtain ⟨t463, A270, H⟩ := H
                      replace H : (some t463) = some r := H
                      have A27 := Aside0.mk A270
                      clear A270
                      obtain rfl := Option.some.inj H
                      go_wp2_with (first | ((with_reducible refine gate_callee (f := 22) rfl ?_); refine goesL_ (some 68) rfl rfl Try.func22 (by kernel_rfl) rfl #[] rfl (by (try simp only [List.map_toArray, List.map_cons, List.map_nil]); first | done | rfl | (simp only [List.length_drop, List.length_take]; rfl)) ?_; (with_reducible refine (credenzalaw15_awake.calls k3  t463 _ A27.out).mono ?_); rintro e w28 ⟨rfl, hb⟩; refine ⟨_, rfl, ?_⟩; have n0_ := Aside0.mk (Kd.R_below (by (with_reducible repeat (first | apply Kd.R_alloc | apply Kd.R_drewN | apply Kd.R_drew)); exact HO_5.out) hb); have n1_ := Aside0.mk (below_step (by repeat (first | (with_reducible first | exact HB.out | apply below_alloc | apply pw_below_drewN | apply below_drew1) | exact HB.out)) hb); clear HO_5; clear HB; have HO_5 := n0_; have HB := n1_; clear n0_ n1_; (try clear hb); (try clear hb2); (try clear hk); (try clear hi)))
                      go_ret
                      exact ⟨by first | rfl | (simp [errW_none, errW_some] <;> rfl) | (simp [*, errW_none, errW_some] <;> rfl), by repeat (first | (with_reducible first | exact HB.out | apply below_alloc | apply pw_below_drewN | apply below_drew1) | exact HB.out)⟩
        · rw [if_neg c10] at H
          have c10b0 : (t455 == 0) = false := beq_eq_false_iff_ne.mpr c10
          have c10b1 : (t455 != 0) = true := bne_iff_ne.mpr c10
          by_cases c29 : t452 = t455
          · rw [if_pos c29] at H
            have c29b0 : (t452 == t455) = true := beq_iff_eq.mpr c29
            have c29b1 : (t452 != t455) = false := bne_eq_false_iff_eq.mpr c29
            clear c29
            by_cases c30 : (t451.length : Int) = 0
            · rw [if_pos c30] at H
              have c30b0 : ((t451.length : Int) == 0) = true := beq_iff_eq.mpr c30
              have c30b1 : ((t451.length : Int) != 0) = false := bne_eq_false_iff_eq.mpr c30
              clear c30
              replace H := Option.bind_eq_some_iff.mp H
              obtain ⟨t456, A310, H⟩ := H
              replace H : (some t456) = some r := H
              have A31 := Aside0.mk A310
              clear A310
              obtain rfl := Option.some.inj H
              go_wp2_with (first | ((with_reducible refine gate_callee (f := 27) rfl ?_); refine goesL_ (some 22) rfl rfl Try.func27 (by kernel_rfl) rfl #[.slice A0 l0.length c0, .slice A1 l1.length c1] rfl (by (try simp only [List.map_toArray, List.map_cons, List.map_nil]); first | done | rfl | (simp only [List.length_drop, List.length_take]; rfl)) ?_; (with_reducible refine (norm_Gate.calls kj2 _ _ l0 _ _ l1 t451 t452 _ ?side1 ?side2 ?side3 ?side4 A8.out).mono ?_); (case side1 => repeat (first | exact (Kd.C_below HR0.out HB.out) | (with_reducible refine Kd.C_alloc ?_ _) | (with_reducible refine Kd.C_drewN ?_ _) | (with_reducible refine Kd.C_drew ?_))); (case side2 => exact HC0.out); (case side3 => repeat (first | exact (Kd.C_below HR1.out HB.out) | (with_reducible refine Kd.C_alloc ?_ _) | (with_reducible refine Kd.C_drewN ?_ _) | (with_reducible refine Kd.C_drew ?_))); (case side4 => exact HC1.out); rintro e w32 ⟨v453, rfl, ho0, hb⟩; refine ⟨_, rfl, ?_⟩; have n0_ := Aside0.mk (Kd.R_lower ho0 (below_size (by repeat (first | (with_reducible first | exact HB.out | apply below_alloc | apply pw_below_drewN | apply below_drew1) | exact HB.out)))); have n1_ := Aside0.mk (below_step (by repeat (first | (with_reducible first | exact HB.out | apply below_alloc | apply pw_below_drewN | apply below_drew1) | exact HB.out)) hb); clear HB; have HO454 := n0_; have HB := n1_; clear n0_ n1_; (try clear hb); (try clear hb2); (try clear hk); (try clear hi); (try clear ho0)) | ((with_reducible refine gate_callee (f := 28) rfl ?_); refine goesL_ (some 27) rfl rfl Try.func28 (by kernel_rfl) rfl #[.slice A0 l0.length c0, .slice A1 l1.length c1] rfl (by (try simp only [List.map_toArray, List.map_cons, List.map_nil]); first | done | rfl | (simp only [List.length_drop, List.length_take]; rfl)) ?_; (with_reducible refine (credenzaref03_Shape.calls _ _ l0 _ _ l1 t455 _ ?side1 ?side2 ?side3 ?side4 A9.out).mono ?_); (case side1 => repeat (first | exact (Kd.C_below HR0.out HB.out) | (with_reducible refine Kd.C_alloc ?_ _) | (with_reducible refine Kd.C_drewN ?_ _) | (with_reducible refine Kd.C_drew ?_))); (case side2 => exact HC0.out); (case side3 => repeat (first | exact (Kd.C_below HR1.out HB.out) | (with_reducible refine Kd.C_alloc ?_ _) | (with_reducible refine Kd.C_drewN ?_ _) | (with_reducible refine Kd.C_drew ?_))); (case side4 => exact HC1.out); rintro e w' ⟨rfl, ⟨nd, rfl⟩⟩; refine ⟨_, rfl, ?_⟩; obtain ⟨Ao33, co33, eo33⟩ := Kd.R_slice HO454.out; subst eo33) | (go_at_call 22; (with_reducible refine (credenzalaw15_awake.calls kj2  t456 _ A31.out).mono ?_); rintro e w34 ⟨rfl, hb⟩; have n0_ := Aside0.mk (Kd.R_below (by (with_reducible repeat (first | apply Kd.R_alloc | apply Kd.R_drewN | apply Kd.R_drew)); exact HO454.out) hb); have n1_ := Aside0.mk (below_step (by repeat (first | (with_reducible first | exact HB.out | apply below_alloc | apply pw_below_drewN | apply below_drew1) | exact HB.out)) hb); clear HO454; clear HB; have HO454 := n0_; have HB := n1_; clear n0_ n1_; (try clear hb); (try clear hb2); (try clear hk); (try clear hi)))
              go_ret
              exact ⟨by first | rfl | (simp [errW_none, errW_some] <;> rfl) | (simp [*, errW_none, errW_some] <;> rfl), by repeat (first | (with_reducible first | exact HB.out | apply below_alloc | apply pw_below_drewN | apply below_drew1) | exact HB.out)⟩
            · rw [if_neg c30] at H
              have c30b0 : ((t451.length : Int) == 0) = false := beq_eq_false_iff_ne.mpr c30
              have c30b1 : ((t451.length : Int) != 0) = true := bne_iff_ne.mpr c30
              have c30b2 : ¬ (t451 = []) := fun h_ => c30 (by rw [h_]; rfl)
              exact absurd (H.trans (congrArg some HRT.out)) (by simp)
          · rw [if_neg c29] at H
            have c29b0 : (t452 == t455) = false := beq_eq_false_iff_ne.mpr c29
            have c29b1 : (t452 != t455) = true := bne_iff_ne.mpr c29
            exact absurd (H.trans (congrArg some HRT.out)) (by simp)

/-- THE ONE PURE STATEMENT of credenzalaw15_NormGates: yours. -/
def credenzalaw15_NormGates.Pure : Prop := ∀ (l0 : List Int) (l1 : List Int), l0.length ≤ maxLen → l0.length * 4 ≤ 140737488351232 → (∀ x ∈ l0, (Lit.int .i32 x).wf = true) → l1.length ≤ maxLen → l1.length * 4 ≤ 140737488351232 → (∀ x ∈ l1, (Lit.int .i32 x).wf = true) → ∃ k, credenzalaw15_NormGates.f k l0 l1 = some true
theorem credenzalaw15_NormGates.walk (P : credenzalaw15_NormGates.Pure) (a0 : Option Addr) (len0 cap0 : Nat) (z0 : List Int) (a1 : Option Addr) (len1 cap1 : Nat) (z1 : List Int) (w : World) (w0 : (a0 = none ∧ len0 = 0 ∧ cap0 = 0 ∧ z0 = []) ∨ ∃ x, a0 = some x ∧ len0 ≤ cap0 ∧ cap0 ≤ maxLen ∧ z0.length = cap0 ∧ (∀ i, i < z0.length → w.cell? (x.add i) = some (.int .i32 (z0.getD i 0))) ∧ ∀ n ∈ z0, (Lit.int .i32 n).wf = true) (y0 : len0 * 4 ≤ 140737488351232) (w1 : (a1 = none ∧ len1 = 0 ∧ cap1 = 0 ∧ z1 = []) ∨ ∃ x, a1 = some x ∧ len1 ≤ cap1 ∧ cap1 ≤ maxLen ∧ z1.length = cap1 ∧ (∀ i, i < z1.length → w.cell? (x.add i) = some (.int .i32 (z1.getD i 0))) ∧ ∀ n ∈ z1, (Lit.int .i32 n).wf = true) (y1 : len1 * 4 ≤ 140737488351232) :
    Calls Try.prog 7 #[.slice a0 len0 cap0, .slice a1 len1 cap1] w fun e w' => e = .returned (.bool true) ∧ Below w.heap.size w w' := by
  obtain ⟨l0, rfl, hr0, hm0, hw0, hc0⟩ := ReadsInt.ofRowC w0
  obtain ⟨l1, rfl, hr1, hm1, hw1, hc1⟩ := ReadsInt.ofRowC w1
  obtain ⟨k, h⟩ := P l0 l1 hm0 y0 hw0 hm1 y1 hw1
  refine (credenzalaw15_NormGates.calls k _ _ l0 _ _ l1 true w (Kd.C_of_reads (d := (0 : Int)) (h1 := fun _ => rfl) hr0) hc0 (Kd.C_of_reads (d := (0 : Int)) (h1 := fun _ => rfl) hr1) hc1 h rfl).mono ?_
  rintro e w' ⟨rfl, hd⟩
  exact ⟨rfl, hd⟩

-- NOT PRINTED: function 8 (credenzalaw15_NormOdd)

end Go.Proofs.Ytmndomlpdajjmac.Q
