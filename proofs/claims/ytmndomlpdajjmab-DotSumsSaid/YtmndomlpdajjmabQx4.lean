-- Ytmndomlpdajjmab: the machine side of the statements, written by a program of the session.
import Derived.Test.YtmndomlpdajjmabQx0
import Derived.Test.YtmndomlpdajjmabQx1
import Derived.Test.YtmndomlpdajjmabQx3
namespace Go.Proofs.Ytmndomlpdajjmab.Q
open Go.RowKit Go.Proofs.YtmndomlpdajjmabW.PrintWords Go.Proofs.YtmndomlpdajjmabW.PrintLast Go.Proofs.YtmndomlpdajjmabW.PrintMore
attribute [local go_sem] max2_int min2_int max_two min_two max_three min_three max_four min_four   -- for this text's walks alone
set_option linter.unusedVariables false
set_option linter.unusedSimpArgs false

/-! ### credenzalaw03_DotSums: function 3 -/
mutual
def credenzalaw03_DotSums.j0 : Nat → List Int → List Int → Int → Int → Bool → Option (Bool)
  | 0, _, _, _, _, _ => none
  | k + 1, x0, x1, x5, x6, x8 => (dot_Mild.f k x0).bind fun t230 => ((credenzaref03_Mild.f k x0).bind fun t231 => (if (t230 != t231) = true then (credenzalaw03_DotSums.j1 k x0 x1 x5 x6 x8 true) else (credenzalaw03_DotSums.j1 k x0 x1 x5 x6 x8 (!x8))))
def credenzalaw03_DotSums.j1 : Nat → List Int → List Int → Int → Int → Bool → Bool → Option (Bool)
  | 0, _, _, _, _, _, _ => none
  | k + 1, x0, x1, x5, x6, x8, x44 => if x44 = true then (if x8 = true then (some false) else (if x6 = 11 then (if x5 = 0 then ((credenzalaw03_awake.f k).bind fun t232 => (some t232)) else (some false)) else (some false))) else (if x6 = 0 then ((credenzaref03_Dot.f k x0 x1).bind fun t233 => (if x5 = t233 then (if x5 < 576460752303423488 then (if x5 > (-576460752303423488) then ((credenzalaw03_awake.f k).bind fun t234 => (some t234)) else (some false)) else (some false)) else (some false))) else (some false))
end
def credenzalaw03_DotSums.f (k : Nat) (l0 : List Int) (l1 : List Int) : Option (Bool) := (dot_Dot.f k l0 l1).bind fun bt224 => ((credenzaref03_Shape.f l0 l1).bind fun t226 => (if t226 = 0 then ((credenzaref03_Mild.f k l0).bind fun t228 => (if t228 = true then ((credenzaref03_Mild.f k l1).bind fun t229 => (credenzalaw03_DotSums.j0 k l0 l1 bt224.1 bt224.2 t229)) else (credenzalaw03_DotSums.j0 k l0 l1 bt224.1 bt224.2 false))) else (if bt224.2 = t226 then (if bt224.1 = 0 then ((credenzalaw03_awake.f k).bind fun t227 => (some t227)) else (some false)) else (some false))))
theorem credenzalaw03_DotSums.mono_l : ∀ k, (∀ y0 y1 y2 y3 y4, LeO (credenzalaw03_DotSums.j0 k y0 y1 y2 y3 y4) (credenzalaw03_DotSums.j0 (k + 1) y0 y1 y2 y3 y4)) ∧ (∀ y0 y1 y2 y3 y4 y5, LeO (credenzalaw03_DotSums.j1 k y0 y1 y2 y3 y4 y5) (credenzalaw03_DotSums.j1 (k + 1) y0 y1 y2 y3 y4 y5))
  | 0 => ⟨fun _ _ _ _ _ r h => by simp [credenzalaw03_DotSums.j0] at h, fun _ _ _ _ _ _ r h => by simp [credenzalaw03_DotSums.j1] at h⟩
  | k + 1 => by
    obtain ⟨ih0, ih1⟩ := credenzalaw03_DotSums.mono_l k
    refine ⟨?_, ?_⟩
    · intro y0 y1 y2 y3 y4
      unfold credenzalaw03_DotSums.j0
      repeat' first
      | (with_reducible exact ih0 _ _ _ _ _)
      | (with_reducible exact ih1 _ _ _ _ _ _)
      | (with_reducible exact credenzalaw03_awake.mono _)
      | (with_reducible exact credenzaref03_Dot.mono _ _ _)
      | (with_reducible exact credenzaref03_Mild.mono _ _)
      | (with_reducible exact dot_Dot.mono _ _ _)
      | (with_reducible exact dot_Mild.mono _ _)
      | (with_reducible exact LeO.refl _)
      | (with_reducible exact LeO.none _)
      | (with_reducible refine LeO.ite ?_ ?_)
      | (with_reducible refine LeO.bind ?_ (fun _ => ?_))
      | exact ih0 _ _ _ _ _
      | exact ih1 _ _ _ _ _ _
      | exact credenzalaw03_awake.mono _
      | exact credenzaref03_Dot.mono _ _ _
      | exact credenzaref03_Mild.mono _ _
      | exact dot_Dot.mono _ _ _
      | exact dot_Mild.mono _ _
      | exact LeO.none _
      | refine LeO.ite ?_ ?_
      | refine LeO.bind ?_ (fun _ => ?_)
    · intro y0 y1 y2 y3 y4 y5
      unfold credenzalaw03_DotSums.j1
      repeat' first
      | (with_reducible exact ih0 _ _ _ _ _)
      | (with_reducible exact ih1 _ _ _ _ _ _)
      | (with_reducible exact credenzalaw03_awake.mono _)
      | (with_reducible exact credenzaref03_Dot.mono _ _ _)
      | (with_reducible exact credenzaref03_Mild.mono _ _)
      | (with_reducible exact dot_Dot.mono _ _ _)
      | (with_reducible exact dot_Mild.mono _ _)
      | (with_reducible exact LeO.refl _)
      | (with_reducible exact LeO.none _)
      | (with_reducible refine LeO.ite ?_ ?_)
      | (with_reducible refine LeO.bind ?_ (fun _ => ?_))
      | exact ih0 _ _ _ _ _
      | exact ih1 _ _ _ _ _ _
      | exact credenzalaw03_awake.mono _
      | exact credenzaref03_Dot.mono _ _ _
      | exact credenzaref03_Mild.mono _ _
      | exact dot_Dot.mono _ _ _
      | exact dot_Mild.mono _ _
      | exact LeO.none _
      | refine LeO.ite ?_ ?_
      | refine LeO.bind ?_ (fun _ => ?_)
theorem credenzalaw03_DotSums.mono : ∀ a0 a1 k, LeO (credenzalaw03_DotSums.f k a0 a1) (credenzalaw03_DotSums.f (k + 1) a0 a1) := by
  intro a0 a1 k
  obtain ⟨ih0, ih1⟩ := credenzalaw03_DotSums.mono_l k
  unfold credenzalaw03_DotSums.f
  repeat' first
      | (with_reducible exact ih0 _ _ _ _ _)
      | (with_reducible exact ih1 _ _ _ _ _ _)
      | (with_reducible exact credenzalaw03_awake.mono _)
      | (with_reducible exact credenzaref03_Dot.mono _ _ _)
      | (with_reducible exact credenzaref03_Mild.mono _ _)
      | (with_reducible exact dot_Dot.mono _ _ _)
      | (with_reducible exact dot_Mild.mono _ _)
      | (with_reducible exact LeO.refl _)
      | (with_reducible exact LeO.none _)
      | (with_reducible refine LeO.ite ?_ ?_)
      | (with_reducible refine LeO.bind ?_ (fun _ => ?_))
      | exact ih0 _ _ _ _ _
      | exact ih1 _ _ _ _ _ _
      | exact credenzalaw03_awake.mono _
      | exact credenzaref03_Dot.mono _ _ _
      | exact credenzaref03_Mild.mono _ _
      | exact dot_Dot.mono _ _ _
      | exact dot_Mild.mono _ _
      | exact LeO.none _
      | refine LeO.ite ?_ ?_
      | refine LeO.bind ?_ (fun _ => ?_)
set_option maxHeartbeats 8000000 in
set_option maxRecDepth 100000 in
theorem credenzalaw03_DotSums.calls (k : Nat) (A0 : Option Addr) (c0 : Nat) (l0 : List Int) (A1 : Option Addr) (c1 : Nat) (l1 : List Int) (r : Bool) (w : World) (hr0 : Kd.C (Kd.int .i32) w A0 l0.length l0) (hc0 : l0.length ≤ c0) (hr1 : Kd.C (Kd.int .i32) w A1 l1.length l1) (hc1 : l1.length ≤ c1) (h : credenzalaw03_DotSums.f k l0 l1 = some r) (hrt_ : r = true) :
    Calls Try.prog 3 #[.slice A0 l0.length c0, .slice A1 l1.length c1] w fun e w' => e = .returned (.bool r) ∧ Below w.heap.size w w' := by
  have HR0 := Aside0.mk hr0
  have HC0 := Aside0.mk hc0
  clear hr0 hc0
  have HR1 := Aside0.mk hr1
  have HC1 := Aside0.mk hc1
  clear hr1 hc1
  have HRT := Aside0.mk hrt_
  clear hrt_
  have HB := Aside0.mk (Below.refl w.heap.size w)
  have H : ((dot_Dot.f k l0 l1).bind fun bt224 => ((credenzaref03_Shape.f l0 l1).bind fun t226 => (if t226 = 0 then ((credenzaref03_Mild.f k l0).bind fun t228 => (if t228 = true then ((credenzaref03_Mild.f k l1).bind fun t229 => (credenzalaw03_DotSums.j0 k l0 l1 bt224.1 bt224.2 t229)) else (credenzalaw03_DotSums.j0 k l0 l1 bt224.1 bt224.2 false))) else (if bt224.2 = t226 then (if bt224.1 = 0 then ((credenzalaw03_awake.f k).bind fun t227 => (some t227)) else (some false)) else (some false))))) = some r := h
  clear h
  replace H := Option.bind_eq_some_iff.mp H
  obtain ⟨⟨t224, t225⟩, A30, H⟩ := H
  replace H : ((credenzaref03_Shape.f l0 l1).bind fun t226 => (if t226 = 0 then ((credenzaref03_Mild.f k l0).bind fun t228 => (if t228 = true then ((credenzaref03_Mild.f k l1).bind fun t229 => (credenzalaw03_DotSums.j0 k l0 l1 t224 t225 t229)) else (credenzalaw03_DotSums.j0 k l0 l1 t224 t225 false))) else (if t225 = t226 then (if t224 = 0 then ((credenzalaw03_awake.f k).bind fun t227 => (some t227)) else (some false)) else (some false)))) = some r := H
  have A3 := Aside0.mk A30
  clear A30
  replace H := Option.bind_eq_some_iff.mp H
  obtain ⟨t226, A40, H⟩ := H
  replace H : (if t226 = 0 then ((credenzaref03_Mild.f k l0).bind fun t228 => (if t228 = true then ((credenzaref03_Mild.f k l1).bind fun t229 => (credenzalaw03_DotSums.j0 k l0 l1 t224 t225 t229)) else (credenzalaw03_DotSums.j0 k l0 l1 t224 t225 false))) else (if t225 = t226 then (if t224 = 0 then ((credenzalaw03_awake.f k).bind fun t227 => (some t227)) else (some false)) else (some false))) = some r := H
  have A4 := Aside0.mk A40
  clear A40
  by_cases c5 : t226 = 0
  · rw [if_pos c5] at H
    have c5b0 : (t226 == 0) = true := beq_iff_eq.mpr c5
    have c5b1 : (t226 != 0) = false := bne_eq_false_iff_eq.mpr c5
    clear c5
    have HC6 := Aside0.mk H
    clear H
    go_enter Try.func3, Try.ntmps3
    go_upto_region 5 with (first | ((with_reducible refine gate_callee (f := 15) rfl ?_); refine goesL_ (some 12) rfl rfl Try.func15 (by kernel_rfl) rfl #[.slice A0 l0.length c0, .slice A1 l1.length c1] rfl (by (try simp only [List.map_toArray, List.map_cons, List.map_nil]); first | done | rfl | (simp only [List.length_drop, List.length_take]; rfl)) ?_; (with_reducible refine (dot_Dot.calls k _ _ l0 _ _ l1 t224 t225 _ ?side1 ?side2 ?side3 ?side4 A3.out).mono ?_); (case side1 => repeat (first | exact HR0.out | (with_reducible refine Kd.C_alloc ?_ _) | (with_reducible refine Kd.C_drewN ?_ _) | (with_reducible refine Kd.C_drew ?_))); (case side2 => exact HC0.out); (case side3 => repeat (first | exact HR1.out | (with_reducible refine Kd.C_alloc ?_ _) | (with_reducible refine Kd.C_drewN ?_ _) | (with_reducible refine Kd.C_drew ?_))); (case side4 => exact HC1.out); rintro e w' ⟨rfl, ⟨nd, rfl⟩⟩; refine ⟨_, rfl, ?_⟩) | ((with_reducible refine gate_callee (f := 16) rfl ?_); refine goesL_ (some 17) rfl rfl Try.func16 (by kernel_rfl) rfl #[.slice A0 l0.length c0, .slice A1 l1.length c1] rfl (by (try simp only [List.map_toArray, List.map_cons, List.map_nil]); first | done | rfl | (simp only [List.length_drop, List.length_take]; rfl)) ?_; (with_reducible refine (credenzaref03_Shape.calls _ _ l0 _ _ l1 t226 _ ?side1 ?side2 ?side3 ?side4 A4.out).mono ?_); (case side1 => repeat (first | exact HR0.out | (with_reducible refine Kd.C_alloc ?_ _) | (with_reducible refine Kd.C_drewN ?_ _) | (with_reducible refine Kd.C_drew ?_))); (case side2 => exact HC0.out); (case side3 => repeat (first | exact HR1.out | (with_reducible refine Kd.C_alloc ?_ _) | (with_reducible refine Kd.C_drewN ?_ _) | (with_reducible refine Kd.C_drew ?_))); (case side4 => exact HC1.out); rintro e w' ⟨rfl, ⟨nd, rfl⟩⟩; refine ⟨_, rfl, ?_⟩))
    (try simp only [Act.put, List.setIfInBounds_toArray, List.set_cons_zero, List.set_cons_succ])
    go_cut [8] (fun v8 wc => ∃ (kq : Nat) (x8_5 : Bool), v8 = .bool x8_5 ∧ Aside0 (credenzalaw03_DotSums.j0 kq l0 l1 t224 t225 x8_5 = some r) ∧ Aside0 (kq ≤ k) ∧ Aside0 (Below w.heap.size w wc))
    case first =>
      have H := HC6.out
      clear HC6
      replace H := Option.bind_eq_some_iff.mp H
      obtain ⟨t228, A70, H⟩ := H
      replace H : (if t228 = true then ((credenzaref03_Mild.f k l1).bind fun t229 => (credenzalaw03_DotSums.j0 k l0 l1 t224 t225 t229)) else (credenzalaw03_DotSums.j0 k l0 l1 t224 t225 false)) = some r := H
      have A7 := Aside0.mk A70
      clear A70
      by_cases c8 : t228 = true
      · subst c8
        have H1 : ((credenzaref03_Mild.f k l1).bind fun t229 => (credenzalaw03_DotSums.j0 k l0 l1 t224 t225 t229)) = some r := by rw [if_pos rfl] at H; exact H
        clear H
        have H := H1
        clear H1
        replace H := Option.bind_eq_some_iff.mp H
        obtain ⟨t229, A90, H⟩ := H
        replace H : (credenzalaw03_DotSums.j0 k l0 l1 t224 t225 t229) = some r := H
        have A9 := Aside0.mk A90
        clear A90
        have H' := Aside0.mk H
        clear H
        go_wp2_with (first | ((with_reducible refine gate_callee (f := 18) rfl ?_); refine goesL_ (some 31) rfl rfl Try.func18 (by kernel_rfl) rfl #[.slice A0 l0.length c0] rfl (by (try simp only [List.map_toArray, List.map_cons, List.map_nil]); first | done | rfl | (simp only [List.length_drop, List.length_take]; rfl)) ?_; (with_reducible refine (credenzaref03_Mild.calls k _ _ l0 true _ ?side1 ?side2 A7.out).mono ?_); (case side1 => repeat (first | exact (Kd.C_below HR0.out HB.out) | (with_reducible refine Kd.C_alloc ?_ _) | (with_reducible refine Kd.C_drewN ?_ _) | (with_reducible refine Kd.C_drew ?_))); (case side2 => exact HC0.out); rintro e w' ⟨rfl, ⟨nd, rfl⟩⟩; refine ⟨_, rfl, ?_⟩) | (go_at_call 18; (with_reducible refine (credenzaref03_Mild.calls k _ _ l1 t229 _ ?side1 ?side2 A9.out).mono ?_); (case side1 => repeat (first | exact (Kd.C_below HR1.out (by repeat (first | (with_reducible first | exact HB.out | apply below_alloc | apply pw_below_drewN | apply below_drew1) | exact HB.out))) | (with_reducible refine Kd.C_alloc ?_ _) | (with_reducible refine Kd.C_drewN ?_ _) | (with_reducible refine Kd.C_drew ?_))); (case side2 => exact HC1.out); rintro e w' ⟨rfl, ⟨nd, rfl⟩⟩))
        go_meet
        case rel => exact ⟨_, (t229), (by first | rfl | (simp; done) | (simp [*]; done)), H', ⟨by first | omega | exact Nat.le_refl _⟩, ⟨by repeat (first | (with_reducible first | exact HB.out | apply below_alloc | apply pw_below_drewN | apply below_drew1) | exact HB.out)⟩⟩
      · replace c8 := Bool.eq_false_iff.mpr c8
        subst c8
        have H1 : (credenzalaw03_DotSums.j0 k l0 l1 t224 t225 false) = some r := by rw [if_neg (show ¬ (false = true) by decide)] at H; exact H
        clear H
        have H := H1
        clear H1
        have H' := Aside0.mk H
        clear H
        go_wp2_with (first | ((with_reducible refine gate_callee (f := 18) rfl ?_); refine goesL_ (some 31) rfl rfl Try.func18 (by kernel_rfl) rfl #[.slice A0 l0.length c0] rfl (by (try simp only [List.map_toArray, List.map_cons, List.map_nil]); first | done | rfl | (simp only [List.length_drop, List.length_take]; rfl)) ?_; (with_reducible refine (credenzaref03_Mild.calls k _ _ l0 false _ ?side1 ?side2 A7.out).mono ?_); (case side1 => repeat (first | exact (Kd.C_below HR0.out HB.out) | (with_reducible refine Kd.C_alloc ?_ _) | (with_reducible refine Kd.C_drewN ?_ _) | (with_reducible refine Kd.C_drew ?_))); (case side2 => exact HC0.out); rintro e w' ⟨rfl, ⟨nd, rfl⟩⟩; refine ⟨_, rfl, ?_⟩))
        go_meet
        case rel => exact ⟨_, (false), (by first | rfl | (simp; done) | (simp [*]; done)), H', ⟨by first | omega | exact Nat.le_refl _⟩, ⟨by repeat (first | (with_reducible first | exact HB.out | apply below_alloc | apply pw_below_drewN | apply below_drew1) | exact HB.out)⟩⟩
    case rest =>
      clear HC6
      try clear c1
      try clear p2
      try clear c3
      try clear c5
      try clear c5b0
      try clear c5b1
      try clear c8
      obtain ⟨kq, x8_5, rfl, HA, HJ5, HB⟩ := hcut
      cases kq with
      | zero => exact absurd HA.out (by simp [credenzalaw03_DotSums.j0])
      | succ kj5 =>
        have H := HA.out
        clear HA
        simp only [credenzalaw03_DotSums.j0] at H
        have HC10 := Aside0.mk H
        clear H
        go_upto_region 6 with (fail)
        go_cut [44] (fun v44 wc => ∃ (kq : Nat) (x44_9 : Bool), v44 = .bool x44_9 ∧ Aside0 (credenzalaw03_DotSums.j1 kq l0 l1 t224 t225 x8_5 x44_9 = some r) ∧ Aside0 (kq ≤ kj5) ∧ Aside0 (Below w.heap.size w wc))
        case first =>
          have H := HC10.out
          clear HC10
          replace H := Option.bind_eq_some_iff.mp H
          obtain ⟨t230, A110, H⟩ := H
          replace H : ((credenzaref03_Mild.f kj5 l0).bind fun t231 => (if (t230 != t231) = true then (credenzalaw03_DotSums.j1 kj5 l0 l1 t224 t225 x8_5 true) else (credenzalaw03_DotSums.j1 kj5 l0 l1 t224 t225 x8_5 (!x8_5)))) = some r := H
          have A11 := Aside0.mk A110
          clear A110
          replace H := Option.bind_eq_some_iff.mp H
          obtain ⟨t231, A120, H⟩ := H
          replace H : (if (t230 != t231) = true then (credenzalaw03_DotSums.j1 kj5 l0 l1 t224 t225 x8_5 true) else (credenzalaw03_DotSums.j1 kj5 l0 l1 t224 t225 x8_5 (!x8_5))) = some r := H
          have A12 := Aside0.mk A120
          clear A120
          by_cases c13 : (t230 != t231) = true
          · rw [if_pos c13] at H
            have c13b0 : (t230 != t231) = true := c13
            (try (have c13b1 : decide (t230 = t231) = false := by simpa using c13))
            (try (have c13b2 : (t230 == t231) = false := by simpa using c13))
            (try (have c13b3 : ¬ (t230 = t231) := by simpa using c13))
            clear c13
            (first | rw [c13b0] | (simp only [i64_w, i32_w]; rw [c13b0]) | skip)
            have H' := Aside0.mk H
            clear H
            go_wp2_with (first | ((with_reducible refine gate_callee (f := 19) rfl ?_); refine goesL_ (some 37) rfl rfl Try.func19 (by kernel_rfl) rfl #[.slice A0 l0.length c0] rfl (by (try simp only [List.map_toArray, List.map_cons, List.map_nil]); first | done | rfl | (simp only [List.length_drop, List.length_take]; rfl)) ?_; (with_reducible refine (dot_Mild.calls kj5 _ _ l0 t230 _ ?side1 ?side2 A11.out).mono ?_); (case side1 => repeat (first | exact (Kd.C_below HR0.out HB.out) | (with_reducible refine Kd.C_alloc ?_ _) | (with_reducible refine Kd.C_drewN ?_ _) | (with_reducible refine Kd.C_drew ?_))); (case side2 => exact HC0.out); rintro e w' ⟨rfl, ⟨nd, rfl⟩⟩; refine ⟨_, rfl, ?_⟩) | ((with_reducible refine gate_callee (f := 18) rfl ?_); refine goesL_ (some 39) rfl rfl Try.func18 (by kernel_rfl) rfl #[.slice A0 l0.length c0] rfl (by (try simp only [List.map_toArray, List.map_cons, List.map_nil]); first | done | rfl | (simp only [List.length_drop, List.length_take]; rfl)) ?_; (with_reducible refine (credenzaref03_Mild.calls kj5 _ _ l0 t231 _ ?side1 ?side2 A12.out).mono ?_); (case side1 => repeat (first | exact (Kd.C_below HR0.out (by repeat (first | (with_reducible first | exact HB.out | apply below_alloc | apply pw_below_drewN | apply below_drew1) | exact HB.out))) | (with_reducible refine Kd.C_alloc ?_ _) | (with_reducible refine Kd.C_drewN ?_ _) | (with_reducible refine Kd.C_drew ?_))); (case side2 => exact HC0.out); rintro e w' ⟨rfl, ⟨nd, rfl⟩⟩; refine ⟨_, rfl, ?_⟩))
            go_meet
            case rel => exact ⟨_, (true), (by first | rfl | (simp; done) | (simp [*]; done)), H', ⟨by have := HJ5.out; first | omega | exact Nat.le_refl _⟩, ⟨by repeat (first | (with_reducible first | exact HB.out | apply below_alloc | apply pw_below_drewN | apply below_drew1) | exact HB.out)⟩⟩
          · rw [if_neg c13] at H
            have c13b0 : (t230 != t231) = false := by simpa using c13
            (try (have c13b1 : decide (t230 = t231) = true := by simpa using c13))
            (try (have c13b2 : (t230 == t231) = true := by simpa using c13))
            clear c13
            (first | rw [c13b0] | (simp only [i64_w, i32_w]; rw [c13b0]) | skip)
            have H' := Aside0.mk H
            clear H
            go_wp2_with (first | ((with_reducible refine gate_callee (f := 19) rfl ?_); refine goesL_ (some 37) rfl rfl Try.func19 (by kernel_rfl) rfl #[.slice A0 l0.length c0] rfl (by (try simp only [List.map_toArray, List.map_cons, List.map_nil]); first | done | rfl | (simp only [List.length_drop, List.length_take]; rfl)) ?_; (with_reducible refine (dot_Mild.calls kj5 _ _ l0 t230 _ ?side1 ?side2 A11.out).mono ?_); (case side1 => repeat (first | exact (Kd.C_below HR0.out HB.out) | (with_reducible refine Kd.C_alloc ?_ _) | (with_reducible refine Kd.C_drewN ?_ _) | (with_reducible refine Kd.C_drew ?_))); (case side2 => exact HC0.out); rintro e w' ⟨rfl, ⟨nd, rfl⟩⟩; refine ⟨_, rfl, ?_⟩) | ((with_reducible refine gate_callee (f := 18) rfl ?_); refine goesL_ (some 39) rfl rfl Try.func18 (by kernel_rfl) rfl #[.slice A0 l0.length c0] rfl (by (try simp only [List.map_toArray, List.map_cons, List.map_nil]); first | done | rfl | (simp only [List.length_drop, List.length_take]; rfl)) ?_; (with_reducible refine (credenzaref03_Mild.calls kj5 _ _ l0 t231 _ ?side1 ?side2 A12.out).mono ?_); (case side1 => repeat (first | exact (Kd.C_below HR0.out (by repeat (first | (with_reducible first | exact HB.out | apply below_alloc | apply pw_below_drewN | apply below_drew1) | exact HB.out))) | (with_reducible refine Kd.C_alloc ?_ _) | (with_reducible refine Kd.C_drewN ?_ _) | (with_reducible refine Kd.C_drew ?_))); (case side2 => exact HC0.out); rintro e w' ⟨rfl, ⟨nd, rfl⟩⟩; refine ⟨_, rfl, ?_⟩))
            go_meet
            case rel => exact ⟨_, (!x8_5), (by first | rfl | (simp; done) | (simp [*]; done)), H', ⟨by have := HJ5.out; first | omega | exact Nat.le_refl _⟩, ⟨by repeat (first | (with_reducible first | exact HB.out | apply below_alloc | apply pw_below_drewN | apply below_drew1) | exact HB.out)⟩⟩
        case rest =>
          clear HC10
          try clear c1
          try clear p2
          try clear c3
          try clear c5
          try clear c5b0
          try clear c5b1
          try clear c8
          try clear c13
          try clear c13b0
          try clear c13b1
          try clear c13b2
          try clear p2
          obtain ⟨kq, x44_9, rfl, HA, HJ9, HB⟩ := hcut
          cases kq with
          | zero => exact absurd HA.out (by simp [credenzalaw03_DotSums.j1])
          | succ kj9 =>
            have H := HA.out
            clear HA
            simp only [credenzalaw03_DotSums.j1] at H
            by_cases c14 : x44_9 = true
            · subst c14
              have H1 : (if x8_5 = true then (some false) else (if t225 = 11 then (if t224 = 0 then ((credenzalaw03_awake.f kj9).bind fun t232 => (some t232)) else (some false)) else (some false))) = some r := by rw [if_pos rfl] at H; exact H
              clear H
              have H := H1
              clear H1
              by_cases c15 : x8_5 = true
              · subst c15
                have H1 : (some false) = some r := by rw [if_pos rfl] at H; exact H
                clear H
                have H := H1
                clear H1
                exact absurd (H.trans (congrArg some HRT.out)) (by simp)
              · replace c15 := Bool.eq_false_iff.mpr c15
                subst c15
                have H1 : (if t225 = 11 then (if t224 = 0 then ((credenzalaw03_awake.f kj9).bind fun t232 => (some t232)) else (some false)) else (some false)) = some r := by rw [if_neg (show ¬ (false = true) by decide)] at H; exact H
                clear H
                have H := H1
                clear H1
                by_cases c16 : t225 = 11
                · rw [if_pos c16] at H
                  have c16b0 : (t225 == 11) = true := beq_iff_eq.mpr c16
                  have c16b1 : (t225 != 11) = false := bne_eq_false_iff_eq.mpr c16
                  clear c16
                  by_cases c17 : t224 = 0
                  · rw [if_pos c17] at H
                    have c17b0 : (t224 == 0) = true := beq_iff_eq.mpr c17
                    have c17b1 : (t224 != 0) = false := bne_eq_false_iff_eq.mpr c17
                    clear c17
                    replace H := Option.bind_eq_some_iff.mp H
                    obtain ⟨t232, A180, H⟩ := H
                    replace H : (some t232) = some r := H
                    have A18 := Aside0.mk A180
                    clear A180
                    obtain rfl := Option.some.inj H
                    go_wp2_with (first | (go_at_call 17; (with_reducible refine (credenzalaw03_awake.calls kj9  t232 _ A18.out).mono ?_); rintro e w19 ⟨rfl, hb⟩; have n0_ := Aside0.mk (below_step (by repeat (first | (with_reducible first | exact HB.out | apply below_alloc | apply pw_below_drewN | apply below_drew1) | exact HB.out)) hb); clear HB; have HB := n0_; clear n0_; (try clear hb); (try clear hb2); (try clear hk); (try clear hi)))
                    go_ret
                    exact ⟨by first | rfl | (simp [errW_none, errW_some] <;> rfl) | (simp [*, errW_none, errW_some] <;> rfl), by repeat (first | (with_reducible first | exact HB.out | apply below_alloc | apply pw_below_drewN | apply below_drew1) | exact HB.out)⟩
                  · rw [if_neg c17] at H
                    have c17b0 : (t224 == 0) = false := beq_eq_false_iff_ne.mpr c17
                    have c17b1 : (t224 != 0) = true := bne_iff_ne.mpr c17
                    exact absurd (H.trans (congrArg some HRT.out)) (by simp)
                · rw [if_neg c16] at H
                  have c16b0 : (t225 == 11) = false := beq_eq_false_iff_ne.mpr c16
                  have c16b1 : (t225 != 11) = true := bne_iff_ne.mpr c16
                  exact absurd (H.trans (congrArg some HRT.out)) (by simp)
            · replace c14 := Bool.eq_false_iff.mpr c14
              subst c14
              have H1 : (if t225 = 0 then ((credenzaref03_Dot.f kj9 l0 l1).bind fun t233 => (if t224 = t233 then (if t224 < 576460752303423488 then (if t224 > (-576460752303423488) then ((credenzalaw03_awake.f kj9).bind fun t234 => (some t234)) else (some false)) else (some false)) else (some false))) else (some false)) = some r := by rw [if_neg (show ¬ (false = true) by decide)] at H; exact H
              clear H
              have H := H1
              clear H1
              by_cases c20 : t225 = 0
              · rw [if_pos c20] at H
                have c20b0 : (t225 == 0) = true := beq_iff_eq.mpr c20
                have c20b1 : (t225 != 0) = false := bne_eq_false_iff_eq.mpr c20
                clear c20
                replace H := Option.bind_eq_some_iff.mp H
                obtain ⟨t233, A210, H⟩ := H
                replace H : (if t224 = t233 then (if t224 < 576460752303423488 then (if t224 > (-576460752303423488) then ((credenzalaw03_awake.f kj9).bind fun t234 => (some t234)) else (some false)) else (some false)) else (some false)) = some r := H
                have A21 := Aside0.mk A210
                clear A210
                by_cases c22 : t224 = t233
                · rw [if_pos c22] at H
                  have c22b0 : (t224 == t233) = true := beq_iff_eq.mpr c22
                  have c22b1 : (t224 != t233) = false := bne_eq_false_iff_eq.mpr c22
                  clear c22
                  by_cases c23 : t224 < 576460752303423488
                  · rw [if_pos c23] at H
                    have c23b0 : decide (t224 < 576460752303423488) = true := decide_eq_true c23
                    clear c23
                    by_cases c24 : t224 > (-576460752303423488)
                    · rw [if_pos c24] at H
                      have c24b0 : decide ((-576460752303423488) < t224) = true := decide_eq_true c24
                      clear c24
                      replace H := Option.bind_eq_some_iff.mp H
                      obtain ⟨t234, A250, H⟩ := H
                      replace H : (some t234) = some r := H
                      have A25 := Aside0.mk A250
                      clear A250
                      obtain rfl := Option.some.inj H
                      go_wp2_with (first | (go_at_call 20; (with_reducible refine (credenzaref03_Dot.calls kj9 _ _ l0 _ _ l1 t233 _ ?side1 ?side2 ?side3 ?side4 A21.out).mono ?_); (case side1 => repeat (first | exact (Kd.C_below HR0.out HB.out) | (with_reducible refine Kd.C_alloc ?_ _) | (with_reducible refine Kd.C_drewN ?_ _) | (with_reducible refine Kd.C_drew ?_))); (case side2 => exact HC0.out); (case side3 => repeat (first | exact (Kd.C_below HR1.out HB.out) | (with_reducible refine Kd.C_alloc ?_ _) | (with_reducible refine Kd.C_drewN ?_ _) | (with_reducible refine Kd.C_drew ?_))); (case side4 => exact HC1.out); rintro e w' ⟨rfl, ⟨nd, rfl⟩⟩) | (go_at_call 17; (with_reducible refine (credenzalaw03_awake.calls kj9  t234 _ A25.out).mono ?_); rintro e w26 ⟨rfl, hb⟩; have n0_ := Aside0.mk (below_step (by repeat (first | (with_reducible first | exact HB.out | apply below_alloc | apply pw_below_drewN | apply below_drew1) | exact HB.out)) hb); clear HB; have HB := n0_; clear n0_; (try clear hb); (try clear hb2); (try clear hk); (try clear hi)))
                      go_ret
                      exact ⟨by first | rfl | (simp [errW_none, errW_some] <;> rfl) | (simp [*, errW_none, errW_some] <;> rfl), by repeat (first | (with_reducible first | exact HB.out | apply below_alloc | apply pw_below_drewN | apply below_drew1) | exact HB.out)⟩
                    · rw [if_neg c24] at H
                      have c24b0 : decide ((-576460752303423488) < t224) = false := decide_eq_false c24
                      clear c24
                      exact absurd (H.trans (congrArg some HRT.out)) (by simp)
                  · rw [if_neg c23] at H
                    have c23b0 : decide (t224 < 576460752303423488) = false := decide_eq_false c23
                    clear c23
                    exact absurd (H.trans (congrArg some HRT.out)) (by simp)
                · rw [if_neg c22] at H
                  have c22b0 : (t224 == t233) = false := beq_eq_false_iff_ne.mpr c22
                  have c22b1 : (t224 != t233) = true := bne_iff_ne.mpr c22
                  exact absurd (H.trans (congrArg some HRT.out)) (by simp)
              · rw [if_neg c20] at H
                have c20b0 : (t225 == 0) = false := beq_eq_false_iff_ne.mpr c20
                have c20b1 : (t225 != 0) = true := bne_iff_ne.mpr c20
                exact absurd (H.trans (congrArg some HRT.out)) (by simp)
  · rw [if_neg c5] at H
    have c5b0 : (t226 == 0) = false := beq_eq_false_iff_ne.mpr c5
    have c5b1 : (t226 != 0) = true := bne_iff_ne.mpr c5
    by_cases c27 : t225 = t226
    · rw [if_pos c27] at H
      have c27b0 : (t225 == t226) = true := beq_iff_eq.mpr c27
      have c27b1 : (t225 != t226) = false := bne_eq_false_iff_eq.mpr c27
      clear c27
      by_cases c28 : t224 = 0
      · rw [if_pos c28] at H
        have c28b0 : (t224 == 0) = true := beq_iff_eq.mpr c28
        have c28b1 : (t224 != 0) = false := bne_eq_false_iff_eq.mpr c28
        clear c28
        replace H := Option.bind_eq_some_iff.mp H
        obtain ⟨t227, A290, H⟩ := H
        replace H : (some t227) = some r := H
        have A29 := Aside0.mk A290
        clear A290
        obtain rfl := Option.some.inj H
        go_enter Try.func3, Try.ntmps3
        go_wp2_with (first | ((with_reducible refine gate_callee (f := 15) rfl ?_); refine goesL_ (some 12) rfl rfl Try.func15 (by kernel_rfl) rfl #[.slice A0 l0.length c0, .slice A1 l1.length c1] rfl (by (try simp only [List.map_toArray, List.map_cons, List.map_nil]); first | done | rfl | (simp only [List.length_drop, List.length_take]; rfl)) ?_; (with_reducible refine (dot_Dot.calls k _ _ l0 _ _ l1 t224 t225 _ ?side1 ?side2 ?side3 ?side4 A3.out).mono ?_); (case side1 => repeat (first | exact HR0.out | (with_reducible refine Kd.C_alloc ?_ _) | (with_reducible refine Kd.C_drewN ?_ _) | (with_reducible refine Kd.C_drew ?_))); (case side2 => exact HC0.out); (case side3 => repeat (first | exact HR1.out | (with_reducible refine Kd.C_alloc ?_ _) | (with_reducible refine Kd.C_drewN ?_ _) | (with_reducible refine Kd.C_drew ?_))); (case side4 => exact HC1.out); rintro e w' ⟨rfl, ⟨nd, rfl⟩⟩; refine ⟨_, rfl, ?_⟩) | ((with_reducible refine gate_callee (f := 16) rfl ?_); refine goesL_ (some 17) rfl rfl Try.func16 (by kernel_rfl) rfl #[.slice A0 l0.length c0, .slice A1 l1.length c1] rfl (by (try simp only [List.map_toArray, List.map_cons, List.map_nil]); first | done | rfl | (simp only [List.length_drop, List.length_take]; rfl)) ?_; (with_reducible refine (credenzaref03_Shape.calls _ _ l0 _ _ l1 t226 _ ?side1 ?side2 ?side3 ?side4 A4.out).mono ?_); (case side1 => repeat (first | exact HR0.out | (with_reducible refine Kd.C_alloc ?_ _) | (with_reducible refine Kd.C_drewN ?_ _) | (with_reducible refine Kd.C_drew ?_))); (case side2 => exact HC0.out); (case side3 => repeat (first | exact HR1.out | (with_reducible refine Kd.C_alloc ?_ _) | (with_reducible refine Kd.C_drewN ?_ _) | (with_reducible refine Kd.C_drew ?_))); (case side4 => exact HC1.out); rintro e w' ⟨rfl, ⟨nd, rfl⟩⟩; refine ⟨_, rfl, ?_⟩) | (go_at_call 17; (with_reducible refine (credenzalaw03_awake.calls k  t227 _ A29.out).mono ?_); rintro e w30 ⟨rfl, hb⟩; have n0_ := Aside0.mk (below_step (by repeat (first | (with_reducible first | exact HB.out | apply below_alloc | apply pw_below_drewN | apply below_drew1) | exact HB.out)) hb); clear HB; have HB := n0_; clear n0_; (try clear hb); (try clear hb2); (try clear hk); (try clear hi)))
        go_ret
        exact ⟨by first | rfl | (simp [errW_none, errW_some] <;> rfl) | (simp [*, errW_none, errW_some] <;> rfl), by repeat (first | (with_reducible first | exact HB.out | apply below_alloc | apply pw_below_drewN | apply below_drew1) | exact HB.out)⟩
      · rw [if_neg c28] at H
        have c28b0 : (t224 == 0) = false := beq_eq_false_iff_ne.mpr c28
        have c28b1 : (t224 != 0) = true := bne_iff_ne.mpr c28
        exact absurd (H.trans (congrArg some HRT.out)) (by simp)
    · rw [if_neg c27] at H
      have c27b0 : (t225 == t226) = false := beq_eq_false_iff_ne.mpr c27
      have c27b1 : (t225 != t226) = true := bne_iff_ne.mpr c27
      exact absurd (H.trans (congrArg some HRT.out)) (by simp)

/-- THE ONE PURE STATEMENT of credenzalaw03_DotSums: yours. -/
def credenzalaw03_DotSums.Pure : Prop := ∀ (l0 : List Int) (l1 : List Int), l0.length ≤ maxLen → l0.length * 4 ≤ 140737488351232 → (∀ x ∈ l0, (Lit.int .i32 x).wf = true) → l1.length ≤ maxLen → l1.length * 4 ≤ 140737488351232 → (∀ x ∈ l1, (Lit.int .i32 x).wf = true) → ∃ k, credenzalaw03_DotSums.f k l0 l1 = some true
theorem credenzalaw03_DotSums.walk (P : credenzalaw03_DotSums.Pure) (a0 : Option Addr) (len0 cap0 : Nat) (z0 : List Int) (a1 : Option Addr) (len1 cap1 : Nat) (z1 : List Int) (w : World) (w0 : (a0 = none ∧ len0 = 0 ∧ cap0 = 0 ∧ z0 = []) ∨ ∃ x, a0 = some x ∧ len0 ≤ cap0 ∧ cap0 ≤ maxLen ∧ z0.length = cap0 ∧ (∀ i, i < z0.length → w.cell? (x.add i) = some (.int .i32 (z0.getD i 0))) ∧ ∀ n ∈ z0, (Lit.int .i32 n).wf = true) (y0 : len0 * 4 ≤ 140737488351232) (w1 : (a1 = none ∧ len1 = 0 ∧ cap1 = 0 ∧ z1 = []) ∨ ∃ x, a1 = some x ∧ len1 ≤ cap1 ∧ cap1 ≤ maxLen ∧ z1.length = cap1 ∧ (∀ i, i < z1.length → w.cell? (x.add i) = some (.int .i32 (z1.getD i 0))) ∧ ∀ n ∈ z1, (Lit.int .i32 n).wf = true) (y1 : len1 * 4 ≤ 140737488351232) :
    Calls Try.prog 3 #[.slice a0 len0 cap0, .slice a1 len1 cap1] w fun e w' => e = .returned (.bool true) ∧ Below w.heap.size w w' := by
  obtain ⟨l0, rfl, hr0, hm0, hw0, hc0⟩ := ReadsInt.ofRowC w0
  obtain ⟨l1, rfl, hr1, hm1, hw1, hc1⟩ := ReadsInt.ofRowC w1
  obtain ⟨k, h⟩ := P l0 l1 hm0 y0 hw0 hm1 y1 hw1
  refine (credenzalaw03_DotSums.calls k _ _ l0 _ _ l1 true w (Kd.C_of_reads (d := (0 : Int)) (h1 := fun _ => rfl) hr0) hc0 (Kd.C_of_reads (d := (0 : Int)) (h1 := fun _ => rfl) hr1) hc1 h rfl).mono ?_
  rintro e w' ⟨rfl, hd⟩
  exact ⟨rfl, hd⟩

/-! ### credenzaref03_Same: function 24 -/
def credenzaref03_Same.l0 : Nat → List Int → List Int → Int → Option (Bool)
  | 0, _, _, _ => none
  | k + 1, x0, x1, x5 => if x5 < (x0.length : Int) then (if 0 ≤ x5 then (if x5 < (x1.length : Int) then (if (rd x0 x5) = (rd x1 x5) then (credenzaref03_Same.l0 k x0 x1 (wrap64 (x5 + 1))) else (some false)) else (none)) else (none)) else (some true)
def credenzaref03_Same.f (k : Nat) (l0 : List Int) (l1 : List Int) : Option (Bool) := if (l0.length : Int) = (l1.length : Int) then (credenzaref03_Same.l0 k l0 l1 0) else (some false)
theorem credenzaref03_Same.mono_l : ∀ k, (∀ y0 y1 y2, LeO (credenzaref03_Same.l0 k y0 y1 y2) (credenzaref03_Same.l0 (k + 1) y0 y1 y2))
  | 0 => fun _ _ _ r h => by simp [credenzaref03_Same.l0] at h
  | k + 1 => by
    have ih0 := credenzaref03_Same.mono_l k
    · intro y0 y1 y2
      unfold credenzaref03_Same.l0
      repeat' first
      | (with_reducible exact ih0 _ _ _)
      | (with_reducible exact LeO.refl _)
      | (with_reducible exact LeO.none _)
      | (with_reducible refine LeO.ite ?_ ?_)
      | (with_reducible refine LeO.bind ?_ (fun _ => ?_))
      | exact ih0 _ _ _
      | exact LeO.none _
      | refine LeO.ite ?_ ?_
      | refine LeO.bind ?_ (fun _ => ?_)
theorem credenzaref03_Same.mono : ∀ a0 a1 k, LeO (credenzaref03_Same.f k a0 a1) (credenzaref03_Same.f (k + 1) a0 a1) := by
  intro a0 a1 k
  have ih0 := credenzaref03_Same.mono_l k
  unfold credenzaref03_Same.f
  repeat' first
      | (with_reducible exact ih0 _ _ _)
      | (with_reducible exact LeO.refl _)
      | (with_reducible exact LeO.none _)
      | (with_reducible refine LeO.ite ?_ ?_)
      | (with_reducible refine LeO.bind ?_ (fun _ => ?_))
      | exact ih0 _ _ _
      | exact LeO.none _
      | refine LeO.ite ?_ ?_
      | refine LeO.bind ?_ (fun _ => ?_)
set_option maxHeartbeats 8000000 in
set_option maxRecDepth 100000 in
theorem credenzaref03_Same.calls (k : Nat) (A0 : Option Addr) (c0 : Nat) (l0 : List Int) (A1 : Option Addr) (c1 : Nat) (l1 : List Int) (r : Bool) (w : World) (hr0 : Kd.C (Kd.int .i32) w A0 l0.length l0) (hc0 : l0.length ≤ c0) (hr1 : Kd.C (Kd.int .i32) w A1 l1.length l1) (hc1 : l1.length ≤ c1) (h : credenzaref03_Same.f k l0 l1 = some r) :
    Calls Try.prog 24 #[.slice A0 l0.length c0, .slice A1 l1.length c1] w fun e w' => e = .returned (.bool r) ∧ Drawn0 w w' := by
  have HR0 := Aside0.mk hr0
  have HC0 := Aside0.mk hc0
  clear hr0 hc0
  have HR1 := Aside0.mk hr1
  have HC1 := Aside0.mk hc1
  clear hr1 hc1
  have H : (if (l0.length : Int) = (l1.length : Int) then (credenzaref03_Same.l0 k l0 l1 0) else (some false)) = some r := h
  clear h
  by_cases c3 : (l0.length : Int) = (l1.length : Int)
  · rw [if_pos c3] at H
    have c3b0 : ((l0.length : Int) == (l1.length : Int)) = true := beq_iff_eq.mpr c3
    have c3b1 : ((l0.length : Int) != (l1.length : Int)) = false := bne_eq_false_iff_eq.mpr c3
    have c3b2 : (l0.length == l1.length) = true := by first | simpa using c3 | (simp at c3 ⊢; omega)
    clear c3
    have H' := Aside0.mk H
    clear H
    go_enter Try.func24, Try.ntmps24
    go_wp2
    repeat (go_quiet (fail); try go_wp2)
    go_loopg [5] k (fun kq v5 w' => ∃ (x5_1 : Int), v5 = .int .i64 x5_1 ∧ Aside0 (credenzaref03_Same.l0 kq l0 l1 x5_1 = some r) ∧ Aside0 (kq ≤ k) ∧ Drawn0 w w')
    case atStart => exact ⟨(0), (by first | rfl | (simp; done) | (simp [*]; done)), H', ⟨Nat.le_refl _⟩, by repeat (first | exact Drawn0.refl _ | apply Drawn0.step)⟩
    case round =>
      clear H'
      try clear c1
      try clear c2
      try clear p2
      try clear c3
      try clear c3b0
      try clear c3b1
      try clear c3b2
      obtain ⟨x5_1, rfl, HA, HK1, ⟨m1, rfl⟩⟩ := hrel
      cases gk with
      | zero => exact absurd HA.out (by simp [credenzaref03_Same.l0])
      | succ k1 =>
        have H := HA.out
        clear HA
        simp only [credenzaref03_Same.l0] at H
        by_cases c4 : x5_1 < (l0.length : Int)
        · rw [if_pos c4] at H
          have c4b0 : decide (x5_1 < (l0.length : Int)) = true := decide_eq_true c4
          clear c4
          by_cases c5 : 0 ≤ x5_1
          · rw [if_pos c5] at H
            have c5b0 : decide (0 ≤ x5_1) = true := decide_eq_true c5
            clear c5
            by_cases c6 : x5_1 < (l1.length : Int)
            · rw [if_pos c6] at H
              have c6b0 : decide (x5_1 < (l1.length : Int)) = true := decide_eq_true c6
              clear c6
              by_cases c7 : (rd l0 x5_1) = (rd l1 x5_1)
              · rw [if_pos c7] at H
                have c7b0 : ((rd l0 x5_1) == (rd l1 x5_1)) = true := beq_iff_eq.mpr c7
                have c7b1 : ((rd l0 x5_1) != (rd l1 x5_1)) = false := bne_eq_false_iff_eq.mpr c7
                clear c7
                have H' := Aside0.mk H
                clear H
                have p235 : 0 ≤ (x5_1 : Int) := of_decide_eq_true (by first | (with_reducible assumption) | assumption)
                have q235 : x5_1 < (l0.length : Int) := of_decide_eq_true (by first | (with_reducible assumption) | assumption)
                obtain ⟨ad235, e235, hx235_0⟩ := Kd.at_int HR0.out x5_1 p235 q235
                cases e235
                replace p235 := eq_true p235
                replace q235 := eq_true q235
                have p236 : 0 ≤ (x5_1 : Int) := of_decide_eq_true (by first | (with_reducible assumption) | assumption)
                have q236 : x5_1 < (l1.length : Int) := of_decide_eq_true (by first | (with_reducible assumption) | assumption)
                obtain ⟨ad236, e236, hx236_0⟩ := Kd.at_int HR1.out x5_1 p236 q236
                cases e236
                replace p236 := eq_true p236
                replace q236 := eq_true q236
                go_wp2
                repeat (go_quiet (fail); try go_wp2)
                go_roundg k1
                case measure => have := HK1.out; omega
                case rel => exact ⟨(wrap64 (x5_1 + 1)), (by first | rfl | (simp; done) | (simp [*]; done)), H', ⟨by have := HK1.out; omega⟩, by repeat (first | exact Drawn0.refl _ | apply Drawn0.step)⟩
              · rw [if_neg c7] at H
                have c7b0 : ((rd l0 x5_1) == (rd l1 x5_1)) = false := beq_eq_false_iff_ne.mpr c7
                have c7b1 : ((rd l0 x5_1) != (rd l1 x5_1)) = true := bne_iff_ne.mpr c7
                obtain rfl := Option.some.inj H
                have p235 : 0 ≤ (x5_1 : Int) := of_decide_eq_true (by first | (with_reducible assumption) | assumption)
                have q235 : x5_1 < (l0.length : Int) := of_decide_eq_true (by first | (with_reducible assumption) | assumption)
                obtain ⟨ad235, e235, hx235_0⟩ := Kd.at_int HR0.out x5_1 p235 q235
                cases e235
                replace p235 := eq_true p235
                replace q235 := eq_true q235
                have p236 : 0 ≤ (x5_1 : Int) := of_decide_eq_true (by first | (with_reducible assumption) | assumption)
                have q236 : x5_1 < (l1.length : Int) := of_decide_eq_true (by first | (with_reducible assumption) | assumption)
                obtain ⟨ad236, e236, hx236_0⟩ := Kd.at_int HR1.out x5_1 p236 q236
                cases e236
                replace p236 := eq_true p236
                replace q236 := eq_true q236
                go_wp2
                repeat (go_quiet (fail); try go_wp2)
                go_ret
                exact ⟨by first | rfl | (simp; done) | (simp [*]; done), by repeat (first | exact Drawn0.refl _ | apply Drawn0.step)⟩
            · rw [if_neg c6] at H
              exact absurd H (by simp)
          · rw [if_neg c5] at H
            exact absurd H (by simp)
        · rw [if_neg c4] at H
          have c4b0 : decide (x5_1 < (l0.length : Int)) = false := decide_eq_false c4
          clear c4
          obtain rfl := Option.some.inj H
          go_wp2
          repeat (go_quiet (fail); try go_wp2)
          go_ret
          exact ⟨by first | rfl | (simp; done) | (simp [*]; done), by repeat (first | exact Drawn0.refl _ | apply Drawn0.step)⟩
  · rw [if_neg c3] at H
    have c3b0 : ((l0.length : Int) == (l1.length : Int)) = false := beq_eq_false_iff_ne.mpr c3
    have c3b1 : ((l0.length : Int) != (l1.length : Int)) = true := bne_iff_ne.mpr c3
    have c3b2 : (l0.length == l1.length) = false := by first | simpa using c3 | (simp at c3 ⊢; omega)
    obtain rfl := Option.some.inj H
    go_enter Try.func24, Try.ntmps24
    go_wp2
    repeat (go_quiet (fail); try go_wp2)
    go_ret
    exact ⟨by first | rfl | (simp; done) | (simp [*]; done), by repeat (first | exact Drawn0.refl _ | apply Drawn0.step)⟩

/-! ### credenzaref01_Cut: function 77 -/
def credenzaref01_Cut.f (a0 : Int) (a1 : Int) (a2 : Int) : Option (Int) := if a0 < a1 then (some a1) else (if a0 > a2 then (some a2) else (some a0))
set_option maxHeartbeats 8000000 in
set_option maxRecDepth 100000 in
theorem credenzaref01_Cut.calls (a0 : Int) (a1 : Int) (a2 : Int) (r : Int) (w : World) (h : credenzaref01_Cut.f a0 a1 a2 = some r) :
    Calls Try.prog 77 #[.int .i64 a0, .int .i64 a1, .int .i64 a2] w fun e w' => e = .returned (.int .i64 r) ∧ Drawn0 w w' := by
  have H : (if a0 < a1 then (some a1) else (if a0 > a2 then (some a2) else (some a0))) = some r := h
  clear h
  by_cases c4 : a0 < a1
  · rw [if_pos c4] at H
    have c4b0 : decide (a0 < a1) = true := decide_eq_true c4
    clear c4
    obtain rfl := Option.some.inj H
    go_enter Try.func77, Try.ntmps77
    go_wp2
    go_ret
    exact ⟨by first | rfl | (simp; done) | (simp [*]; done), by repeat (first | exact Drawn0.refl _ | apply Drawn0.step)⟩
  · rw [if_neg c4] at H
    have c4b0 : decide (a0 < a1) = false := decide_eq_false c4
    clear c4
    by_cases c5 : a0 > a2
    · rw [if_pos c5] at H
      have c5b0 : decide (a2 < a0) = true := decide_eq_true c5
      clear c5
      obtain rfl := Option.some.inj H
      go_enter Try.func77, Try.ntmps77
      go_wp2
      go_ret
      exact ⟨by first | rfl | (simp; done) | (simp [*]; done), by repeat (first | exact Drawn0.refl _ | apply Drawn0.step)⟩
    · rw [if_neg c5] at H
      have c5b0 : decide (a2 < a0) = false := decide_eq_false c5
      clear c5
      obtain rfl := Option.some.inj H
      go_enter Try.func77, Try.ntmps77
      go_wp2
      go_ret
      exact ⟨by first | rfl | (simp; done) | (simp [*]; done), by repeat (first | exact Drawn0.refl _ | apply Drawn0.step)⟩

/-! ### credenzaref01_Narrow: function 58 -/
def credenzaref01_Narrow.f (a0 : Int) : Option (Int) := (credenzaref01_Cut.f a0 (-8388608) 8388608).bind fun t237 => (some (wrap32 (t237)))
set_option maxHeartbeats 8000000 in
set_option maxRecDepth 100000 in
theorem credenzaref01_Narrow.calls (a0 : Int) (r : Int) (w : World) (h : credenzaref01_Narrow.f a0 = some r) :
    Calls Try.prog 58 #[.int .i64 a0] w fun e w' => e = .returned (.int .i32 r) ∧ Drawn0 w w' := by
  have H : ((credenzaref01_Cut.f a0 (-8388608) 8388608).bind fun t237 => (some (wrap32 (t237)))) = some r := h
  clear h
  replace H := Option.bind_eq_some_iff.mp H
  obtain ⟨t237, A20, H⟩ := H
  replace H : (some (wrap32 (t237))) = some r := H
  have A2 := Aside0.mk A20
  clear A20
  obtain rfl := Option.some.inj H
  go_enter Try.func58, Try.ntmps58
  go_wp2_with (first | ((with_reducible refine gate_callee (f := 77) rfl ?_); refine goesL_ (some 4) rfl rfl Try.func77 (by kernel_rfl) rfl #[.int .i64 a0, .int .i64 (-8388608), .int .i64 8388608] rfl (by (try simp only [List.map_toArray, List.map_cons, List.map_nil]); first | done | rfl | (simp only [List.length_drop, List.length_take]; rfl)) ?_; (with_reducible refine (credenzaref01_Cut.calls a0 (-8388608) 8388608 t237 _ A2.out).mono ?_); rintro e w' ⟨rfl, ⟨nd, rfl⟩⟩; refine ⟨_, rfl, ?_⟩))
  go_ret
  exact ⟨by first | rfl | (simp; done) | (simp [*]; done), by repeat (first | exact Drawn0.refl _ | apply Drawn0.step)⟩

/-! ### credenzaref01_Floor: function 79 -/
def credenzaref01_Floor.f (a0 : Int) (a1 : Int) : Option (Int) := if a1 = 0 then (none) else (if (wrap64 ((wrap64 (Int.tdiv a0 a1)) * a1)) > a0 then (some (wrap64 ((wrap64 (Int.tdiv a0 a1)) - 1))) else (some (wrap64 (Int.tdiv a0 a1))))
set_option maxHeartbeats 8000000 in
set_option maxRecDepth 100000 in
theorem credenzaref01_Floor.calls (a0 : Int) (a1 : Int) (r : Int) (w : World) (h : credenzaref01_Floor.f a0 a1 = some r) :
    Calls Try.prog 79 #[.int .i64 a0, .int .i64 a1] w fun e w' => e = .returned (.int .i64 r) ∧ Drawn0 w w' := by
  have H : (if a1 = 0 then (none) else (if (wrap64 ((wrap64 (Int.tdiv a0 a1)) * a1)) > a0 then (some (wrap64 ((wrap64 (Int.tdiv a0 a1)) - 1))) else (some (wrap64 (Int.tdiv a0 a1))))) = some r := h
  clear h
  by_cases c3 : a1 = 0
  · rw [if_pos c3] at H
    exact absurd H (by simp)
  · rw [if_neg c3] at H
    have c3b0 : (a1 == 0) = false := beq_eq_false_iff_ne.mpr c3
    have c3b1 : (a1 != 0) = true := bne_iff_ne.mpr c3
    by_cases c4 : (wrap64 ((wrap64 (Int.tdiv a0 a1)) * a1)) > a0
    · rw [if_pos c4] at H
      have c4b0 : decide (a0 < (wrap64 ((wrap64 (Int.tdiv a0 a1)) * a1))) = true := decide_eq_true c4
      clear c4
      obtain rfl := Option.some.inj H
      go_enter Try.func79, Try.ntmps79
      go_wp2
      go_ret
      exact ⟨by first | rfl | (simp; done) | (simp [*]; done), by repeat (first | exact Drawn0.refl _ | apply Drawn0.step)⟩
    · rw [if_neg c4] at H
      have c4b0 : decide (a0 < (wrap64 ((wrap64 (Int.tdiv a0 a1)) * a1))) = false := decide_eq_false c4
      clear c4
      obtain rfl := Option.some.inj H
      go_enter Try.func79, Try.ntmps79
      go_wp2
      go_ret
      exact ⟨by first | rfl | (simp; done) | (simp [*]; done), by repeat (first | exact Drawn0.refl _ | apply Drawn0.step)⟩

/-! ### credenzaref01_Ratio: function 66 -/
def credenzaref01_Ratio.f (a0 : Int) (a1 : Int) : Option (Int) := (credenzaref01_Floor.f a0 a1).bind fun t238 => (if (wrap64 (a0 - (wrap64 (t238 * a1)))) > (wrap64 (a1 - (wrap64 (a0 - (wrap64 (t238 * a1)))))) then (some (wrap64 (t238 + 1))) else (if (wrap64 (a0 - (wrap64 (t238 * a1)))) = (wrap64 (a1 - (wrap64 (a0 - (wrap64 (t238 * a1)))))) then (if (Int.tmod t238 2) = 0 then (some t238) else (some (wrap64 (t238 + 1)))) else (some t238)))
set_option maxHeartbeats 8000000 in
set_option maxRecDepth 100000 in
theorem credenzaref01_Ratio.calls (a0 : Int) (a1 : Int) (r : Int) (w : World) (h : credenzaref01_Ratio.f a0 a1 = some r) :
    Calls Try.prog 66 #[.int .i64 a0, .int .i64 a1] w fun e w' => e = .returned (.int .i64 r) ∧ Drawn0 w w' := by
  have H : ((credenzaref01_Floor.f a0 a1).bind fun t238 => (if (wrap64 (a0 - (wrap64 (t238 * a1)))) > (wrap64 (a1 - (wrap64 (a0 - (wrap64 (t238 * a1)))))) then (some (wrap64 (t238 + 1))) else (if (wrap64 (a0 - (wrap64 (t238 * a1)))) = (wrap64 (a1 - (wrap64 (a0 - (wrap64 (t238 * a1)))))) then (if (Int.tmod t238 2) = 0 then (some t238) else (some (wrap64 (t238 + 1)))) else (some t238)))) = some r := h
  clear h
  replace H := Option.bind_eq_some_iff.mp H
  obtain ⟨t238, A30, H⟩ := H
  replace H : (if (wrap64 (a0 - (wrap64 (t238 * a1)))) > (wrap64 (a1 - (wrap64 (a0 - (wrap64 (t238 * a1)))))) then (some (wrap64 (t238 + 1))) else (if (wrap64 (a0 - (wrap64 (t238 * a1)))) = (wrap64 (a1 - (wrap64 (a0 - (wrap64 (t238 * a1)))))) then (if (Int.tmod t238 2) = 0 then (some t238) else (some (wrap64 (t238 + 1)))) else (some t238))) = some r := H
  have A3 := Aside0.mk A30
  clear A30
  by_cases c4 : (wrap64 (a0 - (wrap64 (t238 * a1)))) > (wrap64 (a1 - (wrap64 (a0 - (wrap64 (t238 * a1))))))
  · rw [if_pos c4] at H
    have c4b0 : decide ((wrap64 (a1 - (wrap64 (a0 - (wrap64 (t238 * a1)))))) < (wrap64 (a0 - (wrap64 (t238 * a1))))) = true := decide_eq_true c4
    clear c4
    obtain rfl := Option.some.inj H
    go_enter Try.func66, Try.ntmps66
    go_wp2_with (first | ((with_reducible refine gate_callee (f := 79) rfl ?_); refine goesL_ (some 10) rfl rfl Try.func79 (by kernel_rfl) rfl #[.int .i64 a0, .int .i64 a1] rfl (by (try simp only [List.map_toArray, List.map_cons, List.map_nil]); first | done | rfl | (simp only [List.length_drop, List.length_take]; rfl)) ?_; (with_reducible refine (credenzaref01_Floor.calls a0 a1 t238 _ A3.out).mono ?_); rintro e w' ⟨rfl, ⟨nd, rfl⟩⟩; refine ⟨_, rfl, ?_⟩))
    go_ret
    exact ⟨by first | rfl | (simp; done) | (simp [*]; done), by repeat (first | exact Drawn0.refl _ | apply Drawn0.step)⟩
  · rw [if_neg c4] at H
    have c4b0 : decide ((wrap64 (a1 - (wrap64 (a0 - (wrap64 (t238 * a1)))))) < (wrap64 (a0 - (wrap64 (t238 * a1))))) = false := decide_eq_false c4
    clear c4
    by_cases c5 : (wrap64 (a0 - (wrap64 (t238 * a1)))) = (wrap64 (a1 - (wrap64 (a0 - (wrap64 (t238 * a1))))))
    · rw [if_pos c5] at H
      have c5b0 : ((wrap64 (a0 - (wrap64 (t238 * a1)))) == (wrap64 (a1 - (wrap64 (a0 - (wrap64 (t238 * a1))))))) = true := beq_iff_eq.mpr c5
      have c5b1 : ((wrap64 (a0 - (wrap64 (t238 * a1)))) != (wrap64 (a1 - (wrap64 (a0 - (wrap64 (t238 * a1))))))) = false := bne_eq_false_iff_eq.mpr c5
      clear c5
      by_cases c6 : (Int.tmod t238 2) = 0
      · rw [if_pos c6] at H
        have c6b0 : ((Int.tmod t238 2) == 0) = true := beq_iff_eq.mpr c6
        have c6b1 : ((Int.tmod t238 2) != 0) = false := bne_eq_false_iff_eq.mpr c6
        clear c6
        obtain rfl := Option.some.inj H
        go_enter Try.func66, Try.ntmps66
        go_wp2_with (first | ((with_reducible refine gate_callee (f := 79) rfl ?_); refine goesL_ (some 10) rfl rfl Try.func79 (by kernel_rfl) rfl #[.int .i64 a0, .int .i64 a1] rfl (by (try simp only [List.map_toArray, List.map_cons, List.map_nil]); first | done | rfl | (simp only [List.length_drop, List.length_take]; rfl)) ?_; (with_reducible refine (credenzaref01_Floor.calls a0 a1 t238 _ A3.out).mono ?_); rintro e w' ⟨rfl, ⟨nd, rfl⟩⟩; refine ⟨_, rfl, ?_⟩))
        go_ret
        exact ⟨by first | rfl | (simp; done) | (simp [*]; done), by repeat (first | exact Drawn0.refl _ | apply Drawn0.step)⟩
      · rw [if_neg c6] at H
        have c6b0 : ((Int.tmod t238 2) == 0) = false := beq_eq_false_iff_ne.mpr c6
        have c6b1 : ((Int.tmod t238 2) != 0) = true := bne_iff_ne.mpr c6
        obtain rfl := Option.some.inj H
        go_enter Try.func66, Try.ntmps66
        go_wp2_with (first | ((with_reducible refine gate_callee (f := 79) rfl ?_); refine goesL_ (some 10) rfl rfl Try.func79 (by kernel_rfl) rfl #[.int .i64 a0, .int .i64 a1] rfl (by (try simp only [List.map_toArray, List.map_cons, List.map_nil]); first | done | rfl | (simp only [List.length_drop, List.length_take]; rfl)) ?_; (with_reducible refine (credenzaref01_Floor.calls a0 a1 t238 _ A3.out).mono ?_); rintro e w' ⟨rfl, ⟨nd, rfl⟩⟩; refine ⟨_, rfl, ?_⟩))
        go_ret
        exact ⟨by first | rfl | (simp; done) | (simp [*]; done), by repeat (first | exact Drawn0.refl _ | apply Drawn0.step)⟩
    · rw [if_neg c5] at H
      have c5b0 : ((wrap64 (a0 - (wrap64 (t238 * a1)))) == (wrap64 (a1 - (wrap64 (a0 - (wrap64 (t238 * a1))))))) = false := beq_eq_false_iff_ne.mpr c5
      have c5b1 : ((wrap64 (a0 - (wrap64 (t238 * a1)))) != (wrap64 (a1 - (wrap64 (a0 - (wrap64 (t238 * a1))))))) = true := bne_iff_ne.mpr c5
      obtain rfl := Option.some.inj H
      go_enter Try.func66, Try.ntmps66
      go_wp2_with (first | ((with_reducible refine gate_callee (f := 79) rfl ?_); refine goesL_ (some 10) rfl rfl Try.func79 (by kernel_rfl) rfl #[.int .i64 a0, .int .i64 a1] rfl (by (try simp only [List.map_toArray, List.map_cons, List.map_nil]); first | done | rfl | (simp only [List.length_drop, List.length_take]; rfl)) ?_; (with_reducible refine (credenzaref01_Floor.calls a0 a1 t238 _ A3.out).mono ?_); rintro e w' ⟨rfl, ⟨nd, rfl⟩⟩; refine ⟨_, rfl, ?_⟩))
      go_ret
      exact ⟨by first | rfl | (simp; done) | (simp [*]; done), by repeat (first | exact Drawn0.refl _ | apply Drawn0.step)⟩

/-! ### credenzaref01_Power: function 87 -/
def credenzaref01_Power.l0 : Nat → Int → Int → Int → Option (Int)
  | 0, _, _, _ => none
  | k + 1, x0, x3, x4 => if x4 < x0 then (credenzaref01_Power.l0 k x0 (wrap64 (x3 * 2)) (wrap64 (x4 + 1))) else (some x3)
def credenzaref01_Power.f (k : Nat) (a0 : Int) : Option (Int) := credenzaref01_Power.l0 k a0 1 0
theorem credenzaref01_Power.mono_l : ∀ k, (∀ y0 y1 y2, LeO (credenzaref01_Power.l0 k y0 y1 y2) (credenzaref01_Power.l0 (k + 1) y0 y1 y2))
  | 0 => fun _ _ _ r h => by simp [credenzaref01_Power.l0] at h
  | k + 1 => by
    have ih0 := credenzaref01_Power.mono_l k
    · intro y0 y1 y2
      unfold credenzaref01_Power.l0
      repeat' first
      | (with_reducible exact ih0 _ _ _)
      | (with_reducible exact LeO.refl _)
      | (with_reducible exact LeO.none _)
      | (with_reducible refine LeO.ite ?_ ?_)
      | (with_reducible refine LeO.bind ?_ (fun _ => ?_))
      | exact ih0 _ _ _
      | exact LeO.none _
      | refine LeO.ite ?_ ?_
      | refine LeO.bind ?_ (fun _ => ?_)
theorem credenzaref01_Power.mono : ∀ a0 k, LeO (credenzaref01_Power.f k a0) (credenzaref01_Power.f (k + 1) a0) := by
  intro a0 k
  have ih0 := credenzaref01_Power.mono_l k
  unfold credenzaref01_Power.f
  repeat' first
      | (with_reducible exact ih0 _ _ _)
      | (with_reducible exact LeO.refl _)
      | (with_reducible exact LeO.none _)
      | (with_reducible refine LeO.ite ?_ ?_)
      | (with_reducible refine LeO.bind ?_ (fun _ => ?_))
      | exact ih0 _ _ _
      | exact LeO.none _
      | refine LeO.ite ?_ ?_
      | refine LeO.bind ?_ (fun _ => ?_)
set_option maxHeartbeats 8000000 in
set_option maxRecDepth 100000 in
theorem credenzaref01_Power.calls (k : Nat) (a0 : Int) (r : Int) (w : World) (h : credenzaref01_Power.f k a0 = some r) :
    Calls Try.prog 87 #[.int .i64 a0] w fun e w' => e = .returned (.int .i64 r) ∧ Drawn0 w w' := by
  have H : (credenzaref01_Power.l0 k a0 1 0) = some r := h
  clear h
  have H' := Aside0.mk H
  clear H
  go_enter Try.func87, Try.ntmps87
  go_wp2
  go_loopg [3, 4] k (fun kq v3 v4 w' => ∃ (x3_1 : Int) (x4_1 : Int), v3 = .int .i64 x3_1 ∧ v4 = .int .i64 x4_1 ∧ Aside0 (credenzaref01_Power.l0 kq a0 x3_1 x4_1 = some r) ∧ Aside0 (kq ≤ k) ∧ Drawn0 w w')
  case atStart => exact ⟨(1), (0), (by first | rfl | (simp; done) | (simp [*]; done)), (by first | rfl | (simp; done) | (simp [*]; done)), H', ⟨Nat.le_refl _⟩, by repeat (first | exact Drawn0.refl _ | apply Drawn0.step)⟩
  case round =>
    clear H'
    obtain ⟨x3_1, x4_1, rfl, rfl, HA, HK1, ⟨m1, rfl⟩⟩ := hrel
    cases gk with
    | zero => exact absurd HA.out (by simp [credenzaref01_Power.l0])
    | succ k1 =>
      have H := HA.out
      clear HA
      simp only [credenzaref01_Power.l0] at H
      by_cases c2 : x4_1 < a0
      · rw [if_pos c2] at H
        have c2b0 : decide (x4_1 < a0) = true := decide_eq_true c2
        clear c2
        have H' := Aside0.mk H
        clear H
        go_wp2
        go_roundg k1
        case measure => have := HK1.out; omega
        case rel => exact ⟨(wrap64 (x3_1 * 2)), (wrap64 (x4_1 + 1)), (by first | rfl | (simp; done) | (simp [*]; done)), (by first | rfl | (simp; done) | (simp [*]; done)), H', ⟨by have := HK1.out; omega⟩, by repeat (first | exact Drawn0.refl _ | apply Drawn0.step)⟩
      · rw [if_neg c2] at H
        have c2b0 : decide (x4_1 < a0) = false := decide_eq_false c2
        clear c2
        obtain rfl := Option.some.inj H
        go_wp2
        go_ret
        exact ⟨by first | rfl | (simp; done) | (simp [*]; done), by repeat (first | exact Drawn0.refl _ | apply Drawn0.step)⟩

/-! ### credenzaref01_Half: function 76 -/
def credenzaref01_Half.f (k : Nat) (a0 : Int) (a1 : Int) : Option (Int) := (credenzaref01_Cut.f a1 0 62).bind fun t239 => ((credenzaref01_Power.f k t239).bind fun t240 => ((credenzaref01_Ratio.f a0 t240).bind fun t241 => (some t241)))
theorem credenzaref01_Half.mono : ∀ a0 a1 k, LeO (credenzaref01_Half.f k a0 a1) (credenzaref01_Half.f (k + 1) a0 a1) := by
  intro a0 a1 k
  unfold credenzaref01_Half.f
  repeat' first
      | (with_reducible exact credenzaref01_Power.mono _ _)
      | (with_reducible exact LeO.refl _)
      | (with_reducible exact LeO.none _)
      | (with_reducible refine LeO.ite ?_ ?_)
      | (with_reducible refine LeO.bind ?_ (fun _ => ?_))
      | exact credenzaref01_Power.mono _ _
      | exact LeO.none _
      | refine LeO.ite ?_ ?_
      | refine LeO.bind ?_ (fun _ => ?_)
set_option maxHeartbeats 8000000 in
set_option maxRecDepth 100000 in
theorem credenzaref01_Half.calls (k : Nat) (a0 : Int) (a1 : Int) (r : Int) (w : World) (h : credenzaref01_Half.f k a0 a1 = some r) :
    Calls Try.prog 76 #[.int .i64 a0, .int .i64 a1] w fun e w' => e = .returned (.int .i64 r) ∧ Drawn0 w w' := by
  have H : ((credenzaref01_Cut.f a1 0 62).bind fun t239 => ((credenzaref01_Power.f k t239).bind fun t240 => ((credenzaref01_Ratio.f a0 t240).bind fun t241 => (some t241)))) = some r := h
  clear h
  replace H := Option.bind_eq_some_iff.mp H
  obtain ⟨t239, A30, H⟩ := H
  replace H : ((credenzaref01_Power.f k t239).bind fun t240 => ((credenzaref01_Ratio.f a0 t240).bind fun t241 => (some t241))) = some r := H
  have A3 := Aside0.mk A30
  clear A30
  replace H := Option.bind_eq_some_iff.mp H
  obtain ⟨t240, A40, H⟩ := H
  replace H : ((credenzaref01_Ratio.f a0 t240).bind fun t241 => (some t241)) = some r := H
  have A4 := Aside0.mk A40
  clear A40
  replace H := Option.bind_eq_some_iff.mp H
  obtain ⟨t241, A50, H⟩ := H
  replace H : (some t241) = some r := H
  have A5 := Aside0.mk A50
  clear A50
  obtain rfl := Option.some.inj H
  go_enter Try.func76, Try.ntmps76
  go_wp2_with (first | ((with_reducible refine gate_callee (f := 77) rfl ?_); refine goesL_ (some 7) rfl rfl Try.func77 (by kernel_rfl) rfl #[.int .i64 a1, .int .i64 0, .int .i64 62] rfl (by (try simp only [List.map_toArray, List.map_cons, List.map_nil]); first | done | rfl | (simp only [List.length_drop, List.length_take]; rfl)) ?_; (with_reducible refine (credenzaref01_Cut.calls a1 0 62 t239 _ A3.out).mono ?_); rintro e w' ⟨rfl, ⟨nd, rfl⟩⟩; refine ⟨_, rfl, ?_⟩) | ((with_reducible refine gate_callee (f := 87) rfl ?_); refine goesL_ (some 8) rfl rfl Try.func87 (by kernel_rfl) rfl #[.int .i64 t239] rfl (by (try simp only [List.map_toArray, List.map_cons, List.map_nil]); first | done | rfl | (simp only [List.length_drop, List.length_take]; rfl)) ?_; (with_reducible refine (credenzaref01_Power.calls k t239 t240 _ A4.out).mono ?_); rintro e w' ⟨rfl, ⟨nd, rfl⟩⟩; refine ⟨_, rfl, ?_⟩) | ((with_reducible refine gate_callee (f := 66) rfl ?_); refine goesL_ (some 9) rfl rfl Try.func66 (by kernel_rfl) rfl #[.int .i64 a0, .int .i64 t240] rfl (by (try simp only [List.map_toArray, List.map_cons, List.map_nil]); first | done | rfl | (simp only [List.length_drop, List.length_take]; rfl)) ?_; (with_reducible refine (credenzaref01_Ratio.calls a0 t240 t241 _ A5.out).mono ?_); rintro e w' ⟨rfl, ⟨nd, rfl⟩⟩; refine ⟨_, rfl, ?_⟩))
  go_ret
  exact ⟨by first | rfl | (simp; done) | (simp [*]; done), by repeat (first | exact Drawn0.refl _ | apply Drawn0.step)⟩

/-! ### credenzaref03_Product: function 57 -/
def credenzaref03_Product.f (k : Nat) (a0 : Int) (a1 : Int) : Option (Int) := (credenzaref01_Half.f k (wrap64 ((wrap64 (a0)) * (wrap64 (a1)))) 16).bind fun t242 => ((credenzaref01_Narrow.f t242).bind fun t243 => (some t243))
theorem credenzaref03_Product.mono : ∀ a0 a1 k, LeO (credenzaref03_Product.f k a0 a1) (credenzaref03_Product.f (k + 1) a0 a1) := by
  intro a0 a1 k
  unfold credenzaref03_Product.f
  repeat' first
      | (with_reducible exact credenzaref01_Half.mono _ _ _)
      | (with_reducible exact LeO.refl _)
      | (with_reducible exact LeO.none _)
      | (with_reducible refine LeO.ite ?_ ?_)
      | (with_reducible refine LeO.bind ?_ (fun _ => ?_))
      | exact credenzaref01_Half.mono _ _ _
      | exact LeO.none _
      | refine LeO.ite ?_ ?_
      | refine LeO.bind ?_ (fun _ => ?_)
set_option maxHeartbeats 8000000 in
set_option maxRecDepth 100000 in
theorem credenzaref03_Product.calls (k : Nat) (a0 : Int) (a1 : Int) (r : Int) (w : World) (h : credenzaref03_Product.f k a0 a1 = some r) :
    Calls Try.prog 57 #[.int .i32 a0, .int .i32 a1] w fun e w' => e = .returned (.int .i32 r) ∧ Drawn0 w w' := by
  have H : ((credenzaref01_Half.f k (wrap64 ((wrap64 (a0)) * (wrap64 (a1)))) 16).bind fun t242 => ((credenzaref01_Narrow.f t242).bind fun t243 => (some t243))) = some r := h
  clear h
  replace H := Option.bind_eq_some_iff.mp H
  obtain ⟨t242, A30, H⟩ := H
  replace H : ((credenzaref01_Narrow.f t242).bind fun t243 => (some t243)) = some r := H
  have A3 := Aside0.mk A30
  clear A30
  replace H := Option.bind_eq_some_iff.mp H
  obtain ⟨t243, A40, H⟩ := H
  replace H : (some t243) = some r := H
  have A4 := Aside0.mk A40
  clear A40
  obtain rfl := Option.some.inj H
  go_enter Try.func57, Try.ntmps57
  go_wp2_with (first | ((with_reducible refine gate_callee (f := 76) rfl ?_); refine goesL_ (some 10) rfl rfl Try.func76 (by kernel_rfl) rfl #[.int .i64 (wrap64 ((wrap64 (a0)) * (wrap64 (a1)))), .int .i64 16] rfl (by (try simp only [List.map_toArray, List.map_cons, List.map_nil]); first | done | rfl | (simp only [List.length_drop, List.length_take]; rfl)) ?_; (with_reducible refine (credenzaref01_Half.calls k (wrap64 ((wrap64 (a0)) * (wrap64 (a1)))) 16 t242 _ A3.out).mono ?_); rintro e w' ⟨rfl, ⟨nd, rfl⟩⟩; refine ⟨_, rfl, ?_⟩) | ((with_reducible refine gate_callee (f := 58) rfl ?_); refine goesL_ (some 11) rfl rfl Try.func58 (by kernel_rfl) rfl #[.int .i64 t242] rfl (by (try simp only [List.map_toArray, List.map_cons, List.map_nil]); first | done | rfl | (simp only [List.length_drop, List.length_take]; rfl)) ?_; (with_reducible refine (credenzaref01_Narrow.calls t242 t243 _ A4.out).mono ?_); rintro e w' ⟨rfl, ⟨nd, rfl⟩⟩; refine ⟨_, rfl, ?_⟩))
  go_ret
  exact ⟨by first | rfl | (simp; done) | (simp [*]; done), by repeat (first | exact Drawn0.refl _ | apply Drawn0.step)⟩

end Go.Proofs.Ytmndomlpdajjmab.Q
