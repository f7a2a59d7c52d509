-- Ytmndomlpdajjmab: the machine side of the statements, written by a program of the session.
import Derived.Test.YtmndomlpdajjmabDsx3
namespace Go.Proofs.Ytmndomlpdajjmab.Ds
open Go.RowKit Go.Proofs.YtmndomlpdajjmabW.PrintWords Go.Proofs.YtmndomlpdajjmabW.PrintLast Go.Proofs.YtmndomlpdajjmabW.PrintMore
attribute [local go_sem] max2_int min2_int max_two min_two max_three min_three max_four min_four   -- for this text's walks alone
set_option linter.unusedVariables false
set_option linter.unusedSimpArgs false

/-! ### credenzalaw03_DotSplits: function 5 -/
def credenzalaw03_DotSplits.j0 : Nat → List Int → List Int → Int → Bool → Option (Bool)
  | 0, _, _, _, _ => none
  | k + 1, x0, x1, x2, x44 => if x44 = true then ((credenzalaw03_awake.f k).bind fun t224 => (some t224)) else ((dot_Dot.f k x0 x1).bind fun bt225 => ((dot_Dot.f k x1 x0).bind fun bt227 => (if 0 ≤ x2 then (if x2 ≤ (x0.length : Int) then (if x2 ≤ (x1.length : Int) then ((dot_Dot.f k (x0.take (x2 : Int).toNat) (x1.take (x2 : Int).toNat)).bind fun bt231 => ((dot_Dot.f k (x0.drop (x2 : Int).toNat) (x1.drop (x2 : Int).toNat)).bind fun bt235 => (if bt225.2 = 0 then (if bt227.2 = 0 then (if bt231.2 = 0 then (if bt235.2 = 0 then (if bt225.1 = bt227.1 then (if bt225.1 = (wrap64 (bt231.1 + bt235.1)) then ((credenzalaw03_awake.f k).bind fun t237 => (some t237)) else (some false)) else (some false)) else (some false)) else (some false)) else (some false)) else (some false)))) else (none)) else (none)) else (none))))
def credenzalaw03_DotSplits.f (k : Nat) (l0 : List Int) (l1 : List Int) (a2 : Int) : Option (Bool) := if (l0.length : Int) = (l1.length : Int) then (if (l0.length : Int) > 1024 then (credenzalaw03_DotSplits.j0 k l0 l1 a2 true) else ((credenzaref03_Mild.f k l0).bind fun t222 => (if t222 = true then ((credenzaref03_Mild.f k l1).bind fun t223 => (if t223 = true then (if a2 < 0 then (credenzalaw03_DotSplits.j0 k l0 l1 a2 true) else (credenzalaw03_DotSplits.j0 k l0 l1 a2 (decide (a2 > (l0.length : Int))))) else (credenzalaw03_DotSplits.j0 k l0 l1 a2 true))) else (credenzalaw03_DotSplits.j0 k l0 l1 a2 true)))) else (credenzalaw03_DotSplits.j0 k l0 l1 a2 true)
theorem credenzalaw03_DotSplits.mono_l : ∀ k, (∀ y0 y1 y2 y3, LeO (credenzalaw03_DotSplits.j0 k y0 y1 y2 y3) (credenzalaw03_DotSplits.j0 (k + 1) y0 y1 y2 y3))
  | 0 => fun _ _ _ _ r h => by simp [credenzalaw03_DotSplits.j0] at h
  | k + 1 => by
    have ih0 := credenzalaw03_DotSplits.mono_l k
    · intro y0 y1 y2 y3
      unfold credenzalaw03_DotSplits.j0
      repeat' first
      | (with_reducible exact ih0 _ _ _ _)
      | (with_reducible exact credenzalaw03_awake.mono _)
      | (with_reducible exact credenzaref03_Mild.mono _ _)
      | (with_reducible exact dot_Dot.mono _ _ _)
      | (with_reducible exact LeO.refl _)
      | (with_reducible exact LeO.none _)
      | (with_reducible refine LeO.ite ?_ ?_)
      | (with_reducible refine LeO.bind ?_ (fun _ => ?_))
      | exact ih0 _ _ _ _
      | exact credenzalaw03_awake.mono _
      | exact credenzaref03_Mild.mono _ _
      | exact dot_Dot.mono _ _ _
      | exact LeO.none _
      | refine LeO.ite ?_ ?_
      | refine LeO.bind ?_ (fun _ => ?_)
theorem credenzalaw03_DotSplits.mono : ∀ a0 a1 a2 k, LeO (credenzalaw03_DotSplits.f k a0 a1 a2) (credenzalaw03_DotSplits.f (k + 1) a0 a1 a2) := by
  intro a0 a1 a2 k
  have ih0 := credenzalaw03_DotSplits.mono_l k
  unfold credenzalaw03_DotSplits.f
  repeat' first
      | (with_reducible exact ih0 _ _ _ _)
      | (with_reducible exact credenzalaw03_awake.mono _)
      | (with_reducible exact credenzaref03_Mild.mono _ _)
      | (with_reducible exact dot_Dot.mono _ _ _)
      | (with_reducible exact LeO.refl _)
      | (with_reducible exact LeO.none _)
      | (with_reducible refine LeO.ite ?_ ?_)
      | (with_reducible refine LeO.bind ?_ (fun _ => ?_))
      | exact ih0 _ _ _ _
      | exact credenzalaw03_awake.mono _
      | exact credenzaref03_Mild.mono _ _
      | exact dot_Dot.mono _ _ _
      | exact LeO.none _
      | refine LeO.ite ?_ ?_
      | refine LeO.bind ?_ (fun _ => ?_)
set_option maxHeartbeats 8000000 in
set_option maxRecDepth 100000 in
theorem credenzalaw03_DotSplits.calls (k : Nat) (A0 : Option Addr) (c0 : Nat) (l0 : List Int) (A1 : Option Addr) (c1 : Nat) (l1 : List Int) (a2 : Int) (r : Bool) (w : World) (hr0 : Kd.C (Kd.int .i32) w A0 l0.length l0) (hc0 : l0.length ≤ c0) (hr1 : Kd.C (Kd.int .i32) w A1 l1.length l1) (hc1 : l1.length ≤ c1) (h : credenzalaw03_DotSplits.f k l0 l1 a2 = some r) (hrt_ : r = true) :
    Calls Try.prog 5 #[.slice A0 l0.length c0, .slice A1 l1.length c1, .int .i64 a2] w fun e w' => e = .returned (.bool r) ∧ Below w.heap.size w w' := by
  have HR0 := Aside0.mk hr0
  have HC0 := Aside0.mk hc0
  clear hr0 hc0
  have HR1 := Aside0.mk hr1
  have HC1 := Aside0.mk hc1
  clear hr1 hc1
  have HRT := Aside0.mk hrt_
  clear hrt_
  have HB := Aside0.mk (Below.refl w.heap.size w)
  have H : (if (l0.length : Int) = (l1.length : Int) then (if (l0.length : Int) > 1024 then (credenzalaw03_DotSplits.j0 k l0 l1 a2 true) else ((credenzaref03_Mild.f k l0).bind fun t222 => (if t222 = true then ((credenzaref03_Mild.f k l1).bind fun t223 => (if t223 = true then (if a2 < 0 then (credenzalaw03_DotSplits.j0 k l0 l1 a2 true) else (credenzalaw03_DotSplits.j0 k l0 l1 a2 (decide (a2 > (l0.length : Int))))) else (credenzalaw03_DotSplits.j0 k l0 l1 a2 true))) else (credenzalaw03_DotSplits.j0 k l0 l1 a2 true)))) else (credenzalaw03_DotSplits.j0 k l0 l1 a2 true)) = some r := h
  clear h
  have HC4 := Aside0.mk H
  clear H
  go_enter Try.func5, Try.ntmps5
  go_upto_region 1 with (fail)
  repeat (go_quiet (fail); go_upto_region 1 with (fail))
  go_cut [44] (fun v44 wc => ∃ (kq : Nat) (x44_3 : Bool), v44 = .bool x44_3 ∧ Aside0 (credenzalaw03_DotSplits.j0 kq l0 l1 a2 x44_3 = some r) ∧ Aside0 (kq ≤ k) ∧ Aside0 (Below w.heap.size w wc))
  case first =>
    have H := HC4.out
    clear HC4
    by_cases c5 : (l0.length : Int) = (l1.length : Int)
    · rw [if_pos c5] at H
      have c5b0 : ((l0.length : Int) == (l1.length : Int)) = true := beq_iff_eq.mpr c5
      have c5b1 : ((l0.length : Int) != (l1.length : Int)) = false := bne_eq_false_iff_eq.mpr c5
      have c5b2 : (l0.length == l1.length) = true := by first | simpa using c5 | (simp at c5 ⊢; omega)
      clear c5
      (first | rw [c5b0] | (simp only [i64_w, i32_w]; rw [c5b0]) | skip)
      by_cases c6 : (l0.length : Int) > 1024
      · rw [if_pos c6] at H
        have c6b0 : decide (1024 < (l0.length : Int)) = true := decide_eq_true c6
        have c6b1 : decide (1024 < l0.length) = true := decide_eq_true (by omega)
        clear c6
        have H' := Aside0.mk H
        clear H
        go_wp2
        repeat (go_quiet (fail); try go_wp2)
        go_meet
        case rel => exact ⟨_, (true), (by first | rfl | (simp; done) | (simp [*]; done)), H', ⟨by first | omega | exact Nat.le_refl _⟩, ⟨by repeat (first | (with_reducible first | exact HB.out | apply below_alloc | apply pw_below_drewN | apply below_drew1) | exact HB.out)⟩⟩
      · rw [if_neg c6] at H
        have c6b0 : decide (1024 < (l0.length : Int)) = false := decide_eq_false c6
        have c6b1 : decide (1024 < l0.length) = false := decide_eq_false (by omega)
        clear c6
        replace H := Option.bind_eq_some_iff.mp H
        obtain ⟨t222, A70, H⟩ := H
        replace H : (if t222 = true then ((credenzaref03_Mild.f k l1).bind fun t223 => (if t223 = true then (if a2 < 0 then (credenzalaw03_DotSplits.j0 k l0 l1 a2 true) else (credenzalaw03_DotSplits.j0 k l0 l1 a2 (decide (a2 > (l0.length : Int))))) else (credenzalaw03_DotSplits.j0 k l0 l1 a2 true))) else (credenzalaw03_DotSplits.j0 k l0 l1 a2 true)) = some r := H
        have A7 := Aside0.mk A70
        clear A70
        by_cases c8 : t222 = true
        · subst c8
          have H1 : ((credenzaref03_Mild.f k l1).bind fun t223 => (if t223 = true then (if a2 < 0 then (credenzalaw03_DotSplits.j0 k l0 l1 a2 true) else (credenzalaw03_DotSplits.j0 k l0 l1 a2 (decide (a2 > (l0.length : Int))))) else (credenzalaw03_DotSplits.j0 k l0 l1 a2 true))) = some r := by rw [if_pos rfl] at H; exact H
          clear H
          have H := H1
          clear H1
          replace H := Option.bind_eq_some_iff.mp H
          obtain ⟨t223, A90, H⟩ := H
          replace H : (if t223 = true then (if a2 < 0 then (credenzalaw03_DotSplits.j0 k l0 l1 a2 true) else (credenzalaw03_DotSplits.j0 k l0 l1 a2 (decide (a2 > (l0.length : Int))))) else (credenzalaw03_DotSplits.j0 k l0 l1 a2 true)) = some r := H
          have A9 := Aside0.mk A90
          clear A90
          by_cases c10 : t223 = true
          · subst c10
            have H1 : (if a2 < 0 then (credenzalaw03_DotSplits.j0 k l0 l1 a2 true) else (credenzalaw03_DotSplits.j0 k l0 l1 a2 (decide (a2 > (l0.length : Int))))) = some r := by rw [if_pos rfl] at H; exact H
            clear H
            have H := H1
            clear H1
            by_cases c11 : a2 < 0
            · rw [if_pos c11] at H
              have c11b0 : decide (a2 < 0) = true := decide_eq_true c11
              clear c11
              have H' := Aside0.mk H
              clear H
              go_wp2_with (first | (go_at_call 18; (with_reducible refine (credenzaref03_Mild.calls k _ _ l0 true _ ?side1 ?side2 A7.out).mono ?_); (case side1 => repeat (first | exact (Kd.C_below HR0.out HB.out) | (with_reducible refine Kd.C_alloc ?_ _) | (with_reducible refine Kd.C_drewN ?_ _) | (with_reducible refine Kd.C_drew ?_))); (case side2 => exact HC0.out); rintro e w' ⟨rfl, ⟨nd, rfl⟩⟩; (try first | exact ⟨rfl, _, World.drewN_drewN _ _ _⟩ | exact ⟨rfl, _, Eq.trans (World.drewN_drewN _ _ _) (congrArg (World.drewN _) (Nat.add_assoc _ _ _))⟩)) | (go_at_call 18; (with_reducible refine (credenzaref03_Mild.calls k _ _ l1 true _ ?side1 ?side2 A9.out).mono ?_); (case side1 => repeat (first | exact (Kd.C_below HR1.out (by repeat (first | (with_reducible first | exact HB.out | apply below_alloc | apply pw_below_drewN | apply below_drew1) | exact HB.out))) | (with_reducible refine Kd.C_alloc ?_ _) | (with_reducible refine Kd.C_drewN ?_ _) | (with_reducible refine Kd.C_drew ?_))); (case side2 => exact HC1.out); rintro e w' ⟨rfl, ⟨nd, rfl⟩⟩; (try first | exact ⟨rfl, _, World.drewN_drewN _ _ _⟩ | exact ⟨rfl, _, Eq.trans (World.drewN_drewN _ _ _) (congrArg (World.drewN _) (Nat.add_assoc _ _ _))⟩)))
              repeat (go_quiet (first | (go_at_call 18; (with_reducible refine (credenzaref03_Mild.calls k _ _ l0 true _ ?side1 ?side2 A7.out).mono ?_); (case side1 => repeat (first | exact (Kd.C_below HR0.out HB.out) | (with_reducible refine Kd.C_alloc ?_ _) | (with_reducible refine Kd.C_drewN ?_ _) | (with_reducible refine Kd.C_drew ?_))); (case side2 => exact HC0.out); rintro e w' ⟨rfl, ⟨nd, rfl⟩⟩; (try first | exact ⟨rfl, _, World.drewN_drewN _ _ _⟩ | exact ⟨rfl, _, Eq.trans (World.drewN_drewN _ _ _) (congrArg (World.drewN _) (Nat.add_assoc _ _ _))⟩)) | (go_at_call 18; (with_reducible refine (credenzaref03_Mild.calls k _ _ l1 true _ ?side1 ?side2 A9.out).mono ?_); (case side1 => repeat (first | exact (Kd.C_below HR1.out (by repeat (first | (with_reducible first | exact HB.out | apply below_alloc | apply pw_below_drewN | apply below_drew1) | exact HB.out))) | (with_reducible refine Kd.C_alloc ?_ _) | (with_reducible refine Kd.C_drewN ?_ _) | (with_reducible refine Kd.C_drew ?_))); (case side2 => exact HC1.out); rintro e w' ⟨rfl, ⟨nd, rfl⟩⟩; (try first | exact ⟨rfl, _, World.drewN_drewN _ _ _⟩ | exact ⟨rfl, _, Eq.trans (World.drewN_drewN _ _ _) (congrArg (World.drewN _) (Nat.add_assoc _ _ _))⟩))); try go_wp2_with (first | (go_at_call 18; (with_reducible refine (credenzaref03_Mild.calls k _ _ l0 true _ ?side1 ?side2 A7.out).mono ?_); (case side1 => repeat (first | exact (Kd.C_below HR0.out HB.out) | (with_reducible refine Kd.C_alloc ?_ _) | (with_reducible refine Kd.C_drewN ?_ _) | (with_reducible refine Kd.C_drew ?_))); (case side2 => exact HC0.out); rintro e w' ⟨rfl, ⟨nd, rfl⟩⟩; (try first | exact ⟨rfl, _, World.drewN_drewN _ _ _⟩ | exact ⟨rfl, _, Eq.trans (World.drewN_drewN _ _ _) (congrArg (World.drewN _) (Nat.add_assoc _ _ _))⟩)) | (go_at_call 18; (with_reducible refine (credenzaref03_Mild.calls k _ _ l1 true _ ?side1 ?side2 A9.out).mono ?_); (case side1 => repeat (first | exact (Kd.C_below HR1.out (by repeat (first | (with_reducible first | exact HB.out | apply below_alloc | apply pw_below_drewN | apply below_drew1) | exact HB.out))) | (with_reducible refine Kd.C_alloc ?_ _) | (with_reducible refine Kd.C_drewN ?_ _) | (with_reducible refine Kd.C_drew ?_))); (case side2 => exact HC1.out); rintro e w' ⟨rfl, ⟨nd, rfl⟩⟩; (try first | exact ⟨rfl, _, World.drewN_drewN _ _ _⟩ | exact ⟨rfl, _, Eq.trans (World.drewN_drewN _ _ _) (congrArg (World.drewN _) (Nat.add_assoc _ _ _))⟩))))
              go_meet
              case rel => exact ⟨_, (true), (by first | rfl | (simp; done) | (simp [*]; done)), H', ⟨by first | omega | exact Nat.le_refl _⟩, ⟨by repeat (first | (with_reducible first | exact HB.out | apply below_alloc | apply pw_below_drewN | apply below_drew1) | exact HB.out)⟩⟩
            · rw [if_neg c11] at H
              have c11b0 : decide (a2 < 0) = false := decide_eq_false c11
              clear c11
              have H' := Aside0.mk H
              clear H
              go_wp2_with (first | (go_at_call 18; (with_reducible refine (credenzaref03_Mild.calls k _ _ l0 true _ ?side1 ?side2 A7.out).mono ?_); (case side1 => repeat (first | exact (Kd.C_below HR0.out HB.out) | (with_reducible refine Kd.C_alloc ?_ _) | (with_reducible refine Kd.C_drewN ?_ _) | (with_reducible refine Kd.C_drew ?_))); (case side2 => exact HC0.out); rintro e w' ⟨rfl, ⟨nd, rfl⟩⟩; (try first | exact ⟨rfl, _, World.drewN_drewN _ _ _⟩ | exact ⟨rfl, _, Eq.trans (World.drewN_drewN _ _ _) (congrArg (World.drewN _) (Nat.add_assoc _ _ _))⟩)) | (go_at_call 18; (with_reducible refine (credenzaref03_Mild.calls k _ _ l1 true _ ?side1 ?side2 A9.out).mono ?_); (case side1 => repeat (first | exact (Kd.C_below HR1.out (by repeat (first | (with_reducible first | exact HB.out | apply below_alloc | apply pw_below_drewN | apply below_drew1) | exact HB.out))) | (with_reducible refine Kd.C_alloc ?_ _) | (with_reducible refine Kd.C_drewN ?_ _) | (with_reducible refine Kd.C_drew ?_))); (case side2 => exact HC1.out); rintro e w' ⟨rfl, ⟨nd, rfl⟩⟩; (try first | exact ⟨rfl, _, World.drewN_drewN _ _ _⟩ | exact ⟨rfl, _, Eq.trans (World.drewN_drewN _ _ _) (congrArg (World.drewN _) (Nat.add_assoc _ _ _))⟩)))
              repeat (go_quiet (first | (go_at_call 18; (with_reducible refine (credenzaref03_Mild.calls k _ _ l0 true _ ?side1 ?side2 A7.out).mono ?_); (case side1 => repeat (first | exact (Kd.C_below HR0.out HB.out) | (with_reducible refine Kd.C_alloc ?_ _) | (with_reducible refine Kd.C_drewN ?_ _) | (with_reducible refine Kd.C_drew ?_))); (case side2 => exact HC0.out); rintro e w' ⟨rfl, ⟨nd, rfl⟩⟩; (try first | exact ⟨rfl, _, World.drewN_drewN _ _ _⟩ | exact ⟨rfl, _, Eq.trans (World.drewN_drewN _ _ _) (congrArg (World.drewN _) (Nat.add_assoc _ _ _))⟩)) | (go_at_call 18; (with_reducible refine (credenzaref03_Mild.calls k _ _ l1 true _ ?side1 ?side2 A9.out).mono ?_); (case side1 => repeat (first | exact (Kd.C_below HR1.out (by repeat (first | (with_reducible first | exact HB.out | apply below_alloc | apply pw_below_drewN | apply below_drew1) | exact HB.out))) | (with_reducible refine Kd.C_alloc ?_ _) | (with_reducible refine Kd.C_drewN ?_ _) | (with_reducible refine Kd.C_drew ?_))); (case side2 => exact HC1.out); rintro e w' ⟨rfl, ⟨nd, rfl⟩⟩; (try first | exact ⟨rfl, _, World.drewN_drewN _ _ _⟩ | exact ⟨rfl, _, Eq.trans (World.drewN_drewN _ _ _) (congrArg (World.drewN _) (Nat.add_assoc _ _ _))⟩))); try go_wp2_with (first | (go_at_call 18; (with_reducible refine (credenzaref03_Mild.calls k _ _ l0 true _ ?side1 ?side2 A7.out).mono ?_); (case side1 => repeat (first | exact (Kd.C_below HR0.out HB.out) | (with_reducible refine Kd.C_alloc ?_ _) | (with_reducible refine Kd.C_drewN ?_ _) | (with_reducible refine Kd.C_drew ?_))); (case side2 => exact HC0.out); rintro e w' ⟨rfl, ⟨nd, rfl⟩⟩; (try first | exact ⟨rfl, _, World.drewN_drewN _ _ _⟩ | exact ⟨rfl, _, Eq.trans (World.drewN_drewN _ _ _) (congrArg (World.drewN _) (Nat.add_assoc _ _ _))⟩)) | (go_at_call 18; (with_reducible refine (credenzaref03_Mild.calls k _ _ l1 true _ ?side1 ?side2 A9.out).mono ?_); (case side1 => repeat (first | exact (Kd.C_below HR1.out (by repeat (first | (with_reducible first | exact HB.out | apply below_alloc | apply pw_below_drewN | apply below_drew1) | exact HB.out))) | (with_reducible refine Kd.C_alloc ?_ _) | (with_reducible refine Kd.C_drewN ?_ _) | (with_reducible refine Kd.C_drew ?_))); (case side2 => exact HC1.out); rintro e w' ⟨rfl, ⟨nd, rfl⟩⟩; (try first | exact ⟨rfl, _, World.drewN_drewN _ _ _⟩ | exact ⟨rfl, _, Eq.trans (World.drewN_drewN _ _ _) (congrArg (World.drewN _) (Nat.add_assoc _ _ _))⟩))))
              go_meet
              case rel => exact ⟨_, (decide (a2 > (l0.length : Int))), (by first | rfl | (simp; done) | (simp [*]; done)), H', ⟨by first | omega | exact Nat.le_refl _⟩, ⟨by repeat (first | (with_reducible first | exact HB.out | apply below_alloc | apply pw_below_drewN | apply below_drew1) | exact HB.out)⟩⟩
          · replace c10 := Bool.eq_false_iff.mpr c10
            subst c10
            have H1 : (credenzalaw03_DotSplits.j0 k l0 l1 a2 true) = some r := by rw [if_neg (show ¬ (false = true) by decide)] at H; exact H
            clear H
            have H := H1
            clear H1
            have H' := Aside0.mk H
            clear H
            go_wp2_with (first | (go_at_call 18; (with_reducible refine (credenzaref03_Mild.calls k _ _ l0 true _ ?side1 ?side2 A7.out).mono ?_); (case side1 => repeat (first | exact (Kd.C_below HR0.out HB.out) | (with_reducible refine Kd.C_alloc ?_ _) | (with_reducible refine Kd.C_drewN ?_ _) | (with_reducible refine Kd.C_drew ?_))); (case side2 => exact HC0.out); rintro e w' ⟨rfl, ⟨nd, rfl⟩⟩; (try first | exact ⟨rfl, _, World.drewN_drewN _ _ _⟩ | exact ⟨rfl, _, Eq.trans (World.drewN_drewN _ _ _) (congrArg (World.drewN _) (Nat.add_assoc _ _ _))⟩)) | (go_at_call 18; (with_reducible refine (credenzaref03_Mild.calls k _ _ l1 false _ ?side1 ?side2 A9.out).mono ?_); (case side1 => repeat (first | exact (Kd.C_below HR1.out (by repeat (first | (with_reducible first | exact HB.out | apply below_alloc | apply pw_below_drewN | apply below_drew1) | exact HB.out))) | (with_reducible refine Kd.C_alloc ?_ _) | (with_reducible refine Kd.C_drewN ?_ _) | (with_reducible refine Kd.C_drew ?_))); (case side2 => exact HC1.out); rintro e w' ⟨rfl, ⟨nd, rfl⟩⟩; (try first | exact ⟨rfl, _, World.drewN_drewN _ _ _⟩ | exact ⟨rfl, _, Eq.trans (World.drewN_drewN _ _ _) (congrArg (World.drewN _) (Nat.add_assoc _ _ _))⟩)))
            repeat (go_quiet (first | (go_at_call 18; (with_reducible refine (credenzaref03_Mild.calls k _ _ l0 true _ ?side1 ?side2 A7.out).mono ?_); (case side1 => repeat (first | exact (Kd.C_below HR0.out HB.out) | (with_reducible refine Kd.C_alloc ?_ _) | (with_reducible refine Kd.C_drewN ?_ _) | (with_reducible refine Kd.C_drew ?_))); (case side2 => exact HC0.out); rintro e w' ⟨rfl, ⟨nd, rfl⟩⟩; (try first | exact ⟨rfl, _, World.drewN_drewN _ _ _⟩ | exact ⟨rfl, _, Eq.trans (World.drewN_drewN _ _ _) (congrArg (World.drewN _) (Nat.add_assoc _ _ _))⟩)) | (go_at_call 18; (with_reducible refine (credenzaref03_Mild.calls k _ _ l1 false _ ?side1 ?side2 A9.out).mono ?_); (case side1 => repeat (first | exact (Kd.C_below HR1.out (by repeat (first | (with_reducible first | exact HB.out | apply below_alloc | apply pw_below_drewN | apply below_drew1) | exact HB.out))) | (with_reducible refine Kd.C_alloc ?_ _) | (with_reducible refine Kd.C_drewN ?_ _) | (with_reducible refine Kd.C_drew ?_))); (case side2 => exact HC1.out); rintro e w' ⟨rfl, ⟨nd, rfl⟩⟩; (try first | exact ⟨rfl, _, World.drewN_drewN _ _ _⟩ | exact ⟨rfl, _, Eq.trans (World.drewN_drewN _ _ _) (congrArg (World.drewN _) (Nat.add_assoc _ _ _))⟩))); try go_wp2_with (first | (go_at_call 18; (with_reducible refine (credenzaref03_Mild.calls k _ _ l0 true _ ?side1 ?side2 A7.out).mono ?_); (case side1 => repeat (first | exact (Kd.C_below HR0.out HB.out) | (with_reducible refine Kd.C_alloc ?_ _) | (with_reducible refine Kd.C_drewN ?_ _) | (with_reducible refine Kd.C_drew ?_))); (case side2 => exact HC0.out); rintro e w' ⟨rfl, ⟨nd, rfl⟩⟩; (try first | exact ⟨rfl, _, World.drewN_drewN _ _ _⟩ | exact ⟨rfl, _, Eq.trans (World.drewN_drewN _ _ _) (congrArg (World.drewN _) (Nat.add_assoc _ _ _))⟩)) | (go_at_call 18; (with_reducible refine (credenzaref03_Mild.calls k _ _ l1 false _ ?side1 ?side2 A9.out).mono ?_); (case side1 => repeat (first | exact (Kd.C_below HR1.out (by repeat (first | (with_reducible first | exact HB.out | apply below_alloc | apply pw_below_drewN | apply below_drew1) | exact HB.out))) | (with_reducible refine Kd.C_alloc ?_ _) | (with_reducible refine Kd.C_drewN ?_ _) | (with_reducible refine Kd.C_drew ?_))); (case side2 => exact HC1.out); rintro e w' ⟨rfl, ⟨nd, rfl⟩⟩; (try first | exact ⟨rfl, _, World.drewN_drewN _ _ _⟩ | exact ⟨rfl, _, Eq.trans (World.drewN_drewN _ _ _) (congrArg (World.drewN _) (Nat.add_assoc _ _ _))⟩))))
            go_meet
            case rel => exact ⟨_, (true), (by first | rfl | (simp; done) | (simp [*]; done)), H', ⟨by first | omega | exact Nat.le_refl _⟩, ⟨by repeat (first | (with_reducible first | exact HB.out | apply below_alloc | apply pw_below_drewN | apply below_drew1) | exact HB.out)⟩⟩
        · replace c8 := Bool.eq_false_iff.mpr c8
          subst c8
          have H1 : (credenzalaw03_DotSplits.j0 k l0 l1 a2 true) = some r := by rw [if_neg (show ¬ (false = true) by decide)] at H; exact H
          clear H
          have H := H1
          clear H1
          have H' := Aside0.mk H
          clear H
          go_wp2_with (first | (go_at_call 18; (with_reducible refine (credenzaref03_Mild.calls k _ _ l0 false _ ?side1 ?side2 A7.out).mono ?_); (case side1 => repeat (first | exact (Kd.C_below HR0.out HB.out) | (with_reducible refine Kd.C_alloc ?_ _) | (with_reducible refine Kd.C_drewN ?_ _) | (with_reducible refine Kd.C_drew ?_))); (case side2 => exact HC0.out); rintro e w' ⟨rfl, ⟨nd, rfl⟩⟩; (try first | exact ⟨rfl, _, World.drewN_drewN _ _ _⟩ | exact ⟨rfl, _, Eq.trans (World.drewN_drewN _ _ _) (congrArg (World.drewN _) (Nat.add_assoc _ _ _))⟩)))
          repeat (go_quiet (first | (go_at_call 18; (with_reducible refine (credenzaref03_Mild.calls k _ _ l0 false _ ?side1 ?side2 A7.out).mono ?_); (case side1 => repeat (first | exact (Kd.C_below HR0.out HB.out) | (with_reducible refine Kd.C_alloc ?_ _) | (with_reducible refine Kd.C_drewN ?_ _) | (with_reducible refine Kd.C_drew ?_))); (case side2 => exact HC0.out); rintro e w' ⟨rfl, ⟨nd, rfl⟩⟩; (try first | exact ⟨rfl, _, World.drewN_drewN _ _ _⟩ | exact ⟨rfl, _, Eq.trans (World.drewN_drewN _ _ _) (congrArg (World.drewN _) (Nat.add_assoc _ _ _))⟩))); try go_wp2_with (first | (go_at_call 18; (with_reducible refine (credenzaref03_Mild.calls k _ _ l0 false _ ?side1 ?side2 A7.out).mono ?_); (case side1 => repeat (first | exact (Kd.C_below HR0.out HB.out) | (with_reducible refine Kd.C_alloc ?_ _) | (with_reducible refine Kd.C_drewN ?_ _) | (with_reducible refine Kd.C_drew ?_))); (case side2 => exact HC0.out); rintro e w' ⟨rfl, ⟨nd, rfl⟩⟩; (try first | exact ⟨rfl, _, World.drewN_drewN _ _ _⟩ | exact ⟨rfl, _, Eq.trans (World.drewN_drewN _ _ _) (congrArg (World.drewN _) (Nat.add_assoc _ _ _))⟩))))
          go_meet
          case rel => exact ⟨_, (true), (by first | rfl | (simp; done) | (simp [*]; done)), H', ⟨by first | omega | exact Nat.le_refl _⟩, ⟨by repeat (first | (with_reducible first | exact HB.out | apply below_alloc | apply pw_below_drewN | apply below_drew1) | exact HB.out)⟩⟩
    · rw [if_neg c5] at H
      have c5b0 : ((l0.length : Int) == (l1.length : Int)) = false := beq_eq_false_iff_ne.mpr c5
      have c5b1 : ((l0.length : Int) != (l1.length : Int)) = true := bne_iff_ne.mpr c5
      have c5b2 : (l0.length == l1.length) = false := by first | simpa using c5 | (simp at c5 ⊢; omega)
      (first | rw [c5b0] | (simp only [i64_w, i32_w]; rw [c5b0]) | skip)
      have H' := Aside0.mk H
      clear H
      go_wp2
      repeat (go_quiet (fail); try go_wp2)
      go_meet
      case rel => exact ⟨_, (true), (by first | rfl | (simp; done) | (simp [*]; done)), H', ⟨by first | omega | exact Nat.le_refl _⟩, ⟨by repeat (first | (with_reducible first | exact HB.out | apply below_alloc | apply pw_below_drewN | apply below_drew1) | exact HB.out)⟩⟩
  case rest =>
    clear HC4
    try clear c1
    try clear p2
    try clear c5
    try clear c5b0
    try clear c5b1
    try clear c5b2
    try clear c6
    try clear c6b0
    try clear c6b1
    try clear c8
    try clear c10
    try clear c11
    try clear c11b0
    obtain ⟨kq, x44_3, rfl, HA, HJ3, HB⟩ := hcut
    cases kq with
    | zero => exact absurd HA.out (by simp [credenzalaw03_DotSplits.j0])
    | succ kj3 =>
      have H := HA.out
      clear HA
      simp only [credenzalaw03_DotSplits.j0] at H
      by_cases c12 : x44_3 = true
      · subst c12
        have H1 : ((credenzalaw03_awake.f kj3).bind fun t224 => (some t224)) = some r := by rw [if_pos rfl] at H; exact H
        clear H
        have H := H1
        clear H1
        replace H := Option.bind_eq_some_iff.mp H
        obtain ⟨t224, A130, H⟩ := H
        replace H : (some t224) = some r := H
        have A13 := Aside0.mk A130
        clear A130
        obtain rfl := Option.some.inj H
        go_wp2_with (first | (go_at_call 17; (with_reducible refine (credenzalaw03_awake.calls kj3  t224 _ A13.out).mono ?_); rintro e w14 ⟨rfl, hb⟩; have n0_ := Aside0.mk (below_step (by repeat (first | (with_reducible first | exact HB.out | apply below_alloc | apply pw_below_drewN | apply below_drew1) | exact HB.out)) hb); clear HB; have HB := n0_; clear n0_; (try clear hb); (try clear hb2); (try clear hk); (try clear hi)))
        repeat (go_quiet (first | (go_at_call 17; (with_reducible refine (credenzalaw03_awake.calls kj3  t224 _ A13.out).mono ?_); rintro e w14 ⟨rfl, hb⟩; have n0_ := Aside0.mk (below_step (by repeat (first | (with_reducible first | exact HB.out | apply below_alloc | apply pw_below_drewN | apply below_drew1) | exact HB.out)) hb); clear HB; have HB := n0_; clear n0_; (try clear hb); (try clear hb2); (try clear hk); (try clear hi))); try go_wp2_with (first | (go_at_call 17; (with_reducible refine (credenzalaw03_awake.calls kj3  t224 _ A13.out).mono ?_); rintro e w14 ⟨rfl, hb⟩; have n0_ := Aside0.mk (below_step (by repeat (first | (with_reducible first | exact HB.out | apply below_alloc | apply pw_below_drewN | apply below_drew1) | exact HB.out)) hb); clear HB; have HB := n0_; clear n0_; (try clear hb); (try clear hb2); (try clear hk); (try clear hi))))
        go_ret
        exact ⟨by first | rfl | (simp [errW_none, errW_some] <;> rfl) | (simp [*, errW_none, errW_some] <;> rfl), by repeat (first | (with_reducible first | exact HB.out | apply below_alloc | apply pw_below_drewN | apply below_drew1) | exact HB.out)⟩
      · replace c12 := Bool.eq_false_iff.mpr c12
        subst c12
        have H1 : ((dot_Dot.f kj3 l0 l1).bind fun bt225 => ((dot_Dot.f kj3 l1 l0).bind fun bt227 => (if 0 ≤ a2 then (if a2 ≤ (l0.length : Int) then (if a2 ≤ (l1.length : Int) then ((dot_Dot.f kj3 (l0.take (a2 : Int).toNat) (l1.take (a2 : Int).toNat)).bind fun bt231 => ((dot_Dot.f kj3 (l0.drop (a2 : Int).toNat) (l1.drop (a2 : Int).toNat)).bind fun bt235 => (if bt225.2 = 0 then (if bt227.2 = 0 then (if bt231.2 = 0 then (if bt235.2 = 0 then (if bt225.1 = bt227.1 then (if bt225.1 = (wrap64 (bt231.1 + bt235.1)) then ((credenzalaw03_awake.f kj3).bind fun t237 => (some t237)) else (some false)) else (some false)) else (some false)) else (some false)) else (some false)) else (some false)))) else (none)) else (none)) else (none)))) = some r := by rw [if_neg (show ¬ (false = true) by decide)] at H; exact H
        clear H
        have H := H1
        clear H1
        replace H := Option.bind_eq_some_iff.mp H
        obtain ⟨⟨t225, t226⟩, A150, H⟩ := H
        replace H : ((dot_Dot.f kj3 l1 l0).bind fun bt227 => (if 0 ≤ a2 then (if a2 ≤ (l0.length : Int) then (if a2 ≤ (l1.length : Int) then ((dot_Dot.f kj3 (l0.take (a2 : Int).toNat) (l1.take (a2 : Int).toNat)).bind fun bt231 => ((dot_Dot.f kj3 (l0.drop (a2 : Int).toNat) (l1.drop (a2 : Int).toNat)).bind fun bt235 => (if t226 = 0 then (if bt227.2 = 0 then (if bt231.2 = 0 then (if bt235.2 = 0 then (if t225 = bt227.1 then (if t225 = (wrap64 (bt231.1 + bt235.1)) then ((credenzalaw03_awake.f kj3).bind fun t237 => (some t237)) else (some false)) else (some false)) else (some false)) else (some false)) else (some false)) else (some false)))) else (none)) else (none)) else (none))) = some r := H
        have A15 := Aside0.mk A150
        clear A150
        replace H := Option.bind_eq_some_iff.mp H
        obtain ⟨⟨t227, t228⟩, A160, H⟩ := H
        replace H : (if 0 ≤ a2 then (if a2 ≤ (l0.length : Int) then (if a2 ≤ (l1.length : Int) then ((dot_Dot.f kj3 (l0.take (a2 : Int).toNat) (l1.take (a2 : Int).toNat)).bind fun bt231 => ((dot_Dot.f kj3 (l0.drop (a2 : Int).toNat) (l1.drop (a2 : Int).toNat)).bind fun bt235 => (if t226 = 0 then (if t228 = 0 then (if bt231.2 = 0 then (if bt235.2 = 0 then (if t225 = t227 then (if t225 = (wrap64 (bt231.1 + bt235.1)) then ((credenzalaw03_awake.f kj3).bind fun t237 => (some t237)) else (some false)) else (some false)) else (some false)) else (some false)) else (some false)) else (some false)))) else (none)) else (none)) else (none)) = some r := H
        have A16 := Aside0.mk A160
        clear A160
        by_cases c17 : 0 ≤ a2
        · rw [if_pos c17] at H
          have c17b0 := eq_true c17
          have c17b1 : decide (0 ≤ a2) = true := decide_eq_true c17
          clear c17
          by_cases c18 : a2 ≤ (l0.length : Int)
          · rw [if_pos c18] at H
            have c18b0 := eq_true c18
            have c18b1 : decide (a2 ≤ (l0.length : Int)) = true := decide_eq_true c18
            clear c18
            have c19b0 := eq_true (of_decide_eq_true (by first | (with_reducible assumption) | assumption) : 0 ≤ a2)
            by_cases c20 : a2 ≤ (l1.length : Int)
            · rw [if_pos c20] at H
              have c20b0 := eq_true c20
              have c20b1 : decide (a2 ≤ (l1.length : Int)) = true := decide_eq_true c20
              clear c20
              replace H := Option.bind_eq_some_iff.mp H
              obtain ⟨⟨t231, t232⟩, A210, H⟩ := H
              replace H : ((dot_Dot.f kj3 (l0.drop (a2 : Int).toNat) (l1.drop (a2 : Int).toNat)).bind fun bt235 => (if t226 = 0 then (if t228 = 0 then (if t232 = 0 then (if bt235.2 = 0 then (if t225 = t227 then (if t225 = (wrap64 (t231 + bt235.1)) then ((credenzalaw03_awake.f kj3).bind fun t237 => (some t237)) else (some false)) else (some false)) else (some false)) else (some false)) else (some false)) else (some false))) = some r := H
              have A21 := Aside0.mk A210
              clear A210
              have c22b0 := eq_true (of_decide_eq_true (by first | (with_reducible assumption) | assumption) : 0 ≤ a2)
              have c23b0 := eq_true (of_decide_eq_true (by first | (with_reducible assumption) | assumption) : a2 ≤ (l0.length : Int))
              have c24b0 := eq_true (of_decide_eq_true (by first | (with_reducible assumption) | assumption) : 0 ≤ a2)
              have c25b0 := eq_true (of_decide_eq_true (by first | (with_reducible assumption) | assumption) : a2 ≤ (l1.length : Int))
              replace H := Option.bind_eq_some_iff.mp H
              obtain ⟨⟨t235, t236⟩, A260, H⟩ := H
              replace H : (if t226 = 0 then (if t228 = 0 then (if t232 = 0 then (if t236 = 0 then (if t225 = t227 then (if t225 = (wrap64 (t231 + t235)) then ((credenzalaw03_awake.f kj3).bind fun t237 => (some t237)) else (some false)) else (some false)) else (some false)) else (some false)) else (some false)) else (some false)) = some r := H
              have A26 := Aside0.mk A260
              clear A260
              by_cases c27 : t226 = 0
              · rw [if_pos c27] at H
                have c27b0 : (t226 == 0) = true := beq_iff_eq.mpr c27
                have c27b1 : (t226 != 0) = false := bne_eq_false_iff_eq.mpr c27
                clear c27
                by_cases c28 : t228 = 0
                · rw [if_pos c28] at H
                  have c28b0 : (t228 == 0) = true := beq_iff_eq.mpr c28
                  have c28b1 : (t228 != 0) = false := bne_eq_false_iff_eq.mpr c28
                  clear c28
                  by_cases c29 : t232 = 0
                  · rw [if_pos c29] at H
                    have c29b0 : (t232 == 0) = true := beq_iff_eq.mpr c29
                    have c29b1 : (t232 != 0) = false := bne_eq_false_iff_eq.mpr c29
                    clear c29
                    by_cases c30 : t236 = 0
                    · rw [if_pos c30] at H
                      have c30b0 : (t236 == 0) = true := beq_iff_eq.mpr c30
                      have c30b1 : (t236 != 0) = false := bne_eq_false_iff_eq.mpr c30
                      clear c30
                      by_cases c31 : t225 = t227
                      · rw [if_pos c31] at H
                        have c31b0 : (t225 == t227) = true := beq_iff_eq.mpr c31
                        have c31b1 : (t225 != t227) = false := bne_eq_false_iff_eq.mpr c31
                        clear c31
                        by_cases c32 : t225 = (wrap64 (t231 + t235))
                        · rw [if_pos c32] at H
                          have c32b0 : (t225 == (wrap64 (t231 + t235))) = true := beq_iff_eq.mpr c32
                          have c32b1 : (t225 != (wrap64 (t231 + t235))) = false := bne_eq_false_iff_eq.mpr c32
                          clear c32
                          replace H := Option.bind_eq_some_iff.mp H
                          obtain ⟨t237, A330, H⟩ := H
                          replace H : (some t237) = some r := H
                          have A33 := Aside0.mk A330
                          clear A330
                          obtain rfl := Option.some.inj H
                          obtain ⟨i034, hi034, _, hsz34, _⟩ := info_parts info21
                          obtain ⟨hcut34, hA34, hC34⟩ := print_take_of (P := Try.prog) (Value.int .i32) 0 22 21 .i64 Try.underlying22 hi034 hsz34 A0 c0 l0 a2 (of_decide_eq_true (by first | (with_reducible assumption) | assumption)) (of_decide_eq_true (by first | (with_reducible assumption) | assumption)) HC0.out
                          have HR229 := Aside0.mk (Kd.C_of_reads (h1 := fun _ => rfl) (hA34 _ (Kd.reads_of_C HR0.out)))
                          have HC229 := Aside0.mk hC34
                          clear hA34 hC34 hi034 hsz34
                          obtain ⟨i035, hi035, _, hsz35, _⟩ := info_parts info21
                          obtain ⟨hcut35, hA35, hC35⟩ := print_take_of (P := Try.prog) (Value.int .i32) 0 22 21 .i64 Try.underlying22 hi035 hsz35 A1 c1 l1 a2 (of_decide_eq_true (by first | (with_reducible assumption) | assumption)) (of_decide_eq_true (by first | (with_reducible assumption) | assumption)) HC1.out
                          have HR230 := Aside0.mk (Kd.C_of_reads (h1 := fun _ => rfl) (hA35 _ (Kd.reads_of_C HR1.out)))
                          have HC230 := Aside0.mk hC35
                          clear hA35 hC35 hi035 hsz35
                          obtain ⟨i036, hi036, _, hsz36, _⟩ := info_parts info21
                          obtain ⟨A36, hcut36, hA36, hC36⟩ := print_drop_of (P := Try.prog) (Value.int .i32) 0 22 21 .i64 Try.underlying22 hi036 hsz36 A0 c0 l0 a2 (of_decide_eq_true (by first | (with_reducible assumption) | assumption)) (of_decide_eq_true (by first | (with_reducible assumption) | assumption)) HC0.out
                          have HR233 := Aside0.mk (Kd.C_of_reads (h1 := fun _ => rfl) (hA36 _ (Kd.reads_of_C HR0.out)))
                          have HC233 := Aside0.mk hC36
                          clear hA36 hC36 hi036 hsz36
                          obtain ⟨i037, hi037, _, hsz37, _⟩ := info_parts info21
                          obtain ⟨A37, hcut37, hA37, hC37⟩ := print_drop_of (P := Try.prog) (Value.int .i32) 0 22 21 .i64 Try.underlying22 hi037 hsz37 A1 c1 l1 a2 (of_decide_eq_true (by first | (with_reducible assumption) | assumption)) (of_decide_eq_true (by first | (with_reducible assumption) | assumption)) HC1.out
                          have HR234 := Aside0.mk (Kd.C_of_reads (h1 := fun _ => rfl) (hA37 _ (Kd.reads_of_C HR1.out)))
                          have HC234 := Aside0.mk hC37
                          clear hA37 hC37 hi037 hsz37
                          go_wp2_with (go_at_call 15; (with_reducible refine (dot_Dot.calls kj3 _ _ l0 _ _ l1 t225 t226 _ ?side1 ?side2 ?side3 ?side4 A15.out).mono ?_); (case side1 => repeat (first | exact (Kd.C_below HR0.out HB.out) | (with_reducible refine Kd.C_alloc ?_ _) | (with_reducible refine Kd.C_drewN ?_ _) | (with_reducible refine Kd.C_drew ?_))); (case side2 => exact HC0.out); (case side3 => repeat (first | exact (Kd.C_below HR1.out HB.out) | (with_reducible refine Kd.C_alloc ?_ _) | (with_reducible refine Kd.C_drewN ?_ _) | (with_reducible refine Kd.C_drew ?_))); (case side4 => exact HC1.out); rintro e w' ⟨rfl, ⟨nd, rfl⟩⟩)
                          go_wp2_with (go_at_call 15; (with_reducible refine (dot_Dot.calls kj3 _ _ l1 _ _ l0 t227 t228 _ ?side1 ?side2 ?side3 ?side4 A16.out).mono ?_); (case side1 => repeat (first | exact (Kd.C_below HR1.out HB.out) | (with_reducible refine Kd.C_alloc ?_ _) | (with_reducible refine Kd.C_drewN ?_ _) | (with_reducible refine Kd.C_drew ?_))); (case side2 => exact HC1.out); (case side3 => repeat (first | exact (Kd.C_below HR0.out HB.out) | (with_reducible refine Kd.C_alloc ?_ _) | (with_reducible refine Kd.C_drewN ?_ _) | (with_reducible refine Kd.C_drew ?_))); (case side4 => exact HC0.out); rintro e w' ⟨rfl, ⟨nd, rfl⟩⟩)
                          have hl3 : (l0.take (a2 : Int).toNat).length = a2.toNat := by
                            rw [List.length_take]; have h_ : (a2 : Int) ≤ (l0.length : Int) := of_decide_eq_true c18b1; omega
                          have hm3 : (l1.take (a2 : Int).toNat).length = a2.toNat := by
                            rw [List.length_take]; have h_ : (a2 : Int) ≤ (l1.length : Int) := of_decide_eq_true c20b1; omega
                          have D3 : Aside0 (∀ m : Nat, Calls Try.prog 15 #[.slice A0 a2.toNat c0, .slice A1 a2.toNat c1] (wc.drewN m) fun e w' => e = .returned (.tuple #[.int .i64 t231, .int .i64 t232]) ∧ ∃ n, w' = (wc.drewN m).drewN n) := Aside0.mk (fun m => by
                            have h := dot_Dot.calls kj3 A0 c0 (l0.take (a2 : Int).toNat) A1 c1 (l1.take (a2 : Int).toNat) t231 t232 (wc.drewN m) (Kd.C_drewN (Kd.C_below HR229.out HB.out) _) HC229.out (Kd.C_drewN (Kd.C_below HR230.out HB.out) _) HC230.out A21.out
                            rw [hl3, hm3] at h
                            refine h.mono ?_
                            rintro e w' ⟨rfl, nd, rfl⟩
                            exact ⟨rfl, nd, rfl⟩)
                          have D4 : Aside0 (∀ m : Nat, Calls Try.prog 15 #[.slice A36 (l0.length - a2.toNat) (c0 - a2.toNat), .slice A37 (l1.length - a2.toNat) (c1 - a2.toNat)] (wc.drewN m) fun e w' => e = .returned (.tuple #[.int .i64 t235, .int .i64 t236]) ∧ ∃ n, w' = (wc.drewN m).drewN n) := Aside0.mk (fun m => by
                            have h := dot_Dot.calls kj3 A36 (c0 - a2.toNat) (l0.drop (a2 : Int).toNat) A37 (c1 - a2.toNat) (l1.drop (a2 : Int).toNat) t235 t236 (wc.drewN m) (Kd.C_drewN (Kd.C_below HR233.out HB.out) _) HC233.out (Kd.C_drewN (Kd.C_below HR234.out HB.out) _) HC234.out A26.out
                            rw [List.length_drop, List.length_drop] at h
                            refine h.mono ?_
                            rintro e w' ⟨rfl, nd, rfl⟩
                            exact ⟨rfl, nd, rfl⟩)
                          clear hl3 hm3
                          go_quiet ((go_at_call 15; refine (D3.out _).mono ?_; rintro e w' ⟨rfl, nd, rfl⟩; exact ⟨rfl, _, (World.drewN_drewN _ _ _).trans (congrArg (World.drewN _) (Nat.add_assoc _ _ _))⟩))
                          go_wp2_with (fail)
                          go_quiet ((go_at_call 15; refine (D4.out _).mono ?_; rintro e w' ⟨rfl, nd, rfl⟩; exact ⟨rfl, _, (World.drewN_drewN _ _ _).trans (congrArg (World.drewN _) (Nat.add_assoc _ _ _))⟩))
                          go_wp2_with (go_at_call 17; (with_reducible refine (credenzalaw03_awake.calls kj3  t237 _ A33.out).mono ?_); rintro e w38 ⟨rfl, hb⟩; have n0_ := Aside0.mk (below_step (by repeat (first | (with_reducible first | exact HB.out | apply below_alloc | apply pw_below_drewN | apply below_drew1) | exact HB.out)) hb); clear HB; have HB := n0_; clear n0_; clear hb)
                          go_ret
                          exact ⟨rfl, HB.out⟩
                        · rw [if_neg c32] at H
                          have c32b0 : (t225 == (wrap64 (t231 + t235))) = false := beq_eq_false_iff_ne.mpr c32
                          have c32b1 : (t225 != (wrap64 (t231 + t235))) = true := bne_iff_ne.mpr c32
                          exact absurd (H.trans (congrArg some HRT.out)) (by simp)
                      · rw [if_neg c31] at H
                        have c31b0 : (t225 == t227) = false := beq_eq_false_iff_ne.mpr c31
                        have c31b1 : (t225 != t227) = true := bne_iff_ne.mpr c31
                        exact absurd (H.trans (congrArg some HRT.out)) (by simp)
                    · rw [if_neg c30] at H
                      have c30b0 : (t236 == 0) = false := beq_eq_false_iff_ne.mpr c30
                      have c30b1 : (t236 != 0) = true := bne_iff_ne.mpr c30
                      exact absurd (H.trans (congrArg some HRT.out)) (by simp)
                  · rw [if_neg c29] at H
                    have c29b0 : (t232 == 0) = false := beq_eq_false_iff_ne.mpr c29
                    have c29b1 : (t232 != 0) = true := bne_iff_ne.mpr c29
                    exact absurd (H.trans (congrArg some HRT.out)) (by simp)
                · rw [if_neg c28] at H
                  have c28b0 : (t228 == 0) = false := beq_eq_false_iff_ne.mpr c28
                  have c28b1 : (t228 != 0) = true := bne_iff_ne.mpr c28
                  exact absurd (H.trans (congrArg some HRT.out)) (by simp)
              · rw [if_neg c27] at H
                have c27b0 : (t226 == 0) = false := beq_eq_false_iff_ne.mpr c27
                have c27b1 : (t226 != 0) = true := bne_iff_ne.mpr c27
                exact absurd (H.trans (congrArg some HRT.out)) (by simp)
            · rw [if_neg c20] at H
              exact absurd H (by simp)
          · rw [if_neg c18] at H
            exact absurd H (by simp)
        · rw [if_neg c17] at H
          exact absurd H (by simp)

/-- THE ONE PURE STATEMENT of credenzalaw03_DotSplits: yours. -/
def credenzalaw03_DotSplits.Pure : Prop := ∀ (l0 : List Int) (l1 : List Int) (a2 : Int), l0.length ≤ maxLen → l0.length * 4 ≤ 140737488351232 → (∀ x ∈ l0, (Lit.int .i32 x).wf = true) → l1.length ≤ maxLen → l1.length * 4 ≤ 140737488351232 → (∀ x ∈ l1, (Lit.int .i32 x).wf = true) → (Lit.int .i64 a2).wf = true → ∃ k, credenzalaw03_DotSplits.f k l0 l1 a2 = some true
theorem credenzalaw03_DotSplits.walk (P : credenzalaw03_DotSplits.Pure) (a0 : Option Addr) (len0 cap0 : Nat) (z0 : List Int) (a1 : Option Addr) (len1 cap1 : Nat) (z1 : List Int) (a2 : Int) (w : World) (w0 : (a0 = none ∧ len0 = 0 ∧ cap0 = 0 ∧ z0 = []) ∨ ∃ x, a0 = some x ∧ len0 ≤ cap0 ∧ cap0 ≤ maxLen ∧ z0.length = cap0 ∧ (∀ i, i < z0.length → w.cell? (x.add i) = some (.int .i32 (z0.getD i 0))) ∧ ∀ n ∈ z0, (Lit.int .i32 n).wf = true) (y0 : len0 * 4 ≤ 140737488351232) (w1 : (a1 = none ∧ len1 = 0 ∧ cap1 = 0 ∧ z1 = []) ∨ ∃ x, a1 = some x ∧ len1 ≤ cap1 ∧ cap1 ≤ maxLen ∧ z1.length = cap1 ∧ (∀ i, i < z1.length → w.cell? (x.add i) = some (.int .i32 (z1.getD i 0))) ∧ ∀ n ∈ z1, (Lit.int .i32 n).wf = true) (y1 : len1 * 4 ≤ 140737488351232) (w2 : (Lit.int .i64 a2).wf = true) :
    Calls Try.prog 5 #[.slice a0 len0 cap0, .slice a1 len1 cap1, .int .i64 a2] w fun e w' => e = .returned (.bool true) ∧ Below w.heap.size w w' := by
  obtain ⟨l0, rfl, hr0, hm0, hw0, hc0⟩ := ReadsInt.ofRowC w0
  obtain ⟨l1, rfl, hr1, hm1, hw1, hc1⟩ := ReadsInt.ofRowC w1
  obtain ⟨k, h⟩ := P l0 l1 a2 hm0 y0 hw0 hm1 y1 hw1 w2
  refine (credenzalaw03_DotSplits.calls k _ _ l0 _ _ l1 a2 true w (Kd.C_of_reads (d := (0 : Int)) (h1 := fun _ => rfl) hr0) hc0 (Kd.C_of_reads (d := (0 : Int)) (h1 := fun _ => rfl) hr1) hc1 h rfl).mono ?_
  rintro e w' ⟨rfl, hd⟩
  exact ⟨rfl, hd⟩

end Go.Proofs.Ytmndomlpdajjmab.Ds
