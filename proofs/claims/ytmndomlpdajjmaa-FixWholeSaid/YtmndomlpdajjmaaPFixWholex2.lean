-- PRINTED BY print.sh 35421559b90ae4d0a3588c463048766b98c2df88dd9212a6774a882060cdf62d: not written by this session
import Derived.Test.YtmndomlpdajjmaaPFixWholex0
import Derived.Test.YtmndomlpdajjmaaPFixWholex1
namespace Go.Proofs.Ytmndomlpdajjmaa.PFixWhole
open Go.RowKit Go.Proofs.YtmndomlpdajjmaaW.PrintWords Go.Proofs.YtmndomlpdajjmaaW.PrintLast Go.Proofs.YtmndomlpdajjmaaW.PrintMore
attribute [local go_sem] max2_int min2_int max_two min_two max_three min_three max_four min_four   -- for this text's walks alone
set_option linter.unusedVariables false
set_option linter.unusedSimpArgs false

/-! ### credenzalaw01_FixWhole: function 9 -/
mutual
def credenzalaw01_FixWhole.j0 : Nat → Int → Int → Bool → Option (Bool)
  | 0, _, _, _ => none
  | k + 1, x0, x1, x36 => if x36 = true then (some false) else (if x0 > 8000 then (credenzalaw01_FixWhole.j1 k x0 x1 true) else (if x0 < (-8000) then (credenzalaw01_FixWhole.j1 k x0 x1 true) else (if x1 > 8000 then (credenzalaw01_FixWhole.j1 k x0 x1 true) else (credenzalaw01_FixWhole.j1 k x0 x1 (decide (x1 < (-8000)))))))
def credenzalaw01_FixWhole.j1 : Nat → Int → Int → Bool → Option (Bool)
  | 0, _, _, _ => none
  | k + 1, x0, x1, x50 => if x50 = true then ((credenzalaw01_awake.f k).bind fun t125 => (some t125)) else ((fix_Of.f x0).bind fun t126 => ((fix_Of.f x1).bind fun t127 => ((fix_Add.f t126 t127).bind fun t128 => ((fix_Of.f (wrap64 (x0 + x1))).bind fun t129 => (if t128 = t129 then (if x0 > 100 then ((credenzalaw01_awake.f k).bind fun t130 => (some t130)) else (if x0 < (-100) then ((credenzalaw01_awake.f k).bind fun t131 => (some t131)) else (if x1 > 100 then ((credenzalaw01_awake.f k).bind fun t132 => (some t132)) else (if x1 < (-100) then ((credenzalaw01_awake.f k).bind fun t133 => (some t133)) else ((fix_Of.f x0).bind fun t134 => ((fix_Of.f x1).bind fun t135 => ((fix_Mul.f t134 t135).bind fun t136 => ((fix_Of.f (wrap64 (x0 * x1))).bind fun t137 => (if t136 = t137 then ((credenzalaw01_awake.f k).bind fun t138 => (some t138)) else (some false)))))))))) else (some false))))))
end
def credenzalaw01_FixWhole.f (k : Nat) (a0 : Int) (a1 : Int) : Option (Bool) := (fix_Of.f a0).bind fun t124 => (if a0 > 32767 then (if t124 = 2147483647 then (if a0 < (-32768) then (if t124 = (-2147483648) then (if a0 ≤ 32767 then (if a0 ≥ (-32768) then (credenzalaw01_FixWhole.j0 k a0 a1 ((wrap64 (t124)) != (wrap64 (a0 * 65536)))) else (credenzalaw01_FixWhole.j0 k a0 a1 false)) else (credenzalaw01_FixWhole.j0 k a0 a1 false)) else (credenzalaw01_FixWhole.j0 k a0 a1 true)) else (if a0 ≤ 32767 then (if a0 ≥ (-32768) then (credenzalaw01_FixWhole.j0 k a0 a1 ((wrap64 (t124)) != (wrap64 (a0 * 65536)))) else (credenzalaw01_FixWhole.j0 k a0 a1 false)) else (credenzalaw01_FixWhole.j0 k a0 a1 false))) else (credenzalaw01_FixWhole.j0 k a0 a1 true)) else (if a0 < (-32768) then (if t124 = (-2147483648) then (if a0 ≤ 32767 then (if a0 ≥ (-32768) then (credenzalaw01_FixWhole.j0 k a0 a1 ((wrap64 (t124)) != (wrap64 (a0 * 65536)))) else (credenzalaw01_FixWhole.j0 k a0 a1 false)) else (credenzalaw01_FixWhole.j0 k a0 a1 false)) else (credenzalaw01_FixWhole.j0 k a0 a1 true)) else (if a0 ≤ 32767 then (if a0 ≥ (-32768) then (credenzalaw01_FixWhole.j0 k a0 a1 ((wrap64 (t124)) != (wrap64 (a0 * 65536)))) else (credenzalaw01_FixWhole.j0 k a0 a1 false)) else (credenzalaw01_FixWhole.j0 k a0 a1 false))))
theorem credenzalaw01_FixWhole.mono_l : ∀ k, (∀ y0 y1 y2, LeO (credenzalaw01_FixWhole.j0 k y0 y1 y2) (credenzalaw01_FixWhole.j0 (k + 1) y0 y1 y2)) ∧ (∀ y0 y1 y2, LeO (credenzalaw01_FixWhole.j1 k y0 y1 y2) (credenzalaw01_FixWhole.j1 (k + 1) y0 y1 y2))
  | 0 => ⟨fun _ _ _ r h => by simp [credenzalaw01_FixWhole.j0] at h, fun _ _ _ r h => by simp [credenzalaw01_FixWhole.j1] at h⟩
  | k + 1 => by
    obtain ⟨ih0, ih1⟩ := credenzalaw01_FixWhole.mono_l k
    refine ⟨?_, ?_⟩
    · intro y0 y1 y2
      unfold credenzalaw01_FixWhole.j0
      repeat' first
      | (with_reducible exact ih0 _ _ _)
      | (with_reducible exact ih1 _ _ _)
      | (with_reducible exact credenzalaw01_awake.mono _)
      | (with_reducible exact LeO.refl _)
      | (with_reducible exact LeO.none _)
      | (with_reducible refine LeO.ite ?_ ?_)
      | (with_reducible refine LeO.bind ?_ (fun _ => ?_))
      | exact ih0 _ _ _
      | exact ih1 _ _ _
      | exact credenzalaw01_awake.mono _
      | exact LeO.none _
      | refine LeO.ite ?_ ?_
      | refine LeO.bind ?_ (fun _ => ?_)
    · intro y0 y1 y2
      unfold credenzalaw01_FixWhole.j1
      repeat' first
      | (with_reducible exact ih0 _ _ _)
      | (with_reducible exact ih1 _ _ _)
      | (with_reducible exact credenzalaw01_awake.mono _)
      | (with_reducible exact LeO.refl _)
      | (with_reducible exact LeO.none _)
      | (with_reducible refine LeO.ite ?_ ?_)
      | (with_reducible refine LeO.bind ?_ (fun _ => ?_))
      | exact ih0 _ _ _
      | exact ih1 _ _ _
      | exact credenzalaw01_awake.mono _
      | exact LeO.none _
      | refine LeO.ite ?_ ?_
      | refine LeO.bind ?_ (fun _ => ?_)
theorem credenzalaw01_FixWhole.mono : ∀ a0 a1 k, LeO (credenzalaw01_FixWhole.f k a0 a1) (credenzalaw01_FixWhole.f (k + 1) a0 a1) := by
  intro a0 a1 k
  obtain ⟨ih0, ih1⟩ := credenzalaw01_FixWhole.mono_l k
  unfold credenzalaw01_FixWhole.f
  repeat' first
      | (with_reducible exact ih0 _ _ _)
      | (with_reducible exact ih1 _ _ _)
      | (with_reducible exact credenzalaw01_awake.mono _)
      | (with_reducible exact LeO.refl _)
      | (with_reducible exact LeO.none _)
      | (with_reducible refine LeO.ite ?_ ?_)
      | (with_reducible refine LeO.bind ?_ (fun _ => ?_))
      | exact ih0 _ _ _
      | exact ih1 _ _ _
      | exact credenzalaw01_awake.mono _
      | exact LeO.none _
      | refine LeO.ite ?_ ?_
      | refine LeO.bind ?_ (fun _ => ?_)
set_option maxHeartbeats 8000000 in
set_option maxRecDepth 100000 in
theorem credenzalaw01_FixWhole.calls (k : Nat) (a0 : Int) (a1 : Int) (r : Bool) (w : World) (h : credenzalaw01_FixWhole.f k a0 a1 = some r) :
    Calls Try.prog 9 #[.int .i64 a0, .int .i64 a1] w fun e w' => e = .returned (.bool r) ∧ Below w.heap.size w w' := by
  have HB := Aside0.mk (Below.refl w.heap.size w)
  have H : ((fix_Of.f a0).bind fun t124 => (if a0 > 32767 then (if t124 = 2147483647 then (if a0 < (-32768) then (if t124 = (-2147483648) then (if a0 ≤ 32767 then (if a0 ≥ (-32768) then (credenzalaw01_FixWhole.j0 k a0 a1 ((wrap64 (t124)) != (wrap64 (a0 * 65536)))) else (credenzalaw01_FixWhole.j0 k a0 a1 false)) else (credenzalaw01_FixWhole.j0 k a0 a1 false)) else (credenzalaw01_FixWhole.j0 k a0 a1 true)) else (if a0 ≤ 32767 then (if a0 ≥ (-32768) then (credenzalaw01_FixWhole.j0 k a0 a1 ((wrap64 (t124)) != (wrap64 (a0 * 65536)))) else (credenzalaw01_FixWhole.j0 k a0 a1 false)) else (credenzalaw01_FixWhole.j0 k a0 a1 false))) else (credenzalaw01_FixWhole.j0 k a0 a1 true)) else (if a0 < (-32768) then (if t124 = (-2147483648) then (if a0 ≤ 32767 then (if a0 ≥ (-32768) then (credenzalaw01_FixWhole.j0 k a0 a1 ((wrap64 (t124)) != (wrap64 (a0 * 65536)))) else (credenzalaw01_FixWhole.j0 k a0 a1 false)) else (credenzalaw01_FixWhole.j0 k a0 a1 false)) else (credenzalaw01_FixWhole.j0 k a0 a1 true)) else (if a0 ≤ 32767 then (if a0 ≥ (-32768) then (credenzalaw01_FixWhole.j0 k a0 a1 ((wrap64 (t124)) != (wrap64 (a0 * 65536)))) else (credenzalaw01_FixWhole.j0 k a0 a1 false)) else (credenzalaw01_FixWhole.j0 k a0 a1 false))))) = some r := h
  clear h
  replace H := Option.bind_eq_some_iff.mp H
  obtain ⟨t124, A30, H⟩ := H
  replace H : (if a0 > 32767 then (if t124 = 2147483647 then (if a0 < (-32768) then (if t124 = (-2147483648) then (if a0 ≤ 32767 then (if a0 ≥ (-32768) then (credenzalaw01_FixWhole.j0 k a0 a1 ((wrap64 (t124)) != (wrap64 (a0 * 65536)))) else (credenzalaw01_FixWhole.j0 k a0 a1 false)) else (credenzalaw01_FixWhole.j0 k a0 a1 false)) else (credenzalaw01_FixWhole.j0 k a0 a1 true)) else (if a0 ≤ 32767 then (if a0 ≥ (-32768) then (credenzalaw01_FixWhole.j0 k a0 a1 ((wrap64 (t124)) != (wrap64 (a0 * 65536)))) else (credenzalaw01_FixWhole.j0 k a0 a1 false)) else (credenzalaw01_FixWhole.j0 k a0 a1 false))) else (credenzalaw01_FixWhole.j0 k a0 a1 true)) else (if a0 < (-32768) then (if t124 = (-2147483648) then (if a0 ≤ 32767 then (if a0 ≥ (-32768) then (credenzalaw01_FixWhole.j0 k a0 a1 ((wrap64 (t124)) != (wrap64 (a0 * 65536)))) else (credenzalaw01_FixWhole.j0 k a0 a1 false)) else (credenzalaw01_FixWhole.j0 k a0 a1 false)) else (credenzalaw01_FixWhole.j0 k a0 a1 true)) else (if a0 ≤ 32767 then (if a0 ≥ (-32768) then (credenzalaw01_FixWhole.j0 k a0 a1 ((wrap64 (t124)) != (wrap64 (a0 * 65536)))) else (credenzalaw01_FixWhole.j0 k a0 a1 false)) else (credenzalaw01_FixWhole.j0 k a0 a1 false)))) = some r := H
  have A3 := Aside0.mk A30
  clear A30
  have HC4 := Aside0.mk H
  clear H
  go_enter Try.func9, Try.ntmps9
  go_upto_region 2 with (first | ((with_reducible refine gate_callee (f := 30) rfl ?_); refine goesL_ (some 7) rfl rfl Try.func30 (by kernel_rfl) rfl #[.int .i64 a0] rfl (by (try simp only [List.map_toArray, List.map_cons, List.map_nil]); first | done | rfl | (simp only [List.length_drop, List.length_take]; rfl)) ?_; (with_reducible refine (fix_Of.calls a0 t124 _ A3.out).mono ?_); rintro e w5 ⟨rfl, hb⟩; refine ⟨_, rfl, ?_⟩; have n0_ := Aside0.mk (below_step (by repeat (first | (with_reducible first | exact HB.out | apply below_alloc | apply pw_below_drewN | apply below_drew1) | exact HB.out)) hb); clear HB; have HB := n0_; clear n0_; (try clear hb); (try clear hb2); (try clear hk); (try clear hi)))
  (try simp only [Act.put, List.setIfInBounds_toArray, List.set_cons_zero, List.set_cons_succ])
  go_cut [36] (fun v36 wc => ∃ (kq : Nat) (x36_3 : Bool), v36 = .bool x36_3 ∧ Aside0 (credenzalaw01_FixWhole.j0 kq a0 a1 x36_3 = some r) ∧ Aside0 (kq ≤ k) ∧ Aside0 (Below w.heap.size w wc))
  case first =>
    have H := HC4.out
    clear HC4
    by_cases c6 : a0 > 32767
    · rw [if_pos c6] at H
      have c6b0 : decide (32767 < a0) = true := decide_eq_true c6
      clear c6
      (first | rw [c6b0] | (simp only [i64_w, i32_w]; rw [c6b0]) | skip)
      by_cases c7 : t124 = 2147483647
      · rw [if_pos c7] at H
        have c7b0 : (t124 == 2147483647) = true := beq_iff_eq.mpr c7
        have c7b1 : (t124 != 2147483647) = false := bne_eq_false_iff_eq.mpr c7
        clear c7
        by_cases c8 : a0 < (-32768)
        · rw [if_pos c8] at H
          have c8b0 : decide (a0 < (-32768)) = true := decide_eq_true c8
          clear c8
          by_cases c9 : t124 = (-2147483648)
          · rw [if_pos c9] at H
            have c9b0 : (t124 == (-2147483648)) = true := beq_iff_eq.mpr c9
            have c9b1 : (t124 != (-2147483648)) = false := bne_eq_false_iff_eq.mpr c9
            clear c9
            by_cases c10 : a0 ≤ 32767
            · rw [if_pos c10] at H
              have c10b0 : decide (a0 ≤ 32767) = true := decide_eq_true c10
              clear c10
              by_cases c11 : a0 ≥ (-32768)
              · rw [if_pos c11] at H
                have c11b0 : decide ((-32768) ≤ a0) = true := decide_eq_true c11
                clear c11
                have H' := Aside0.mk H
                clear H
                go_wp2
                go_meet
                case rel => exact ⟨_, (((wrap64 (t124)) != (wrap64 (a0 * 65536)))), (by first | rfl | (simp; done) | (simp [*]; done)), H', ⟨by first | omega | exact Nat.le_refl _⟩, ⟨by repeat (first | (with_reducible first | exact HB.out | apply below_alloc | apply pw_below_drewN | apply below_drew1) | exact HB.out)⟩⟩
              · rw [if_neg c11] at H
                have c11b0 : decide ((-32768) ≤ a0) = false := decide_eq_false c11
                clear c11
                have H' := Aside0.mk H
                clear H
                go_wp2
                go_meet
                case rel => exact ⟨_, (false), (by first | rfl | (simp; done) | (simp [*]; done)), H', ⟨by first | omega | exact Nat.le_refl _⟩, ⟨by repeat (first | (with_reducible first | exact HB.out | apply below_alloc | apply pw_below_drewN | apply below_drew1) | exact HB.out)⟩⟩
            · rw [if_neg c10] at H
              have c10b0 : decide (a0 ≤ 32767) = false := decide_eq_false c10
              clear c10
              have H' := Aside0.mk H
              clear H
              go_wp2
              go_meet
              case rel => exact ⟨_, (false), (by first | rfl | (simp; done) | (simp [*]; done)), H', ⟨by first | omega | exact Nat.le_refl _⟩, ⟨by repeat (first | (with_reducible first | exact HB.out | apply below_alloc | apply pw_below_drewN | apply below_drew1) | exact HB.out)⟩⟩
          · rw [if_neg c9] at H
            have c9b0 : (t124 == (-2147483648)) = false := beq_eq_false_iff_ne.mpr c9
            have c9b1 : (t124 != (-2147483648)) = true := bne_iff_ne.mpr c9
            have H' := Aside0.mk H
            clear H
            go_wp2
            go_meet
            case rel => exact ⟨_, (true), (by first | rfl | (simp; done) | (simp [*]; done)), H', ⟨by first | omega | exact Nat.le_refl _⟩, ⟨by repeat (first | (with_reducible first | exact HB.out | apply below_alloc | apply pw_below_drewN | apply below_drew1) | exact HB.out)⟩⟩
        · rw [if_neg c8] at H
          have c8b0 : decide (a0 < (-32768)) = false := decide_eq_false c8
          clear c8
          by_cases c12 : a0 ≤ 32767
          · rw [if_pos c12] at H
            have c12b0 : decide (a0 ≤ 32767) = true := decide_eq_true c12
            clear c12
            by_cases c13 : a0 ≥ (-32768)
            · rw [if_pos c13] at H
              have c13b0 : decide ((-32768) ≤ a0) = true := decide_eq_true c13
              clear c13
              have H' := Aside0.mk H
              clear H
              go_wp2
              go_meet
              case rel => exact ⟨_, (((wrap64 (t124)) != (wrap64 (a0 * 65536)))), (by first | rfl | (simp; done) | (simp [*]; done)), H', ⟨by first | omega | exact Nat.le_refl _⟩, ⟨by repeat (first | (with_reducible first | exact HB.out | apply below_alloc | apply pw_below_drewN | apply below_drew1) | exact HB.out)⟩⟩
            · rw [if_neg c13] at H
              have c13b0 : decide ((-32768) ≤ a0) = false := decide_eq_false c13
              clear c13
              have H' := Aside0.mk H
              clear H
              go_wp2
              go_meet
              case rel => exact ⟨_, (false), (by first | rfl | (simp; done) | (simp [*]; done)), H', ⟨by first | omega | exact Nat.le_refl _⟩, ⟨by repeat (first | (with_reducible first | exact HB.out | apply below_alloc | apply pw_below_drewN | apply below_drew1) | exact HB.out)⟩⟩
          · rw [if_neg c12] at H
            have c12b0 : decide (a0 ≤ 32767) = false := decide_eq_false c12
            clear c12
            have H' := Aside0.mk H
            clear H
            go_wp2
            go_meet
            case rel => exact ⟨_, (false), (by first | rfl | (simp; done) | (simp [*]; done)), H', ⟨by first | omega | exact Nat.le_refl _⟩, ⟨by repeat (first | (with_reducible first | exact HB.out | apply below_alloc | apply pw_below_drewN | apply below_drew1) | exact HB.out)⟩⟩
      · rw [if_neg c7] at H
        have c7b0 : (t124 == 2147483647) = false := beq_eq_false_iff_ne.mpr c7
        have c7b1 : (t124 != 2147483647) = true := bne_iff_ne.mpr c7
        have H' := Aside0.mk H
        clear H
        go_wp2
        go_meet
        case rel => exact ⟨_, (true), (by first | rfl | (simp; done) | (simp [*]; done)), H', ⟨by first | omega | exact Nat.le_refl _⟩, ⟨by repeat (first | (with_reducible first | exact HB.out | apply below_alloc | apply pw_below_drewN | apply below_drew1) | exact HB.out)⟩⟩
    · rw [if_neg c6] at H
      have c6b0 : decide (32767 < a0) = false := decide_eq_false c6
      clear c6
      (first | rw [c6b0] | (simp only [i64_w, i32_w]; rw [c6b0]) | skip)
      by_cases c14 : a0 < (-32768)
      · rw [if_pos c14] at H
        have c14b0 : decide (a0 < (-32768)) = true := decide_eq_true c14
        clear c14
        by_cases c15 : t124 = (-2147483648)
        · rw [if_pos c15] at H
          have c15b0 : (t124 == (-2147483648)) = true := beq_iff_eq.mpr c15
          have c15b1 : (t124 != (-2147483648)) = false := bne_eq_false_iff_eq.mpr c15
          clear c15
          by_cases c16 : a0 ≤ 32767
          · rw [if_pos c16] at H
            have c16b0 : decide (a0 ≤ 32767) = true := decide_eq_true c16
            clear c16
            by_cases c17 : a0 ≥ (-32768)
            · rw [if_pos c17] at H
              have c17b0 : decide ((-32768) ≤ a0) = true := decide_eq_true c17
              clear c17
              have H' := Aside0.mk H
              clear H
              go_wp2
              go_meet
              case rel => exact ⟨_, (((wrap64 (t124)) != (wrap64 (a0 * 65536)))), (by first | rfl | (simp; done) | (simp [*]; done)), H', ⟨by first | omega | exact Nat.le_refl _⟩, ⟨by repeat (first | (with_reducible first | exact HB.out | apply below_alloc | apply pw_below_drewN | apply below_drew1) | exact HB.out)⟩⟩
            · rw [if_neg c17] at H
              have c17b0 : decide ((-32768) ≤ a0) = false := decide_eq_false c17
              clear c17
              have H' := Aside0.mk H
              clear H
              go_wp2
              go_meet
              case rel => exact ⟨_, (false), (by first | rfl | (simp; done) | (simp [*]; done)), H', ⟨by first | omega | exact Nat.le_refl _⟩, ⟨by repeat (first | (with_reducible first | exact HB.out | apply below_alloc | apply pw_below_drewN | apply below_drew1) | exact HB.out)⟩⟩
          · rw [if_neg c16] at H
            have c16b0 : decide (a0 ≤ 32767) = false := decide_eq_false c16
            clear c16
            have H' := Aside0.mk H
            clear H
            go_wp2
            go_meet
            case rel => exact ⟨_, (false), (by first | rfl | (simp; done) | (simp [*]; done)), H', ⟨by first | omega | exact Nat.le_refl _⟩, ⟨by repeat (first | (with_reducible first | exact HB.out | apply below_alloc | apply pw_below_drewN | apply below_drew1) | exact HB.out)⟩⟩
        · rw [if_neg c15] at H
          have c15b0 : (t124 == (-2147483648)) = false := beq_eq_false_iff_ne.mpr c15
          have c15b1 : (t124 != (-2147483648)) = true := bne_iff_ne.mpr c15
          have H' := Aside0.mk H
          clear H
          go_wp2
          go_meet
          case rel => exact ⟨_, (true), (by first | rfl | (simp; done) | (simp [*]; done)), H', ⟨by first | omega | exact Nat.le_refl _⟩, ⟨by repeat (first | (with_reducible first | exact HB.out | apply below_alloc | apply pw_below_drewN | apply below_drew1) | exact HB.out)⟩⟩
      · rw [if_neg c14] at H
        have c14b0 : decide (a0 < (-32768)) = false := decide_eq_false c14
        clear c14
        by_cases c18 : a0 ≤ 32767
        · rw [if_pos c18] at H
          have c18b0 : decide (a0 ≤ 32767) = true := decide_eq_true c18
          clear c18
          by_cases c19 : a0 ≥ (-32768)
          · rw [if_pos c19] at H
            have c19b0 : decide ((-32768) ≤ a0) = true := decide_eq_true c19
            clear c19
            have H' := Aside0.mk H
            clear H
            go_wp2
            go_meet
            case rel => exact ⟨_, (((wrap64 (t124)) != (wrap64 (a0 * 65536)))), (by first | rfl | (simp; done) | (simp [*]; done)), H', ⟨by first | omega | exact Nat.le_refl _⟩, ⟨by repeat (first | (with_reducible first | exact HB.out | apply below_alloc | apply pw_below_drewN | apply below_drew1) | exact HB.out)⟩⟩
          · rw [if_neg c19] at H
            have c19b0 : decide ((-32768) ≤ a0) = false := decide_eq_false c19
            clear c19
            have H' := Aside0.mk H
            clear H
            go_wp2
            go_meet
            case rel => exact ⟨_, (false), (by first | rfl | (simp; done) | (simp [*]; done)), H', ⟨by first | omega | exact Nat.le_refl _⟩, ⟨by repeat (first | (with_reducible first | exact HB.out | apply below_alloc | apply pw_below_drewN | apply below_drew1) | exact HB.out)⟩⟩
        · rw [if_neg c18] at H
          have c18b0 : decide (a0 ≤ 32767) = false := decide_eq_false c18
          clear c18
          have H' := Aside0.mk H
          clear H
          go_wp2
          go_meet
          case rel => exact ⟨_, (false), (by first | rfl | (simp; done) | (simp [*]; done)), H', ⟨by first | omega | exact Nat.le_refl _⟩, ⟨by repeat (first | (with_reducible first | exact HB.out | apply below_alloc | apply pw_below_drewN | apply below_drew1) | exact HB.out)⟩⟩
  case rest =>
    clear HC4
    try clear c1
    try clear p2
    try clear c3
    try clear c6
    try clear c6b0
    try clear p6
    try clear c7
    try clear c7b0
    try clear c7b1
    try clear c8
    try clear c8b0
    try clear c9
    try clear c9b0
    try clear c9b1
    try clear c10
    try clear c10b0
    try clear c11
    try clear c11b0
    try clear c12
    try clear c12b0
    try clear c13
    try clear c13b0
    try clear c14
    try clear c14b0
    try clear c15
    try clear c15b0
    try clear c15b1
    try clear c16
    try clear c16b0
    try clear c17
    try clear c17b0
    try clear c18
    try clear c18b0
    try clear c19
    try clear c19b0
    obtain ⟨kq, x36_3, rfl, HA, HJ3, HB⟩ := hcut
    cases kq with
    | zero => exact absurd HA.out (by simp [credenzalaw01_FixWhole.j0])
    | succ kj3 =>
      have H := HA.out
      clear HA
      simp only [credenzalaw01_FixWhole.j0] at H
      by_cases c20 : x36_3 = true
      · subst c20
        have H1 : (some false) = some r := by rw [if_pos rfl] at H; exact H
        clear H
        have H := H1
        clear H1
        obtain rfl := Option.some.inj H
        go_wp2
        go_ret
        exact ⟨by first | rfl | (simp [errW_none, errW_some] <;> rfl) | (simp [*, errW_none, errW_some] <;> rfl), by repeat (first | (with_reducible first | exact HB.out | apply below_alloc | apply pw_below_drewN | apply below_drew1) | exact HB.out)⟩
      · replace c20 := Bool.eq_false_iff.mpr c20
        subst c20
        have H1 : (if a0 > 8000 then (credenzalaw01_FixWhole.j1 kj3 a0 a1 true) else (if a0 < (-8000) then (credenzalaw01_FixWhole.j1 kj3 a0 a1 true) else (if a1 > 8000 then (credenzalaw01_FixWhole.j1 kj3 a0 a1 true) else (credenzalaw01_FixWhole.j1 kj3 a0 a1 (decide (a1 < (-8000))))))) = some r := by rw [if_neg (show ¬ (false = true) by decide)] at H; exact H
        clear H
        have H := H1
        clear H1
        have HC21 := Aside0.mk H
        clear H
        go_upto_region 4 with (fail)
        go_cut [50] (fun v50 wc => ∃ (kq : Nat) (x50_20 : Bool), v50 = .bool x50_20 ∧ Aside0 (credenzalaw01_FixWhole.j1 kq a0 a1 x50_20 = some r) ∧ Aside0 (kq ≤ kj3) ∧ Aside0 (Below w.heap.size w wc))
        case first =>
          have H := HC21.out
          clear HC21
          by_cases c22 : a0 > 8000
          · rw [if_pos c22] at H
            have c22b0 : decide (8000 < a0) = true := decide_eq_true c22
            clear c22
            (first | rw [c22b0] | (simp only [i64_w, i32_w]; rw [c22b0]) | skip)
            have H' := Aside0.mk H
            clear H
            go_wp2
            go_meet
            case rel => exact ⟨_, (true), (by first | rfl | (simp; done) | (simp [*]; done)), H', ⟨by have := HJ3.out; first | omega | exact Nat.le_refl _⟩, ⟨by repeat (first | (with_reducible first | exact HB.out | apply below_alloc | apply pw_below_drewN | apply below_drew1) | exact HB.out)⟩⟩
          · rw [if_neg c22] at H
            have c22b0 : decide (8000 < a0) = false := decide_eq_false c22
            clear c22
            (first | rw [c22b0] | (simp only [i64_w, i32_w]; rw [c22b0]) | skip)
            by_cases c23 : a0 < (-8000)
            · rw [if_pos c23] at H
              have c23b0 : decide (a0 < (-8000)) = true := decide_eq_true c23
              clear c23
              have H' := Aside0.mk H
              clear H
              go_wp2
              go_meet
              case rel => exact ⟨_, (true), (by first | rfl | (simp; done) | (simp [*]; done)), H', ⟨by have := HJ3.out; first | omega | exact Nat.le_refl _⟩, ⟨by repeat (first | (with_reducible first | exact HB.out | apply below_alloc | apply pw_below_drewN | apply below_drew1) | exact HB.out)⟩⟩
            · rw [if_neg c23] at H
              have c23b0 : decide (a0 < (-8000)) = false := decide_eq_false c23
              clear c23
              by_cases c24 : a1 > 8000
              · rw [if_pos c24] at H
                have c24b0 : decide (8000 < a1) = true := decide_eq_true c24
                clear c24
                have H' := Aside0.mk H
                clear H
                go_wp2
                go_meet
                case rel => exact ⟨_, (true), (by first | rfl | (simp; done) | (simp [*]; done)), H', ⟨by have := HJ3.out; first | omega | exact Nat.le_refl _⟩, ⟨by repeat (first | (with_reducible first | exact HB.out | apply below_alloc | apply pw_below_drewN | apply below_drew1) | exact HB.out)⟩⟩
              · rw [if_neg c24] at H
                have c24b0 : decide (8000 < a1) = false := decide_eq_false c24
                clear c24
                have H' := Aside0.mk H
                clear H
                go_wp2
                go_meet
                case rel => exact ⟨_, (decide (a1 < (-8000))), (by first | rfl | (simp; done) | (simp [*]; done)), H', ⟨by have := HJ3.out; first | omega | exact Nat.le_refl _⟩, ⟨by repeat (first | (with_reducible first | exact HB.out | apply below_alloc | apply pw_below_drewN | apply below_drew1) | exact HB.out)⟩⟩
        case rest =>
          clear HC21
          try clear c1
          try clear c2
          try clear p2
          try clear c3
          try clear c6
          try clear c6b0
          try clear p6
          try clear c7
          try clear c7b0
          try clear c7b1
          try clear c8
          try clear c8b0
          try clear c9
          try clear c9b0
          try clear c9b1
          try clear c10
          try clear c10b0
          try clear c11
          try clear c11b0
          try clear c12
          try clear c12b0
          try clear c13
          try clear c13b0
          try clear c14
          try clear c14b0
          try clear c15
          try clear c15b0
          try clear c15b1
          try clear c16
          try clear c16b0
          try clear c17
          try clear c17b0
          try clear c18
          try clear c18b0
          try clear c19
          try clear c19b0
          try clear c20
          try clear c22
          try clear c22b0
          try clear c23
          try clear c23b0
          try clear c24
          try clear c24b0
          try clear p2
          try clear p6
          obtain ⟨kq, x50_20, rfl, HA, HJ20, HB⟩ := hcut
          cases kq with
          | zero => exact absurd HA.out (by simp [credenzalaw01_FixWhole.j1])
          | succ kj20 =>
            have H := HA.out
            clear HA
            simp only [credenzalaw01_FixWhole.j1] at H
            by_cases c25 : x50_20 = true
            · subst c25
              have H1 : ((credenzalaw01_awake.f kj20).bind fun t125 => (some t125)) = some r := by rw [if_pos rfl] at H; exact H
              clear H
              have H := H1
              clear H1
              replace H := Option.bind_eq_some_iff.mp H
              obtain ⟨t125, A260, H⟩ := H
              replace H : (some t125) = some r := H
              have A26 := Aside0.mk A260
              clear A260
              obtain rfl := Option.some.inj H
              go_wp2_with (first | ((with_reducible refine gate_callee (f := 18) rfl ?_); refine goesL_ (some 51) rfl rfl Try.func18 (by kernel_rfl) rfl #[] rfl (by (try simp only [List.map_toArray, List.map_cons, List.map_nil]); first | done | rfl | (simp only [List.length_drop, List.length_take]; rfl)) ?_; (with_reducible refine (credenzalaw01_awake.calls kj20  t125 _ A26.out).mono ?_); rintro e w27 ⟨rfl, hb⟩; refine ⟨_, rfl, ?_⟩; have n0_ := Aside0.mk (below_step (by repeat (first | (with_reducible first | exact HB.out | apply below_alloc | apply pw_below_drewN | apply below_drew1) | exact HB.out)) hb); clear HB; have HB := n0_; clear n0_; (try clear hb); (try clear hb2); (try clear hk); (try clear hi)))
              go_ret
              exact ⟨by first | rfl | (simp [errW_none, errW_some] <;> rfl) | (simp [*, errW_none, errW_some] <;> rfl), by repeat (first | (with_reducible first | exact HB.out | apply below_alloc | apply pw_below_drewN | apply below_drew1) | exact HB.out)⟩
            · replace c25 := Bool.eq_false_iff.mpr c25
              subst c25
              have H1 : ((fix_Of.f a0).bind fun t126 => ((fix_Of.f a1).bind fun t127 => ((fix_Add.f t126 t127).bind fun t128 => ((fix_Of.f (wrap64 (a0 + a1))).bind fun t129 => (if t128 = t129 then (if a0 > 100 then ((credenzalaw01_awake.f kj20).bind fun t130 => (some t130)) else (if a0 < (-100) then ((credenzalaw01_awake.f kj20).bind fun t131 => (some t131)) else (if a1 > 100 then ((credenzalaw01_awake.f kj20).bind fun t132 => (some t132)) else (if a1 < (-100) then ((credenzalaw01_awake.f kj20).bind fun t133 => (some t133)) else ((fix_Of.f a0).bind fun t134 => ((fix_Of.f a1).bind fun t135 => ((fix_Mul.f t134 t135).bind fun t136 => ((fix_Of.f (wrap64 (a0 * a1))).bind fun t137 => (if t136 = t137 then ((credenzalaw01_awake.f kj20).bind fun t138 => (some t138)) else (some false)))))))))) else (some false)))))) = some r := by rw [if_neg (show ¬ (false = true) by decide)] at H; exact H
              clear H
              have H := H1
              clear H1
              replace H := Option.bind_eq_some_iff.mp H
              obtain ⟨t126, A280, H⟩ := H
              replace H : ((fix_Of.f a1).bind fun t127 => ((fix_Add.f t126 t127).bind fun t128 => ((fix_Of.f (wrap64 (a0 + a1))).bind fun t129 => (if t128 = t129 then (if a0 > 100 then ((credenzalaw01_awake.f kj20).bind fun t130 => (some t130)) else (if a0 < (-100) then ((credenzalaw01_awake.f kj20).bind fun t131 => (some t131)) else (if a1 > 100 then ((credenzalaw01_awake.f kj20).bind fun t132 => (some t132)) else (if a1 < (-100) then ((credenzalaw01_awake.f kj20).bind fun t133 => (some t133)) else ((fix_Of.f a0).bind fun t134 => ((fix_Of.f a1).bind fun t135 => ((fix_Mul.f t134 t135).bind fun t136 => ((fix_Of.f (wrap64 (a0 * a1))).bind fun t137 => (if t136 = t137 then ((credenzalaw01_awake.f kj20).bind fun t138 => (some t138)) else (some false)))))))))) else (some false))))) = some r := H
              have A28 := Aside0.mk A280
              clear A280
              replace H := Option.bind_eq_some_iff.mp H
              obtain ⟨t127, A290, H⟩ := H
              replace H : ((fix_Add.f t126 t127).bind fun t128 => ((fix_Of.f (wrap64 (a0 + a1))).bind fun t129 => (if t128 = t129 then (if a0 > 100 then ((credenzalaw01_awake.f kj20).bind fun t130 => (some t130)) else (if a0 < (-100) then ((credenzalaw01_awake.f kj20).bind fun t131 => (some t131)) else (if a1 > 100 then ((credenzalaw01_awake.f kj20).bind fun t132 => (some t132)) else (if a1 < (-100) then ((credenzalaw01_awake.f kj20).bind fun t133 => (some t133)) else ((fix_Of.f a0).bind fun t134 => ((fix_Of.f a1).bind fun t135 => ((fix_Mul.f t134 t135).bind fun t136 => ((fix_Of.f (wrap64 (a0 * a1))).bind fun t137 => (if t136 = t137 then ((credenzalaw01_awake.f kj20).bind fun t138 => (some t138)) else (some false)))))))))) else (some false)))) = some r := H
              have A29 := Aside0.mk A290
              clear A290
              replace H := Option.bind_eq_some_iff.mp H
              obtain ⟨t128, A300, H⟩ := H
              replace H : ((fix_Of.f (wrap64 (a0 + a1))).bind fun t129 => (if t128 = t129 then (if a0 > 100 then ((credenzalaw01_awake.f kj20).bind fun t130 => (some t130)) else (if a0 < (-100) then ((credenzalaw01_awake.f kj20).bind fun t131 => (some t131)) else (if a1 > 100 then ((credenzalaw01_awake.f kj20).bind fun t132 => (some t132)) else (if a1 < (-100) then ((credenzalaw01_awake.f kj20).bind fun t133 => (some t133)) else ((fix_Of.f a0).bind fun t134 => ((fix_Of.f a1).bind fun t135 => ((fix_Mul.f t134 t135).bind fun t136 => ((fix_Of.f (wrap64 (a0 * a1))).bind fun t137 => (if t136 = t137 then ((credenzalaw01_awake.f kj20).bind fun t138 => (some t138)) else (some false)))))))))) else (some false))) = some r := H
              have A30 := Aside0.mk A300
              clear A300
              replace H := Option.bind_eq_some_iff.mp H
              obtain ⟨t129, A310, H⟩ := H
              replace H : (if t128 = t129 then (if a0 > 100 then ((credenzalaw01_awake.f kj20).bind fun t130 => (some t130)) else (if a0 < (-100) then ((credenzalaw01_awake.f kj20).bind fun t131 => (some t131)) else (if a1 > 100 then ((credenzalaw01_awake.f kj20).bind fun t132 => (some t132)) else (if a1 < (-100) then ((credenzalaw01_awake.f kj20).bind fun t133 => (some t133)) else ((fix_Of.f a0).bind fun t134 => ((fix_Of.f a1).bind fun t135 => ((fix_Mul.f t134 t135).bind fun t136 => ((fix_Of.f (wrap64 (a0 * a1))).bind fun t137 => (if t136 = t137 then ((credenzalaw01_awake.f kj20).bind fun t138 => (some t138)) else (some false)))))))))) else (some false)) = some r := H
              have A31 := Aside0.mk A310
              clear A310
              by_cases c32 : t128 = t129
              · rw [if_pos c32] at H
                have c32b0 : (t128 == t129) = true := beq_iff_eq.mpr c32
                have c32b1 : (t128 != t129) = false := bne_eq_false_iff_eq.mpr c32
                clear c32
                by_cases c33 : a0 > 100
                · rw [if_pos c33] at H
                  have c33b0 : decide (100 < a0) = true := decide_eq_true c33
                  clear c33
                  replace H := Option.bind_eq_some_iff.mp H
                  obtain ⟨t130, A340, H⟩ := H
                  replace H : (some t130) = some r := H
                  have A34 := Aside0.mk A340
                  clear A340
                  obtain rfl := Option.some.inj H
                  go_wp2_with (first | ((with_reducible refine gate_callee (f := 30) rfl ?_); refine goesL_ (some 53) rfl rfl Try.func30 (by kernel_rfl) rfl #[.int .i64 a0] rfl (by (try simp only [List.map_toArray, List.map_cons, List.map_nil]); first | done | rfl | (simp only [List.length_drop, List.length_take]; rfl)) ?_; (with_reducible refine (fix_Of.calls a0 t126 _ A28.out).mono ?_); rintro e w35 ⟨rfl, hb⟩; refine ⟨_, rfl, ?_⟩; have n0_ := Aside0.mk (below_step (by repeat (first | (with_reducible first | exact HB.out | apply below_alloc | apply pw_below_drewN | apply below_drew1) | exact HB.out)) hb); clear HB; have HB := n0_; clear n0_; (try clear hb); (try clear hb2); (try clear hk); (try clear hi)) | ((with_reducible refine gate_callee (f := 30) rfl ?_); refine goesL_ (some 55) rfl rfl Try.func30 (by kernel_rfl) rfl #[.int .i64 a1] rfl (by (try simp only [List.map_toArray, List.map_cons, List.map_nil]); first | done | rfl | (simp only [List.length_drop, List.length_take]; rfl)) ?_; (with_reducible refine (fix_Of.calls a1 t127 _ A29.out).mono ?_); rintro e w36 ⟨rfl, hb⟩; refine ⟨_, rfl, ?_⟩; have n0_ := Aside0.mk (below_step (by repeat (first | (with_reducible first | exact HB.out | apply below_alloc | apply pw_below_drewN | apply below_drew1) | exact HB.out)) hb); clear HB; have HB := n0_; clear n0_; (try clear hb); (try clear hb2); (try clear hk); (try clear hi)) | ((with_reducible refine gate_callee (f := 24) rfl ?_); refine goesL_ (some 56) rfl rfl Try.func24 (by kernel_rfl) rfl #[.int .i32 t126, .int .i32 t127] rfl (by (try simp only [List.map_toArray, List.map_cons, List.map_nil]); first | done | rfl | (simp only [List.length_drop, List.length_take]; rfl)) ?_; (with_reducible refine (fix_Add.calls t126 t127 t128 _ A30.out).mono ?_); rintro e w37 ⟨rfl, hb⟩; refine ⟨_, rfl, ?_⟩; have n0_ := Aside0.mk (below_step (by repeat (first | (with_reducible first | exact HB.out | apply below_alloc | apply pw_below_drewN | apply below_drew1) | exact HB.out)) hb); clear HB; have HB := n0_; clear n0_; (try clear hb); (try clear hb2); (try clear hk); (try clear hi)) | ((with_reducible refine gate_callee (f := 30) rfl ?_); refine goesL_ (some 60) rfl rfl Try.func30 (by kernel_rfl) rfl #[.int .i64 (wrap64 (a0 + a1))] rfl (by (try simp only [List.map_toArray, List.map_cons, List.map_nil]); first | done | rfl | (simp only [List.length_drop, List.length_take]; rfl)) ?_; (with_reducible refine (fix_Of.calls (wrap64 (a0 + a1)) t129 _ A31.out).mono ?_); rintro e w38 ⟨rfl, hb⟩; refine ⟨_, rfl, ?_⟩; have n0_ := Aside0.mk (below_step (by repeat (first | (with_reducible first | exact HB.out | apply below_alloc | apply pw_below_drewN | apply below_drew1) | exact HB.out)) hb); clear HB; have HB := n0_; clear n0_; (try clear hb); (try clear hb2); (try clear hk); (try clear hi)) | (go_at_call 18; (with_reducible refine (credenzalaw01_awake.calls kj20  t130 _ A34.out).mono ?_); rintro e w39 ⟨rfl, hb⟩; have n0_ := Aside0.mk (below_step (by repeat (first | (with_reducible first | exact HB.out | apply below_alloc | apply pw_below_drewN | apply below_drew1) | exact HB.out)) hb); clear HB; have HB := n0_; clear n0_; (try clear hb); (try clear hb2); (try clear hk); (try clear hi)))
                  go_ret
                  exact ⟨by first | rfl | (simp [errW_none, errW_some] <;> rfl) | (simp [*, errW_none, errW_some] <;> rfl), by repeat (first | (with_reducible first | exact HB.out | apply below_alloc | apply pw_below_drewN | apply below_drew1) | exact HB.out)⟩
                · rw [if_neg c33] at H
                  have c33b0 : decide (100 < a0) = false := decide_eq_false c33
                  clear c33
                  by_cases c40 : a0 < (-100)
                  · rw [if_pos c40] at H
                    have c40b0 : decide (a0 < (-100)) = true := decide_eq_true c40
                    clear c40
                    replace H := Option.bind_eq_some_iff.mp H
                    obtain ⟨t131, A410, H⟩ := H
                    replace H : (some t131) = some r := H
                    have A41 := Aside0.mk A410
                    clear A410
                    obtain rfl := Option.some.inj H
                    go_wp2_with (first | ((with_reducible refine gate_callee (f := 30) rfl ?_); refine goesL_ (some 53) rfl rfl Try.func30 (by kernel_rfl) rfl #[.int .i64 a0] rfl (by (try simp only [List.map_toArray, List.map_cons, List.map_nil]); first | done | rfl | (simp only [List.length_drop, List.length_take]; rfl)) ?_; (with_reducible refine (fix_Of.calls a0 t126 _ A28.out).mono ?_); rintro e w42 ⟨rfl, hb⟩; refine ⟨_, rfl, ?_⟩; have n0_ := Aside0.mk (below_step (by repeat (first | (with_reducible first | exact HB.out | apply below_alloc | apply pw_below_drewN | apply below_drew1) | exact HB.out)) hb); clear HB; have HB := n0_; clear n0_; (try clear hb); (try clear hb2); (try clear hk); (try clear hi)) | ((with_reducible refine gate_callee (f := 30) rfl ?_); refine goesL_ (some 55) rfl rfl Try.func30 (by kernel_rfl) rfl #[.int .i64 a1] rfl (by (try simp only [List.map_toArray, List.map_cons, List.map_nil]); first | done | rfl | (simp only [List.length_drop, List.length_take]; rfl)) ?_; (with_reducible refine (fix_Of.calls a1 t127 _ A29.out).mono ?_); rintro e w43 ⟨rfl, hb⟩; refine ⟨_, rfl, ?_⟩; have n0_ := Aside0.mk (below_step (by repeat (first | (with_reducible first | exact HB.out | apply below_alloc | apply pw_below_drewN | apply below_drew1) | exact HB.out)) hb); clear HB; have HB := n0_; clear n0_; (try clear hb); (try clear hb2); (try clear hk); (try clear hi)) | ((with_reducible refine gate_callee (f := 24) rfl ?_); refine goesL_ (some 56) rfl rfl Try.func24 (by kernel_rfl) rfl #[.int .i32 t126, .int .i32 t127] rfl (by (try simp only [List.map_toArray, List.map_cons, List.map_nil]); first | done | rfl | (simp only [List.length_drop, List.length_take]; rfl)) ?_; (with_reducible refine (fix_Add.calls t126 t127 t128 _ A30.out).mono ?_); rintro e w44 ⟨rfl, hb⟩; refine ⟨_, rfl, ?_⟩; have n0_ := Aside0.mk (below_step (by repeat (first | (with_reducible first | exact HB.out | apply below_alloc | apply pw_below_drewN | apply below_drew1) | exact HB.out)) hb); clear HB; have HB := n0_; clear n0_; (try clear hb); (try clear hb2); (try clear hk); (try clear hi)) | ((with_reducible refine gate_callee (f := 30) rfl ?_); refine goesL_ (some 60) rfl rfl Try.func30 (by kernel_rfl) rfl #[.int .i64 (wrap64 (a0 + a1))] rfl (by (try simp only [List.map_toArray, List.map_cons, List.map_nil]); first | done | rfl | (simp only [List.length_drop, List.length_take]; rfl)) ?_; (with_reducible refine (fix_Of.calls (wrap64 (a0 + a1)) t129 _ A31.out).mono ?_); rintro e w45 ⟨rfl, hb⟩; refine ⟨_, rfl, ?_⟩; have n0_ := Aside0.mk (below_step (by repeat (first | (with_reducible first | exact HB.out | apply below_alloc | apply pw_below_drewN | apply below_drew1) | exact HB.out)) hb); clear HB; have HB := n0_; clear n0_; (try clear hb); (try clear hb2); (try clear hk); (try clear hi)) | (go_at_call 18; (with_reducible refine (credenzalaw01_awake.calls kj20  t131 _ A41.out).mono ?_); rintro e w46 ⟨rfl, hb⟩; have n0_ := Aside0.mk (below_step (by repeat (first | (with_reducible first | exact HB.out | apply below_alloc | apply pw_below_drewN | apply below_drew1) | exact HB.out)) hb); clear HB; have HB := n0_; clear n0_; (try clear hb); (try clear hb2); (try clear hk); (try clear hi)))
                    go_ret
                    exact ⟨by first | rfl | (simp [errW_none, errW_some] <;> rfl) | (simp [*, errW_none, errW_some] <;> rfl), by repeat (first | (with_reducible first | exact HB.out | apply below_alloc | apply pw_below_drewN | apply below_drew1) | exact HB.out)⟩
                  · rw [if_neg c40] at H
                    have c40b0 : decide (a0 < (-100)) = false := decide_eq_false c40
                    clear c40
                    by_cases c47 : a1 > 100
                    · rw [if_pos c47] at H
                      have c47b0 : decide (100 < a1) = true := decide_eq_true c47
                      clear c47
                      replace H := Option.bind_eq_some_iff.mp H
                      obtain ⟨t132, A480, H⟩ := H
                      replace H : (some t132) = some r := H
                      have A48 := Aside0.mk A480
                      clear A480
                      obtain rfl := Option.some.inj H
                      go_wp2_with (first | ((with_reducible refine gate_callee (f := 30) rfl ?_); refine goesL_ (some 53) rfl rfl Try.func30 (by kernel_rfl) rfl #[.int .i64 a0] rfl (by (try simp only [List.map_toArray, List.map_cons, List.map_nil]); first | done | rfl | (simp only [List.length_drop, List.length_take]; rfl)) ?_; (with_reducible refine (fix_Of.calls a0 t126 _ A28.out).mono ?_); rintro e w49 ⟨rfl, hb⟩; refine ⟨_, rfl, ?_⟩; have n0_ := Aside0.mk (below_step (by repeat (first | (with_reducible first | exact HB.out | apply below_alloc | apply pw_below_drewN | apply below_drew1) | exact HB.out)) hb); clear HB; have HB := n0_; clear n0_; (try clear hb); (try clear hb2); (try clear hk); (try clear hi)) | ((with_reducible refine gate_callee (f := 30) rfl ?_); refine goesL_ (some 55) rfl rfl Try.func30 (by kernel_rfl) rfl #[.int .i64 a1] rfl (by (try simp only [List.map_toArray, List.map_cons, List.map_nil]); first | done | rfl | (simp only [List.length_drop, List.length_take]; rfl)) ?_; (with_reducible refine (fix_Of.calls a1 t127 _ A29.out).mono ?_); rintro e w50 ⟨rfl, hb⟩; refine ⟨_, rfl, ?_⟩; have n0_ := Aside0.mk (below_step (by repeat (first | (with_reducible first | exact HB.out | apply below_alloc | apply pw_below_drewN | apply below_drew1) | exact HB.out)) hb); clear HB; have HB := n0_; clear n0_; (try clear hb); (try clear hb2); (try clear hk); (try clear hi)) | ((with_reducible refine gate_callee (f := 24) rfl ?_); refine goesL_ (some 56) rfl rfl Try.func24 (by kernel_rfl) rfl #[.int .i32 t126, .int .i32 t127] rfl (by (try simp only [List.map_toArray, List.map_cons, List.map_nil]); first | done | rfl | (simp only [List.length_drop, List.length_take]; rfl)) ?_; (with_reducible refine (fix_Add.calls t126 t127 t128 _ A30.out).mono ?_); rintro e w51 ⟨rfl, hb⟩; refine ⟨_, rfl, ?_⟩; have n0_ := Aside0.mk (below_step (by repeat (first | (with_reducible first | exact HB.out | apply below_alloc | apply pw_below_drewN | apply below_drew1) | exact HB.out)) hb); clear HB; have HB := n0_; clear n0_; (try clear hb); (try clear hb2); (try clear hk); (try clear hi)) | ((with_reducible refine gate_callee (f := 30) rfl ?_); refine goesL_ (some 60) rfl rfl Try.func30 (by kernel_rfl) rfl #[.int .i64 (wrap64 (a0 + a1))] rfl (by (try simp only [List.map_toArray, List.map_cons, List.map_nil]); first | done | rfl | (simp only [List.length_drop, List.length_take]; rfl)) ?_; (with_reducible refine (fix_Of.calls (wrap64 (a0 + a1)) t129 _ A31.out).mono ?_); rintro e w52 ⟨rfl, hb⟩; refine ⟨_, rfl, ?_⟩; have n0_ := Aside0.mk (below_step (by repeat (first | (with_reducible first | exact HB.out | apply below_alloc | apply pw_below_drewN | apply below_drew1) | exact HB.out)) hb); clear HB; have HB := n0_; clear n0_; (try clear hb); (try clear hb2); (try clear hk); (try clear hi)) | (go_at_call 18; (with_reducible refine (credenzalaw01_awake.calls kj20  t132 _ A48.out).mono ?_); rintro e w53 ⟨rfl, hb⟩; have n0_ := Aside0.mk (below_step (by repeat (first | (with_reducible first | exact HB.out | apply below_alloc | apply pw_below_drewN | apply below_drew1) | exact HB.out)) hb); clear HB; have HB := n0_; clear n0_; (try clear hb); (try clear hb2); (try clear hk); (try clear hi)))
                      go_ret
                      exact ⟨by first | rfl | (simp [errW_none, errW_some] <;> rfl) | (simp [*, errW_none, errW_some] <;> rfl), by repeat (first | (with_reducible first | exact HB.out | apply below_alloc | apply pw_below_drewN | apply below_drew1) | exact HB.out)⟩
                    · rw [if_neg c47] at H
                      have c47b0 : decide (100 < a1) = false := decide_eq_false c47
                      clear c47
                      by_cases c54 : a1 < (-100)
                      · rw [if_pos c54] at H
                        have c54b0 : decide (a1 < (-100)) = true := decide_eq_true c54
                        clear c54
                        replace H := Option.bind_eq_some_iff.mp H
                        obtain ⟨t133, A550, H⟩ := H
                        replace H : (some t133) = some r := H
                        have A55 := Aside0.mk A550
                        clear A550
                        obtain rfl := Option.some.inj H
                        go_wp2_with (first | ((with_reducible refine gate_callee (f := 30) rfl ?_); refine goesL_ (some 53) rfl rfl Try.func30 (by kernel_rfl) rfl #[.int .i64 a0] rfl (by (try simp only [List.map_toArray, List.map_cons, List.map_nil]); first | done | rfl | (simp only [List.length_drop, List.length_take]; rfl)) ?_; (with_reducible refine (fix_Of.calls a0 t126 _ A28.out).mono ?_); rintro e w56 ⟨rfl, hb⟩; refine ⟨_, rfl, ?_⟩; have n0_ := Aside0.mk (below_step (by repeat (first | (with_reducible first | exact HB.out | apply below_alloc | apply pw_below_drewN | apply below_drew1) | exact HB.out)) hb); clear HB; have HB := n0_; clear n0_; (try clear hb); (try clear hb2); (try clear hk); (try clear hi)) | ((with_reducible refine gate_callee (f := 30) rfl ?_); refine goesL_ (some 55) rfl rfl Try.func30 (by kernel_rfl) rfl #[.int .i64 a1] rfl (by (try simp only [List.map_toArray, List.map_cons, List.map_nil]); first | done | rfl | (simp only [List.length_drop, List.length_take]; rfl)) ?_; (with_reducible refine (fix_Of.calls a1 t127 _ A29.out).mono ?_); rintro e w57 ⟨rfl, hb⟩; refine ⟨_, rfl, ?_⟩; have n0_ := Aside0.mk (below_step (by repeat (first | (with_reducible first | exact HB.out | apply below_alloc | apply pw_below_drewN | apply below_drew1) | exact HB.out)) hb); clear HB; have HB := n0_; clear n0_; (try clear hb); (try clear hb2); (try clear hk); (try clear hi)) | ((with_reducible refine gate_callee (f := 24) rfl ?_); refine goesL_ (some 56) rfl rfl Try.func24 (by kernel_rfl) rfl #[.int .i32 t126, .int .i32 t127] rfl (by (try simp only [List.map_toArray, List.map_cons, List.map_nil]); first | done | rfl | (simp only [List.length_drop, List.length_take]; rfl)) ?_; (with_reducible refine (fix_Add.calls t126 t127 t128 _ A30.out).mono ?_); rintro e w58 ⟨rfl, hb⟩; refine ⟨_, rfl, ?_⟩; have n0_ := Aside0.mk (below_step (by repeat (first | (with_reducible first | exact HB.out | apply below_alloc | apply pw_below_drewN | apply below_drew1) | exact HB.out)) hb); clear HB; have HB := n0_; clear n0_; (try clear hb); (try clear hb2); (try clear hk); (try clear hi)) | ((with_reducible refine gate_callee (f := 30) rfl ?_); refine goesL_ (some 60) rfl rfl Try.func30 (by kernel_rfl) rfl #[.int .i64 (wrap64 (a0 + a1))] rfl (by (try simp only [List.map_toArray, List.map_cons, List.map_nil]); first | done | rfl | (simp only [List.length_drop, List.length_take]; rfl)) ?_; (with_reducible refine (fix_Of.calls (wrap64 (a0 + a1)) t129 _ A31.out).mono ?_); rintro e w59 ⟨rfl, hb⟩; refine ⟨_, rfl, ?_⟩; have n0_ := Aside0.mk (below_step (by repeat (first | (with_reducible first | exact HB.out | apply below_alloc | apply pw_below_drewN | apply below_drew1) | exact HB.out)) hb); clear HB; have HB := n0_; clear n0_; (try clear hb); (try clear hb2); (try clear hk); (try clear hi)) | (go_at_call 18; (with_reducible refine (credenzalaw01_awake.calls kj20  t133 _ A55.out).mono ?_); rintro e w60 ⟨rfl, hb⟩; have n0_ := Aside0.mk (below_step (by repeat (first | (with_reducible first | exact HB.out | apply below_alloc | apply pw_below_drewN | apply below_drew1) | exact HB.out)) hb); clear HB; have HB := n0_; clear n0_; (try clear hb); (try clear hb2); (try clear hk); (try clear hi)))
                        go_ret
                        exact ⟨by first | rfl | (simp [errW_none, errW_some] <;> rfl) | (simp [*, errW_none, errW_some] <;> rfl), by repeat (first | (with_reducible first | exact HB.out | apply below_alloc | apply pw_below_drewN | apply below_drew1) | exact HB.out)⟩
                      · rw [if_neg c54] at H
                        have c54b0 : decide (a1 < (-100)) = false := decide_eq_false c54
                        clear c54
                        replace H := Option.bind_eq_some_iff.mp H
                        obtain ⟨t134, A610, H⟩ := H
                        replace H : ((fix_Of.f a1).bind fun t135 => ((fix_Mul.f t134 t135).bind fun t136 => ((fix_Of.f (wrap64 (a0 * a1))).bind fun t137 => (if t136 = t137 then ((credenzalaw01_awake.f kj20).bind fun t138 => (some t138)) else (some false))))) = some r := H
                        have A61 := Aside0.mk A610
                        clear A610
                        replace H := Option.bind_eq_some_iff.mp H
                        obtain ⟨t135, A620, H⟩ := H
                        replace H : ((fix_Mul.f t134 t135).bind fun t136 => ((fix_Of.f (wrap64 (a0 * a1))).bind fun t137 => (if t136 = t137 then ((credenzalaw01_awake.f kj20).bind fun t138 => (some t138)) else (some false)))) = some r := H
                        have A62 := Aside0.mk A620
                        clear A620
                        replace H := Option.bind_eq_some_iff.mp H
                        obtain ⟨t136, A630, H⟩ := H
                        replace H : ((fix_Of.f (wrap64 (a0 * a1))).bind fun t137 => (if t136 = t137 then ((credenzalaw01_awake.f kj20).bind fun t138 => (some t138)) else (some false))) = some r := H
                        have A63 := Aside0.mk A630
                        clear A630
                        replace H := Option.bind_eq_some_iff.mp H
                        obtain ⟨t137, A640, H⟩ := H
                        replace H : (if t136 = t137 then ((credenzalaw01_awake.f kj20).bind fun t138 => (some t138)) else (some false)) = some r := H
                        have A64 := Aside0.mk A640
                        clear A640
                        by_cases c65 : t136 = t137
                        · rw [if_pos c65] at H
                          have c65b0 : (t136 == t137) = true := beq_iff_eq.mpr c65
                          have c65b1 : (t136 != t137) = false := bne_eq_false_iff_eq.mpr c65
                          clear c65
                          replace H := Option.bind_eq_some_iff.mp H
                          obtain ⟨t138, A660, H⟩ := H
                          replace H : (some t138) = some r := H
                          have A66 := Aside0.mk A660
                          clear A660
                          obtain rfl := Option.some.inj H
                          go_wp2_with (first | ((with_reducible refine gate_callee (f := 30) rfl ?_); refine goesL_ (some 53) rfl rfl Try.func30 (by kernel_rfl) rfl #[.int .i64 a0] rfl (by (try simp only [List.map_toArray, List.map_cons, List.map_nil]); first | done | rfl | (simp only [List.length_drop, List.length_take]; rfl)) ?_; (with_reducible refine (fix_Of.calls a0 t126 _ A28.out).mono ?_); rintro e w67 ⟨rfl, hb⟩; refine ⟨_, rfl, ?_⟩; have n0_ := Aside0.mk (below_step (by repeat (first | (with_reducible first | exact HB.out | apply below_alloc | apply pw_below_drewN | apply below_drew1) | exact HB.out)) hb); clear HB; have HB := n0_; clear n0_; (try clear hb); (try clear hb2); (try clear hk); (try clear hi)) | ((with_reducible refine gate_callee (f := 30) rfl ?_); refine goesL_ (some 55) rfl rfl Try.func30 (by kernel_rfl) rfl #[.int .i64 a1] rfl (by (try simp only [List.map_toArray, List.map_cons, List.map_nil]); first | done | rfl | (simp only [List.length_drop, List.length_take]; rfl)) ?_; (with_reducible refine (fix_Of.calls a1 t127 _ A29.out).mono ?_); rintro e w68 ⟨rfl, hb⟩; refine ⟨_, rfl, ?_⟩; have n0_ := Aside0.mk (below_step (by repeat (first | (with_reducible first | exact HB.out | apply below_alloc | apply pw_below_drewN | apply below_drew1) | exact HB.out)) hb); clear HB; have HB := n0_; clear n0_; (try clear hb); (try clear hb2); (try clear hk); (try clear hi)) | ((with_reducible refine gate_callee (f := 24) rfl ?_); refine goesL_ (some 56) rfl rfl Try.func24 (by kernel_rfl) rfl #[.int .i32 t126, .int .i32 t127] rfl (by (try simp only [List.map_toArray, List.map_cons, List.map_nil]); first | done | rfl | (simp only [List.length_drop, List.length_take]; rfl)) ?_; (with_reducible refine (fix_Add.calls t126 t127 t128 _ A30.out).mono ?_); rintro e w69 ⟨rfl, hb⟩; refine ⟨_, rfl, ?_⟩; have n0_ := Aside0.mk (below_step (by repeat (first | (with_reducible first | exact HB.out | apply below_alloc | apply pw_below_drewN | apply below_drew1) | exact HB.out)) hb); clear HB; have HB := n0_; clear n0_; (try clear hb); (try clear hb2); (try clear hk); (try clear hi)) | ((with_reducible refine gate_callee (f := 30) rfl ?_); refine goesL_ (some 60) rfl rfl Try.func30 (by kernel_rfl) rfl #[.int .i64 (wrap64 (a0 + a1))] rfl (by (try simp only [List.map_toArray, List.map_cons, List.map_nil]); first | done | rfl | (simp only [List.length_drop, List.length_take]; rfl)) ?_; (with_reducible refine (fix_Of.calls (wrap64 (a0 + a1)) t129 _ A31.out).mono ?_); rintro e w70 ⟨rfl, hb⟩; refine ⟨_, rfl, ?_⟩; have n0_ := Aside0.mk (below_step (by repeat (first | (with_reducible first | exact HB.out | apply below_alloc | apply pw_below_drewN | apply below_drew1) | exact HB.out)) hb); clear HB; have HB := n0_; clear n0_; (try clear hb); (try clear hb2); (try clear hk); (try clear hi)) | (go_at_call 30; (with_reducible refine (fix_Of.calls a0 t134 _ A61.out).mono ?_); rintro e w71 ⟨rfl, hb⟩; have n0_ := Aside0.mk (below_step (by repeat (first | (with_reducible first | exact HB.out | apply below_alloc | apply pw_below_drewN | apply below_drew1) | exact HB.out)) hb); clear HB; have HB := n0_; clear n0_; (try clear hb); (try clear hb2); (try clear hk); (try clear hi)) | (go_at_call 30; (with_reducible refine (fix_Of.calls a1 t135 _ A62.out).mono ?_); rintro e w72 ⟨rfl, hb⟩; have n0_ := Aside0.mk (below_step (by repeat (first | (with_reducible first | exact HB.out | apply below_alloc | apply pw_below_drewN | apply below_drew1) | exact HB.out)) hb); clear HB; have HB := n0_; clear n0_; (try clear hb); (try clear hb2); (try clear hk); (try clear hi)) | (go_at_call 26; (with_reducible refine (fix_Mul.calls t134 t135 t136 _ A63.out).mono ?_); rintro e w73 ⟨rfl, hb⟩; have n0_ := Aside0.mk (below_step (by repeat (first | (with_reducible first | exact HB.out | apply below_alloc | apply pw_below_drewN | apply below_drew1) | exact HB.out)) hb); clear HB; have HB := n0_; clear n0_; (try clear hb); (try clear hb2); (try clear hk); (try clear hi)) | (go_at_call 30; (with_reducible refine (fix_Of.calls (wrap64 (a0 * a1)) t137 _ A64.out).mono ?_); rintro e w74 ⟨rfl, hb⟩; have n0_ := Aside0.mk (below_step (by repeat (first | (with_reducible first | exact HB.out | apply below_alloc | apply pw_below_drewN | apply below_drew1) | exact HB.out)) hb); clear HB; have HB := n0_; clear n0_; (try clear hb); (try clear hb2); (try clear hk); (try clear hi)) | (go_at_call 18; (with_reducible refine (credenzalaw01_awake.calls kj20  t138 _ A66.out).mono ?_); rintro e w75 ⟨rfl, hb⟩; have n0_ := Aside0.mk (below_step (by repeat (first | (with_reducible first | exact HB.out | apply below_alloc | apply pw_below_drewN | apply below_drew1) | exact HB.out)) hb); clear HB; have HB := n0_; clear n0_; (try clear hb); (try clear hb2); (try clear hk); (try clear hi)))
                          go_ret
                          exact ⟨by first | rfl | (simp [errW_none, errW_some] <;> rfl) | (simp [*, errW_none, errW_some] <;> rfl), by repeat (first | (with_reducible first | exact HB.out | apply below_alloc | apply pw_below_drewN | apply below_drew1) | exact HB.out)⟩
                        · rw [if_neg c65] at H
                          have c65b0 : (t136 == t137) = false := beq_eq_false_iff_ne.mpr c65
                          have c65b1 : (t136 != t137) = true := bne_iff_ne.mpr c65
                          obtain rfl := Option.some.inj H
                          go_wp2_with (first | ((with_reducible refine gate_callee (f := 30) rfl ?_); refine goesL_ (some 53) rfl rfl Try.func30 (by kernel_rfl) rfl #[.int .i64 a0] rfl (by (try simp only [List.map_toArray, List.map_cons, List.map_nil]); first | done | rfl | (simp only [List.length_drop, List.length_take]; rfl)) ?_; (with_reducible refine (fix_Of.calls a0 t126 _ A28.out).mono ?_); rintro e w76 ⟨rfl, hb⟩; refine ⟨_, rfl, ?_⟩; have n0_ := Aside0.mk (below_step (by repeat (first | (with_reducible first | exact HB.out | apply below_alloc | apply pw_below_drewN | apply below_drew1) | exact HB.out)) hb); clear HB; have HB := n0_; clear n0_; (try clear hb); (try clear hb2); (try clear hk); (try clear hi)) | ((with_reducible refine gate_callee (f := 30) rfl ?_); refine goesL_ (some 55) rfl rfl Try.func30 (by kernel_rfl) rfl #[.int .i64 a1] rfl (by (try simp only [List.map_toArray, List.map_cons, List.map_nil]); first | done | rfl | (simp only [List.length_drop, List.length_take]; rfl)) ?_; (with_reducible refine (fix_Of.calls a1 t127 _ A29.out).mono ?_); rintro e w77 ⟨rfl, hb⟩; refine ⟨_, rfl, ?_⟩; have n0_ := Aside0.mk (below_step (by repeat (first | (with_reducible first | exact HB.out | apply below_alloc | apply pw_below_drewN | apply below_drew1) | exact HB.out)) hb); clear HB; have HB := n0_; clear n0_; (try clear hb); (try clear hb2); (try clear hk); (try clear hi)) | ((with_reducible refine gate_callee (f := 24) rfl ?_); refine goesL_ (some 56) rfl rfl Try.func24 (by kernel_rfl) rfl #[.int .i32 t126, .int .i32 t127] rfl (by (try simp only [List.map_toArray, List.map_cons, List.map_nil]); first | done | rfl | (simp only [List.length_drop, List.length_take]; rfl)) ?_; (with_reducible refine (fix_Add.calls t126 t127 t128 _ A30.out).mono ?_); rintro e w78 ⟨rfl, hb⟩; refine ⟨_, rfl, ?_⟩; have n0_ := Aside0.mk (below_step (by repeat (first | (with_reducible first | exact HB.out | apply below_alloc | apply pw_below_drewN | apply below_drew1) | exact HB.out)) hb); clear HB; have HB := n0_; clear n0_; (try clear hb); (try clear hb2); (try clear hk); (try clear hi)) | ((with_reducible refine gate_callee (f := 30) rfl ?_); refine goesL_ (some 60) rfl rfl Try.func30 (by kernel_rfl) rfl #[.int .i64 (wrap64 (a0 + a1))] rfl (by (try simp only [List.map_toArray, List.map_cons, List.map_nil]); first | done | rfl | (simp only [List.length_drop, List.length_take]; rfl)) ?_; (with_reducible refine (fix_Of.calls (wrap64 (a0 + a1)) t129 _ A31.out).mono ?_); rintro e w79 ⟨rfl, hb⟩; refine ⟨_, rfl, ?_⟩; have n0_ := Aside0.mk (below_step (by repeat (first | (with_reducible first | exact HB.out | apply below_alloc | apply pw_below_drewN | apply below_drew1) | exact HB.out)) hb); clear HB; have HB := n0_; clear n0_; (try clear hb); (try clear hb2); (try clear hk); (try clear hi)) | (go_at_call 30; (with_reducible refine (fix_Of.calls a0 t134 _ A61.out).mono ?_); rintro e w80 ⟨rfl, hb⟩; have n0_ := Aside0.mk (below_step (by repeat (first | (with_reducible first | exact HB.out | apply below_alloc | apply pw_below_drewN | apply below_drew1) | exact HB.out)) hb); clear HB; have HB := n0_; clear n0_; (try clear hb); (try clear hb2); (try clear hk); (try clear hi)) | (go_at_call 30; (with_reducible refine (fix_Of.calls a1 t135 _ A62.out).mono ?_); rintro e w81 ⟨rfl, hb⟩; have n0_ := Aside0.mk (below_step (by repeat (first | (with_reducible first | exact HB.out | apply below_alloc | apply pw_below_drewN | apply below_drew1) | exact HB.out)) hb); clear HB; have HB := n0_; clear n0_; (try clear hb); (try clear hb2); (try clear hk); (try clear hi)) | (go_at_call 26; (with_reducible refine (fix_Mul.calls t134 t135 t136 _ A63.out).mono ?_); rintro e w82 ⟨rfl, hb⟩; have n0_ := Aside0.mk (below_step (by repeat (first | (with_reducible first | exact HB.out | apply below_alloc | apply pw_below_drewN | apply below_drew1) | exact HB.out)) hb); clear HB; have HB := n0_; clear n0_; (try clear hb); (try clear hb2); (try clear hk); (try clear hi)) | (go_at_call 30; (with_reducible refine (fix_Of.calls (wrap64 (a0 * a1)) t137 _ A64.out).mono ?_); rintro e w83 ⟨rfl, hb⟩; have n0_ := Aside0.mk (below_step (by repeat (first | (with_reducible first | exact HB.out | apply below_alloc | apply pw_below_drewN | apply below_drew1) | exact HB.out)) hb); clear HB; have HB := n0_; clear n0_; (try clear hb); (try clear hb2); (try clear hk); (try clear hi)))
                          go_ret
                          exact ⟨by first | rfl | (simp [errW_none, errW_some] <;> rfl) | (simp [*, errW_none, errW_some] <;> rfl), by repeat (first | (with_reducible first | exact HB.out | apply below_alloc | apply pw_below_drewN | apply below_drew1) | exact HB.out)⟩
              · rw [if_neg c32] at H
                have c32b0 : (t128 == t129) = false := beq_eq_false_iff_ne.mpr c32
                have c32b1 : (t128 != t129) = true := bne_iff_ne.mpr c32
                obtain rfl := Option.some.inj H
                go_wp2_with (first | ((with_reducible refine gate_callee (f := 30) rfl ?_); refine goesL_ (some 53) rfl rfl Try.func30 (by kernel_rfl) rfl #[.int .i64 a0] rfl (by (try simp only [List.map_toArray, List.map_cons, List.map_nil]); first | done | rfl | (simp only [List.length_drop, List.length_take]; rfl)) ?_; (with_reducible refine (fix_Of.calls a0 t126 _ A28.out).mono ?_); rintro e w84 ⟨rfl, hb⟩; refine ⟨_, rfl, ?_⟩; have n0_ := Aside0.mk (below_step (by repeat (first | (with_reducible first | exact HB.out | apply below_alloc | apply pw_below_drewN | apply below_drew1) | exact HB.out)) hb); clear HB; have HB := n0_; clear n0_; (try clear hb); (try clear hb2); (try clear hk); (try clear hi)) | ((with_reducible refine gate_callee (f := 30) rfl ?_); refine goesL_ (some 55) rfl rfl Try.func30 (by kernel_rfl) rfl #[.int .i64 a1] rfl (by (try simp only [List.map_toArray, List.map_cons, List.map_nil]); first | done | rfl | (simp only [List.length_drop, List.length_take]; rfl)) ?_; (with_reducible refine (fix_Of.calls a1 t127 _ A29.out).mono ?_); rintro e w85 ⟨rfl, hb⟩; refine ⟨_, rfl, ?_⟩; have n0_ := Aside0.mk (below_step (by repeat (first | (with_reducible first | exact HB.out | apply below_alloc | apply pw_below_drewN | apply below_drew1) | exact HB.out)) hb); clear HB; have HB := n0_; clear n0_; (try clear hb); (try clear hb2); (try clear hk); (try clear hi)) | ((with_reducible refine gate_callee (f := 24) rfl ?_); refine goesL_ (some 56) rfl rfl Try.func24 (by kernel_rfl) rfl #[.int .i32 t126, .int .i32 t127] rfl (by (try simp only [List.map_toArray, List.map_cons, List.map_nil]); first | done | rfl | (simp only [List.length_drop, List.length_take]; rfl)) ?_; (with_reducible refine (fix_Add.calls t126 t127 t128 _ A30.out).mono ?_); rintro e w86 ⟨rfl, hb⟩; refine ⟨_, rfl, ?_⟩; have n0_ := Aside0.mk (below_step (by repeat (first | (with_reducible first | exact HB.out | apply below_alloc | apply pw_below_drewN | apply below_drew1) | exact HB.out)) hb); clear HB; have HB := n0_; clear n0_; (try clear hb); (try clear hb2); (try clear hk); (try clear hi)) | ((with_reducible refine gate_callee (f := 30) rfl ?_); refine goesL_ (some 60) rfl rfl Try.func30 (by kernel_rfl) rfl #[.int .i64 (wrap64 (a0 + a1))] rfl (by (try simp only [List.map_toArray, List.map_cons, List.map_nil]); first | done | rfl | (simp only [List.length_drop, List.length_take]; rfl)) ?_; (with_reducible refine (fix_Of.calls (wrap64 (a0 + a1)) t129 _ A31.out).mono ?_); rintro e w87 ⟨rfl, hb⟩; refine ⟨_, rfl, ?_⟩; have n0_ := Aside0.mk (below_step (by repeat (first | (with_reducible first | exact HB.out | apply below_alloc | apply pw_below_drewN | apply below_drew1) | exact HB.out)) hb); clear HB; have HB := n0_; clear n0_; (try clear hb); (try clear hb2); (try clear hk); (try clear hi)))
                go_ret
                exact ⟨by first | rfl | (simp [errW_none, errW_some] <;> rfl) | (simp [*, errW_none, errW_some] <;> rfl), by repeat (first | (with_reducible first | exact HB.out | apply below_alloc | apply pw_below_drewN | apply below_drew1) | exact HB.out)⟩

/-- THE ONE PURE STATEMENT of credenzalaw01_FixWhole: yours. -/
def credenzalaw01_FixWhole.Pure : Prop := ∀ (a0 : Int) (a1 : Int), (Lit.int .i64 a0).wf = true → (Lit.int .i64 a1).wf = true → ∃ k, credenzalaw01_FixWhole.f k a0 a1 = some true
theorem credenzalaw01_FixWhole.walk (P : credenzalaw01_FixWhole.Pure) (a0 : Int) (a1 : Int) (w : World) (w0 : (Lit.int .i64 a0).wf = true) (w1 : (Lit.int .i64 a1).wf = true) :
    Calls Try.prog 9 #[.int .i64 a0, .int .i64 a1] w fun e w' => e = .returned (.bool true) ∧ Below w.heap.size w w' := by
  obtain ⟨k, h⟩ := P a0 a1 w0 w1
  refine (credenzalaw01_FixWhole.calls k a0 a1 true w h).mono ?_
  rintro e w' ⟨rfl, hd⟩
  exact ⟨rfl, hd⟩

end Go.Proofs.Ytmndomlpdajjmaa.PFixWhole
