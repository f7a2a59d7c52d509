-- PRINTED BY print.sh 35421559b90ae4d0a3588c463048766b98c2df88dd9212a6774a882060cdf62d: not written by this session
import Derived.Test.YtmndomlpdajjmaaPFixCutsx0
import Derived.Test.YtmndomlpdajjmaaPFixCutsx1
namespace Go.Proofs.Ytmndomlpdajjmaa.PFixCuts
open Go.RowKit Go.Proofs.YtmndomlpdajjmaaW.PrintWords Go.Proofs.YtmndomlpdajjmaaW.PrintLast Go.Proofs.YtmndomlpdajjmaaW.PrintMore
attribute [local go_sem] max2_int min2_int max_two min_two max_three min_three max_four min_four   -- for this text's walks alone
set_option linter.unusedVariables false
set_option linter.unusedSimpArgs false

/-! ### credenzalaw01_FixCuts: function 4 -/
def credenzalaw01_FixCuts.j0 : Nat → Int → Int → Int → Bool → Option (Bool)
  | 0, _, _, _, _ => none
  | k + 1, x0, x3, x4, x34 => if x34 = true then (some false) else ((credenzaref01_Wide.f x0).bind fun t128 => (if x3 = t128 then ((credenzaref01_Narrow.f x0).bind fun t129 => (if x4 = t129 then ((credenzalaw01_awake.f k).bind fun t130 => (some t130)) else (some false))) else (some false)))
def credenzalaw01_FixCuts.f (k : Nat) (a0 : Int) : Option (Bool) := (fix_Wide.f a0).bind fun t126 => ((fix_Narrow.f a0).bind fun t127 => (if a0 ≥ (-2147483648) then (if a0 ≤ 2147483647 then (if (wrap64 (t126)) = a0 then (if a0 ≥ (-8388608) then (if a0 ≤ 8388608 then (credenzalaw01_FixCuts.j0 k a0 t126 t127 ((wrap64 (t127)) != a0)) else (credenzalaw01_FixCuts.j0 k a0 t126 t127 false)) else (credenzalaw01_FixCuts.j0 k a0 t126 t127 false)) else (credenzalaw01_FixCuts.j0 k a0 t126 t127 true)) else (if a0 ≥ (-8388608) then (if a0 ≤ 8388608 then (credenzalaw01_FixCuts.j0 k a0 t126 t127 ((wrap64 (t127)) != a0)) else (credenzalaw01_FixCuts.j0 k a0 t126 t127 false)) else (credenzalaw01_FixCuts.j0 k a0 t126 t127 false))) else (if a0 ≥ (-8388608) then (if a0 ≤ 8388608 then (credenzalaw01_FixCuts.j0 k a0 t126 t127 ((wrap64 (t127)) != a0)) else (credenzalaw01_FixCuts.j0 k a0 t126 t127 false)) else (credenzalaw01_FixCuts.j0 k a0 t126 t127 false))))
theorem credenzalaw01_FixCuts.mono_l : ∀ k, (∀ y0 y1 y2 y3, LeO (credenzalaw01_FixCuts.j0 k y0 y1 y2 y3) (credenzalaw01_FixCuts.j0 (k + 1) y0 y1 y2 y3))
  | 0 => fun _ _ _ _ r h => by simp [credenzalaw01_FixCuts.j0] at h
  | k + 1 => by
    have ih0 := credenzalaw01_FixCuts.mono_l k
    · intro y0 y1 y2 y3
      unfold credenzalaw01_FixCuts.j0
      repeat' first
      | (with_reducible exact ih0 _ _ _ _)
      | (with_reducible exact credenzalaw01_awake.mono _)
      | (with_reducible exact LeO.refl _)
      | (with_reducible exact LeO.none _)
      | (with_reducible refine LeO.ite ?_ ?_)
      | (with_reducible refine LeO.bind ?_ (fun _ => ?_))
      | exact ih0 _ _ _ _
      | exact credenzalaw01_awake.mono _
      | exact LeO.none _
      | refine LeO.ite ?_ ?_
      | refine LeO.bind ?_ (fun _ => ?_)
theorem credenzalaw01_FixCuts.mono : ∀ a0 k, LeO (credenzalaw01_FixCuts.f k a0) (credenzalaw01_FixCuts.f (k + 1) a0) := by
  intro a0 k
  have ih0 := credenzalaw01_FixCuts.mono_l k
  unfold credenzalaw01_FixCuts.f
  repeat' first
      | (with_reducible exact ih0 _ _ _ _)
      | (with_reducible exact credenzalaw01_awake.mono _)
      | (with_reducible exact LeO.refl _)
      | (with_reducible exact LeO.none _)
      | (with_reducible refine LeO.ite ?_ ?_)
      | (with_reducible refine LeO.bind ?_ (fun _ => ?_))
      | exact ih0 _ _ _ _
      | exact credenzalaw01_awake.mono _
      | exact LeO.none _
      | refine LeO.ite ?_ ?_
      | refine LeO.bind ?_ (fun _ => ?_)
set_option maxHeartbeats 8000000 in
set_option maxRecDepth 100000 in
theorem credenzalaw01_FixCuts.calls (k : Nat) (a0 : Int) (r : Bool) (w : World) (h : credenzalaw01_FixCuts.f k a0 = some r) :
    Calls Try.prog 4 #[.int .i64 a0] w fun e w' => e = .returned (.bool r) ∧ Below w.heap.size w w' := by
  have HB := Aside0.mk (Below.refl w.heap.size w)
  have H : ((fix_Wide.f a0).bind fun t126 => ((fix_Narrow.f a0).bind fun t127 => (if a0 ≥ (-2147483648) then (if a0 ≤ 2147483647 then (if (wrap64 (t126)) = a0 then (if a0 ≥ (-8388608) then (if a0 ≤ 8388608 then (credenzalaw01_FixCuts.j0 k a0 t126 t127 ((wrap64 (t127)) != a0)) else (credenzalaw01_FixCuts.j0 k a0 t126 t127 false)) else (credenzalaw01_FixCuts.j0 k a0 t126 t127 false)) else (credenzalaw01_FixCuts.j0 k a0 t126 t127 true)) else (if a0 ≥ (-8388608) then (if a0 ≤ 8388608 then (credenzalaw01_FixCuts.j0 k a0 t126 t127 ((wrap64 (t127)) != a0)) else (credenzalaw01_FixCuts.j0 k a0 t126 t127 false)) else (credenzalaw01_FixCuts.j0 k a0 t126 t127 false))) else (if a0 ≥ (-8388608) then (if a0 ≤ 8388608 then (credenzalaw01_FixCuts.j0 k a0 t126 t127 ((wrap64 (t127)) != a0)) else (credenzalaw01_FixCuts.j0 k a0 t126 t127 false)) else (credenzalaw01_FixCuts.j0 k a0 t126 t127 false))))) = some r := h
  clear h
  replace H := Option.bind_eq_some_iff.mp H
  obtain ⟨t126, A20, H⟩ := H
  replace H : ((fix_Narrow.f a0).bind fun t127 => (if a0 ≥ (-2147483648) then (if a0 ≤ 2147483647 then (if (wrap64 (t126)) = a0 then (if a0 ≥ (-8388608) then (if a0 ≤ 8388608 then (credenzalaw01_FixCuts.j0 k a0 t126 t127 ((wrap64 (t127)) != a0)) else (credenzalaw01_FixCuts.j0 k a0 t126 t127 false)) else (credenzalaw01_FixCuts.j0 k a0 t126 t127 false)) else (credenzalaw01_FixCuts.j0 k a0 t126 t127 true)) else (if a0 ≥ (-8388608) then (if a0 ≤ 8388608 then (credenzalaw01_FixCuts.j0 k a0 t126 t127 ((wrap64 (t127)) != a0)) else (credenzalaw01_FixCuts.j0 k a0 t126 t127 false)) else (credenzalaw01_FixCuts.j0 k a0 t126 t127 false))) else (if a0 ≥ (-8388608) then (if a0 ≤ 8388608 then (credenzalaw01_FixCuts.j0 k a0 t126 t127 ((wrap64 (t127)) != a0)) else (credenzalaw01_FixCuts.j0 k a0 t126 t127 false)) else (credenzalaw01_FixCuts.j0 k a0 t126 t127 false)))) = some r := H
  have A2 := Aside0.mk A20
  clear A20
  replace H := Option.bind_eq_some_iff.mp H
  obtain ⟨t127, A30, H⟩ := H
  replace H : (if a0 ≥ (-2147483648) then (if a0 ≤ 2147483647 then (if (wrap64 (t126)) = a0 then (if a0 ≥ (-8388608) then (if a0 ≤ 8388608 then (credenzalaw01_FixCuts.j0 k a0 t126 t127 ((wrap64 (t127)) != a0)) else (credenzalaw01_FixCuts.j0 k a0 t126 t127 false)) else (credenzalaw01_FixCuts.j0 k a0 t126 t127 false)) else (credenzalaw01_FixCuts.j0 k a0 t126 t127 true)) else (if a0 ≥ (-8388608) then (if a0 ≤ 8388608 then (credenzalaw01_FixCuts.j0 k a0 t126 t127 ((wrap64 (t127)) != a0)) else (credenzalaw01_FixCuts.j0 k a0 t126 t127 false)) else (credenzalaw01_FixCuts.j0 k a0 t126 t127 false))) else (if a0 ≥ (-8388608) then (if a0 ≤ 8388608 then (credenzalaw01_FixCuts.j0 k a0 t126 t127 ((wrap64 (t127)) != a0)) else (credenzalaw01_FixCuts.j0 k a0 t126 t127 false)) else (credenzalaw01_FixCuts.j0 k a0 t126 t127 false))) = some r := H
  have A3 := Aside0.mk A30
  clear A30
  have HC4 := Aside0.mk H
  clear H
  go_enter Try.func4, Try.ntmps4
  go_upto_region 2 with (first | ((with_reducible refine gate_callee (f := 20) rfl ?_); refine goesL_ (some 6) rfl rfl Try.func20 (by kernel_rfl) rfl #[.int .i64 a0] rfl (by (try simp only [List.map_toArray, List.map_cons, List.map_nil]); first | done | rfl | (simp only [List.length_drop, List.length_take]; rfl)) ?_; (with_reducible refine (fix_Wide.calls a0 t126 _ A2.out).mono ?_); rintro e w5 ⟨rfl, hb⟩; refine ⟨_, rfl, ?_⟩; have n0_ := Aside0.mk (below_step (by repeat (first | (with_reducible first | exact HB.out | apply below_alloc | apply pw_below_drewN | apply below_drew1) | exact HB.out)) hb); clear HB; have HB := n0_; clear n0_; (try clear hb); (try clear hb2); (try clear hk); (try clear hi)) | ((with_reducible refine gate_callee (f := 21) rfl ?_); refine goesL_ (some 8) rfl rfl Try.func21 (by kernel_rfl) rfl #[.int .i64 a0] rfl (by (try simp only [List.map_toArray, List.map_cons, List.map_nil]); first | done | rfl | (simp only [List.length_drop, List.length_take]; rfl)) ?_; (with_reducible refine (fix_Narrow.calls a0 t127 _ A3.out).mono ?_); rintro e w6 ⟨rfl, hb⟩; refine ⟨_, rfl, ?_⟩; have n0_ := Aside0.mk (below_step (by repeat (first | (with_reducible first | exact HB.out | apply below_alloc | apply pw_below_drewN | apply below_drew1) | exact HB.out)) hb); clear HB; have HB := n0_; clear n0_; (try clear hb); (try clear hb2); (try clear hk); (try clear hi)))
  (try simp only [Act.put, List.setIfInBounds_toArray, List.set_cons_zero, List.set_cons_succ])
  go_cut [34] (fun v34 wc => ∃ (kq : Nat) (x34_3 : Bool), v34 = .bool x34_3 ∧ Aside0 (credenzalaw01_FixCuts.j0 kq a0 t126 t127 x34_3 = some r) ∧ Aside0 (kq ≤ k) ∧ Aside0 (Below w.heap.size w wc))
  case first =>
    have H := HC4.out
    clear HC4
    by_cases c7 : a0 ≥ (-2147483648)
    · rw [if_pos c7] at H
      have c7b0 : decide ((-2147483648) ≤ a0) = true := decide_eq_true c7
      clear c7
      (first | rw [c7b0] | (simp only [i64_w, i32_w]; rw [c7b0]) | skip)
      by_cases c8 : a0 ≤ 2147483647
      · rw [if_pos c8] at H
        have c8b0 : decide (a0 ≤ 2147483647) = true := decide_eq_true c8
        clear c8
        by_cases c9 : (wrap64 (t126)) = a0
        · rw [if_pos c9] at H
          have c9b0 : ((wrap64 (t126)) == a0) = true := beq_iff_eq.mpr c9
          have c9b1 : ((wrap64 (t126)) != a0) = false := bne_eq_false_iff_eq.mpr c9
          clear c9
          by_cases c10 : a0 ≥ (-8388608)
          · rw [if_pos c10] at H
            have c10b0 : decide ((-8388608) ≤ a0) = true := decide_eq_true c10
            clear c10
            by_cases c11 : a0 ≤ 8388608
            · rw [if_pos c11] at H
              have c11b0 : decide (a0 ≤ 8388608) = true := decide_eq_true c11
              clear c11
              have H' := Aside0.mk H
              clear H
              go_wp2
              go_meet
              case rel => exact ⟨_, (((wrap64 (t127)) != a0)), (by first | rfl | (simp; done) | (simp [*]; done)), H', ⟨by first | omega | exact Nat.le_refl _⟩, ⟨by repeat (first | (with_reducible first | exact HB.out | apply below_alloc | apply pw_below_drewN | apply below_drew1) | exact HB.out)⟩⟩
            · rw [if_neg c11] at H
              have c11b0 : decide (a0 ≤ 8388608) = false := decide_eq_false c11
              clear c11
              have H' := Aside0.mk H
              clear H
              go_wp2
              go_meet
              case rel => exact ⟨_, (false), (by first | rfl | (simp; done) | (simp [*]; done)), H', ⟨by first | omega | exact Nat.le_refl _⟩, ⟨by repeat (first | (with_reducible first | exact HB.out | apply below_alloc | apply pw_below_drewN | apply below_drew1) | exact HB.out)⟩⟩
          · rw [if_neg c10] at H
            have c10b0 : decide ((-8388608) ≤ a0) = false := decide_eq_false c10
            clear c10
            have H' := Aside0.mk H
            clear H
            go_wp2
            go_meet
            case rel => exact ⟨_, (false), (by first | rfl | (simp; done) | (simp [*]; done)), H', ⟨by first | omega | exact Nat.le_refl _⟩, ⟨by repeat (first | (with_reducible first | exact HB.out | apply below_alloc | apply pw_below_drewN | apply below_drew1) | exact HB.out)⟩⟩
        · rw [if_neg c9] at H
          have c9b0 : ((wrap64 (t126)) == a0) = false := beq_eq_false_iff_ne.mpr c9
          have c9b1 : ((wrap64 (t126)) != a0) = true := bne_iff_ne.mpr c9
          have H' := Aside0.mk H
          clear H
          go_wp2
          go_meet
          case rel => exact ⟨_, (true), (by first | rfl | (simp; done) | (simp [*]; done)), H', ⟨by first | omega | exact Nat.le_refl _⟩, ⟨by repeat (first | (with_reducible first | exact HB.out | apply below_alloc | apply pw_below_drewN | apply below_drew1) | exact HB.out)⟩⟩
      · rw [if_neg c8] at H
        have c8b0 : decide (a0 ≤ 2147483647) = false := decide_eq_false c8
        clear c8
        by_cases c12 : a0 ≥ (-8388608)
        · rw [if_pos c12] at H
          have c12b0 : decide ((-8388608) ≤ a0) = true := decide_eq_true c12
          clear c12
          by_cases c13 : a0 ≤ 8388608
          · rw [if_pos c13] at H
            have c13b0 : decide (a0 ≤ 8388608) = true := decide_eq_true c13
            clear c13
            have H' := Aside0.mk H
            clear H
            go_wp2
            go_meet
            case rel => exact ⟨_, (((wrap64 (t127)) != a0)), (by first | rfl | (simp; done) | (simp [*]; done)), H', ⟨by first | omega | exact Nat.le_refl _⟩, ⟨by repeat (first | (with_reducible first | exact HB.out | apply below_alloc | apply pw_below_drewN | apply below_drew1) | exact HB.out)⟩⟩
          · rw [if_neg c13] at H
            have c13b0 : decide (a0 ≤ 8388608) = false := decide_eq_false c13
            clear c13
            have H' := Aside0.mk H
            clear H
            go_wp2
            go_meet
            case rel => exact ⟨_, (false), (by first | rfl | (simp; done) | (simp [*]; done)), H', ⟨by first | omega | exact Nat.le_refl _⟩, ⟨by repeat (first | (with_reducible first | exact HB.out | apply below_alloc | apply pw_below_drewN | apply below_drew1) | exact HB.out)⟩⟩
        · rw [if_neg c12] at H
          have c12b0 : decide ((-8388608) ≤ a0) = false := decide_eq_false c12
          clear c12
          have H' := Aside0.mk H
          clear H
          go_wp2
          go_meet
          case rel => exact ⟨_, (false), (by first | rfl | (simp; done) | (simp [*]; done)), H', ⟨by first | omega | exact Nat.le_refl _⟩, ⟨by repeat (first | (with_reducible first | exact HB.out | apply below_alloc | apply pw_below_drewN | apply below_drew1) | exact HB.out)⟩⟩
    · rw [if_neg c7] at H
      have c7b0 : decide ((-2147483648) ≤ a0) = false := decide_eq_false c7
      clear c7
      (first | rw [c7b0] | (simp only [i64_w, i32_w]; rw [c7b0]) | skip)
      by_cases c14 : a0 ≥ (-8388608)
      · rw [if_pos c14] at H
        have c14b0 : decide ((-8388608) ≤ a0) = true := decide_eq_true c14
        clear c14
        by_cases c15 : a0 ≤ 8388608
        · rw [if_pos c15] at H
          have c15b0 : decide (a0 ≤ 8388608) = true := decide_eq_true c15
          clear c15
          have H' := Aside0.mk H
          clear H
          go_wp2
          go_meet
          case rel => exact ⟨_, (((wrap64 (t127)) != a0)), (by first | rfl | (simp; done) | (simp [*]; done)), H', ⟨by first | omega | exact Nat.le_refl _⟩, ⟨by repeat (first | (with_reducible first | exact HB.out | apply below_alloc | apply pw_below_drewN | apply below_drew1) | exact HB.out)⟩⟩
        · rw [if_neg c15] at H
          have c15b0 : decide (a0 ≤ 8388608) = false := decide_eq_false c15
          clear c15
          have H' := Aside0.mk H
          clear H
          go_wp2
          go_meet
          case rel => exact ⟨_, (false), (by first | rfl | (simp; done) | (simp [*]; done)), H', ⟨by first | omega | exact Nat.le_refl _⟩, ⟨by repeat (first | (with_reducible first | exact HB.out | apply below_alloc | apply pw_below_drewN | apply below_drew1) | exact HB.out)⟩⟩
      · rw [if_neg c14] at H
        have c14b0 : decide ((-8388608) ≤ a0) = false := decide_eq_false c14
        clear c14
        have H' := Aside0.mk H
        clear H
        go_wp2
        go_meet
        case rel => exact ⟨_, (false), (by first | rfl | (simp; done) | (simp [*]; done)), H', ⟨by first | omega | exact Nat.le_refl _⟩, ⟨by repeat (first | (with_reducible first | exact HB.out | apply below_alloc | apply pw_below_drewN | apply below_drew1) | exact HB.out)⟩⟩
  case rest =>
    clear HC4
    try clear c1
    try clear c2
    try clear p2
    try clear c4
    try clear p6
    try clear c7
    try clear c7b0
    try clear c8
    try clear c8b0
    try clear c9
    try clear c9b0
    try clear c9b1
    try clear c10
    try clear c10b0
    try clear c11
    try clear c11b0
    try clear c12
    try clear c12b0
    try clear c13
    try clear c13b0
    try clear c14
    try clear c14b0
    try clear c15
    try clear c15b0
    obtain ⟨kq, x34_3, rfl, HA, HJ3, HB⟩ := hcut
    cases kq with
    | zero => exact absurd HA.out (by simp [credenzalaw01_FixCuts.j0])
    | succ kj3 =>
      have H := HA.out
      clear HA
      simp only [credenzalaw01_FixCuts.j0] at H
      by_cases c16 : x34_3 = true
      · subst c16
        have H1 : (some false) = some r := by rw [if_pos rfl] at H; exact H
        clear H
        have H := H1
        clear H1
        obtain rfl := Option.some.inj H
        go_wp2
        go_ret
        exact ⟨by first | rfl | (simp [errW_none, errW_some] <;> rfl) | (simp [*, errW_none, errW_some] <;> rfl), by repeat (first | (with_reducible first | exact HB.out | apply below_alloc | apply pw_below_drewN | apply below_drew1) | exact HB.out)⟩
      · replace c16 := Bool.eq_false_iff.mpr c16
        subst c16
        have H1 : ((credenzaref01_Wide.f a0).bind fun t128 => (if t126 = t128 then ((credenzaref01_Narrow.f a0).bind fun t129 => (if t127 = t129 then ((credenzalaw01_awake.f kj3).bind fun t130 => (some t130)) else (some false))) else (some false))) = some r := by rw [if_neg (show ¬ (false = true) by decide)] at H; exact H
        clear H
        have H := H1
        clear H1
        replace H := Option.bind_eq_some_iff.mp H
        obtain ⟨t128, A170, H⟩ := H
        replace H : (if t126 = t128 then ((credenzaref01_Narrow.f a0).bind fun t129 => (if t127 = t129 then ((credenzalaw01_awake.f kj3).bind fun t130 => (some t130)) else (some false))) else (some false)) = some r := H
        have A17 := Aside0.mk A170
        clear A170
        by_cases c18 : t126 = t128
        · rw [if_pos c18] at H
          have c18b0 : (t126 == t128) = true := beq_iff_eq.mpr c18
          have c18b1 : (t126 != t128) = false := bne_eq_false_iff_eq.mpr c18
          clear c18
          replace H := Option.bind_eq_some_iff.mp H
          obtain ⟨t129, A190, H⟩ := H
          replace H : (if t127 = t129 then ((credenzalaw01_awake.f kj3).bind fun t130 => (some t130)) else (some false)) = some r := H
          have A19 := Aside0.mk A190
          clear A190
          by_cases c20 : t127 = t129
          · rw [if_pos c20] at H
            have c20b0 : (t127 == t129) = true := beq_iff_eq.mpr c20
            have c20b1 : (t127 != t129) = false := bne_eq_false_iff_eq.mpr c20
            clear c20
            replace H := Option.bind_eq_some_iff.mp H
            obtain ⟨t130, A210, H⟩ := H
            replace H : (some t130) = some r := H
            have A21 := Aside0.mk A210
            clear A210
            obtain rfl := Option.some.inj H
            go_wp2_with (first | ((with_reducible refine gate_callee (f := 22) rfl ?_); refine goesL_ (some 37) rfl rfl Try.func22 (by kernel_rfl) rfl #[.int .i64 a0] rfl (by (try simp only [List.map_toArray, List.map_cons, List.map_nil]); first | done | rfl | (simp only [List.length_drop, List.length_take]; rfl)) ?_; (with_reducible refine (credenzaref01_Wide.calls a0 t128 _ A17.out).mono ?_); rintro e w' ⟨rfl, ⟨nd, rfl⟩⟩; refine ⟨_, rfl, ?_⟩) | (go_at_call 23; (with_reducible refine (credenzaref01_Narrow.calls a0 t129 _ A19.out).mono ?_); rintro e w' ⟨rfl, ⟨nd, rfl⟩⟩) | (go_at_call 18; (with_reducible refine (credenzalaw01_awake.calls kj3  t130 _ A21.out).mono ?_); rintro e w22 ⟨rfl, hb⟩; have n0_ := Aside0.mk (below_step (by repeat (first | (with_reducible first | exact HB.out | apply below_alloc | apply pw_below_drewN | apply below_drew1) | exact HB.out)) hb); clear HB; have HB := n0_; clear n0_; (try clear hb); (try clear hb2); (try clear hk); (try clear hi)))
            go_ret
            exact ⟨by first | rfl | (simp [errW_none, errW_some] <;> rfl) | (simp [*, errW_none, errW_some] <;> rfl), by repeat (first | (with_reducible first | exact HB.out | apply below_alloc | apply pw_below_drewN | apply below_drew1) | exact HB.out)⟩
          · rw [if_neg c20] at H
            have c20b0 : (t127 == t129) = false := beq_eq_false_iff_ne.mpr c20
            have c20b1 : (t127 != t129) = true := bne_iff_ne.mpr c20
            obtain rfl := Option.some.inj H
            go_wp2_with (first | ((with_reducible refine gate_callee (f := 22) rfl ?_); refine goesL_ (some 37) rfl rfl Try.func22 (by kernel_rfl) rfl #[.int .i64 a0] rfl (by (try simp only [List.map_toArray, List.map_cons, List.map_nil]); first | done | rfl | (simp only [List.length_drop, List.length_take]; rfl)) ?_; (with_reducible refine (credenzaref01_Wide.calls a0 t128 _ A17.out).mono ?_); rintro e w' ⟨rfl, ⟨nd, rfl⟩⟩; refine ⟨_, rfl, ?_⟩) | (go_at_call 23; (with_reducible refine (credenzaref01_Narrow.calls a0 t129 _ A19.out).mono ?_); rintro e w' ⟨rfl, ⟨nd, rfl⟩⟩))
            go_ret
            exact ⟨by first | rfl | (simp [errW_none, errW_some] <;> rfl) | (simp [*, errW_none, errW_some] <;> rfl), by repeat (first | (with_reducible first | exact HB.out | apply below_alloc | apply pw_below_drewN | apply below_drew1) | exact HB.out)⟩
        · rw [if_neg c18] at H
          have c18b0 : (t126 == t128) = false := beq_eq_false_iff_ne.mpr c18
          have c18b1 : (t126 != t128) = true := bne_iff_ne.mpr c18
          obtain rfl := Option.some.inj H
          go_wp2_with (first | ((with_reducible refine gate_callee (f := 22) rfl ?_); refine goesL_ (some 37) rfl rfl Try.func22 (by kernel_rfl) rfl #[.int .i64 a0] rfl (by (try simp only [List.map_toArray, List.map_cons, List.map_nil]); first | done | rfl | (simp only [List.length_drop, List.length_take]; rfl)) ?_; (with_reducible refine (credenzaref01_Wide.calls a0 t128 _ A17.out).mono ?_); rintro e w' ⟨rfl, ⟨nd, rfl⟩⟩; refine ⟨_, rfl, ?_⟩))
          go_ret
          exact ⟨by first | rfl | (simp [errW_none, errW_some] <;> rfl) | (simp [*, errW_none, errW_some] <;> rfl), by repeat (first | (with_reducible first | exact HB.out | apply below_alloc | apply pw_below_drewN | apply below_drew1) | exact HB.out)⟩

/-- THE ONE PURE STATEMENT of credenzalaw01_FixCuts: yours. -/
def credenzalaw01_FixCuts.Pure : Prop := ∀ (a0 : Int), (Lit.int .i64 a0).wf = true → ∃ k, credenzalaw01_FixCuts.f k a0 = some true
theorem credenzalaw01_FixCuts.walk (P : credenzalaw01_FixCuts.Pure) (a0 : Int) (w : World) (w0 : (Lit.int .i64 a0).wf = true) :
    Calls Try.prog 4 #[.int .i64 a0] w fun e w' => e = .returned (.bool true) ∧ Below w.heap.size w w' := by
  obtain ⟨k, h⟩ := P a0 w0
  refine (credenzalaw01_FixCuts.calls k a0 true w h).mono ?_
  rintro e w' ⟨rfl, hd⟩
  exact ⟨rfl, hd⟩

end Go.Proofs.Ytmndomlpdajjmaa.PFixCuts
