-- PRINTED BY print.sh 35421559b90ae4d0a3588c463048766b98c2df88dd9212a6774a882060cdf62d: not written by this session
import Derived.Test.YtmndomlpdajjmaaPFixNearx0
import Derived.Test.YtmndomlpdajjmaaPFixNearx1
namespace Go.Proofs.Ytmndomlpdajjmaa.PFixNear
open Go.RowKit Go.Proofs.YtmndomlpdajjmaaW.PrintWords Go.Proofs.YtmndomlpdajjmaaW.PrintLast Go.Proofs.YtmndomlpdajjmaaW.PrintMore
attribute [local go_sem] max2_int min2_int max_two min_two max_three min_three max_four min_four   -- for this text's walks alone
set_option linter.unusedVariables false
set_option linter.unusedSimpArgs false

/-! ### credenzalaw01_FixNear: function 7 -/
def credenzalaw01_FixNear.j0 : Nat → Int → Int → Bool → Option (Bool)
  | 0, _, _, _ => none
  | k + 1, x0, x1, x20 => if x20 = true then ((credenzalaw01_awake.f k).bind fun t124 => (some t124)) else ((fix_Ratio.f x0 x1).bind fun t125 => (if (wrap64 (2 * (wrap64 (x0 - (wrap64 (t125 * x1)))))) ≤ x1 then (if (wrap64 (2 * (wrap64 (x0 - (wrap64 (t125 * x1)))))) ≥ (wrap64 (-x1)) then ((credenzalaw01_awake.f k).bind fun t126 => (some t126)) else (some false)) else (some false)))
def credenzalaw01_FixNear.f (k : Nat) (a0 : Int) (a1 : Int) : Option (Bool) := if a1 ≤ 0 then (credenzalaw01_FixNear.j0 k a0 a1 true) else (if a1 > 2305843009213693952 then (credenzalaw01_FixNear.j0 k a0 a1 true) else (if a0 < (-2305843009213693952) then (credenzalaw01_FixNear.j0 k a0 a1 true) else (credenzalaw01_FixNear.j0 k a0 a1 (decide (a0 > 2305843009213693952)))))
theorem credenzalaw01_FixNear.mono_l : ∀ k, (∀ y0 y1 y2, LeO (credenzalaw01_FixNear.j0 k y0 y1 y2) (credenzalaw01_FixNear.j0 (k + 1) y0 y1 y2))
  | 0 => fun _ _ _ r h => by simp [credenzalaw01_FixNear.j0] at h
  | k + 1 => by
    have ih0 := credenzalaw01_FixNear.mono_l k
    · intro y0 y1 y2
      unfold credenzalaw01_FixNear.j0
      repeat' first
      | (with_reducible exact ih0 _ _ _)
      | (with_reducible exact credenzalaw01_awake.mono _)
      | (with_reducible exact LeO.refl _)
      | (with_reducible exact LeO.none _)
      | (with_reducible refine LeO.ite ?_ ?_)
      | (with_reducible refine LeO.bind ?_ (fun _ => ?_))
      | exact ih0 _ _ _
      | exact credenzalaw01_awake.mono _
      | exact LeO.none _
      | refine LeO.ite ?_ ?_
      | refine LeO.bind ?_ (fun _ => ?_)
theorem credenzalaw01_FixNear.mono : ∀ a0 a1 k, LeO (credenzalaw01_FixNear.f k a0 a1) (credenzalaw01_FixNear.f (k + 1) a0 a1) := by
  intro a0 a1 k
  have ih0 := credenzalaw01_FixNear.mono_l k
  unfold credenzalaw01_FixNear.f
  repeat' first
      | (with_reducible exact ih0 _ _ _)
      | (with_reducible exact credenzalaw01_awake.mono _)
      | (with_reducible exact LeO.refl _)
      | (with_reducible exact LeO.none _)
      | (with_reducible refine LeO.ite ?_ ?_)
      | (with_reducible refine LeO.bind ?_ (fun _ => ?_))
      | exact ih0 _ _ _
      | exact credenzalaw01_awake.mono _
      | exact LeO.none _
      | refine LeO.ite ?_ ?_
      | refine LeO.bind ?_ (fun _ => ?_)
set_option maxHeartbeats 8000000 in
set_option maxRecDepth 100000 in
theorem credenzalaw01_FixNear.calls (k : Nat) (a0 : Int) (a1 : Int) (r : Bool) (w : World) (h : credenzalaw01_FixNear.f k a0 a1 = some r) :
    Calls Try.prog 7 #[.int .i64 a0, .int .i64 a1] w fun e w' => e = .returned (.bool r) ∧ Below w.heap.size w w' := by
  have HB := Aside0.mk (Below.refl w.heap.size w)
  have H : (if a1 ≤ 0 then (credenzalaw01_FixNear.j0 k a0 a1 true) else (if a1 > 2305843009213693952 then (credenzalaw01_FixNear.j0 k a0 a1 true) else (if a0 < (-2305843009213693952) then (credenzalaw01_FixNear.j0 k a0 a1 true) else (credenzalaw01_FixNear.j0 k a0 a1 (decide (a0 > 2305843009213693952)))))) = some r := h
  clear h
  have HC3 := Aside0.mk H
  clear H
  go_enter Try.func7, Try.ntmps7
  go_upto_region 1 with (fail)
  go_cut [20] (fun v20 wc => ∃ (kq : Nat) (x20_2 : Bool), v20 = .bool x20_2 ∧ Aside0 (credenzalaw01_FixNear.j0 kq a0 a1 x20_2 = some r) ∧ Aside0 (kq ≤ k) ∧ Aside0 (Below w.heap.size w wc))
  case first =>
    have H := HC3.out
    clear HC3
    by_cases c4 : a1 ≤ 0
    · rw [if_pos c4] at H
      have c4b0 : decide (a1 ≤ 0) = true := decide_eq_true c4
      clear c4
      (first | rw [c4b0] | (simp only [i64_w, i32_w]; rw [c4b0]) | skip)
      have H' := Aside0.mk H
      clear H
      go_wp2
      go_meet
      case rel => exact ⟨_, (true), (by first | rfl | (simp; done) | (simp [*]; done)), H', ⟨by first | omega | exact Nat.le_refl _⟩, ⟨by repeat (first | (with_reducible first | exact HB.out | apply below_alloc | apply pw_below_drewN | apply below_drew1) | exact HB.out)⟩⟩
    · rw [if_neg c4] at H
      have c4b0 : decide (a1 ≤ 0) = false := decide_eq_false c4
      clear c4
      (first | rw [c4b0] | (simp only [i64_w, i32_w]; rw [c4b0]) | skip)
      by_cases c5 : a1 > 2305843009213693952
      · rw [if_pos c5] at H
        have c5b0 : decide (2305843009213693952 < a1) = true := decide_eq_true c5
        clear c5
        have H' := Aside0.mk H
        clear H
        go_wp2
        go_meet
        case rel => exact ⟨_, (true), (by first | rfl | (simp; done) | (simp [*]; done)), H', ⟨by first | omega | exact Nat.le_refl _⟩, ⟨by repeat (first | (with_reducible first | exact HB.out | apply below_alloc | apply pw_below_drewN | apply below_drew1) | exact HB.out)⟩⟩
      · rw [if_neg c5] at H
        have c5b0 : decide (2305843009213693952 < a1) = false := decide_eq_false c5
        clear c5
        by_cases c6 : a0 < (-2305843009213693952)
        · rw [if_pos c6] at H
          have c6b0 : decide (a0 < (-2305843009213693952)) = true := decide_eq_true c6
          clear c6
          have H' := Aside0.mk H
          clear H
          go_wp2
          go_meet
          case rel => exact ⟨_, (true), (by first | rfl | (simp; done) | (simp [*]; done)), H', ⟨by first | omega | exact Nat.le_refl _⟩, ⟨by repeat (first | (with_reducible first | exact HB.out | apply below_alloc | apply pw_below_drewN | apply below_drew1) | exact HB.out)⟩⟩
        · rw [if_neg c6] at H
          have c6b0 : decide (a0 < (-2305843009213693952)) = false := decide_eq_false c6
          clear c6
          have H' := Aside0.mk H
          clear H
          go_wp2
          go_meet
          case rel => exact ⟨_, (decide (a0 > 2305843009213693952)), (by first | rfl | (simp; done) | (simp [*]; done)), H', ⟨by first | omega | exact Nat.le_refl _⟩, ⟨by repeat (first | (with_reducible first | exact HB.out | apply below_alloc | apply pw_below_drewN | apply below_drew1) | exact HB.out)⟩⟩
  case rest =>
    clear HC3
    try clear p2
    try clear c4
    try clear c4b0
    try clear c5
    try clear c5b0
    try clear c6
    try clear c6b0
    obtain ⟨kq, x20_2, rfl, HA, HJ2, HB⟩ := hcut
    cases kq with
    | zero => exact absurd HA.out (by simp [credenzalaw01_FixNear.j0])
    | succ kj2 =>
      have H := HA.out
      clear HA
      simp only [credenzalaw01_FixNear.j0] at H
      by_cases c7 : x20_2 = true
      · subst c7
        have H1 : ((credenzalaw01_awake.f kj2).bind fun t124 => (some t124)) = some r := by rw [if_pos rfl] at H; exact H
        clear H
        have H := H1
        clear H1
        replace H := Option.bind_eq_some_iff.mp H
        obtain ⟨t124, A80, H⟩ := H
        replace H : (some t124) = some r := H
        have A8 := Aside0.mk A80
        clear A80
        obtain rfl := Option.some.inj H
        go_wp2_with (first | ((with_reducible refine gate_callee (f := 18) rfl ?_); refine goesL_ (some 21) rfl rfl Try.func18 (by kernel_rfl) rfl #[] rfl (by (try simp only [List.map_toArray, List.map_cons, List.map_nil]); first | done | rfl | (simp only [List.length_drop, List.length_take]; rfl)) ?_; (with_reducible refine (credenzalaw01_awake.calls kj2  t124 _ A8.out).mono ?_); rintro e w9 ⟨rfl, hb⟩; refine ⟨_, rfl, ?_⟩; have n0_ := Aside0.mk (below_step (by repeat (first | (with_reducible first | exact HB.out | apply below_alloc | apply pw_below_drewN | apply below_drew1) | exact HB.out)) hb); clear HB; have HB := n0_; clear n0_; (try clear hb); (try clear hb2); (try clear hk); (try clear hi)))
        go_ret
        exact ⟨by first | rfl | (simp [errW_none, errW_some] <;> rfl) | (simp [*, errW_none, errW_some] <;> rfl), by repeat (first | (with_reducible first | exact HB.out | apply below_alloc | apply pw_below_drewN | apply below_drew1) | exact HB.out)⟩
      · replace c7 := Bool.eq_false_iff.mpr c7
        subst c7
        have H1 : ((fix_Ratio.f a0 a1).bind fun t125 => (if (wrap64 (2 * (wrap64 (a0 - (wrap64 (t125 * a1)))))) ≤ a1 then (if (wrap64 (2 * (wrap64 (a0 - (wrap64 (t125 * a1)))))) ≥ (wrap64 (-a1)) then ((credenzalaw01_awake.f kj2).bind fun t126 => (some t126)) else (some false)) else (some false))) = some r := by rw [if_neg (show ¬ (false = true) by decide)] at H; exact H
        clear H
        have H := H1
        clear H1
        replace H := Option.bind_eq_some_iff.mp H
        obtain ⟨t125, A100, H⟩ := H
        replace H : (if (wrap64 (2 * (wrap64 (a0 - (wrap64 (t125 * a1)))))) ≤ a1 then (if (wrap64 (2 * (wrap64 (a0 - (wrap64 (t125 * a1)))))) ≥ (wrap64 (-a1)) then ((credenzalaw01_awake.f kj2).bind fun t126 => (some t126)) else (some false)) else (some false)) = some r := H
        have A10 := Aside0.mk A100
        clear A100
        by_cases c11 : (wrap64 (2 * (wrap64 (a0 - (wrap64 (t125 * a1)))))) ≤ a1
        · rw [if_pos c11] at H
          have c11b0 : decide ((wrap64 (2 * (wrap64 (a0 - (wrap64 (t125 * a1)))))) ≤ a1) = true := decide_eq_true c11
          clear c11
          by_cases c12 : (wrap64 (2 * (wrap64 (a0 - (wrap64 (t125 * a1)))))) ≥ (wrap64 (-a1))
          · rw [if_pos c12] at H
            have c12b0 : decide ((wrap64 (-a1)) ≤ (wrap64 (2 * (wrap64 (a0 - (wrap64 (t125 * a1))))))) = true := decide_eq_true c12
            clear c12
            replace H := Option.bind_eq_some_iff.mp H
            obtain ⟨t126, A130, H⟩ := H
            replace H : (some t126) = some r := H
            have A13 := Aside0.mk A130
            clear A130
            obtain rfl := Option.some.inj H
            go_wp2_with (first | ((with_reducible refine gate_callee (f := 17) rfl ?_); refine goesL_ (some 24) rfl rfl Try.func17 (by kernel_rfl) rfl #[.int .i64 a0, .int .i64 a1] rfl (by (try simp only [List.map_toArray, List.map_cons, List.map_nil]); first | done | rfl | (simp only [List.length_drop, List.length_take]; rfl)) ?_; (with_reducible refine (fix_Ratio.calls a0 a1 t125 _ A10.out).mono ?_); rintro e w' ⟨rfl, ⟨nd, rfl⟩⟩; refine ⟨_, rfl, ?_⟩) | (go_at_call 18; (with_reducible refine (credenzalaw01_awake.calls kj2  t126 _ A13.out).mono ?_); rintro e w14 ⟨rfl, hb⟩; have n0_ := Aside0.mk (below_step (by repeat (first | (with_reducible first | exact HB.out | apply below_alloc | apply pw_below_drewN | apply below_drew1) | exact HB.out)) hb); clear HB; have HB := n0_; clear n0_; (try clear hb); (try clear hb2); (try clear hk); (try clear hi)))
            go_ret
            exact ⟨by first | rfl | (simp [errW_none, errW_some] <;> rfl) | (simp [*, errW_none, errW_some] <;> rfl), by repeat (first | (with_reducible first | exact HB.out | apply below_alloc | apply pw_below_drewN | apply below_drew1) | exact HB.out)⟩
          · rw [if_neg c12] at H
            have c12b0 : decide ((wrap64 (-a1)) ≤ (wrap64 (2 * (wrap64 (a0 - (wrap64 (t125 * a1))))))) = false := decide_eq_false c12
            clear c12
            obtain rfl := Option.some.inj H
            go_wp2_with (first | ((with_reducible refine gate_callee (f := 17) rfl ?_); refine goesL_ (some 24) rfl rfl Try.func17 (by kernel_rfl) rfl #[.int .i64 a0, .int .i64 a1] rfl (by (try simp only [List.map_toArray, List.map_cons, List.map_nil]); first | done | rfl | (simp only [List.length_drop, List.length_take]; rfl)) ?_; (with_reducible refine (fix_Ratio.calls a0 a1 t125 _ A10.out).mono ?_); rintro e w' ⟨rfl, ⟨nd, rfl⟩⟩; refine ⟨_, rfl, ?_⟩))
            go_ret
            exact ⟨by first | rfl | (simp [errW_none, errW_some] <;> rfl) | (simp [*, errW_none, errW_some] <;> rfl), by repeat (first | (with_reducible first | exact HB.out | apply below_alloc | apply pw_below_drewN | apply below_drew1) | exact HB.out)⟩
        · rw [if_neg c11] at H
          have c11b0 : decide ((wrap64 (2 * (wrap64 (a0 - (wrap64 (t125 * a1)))))) ≤ a1) = false := decide_eq_false c11
          clear c11
          obtain rfl := Option.some.inj H
          go_wp2_with (first | ((with_reducible refine gate_callee (f := 17) rfl ?_); refine goesL_ (some 24) rfl rfl Try.func17 (by kernel_rfl) rfl #[.int .i64 a0, .int .i64 a1] rfl (by (try simp only [List.map_toArray, List.map_cons, List.map_nil]); first | done | rfl | (simp only [List.length_drop, List.length_take]; rfl)) ?_; (with_reducible refine (fix_Ratio.calls a0 a1 t125 _ A10.out).mono ?_); rintro e w' ⟨rfl, ⟨nd, rfl⟩⟩; refine ⟨_, rfl, ?_⟩))
          go_ret
          exact ⟨by first | rfl | (simp [errW_none, errW_some] <;> rfl) | (simp [*, errW_none, errW_some] <;> rfl), by repeat (first | (with_reducible first | exact HB.out | apply below_alloc | apply pw_below_drewN | apply below_drew1) | exact HB.out)⟩

/-- THE ONE PURE STATEMENT of credenzalaw01_FixNear: yours. -/
def credenzalaw01_FixNear.Pure : Prop := ∀ (a0 : Int) (a1 : Int), (Lit.int .i64 a0).wf = true → (Lit.int .i64 a1).wf = true → ∃ k, credenzalaw01_FixNear.f k a0 a1 = some true
theorem credenzalaw01_FixNear.walk (P : credenzalaw01_FixNear.Pure) (a0 : Int) (a1 : Int) (w : World) (w0 : (Lit.int .i64 a0).wf = true) (w1 : (Lit.int .i64 a1).wf = true) :
    Calls Try.prog 7 #[.int .i64 a0, .int .i64 a1] w fun e w' => e = .returned (.bool true) ∧ Below w.heap.size w w' := by
  obtain ⟨k, h⟩ := P a0 a1 w0 w1
  refine (credenzalaw01_FixNear.calls k a0 a1 true w h).mono ?_
  rintro e w' ⟨rfl, hd⟩
  exact ⟨rfl, hd⟩

end Go.Proofs.Ytmndomlpdajjmaa.PFixNear
