-- PRINTED BY print.sh 35421559b90ae4d0a3588c463048766b98c2df88dd9212a6774a882060cdf62d: not written by this session
import Derived.Test.YtmndomlpdajjmaaPFixRisesx0
import Derived.Test.YtmndomlpdajjmaaPFixRisesx1
namespace Go.Proofs.Ytmndomlpdajjmaa.PFixRises
open Go.RowKit Go.Proofs.YtmndomlpdajjmaaW.PrintWords Go.Proofs.YtmndomlpdajjmaaW.PrintLast Go.Proofs.YtmndomlpdajjmaaW.PrintMore
attribute [local go_sem] max2_int min2_int max_two min_two max_three min_three max_four min_four   -- for this text's walks alone
set_option linter.unusedVariables false
set_option linter.unusedSimpArgs false

/-! ### credenzalaw01_FixRises: function 6 -/
mutual
def credenzalaw01_FixRises.j0 : Nat → Int → Int → Int → Bool → Option (Bool)
  | 0, _, _, _, _ => none
  | k + 1, x0, x1, x2, x18 => if x18 = true then ((credenzalaw01_awake.f k).bind fun t124 => (some t124)) else ((fix_Ratio.f (wrap64 (-x0)) x2).bind fun t125 => ((fix_Ratio.f x0 x2).bind fun t126 => (if t125 = (wrap64 (-t126)) then ((fix_Half.f (wrap64 (-x1)) 9).bind fun t127 => ((fix_Half.f x1 9).bind fun t128 => (credenzalaw01_FixRises.j1 k x0 x1 x2 (t127 != (wrap64 (-t128)))))) else (credenzalaw01_FixRises.j1 k x0 x1 x2 true))))
def credenzalaw01_FixRises.j1 : Nat → Int → Int → Int → Bool → Option (Bool)
  | 0, _, _, _, _ => none
  | k + 1, x0, x1, x2, x37 => if x37 = true then (some false) else ((fix_Ratio.f (mn x0 x1) x2).bind fun t129 => ((fix_Ratio.f (mx x0 x1) x2).bind fun t130 => (if t129 ≤ t130 then ((fix_Half.f (mn x0 x1) 7).bind fun t131 => ((fix_Half.f (mx x0 x1) 7).bind fun t132 => (if t131 ≤ t132 then ((credenzalaw01_awake.f k).bind fun t133 => (some t133)) else (some false)))) else (some false))))
end
def credenzalaw01_FixRises.f (k : Nat) (a0 : Int) (a1 : Int) (a2 : Int) : Option (Bool) := if a2 ≤ 0 then (credenzalaw01_FixRises.j0 k a0 a1 a2 true) else (if a0 ≤ (-9223372036854775808) then (credenzalaw01_FixRises.j0 k a0 a1 a2 true) else (credenzalaw01_FixRises.j0 k a0 a1 a2 (decide (a1 ≤ (-9223372036854775808)))))
theorem credenzalaw01_FixRises.mono_l : ∀ k, (∀ y0 y1 y2 y3, LeO (credenzalaw01_FixRises.j0 k y0 y1 y2 y3) (credenzalaw01_FixRises.j0 (k + 1) y0 y1 y2 y3)) ∧ (∀ y0 y1 y2 y3, LeO (credenzalaw01_FixRises.j1 k y0 y1 y2 y3) (credenzalaw01_FixRises.j1 (k + 1) y0 y1 y2 y3))
  | 0 => ⟨fun _ _ _ _ r h => by simp [credenzalaw01_FixRises.j0] at h, fun _ _ _ _ r h => by simp [credenzalaw01_FixRises.j1] at h⟩
  | k + 1 => by
    obtain ⟨ih0, ih1⟩ := credenzalaw01_FixRises.mono_l k
    refine ⟨?_, ?_⟩
    · intro y0 y1 y2 y3
      unfold credenzalaw01_FixRises.j0
      repeat' first
      | (with_reducible exact ih0 _ _ _ _)
      | (with_reducible exact ih1 _ _ _ _)
      | (with_reducible exact credenzalaw01_awake.mono _)
      | (with_reducible exact LeO.refl _)
      | (with_reducible exact LeO.none _)
      | (with_reducible refine LeO.ite ?_ ?_)
      | (with_reducible refine LeO.bind ?_ (fun _ => ?_))
      | exact ih0 _ _ _ _
      | exact ih1 _ _ _ _
      | exact credenzalaw01_awake.mono _
      | exact LeO.none _
      | refine LeO.ite ?_ ?_
      | refine LeO.bind ?_ (fun _ => ?_)
    · intro y0 y1 y2 y3
      unfold credenzalaw01_FixRises.j1
      repeat' first
      | (with_reducible exact ih0 _ _ _ _)
      | (with_reducible exact ih1 _ _ _ _)
      | (with_reducible exact credenzalaw01_awake.mono _)
      | (with_reducible exact LeO.refl _)
      | (with_reducible exact LeO.none _)
      | (with_reducible refine LeO.ite ?_ ?_)
      | (with_reducible refine LeO.bind ?_ (fun _ => ?_))
      | exact ih0 _ _ _ _
      | exact ih1 _ _ _ _
      | exact credenzalaw01_awake.mono _
      | exact LeO.none _
      | refine LeO.ite ?_ ?_
      | refine LeO.bind ?_ (fun _ => ?_)
theorem credenzalaw01_FixRises.mono : ∀ a0 a1 a2 k, LeO (credenzalaw01_FixRises.f k a0 a1 a2) (credenzalaw01_FixRises.f (k + 1) a0 a1 a2) := by
  intro a0 a1 a2 k
  obtain ⟨ih0, ih1⟩ := credenzalaw01_FixRises.mono_l k
  unfold credenzalaw01_FixRises.f
  repeat' first
      | (with_reducible exact ih0 _ _ _ _)
      | (with_reducible exact ih1 _ _ _ _)
      | (with_reducible exact credenzalaw01_awake.mono _)
      | (with_reducible exact LeO.refl _)
      | (with_reducible exact LeO.none _)
      | (with_reducible refine LeO.ite ?_ ?_)
      | (with_reducible refine LeO.bind ?_ (fun _ => ?_))
      | exact ih0 _ _ _ _
      | exact ih1 _ _ _ _
      | exact credenzalaw01_awake.mono _
      | exact LeO.none _
      | refine LeO.ite ?_ ?_
      | refine LeO.bind ?_ (fun _ => ?_)
set_option maxHeartbeats 8000000 in
set_option maxRecDepth 100000 in
theorem credenzalaw01_FixRises.calls (k : Nat) (a0 : Int) (a1 : Int) (a2 : Int) (r : Bool) (w : World) (h : credenzalaw01_FixRises.f k a0 a1 a2 = some r) :
    Calls Try.prog 6 #[.int .i64 a0, .int .i64 a1, .int .i64 a2] w fun e w' => e = .returned (.bool r) ∧ Below w.heap.size w w' := by
  have HB := Aside0.mk (Below.refl w.heap.size w)
  have H : (if a2 ≤ 0 then (credenzalaw01_FixRises.j0 k a0 a1 a2 true) else (if a0 ≤ (-9223372036854775808) then (credenzalaw01_FixRises.j0 k a0 a1 a2 true) else (credenzalaw01_FixRises.j0 k a0 a1 a2 (decide (a1 ≤ (-9223372036854775808)))))) = some r := h
  clear h
  have HC4 := Aside0.mk H
  clear H
  go_enter Try.func6, Try.ntmps6
  go_upto_region 1 with (fail)
  go_cut [18] (fun v18 wc => ∃ (kq : Nat) (x18_3 : Bool), v18 = .bool x18_3 ∧ Aside0 (credenzalaw01_FixRises.j0 kq a0 a1 a2 x18_3 = some r) ∧ Aside0 (kq ≤ k) ∧ Aside0 (Below w.heap.size w wc))
  case first =>
    have H := HC4.out
    clear HC4
    by_cases c5 : a2 ≤ 0
    · rw [if_pos c5] at H
      have c5b0 : decide (a2 ≤ 0) = true := decide_eq_true c5
      clear c5
      (first | rw [c5b0] | (simp only [i64_w, i32_w]; rw [c5b0]) | skip)
      have H' := Aside0.mk H
      clear H
      go_wp2
      go_meet
      case rel => exact ⟨_, (true), (by first | rfl | (simp; done) | (simp [*]; done)), H', ⟨by first | omega | exact Nat.le_refl _⟩, ⟨by repeat (first | (with_reducible first | exact HB.out | apply below_alloc | apply pw_below_drewN | apply below_drew1) | exact HB.out)⟩⟩
    · rw [if_neg c5] at H
      have c5b0 : decide (a2 ≤ 0) = false := decide_eq_false c5
      clear c5
      (first | rw [c5b0] | (simp only [i64_w, i32_w]; rw [c5b0]) | skip)
      by_cases c6 : a0 ≤ (-9223372036854775808)
      · rw [if_pos c6] at H
        have c6b0 : decide (a0 ≤ (-9223372036854775808)) = true := decide_eq_true c6
        clear c6
        have H' := Aside0.mk H
        clear H
        go_wp2
        go_meet
        case rel => exact ⟨_, (true), (by first | rfl | (simp; done) | (simp [*]; done)), H', ⟨by first | omega | exact Nat.le_refl _⟩, ⟨by repeat (first | (with_reducible first | exact HB.out | apply below_alloc | apply pw_below_drewN | apply below_drew1) | exact HB.out)⟩⟩
      · rw [if_neg c6] at H
        have c6b0 : decide (a0 ≤ (-9223372036854775808)) = false := decide_eq_false c6
        clear c6
        have H' := Aside0.mk H
        clear H
        go_wp2
        go_meet
        case rel => exact ⟨_, (decide (a1 ≤ (-9223372036854775808))), (by first | rfl | (simp; done) | (simp [*]; done)), H', ⟨by first | omega | exact Nat.le_refl _⟩, ⟨by repeat (first | (with_reducible first | exact HB.out | apply below_alloc | apply pw_below_drewN | apply below_drew1) | exact HB.out)⟩⟩
  case rest =>
    clear HC4
    try clear p2
    try clear c5
    try clear c5b0
    try clear c6
    try clear c6b0
    obtain ⟨kq, x18_3, rfl, HA, HJ3, HB⟩ := hcut
    cases kq with
    | zero => exact absurd HA.out (by simp [credenzalaw01_FixRises.j0])
    | succ kj3 =>
      have H := HA.out
      clear HA
      simp only [credenzalaw01_FixRises.j0] at H
      by_cases c7 : x18_3 = true
      · subst c7
        have H1 : ((credenzalaw01_awake.f kj3).bind fun t124 => (some t124)) = some r := by rw [if_pos rfl] at H; exact H
        clear H
        have H := H1
        clear H1
        replace H := Option.bind_eq_some_iff.mp H
        obtain ⟨t124, A80, H⟩ := H
        replace H : (some t124) = some r := H
        have A8 := Aside0.mk A80
        clear A80
        obtain rfl := Option.some.inj H
        go_wp2_with (first | ((with_reducible refine gate_callee (f := 18) rfl ?_); refine goesL_ (some 19) rfl rfl Try.func18 (by kernel_rfl) rfl #[] rfl (by (try simp only [List.map_toArray, List.map_cons, List.map_nil]); first | done | rfl | (simp only [List.length_drop, List.length_take]; rfl)) ?_; (with_reducible refine (credenzalaw01_awake.calls kj3  t124 _ A8.out).mono ?_); rintro e w9 ⟨rfl, hb⟩; refine ⟨_, rfl, ?_⟩; have n0_ := Aside0.mk (below_step (by repeat (first | (with_reducible first | exact HB.out | apply below_alloc | apply pw_below_drewN | apply below_drew1) | exact HB.out)) hb); clear HB; have HB := n0_; clear n0_; (try clear hb); (try clear hb2); (try clear hk); (try clear hi)))
        go_ret
        exact ⟨by first | rfl | (simp [errW_none, errW_some] <;> rfl) | (simp [*, errW_none, errW_some] <;> rfl), by repeat (first | (with_reducible first | exact HB.out | apply below_alloc | apply pw_below_drewN | apply below_drew1) | exact HB.out)⟩
      · replace c7 := Bool.eq_false_iff.mpr c7
        subst c7
        have H1 : ((fix_Ratio.f (wrap64 (-a0)) a2).bind fun t125 => ((fix_Ratio.f a0 a2).bind fun t126 => (if t125 = (wrap64 (-t126)) then ((fix_Half.f (wrap64 (-a1)) 9).bind fun t127 => ((fix_Half.f a1 9).bind fun t128 => (credenzalaw01_FixRises.j1 kj3 a0 a1 a2 (t127 != (wrap64 (-t128)))))) else (credenzalaw01_FixRises.j1 kj3 a0 a1 a2 true)))) = some r := by rw [if_neg (show ¬ (false = true) by decide)] at H; exact H
        clear H
        have H := H1
        clear H1
        have HC10 := Aside0.mk H
        clear H
        go_upto_region 3 with (fail)
        go_cut [37] (fun v37 wc => ∃ (kq : Nat) (x37_9 : Bool), v37 = .bool x37_9 ∧ Aside0 (credenzalaw01_FixRises.j1 kq a0 a1 a2 x37_9 = some r) ∧ Aside0 (kq ≤ kj3) ∧ Aside0 (Below w.heap.size w wc))
        case first =>
          have H := HC10.out
          clear HC10
          replace H := Option.bind_eq_some_iff.mp H
          obtain ⟨t125, A110, H⟩ := H
          replace H : ((fix_Ratio.f a0 a2).bind fun t126 => (if t125 = (wrap64 (-t126)) then ((fix_Half.f (wrap64 (-a1)) 9).bind fun t127 => ((fix_Half.f a1 9).bind fun t128 => (credenzalaw01_FixRises.j1 kj3 a0 a1 a2 (t127 != (wrap64 (-t128)))))) else (credenzalaw01_FixRises.j1 kj3 a0 a1 a2 true))) = some r := H
          have A11 := Aside0.mk A110
          clear A110
          replace H := Option.bind_eq_some_iff.mp H
          obtain ⟨t126, A120, H⟩ := H
          replace H : (if t125 = (wrap64 (-t126)) then ((fix_Half.f (wrap64 (-a1)) 9).bind fun t127 => ((fix_Half.f a1 9).bind fun t128 => (credenzalaw01_FixRises.j1 kj3 a0 a1 a2 (t127 != (wrap64 (-t128)))))) else (credenzalaw01_FixRises.j1 kj3 a0 a1 a2 true)) = some r := H
          have A12 := Aside0.mk A120
          clear A120
          by_cases c13 : t125 = (wrap64 (-t126))
          · rw [if_pos c13] at H
            have c13b0 : (t125 == (wrap64 (-t126))) = true := beq_iff_eq.mpr c13
            have c13b1 : (t125 != (wrap64 (-t126))) = false := bne_eq_false_iff_eq.mpr c13
            clear c13
            (first | rw [c13b0] | (simp only [i64_w, i32_w]; rw [c13b0]) | skip)
            replace H := Option.bind_eq_some_iff.mp H
            obtain ⟨t127, A140, H⟩ := H
            replace H : ((fix_Half.f a1 9).bind fun t128 => (credenzalaw01_FixRises.j1 kj3 a0 a1 a2 (t127 != (wrap64 (-t128))))) = some r := H
            have A14 := Aside0.mk A140
            clear A140
            replace H := Option.bind_eq_some_iff.mp H
            obtain ⟨t128, A150, H⟩ := H
            replace H : (credenzalaw01_FixRises.j1 kj3 a0 a1 a2 (t127 != (wrap64 (-t128)))) = some r := H
            have A15 := Aside0.mk A150
            clear A150
            have H' := Aside0.mk H
            clear H
            go_wp2_with (first | ((with_reducible refine gate_callee (f := 17) rfl ?_); refine goesL_ (some 23) rfl rfl Try.func17 (by kernel_rfl) rfl #[.int .i64 (wrap64 (-a0)), .int .i64 a2] rfl (by (try simp only [List.map_toArray, List.map_cons, List.map_nil]); first | done | rfl | (simp only [List.length_drop, List.length_take]; rfl)) ?_; (with_reducible refine (fix_Ratio.calls (wrap64 (-a0)) a2 t125 _ A11.out).mono ?_); rintro e w' ⟨rfl, ⟨nd, rfl⟩⟩; refine ⟨_, rfl, ?_⟩) | ((with_reducible refine gate_callee (f := 17) rfl ?_); refine goesL_ (some 26) rfl rfl Try.func17 (by kernel_rfl) rfl #[.int .i64 a0, .int .i64 a2] rfl (by (try simp only [List.map_toArray, List.map_cons, List.map_nil]); first | done | rfl | (simp only [List.length_drop, List.length_take]; rfl)) ?_; (with_reducible refine (fix_Ratio.calls a0 a2 t126 _ A12.out).mono ?_); rintro e w' ⟨rfl, ⟨nd, rfl⟩⟩; refine ⟨_, rfl, ?_⟩) | (go_at_call 15; (with_reducible refine (fix_Half.calls (wrap64 (-a1)) 9 t127 _ A14.out).mono ?_); rintro e w16 ⟨rfl, hb⟩; have n0_ := Aside0.mk (below_step (by repeat (first | (with_reducible first | exact HB.out | apply below_alloc | apply pw_below_drewN | apply below_drew1) | exact HB.out)) hb); clear HB; have HB := n0_; clear n0_; (try clear hb); (try clear hb2); (try clear hk); (try clear hi)) | (go_at_call 15; (with_reducible refine (fix_Half.calls a1 9 t128 _ A15.out).mono ?_); rintro e w17 ⟨rfl, hb⟩; have n0_ := Aside0.mk (below_step (by repeat (first | (with_reducible first | exact HB.out | apply below_alloc | apply pw_below_drewN | apply below_drew1) | exact HB.out)) hb); clear HB; have HB := n0_; clear n0_; (try clear hb); (try clear hb2); (try clear hk); (try clear hi)))
            go_meet
            case rel => exact ⟨_, ((t127 != (wrap64 (-t128)))), (by first | rfl | (simp; done) | (simp [*]; done)), H', ⟨by have := HJ3.out; first | omega | exact Nat.le_refl _⟩, ⟨by repeat (first | (with_reducible first | exact HB.out | apply below_alloc | apply pw_below_drewN | apply below_drew1) | exact HB.out)⟩⟩
          · rw [if_neg c13] at H
            have c13b0 : (t125 == (wrap64 (-t126))) = false := beq_eq_false_iff_ne.mpr c13
            have c13b1 : (t125 != (wrap64 (-t126))) = true := bne_iff_ne.mpr c13
            (first | rw [c13b0] | (simp only [i64_w, i32_w]; rw [c13b0]) | skip)
            have H' := Aside0.mk H
            clear H
            go_wp2_with (first | ((with_reducible refine gate_callee (f := 17) rfl ?_); refine goesL_ (some 23) rfl rfl Try.func17 (by kernel_rfl) rfl #[.int .i64 (wrap64 (-a0)), .int .i64 a2] rfl (by (try simp only [List.map_toArray, List.map_cons, List.map_nil]); first | done | rfl | (simp only [List.length_drop, List.length_take]; rfl)) ?_; (with_reducible refine (fix_Ratio.calls (wrap64 (-a0)) a2 t125 _ A11.out).mono ?_); rintro e w' ⟨rfl, ⟨nd, rfl⟩⟩; refine ⟨_, rfl, ?_⟩) | ((with_reducible refine gate_callee (f := 17) rfl ?_); refine goesL_ (some 26) rfl rfl Try.func17 (by kernel_rfl) rfl #[.int .i64 a0, .int .i64 a2] rfl (by (try simp only [List.map_toArray, List.map_cons, List.map_nil]); first | done | rfl | (simp only [List.length_drop, List.length_take]; rfl)) ?_; (with_reducible refine (fix_Ratio.calls a0 a2 t126 _ A12.out).mono ?_); rintro e w' ⟨rfl, ⟨nd, rfl⟩⟩; refine ⟨_, rfl, ?_⟩))
            go_meet
            case rel => exact ⟨_, (true), (by first | rfl | (simp; done) | (simp [*]; done)), H', ⟨by have := HJ3.out; first | omega | exact Nat.le_refl _⟩, ⟨by repeat (first | (with_reducible first | exact HB.out | apply below_alloc | apply pw_below_drewN | apply below_drew1) | exact HB.out)⟩⟩
        case rest =>
          clear HC10
          try clear c1
          try clear p2
          try clear c5
          try clear c5b0
          try clear c6
          try clear c6b0
          try clear p6
          try clear c7
          try clear c13
          try clear c13b0
          try clear c13b1
          try clear c17
          try clear p2
          obtain ⟨kq, x37_9, rfl, HA, HJ9, HB⟩ := hcut
          cases kq with
          | zero => exact absurd HA.out (by simp [credenzalaw01_FixRises.j1])
          | succ kj9 =>
            have H := HA.out
            clear HA
            simp only [credenzalaw01_FixRises.j1] at H
            by_cases c18 : x37_9 = true
            · subst c18
              have H1 : (some false) = some r := by rw [if_pos rfl] at H; exact H
              clear H
              have H := H1
              clear H1
              obtain rfl := Option.some.inj H
              go_wp2
              go_ret
              exact ⟨by first | rfl | (simp [errW_none, errW_some] <;> rfl) | (simp [*, errW_none, errW_some] <;> rfl), by repeat (first | (with_reducible first | exact HB.out | apply below_alloc | apply pw_below_drewN | apply below_drew1) | exact HB.out)⟩
            · replace c18 := Bool.eq_false_iff.mpr c18
              subst c18
              have H1 : ((fix_Ratio.f (mn a0 a1) a2).bind fun t129 => ((fix_Ratio.f (mx a0 a1) a2).bind fun t130 => (if t129 ≤ t130 then ((fix_Half.f (mn a0 a1) 7).bind fun t131 => ((fix_Half.f (mx a0 a1) 7).bind fun t132 => (if t131 ≤ t132 then ((credenzalaw01_awake.f kj9).bind fun t133 => (some t133)) else (some false)))) else (some false)))) = some r := by rw [if_neg (show ¬ (false = true) by decide)] at H; exact H
              clear H
              have H := H1
              clear H1
              obtain ⟨ji19, hji19⟩ : ∃ j_ : Int, (mn a0 a1) = j_ := ⟨_, rfl⟩
              replace H : ((fix_Ratio.f (ji19) a2).bind fun t129 => ((fix_Ratio.f (mx a0 a1) a2).bind fun t130 => (if t129 ≤ t130 then ((fix_Half.f (ji19) 7).bind fun t131 => ((fix_Half.f (mx a0 a1) 7).bind fun t132 => (if t131 ≤ t132 then ((credenzalaw01_awake.f kj9).bind fun t133 => (some t133)) else (some false)))) else (some false)))) = some r := by first | (rw [hji19] at H; exact H) | (simp only [hji19] at H ⊢; exact H)
              have hji19_ : (if a1 < a0 then a1 else a0) = ji19 := hji19
              obtain ⟨ji20, hji20⟩ : ∃ j_ : Int, (mx a0 a1) = j_ := ⟨_, rfl⟩
              replace H : ((fix_Ratio.f (ji19) a2).bind fun t129 => ((fix_Ratio.f (ji20) a2).bind fun t130 => (if t129 ≤ t130 then ((fix_Half.f (ji19) 7).bind fun t131 => ((fix_Half.f (ji20) 7).bind fun t132 => (if t131 ≤ t132 then ((credenzalaw01_awake.f kj9).bind fun t133 => (some t133)) else (some false)))) else (some false)))) = some r := by first | (rw [hji20] at H; exact H) | (simp only [hji20] at H ⊢; exact H)
              have hji20_ : (if a0 < a1 then a1 else a0) = ji20 := hji20
              replace H := Option.bind_eq_some_iff.mp H
              obtain ⟨t129, A210, H⟩ := H
              replace H : ((fix_Ratio.f (ji20) a2).bind fun t130 => (if t129 ≤ t130 then ((fix_Half.f (ji19) 7).bind fun t131 => ((fix_Half.f (ji20) 7).bind fun t132 => (if t131 ≤ t132 then ((credenzalaw01_awake.f kj9).bind fun t133 => (some t133)) else (some false)))) else (some false))) = some r := H
              have A21 := Aside0.mk A210
              clear A210
              replace H := Option.bind_eq_some_iff.mp H
              obtain ⟨t130, A220, H⟩ := H
              replace H : (if t129 ≤ t130 then ((fix_Half.f (ji19) 7).bind fun t131 => ((fix_Half.f (ji20) 7).bind fun t132 => (if t131 ≤ t132 then ((credenzalaw01_awake.f kj9).bind fun t133 => (some t133)) else (some false)))) else (some false)) = some r := H
              have A22 := Aside0.mk A220
              clear A220
              by_cases c23 : t129 ≤ t130
              · rw [if_pos c23] at H
                have c23b0 : decide (t129 ≤ t130) = true := decide_eq_true c23
                clear c23
                replace H := Option.bind_eq_some_iff.mp H
                obtain ⟨t131, A240, H⟩ := H
                replace H : ((fix_Half.f (ji20) 7).bind fun t132 => (if t131 ≤ t132 then ((credenzalaw01_awake.f kj9).bind fun t133 => (some t133)) else (some false))) = some r := H
                have A24 := Aside0.mk A240
                clear A240
                replace H := Option.bind_eq_some_iff.mp H
                obtain ⟨t132, A250, H⟩ := H
                replace H : (if t131 ≤ t132 then ((credenzalaw01_awake.f kj9).bind fun t133 => (some t133)) else (some false)) = some r := H
                have A25 := Aside0.mk A250
                clear A250
                by_cases c26 : t131 ≤ t132
                · rw [if_pos c26] at H
                  have c26b0 : decide (t131 ≤ t132) = true := decide_eq_true c26
                  clear c26
                  replace H := Option.bind_eq_some_iff.mp H
                  obtain ⟨t133, A270, H⟩ := H
                  replace H : (some t133) = some r := H
                  have A27 := Aside0.mk A270
                  clear A270
                  obtain rfl := Option.some.inj H
                  go_wp2_with (first | ((with_reducible refine gate_callee (f := 17) rfl ?_); refine goesL_ (some 46) rfl rfl Try.func17 (by kernel_rfl) rfl #[.int .i64 ji19, .int .i64 a2] rfl (by (try simp only [List.map_toArray, List.map_cons, List.map_nil]); first | done | (simp only [hji19]; rfl) | rfl | (simp only [List.length_drop, List.length_take]; rfl)) ?_; (with_reducible refine (fix_Ratio.calls ji19 a2 t129 _ A21.out).mono ?_); rintro e w' ⟨rfl, ⟨nd, rfl⟩⟩; refine ⟨_, rfl, ?_⟩) | ((with_reducible refine gate_callee (f := 17) rfl ?_); refine goesL_ (some 49) rfl rfl Try.func17 (by kernel_rfl) rfl #[.int .i64 ji20, .int .i64 a2] rfl (by (try simp only [List.map_toArray, List.map_cons, List.map_nil]); first | done | (simp only [hji20]; rfl) | rfl | (simp only [List.length_drop, List.length_take]; rfl)) ?_; (with_reducible refine (fix_Ratio.calls ji20 a2 t130 _ A22.out).mono ?_); rintro e w' ⟨rfl, ⟨nd, rfl⟩⟩; refine ⟨_, rfl, ?_⟩) | (go_at_call 15; (with_reducible refine (fix_Half.calls ji19 7 t131 _ A24.out).mono ?_); rintro e w28 ⟨rfl, hb⟩; have n0_ := Aside0.mk (below_step (by repeat (first | (with_reducible first | exact HB.out | apply below_alloc | apply pw_below_drewN | apply below_drew1) | exact HB.out)) hb); clear HB; have HB := n0_; clear n0_; (try clear hb); (try clear hb2); (try clear hk); (try clear hi)) | (go_at_call 15; (with_reducible refine (fix_Half.calls ji20 7 t132 _ A25.out).mono ?_); rintro e w29 ⟨rfl, hb⟩; have n0_ := Aside0.mk (below_step (by repeat (first | (with_reducible first | exact HB.out | apply below_alloc | apply pw_below_drewN | apply below_drew1) | exact HB.out)) hb); clear HB; have HB := n0_; clear n0_; (try clear hb); (try clear hb2); (try clear hk); (try clear hi)) | (go_at_call 18; (with_reducible refine (credenzalaw01_awake.calls kj9  t133 _ A27.out).mono ?_); rintro e w30 ⟨rfl, hb⟩; have n0_ := Aside0.mk (below_step (by repeat (first | (with_reducible first | exact HB.out | apply below_alloc | apply pw_below_drewN | apply below_drew1) | exact HB.out)) hb); clear HB; have HB := n0_; clear n0_; (try clear hb); (try clear hb2); (try clear hk); (try clear hi)))
                  go_ret
                  exact ⟨by first | rfl | (simp [errW_none, errW_some] <;> rfl) | (simp only [← hji19, ← hji20]; first | rfl | (simp [errW_none, errW_some] <;> rfl)) | (simp [*, errW_none, errW_some] <;> rfl), by repeat (first | (with_reducible first | exact HB.out | apply below_alloc | apply pw_below_drewN | apply below_drew1) | exact HB.out)⟩
                · rw [if_neg c26] at H
                  have c26b0 : decide (t131 ≤ t132) = false := decide_eq_false c26
                  clear c26
                  obtain rfl := Option.some.inj H
                  go_wp2_with (first | ((with_reducible refine gate_callee (f := 17) rfl ?_); refine goesL_ (some 46) rfl rfl Try.func17 (by kernel_rfl) rfl #[.int .i64 ji19, .int .i64 a2] rfl (by (try simp only [List.map_toArray, List.map_cons, List.map_nil]); first | done | (simp only [hji19]; rfl) | rfl | (simp only [List.length_drop, List.length_take]; rfl)) ?_; (with_reducible refine (fix_Ratio.calls ji19 a2 t129 _ A21.out).mono ?_); rintro e w' ⟨rfl, ⟨nd, rfl⟩⟩; refine ⟨_, rfl, ?_⟩) | ((with_reducible refine gate_callee (f := 17) rfl ?_); refine goesL_ (some 49) rfl rfl Try.func17 (by kernel_rfl) rfl #[.int .i64 ji20, .int .i64 a2] rfl (by (try simp only [List.map_toArray, List.map_cons, List.map_nil]); first | done | (simp only [hji20]; rfl) | rfl | (simp only [List.length_drop, List.length_take]; rfl)) ?_; (with_reducible refine (fix_Ratio.calls ji20 a2 t130 _ A22.out).mono ?_); rintro e w' ⟨rfl, ⟨nd, rfl⟩⟩; refine ⟨_, rfl, ?_⟩) | (go_at_call 15; (with_reducible refine (fix_Half.calls ji19 7 t131 _ A24.out).mono ?_); rintro e w31 ⟨rfl, hb⟩; have n0_ := Aside0.mk (below_step (by repeat (first | (with_reducible first | exact HB.out | apply below_alloc | apply pw_below_drewN | apply below_drew1) | exact HB.out)) hb); clear HB; have HB := n0_; clear n0_; (try clear hb); (try clear hb2); (try clear hk); (try clear hi)) | (go_at_call 15; (with_reducible refine (fix_Half.calls ji20 7 t132 _ A25.out).mono ?_); rintro e w32 ⟨rfl, hb⟩; have n0_ := Aside0.mk (below_step (by repeat (first | (with_reducible first | exact HB.out | apply below_alloc | apply pw_below_drewN | apply below_drew1) | exact HB.out)) hb); clear HB; have HB := n0_; clear n0_; (try clear hb); (try clear hb2); (try clear hk); (try clear hi)))
                  go_ret
                  exact ⟨by first | rfl | (simp [errW_none, errW_some] <;> rfl) | (simp only [← hji19, ← hji20]; first | rfl | (simp [errW_none, errW_some] <;> rfl)) | (simp [*, errW_none, errW_some] <;> rfl), by repeat (first | (with_reducible first | exact HB.out | apply below_alloc | apply pw_below_drewN | apply below_drew1) | exact HB.out)⟩
              · rw [if_neg c23] at H
                have c23b0 : decide (t129 ≤ t130) = false := decide_eq_false c23
                clear c23
                obtain rfl := Option.some.inj H
                go_wp2_with (first | ((with_reducible refine gate_callee (f := 17) rfl ?_); refine goesL_ (some 46) rfl rfl Try.func17 (by kernel_rfl) rfl #[.int .i64 ji19, .int .i64 a2] rfl (by (try simp only [List.map_toArray, List.map_cons, List.map_nil]); first | done | (simp only [hji19]; rfl) | rfl | (simp only [List.length_drop, List.length_take]; rfl)) ?_; (with_reducible refine (fix_Ratio.calls ji19 a2 t129 _ A21.out).mono ?_); rintro e w' ⟨rfl, ⟨nd, rfl⟩⟩; refine ⟨_, rfl, ?_⟩) | ((with_reducible refine gate_callee (f := 17) rfl ?_); refine goesL_ (some 49) rfl rfl Try.func17 (by kernel_rfl) rfl #[.int .i64 ji20, .int .i64 a2] rfl (by (try simp only [List.map_toArray, List.map_cons, List.map_nil]); first | done | (simp only [hji20]; rfl) | rfl | (simp only [List.length_drop, List.length_take]; rfl)) ?_; (with_reducible refine (fix_Ratio.calls ji20 a2 t130 _ A22.out).mono ?_); rintro e w' ⟨rfl, ⟨nd, rfl⟩⟩; refine ⟨_, rfl, ?_⟩))
                go_ret
                exact ⟨by first | rfl | (simp [errW_none, errW_some] <;> rfl) | (simp only [← hji19, ← hji20]; first | rfl | (simp [errW_none, errW_some] <;> rfl)) | (simp [*, errW_none, errW_some] <;> rfl), by repeat (first | (with_reducible first | exact HB.out | apply below_alloc | apply pw_below_drewN | apply below_drew1) | exact HB.out)⟩

/-- THE ONE PURE STATEMENT of credenzalaw01_FixRises: yours. -/
def credenzalaw01_FixRises.Pure : Prop := ∀ (a0 : Int) (a1 : Int) (a2 : Int), (Lit.int .i64 a0).wf = true → (Lit.int .i64 a1).wf = true → (Lit.int .i64 a2).wf = true → ∃ k, credenzalaw01_FixRises.f k a0 a1 a2 = some true
theorem credenzalaw01_FixRises.walk (P : credenzalaw01_FixRises.Pure) (a0 : Int) (a1 : Int) (a2 : Int) (w : World) (w0 : (Lit.int .i64 a0).wf = true) (w1 : (Lit.int .i64 a1).wf = true) (w2 : (Lit.int .i64 a2).wf = true) :
    Calls Try.prog 6 #[.int .i64 a0, .int .i64 a1, .int .i64 a2] w fun e w' => e = .returned (.bool true) ∧ Below w.heap.size w w' := by
  obtain ⟨k, h⟩ := P a0 a1 a2 w0 w1 w2
  refine (credenzalaw01_FixRises.calls k a0 a1 a2 true w h).mono ?_
  rintro e w' ⟨rfl, hd⟩
  exact ⟨rfl, hd⟩

end Go.Proofs.Ytmndomlpdajjmaa.PFixRises
