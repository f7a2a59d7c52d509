-- PRINTED BY print.sh 35421559b90ae4d0a3588c463048766b98c2df88dd9212a6774a882060cdf62d: not written by this session
import Derived.Test.YtmndomlpdajjmaaPFixWholex0
namespace Go.Proofs.Ytmndomlpdajjmaa.PFixWhole
open Go.RowKit Go.Proofs.YtmndomlpdajjmaaW.PrintWords Go.Proofs.YtmndomlpdajjmaaW.PrintLast Go.Proofs.YtmndomlpdajjmaaW.PrintMore
attribute [local go_sem] max2_int min2_int max_two min_two max_three min_three max_four min_four   -- for this text's walks alone
set_option linter.unusedVariables false
set_option linter.unusedSimpArgs false

/-! ### fix_Half: function 15 -/
def fix_Half.f (a0 : Int) (a1 : Int) : Option (Int) := if (wrap64 (a0 - (wrap64 ((a0 / 2 ^ (mn (mx a1 0) 62).toNat) * 2 ^ (mn (mx a1 0) 62).toNat)))) > ((wrap64 (2 ^ (mn (mx a1 0) 62).toNat)) / 2) then (some (wrap64 ((a0 / 2 ^ (mn (mx a1 0) 62).toNat) + 1))) else (if (wrap64 (a0 - (wrap64 ((a0 / 2 ^ (mn (mx a1 0) 62).toNat) * 2 ^ (mn (mx a1 0) 62).toNat)))) = ((wrap64 (2 ^ (mn (mx a1 0) 62).toNat)) / 2) then (if (mn (mx a1 0) 62) > 0 then (if (Go.bits .and .i64 (a0 / 2 ^ (mn (mx a1 0) 62).toNat) 1) = 1 then (some (wrap64 ((a0 / 2 ^ (mn (mx a1 0) 62).toNat) + 1))) else (some (a0 / 2 ^ (mn (mx a1 0) 62).toNat))) else (some (a0 / 2 ^ (mn (mx a1 0) 62).toNat))) else (some (a0 / 2 ^ (mn (mx a1 0) 62).toNat)))
set_option maxHeartbeats 8000000 in
set_option maxRecDepth 100000 in
theorem fix_Half.calls (a0 : Int) (a1 : Int) (r : Int) (w : World) (h : fix_Half.f a0 a1 = some r) :
    Calls Try.prog 15 #[.int .i64 a0, .int .i64 a1] w fun e w' => e = .returned (.int .i64 r) ∧ Below w.heap.size w w' := by
  have HB := Aside0.mk (Below.refl w.heap.size w)
  have H : (if (wrap64 (a0 - (wrap64 ((a0 / 2 ^ (mn (mx a1 0) 62).toNat) * 2 ^ (mn (mx a1 0) 62).toNat)))) > ((wrap64 (2 ^ (mn (mx a1 0) 62).toNat)) / 2) then (some (wrap64 ((a0 / 2 ^ (mn (mx a1 0) 62).toNat) + 1))) else (if (wrap64 (a0 - (wrap64 ((a0 / 2 ^ (mn (mx a1 0) 62).toNat) * 2 ^ (mn (mx a1 0) 62).toNat)))) = ((wrap64 (2 ^ (mn (mx a1 0) 62).toNat)) / 2) then (if (mn (mx a1 0) 62) > 0 then (if (Go.bits .and .i64 (a0 / 2 ^ (mn (mx a1 0) 62).toNat) 1) = 1 then (some (wrap64 ((a0 / 2 ^ (mn (mx a1 0) 62).toNat) + 1))) else (some (a0 / 2 ^ (mn (mx a1 0) 62).toNat))) else (some (a0 / 2 ^ (mn (mx a1 0) 62).toNat))) else (some (a0 / 2 ^ (mn (mx a1 0) 62).toNat)))) = some r := h
  clear h
  obtain ⟨ji3, hji3⟩ : ∃ j_ : Int, (mx a1 0) = j_ := ⟨_, rfl⟩
  replace H : (if (wrap64 (a0 - (wrap64 ((a0 / 2 ^ (mn (ji3) 62).toNat) * 2 ^ (mn (ji3) 62).toNat)))) > ((wrap64 (2 ^ (mn (ji3) 62).toNat)) / 2) then (some (wrap64 ((a0 / 2 ^ (mn (ji3) 62).toNat) + 1))) else (if (wrap64 (a0 - (wrap64 ((a0 / 2 ^ (mn (ji3) 62).toNat) * 2 ^ (mn (ji3) 62).toNat)))) = ((wrap64 (2 ^ (mn (ji3) 62).toNat)) / 2) then (if (mn (ji3) 62) > 0 then (if (Go.bits .and .i64 (a0 / 2 ^ (mn (ji3) 62).toNat) 1) = 1 then (some (wrap64 ((a0 / 2 ^ (mn (ji3) 62).toNat) + 1))) else (some (a0 / 2 ^ (mn (ji3) 62).toNat))) else (some (a0 / 2 ^ (mn (ji3) 62).toNat))) else (some (a0 / 2 ^ (mn (ji3) 62).toNat)))) = some r := by first | (rw [hji3] at H; exact H) | (simp only [hji3] at H ⊢; exact H)
  (try (have hji3l : 0 ≤ ji3 := by (rw [← hji3]; unfold mx; (repeat' split) <;> omega)))
  (try (have hji3m : 0 ≤ ji3 := by omega))
  have hji3_ : (if a1 < 0 then 0 else a1) = ji3 := hji3
  obtain ⟨ji4, hji4⟩ : ∃ j_ : Int, (mn (ji3) 62) = j_ := ⟨_, rfl⟩
  replace H : (if (wrap64 (a0 - (wrap64 ((a0 / 2 ^ (ji4).toNat) * 2 ^ (ji4).toNat)))) > ((wrap64 (2 ^ (ji4).toNat)) / 2) then (some (wrap64 ((a0 / 2 ^ (ji4).toNat) + 1))) else (if (wrap64 (a0 - (wrap64 ((a0 / 2 ^ (ji4).toNat) * 2 ^ (ji4).toNat)))) = ((wrap64 (2 ^ (ji4).toNat)) / 2) then (if (ji4) > 0 then (if (Go.bits .and .i64 (a0 / 2 ^ (ji4).toNat) 1) = 1 then (some (wrap64 ((a0 / 2 ^ (ji4).toNat) + 1))) else (some (a0 / 2 ^ (ji4).toNat))) else (some (a0 / 2 ^ (ji4).toNat))) else (some (a0 / 2 ^ (ji4).toNat)))) = some r := by first | (rw [hji4] at H; exact H) | (simp only [hji4] at H ⊢; exact H)
  have hji4_ : (if 62 < (ji3) then 62 else (ji3)) = ji4 := hji4
  by_cases c5 : (wrap64 (a0 - (wrap64 ((a0 / 2 ^ (ji4).toNat) * 2 ^ (ji4).toNat)))) > ((wrap64 (2 ^ (ji4).toNat)) / 2)
  · rw [if_pos c5] at H
    have c5b0 : decide (((wrap64 (2 ^ (ji4).toNat)) / 2) < (wrap64 (a0 - (wrap64 ((a0 / 2 ^ (ji4).toNat) * 2 ^ (ji4).toNat))))) = true := decide_eq_true c5
    clear c5
    obtain rfl := Option.some.inj H
    go_enter Try.func15, Try.ntmps15
    go_wp2
    repeat (go_quiet (fail); try go_wp2)
    go_ret
    exact ⟨by first | rfl | (simp [errW_none, errW_some] <;> rfl) | (simp only [← hji3, ← hji4]; first | rfl | (simp [errW_none, errW_some] <;> rfl)) | (simp [*, errW_none, errW_some] <;> rfl), by repeat (first | (with_reducible first | exact HB.out | apply below_alloc | apply pw_below_drewN | apply below_drew1) | exact HB.out)⟩
  · rw [if_neg c5] at H
    have c5b0 : decide (((wrap64 (2 ^ (ji4).toNat)) / 2) < (wrap64 (a0 - (wrap64 ((a0 / 2 ^ (ji4).toNat) * 2 ^ (ji4).toNat))))) = false := decide_eq_false c5
    clear c5
    by_cases c6 : (wrap64 (a0 - (wrap64 ((a0 / 2 ^ (ji4).toNat) * 2 ^ (ji4).toNat)))) = ((wrap64 (2 ^ (ji4).toNat)) / 2)
    · rw [if_pos c6] at H
      have c6b0 : ((wrap64 (a0 - (wrap64 ((a0 / 2 ^ (ji4).toNat) * 2 ^ (ji4).toNat)))) == ((wrap64 (2 ^ (ji4).toNat)) / 2)) = true := beq_iff_eq.mpr c6
      have c6b1 : ((wrap64 (a0 - (wrap64 ((a0 / 2 ^ (ji4).toNat) * 2 ^ (ji4).toNat)))) != ((wrap64 (2 ^ (ji4).toNat)) / 2)) = false := bne_eq_false_iff_eq.mpr c6
      clear c6
      by_cases c7 : (ji4) > 0
      · rw [if_pos c7] at H
        have c7b0 : decide (0 < (ji4)) = true := decide_eq_true c7
        clear c7
        by_cases c8 : (Go.bits .and .i64 (a0 / 2 ^ (ji4).toNat) 1) = 1
        · rw [if_pos c8] at H
          have c8b0 : ((Go.bits .and .i64 (a0 / 2 ^ (ji4).toNat) 1) == 1) = true := beq_iff_eq.mpr c8
          have c8b1 : ((Go.bits .and .i64 (a0 / 2 ^ (ji4).toNat) 1) != 1) = false := bne_eq_false_iff_eq.mpr c8
          clear c8
          obtain rfl := Option.some.inj H
          go_enter Try.func15, Try.ntmps15
          go_wp2
          repeat (go_quiet (fail); try go_wp2)
          go_ret
          exact ⟨by first | rfl | (simp [errW_none, errW_some] <;> rfl) | (simp only [← hji3, ← hji4]; first | rfl | (simp [errW_none, errW_some] <;> rfl)) | (simp [*, errW_none, errW_some] <;> rfl), by repeat (first | (with_reducible first | exact HB.out | apply below_alloc | apply pw_below_drewN | apply below_drew1) | exact HB.out)⟩
        · rw [if_neg c8] at H
          have c8b0 : ((Go.bits .and .i64 (a0 / 2 ^ (ji4).toNat) 1) == 1) = false := beq_eq_false_iff_ne.mpr c8
          have c8b1 : ((Go.bits .and .i64 (a0 / 2 ^ (ji4).toNat) 1) != 1) = true := bne_iff_ne.mpr c8
          obtain rfl := Option.some.inj H
          go_enter Try.func15, Try.ntmps15
          go_wp2
          repeat (go_quiet (fail); try go_wp2)
          go_ret
          exact ⟨by first | rfl | (simp [errW_none, errW_some] <;> rfl) | (simp only [← hji3, ← hji4]; first | rfl | (simp [errW_none, errW_some] <;> rfl)) | (simp [*, errW_none, errW_some] <;> rfl), by repeat (first | (with_reducible first | exact HB.out | apply below_alloc | apply pw_below_drewN | apply below_drew1) | exact HB.out)⟩
      · rw [if_neg c7] at H
        have c7b0 : decide (0 < (ji4)) = false := decide_eq_false c7
        clear c7
        obtain rfl := Option.some.inj H
        go_enter Try.func15, Try.ntmps15
        go_wp2
        repeat (go_quiet (fail); try go_wp2)
        go_ret
        exact ⟨by first | rfl | (simp [errW_none, errW_some] <;> rfl) | (simp only [← hji3, ← hji4]; first | rfl | (simp [errW_none, errW_some] <;> rfl)) | (simp [*, errW_none, errW_some] <;> rfl), by repeat (first | (with_reducible first | exact HB.out | apply below_alloc | apply pw_below_drewN | apply below_drew1) | exact HB.out)⟩
    · rw [if_neg c6] at H
      have c6b0 : ((wrap64 (a0 - (wrap64 ((a0 / 2 ^ (ji4).toNat) * 2 ^ (ji4).toNat)))) == ((wrap64 (2 ^ (ji4).toNat)) / 2)) = false := beq_eq_false_iff_ne.mpr c6
      have c6b1 : ((wrap64 (a0 - (wrap64 ((a0 / 2 ^ (ji4).toNat) * 2 ^ (ji4).toNat)))) != ((wrap64 (2 ^ (ji4).toNat)) / 2)) = true := bne_iff_ne.mpr c6
      obtain rfl := Option.some.inj H
      go_enter Try.func15, Try.ntmps15
      go_wp2
      repeat (go_quiet (fail); try go_wp2)
      go_ret
      exact ⟨by first | rfl | (simp [errW_none, errW_some] <;> rfl) | (simp only [← hji3, ← hji4]; first | rfl | (simp [errW_none, errW_some] <;> rfl)) | (simp [*, errW_none, errW_some] <;> rfl), by repeat (first | (with_reducible first | exact HB.out | apply below_alloc | apply pw_below_drewN | apply below_drew1) | exact HB.out)⟩

/-! ### fix_Ratio: function 17 -/
def fix_Ratio.f (a0 : Int) (a1 : Int) : Option (Int) := if a1 ≤ 0 then (some 0) else (if a1 = 0 then (none) else (if (Int.tmod a0 a1) < 0 then (if (wrap64 ((Int.tmod a0 a1) + a1)) > (wrap64 (a1 - (wrap64 ((Int.tmod a0 a1) + a1)))) then (some (wrap64 ((wrap64 ((wrap64 (Int.tdiv a0 a1)) - 1)) + 1))) else (if (wrap64 ((Int.tmod a0 a1) + a1)) = (wrap64 (a1 - (wrap64 ((Int.tmod a0 a1) + a1)))) then (if (Go.bits .and .i64 (wrap64 ((wrap64 (Int.tdiv a0 a1)) - 1)) 1) = 0 then (some (wrap64 ((wrap64 (Int.tdiv a0 a1)) - 1))) else (some (wrap64 ((wrap64 ((wrap64 (Int.tdiv a0 a1)) - 1)) + 1)))) else (some (wrap64 ((wrap64 (Int.tdiv a0 a1)) - 1))))) else (if (Int.tmod a0 a1) > (wrap64 (a1 - (Int.tmod a0 a1))) then (some (wrap64 ((wrap64 (Int.tdiv a0 a1)) + 1))) else (if (Int.tmod a0 a1) = (wrap64 (a1 - (Int.tmod a0 a1))) then (if (Go.bits .and .i64 (wrap64 (Int.tdiv a0 a1)) 1) = 0 then (some (wrap64 (Int.tdiv a0 a1))) else (some (wrap64 ((wrap64 (Int.tdiv a0 a1)) + 1)))) else (some (wrap64 (Int.tdiv a0 a1)))))))
set_option maxHeartbeats 8000000 in
set_option maxRecDepth 100000 in
theorem fix_Ratio.calls (a0 : Int) (a1 : Int) (r : Int) (w : World) (h : fix_Ratio.f a0 a1 = some r) :
    Calls Try.prog 17 #[.int .i64 a0, .int .i64 a1] w fun e w' => e = .returned (.int .i64 r) ∧ Drawn0 w w' := by
  have H : (if a1 ≤ 0 then (some 0) else (if a1 = 0 then (none) else (if (Int.tmod a0 a1) < 0 then (if (wrap64 ((Int.tmod a0 a1) + a1)) > (wrap64 (a1 - (wrap64 ((Int.tmod a0 a1) + a1)))) then (some (wrap64 ((wrap64 ((wrap64 (Int.tdiv a0 a1)) - 1)) + 1))) else (if (wrap64 ((Int.tmod a0 a1) + a1)) = (wrap64 (a1 - (wrap64 ((Int.tmod a0 a1) + a1)))) then (if (Go.bits .and .i64 (wrap64 ((wrap64 (Int.tdiv a0 a1)) - 1)) 1) = 0 then (some (wrap64 ((wrap64 (Int.tdiv a0 a1)) - 1))) else (some (wrap64 ((wrap64 ((wrap64 (Int.tdiv a0 a1)) - 1)) + 1)))) else (some (wrap64 ((wrap64 (Int.tdiv a0 a1)) - 1))))) else (if (Int.tmod a0 a1) > (wrap64 (a1 - (Int.tmod a0 a1))) then (some (wrap64 ((wrap64 (Int.tdiv a0 a1)) + 1))) else (if (Int.tmod a0 a1) = (wrap64 (a1 - (Int.tmod a0 a1))) then (if (Go.bits .and .i64 (wrap64 (Int.tdiv a0 a1)) 1) = 0 then (some (wrap64 (Int.tdiv a0 a1))) else (some (wrap64 ((wrap64 (Int.tdiv a0 a1)) + 1)))) else (some (wrap64 (Int.tdiv a0 a1)))))))) = some r := h
  clear h
  by_cases c3 : a1 ≤ 0
  · rw [if_pos c3] at H
    have c3b0 : decide (a1 ≤ 0) = true := decide_eq_true c3
    clear c3
    obtain rfl := Option.some.inj H
    go_enter Try.func17, Try.ntmps17
    go_wp2
    repeat (go_quiet (fail); try go_wp2)
    go_ret
    exact ⟨by first | rfl | (simp; done) | (simp [*]; done), by repeat (first | exact Drawn0.refl _ | apply Drawn0.step)⟩
  · rw [if_neg c3] at H
    have c3b0 : decide (a1 ≤ 0) = false := decide_eq_false c3
    clear c3
    by_cases c4 : a1 = 0
    · rw [if_pos c4] at H
      exact absurd H (by simp)
    · rw [if_neg c4] at H
      have c4b0 : (a1 == 0) = false := beq_eq_false_iff_ne.mpr c4
      have c4b1 : (a1 != 0) = true := bne_iff_ne.mpr c4
      by_cases c5 : (Int.tmod a0 a1) < 0
      · rw [if_pos c5] at H
        have c5b0 : decide ((Int.tmod a0 a1) < 0) = true := decide_eq_true c5
        clear c5
        by_cases c6 : (wrap64 ((Int.tmod a0 a1) + a1)) > (wrap64 (a1 - (wrap64 ((Int.tmod a0 a1) + a1))))
        · rw [if_pos c6] at H
          have c6b0 : decide ((wrap64 (a1 - (wrap64 ((Int.tmod a0 a1) + a1)))) < (wrap64 ((Int.tmod a0 a1) + a1))) = true := decide_eq_true c6
          clear c6
          obtain rfl := Option.some.inj H
          go_enter Try.func17, Try.ntmps17
          go_wp2
          repeat (go_quiet (fail); try go_wp2)
          go_ret
          exact ⟨by first | rfl | (simp; done) | (simp [*]; done), by repeat (first | exact Drawn0.refl _ | apply Drawn0.step)⟩
        · rw [if_neg c6] at H
          have c6b0 : decide ((wrap64 (a1 - (wrap64 ((Int.tmod a0 a1) + a1)))) < (wrap64 ((Int.tmod a0 a1) + a1))) = false := decide_eq_false c6
          clear c6
          by_cases c7 : (wrap64 ((Int.tmod a0 a1) + a1)) = (wrap64 (a1 - (wrap64 ((Int.tmod a0 a1) + a1))))
          · rw [if_pos c7] at H
            have c7b0 : ((wrap64 ((Int.tmod a0 a1) + a1)) == (wrap64 (a1 - (wrap64 ((Int.tmod a0 a1) + a1))))) = true := beq_iff_eq.mpr c7
            have c7b1 : ((wrap64 ((Int.tmod a0 a1) + a1)) != (wrap64 (a1 - (wrap64 ((Int.tmod a0 a1) + a1))))) = false := bne_eq_false_iff_eq.mpr c7
            clear c7
            by_cases c8 : (Go.bits .and .i64 (wrap64 ((wrap64 (Int.tdiv a0 a1)) - 1)) 1) = 0
            · rw [if_pos c8] at H
              have c8b0 : ((Go.bits .and .i64 (wrap64 ((wrap64 (Int.tdiv a0 a1)) - 1)) 1) == 0) = true := beq_iff_eq.mpr c8
              have c8b1 : ((Go.bits .and .i64 (wrap64 ((wrap64 (Int.tdiv a0 a1)) - 1)) 1) != 0) = false := bne_eq_false_iff_eq.mpr c8
              clear c8
              obtain rfl := Option.some.inj H
              go_enter Try.func17, Try.ntmps17
              go_wp2
              repeat (go_quiet (fail); try go_wp2)
              go_ret
              exact ⟨by first | rfl | (simp; done) | (simp [*]; done), by repeat (first | exact Drawn0.refl _ | apply Drawn0.step)⟩
            · rw [if_neg c8] at H
              have c8b0 : ((Go.bits .and .i64 (wrap64 ((wrap64 (Int.tdiv a0 a1)) - 1)) 1) == 0) = false := beq_eq_false_iff_ne.mpr c8
              have c8b1 : ((Go.bits .and .i64 (wrap64 ((wrap64 (Int.tdiv a0 a1)) - 1)) 1) != 0) = true := bne_iff_ne.mpr c8
              obtain rfl := Option.some.inj H
              go_enter Try.func17, Try.ntmps17
              go_wp2
              repeat (go_quiet (fail); try go_wp2)
              go_ret
              exact ⟨by first | rfl | (simp; done) | (simp [*]; done), by repeat (first | exact Drawn0.refl _ | apply Drawn0.step)⟩
          · rw [if_neg c7] at H
            have c7b0 : ((wrap64 ((Int.tmod a0 a1) + a1)) == (wrap64 (a1 - (wrap64 ((Int.tmod a0 a1) + a1))))) = false := beq_eq_false_iff_ne.mpr c7
            have c7b1 : ((wrap64 ((Int.tmod a0 a1) + a1)) != (wrap64 (a1 - (wrap64 ((Int.tmod a0 a1) + a1))))) = true := bne_iff_ne.mpr c7
            obtain rfl := Option.some.inj H
            go_enter Try.func17, Try.ntmps17
            go_wp2
            repeat (go_quiet (fail); try go_wp2)
            go_ret
            exact ⟨by first | rfl | (simp; done) | (simp [*]; done), by repeat (first | exact Drawn0.refl _ | apply Drawn0.step)⟩
      · rw [if_neg c5] at H
        have c5b0 : decide ((Int.tmod a0 a1) < 0) = false := decide_eq_false c5
        clear c5
        by_cases c9 : (Int.tmod a0 a1) > (wrap64 (a1 - (Int.tmod a0 a1)))
        · rw [if_pos c9] at H
          have c9b0 : decide ((wrap64 (a1 - (Int.tmod a0 a1))) < (Int.tmod a0 a1)) = true := decide_eq_true c9
          clear c9
          obtain rfl := Option.some.inj H
          go_enter Try.func17, Try.ntmps17
          go_wp2
          repeat (go_quiet (fail); try go_wp2)
          go_ret
          exact ⟨by first | rfl | (simp; done) | (simp [*]; done), by repeat (first | exact Drawn0.refl _ | apply Drawn0.step)⟩
        · rw [if_neg c9] at H
          have c9b0 : decide ((wrap64 (a1 - (Int.tmod a0 a1))) < (Int.tmod a0 a1)) = false := decide_eq_false c9
          clear c9
          by_cases c10 : (Int.tmod a0 a1) = (wrap64 (a1 - (Int.tmod a0 a1)))
          · rw [if_pos c10] at H
            have c10b0 : ((Int.tmod a0 a1) == (wrap64 (a1 - (Int.tmod a0 a1)))) = true := beq_iff_eq.mpr c10
            have c10b1 : ((Int.tmod a0 a1) != (wrap64 (a1 - (Int.tmod a0 a1)))) = false := bne_eq_false_iff_eq.mpr c10
            clear c10
            by_cases c11 : (Go.bits .and .i64 (wrap64 (Int.tdiv a0 a1)) 1) = 0
            · rw [if_pos c11] at H
              have c11b0 : ((Go.bits .and .i64 (wrap64 (Int.tdiv a0 a1)) 1) == 0) = true := beq_iff_eq.mpr c11
              have c11b1 : ((Go.bits .and .i64 (wrap64 (Int.tdiv a0 a1)) 1) != 0) = false := bne_eq_false_iff_eq.mpr c11
              clear c11
              obtain rfl := Option.some.inj H
              go_enter Try.func17, Try.ntmps17
              go_wp2
              repeat (go_quiet (fail); try go_wp2)
              go_ret
              exact ⟨by first | rfl | (simp; done) | (simp [*]; done), by repeat (first | exact Drawn0.refl _ | apply Drawn0.step)⟩
            · rw [if_neg c11] at H
              have c11b0 : ((Go.bits .and .i64 (wrap64 (Int.tdiv a0 a1)) 1) == 0) = false := beq_eq_false_iff_ne.mpr c11
              have c11b1 : ((Go.bits .and .i64 (wrap64 (Int.tdiv a0 a1)) 1) != 0) = true := bne_iff_ne.mpr c11
              obtain rfl := Option.some.inj H
              go_enter Try.func17, Try.ntmps17
              go_wp2
              repeat (go_quiet (fail); try go_wp2)
              go_ret
              exact ⟨by first | rfl | (simp; done) | (simp [*]; done), by repeat (first | exact Drawn0.refl _ | apply Drawn0.step)⟩
          · rw [if_neg c10] at H
            have c10b0 : ((Int.tmod a0 a1) == (wrap64 (a1 - (Int.tmod a0 a1)))) = false := beq_eq_false_iff_ne.mpr c10
            have c10b1 : ((Int.tmod a0 a1) != (wrap64 (a1 - (Int.tmod a0 a1)))) = true := bne_iff_ne.mpr c10
            obtain rfl := Option.some.inj H
            go_enter Try.func17, Try.ntmps17
            go_wp2
            repeat (go_quiet (fail); try go_wp2)
            go_ret
            exact ⟨by first | rfl | (simp; done) | (simp [*]; done), by repeat (first | exact Drawn0.refl _ | apply Drawn0.step)⟩

/-! ### fix_cut: function 42 -/
def fix_cut.f (a0 : Int) (a1 : Int) (a2 : Int) : Option (Int) := some (wrap32 (mn (mx a0 a1) a2))
set_option maxHeartbeats 8000000 in
set_option maxRecDepth 100000 in
theorem fix_cut.calls (a0 : Int) (a1 : Int) (a2 : Int) (r : Int) (w : World) (h : fix_cut.f a0 a1 a2 = some r) :
    Calls Try.prog 42 #[.int .i64 a0, .int .i64 a1, .int .i64 a2] w fun e w' => e = .returned (.int .i32 r) ∧ Below w.heap.size w w' := by
  have HB := Aside0.mk (Below.refl w.heap.size w)
  have H : (some (wrap32 (mn (mx a0 a1) a2))) = some r := h
  clear h
  obtain ⟨ji4, hji4⟩ : ∃ j_ : Int, (mx a0 a1) = j_ := ⟨_, rfl⟩
  replace H : (some (wrap32 (mn (ji4) a2))) = some r := by first | (rw [hji4] at H; exact H) | (simp only [hji4] at H ⊢; exact H)
  have hji4_ : (if a0 < a1 then a1 else a0) = ji4 := hji4
  obtain ⟨ji5, hji5⟩ : ∃ j_ : Int, (mn (ji4) a2) = j_ := ⟨_, rfl⟩
  replace H : (some (wrap32 (ji5))) = some r := by first | (rw [hji5] at H; exact H) | (simp only [hji5] at H ⊢; exact H)
  have hji5_ : (if a2 < (ji4) then a2 else (ji4)) = ji5 := hji5
  obtain rfl := Option.some.inj H
  go_enter Try.func42, Try.ntmps42
  go_wp2
  go_ret
  exact ⟨by first | rfl | (simp [errW_none, errW_some] <;> rfl) | (simp only [← hji4, ← hji5]; first | rfl | (simp [errW_none, errW_some] <;> rfl)) | (simp [*, errW_none, errW_some] <;> rfl), by repeat (first | (with_reducible first | exact HB.out | apply below_alloc | apply pw_below_drewN | apply below_drew1) | exact HB.out)⟩

/-! ### fix_Wide: function 20 -/
def fix_Wide.f (a0 : Int) : Option (Int) := (fix_cut.f a0 (-2147483648) 2147483647).bind fun t101 => (some t101)
set_option maxHeartbeats 8000000 in
set_option maxRecDepth 100000 in
theorem fix_Wide.calls (a0 : Int) (r : Int) (w : World) (h : fix_Wide.f a0 = some r) :
    Calls Try.prog 20 #[.int .i64 a0] w fun e w' => e = .returned (.int .i32 r) ∧ Below w.heap.size w w' := by
  have HB := Aside0.mk (Below.refl w.heap.size w)
  have H : ((fix_cut.f a0 (-2147483648) 2147483647).bind fun t101 => (some t101)) = some r := h
  clear h
  replace H := Option.bind_eq_some_iff.mp H
  obtain ⟨t101, A20, H⟩ := H
  replace H : (some t101) = some r := H
  have A2 := Aside0.mk A20
  clear A20
  obtain rfl := Option.some.inj H
  go_enter Try.func20, Try.ntmps20
  go_wp2_with (first | ((with_reducible refine gate_callee (f := 42) rfl ?_); refine goesL_ (some 4) rfl rfl Try.func42 (by kernel_rfl) rfl #[.int .i64 a0, .int .i64 (-2147483648), .int .i64 2147483647] rfl (by (try simp only [List.map_toArray, List.map_cons, List.map_nil]); first | done | rfl | (simp only [List.length_drop, List.length_take]; rfl)) ?_; (with_reducible refine (fix_cut.calls a0 (-2147483648) 2147483647 t101 _ A2.out).mono ?_); rintro e w3 ⟨rfl, hb⟩; refine ⟨_, rfl, ?_⟩; have n0_ := Aside0.mk (below_step (by repeat (first | (with_reducible first | exact HB.out | apply below_alloc | apply pw_below_drewN | apply below_drew1) | exact HB.out)) hb); clear HB; have HB := n0_; clear n0_; (try clear hb); (try clear hb2); (try clear hk); (try clear hi)))
  go_ret
  exact ⟨by first | rfl | (simp [errW_none, errW_some] <;> rfl) | (simp [*, errW_none, errW_some] <;> rfl), by repeat (first | (with_reducible first | exact HB.out | apply below_alloc | apply pw_below_drewN | apply below_drew1) | exact HB.out)⟩

/-! ### fix_Narrow: function 21 -/
def fix_Narrow.f (a0 : Int) : Option (Int) := (fix_cut.f a0 (-8388608) 8388608).bind fun t102 => (some t102)
set_option maxHeartbeats 8000000 in
set_option maxRecDepth 100000 in
theorem fix_Narrow.calls (a0 : Int) (r : Int) (w : World) (h : fix_Narrow.f a0 = some r) :
    Calls Try.prog 21 #[.int .i64 a0] w fun e w' => e = .returned (.int .i32 r) ∧ Below w.heap.size w w' := by
  have HB := Aside0.mk (Below.refl w.heap.size w)
  have H : ((fix_cut.f a0 (-8388608) 8388608).bind fun t102 => (some t102)) = some r := h
  clear h
  replace H := Option.bind_eq_some_iff.mp H
  obtain ⟨t102, A20, H⟩ := H
  replace H : (some t102) = some r := H
  have A2 := Aside0.mk A20
  clear A20
  obtain rfl := Option.some.inj H
  go_enter Try.func21, Try.ntmps21
  go_wp2_with (first | ((with_reducible refine gate_callee (f := 42) rfl ?_); refine goesL_ (some 4) rfl rfl Try.func42 (by kernel_rfl) rfl #[.int .i64 a0, .int .i64 (-8388608), .int .i64 8388608] rfl (by (try simp only [List.map_toArray, List.map_cons, List.map_nil]); first | done | rfl | (simp only [List.length_drop, List.length_take]; rfl)) ?_; (with_reducible refine (fix_cut.calls a0 (-8388608) 8388608 t102 _ A2.out).mono ?_); rintro e w3 ⟨rfl, hb⟩; refine ⟨_, rfl, ?_⟩; have n0_ := Aside0.mk (below_step (by repeat (first | (with_reducible first | exact HB.out | apply below_alloc | apply pw_below_drewN | apply below_drew1) | exact HB.out)) hb); clear HB; have HB := n0_; clear n0_; (try clear hb); (try clear hb2); (try clear hk); (try clear hi)))
  go_ret
  exact ⟨by first | rfl | (simp [errW_none, errW_some] <;> rfl) | (simp [*, errW_none, errW_some] <;> rfl), by repeat (first | (with_reducible first | exact HB.out | apply below_alloc | apply pw_below_drewN | apply below_drew1) | exact HB.out)⟩

/-! ### fix_Add: function 24 -/
def fix_Add.f (a0 : Int) (a1 : Int) : Option (Int) := (fix_Wide.f (wrap64 ((wrap64 (a0)) + (wrap64 (a1))))).bind fun t103 => (some t103)
set_option maxHeartbeats 8000000 in
set_option maxRecDepth 100000 in
theorem fix_Add.calls (a0 : Int) (a1 : Int) (r : Int) (w : World) (h : fix_Add.f a0 a1 = some r) :
    Calls Try.prog 24 #[.int .i32 a0, .int .i32 a1] w fun e w' => e = .returned (.int .i32 r) ∧ Below w.heap.size w w' := by
  have HB := Aside0.mk (Below.refl w.heap.size w)
  have H : ((fix_Wide.f (wrap64 ((wrap64 (a0)) + (wrap64 (a1))))).bind fun t103 => (some t103)) = some r := h
  clear h
  replace H := Option.bind_eq_some_iff.mp H
  obtain ⟨t103, A30, H⟩ := H
  replace H : (some t103) = some r := H
  have A3 := Aside0.mk A30
  clear A30
  obtain rfl := Option.some.inj H
  go_enter Try.func24, Try.ntmps24
  go_wp2_with (first | ((with_reducible refine gate_callee (f := 20) rfl ?_); refine goesL_ (some 10) rfl rfl Try.func20 (by kernel_rfl) rfl #[.int .i64 (wrap64 ((wrap64 (a0)) + (wrap64 (a1))))] rfl (by (try simp only [List.map_toArray, List.map_cons, List.map_nil]); first | done | rfl | (simp only [List.length_drop, List.length_take]; rfl)) ?_; (with_reducible refine (fix_Wide.calls (wrap64 ((wrap64 (a0)) + (wrap64 (a1)))) t103 _ A3.out).mono ?_); rintro e w4 ⟨rfl, hb⟩; refine ⟨_, rfl, ?_⟩; have n0_ := Aside0.mk (below_step (by repeat (first | (with_reducible first | exact HB.out | apply below_alloc | apply pw_below_drewN | apply below_drew1) | exact HB.out)) hb); clear HB; have HB := n0_; clear n0_; (try clear hb); (try clear hb2); (try clear hk); (try clear hi)))
  go_ret
  exact ⟨by first | rfl | (simp [errW_none, errW_some] <;> rfl) | (simp [*, errW_none, errW_some] <;> rfl), by repeat (first | (with_reducible first | exact HB.out | apply below_alloc | apply pw_below_drewN | apply below_drew1) | exact HB.out)⟩

/-! ### fix_Sub: function 25 -/
def fix_Sub.f (a0 : Int) (a1 : Int) : Option (Int) := (fix_Wide.f (wrap64 ((wrap64 (a0)) - (wrap64 (a1))))).bind fun t104 => (some t104)
set_option maxHeartbeats 8000000 in
set_option maxRecDepth 100000 in
theorem fix_Sub.calls (a0 : Int) (a1 : Int) (r : Int) (w : World) (h : fix_Sub.f a0 a1 = some r) :
    Calls Try.prog 25 #[.int .i32 a0, .int .i32 a1] w fun e w' => e = .returned (.int .i32 r) ∧ Below w.heap.size w w' := by
  have HB := Aside0.mk (Below.refl w.heap.size w)
  have H : ((fix_Wide.f (wrap64 ((wrap64 (a0)) - (wrap64 (a1))))).bind fun t104 => (some t104)) = some r := h
  clear h
  replace H := Option.bind_eq_some_iff.mp H
  obtain ⟨t104, A30, H⟩ := H
  replace H : (some t104) = some r := H
  have A3 := Aside0.mk A30
  clear A30
  obtain rfl := Option.some.inj H
  go_enter Try.func25, Try.ntmps25
  go_wp2_with (first | ((with_reducible refine gate_callee (f := 20) rfl ?_); refine goesL_ (some 10) rfl rfl Try.func20 (by kernel_rfl) rfl #[.int .i64 (wrap64 ((wrap64 (a0)) - (wrap64 (a1))))] rfl (by (try simp only [List.map_toArray, List.map_cons, List.map_nil]); first | done | rfl | (simp only [List.length_drop, List.length_take]; rfl)) ?_; (with_reducible refine (fix_Wide.calls (wrap64 ((wrap64 (a0)) - (wrap64 (a1)))) t104 _ A3.out).mono ?_); rintro e w4 ⟨rfl, hb⟩; refine ⟨_, rfl, ?_⟩; have n0_ := Aside0.mk (below_step (by repeat (first | (with_reducible first | exact HB.out | apply below_alloc | apply pw_below_drewN | apply below_drew1) | exact HB.out)) hb); clear HB; have HB := n0_; clear n0_; (try clear hb); (try clear hb2); (try clear hk); (try clear hi)))
  go_ret
  exact ⟨by first | rfl | (simp [errW_none, errW_some] <;> rfl) | (simp [*, errW_none, errW_some] <;> rfl), by repeat (first | (with_reducible first | exact HB.out | apply below_alloc | apply pw_below_drewN | apply below_drew1) | exact HB.out)⟩

/-! ### fix_Mul: function 26 -/
def fix_Mul.f (a0 : Int) (a1 : Int) : Option (Int) := (fix_Half.f (wrap64 ((wrap64 (a0)) * (wrap64 (a1)))) 16).bind fun t105 => ((fix_Wide.f t105).bind fun t106 => (some t106))
set_option maxHeartbeats 8000000 in
set_option maxRecDepth 100000 in
theorem fix_Mul.calls (a0 : Int) (a1 : Int) (r : Int) (w : World) (h : fix_Mul.f a0 a1 = some r) :
    Calls Try.prog 26 #[.int .i32 a0, .int .i32 a1] w fun e w' => e = .returned (.int .i32 r) ∧ Below w.heap.size w w' := by
  have HB := Aside0.mk (Below.refl w.heap.size w)
  have H : ((fix_Half.f (wrap64 ((wrap64 (a0)) * (wrap64 (a1)))) 16).bind fun t105 => ((fix_Wide.f t105).bind fun t106 => (some t106))) = some r := h
  clear h
  replace H := Option.bind_eq_some_iff.mp H
  obtain ⟨t105, A30, H⟩ := H
  replace H : ((fix_Wide.f t105).bind fun t106 => (some t106)) = some r := H
  have A3 := Aside0.mk A30
  clear A30
  replace H := Option.bind_eq_some_iff.mp H
  obtain ⟨t106, A40, H⟩ := H
  replace H : (some t106) = some r := H
  have A4 := Aside0.mk A40
  clear A40
  obtain rfl := Option.some.inj H
  go_enter Try.func26, Try.ntmps26
  go_wp2_with (first | ((with_reducible refine gate_callee (f := 15) rfl ?_); refine goesL_ (some 10) rfl rfl Try.func15 (by kernel_rfl) rfl #[.int .i64 (wrap64 ((wrap64 (a0)) * (wrap64 (a1)))), .int .i64 16] rfl (by (try simp only [List.map_toArray, List.map_cons, List.map_nil]); first | done | rfl | (simp only [List.length_drop, List.length_take]; rfl)) ?_; (with_reducible refine (fix_Half.calls (wrap64 ((wrap64 (a0)) * (wrap64 (a1)))) 16 t105 _ A3.out).mono ?_); rintro e w5 ⟨rfl, hb⟩; refine ⟨_, rfl, ?_⟩; have n0_ := Aside0.mk (below_step (by repeat (first | (with_reducible first | exact HB.out | apply below_alloc | apply pw_below_drewN | apply below_drew1) | exact HB.out)) hb); clear HB; have HB := n0_; clear n0_; (try clear hb); (try clear hb2); (try clear hk); (try clear hi)) | ((with_reducible refine gate_callee (f := 20) rfl ?_); refine goesL_ (some 11) rfl rfl Try.func20 (by kernel_rfl) rfl #[.int .i64 t105] rfl (by (try simp only [List.map_toArray, List.map_cons, List.map_nil]); first | done | rfl | (simp only [List.length_drop, List.length_take]; rfl)) ?_; (with_reducible refine (fix_Wide.calls t105 t106 _ A4.out).mono ?_); rintro e w6 ⟨rfl, hb⟩; refine ⟨_, rfl, ?_⟩; have n0_ := Aside0.mk (below_step (by repeat (first | (with_reducible first | exact HB.out | apply below_alloc | apply pw_below_drewN | apply below_drew1) | exact HB.out)) hb); clear HB; have HB := n0_; clear n0_; (try clear hb); (try clear hb2); (try clear hk); (try clear hi)))
  go_ret
  exact ⟨by first | rfl | (simp [errW_none, errW_some] <;> rfl) | (simp [*, errW_none, errW_some] <;> rfl), by repeat (first | (with_reducible first | exact HB.out | apply below_alloc | apply pw_below_drewN | apply below_drew1) | exact HB.out)⟩

/-! ### fix_Div: function 28 -/
mutual
def fix_Div.j0 : Nat → Int → Int → Int → Bool → Option (Int)
  | 0, _, _, _, _ => none
  | k + 1, x0, x5, x6, x19 => if x19 = true then (some 2147483647) else (if x6 = 0 then (fix_Div.j1 k x5 x6 (decide (x0 < 0))) else (fix_Div.j1 k x5 x6 false))
def fix_Div.j1 : Nat → Int → Int → Bool → Option (Int)
  | 0, _, _, _ => none
  | k + 1, x5, x6, x26 => if x26 = true then (some (-2147483648)) else ((fix_Ratio.f x5 x6).bind fun t109 => ((fix_Wide.f t109).bind fun t110 => (some t110)))
end
def fix_Div.f (k : Nat) (a0 : Int) (a1 : Int) : Option (Int) := if (wrap64 (a1)) < 0 then ((fix_Ratio.f (wrap64 (-(wrap64 ((wrap64 (a0)) * 65536)))) (wrap64 (-(wrap64 (a1))))).bind fun t107 => ((fix_Wide.f t107).bind fun t108 => (some t108))) else (if (wrap64 (a1)) = 0 then (fix_Div.j0 k a0 (wrap64 ((wrap64 (a0)) * 65536)) (wrap64 (a1)) (decide (a0 > 0))) else (fix_Div.j0 k a0 (wrap64 ((wrap64 (a0)) * 65536)) (wrap64 (a1)) false))
theorem fix_Div.mono_l : ∀ k, (∀ y0 y1 y2 y3, LeO (fix_Div.j0 k y0 y1 y2 y3) (fix_Div.j0 (k + 1) y0 y1 y2 y3)) ∧ (∀ y0 y1 y2, LeO (fix_Div.j1 k y0 y1 y2) (fix_Div.j1 (k + 1) y0 y1 y2))
  | 0 => ⟨fun _ _ _ _ r h => by simp [fix_Div.j0] at h, fun _ _ _ r h => by simp [fix_Div.j1] at h⟩
  | k + 1 => by
    obtain ⟨ih0, ih1⟩ := fix_Div.mono_l k
    refine ⟨?_, ?_⟩
    · intro y0 y1 y2 y3
      unfold fix_Div.j0
      repeat' first
      | (with_reducible exact ih0 _ _ _ _)
      | (with_reducible exact ih1 _ _ _)
      | (with_reducible exact LeO.refl _)
      | (with_reducible exact LeO.none _)
      | (with_reducible refine LeO.ite ?_ ?_)
      | (with_reducible refine LeO.bind ?_ (fun _ => ?_))
      | exact ih0 _ _ _ _
      | exact ih1 _ _ _
      | exact LeO.none _
      | refine LeO.ite ?_ ?_
      | refine LeO.bind ?_ (fun _ => ?_)
    · intro y0 y1 y2
      unfold fix_Div.j1
      repeat' first
      | (with_reducible exact ih0 _ _ _ _)
      | (with_reducible exact ih1 _ _ _)
      | (with_reducible exact LeO.refl _)
      | (with_reducible exact LeO.none _)
      | (with_reducible refine LeO.ite ?_ ?_)
      | (with_reducible refine LeO.bind ?_ (fun _ => ?_))
      | exact ih0 _ _ _ _
      | exact ih1 _ _ _
      | exact LeO.none _
      | refine LeO.ite ?_ ?_
      | refine LeO.bind ?_ (fun _ => ?_)
theorem fix_Div.mono : ∀ a0 a1 k, LeO (fix_Div.f k a0 a1) (fix_Div.f (k + 1) a0 a1) := by
  intro a0 a1 k
  obtain ⟨ih0, ih1⟩ := fix_Div.mono_l k
  unfold fix_Div.f
  repeat' first
      | (with_reducible exact ih0 _ _ _ _)
      | (with_reducible exact ih1 _ _ _)
      | (with_reducible exact LeO.refl _)
      | (with_reducible exact LeO.none _)
      | (with_reducible refine LeO.ite ?_ ?_)
      | (with_reducible refine LeO.bind ?_ (fun _ => ?_))
      | exact ih0 _ _ _ _
      | exact ih1 _ _ _
      | exact LeO.none _
      | refine LeO.ite ?_ ?_
      | refine LeO.bind ?_ (fun _ => ?_)
set_option maxHeartbeats 8000000 in
set_option maxRecDepth 100000 in
theorem fix_Div.calls (k : Nat) (a0 : Int) (a1 : Int) (r : Int) (w : World) (h : fix_Div.f k a0 a1 = some r) :
    Calls Try.prog 28 #[.int .i32 a0, .int .i32 a1] w fun e w' => e = .returned (.int .i32 r) ∧ Below w.heap.size w w' := by
  have HB := Aside0.mk (Below.refl w.heap.size w)
  have H : (if (wrap64 (a1)) < 0 then ((fix_Ratio.f (wrap64 (-(wrap64 ((wrap64 (a0)) * 65536)))) (wrap64 (-(wrap64 (a1))))).bind fun t107 => ((fix_Wide.f t107).bind fun t108 => (some t108))) else (if (wrap64 (a1)) = 0 then (fix_Div.j0 k a0 (wrap64 ((wrap64 (a0)) * 65536)) (wrap64 (a1)) (decide (a0 > 0))) else (fix_Div.j0 k a0 (wrap64 ((wrap64 (a0)) * 65536)) (wrap64 (a1)) false))) = some r := h
  clear h
  by_cases c3 : (wrap64 (a1)) < 0
  · rw [if_pos c3] at H
    have c3b0 : decide ((wrap64 (a1)) < 0) = true := decide_eq_true c3
    clear c3
    replace H := Option.bind_eq_some_iff.mp H
    obtain ⟨t107, A40, H⟩ := H
    replace H : ((fix_Wide.f t107).bind fun t108 => (some t108)) = some r := H
    have A4 := Aside0.mk A40
    clear A40
    replace H := Option.bind_eq_some_iff.mp H
    obtain ⟨t108, A50, H⟩ := H
    replace H : (some t108) = some r := H
    have A5 := Aside0.mk A50
    clear A50
    obtain rfl := Option.some.inj H
    go_enter Try.func28, Try.ntmps28
    go_wp2_with (first | ((with_reducible refine gate_callee (f := 17) rfl ?_); refine goesL_ (some 35) rfl rfl Try.func17 (by kernel_rfl) rfl #[.int .i64 (wrap64 (-(wrap64 ((wrap64 (a0)) * 65536)))), .int .i64 (wrap64 (-(wrap64 (a1))))] rfl (by (try simp only [List.map_toArray, List.map_cons, List.map_nil]); first | done | rfl | (simp only [List.length_drop, List.length_take]; rfl)) ?_; (with_reducible refine (fix_Ratio.calls (wrap64 (-(wrap64 ((wrap64 (a0)) * 65536)))) (wrap64 (-(wrap64 (a1)))) t107 _ A4.out).mono ?_); rintro e w' ⟨rfl, ⟨nd, rfl⟩⟩; refine ⟨_, rfl, ?_⟩) | ((with_reducible refine gate_callee (f := 20) rfl ?_); refine goesL_ (some 36) rfl rfl Try.func20 (by kernel_rfl) rfl #[.int .i64 t107] rfl (by (try simp only [List.map_toArray, List.map_cons, List.map_nil]); first | done | rfl | (simp only [List.length_drop, List.length_take]; rfl)) ?_; (with_reducible refine (fix_Wide.calls t107 t108 _ A5.out).mono ?_); rintro e w6 ⟨rfl, hb⟩; refine ⟨_, rfl, ?_⟩; have n0_ := Aside0.mk (below_step (by repeat (first | (with_reducible first | exact HB.out | apply below_alloc | apply pw_below_drewN | apply below_drew1) | exact HB.out)) hb); clear HB; have HB := n0_; clear n0_; (try clear hb); (try clear hb2); (try clear hk); (try clear hi)))
    go_ret
    exact ⟨by first | rfl | (simp [errW_none, errW_some] <;> rfl) | (simp [*, errW_none, errW_some] <;> rfl), by repeat (first | (with_reducible first | exact HB.out | apply below_alloc | apply pw_below_drewN | apply below_drew1) | exact HB.out)⟩
  · rw [if_neg c3] at H
    have c3b0 : decide ((wrap64 (a1)) < 0) = false := decide_eq_false c3
    clear c3
    have HC7 := Aside0.mk H
    clear H
    go_enter Try.func28, Try.ntmps28
    go_upto_region 4 with (fail)
    go_cut [19] (fun v19 wc => ∃ (kq : Nat) (x19_6 : Bool), v19 = .bool x19_6 ∧ Aside0 (fix_Div.j0 kq a0 (wrap64 ((wrap64 (a0)) * 65536)) (wrap64 (a1)) x19_6 = some r) ∧ Aside0 (kq ≤ k) ∧ Aside0 (Below w.heap.size w wc))
    case first =>
      have H := HC7.out
      clear HC7
      by_cases c8 : (wrap64 (a1)) = 0
      · rw [if_pos c8] at H
        have c8b0 : ((wrap64 (a1)) == 0) = true := beq_iff_eq.mpr c8
        have c8b1 : ((wrap64 (a1)) != 0) = false := bne_eq_false_iff_eq.mpr c8
        clear c8
        (first | rw [c8b0] | (simp only [i64_w, i32_w]; rw [c8b0]) | skip)
        have H' := Aside0.mk H
        clear H
        go_wp2
        go_meet
        case rel => exact ⟨_, (decide (a0 > 0)), (by first | rfl | (simp; done) | (simp [*]; done)), H', ⟨by first | omega | exact Nat.le_refl _⟩, ⟨by repeat (first | (with_reducible first | exact HB.out | apply below_alloc | apply pw_below_drewN | apply below_drew1) | exact HB.out)⟩⟩
      · rw [if_neg c8] at H
        have c8b0 : ((wrap64 (a1)) == 0) = false := beq_eq_false_iff_ne.mpr c8
        have c8b1 : ((wrap64 (a1)) != 0) = true := bne_iff_ne.mpr c8
        (first | rw [c8b0] | (simp only [i64_w, i32_w]; rw [c8b0]) | skip)
        have H' := Aside0.mk H
        clear H
        go_wp2
        go_meet
        case rel => exact ⟨_, (false), (by first | rfl | (simp; done) | (simp [*]; done)), H', ⟨by first | omega | exact Nat.le_refl _⟩, ⟨by repeat (first | (with_reducible first | exact HB.out | apply below_alloc | apply pw_below_drewN | apply below_drew1) | exact HB.out)⟩⟩
    case rest =>
      clear HC7
      try clear c1
      try clear c2
      try clear p2
      try clear c3
      try clear c3b0
      try clear p6
      try clear c8
      try clear c8b0
      try clear c8b1
      obtain ⟨kq, x19_6, rfl, HA, HJ6, HB⟩ := hcut
      cases kq with
      | zero => exact absurd HA.out (by simp [fix_Div.j0])
      | succ kj6 =>
        have H := HA.out
        clear HA
        simp only [fix_Div.j0] at H
        by_cases c9 : x19_6 = true
        · subst c9
          have H1 : (some 2147483647) = some r := by rw [if_pos rfl] at H; exact H
          clear H
          have H := H1
          clear H1
          obtain rfl := Option.some.inj H
          go_wp2
          go_ret
          exact ⟨by first | rfl | (simp [errW_none, errW_some] <;> rfl) | (simp [*, errW_none, errW_some] <;> rfl), by repeat (first | (with_reducible first | exact HB.out | apply below_alloc | apply pw_below_drewN | apply below_drew1) | exact HB.out)⟩
        · replace c9 := Bool.eq_false_iff.mpr c9
          subst c9
          have H1 : (if (wrap64 (a1)) = 0 then (fix_Div.j1 kj6 (wrap64 ((wrap64 (a0)) * 65536)) (wrap64 (a1)) (decide (a0 < 0))) else (fix_Div.j1 kj6 (wrap64 ((wrap64 (a0)) * 65536)) (wrap64 (a1)) false)) = some r := by rw [if_neg (show ¬ (false = true) by decide)] at H; exact H
          clear H
          have H := H1
          clear H1
          have HC10 := Aside0.mk H
          clear H
          go_upto_region 6 with (fail)
          go_cut [26] (fun v26 wc => ∃ (kq : Nat) (x26_9 : Bool), v26 = .bool x26_9 ∧ Aside0 (fix_Div.j1 kq (wrap64 ((wrap64 (a0)) * 65536)) (wrap64 (a1)) x26_9 = some r) ∧ Aside0 (kq ≤ kj6) ∧ Aside0 (Below w.heap.size w wc))
          case first =>
            have H := HC10.out
            clear HC10
            by_cases c11 : (wrap64 (a1)) = 0
            · rw [if_pos c11] at H
              have c11b0 : ((wrap64 (a1)) == 0) = true := beq_iff_eq.mpr c11
              have c11b1 : ((wrap64 (a1)) != 0) = false := bne_eq_false_iff_eq.mpr c11
              clear c11
              (first | rw [c11b0] | (simp only [i64_w, i32_w]; rw [c11b0]) | skip)
              have H' := Aside0.mk H
              clear H
              go_wp2
              go_meet
              case rel => exact ⟨_, (decide (a0 < 0)), (by first | rfl | (simp; done) | (simp [*]; done)), H', ⟨by have := HJ6.out; first | omega | exact Nat.le_refl _⟩, ⟨by repeat (first | (with_reducible first | exact HB.out | apply below_alloc | apply pw_below_drewN | apply below_drew1) | exact HB.out)⟩⟩
            · rw [if_neg c11] at H
              have c11b0 : ((wrap64 (a1)) == 0) = false := beq_eq_false_iff_ne.mpr c11
              have c11b1 : ((wrap64 (a1)) != 0) = true := bne_iff_ne.mpr c11
              (first | rw [c11b0] | (simp only [i64_w, i32_w]; rw [c11b0]) | skip)
              have H' := Aside0.mk H
              clear H
              go_wp2
              go_meet
              case rel => exact ⟨_, (false), (by first | rfl | (simp; done) | (simp [*]; done)), H', ⟨by have := HJ6.out; first | omega | exact Nat.le_refl _⟩, ⟨by repeat (first | (with_reducible first | exact HB.out | apply below_alloc | apply pw_below_drewN | apply below_drew1) | exact HB.out)⟩⟩
          case rest =>
            clear HC10
            try clear c1
            try clear c2
            try clear p2
            try clear c3
            try clear c3b0
            try clear p6
            try clear c8
            try clear c8b0
            try clear c8b1
            try clear c9
            try clear c11
            try clear c11b0
            try clear c11b1
            try clear p2
            try clear p6
            obtain ⟨kq, x26_9, rfl, HA, HJ9, HB⟩ := hcut
            cases kq with
            | zero => exact absurd HA.out (by simp [fix_Div.j1])
            | succ kj9 =>
              have H := HA.out
              clear HA
              simp only [fix_Div.j1] at H
              by_cases c12 : x26_9 = true
              · subst c12
                have H1 : (some (-2147483648)) = some r := by rw [if_pos rfl] at H; exact H
                clear H
                have H := H1
                clear H1
                obtain rfl := Option.some.inj H
                go_wp2
                go_ret
                exact ⟨by first | rfl | (simp [errW_none, errW_some] <;> rfl) | (simp [*, errW_none, errW_some] <;> rfl), by repeat (first | (with_reducible first | exact HB.out | apply below_alloc | apply pw_below_drewN | apply below_drew1) | exact HB.out)⟩
              · replace c12 := Bool.eq_false_iff.mpr c12
                subst c12
                have H1 : ((fix_Ratio.f (wrap64 ((wrap64 (a0)) * 65536)) (wrap64 (a1))).bind fun t109 => ((fix_Wide.f t109).bind fun t110 => (some t110))) = some r := by rw [if_neg (show ¬ (false = true) by decide)] at H; exact H
                clear H
                have H := H1
                clear H1
                replace H := Option.bind_eq_some_iff.mp H
                obtain ⟨t109, A130, H⟩ := H
                replace H : ((fix_Wide.f t109).bind fun t110 => (some t110)) = some r := H
                have A13 := Aside0.mk A130
                clear A130
                replace H := Option.bind_eq_some_iff.mp H
                obtain ⟨t110, A140, H⟩ := H
                replace H : (some t110) = some r := H
                have A14 := Aside0.mk A140
                clear A140
                obtain rfl := Option.some.inj H
                go_wp2_with (first | ((with_reducible refine gate_callee (f := 17) rfl ?_); refine goesL_ (some 35) rfl rfl Try.func17 (by kernel_rfl) rfl #[.int .i64 (wrap64 ((wrap64 (a0)) * 65536)), .int .i64 (wrap64 (a1))] rfl (by (try simp only [List.map_toArray, List.map_cons, List.map_nil]); first | done | rfl | (simp only [List.length_drop, List.length_take]; rfl)) ?_; (with_reducible refine (fix_Ratio.calls (wrap64 ((wrap64 (a0)) * 65536)) (wrap64 (a1)) t109 _ A13.out).mono ?_); rintro e w' ⟨rfl, ⟨nd, rfl⟩⟩; refine ⟨_, rfl, ?_⟩) | ((with_reducible refine gate_callee (f := 20) rfl ?_); refine goesL_ (some 36) rfl rfl Try.func20 (by kernel_rfl) rfl #[.int .i64 t109] rfl (by (try simp only [List.map_toArray, List.map_cons, List.map_nil]); first | done | rfl | (simp only [List.length_drop, List.length_take]; rfl)) ?_; (with_reducible refine (fix_Wide.calls t109 t110 _ A14.out).mono ?_); rintro e w15 ⟨rfl, hb⟩; refine ⟨_, rfl, ?_⟩; have n0_ := Aside0.mk (below_step (by repeat (first | (with_reducible first | exact HB.out | apply below_alloc | apply pw_below_drewN | apply below_drew1) | exact HB.out)) hb); clear HB; have HB := n0_; clear n0_; (try clear hb); (try clear hb2); (try clear hk); (try clear hi)))
                go_ret
                exact ⟨by first | rfl | (simp [errW_none, errW_some] <;> rfl) | (simp [*, errW_none, errW_some] <;> rfl), by repeat (first | (with_reducible first | exact HB.out | apply below_alloc | apply pw_below_drewN | apply below_drew1) | exact HB.out)⟩

/-! ### fix_Of: function 30 -/
def fix_Of.f (a0 : Int) : Option (Int) := (fix_Wide.f ((mn (mx a0 (-65536)) 65536) * 65536)).bind fun t111 => (some t111)
set_option maxHeartbeats 8000000 in
set_option maxRecDepth 100000 in
theorem fix_Of.calls (a0 : Int) (r : Int) (w : World) (h : fix_Of.f a0 = some r) :
    Calls Try.prog 30 #[.int .i64 a0] w fun e w' => e = .returned (.int .i32 r) ∧ Below w.heap.size w w' := by
  have HB := Aside0.mk (Below.refl w.heap.size w)
  have H : ((fix_Wide.f ((mn (mx a0 (-65536)) 65536) * 65536)).bind fun t111 => (some t111)) = some r := h
  clear h
  obtain ⟨ji2, hji2⟩ : ∃ j_ : Int, (mx a0 (-65536)) = j_ := ⟨_, rfl⟩
  replace H : ((fix_Wide.f ((mn (ji2) 65536) * 65536)).bind fun t111 => (some t111)) = some r := by first | (rw [hji2] at H; exact H) | (simp only [hji2] at H ⊢; exact H)
  have hji2_ : (if a0 < (-65536) then (-65536) else a0) = ji2 := hji2
  obtain ⟨ji3, hji3⟩ : ∃ j_ : Int, (mn (ji2) 65536) = j_ := ⟨_, rfl⟩
  replace H : ((fix_Wide.f ((ji3) * 65536)).bind fun t111 => (some t111)) = some r := by first | (rw [hji3] at H; exact H) | (simp only [hji3] at H ⊢; exact H)
  have hji3_ : (if 65536 < (ji2) then 65536 else (ji2)) = ji3 := hji3
  replace H := Option.bind_eq_some_iff.mp H
  obtain ⟨t111, A40, H⟩ := H
  replace H : (some t111) = some r := H
  have A4 := Aside0.mk A40
  clear A40
  obtain rfl := Option.some.inj H
  go_enter Try.func30, Try.ntmps30
  go_wp2_with (first | ((with_reducible refine gate_callee (f := 20) rfl ?_); refine goesL_ (some 7) rfl rfl Try.func20 (by kernel_rfl) rfl #[.int .i64 ((ji3) * 65536)] rfl (by (try simp only [List.map_toArray, List.map_cons, List.map_nil]); first | done | (simp only [hji3]; rfl) | rfl | (simp only [List.length_drop, List.length_take]; rfl)) ?_; (with_reducible refine (fix_Wide.calls ((ji3) * 65536) t111 _ A4.out).mono ?_); rintro e w5 ⟨rfl, hb⟩; refine ⟨_, rfl, ?_⟩; have n0_ := Aside0.mk (below_step (by repeat (first | (with_reducible first | exact HB.out | apply below_alloc | apply pw_below_drewN | apply below_drew1) | exact HB.out)) hb); clear HB; have HB := n0_; clear n0_; (try clear hb); (try clear hb2); (try clear hk); (try clear hi)))
  go_ret
  exact ⟨by first | rfl | (simp [errW_none, errW_some] <;> rfl) | (simp only [← hji2, ← hji3]; first | rfl | (simp [errW_none, errW_some] <;> rfl)) | (simp [*, errW_none, errW_some] <;> rfl), by repeat (first | (with_reducible first | exact HB.out | apply below_alloc | apply pw_below_drewN | apply below_drew1) | exact HB.out)⟩

/-! ### credenzalaw01_awake: function 18 -/
def credenzalaw01_awake.f (k : Nat)  : Option (Bool) := (fix_Mul.f 98304 98304).bind fun t112 => (if t112 = 147456 then ((fix_Half.f 3 1).bind fun t113 => (if t113 = 2 then ((fix_Half.f 5 1).bind fun t114 => (if t114 = 2 then ((fix_Half.f (-3) 1).bind fun t115 => (if t115 = (-2) then ((fix_Ratio.f 7 2).bind fun t116 => (if t116 = 4 then ((fix_Wide.f 1099511627776).bind fun t117 => (if t117 = 2147483647 then ((fix_Narrow.f (-1099511627776)).bind fun t118 => (if t118 = (-8388608) then ((fix_Add.f 2147483647 1).bind fun t119 => (if t119 = 2147483647 then ((fix_Sub.f 1 2).bind fun t120 => (if t120 = (-1) then ((fix_Div.f k 65536 131072).bind fun t121 => (if t121 = 32768 then ((fix_Div.f k (-1) 0).bind fun t122 => (if t122 = (-2147483648) then ((fix_Of.f 3).bind fun t123 => (some (t123 == 196608))) else (some false))) else (some false))) else (some false))) else (some false))) else (some false))) else (some false))) else (some false))) else (some false))) else (some false))) else (some false))) else (some false))
theorem credenzalaw01_awake.mono : ∀ k, LeO (credenzalaw01_awake.f k ) (credenzalaw01_awake.f (k + 1) ) := by
  intro  k
  unfold credenzalaw01_awake.f
  repeat' first
      | (with_reducible exact fix_Div.mono _ _ _)
      | (with_reducible exact LeO.refl _)
      | (with_reducible exact LeO.none _)
      | (with_reducible refine LeO.ite ?_ ?_)
      | (with_reducible refine LeO.bind ?_ (fun _ => ?_))
      | exact fix_Div.mono _ _ _
      | exact LeO.none _
      | refine LeO.ite ?_ ?_
      | refine LeO.bind ?_ (fun _ => ?_)
set_option maxHeartbeats 8000000 in
set_option maxRecDepth 100000 in
theorem credenzalaw01_awake.calls (k : Nat)  (r : Bool) (w : World) (h : credenzalaw01_awake.f k  = some r) :
    Calls Try.prog 18 #[] w fun e w' => e = .returned (.bool r) ∧ Below w.heap.size w w' := by
  have HB := Aside0.mk (Below.refl w.heap.size w)
  have H : ((fix_Mul.f 98304 98304).bind fun t112 => (if t112 = 147456 then ((fix_Half.f 3 1).bind fun t113 => (if t113 = 2 then ((fix_Half.f 5 1).bind fun t114 => (if t114 = 2 then ((fix_Half.f (-3) 1).bind fun t115 => (if t115 = (-2) then ((fix_Ratio.f 7 2).bind fun t116 => (if t116 = 4 then ((fix_Wide.f 1099511627776).bind fun t117 => (if t117 = 2147483647 then ((fix_Narrow.f (-1099511627776)).bind fun t118 => (if t118 = (-8388608) then ((fix_Add.f 2147483647 1).bind fun t119 => (if t119 = 2147483647 then ((fix_Sub.f 1 2).bind fun t120 => (if t120 = (-1) then ((fix_Div.f k 65536 131072).bind fun t121 => (if t121 = 32768 then ((fix_Div.f k (-1) 0).bind fun t122 => (if t122 = (-2147483648) then ((fix_Of.f 3).bind fun t123 => (some (t123 == 196608))) else (some false))) else (some false))) else (some false))) else (some false))) else (some false))) else (some false))) else (some false))) else (some false))) else (some false))) else (some false))) else (some false))) = some r := h
  clear h
  replace H := Option.bind_eq_some_iff.mp H
  obtain ⟨t112, A10, H⟩ := H
  replace H : (if t112 = 147456 then ((fix_Half.f 3 1).bind fun t113 => (if t113 = 2 then ((fix_Half.f 5 1).bind fun t114 => (if t114 = 2 then ((fix_Half.f (-3) 1).bind fun t115 => (if t115 = (-2) then ((fix_Ratio.f 7 2).bind fun t116 => (if t116 = 4 then ((fix_Wide.f 1099511627776).bind fun t117 => (if t117 = 2147483647 then ((fix_Narrow.f (-1099511627776)).bind fun t118 => (if t118 = (-8388608) then ((fix_Add.f 2147483647 1).bind fun t119 => (if t119 = 2147483647 then ((fix_Sub.f 1 2).bind fun t120 => (if t120 = (-1) then ((fix_Div.f k 65536 131072).bind fun t121 => (if t121 = 32768 then ((fix_Div.f k (-1) 0).bind fun t122 => (if t122 = (-2147483648) then ((fix_Of.f 3).bind fun t123 => (some (t123 == 196608))) else (some false))) else (some false))) else (some false))) else (some false))) else (some false))) else (some false))) else (some false))) else (some false))) else (some false))) else (some false))) else (some false)) = some r := H
  have A1 := Aside0.mk A10
  clear A10
  by_cases c2 : t112 = 147456
  · rw [if_pos c2] at H
    have c2b0 : (t112 == 147456) = true := beq_iff_eq.mpr c2
    have c2b1 : (t112 != 147456) = false := bne_eq_false_iff_eq.mpr c2
    clear c2
    replace H := Option.bind_eq_some_iff.mp H
    obtain ⟨t113, A30, H⟩ := H
    replace H : (if t113 = 2 then ((fix_Half.f 5 1).bind fun t114 => (if t114 = 2 then ((fix_Half.f (-3) 1).bind fun t115 => (if t115 = (-2) then ((fix_Ratio.f 7 2).bind fun t116 => (if t116 = 4 then ((fix_Wide.f 1099511627776).bind fun t117 => (if t117 = 2147483647 then ((fix_Narrow.f (-1099511627776)).bind fun t118 => (if t118 = (-8388608) then ((fix_Add.f 2147483647 1).bind fun t119 => (if t119 = 2147483647 then ((fix_Sub.f 1 2).bind fun t120 => (if t120 = (-1) then ((fix_Div.f k 65536 131072).bind fun t121 => (if t121 = 32768 then ((fix_Div.f k (-1) 0).bind fun t122 => (if t122 = (-2147483648) then ((fix_Of.f 3).bind fun t123 => (some (t123 == 196608))) else (some false))) else (some false))) else (some false))) else (some false))) else (some false))) else (some false))) else (some false))) else (some false))) else (some false))) else (some false)) = some r := H
    have A3 := Aside0.mk A30
    clear A30
    by_cases c4 : t113 = 2
    · rw [if_pos c4] at H
      have c4b0 : (t113 == 2) = true := beq_iff_eq.mpr c4
      have c4b1 : (t113 != 2) = false := bne_eq_false_iff_eq.mpr c4
      clear c4
      replace H := Option.bind_eq_some_iff.mp H
      obtain ⟨t114, A50, H⟩ := H
      replace H : (if t114 = 2 then ((fix_Half.f (-3) 1).bind fun t115 => (if t115 = (-2) then ((fix_Ratio.f 7 2).bind fun t116 => (if t116 = 4 then ((fix_Wide.f 1099511627776).bind fun t117 => (if t117 = 2147483647 then ((fix_Narrow.f (-1099511627776)).bind fun t118 => (if t118 = (-8388608) then ((fix_Add.f 2147483647 1).bind fun t119 => (if t119 = 2147483647 then ((fix_Sub.f 1 2).bind fun t120 => (if t120 = (-1) then ((fix_Div.f k 65536 131072).bind fun t121 => (if t121 = 32768 then ((fix_Div.f k (-1) 0).bind fun t122 => (if t122 = (-2147483648) then ((fix_Of.f 3).bind fun t123 => (some (t123 == 196608))) else (some false))) else (some false))) else (some false))) else (some false))) else (some false))) else (some false))) else (some false))) else (some false))) else (some false)) = some r := H
      have A5 := Aside0.mk A50
      clear A50
      by_cases c6 : t114 = 2
      · rw [if_pos c6] at H
        have c6b0 : (t114 == 2) = true := beq_iff_eq.mpr c6
        have c6b1 : (t114 != 2) = false := bne_eq_false_iff_eq.mpr c6
        clear c6
        replace H := Option.bind_eq_some_iff.mp H
        obtain ⟨t115, A70, H⟩ := H
        replace H : (if t115 = (-2) then ((fix_Ratio.f 7 2).bind fun t116 => (if t116 = 4 then ((fix_Wide.f 1099511627776).bind fun t117 => (if t117 = 2147483647 then ((fix_Narrow.f (-1099511627776)).bind fun t118 => (if t118 = (-8388608) then ((fix_Add.f 2147483647 1).bind fun t119 => (if t119 = 2147483647 then ((fix_Sub.f 1 2).bind fun t120 => (if t120 = (-1) then ((fix_Div.f k 65536 131072).bind fun t121 => (if t121 = 32768 then ((fix_Div.f k (-1) 0).bind fun t122 => (if t122 = (-2147483648) then ((fix_Of.f 3).bind fun t123 => (some (t123 == 196608))) else (some false))) else (some false))) else (some false))) else (some false))) else (some false))) else (some false))) else (some false))) else (some false)) = some r := H
        have A7 := Aside0.mk A70
        clear A70
        by_cases c8 : t115 = (-2)
        · rw [if_pos c8] at H
          have c8b0 : (t115 == (-2)) = true := beq_iff_eq.mpr c8
          have c8b1 : (t115 != (-2)) = false := bne_eq_false_iff_eq.mpr c8
          clear c8
          replace H := Option.bind_eq_some_iff.mp H
          obtain ⟨t116, A90, H⟩ := H
          replace H : (if t116 = 4 then ((fix_Wide.f 1099511627776).bind fun t117 => (if t117 = 2147483647 then ((fix_Narrow.f (-1099511627776)).bind fun t118 => (if t118 = (-8388608) then ((fix_Add.f 2147483647 1).bind fun t119 => (if t119 = 2147483647 then ((fix_Sub.f 1 2).bind fun t120 => (if t120 = (-1) then ((fix_Div.f k 65536 131072).bind fun t121 => (if t121 = 32768 then ((fix_Div.f k (-1) 0).bind fun t122 => (if t122 = (-2147483648) then ((fix_Of.f 3).bind fun t123 => (some (t123 == 196608))) else (some false))) else (some false))) else (some false))) else (some false))) else (some false))) else (some false))) else (some false)) = some r := H
          have A9 := Aside0.mk A90
          clear A90
          by_cases c10 : t116 = 4
          · rw [if_pos c10] at H
            have c10b0 : (t116 == 4) = true := beq_iff_eq.mpr c10
            have c10b1 : (t116 != 4) = false := bne_eq_false_iff_eq.mpr c10
            clear c10
            replace H := Option.bind_eq_some_iff.mp H
            obtain ⟨t117, A110, H⟩ := H
            replace H : (if t117 = 2147483647 then ((fix_Narrow.f (-1099511627776)).bind fun t118 => (if t118 = (-8388608) then ((fix_Add.f 2147483647 1).bind fun t119 => (if t119 = 2147483647 then ((fix_Sub.f 1 2).bind fun t120 => (if t120 = (-1) then ((fix_Div.f k 65536 131072).bind fun t121 => (if t121 = 32768 then ((fix_Div.f k (-1) 0).bind fun t122 => (if t122 = (-2147483648) then ((fix_Of.f 3).bind fun t123 => (some (t123 == 196608))) else (some false))) else (some false))) else (some false))) else (some false))) else (some false))) else (some false)) = some r := H
            have A11 := Aside0.mk A110
            clear A110
            by_cases c12 : t117 = 2147483647
            · rw [if_pos c12] at H
              have c12b0 : (t117 == 2147483647) = true := beq_iff_eq.mpr c12
              have c12b1 : (t117 != 2147483647) = false := bne_eq_false_iff_eq.mpr c12
              clear c12
              replace H := Option.bind_eq_some_iff.mp H
              obtain ⟨t118, A130, H⟩ := H
              replace H : (if t118 = (-8388608) then ((fix_Add.f 2147483647 1).bind fun t119 => (if t119 = 2147483647 then ((fix_Sub.f 1 2).bind fun t120 => (if t120 = (-1) then ((fix_Div.f k 65536 131072).bind fun t121 => (if t121 = 32768 then ((fix_Div.f k (-1) 0).bind fun t122 => (if t122 = (-2147483648) then ((fix_Of.f 3).bind fun t123 => (some (t123 == 196608))) else (some false))) else (some false))) else (some false))) else (some false))) else (some false)) = some r := H
              have A13 := Aside0.mk A130
              clear A130
              by_cases c14 : t118 = (-8388608)
              · rw [if_pos c14] at H
                have c14b0 : (t118 == (-8388608)) = true := beq_iff_eq.mpr c14
                have c14b1 : (t118 != (-8388608)) = false := bne_eq_false_iff_eq.mpr c14
                clear c14
                replace H := Option.bind_eq_some_iff.mp H
                obtain ⟨t119, A150, H⟩ := H
                replace H : (if t119 = 2147483647 then ((fix_Sub.f 1 2).bind fun t120 => (if t120 = (-1) then ((fix_Div.f k 65536 131072).bind fun t121 => (if t121 = 32768 then ((fix_Div.f k (-1) 0).bind fun t122 => (if t122 = (-2147483648) then ((fix_Of.f 3).bind fun t123 => (some (t123 == 196608))) else (some false))) else (some false))) else (some false))) else (some false)) = some r := H
                have A15 := Aside0.mk A150
                clear A150
                by_cases c16 : t119 = 2147483647
                · rw [if_pos c16] at H
                  have c16b0 : (t119 == 2147483647) = true := beq_iff_eq.mpr c16
                  have c16b1 : (t119 != 2147483647) = false := bne_eq_false_iff_eq.mpr c16
                  clear c16
                  replace H := Option.bind_eq_some_iff.mp H
                  obtain ⟨t120, A170, H⟩ := H
                  replace H : (if t120 = (-1) then ((fix_Div.f k 65536 131072).bind fun t121 => (if t121 = 32768 then ((fix_Div.f k (-1) 0).bind fun t122 => (if t122 = (-2147483648) then ((fix_Of.f 3).bind fun t123 => (some (t123 == 196608))) else (some false))) else (some false))) else (some false)) = some r := H
                  have A17 := Aside0.mk A170
                  clear A170
                  by_cases c18 : t120 = (-1)
                  · rw [if_pos c18] at H
                    have c18b0 : (t120 == (-1)) = true := beq_iff_eq.mpr c18
                    have c18b1 : (t120 != (-1)) = false := bne_eq_false_iff_eq.mpr c18
                    clear c18
                    replace H := Option.bind_eq_some_iff.mp H
                    obtain ⟨t121, A190, H⟩ := H
                    replace H : (if t121 = 32768 then ((fix_Div.f k (-1) 0).bind fun t122 => (if t122 = (-2147483648) then ((fix_Of.f 3).bind fun t123 => (some (t123 == 196608))) else (some false))) else (some false)) = some r := H
                    have A19 := Aside0.mk A190
                    clear A190
                    by_cases c20 : t121 = 32768
                    · rw [if_pos c20] at H
                      have c20b0 : (t121 == 32768) = true := beq_iff_eq.mpr c20
                      have c20b1 : (t121 != 32768) = false := bne_eq_false_iff_eq.mpr c20
                      clear c20
                      replace H := Option.bind_eq_some_iff.mp H
                      obtain ⟨t122, A210, H⟩ := H
                      replace H : (if t122 = (-2147483648) then ((fix_Of.f 3).bind fun t123 => (some (t123 == 196608))) else (some false)) = some r := H
                      have A21 := Aside0.mk A210
                      clear A210
                      by_cases c22 : t122 = (-2147483648)
                      · rw [if_pos c22] at H
                        have c22b0 : (t122 == (-2147483648)) = true := beq_iff_eq.mpr c22
                        have c22b1 : (t122 != (-2147483648)) = false := bne_eq_false_iff_eq.mpr c22
                        clear c22
                        replace H := Option.bind_eq_some_iff.mp H
                        obtain ⟨t123, A230, H⟩ := H
                        replace H : (some (t123 == 196608)) = some r := H
                        have A23 := Aside0.mk A230
                        clear A230
                        obtain rfl := Option.some.inj H
                        go_enter Try.func18, Try.ntmps18
                        go_wp2_with (first | ((with_reducible refine gate_callee (f := 26) rfl ?_); refine goesL_ (some 1) rfl rfl Try.func26 (by kernel_rfl) rfl #[.int .i32 98304, .int .i32 98304] rfl (by (try simp only [List.map_toArray, List.map_cons, List.map_nil]); first | done | rfl | (simp only [List.length_drop, List.length_take]; rfl)) ?_; (with_reducible refine (fix_Mul.calls 98304 98304 t112 _ A1.out).mono ?_); rintro e w24 ⟨rfl, hb⟩; refine ⟨_, rfl, ?_⟩; have n0_ := Aside0.mk (below_step (by repeat (first | (with_reducible first | exact HB.out | apply below_alloc | apply pw_below_drewN | apply below_drew1) | exact HB.out)) hb); clear HB; have HB := n0_; clear n0_; (try clear hb); (try clear hb2); (try clear hk); (try clear hi)) | (go_at_call 15; (with_reducible refine (fix_Half.calls 3 1 t113 _ A3.out).mono ?_); rintro e w25 ⟨rfl, hb⟩; have n0_ := Aside0.mk (below_step (by repeat (first | (with_reducible first | exact HB.out | apply below_alloc | apply pw_below_drewN | apply below_drew1) | exact HB.out)) hb); clear HB; have HB := n0_; clear n0_; (try clear hb); (try clear hb2); (try clear hk); (try clear hi)) | (go_at_call 15; (with_reducible refine (fix_Half.calls 5 1 t114 _ A5.out).mono ?_); rintro e w26 ⟨rfl, hb⟩; have n0_ := Aside0.mk (below_step (by repeat (first | (with_reducible first | exact HB.out | apply below_alloc | apply pw_below_drewN | apply below_drew1) | exact HB.out)) hb); clear HB; have HB := n0_; clear n0_; (try clear hb); (try clear hb2); (try clear hk); (try clear hi)) | (go_at_call 15; (with_reducible refine (fix_Half.calls (-3) 1 t115 _ A7.out).mono ?_); rintro e w27 ⟨rfl, hb⟩; have n0_ := Aside0.mk (below_step (by repeat (first | (with_reducible first | exact HB.out | apply below_alloc | apply pw_below_drewN | apply below_drew1) | exact HB.out)) hb); clear HB; have HB := n0_; clear n0_; (try clear hb); (try clear hb2); (try clear hk); (try clear hi)) | (go_at_call 17; (with_reducible refine (fix_Ratio.calls 7 2 t116 _ A9.out).mono ?_); rintro e w' ⟨rfl, ⟨nd, rfl⟩⟩) | (go_at_call 20; (with_reducible refine (fix_Wide.calls 1099511627776 t117 _ A11.out).mono ?_); rintro e w28 ⟨rfl, hb⟩; have n0_ := Aside0.mk (below_step (by repeat (first | (with_reducible first | exact HB.out | apply below_alloc | apply pw_below_drewN | apply below_drew1) | exact HB.out)) hb); clear HB; have HB := n0_; clear n0_; (try clear hb); (try clear hb2); (try clear hk); (try clear hi)) | (go_at_call 21; (with_reducible refine (fix_Narrow.calls (-1099511627776) t118 _ A13.out).mono ?_); rintro e w29 ⟨rfl, hb⟩; have n0_ := Aside0.mk (below_step (by repeat (first | (with_reducible first | exact HB.out | apply below_alloc | apply pw_below_drewN | apply below_drew1) | exact HB.out)) hb); clear HB; have HB := n0_; clear n0_; (try clear hb); (try clear hb2); (try clear hk); (try clear hi)) | (go_at_call 24; (with_reducible refine (fix_Add.calls 2147483647 1 t119 _ A15.out).mono ?_); rintro e w30 ⟨rfl, hb⟩; have n0_ := Aside0.mk (below_step (by repeat (first | (with_reducible first | exact HB.out | apply below_alloc | apply pw_below_drewN | apply below_drew1) | exact HB.out)) hb); clear HB; have HB := n0_; clear n0_; (try clear hb); (try clear hb2); (try clear hk); (try clear hi)) | (go_at_call 25; (with_reducible refine (fix_Sub.calls 1 2 t120 _ A17.out).mono ?_); rintro e w31 ⟨rfl, hb⟩; have n0_ := Aside0.mk (below_step (by repeat (first | (with_reducible first | exact HB.out | apply below_alloc | apply pw_below_drewN | apply below_drew1) | exact HB.out)) hb); clear HB; have HB := n0_; clear n0_; (try clear hb); (try clear hb2); (try clear hk); (try clear hi)) | (go_at_call 28; (with_reducible refine (fix_Div.calls k 65536 131072 t121 _ A19.out).mono ?_); rintro e w32 ⟨rfl, hb⟩; have n0_ := Aside0.mk (below_step (by repeat (first | (with_reducible first | exact HB.out | apply below_alloc | apply pw_below_drewN | apply below_drew1) | exact HB.out)) hb); clear HB; have HB := n0_; clear n0_; (try clear hb); (try clear hb2); (try clear hk); (try clear hi)) | (go_at_call 28; (with_reducible refine (fix_Div.calls k (-1) 0 t122 _ A21.out).mono ?_); rintro e w33 ⟨rfl, hb⟩; have n0_ := Aside0.mk (below_step (by repeat (first | (with_reducible first | exact HB.out | apply below_alloc | apply pw_below_drewN | apply below_drew1) | exact HB.out)) hb); clear HB; have HB := n0_; clear n0_; (try clear hb); (try clear hb2); (try clear hk); (try clear hi)) | (go_at_call 30; (with_reducible refine (fix_Of.calls 3 t123 _ A23.out).mono ?_); rintro e w34 ⟨rfl, hb⟩; have n0_ := Aside0.mk (below_step (by repeat (first | (with_reducible first | exact HB.out | apply below_alloc | apply pw_below_drewN | apply below_drew1) | exact HB.out)) hb); clear HB; have HB := n0_; clear n0_; (try clear hb); (try clear hb2); (try clear hk); (try clear hi)))
                        go_ret
                        exact ⟨by first | rfl | (simp [errW_none, errW_some] <;> rfl) | (simp [*, errW_none, errW_some] <;> rfl), by repeat (first | (with_reducible first | exact HB.out | apply below_alloc | apply pw_below_drewN | apply below_drew1) | exact HB.out)⟩
                      · rw [if_neg c22] at H
                        have c22b0 : (t122 == (-2147483648)) = false := beq_eq_false_iff_ne.mpr c22
                        have c22b1 : (t122 != (-2147483648)) = true := bne_iff_ne.mpr c22
                        obtain rfl := Option.some.inj H
                        go_enter Try.func18, Try.ntmps18
                        go_wp2_with (first | ((with_reducible refine gate_callee (f := 26) rfl ?_); refine goesL_ (some 1) rfl rfl Try.func26 (by kernel_rfl) rfl #[.int .i32 98304, .int .i32 98304] rfl (by (try simp only [List.map_toArray, List.map_cons, List.map_nil]); first | done | rfl | (simp only [List.length_drop, List.length_take]; rfl)) ?_; (with_reducible refine (fix_Mul.calls 98304 98304 t112 _ A1.out).mono ?_); rintro e w35 ⟨rfl, hb⟩; refine ⟨_, rfl, ?_⟩; have n0_ := Aside0.mk (below_step (by repeat (first | (with_reducible first | exact HB.out | apply below_alloc | apply pw_below_drewN | apply below_drew1) | exact HB.out)) hb); clear HB; have HB := n0_; clear n0_; (try clear hb); (try clear hb2); (try clear hk); (try clear hi)) | (go_at_call 15; (with_reducible refine (fix_Half.calls 3 1 t113 _ A3.out).mono ?_); rintro e w36 ⟨rfl, hb⟩; have n0_ := Aside0.mk (below_step (by repeat (first | (with_reducible first | exact HB.out | apply below_alloc | apply pw_below_drewN | apply below_drew1) | exact HB.out)) hb); clear HB; have HB := n0_; clear n0_; (try clear hb); (try clear hb2); (try clear hk); (try clear hi)) | (go_at_call 15; (with_reducible refine (fix_Half.calls 5 1 t114 _ A5.out).mono ?_); rintro e w37 ⟨rfl, hb⟩; have n0_ := Aside0.mk (below_step (by repeat (first | (with_reducible first | exact HB.out | apply below_alloc | apply pw_below_drewN | apply below_drew1) | exact HB.out)) hb); clear HB; have HB := n0_; clear n0_; (try clear hb); (try clear hb2); (try clear hk); (try clear hi)) | (go_at_call 15; (with_reducible refine (fix_Half.calls (-3) 1 t115 _ A7.out).mono ?_); rintro e w38 ⟨rfl, hb⟩; have n0_ := Aside0.mk (below_step (by repeat (first | (with_reducible first | exact HB.out | apply below_alloc | apply pw_below_drewN | apply below_drew1) | exact HB.out)) hb); clear HB; have HB := n0_; clear n0_; (try clear hb); (try clear hb2); (try clear hk); (try clear hi)) | (go_at_call 17; (with_reducible refine (fix_Ratio.calls 7 2 t116 _ A9.out).mono ?_); rintro e w' ⟨rfl, ⟨nd, rfl⟩⟩) | (go_at_call 20; (with_reducible refine (fix_Wide.calls 1099511627776 t117 _ A11.out).mono ?_); rintro e w39 ⟨rfl, hb⟩; have n0_ := Aside0.mk (below_step (by repeat (first | (with_reducible first | exact HB.out | apply below_alloc | apply pw_below_drewN | apply below_drew1) | exact HB.out)) hb); clear HB; have HB := n0_; clear n0_; (try clear hb); (try clear hb2); (try clear hk); (try clear hi)) | (go_at_call 21; (with_reducible refine (fix_Narrow.calls (-1099511627776) t118 _ A13.out).mono ?_); rintro e w40 ⟨rfl, hb⟩; have n0_ := Aside0.mk (below_step (by repeat (first | (with_reducible first | exact HB.out | apply below_alloc | apply pw_below_drewN | apply below_drew1) | exact HB.out)) hb); clear HB; have HB := n0_; clear n0_; (try clear hb); (try clear hb2); (try clear hk); (try clear hi)) | (go_at_call 24; (with_reducible refine (fix_Add.calls 2147483647 1 t119 _ A15.out).mono ?_); rintro e w41 ⟨rfl, hb⟩; have n0_ := Aside0.mk (below_step (by repeat (first | (with_reducible first | exact HB.out | apply below_alloc | apply pw_below_drewN | apply below_drew1) | exact HB.out)) hb); clear HB; have HB := n0_; clear n0_; (try clear hb); (try clear hb2); (try clear hk); (try clear hi)) | (go_at_call 25; (with_reducible refine (fix_Sub.calls 1 2 t120 _ A17.out).mono ?_); rintro e w42 ⟨rfl, hb⟩; have n0_ := Aside0.mk (below_step (by repeat (first | (with_reducible first | exact HB.out | apply below_alloc | apply pw_below_drewN | apply below_drew1) | exact HB.out)) hb); clear HB; have HB := n0_; clear n0_; (try clear hb); (try clear hb2); (try clear hk); (try clear hi)) | (go_at_call 28; (with_reducible refine (fix_Div.calls k 65536 131072 t121 _ A19.out).mono ?_); rintro e w43 ⟨rfl, hb⟩; have n0_ := Aside0.mk (below_step (by repeat (first | (with_reducible first | exact HB.out | apply below_alloc | apply pw_below_drewN | apply below_drew1) | exact HB.out)) hb); clear HB; have HB := n0_; clear n0_; (try clear hb); (try clear hb2); (try clear hk); (try clear hi)) | (go_at_call 28; (with_reducible refine (fix_Div.calls k (-1) 0 t122 _ A21.out).mono ?_); rintro e w44 ⟨rfl, hb⟩; have n0_ := Aside0.mk (below_step (by repeat (first | (with_reducible first | exact HB.out | apply below_alloc | apply pw_below_drewN | apply below_drew1) | exact HB.out)) hb); clear HB; have HB := n0_; clear n0_; (try clear hb); (try clear hb2); (try clear hk); (try clear hi)))
                        go_ret
                        exact ⟨by first | rfl | (simp [errW_none, errW_some] <;> rfl) | (simp [*, errW_none, errW_some] <;> rfl), by repeat (first | (with_reducible first | exact HB.out | apply below_alloc | apply pw_below_drewN | apply below_drew1) | exact HB.out)⟩
                    · rw [if_neg c20] at H
                      have c20b0 : (t121 == 32768) = false := beq_eq_false_iff_ne.mpr c20
                      have c20b1 : (t121 != 32768) = true := bne_iff_ne.mpr c20
                      obtain rfl := Option.some.inj H
                      go_enter Try.func18, Try.ntmps18
                      go_wp2_with (first | ((with_reducible refine gate_callee (f := 26) rfl ?_); refine goesL_ (some 1) rfl rfl Try.func26 (by kernel_rfl) rfl #[.int .i32 98304, .int .i32 98304] rfl (by (try simp only [List.map_toArray, List.map_cons, List.map_nil]); first | done | rfl | (simp only [List.length_drop, List.length_take]; rfl)) ?_; (with_reducible refine (fix_Mul.calls 98304 98304 t112 _ A1.out).mono ?_); rintro e w45 ⟨rfl, hb⟩; refine ⟨_, rfl, ?_⟩; have n0_ := Aside0.mk (below_step (by repeat (first | (with_reducible first | exact HB.out | apply below_alloc | apply pw_below_drewN | apply below_drew1) | exact HB.out)) hb); clear HB; have HB := n0_; clear n0_; (try clear hb); (try clear hb2); (try clear hk); (try clear hi)) | (go_at_call 15; (with_reducible refine (fix_Half.calls 3 1 t113 _ A3.out).mono ?_); rintro e w46 ⟨rfl, hb⟩; have n0_ := Aside0.mk (below_step (by repeat (first | (with_reducible first | exact HB.out | apply below_alloc | apply pw_below_drewN | apply below_drew1) | exact HB.out)) hb); clear HB; have HB := n0_; clear n0_; (try clear hb); (try clear hb2); (try clear hk); (try clear hi)) | (go_at_call 15; (with_reducible refine (fix_Half.calls 5 1 t114 _ A5.out).mono ?_); rintro e w47 ⟨rfl, hb⟩; have n0_ := Aside0.mk (below_step (by repeat (first | (with_reducible first | exact HB.out | apply below_alloc | apply pw_below_drewN | apply below_drew1) | exact HB.out)) hb); clear HB; have HB := n0_; clear n0_; (try clear hb); (try clear hb2); (try clear hk); (try clear hi)) | (go_at_call 15; (with_reducible refine (fix_Half.calls (-3) 1 t115 _ A7.out).mono ?_); rintro e w48 ⟨rfl, hb⟩; have n0_ := Aside0.mk (below_step (by repeat (first | (with_reducible first | exact HB.out | apply below_alloc | apply pw_below_drewN | apply below_drew1) | exact HB.out)) hb); clear HB; have HB := n0_; clear n0_; (try clear hb); (try clear hb2); (try clear hk); (try clear hi)) | (go_at_call 17; (with_reducible refine (fix_Ratio.calls 7 2 t116 _ A9.out).mono ?_); rintro e w' ⟨rfl, ⟨nd, rfl⟩⟩) | (go_at_call 20; (with_reducible refine (fix_Wide.calls 1099511627776 t117 _ A11.out).mono ?_); rintro e w49 ⟨rfl, hb⟩; have n0_ := Aside0.mk (below_step (by repeat (first | (with_reducible first | exact HB.out | apply below_alloc | apply pw_below_drewN | apply below_drew1) | exact HB.out)) hb); clear HB; have HB := n0_; clear n0_; (try clear hb); (try clear hb2); (try clear hk); (try clear hi)) | (go_at_call 21; (with_reducible refine (fix_Narrow.calls (-1099511627776) t118 _ A13.out).mono ?_); rintro e w50 ⟨rfl, hb⟩; have n0_ := Aside0.mk (below_step (by repeat (first | (with_reducible first | exact HB.out | apply below_alloc | apply pw_below_drewN | apply below_drew1) | exact HB.out)) hb); clear HB; have HB := n0_; clear n0_; (try clear hb); (try clear hb2); (try clear hk); (try clear hi)) | (go_at_call 24; (with_reducible refine (fix_Add.calls 2147483647 1 t119 _ A15.out).mono ?_); rintro e w51 ⟨rfl, hb⟩; have n0_ := Aside0.mk (below_step (by repeat (first | (with_reducible first | exact HB.out | apply below_alloc | apply pw_below_drewN | apply below_drew1) | exact HB.out)) hb); clear HB; have HB := n0_; clear n0_; (try clear hb); (try clear hb2); (try clear hk); (try clear hi)) | (go_at_call 25; (with_reducible refine (fix_Sub.calls 1 2 t120 _ A17.out).mono ?_); rintro e w52 ⟨rfl, hb⟩; have n0_ := Aside0.mk (below_step (by repeat (first | (with_reducible first | exact HB.out | apply below_alloc | apply pw_below_drewN | apply below_drew1) | exact HB.out)) hb); clear HB; have HB := n0_; clear n0_; (try clear hb); (try clear hb2); (try clear hk); (try clear hi)) | (go_at_call 28; (with_reducible refine (fix_Div.calls k 65536 131072 t121 _ A19.out).mono ?_); rintro e w53 ⟨rfl, hb⟩; have n0_ := Aside0.mk (below_step (by repeat (first | (with_reducible first | exact HB.out | apply below_alloc | apply pw_below_drewN | apply below_drew1) | exact HB.out)) hb); clear HB; have HB := n0_; clear n0_; (try clear hb); (try clear hb2); (try clear hk); (try clear hi)))
                      go_ret
                      exact ⟨by first | rfl | (simp [errW_none, errW_some] <;> rfl) | (simp [*, errW_none, errW_some] <;> rfl), by repeat (first | (with_reducible first | exact HB.out | apply below_alloc | apply pw_below_drewN | apply below_drew1) | exact HB.out)⟩
                  · rw [if_neg c18] at H
                    have c18b0 : (t120 == (-1)) = false := beq_eq_false_iff_ne.mpr c18
                    have c18b1 : (t120 != (-1)) = true := bne_iff_ne.mpr c18
                    obtain rfl := Option.some.inj H
                    go_enter Try.func18, Try.ntmps18
                    go_wp2_with (first | ((with_reducible refine gate_callee (f := 26) rfl ?_); refine goesL_ (some 1) rfl rfl Try.func26 (by kernel_rfl) rfl #[.int .i32 98304, .int .i32 98304] rfl (by (try simp only [List.map_toArray, List.map_cons, List.map_nil]); first | done | rfl | (simp only [List.length_drop, List.length_take]; rfl)) ?_; (with_reducible refine (fix_Mul.calls 98304 98304 t112 _ A1.out).mono ?_); rintro e w54 ⟨rfl, hb⟩; refine ⟨_, rfl, ?_⟩; have n0_ := Aside0.mk (below_step (by repeat (first | (with_reducible first | exact HB.out | apply below_alloc | apply pw_below_drewN | apply below_drew1) | exact HB.out)) hb); clear HB; have HB := n0_; clear n0_; (try clear hb); (try clear hb2); (try clear hk); (try clear hi)) | (go_at_call 15; (with_reducible refine (fix_Half.calls 3 1 t113 _ A3.out).mono ?_); rintro e w55 ⟨rfl, hb⟩; have n0_ := Aside0.mk (below_step (by repeat (first | (with_reducible first | exact HB.out | apply below_alloc | apply pw_below_drewN | apply below_drew1) | exact HB.out)) hb); clear HB; have HB := n0_; clear n0_; (try clear hb); (try clear hb2); (try clear hk); (try clear hi)) | (go_at_call 15; (with_reducible refine (fix_Half.calls 5 1 t114 _ A5.out).mono ?_); rintro e w56 ⟨rfl, hb⟩; have n0_ := Aside0.mk (below_step (by repeat (first | (with_reducible first | exact HB.out | apply below_alloc | apply pw_below_drewN | apply below_drew1) | exact HB.out)) hb); clear HB; have HB := n0_; clear n0_; (try clear hb); (try clear hb2); (try clear hk); (try clear hi)) | (go_at_call 15; (with_reducible refine (fix_Half.calls (-3) 1 t115 _ A7.out).mono ?_); rintro e w57 ⟨rfl, hb⟩; have n0_ := Aside0.mk (below_step (by repeat (first | (with_reducible first | exact HB.out | apply below_alloc | apply pw_below_drewN | apply below_drew1) | exact HB.out)) hb); clear HB; have HB := n0_; clear n0_; (try clear hb); (try clear hb2); (try clear hk); (try clear hi)) | (go_at_call 17; (with_reducible refine (fix_Ratio.calls 7 2 t116 _ A9.out).mono ?_); rintro e w' ⟨rfl, ⟨nd, rfl⟩⟩) | (go_at_call 20; (with_reducible refine (fix_Wide.calls 1099511627776 t117 _ A11.out).mono ?_); rintro e w58 ⟨rfl, hb⟩; have n0_ := Aside0.mk (below_step (by repeat (first | (with_reducible first | exact HB.out | apply below_alloc | apply pw_below_drewN | apply below_drew1) | exact HB.out)) hb); clear HB; have HB := n0_; clear n0_; (try clear hb); (try clear hb2); (try clear hk); (try clear hi)) | (go_at_call 21; (with_reducible refine (fix_Narrow.calls (-1099511627776) t118 _ A13.out).mono ?_); rintro e w59 ⟨rfl, hb⟩; have n0_ := Aside0.mk (below_step (by repeat (first | (with_reducible first | exact HB.out | apply below_alloc | apply pw_below_drewN | apply below_drew1) | exact HB.out)) hb); clear HB; have HB := n0_; clear n0_; (try clear hb); (try clear hb2); (try clear hk); (try clear hi)) | (go_at_call 24; (with_reducible refine (fix_Add.calls 2147483647 1 t119 _ A15.out).mono ?_); rintro e w60 ⟨rfl, hb⟩; have n0_ := Aside0.mk (below_step (by repeat (first | (with_reducible first | exact HB.out | apply below_alloc | apply pw_below_drewN | apply below_drew1) | exact HB.out)) hb); clear HB; have HB := n0_; clear n0_; (try clear hb); (try clear hb2); (try clear hk); (try clear hi)) | (go_at_call 25; (with_reducible refine (fix_Sub.calls 1 2 t120 _ A17.out).mono ?_); rintro e w61 ⟨rfl, hb⟩; have n0_ := Aside0.mk (below_step (by repeat (first | (with_reducible first | exact HB.out | apply below_alloc | apply pw_below_drewN | apply below_drew1) | exact HB.out)) hb); clear HB; have HB := n0_; clear n0_; (try clear hb); (try clear hb2); (try clear hk); (try clear hi)))
                    go_ret
                    exact ⟨by first | rfl | (simp [errW_none, errW_some] <;> rfl) | (simp [*, errW_none, errW_some] <;> rfl), by repeat (first | (with_reducible first | exact HB.out | apply below_alloc | apply pw_below_drewN | apply below_drew1) | exact HB.out)⟩
                · rw [if_neg c16] at H
                  have c16b0 : (t119 == 2147483647) = false := beq_eq_false_iff_ne.mpr c16
                  have c16b1 : (t119 != 2147483647) = true := bne_iff_ne.mpr c16
                  obtain rfl := Option.some.inj H
                  go_enter Try.func18, Try.ntmps18
                  go_wp2_with (first | ((with_reducible refine gate_callee (f := 26) rfl ?_); refine goesL_ (some 1) rfl rfl Try.func26 (by kernel_rfl) rfl #[.int .i32 98304, .int .i32 98304] rfl (by (try simp only [List.map_toArray, List.map_cons, List.map_nil]); first | done | rfl | (simp only [List.length_drop, List.length_take]; rfl)) ?_; (with_reducible refine (fix_Mul.calls 98304 98304 t112 _ A1.out).mono ?_); rintro e w62 ⟨rfl, hb⟩; refine ⟨_, rfl, ?_⟩; have n0_ := Aside0.mk (below_step (by repeat (first | (with_reducible first | exact HB.out | apply below_alloc | apply pw_below_drewN | apply below_drew1) | exact HB.out)) hb); clear HB; have HB := n0_; clear n0_; (try clear hb); (try clear hb2); (try clear hk); (try clear hi)) | (go_at_call 15; (with_reducible refine (fix_Half.calls 3 1 t113 _ A3.out).mono ?_); rintro e w63 ⟨rfl, hb⟩; have n0_ := Aside0.mk (below_step (by repeat (first | (with_reducible first | exact HB.out | apply below_alloc | apply pw_below_drewN | apply below_drew1) | exact HB.out)) hb); clear HB; have HB := n0_; clear n0_; (try clear hb); (try clear hb2); (try clear hk); (try clear hi)) | (go_at_call 15; (with_reducible refine (fix_Half.calls 5 1 t114 _ A5.out).mono ?_); rintro e w64 ⟨rfl, hb⟩; have n0_ := Aside0.mk (below_step (by repeat (first | (with_reducible first | exact HB.out | apply below_alloc | apply pw_below_drewN | apply below_drew1) | exact HB.out)) hb); clear HB; have HB := n0_; clear n0_; (try clear hb); (try clear hb2); (try clear hk); (try clear hi)) | (go_at_call 15; (with_reducible refine (fix_Half.calls (-3) 1 t115 _ A7.out).mono ?_); rintro e w65 ⟨rfl, hb⟩; have n0_ := Aside0.mk (below_step (by repeat (first | (with_reducible first | exact HB.out | apply below_alloc | apply pw_below_drewN | apply below_drew1) | exact HB.out)) hb); clear HB; have HB := n0_; clear n0_; (try clear hb); (try clear hb2); (try clear hk); (try clear hi)) | (go_at_call 17; (with_reducible refine (fix_Ratio.calls 7 2 t116 _ A9.out).mono ?_); rintro e w' ⟨rfl, ⟨nd, rfl⟩⟩) | (go_at_call 20; (with_reducible refine (fix_Wide.calls 1099511627776 t117 _ A11.out).mono ?_); rintro e w66 ⟨rfl, hb⟩; have n0_ := Aside0.mk (below_step (by repeat (first | (with_reducible first | exact HB.out | apply below_alloc | apply pw_below_drewN | apply below_drew1) | exact HB.out)) hb); clear HB; have HB := n0_; clear n0_; (try clear hb); (try clear hb2); (try clear hk); (try clear hi)) | (go_at_call 21; (with_reducible refine (fix_Narrow.calls (-1099511627776) t118 _ A13.out).mono ?_); rintro e w67 ⟨rfl, hb⟩; have n0_ := Aside0.mk (below_step (by repeat (first | (with_reducible first | exact HB.out | apply below_alloc | apply pw_below_drewN | apply below_drew1) | exact HB.out)) hb); clear HB; have HB := n0_; clear n0_; (try clear hb); (try clear hb2); (try clear hk); (try clear hi)) | (go_at_call 24; (with_reducible refine (fix_Add.calls 2147483647 1 t119 _ A15.out).mono ?_); rintro e w68 ⟨rfl, hb⟩; have n0_ := Aside0.mk (below_step (by repeat (first | (with_reducible first | exact HB.out | apply below_alloc | apply pw_below_drewN | apply below_drew1) | exact HB.out)) hb); clear HB; have HB := n0_; clear n0_; (try clear hb); (try clear hb2); (try clear hk); (try clear hi)))
                  go_ret
                  exact ⟨by first | rfl | (simp [errW_none, errW_some] <;> rfl) | (simp [*, errW_none, errW_some] <;> rfl), by repeat (first | (with_reducible first | exact HB.out | apply below_alloc | apply pw_below_drewN | apply below_drew1) | exact HB.out)⟩
              · rw [if_neg c14] at H
                have c14b0 : (t118 == (-8388608)) = false := beq_eq_false_iff_ne.mpr c14
                have c14b1 : (t118 != (-8388608)) = true := bne_iff_ne.mpr c14
                obtain rfl := Option.some.inj H
                go_enter Try.func18, Try.ntmps18
                go_wp2_with (first | ((with_reducible refine gate_callee (f := 26) rfl ?_); refine goesL_ (some 1) rfl rfl Try.func26 (by kernel_rfl) rfl #[.int .i32 98304, .int .i32 98304] rfl (by (try simp only [List.map_toArray, List.map_cons, List.map_nil]); first | done | rfl | (simp only [List.length_drop, List.length_take]; rfl)) ?_; (with_reducible refine (fix_Mul.calls 98304 98304 t112 _ A1.out).mono ?_); rintro e w69 ⟨rfl, hb⟩; refine ⟨_, rfl, ?_⟩; have n0_ := Aside0.mk (below_step (by repeat (first | (with_reducible first | exact HB.out | apply below_alloc | apply pw_below_drewN | apply below_drew1) | exact HB.out)) hb); clear HB; have HB := n0_; clear n0_; (try clear hb); (try clear hb2); (try clear hk); (try clear hi)) | (go_at_call 15; (with_reducible refine (fix_Half.calls 3 1 t113 _ A3.out).mono ?_); rintro e w70 ⟨rfl, hb⟩; have n0_ := Aside0.mk (below_step (by repeat (first | (with_reducible first | exact HB.out | apply below_alloc | apply pw_below_drewN | apply below_drew1) | exact HB.out)) hb); clear HB; have HB := n0_; clear n0_; (try clear hb); (try clear hb2); (try clear hk); (try clear hi)) | (go_at_call 15; (with_reducible refine (fix_Half.calls 5 1 t114 _ A5.out).mono ?_); rintro e w71 ⟨rfl, hb⟩; have n0_ := Aside0.mk (below_step (by repeat (first | (with_reducible first | exact HB.out | apply below_alloc | apply pw_below_drewN | apply below_drew1) | exact HB.out)) hb); clear HB; have HB := n0_; clear n0_; (try clear hb); (try clear hb2); (try clear hk); (try clear hi)) | (go_at_call 15; (with_reducible refine (fix_Half.calls (-3) 1 t115 _ A7.out).mono ?_); rintro e w72 ⟨rfl, hb⟩; have n0_ := Aside0.mk (below_step (by repeat (first | (with_reducible first | exact HB.out | apply below_alloc | apply pw_below_drewN | apply below_drew1) | exact HB.out)) hb); clear HB; have HB := n0_; clear n0_; (try clear hb); (try clear hb2); (try clear hk); (try clear hi)) | (go_at_call 17; (with_reducible refine (fix_Ratio.calls 7 2 t116 _ A9.out).mono ?_); rintro e w' ⟨rfl, ⟨nd, rfl⟩⟩) | (go_at_call 20; (with_reducible refine (fix_Wide.calls 1099511627776 t117 _ A11.out).mono ?_); rintro e w73 ⟨rfl, hb⟩; have n0_ := Aside0.mk (below_step (by repeat (first | (with_reducible first | exact HB.out | apply below_alloc | apply pw_below_drewN | apply below_drew1) | exact HB.out)) hb); clear HB; have HB := n0_; clear n0_; (try clear hb); (try clear hb2); (try clear hk); (try clear hi)) | (go_at_call 21; (with_reducible refine (fix_Narrow.calls (-1099511627776) t118 _ A13.out).mono ?_); rintro e w74 ⟨rfl, hb⟩; have n0_ := Aside0.mk (below_step (by repeat (first | (with_reducible first | exact HB.out | apply below_alloc | apply pw_below_drewN | apply below_drew1) | exact HB.out)) hb); clear HB; have HB := n0_; clear n0_; (try clear hb); (try clear hb2); (try clear hk); (try clear hi)))
                go_ret
                exact ⟨by first | rfl | (simp [errW_none, errW_some] <;> rfl) | (simp [*, errW_none, errW_some] <;> rfl), by repeat (first | (with_reducible first | exact HB.out | apply below_alloc | apply pw_below_drewN | apply below_drew1) | exact HB.out)⟩
            · rw [if_neg c12] at H
              have c12b0 : (t117 == 2147483647) = false := beq_eq_false_iff_ne.mpr c12
              have c12b1 : (t117 != 2147483647) = true := bne_iff_ne.mpr c12
              obtain rfl := Option.some.inj H
              go_enter Try.func18, Try.ntmps18
              go_wp2_with (first | ((with_reducible refine gate_callee (f := 26) rfl ?_); refine goesL_ (some 1) rfl rfl Try.func26 (by kernel_rfl) rfl #[.int .i32 98304, .int .i32 98304] rfl (by (try simp only [List.map_toArray, List.map_cons, List.map_nil]); first | done | rfl | (simp only [List.length_drop, List.length_take]; rfl)) ?_; (with_reducible refine (fix_Mul.calls 98304 98304 t112 _ A1.out).mono ?_); rintro e w75 ⟨rfl, hb⟩; refine ⟨_, rfl, ?_⟩; have n0_ := Aside0.mk (below_step (by repeat (first | (with_reducible first | exact HB.out | apply below_alloc | apply pw_below_drewN | apply below_drew1) | exact HB.out)) hb); clear HB; have HB := n0_; clear n0_; (try clear hb); (try clear hb2); (try clear hk); (try clear hi)) | (go_at_call 15; (with_reducible refine (fix_Half.calls 3 1 t113 _ A3.out).mono ?_); rintro e w76 ⟨rfl, hb⟩; have n0_ := Aside0.mk (below_step (by repeat (first | (with_reducible first | exact HB.out | apply below_alloc | apply pw_below_drewN | apply below_drew1) | exact HB.out)) hb); clear HB; have HB := n0_; clear n0_; (try clear hb); (try clear hb2); (try clear hk); (try clear hi)) | (go_at_call 15; (with_reducible refine (fix_Half.calls 5 1 t114 _ A5.out).mono ?_); rintro e w77 ⟨rfl, hb⟩; have n0_ := Aside0.mk (below_step (by repeat (first | (with_reducible first | exact HB.out | apply below_alloc | apply pw_below_drewN | apply below_drew1) | exact HB.out)) hb); clear HB; have HB := n0_; clear n0_; (try clear hb); (try clear hb2); (try clear hk); (try clear hi)) | (go_at_call 15; (with_reducible refine (fix_Half.calls (-3) 1 t115 _ A7.out).mono ?_); rintro e w78 ⟨rfl, hb⟩; have n0_ := Aside0.mk (below_step (by repeat (first | (with_reducible first | exact HB.out | apply below_alloc | apply pw_below_drewN | apply below_drew1) | exact HB.out)) hb); clear HB; have HB := n0_; clear n0_; (try clear hb); (try clear hb2); (try clear hk); (try clear hi)) | (go_at_call 17; (with_reducible refine (fix_Ratio.calls 7 2 t116 _ A9.out).mono ?_); rintro e w' ⟨rfl, ⟨nd, rfl⟩⟩) | (go_at_call 20; (with_reducible refine (fix_Wide.calls 1099511627776 t117 _ A11.out).mono ?_); rintro e w79 ⟨rfl, hb⟩; have n0_ := Aside0.mk (below_step (by repeat (first | (with_reducible first | exact HB.out | apply below_alloc | apply pw_below_drewN | apply below_drew1) | exact HB.out)) hb); clear HB; have HB := n0_; clear n0_; (try clear hb); (try clear hb2); (try clear hk); (try clear hi)))
              go_ret
              exact ⟨by first | rfl | (simp [errW_none, errW_some] <;> rfl) | (simp [*, errW_none, errW_some] <;> rfl), by repeat (first | (with_reducible first | exact HB.out | apply below_alloc | apply pw_below_drewN | apply below_drew1) | exact HB.out)⟩
          · rw [if_neg c10] at H
            have c10b0 : (t116 == 4) = false := beq_eq_false_iff_ne.mpr c10
            have c10b1 : (t116 != 4) = true := bne_iff_ne.mpr c10
            obtain rfl := Option.some.inj H
            go_enter Try.func18, Try.ntmps18
            go_wp2_with (first | ((with_reducible refine gate_callee (f := 26) rfl ?_); refine goesL_ (some 1) rfl rfl Try.func26 (by kernel_rfl) rfl #[.int .i32 98304, .int .i32 98304] rfl (by (try simp only [List.map_toArray, List.map_cons, List.map_nil]); first | done | rfl | (simp only [List.length_drop, List.length_take]; rfl)) ?_; (with_reducible refine (fix_Mul.calls 98304 98304 t112 _ A1.out).mono ?_); rintro e w80 ⟨rfl, hb⟩; refine ⟨_, rfl, ?_⟩; have n0_ := Aside0.mk (below_step (by repeat (first | (with_reducible first | exact HB.out | apply below_alloc | apply pw_below_drewN | apply below_drew1) | exact HB.out)) hb); clear HB; have HB := n0_; clear n0_; (try clear hb); (try clear hb2); (try clear hk); (try clear hi)) | (go_at_call 15; (with_reducible refine (fix_Half.calls 3 1 t113 _ A3.out).mono ?_); rintro e w81 ⟨rfl, hb⟩; have n0_ := Aside0.mk (below_step (by repeat (first | (with_reducible first | exact HB.out | apply below_alloc | apply pw_below_drewN | apply below_drew1) | exact HB.out)) hb); clear HB; have HB := n0_; clear n0_; (try clear hb); (try clear hb2); (try clear hk); (try clear hi)) | (go_at_call 15; (with_reducible refine (fix_Half.calls 5 1 t114 _ A5.out).mono ?_); rintro e w82 ⟨rfl, hb⟩; have n0_ := Aside0.mk (below_step (by repeat (first | (with_reducible first | exact HB.out | apply below_alloc | apply pw_below_drewN | apply below_drew1) | exact HB.out)) hb); clear HB; have HB := n0_; clear n0_; (try clear hb); (try clear hb2); (try clear hk); (try clear hi)) | (go_at_call 15; (with_reducible refine (fix_Half.calls (-3) 1 t115 _ A7.out).mono ?_); rintro e w83 ⟨rfl, hb⟩; have n0_ := Aside0.mk (below_step (by repeat (first | (with_reducible first | exact HB.out | apply below_alloc | apply pw_below_drewN | apply below_drew1) | exact HB.out)) hb); clear HB; have HB := n0_; clear n0_; (try clear hb); (try clear hb2); (try clear hk); (try clear hi)) | (go_at_call 17; (with_reducible refine (fix_Ratio.calls 7 2 t116 _ A9.out).mono ?_); rintro e w' ⟨rfl, ⟨nd, rfl⟩⟩))
            go_ret
            exact ⟨by first | rfl | (simp [errW_none, errW_some] <;> rfl) | (simp [*, errW_none, errW_some] <;> rfl), by repeat (first | (with_reducible first | exact HB.out | apply below_alloc | apply pw_below_drewN | apply below_drew1) | exact HB.out)⟩
        · rw [if_neg c8] at H
          have c8b0 : (t115 == (-2)) = false := beq_eq_false_iff_ne.mpr c8
          have c8b1 : (t115 != (-2)) = true := bne_iff_ne.mpr c8
          obtain rfl := Option.some.inj H
          go_enter Try.func18, Try.ntmps18
          go_wp2_with (first | ((with_reducible refine gate_callee (f := 26) rfl ?_); refine goesL_ (some 1) rfl rfl Try.func26 (by kernel_rfl) rfl #[.int .i32 98304, .int .i32 98304] rfl (by (try simp only [List.map_toArray, List.map_cons, List.map_nil]); first | done | rfl | (simp only [List.length_drop, List.length_take]; rfl)) ?_; (with_reducible refine (fix_Mul.calls 98304 98304 t112 _ A1.out).mono ?_); rintro e w84 ⟨rfl, hb⟩; refine ⟨_, rfl, ?_⟩; have n0_ := Aside0.mk (below_step (by repeat (first | (with_reducible first | exact HB.out | apply below_alloc | apply pw_below_drewN | apply below_drew1) | exact HB.out)) hb); clear HB; have HB := n0_; clear n0_; (try clear hb); (try clear hb2); (try clear hk); (try clear hi)) | (go_at_call 15; (with_reducible refine (fix_Half.calls 3 1 t113 _ A3.out).mono ?_); rintro e w85 ⟨rfl, hb⟩; have n0_ := Aside0.mk (below_step (by repeat (first | (with_reducible first | exact HB.out | apply below_alloc | apply pw_below_drewN | apply below_drew1) | exact HB.out)) hb); clear HB; have HB := n0_; clear n0_; (try clear hb); (try clear hb2); (try clear hk); (try clear hi)) | (go_at_call 15; (with_reducible refine (fix_Half.calls 5 1 t114 _ A5.out).mono ?_); rintro e w86 ⟨rfl, hb⟩; have n0_ := Aside0.mk (below_step (by repeat (first | (with_reducible first | exact HB.out | apply below_alloc | apply pw_below_drewN | apply below_drew1) | exact HB.out)) hb); clear HB; have HB := n0_; clear n0_; (try clear hb); (try clear hb2); (try clear hk); (try clear hi)) | (go_at_call 15; (with_reducible refine (fix_Half.calls (-3) 1 t115 _ A7.out).mono ?_); rintro e w87 ⟨rfl, hb⟩; have n0_ := Aside0.mk (below_step (by repeat (first | (with_reducible first | exact HB.out | apply below_alloc | apply pw_below_drewN | apply below_drew1) | exact HB.out)) hb); clear HB; have HB := n0_; clear n0_; (try clear hb); (try clear hb2); (try clear hk); (try clear hi)))
          go_ret
          exact ⟨by first | rfl | (simp [errW_none, errW_some] <;> rfl) | (simp [*, errW_none, errW_some] <;> rfl), by repeat (first | (with_reducible first | exact HB.out | apply below_alloc | apply pw_below_drewN | apply below_drew1) | exact HB.out)⟩
      · rw [if_neg c6] at H
        have c6b0 : (t114 == 2) = false := beq_eq_false_iff_ne.mpr c6
        have c6b1 : (t114 != 2) = true := bne_iff_ne.mpr c6
        obtain rfl := Option.some.inj H
        go_enter Try.func18, Try.ntmps18
        go_wp2_with (first | ((with_reducible refine gate_callee (f := 26) rfl ?_); refine goesL_ (some 1) rfl rfl Try.func26 (by kernel_rfl) rfl #[.int .i32 98304, .int .i32 98304] rfl (by (try simp only [List.map_toArray, List.map_cons, List.map_nil]); first | done | rfl | (simp only [List.length_drop, List.length_take]; rfl)) ?_; (with_reducible refine (fix_Mul.calls 98304 98304 t112 _ A1.out).mono ?_); rintro e w88 ⟨rfl, hb⟩; refine ⟨_, rfl, ?_⟩; have n0_ := Aside0.mk (below_step (by repeat (first | (with_reducible first | exact HB.out | apply below_alloc | apply pw_below_drewN | apply below_drew1) | exact HB.out)) hb); clear HB; have HB := n0_; clear n0_; (try clear hb); (try clear hb2); (try clear hk); (try clear hi)) | (go_at_call 15; (with_reducible refine (fix_Half.calls 3 1 t113 _ A3.out).mono ?_); rintro e w89 ⟨rfl, hb⟩; have n0_ := Aside0.mk (below_step (by repeat (first | (with_reducible first | exact HB.out | apply below_alloc | apply pw_below_drewN | apply below_drew1) | exact HB.out)) hb); clear HB; have HB := n0_; clear n0_; (try clear hb); (try clear hb2); (try clear hk); (try clear hi)) | (go_at_call 15; (with_reducible refine (fix_Half.calls 5 1 t114 _ A5.out).mono ?_); rintro e w90 ⟨rfl, hb⟩; have n0_ := Aside0.mk (below_step (by repeat (first | (with_reducible first | exact HB.out | apply below_alloc | apply pw_below_drewN | apply below_drew1) | exact HB.out)) hb); clear HB; have HB := n0_; clear n0_; (try clear hb); (try clear hb2); (try clear hk); (try clear hi)))
        go_ret
        exact ⟨by first | rfl | (simp [errW_none, errW_some] <;> rfl) | (simp [*, errW_none, errW_some] <;> rfl), by repeat (first | (with_reducible first | exact HB.out | apply below_alloc | apply pw_below_drewN | apply below_drew1) | exact HB.out)⟩
    · rw [if_neg c4] at H
      have c4b0 : (t113 == 2) = false := beq_eq_false_iff_ne.mpr c4
      have c4b1 : (t113 != 2) = true := bne_iff_ne.mpr c4
      obtain rfl := Option.some.inj H
      go_enter Try.func18, Try.ntmps18
      go_wp2_with (first | ((with_reducible refine gate_callee (f := 26) rfl ?_); refine goesL_ (some 1) rfl rfl Try.func26 (by kernel_rfl) rfl #[.int .i32 98304, .int .i32 98304] rfl (by (try simp only [List.map_toArray, List.map_cons, List.map_nil]); first | done | rfl | (simp only [List.length_drop, List.length_take]; rfl)) ?_; (with_reducible refine (fix_Mul.calls 98304 98304 t112 _ A1.out).mono ?_); rintro e w91 ⟨rfl, hb⟩; refine ⟨_, rfl, ?_⟩; have n0_ := Aside0.mk (below_step (by repeat (first | (with_reducible first | exact HB.out | apply below_alloc | apply pw_below_drewN | apply below_drew1) | exact HB.out)) hb); clear HB; have HB := n0_; clear n0_; (try clear hb); (try clear hb2); (try clear hk); (try clear hi)) | (go_at_call 15; (with_reducible refine (fix_Half.calls 3 1 t113 _ A3.out).mono ?_); rintro e w92 ⟨rfl, hb⟩; have n0_ := Aside0.mk (below_step (by repeat (first | (with_reducible first | exact HB.out | apply below_alloc | apply pw_below_drewN | apply below_drew1) | exact HB.out)) hb); clear HB; have HB := n0_; clear n0_; (try clear hb); (try clear hb2); (try clear hk); (try clear hi)))
      go_ret
      exact ⟨by first | rfl | (simp [errW_none, errW_some] <;> rfl) | (simp [*, errW_none, errW_some] <;> rfl), by repeat (first | (with_reducible first | exact HB.out | apply below_alloc | apply pw_below_drewN | apply below_drew1) | exact HB.out)⟩
  · rw [if_neg c2] at H
    have c2b0 : (t112 == 147456) = false := beq_eq_false_iff_ne.mpr c2
    have c2b1 : (t112 != 147456) = true := bne_iff_ne.mpr c2
    obtain rfl := Option.some.inj H
    go_enter Try.func18, Try.ntmps18
    go_wp2_with (first | ((with_reducible refine gate_callee (f := 26) rfl ?_); refine goesL_ (some 1) rfl rfl Try.func26 (by kernel_rfl) rfl #[.int .i32 98304, .int .i32 98304] rfl (by (try simp only [List.map_toArray, List.map_cons, List.map_nil]); first | done | rfl | (simp only [List.length_drop, List.length_take]; rfl)) ?_; (with_reducible refine (fix_Mul.calls 98304 98304 t112 _ A1.out).mono ?_); rintro e w93 ⟨rfl, hb⟩; refine ⟨_, rfl, ?_⟩; have n0_ := Aside0.mk (below_step (by repeat (first | (with_reducible first | exact HB.out | apply below_alloc | apply pw_below_drewN | apply below_drew1) | exact HB.out)) hb); clear HB; have HB := n0_; clear n0_; (try clear hb); (try clear hb2); (try clear hk); (try clear hi)))
    go_ret
    exact ⟨by first | rfl | (simp [errW_none, errW_some] <;> rfl) | (simp [*, errW_none, errW_some] <;> rfl), by repeat (first | (with_reducible first | exact HB.out | apply below_alloc | apply pw_below_drewN | apply below_drew1) | exact HB.out)⟩

end Go.Proofs.Ytmndomlpdajjmaa.PFixWhole
