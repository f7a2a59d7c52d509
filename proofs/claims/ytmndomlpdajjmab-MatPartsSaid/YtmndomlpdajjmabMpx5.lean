-- Ytmndomlpdajjmab: the machine side of the statements, written by a program of the session.
import Derived.Test.YtmndomlpdajjmabMpx0
import Derived.Test.YtmndomlpdajjmabMpx2
import Derived.Test.YtmndomlpdajjmabMpx3
import Derived.Test.YtmndomlpdajjmabMpx4
namespace Go.Proofs.Ytmndomlpdajjmab.Mp
open Go.RowKit Go.Proofs.YtmndomlpdajjmabW.PrintWords Go.Proofs.YtmndomlpdajjmabW.PrintLast Go.Proofs.YtmndomlpdajjmabW.PrintMore
attribute [local go_sem] max2_int min2_int max_two min_two max_three min_three max_four min_four   -- for this text's walks alone
set_option linter.unusedVariables false
set_option linter.unusedSimpArgs false

/-! ### credenzalaw17_MatParts: function 11 -/
def credenzalaw17_MatParts.j0 : Nat → List Int → Int → Bool → Int → Int → List Int → Option (Bool)
  | 0, _, _, _, _, _, _ => none
  | k + 1, x1, x2, x38, x208000, x208001, x208002 => if x38 = true then ((credenzalaw17_awake.f k).bind fun t214 => (some t214)) else ((mat_Mat_Times.f k x208000 x208001 x208002 x1).bind fun bt215 => ((some (([] : List Int) : List Int)).bind fun y219 => ((credenzalaw17_ref.f x208000 x208001 x208002).bind fun bt222 => ((credenzaref17_Row.f bt222.1 bt222.2.1 bt222.2.2 x2).bind fun t227 => (if y219.length + t227.length < 35184372088832 then ((mat_Mat_Times.f k 1 x208001 (y219 ++ t227) x1).bind fun bt234 => (if bt215.2 = 0 then (if bt234.2 = 0 then (if (bt234.1.length : Int) = 1 then (if (bt215.1.length : Int) = x208000 then (if 0 ≤ x2 then (if x2 < (bt215.1.length : Int) then (if 0 < (bt234.1.length : Int) then (if (rd bt215.1 x2) = (rd bt234.1 0) then ((credenzalaw17_awake.f k).bind fun t240 => (some t240)) else (some false)) else (none)) else (none)) else (none)) else (some false)) else (some false)) else (some false)) else (some false))) else (none))))))
def credenzalaw17_MatParts.f (k : Nat) (a0_0 : Int) (a0_1 : Int) (l0_2 : List Int) (l1 : List Int) (a2 : Int) : Option (Bool) := if (l0_2.length : Int) > 5000 then (credenzalaw17_MatParts.j0 k l1 a2 true a0_0 a0_1 l0_2) else ((credenzalaw17_ref.f a0_0 a0_1 l0_2).bind fun bt208 => ((credenzaref17_Right.f k bt208.1 bt208.2.1 bt208.2.2).bind fun t213 => (if t213 = 0 then (if (l1.length : Int) = a0_1 then (if a2 < 0 then (credenzalaw17_MatParts.j0 k l1 a2 true a0_0 a0_1 l0_2) else (credenzalaw17_MatParts.j0 k l1 a2 (decide (a2 ≥ a0_0)) a0_0 a0_1 l0_2)) else (credenzalaw17_MatParts.j0 k l1 a2 true a0_0 a0_1 l0_2)) else (credenzalaw17_MatParts.j0 k l1 a2 true a0_0 a0_1 l0_2))))
theorem credenzalaw17_MatParts.mono_l : ∀ k, (∀ y0 y1 y2 y3 y4 y5, LeO (credenzalaw17_MatParts.j0 k y0 y1 y2 y3 y4 y5) (credenzalaw17_MatParts.j0 (k + 1) y0 y1 y2 y3 y4 y5))
  | 0 => fun _ _ _ _ _ _ r h => by simp [credenzalaw17_MatParts.j0] at h
  | k + 1 => by
    have ih0 := credenzalaw17_MatParts.mono_l k
    · intro y0 y1 y2 y3 y4 y5
      unfold credenzalaw17_MatParts.j0
      repeat' first
      | (with_reducible exact ih0 _ _ _ _ _ _)
      | (with_reducible exact credenzalaw17_awake.mono _)
      | (with_reducible exact credenzaref17_Right.mono _ _ _ _)
      | (with_reducible exact mat_Mat_Times.mono _ _ _ _ _)
      | (with_reducible exact LeO.refl _)
      | (with_reducible exact LeO.none _)
      | (with_reducible refine LeO.ite ?_ ?_)
      | (with_reducible refine LeO.bind ?_ (fun _ => ?_))
      | exact ih0 _ _ _ _ _ _
      | exact credenzalaw17_awake.mono _
      | exact credenzaref17_Right.mono _ _ _ _
      | exact mat_Mat_Times.mono _ _ _ _ _
      | exact LeO.none _
      | refine LeO.ite ?_ ?_
      | refine LeO.bind ?_ (fun _ => ?_)
theorem credenzalaw17_MatParts.mono : ∀ a0 a1 a2 a3 a4 k, LeO (credenzalaw17_MatParts.f k a0 a1 a2 a3 a4) (credenzalaw17_MatParts.f (k + 1) a0 a1 a2 a3 a4) := by
  intro a0 a1 a2 a3 a4 k
  have ih0 := credenzalaw17_MatParts.mono_l k
  unfold credenzalaw17_MatParts.f
  repeat' first
      | (with_reducible exact ih0 _ _ _ _ _ _)
      | (with_reducible exact credenzalaw17_awake.mono _)
      | (with_reducible exact credenzaref17_Right.mono _ _ _ _)
      | (with_reducible exact mat_Mat_Times.mono _ _ _ _ _)
      | (with_reducible exact LeO.refl _)
      | (with_reducible exact LeO.none _)
      | (with_reducible refine LeO.ite ?_ ?_)
      | (with_reducible refine LeO.bind ?_ (fun _ => ?_))
      | exact ih0 _ _ _ _ _ _
      | exact credenzalaw17_awake.mono _
      | exact credenzaref17_Right.mono _ _ _ _
      | exact mat_Mat_Times.mono _ _ _ _ _
      | exact LeO.none _
      | refine LeO.ite ?_ ?_
      | refine LeO.bind ?_ (fun _ => ?_)
def credenzalaw17_MatParts.T4 : Bool × List (List Nat × List Nat) := (true, [([], []), ([0], [0]), ([], []), ([], []), ([3], [3]), ([], []), ([4, 5, 4], [4, 5]), ([2, 6, 6], [2, 6]), ([1, 7], [1, 7]), ([], []), ([9, 8, 7, 0, 1, 2, 3, 4, 5, 6, 7, 8, 9], [8, 9])])
def credenzalaw17_MatParts.B4 : List Nat := [0, 1, 0, 0, 8, 0, 56, 124, 255, 0, 1023]
theorem credenzalaw17_MatParts.tab4 : rtab .any (opsOf Try.f11 4) = credenzalaw17_MatParts.T4 := by kernel_rfl
theorem credenzalaw17_MatParts.bits4 : waitsOk credenzalaw17_MatParts.T4.2 credenzalaw17_MatParts.B4 = true := by kernel_rfl
def credenzalaw17_MatParts.T6 : Bool × List (List Nat × List Nat) := (true, [([], []), ([0], [0]), ([1], [1]), ([2], [2]), ([3, 2], [2, 3]), ([2, 4], [2, 4]), ([5, 2], [5]), ([6], [6]), ([7, 6], [6, 7]), ([8, 6], [6, 8]), ([6, 9], [6, 9]), ([10, 6], [10]), ([11], [11]), ([12, 11], [11, 12]), ([11], [11]), ([14, 11], [11, 14]), ([13, 15, 11], [11, 13, 15]), ([11, 16], [11, 16]), ([17, 11], [17]), ([18], [18]), ([18], [18]), ([19, 20, 18], [18, 19, 20]), ([21, 18], [18, 21]), ([18], [18]), ([23, 18], [18, 23]), ([24, 18], [18, 24]), ([22, 25, 18], [18, 22, 25]), ([18, 26], [18, 26]), ([27, 18], [27]), ([28, 28], [28]), ([28, 29], [28, 29]), ([30, 29, 0, 1, 2, 3, 4, 5, 6, 7, 8, 9, 10, 11, 12, 13, 14, 15, 16, 17, 18, 19, 20, 21, 22, 23, 24, 25, 26, 27, 28, 29, 30], [30])])
def credenzalaw17_MatParts.B6 : List Nat := [0, 1, 3, 7, 15, 31, 63, 127, 255, 511, 1023, 2047, 4095, 8191, 4095, 20479, 65535, 131071, 262143, 524287, 524287, 2097151, 4194303, 524287, 8912895, 25690111, 67108863, 134217727, 268435455, 536870911, 1073741823, 2147483647]
theorem credenzalaw17_MatParts.tab6 : rtab .any (opsOf Try.f11 6) = credenzalaw17_MatParts.T6 := by kernel_rfl
theorem credenzalaw17_MatParts.bits6 : waitsOk credenzalaw17_MatParts.T6.2 credenzalaw17_MatParts.B6 = true := by kernel_rfl
set_option maxHeartbeats 8000000 in
set_option maxRecDepth 100000 in
theorem credenzalaw17_MatParts.calls (k : Nat) (a0_0 : Int) (a0_1 : Int) (A0_2 : Option Addr) (c0_2 : Nat) (l0_2 : List Int) (A1 : Option Addr) (c1 : Nat) (l1 : List Int) (a2 : Int) (r : Bool) (w : World) (hr0_2 : Kd.C (Kd.int .i32) w A0_2 l0_2.length l0_2) (hc0_2 : l0_2.length ≤ c0_2) (hr1 : Kd.C (Kd.int .i32) w A1 l1.length l1) (hc1 : l1.length ≤ c1) (h : credenzalaw17_MatParts.f k a0_0 a0_1 l0_2 l1 a2 = some r) (hrt_ : r = true) :
    Calls Try.prog 11 #[.agg #[.int .i64 a0_0, .int .i64 a0_1, .slice A0_2 l0_2.length c0_2], .slice A1 l1.length c1, .int .i64 a2] w fun e w' => e = .returned (.bool r) ∧ Below w.heap.size w w' := by
  have hu43 := Try.underlying43
  have HR0_2 := Aside0.mk hr0_2
  have HC0_2 := Aside0.mk hc0_2
  clear hr0_2 hc0_2
  have HR1 := Aside0.mk hr1
  have HC1 := Aside0.mk hc1
  clear hr1 hc1
  have HRT := Aside0.mk hrt_
  clear hrt_
  have HB := Aside0.mk (Below.refl w.heap.size w)
  have H : (if (l0_2.length : Int) > 5000 then (credenzalaw17_MatParts.j0 k l1 a2 true a0_0 a0_1 l0_2) else ((credenzalaw17_ref.f a0_0 a0_1 l0_2).bind fun bt208 => ((credenzaref17_Right.f k bt208.1 bt208.2.1 bt208.2.2).bind fun t213 => (if t213 = 0 then (if (l1.length : Int) = a0_1 then (if a2 < 0 then (credenzalaw17_MatParts.j0 k l1 a2 true a0_0 a0_1 l0_2) else (credenzalaw17_MatParts.j0 k l1 a2 (decide (a2 ≥ a0_0)) a0_0 a0_1 l0_2)) else (credenzalaw17_MatParts.j0 k l1 a2 true a0_0 a0_1 l0_2)) else (credenzalaw17_MatParts.j0 k l1 a2 true a0_0 a0_1 l0_2))))) = some r := h
  clear h
  have HC4 := Aside0.mk H
  clear H
  go_enter Try.func11, Try.ntmps11
  go_upto_region 1 with (first | ((with_reducible refine gate_dst (N := 3) rfl ?_); (try (refine gate_guard (by rfl) ?_; dsimp only)); refine box_event ?hg (N := 3) ?hd (cs := #[.int .i64 a0_0, .int .i64 a0_1, .slice A0_2 l0_2.length c0_2]) (t := 43) ?hr ?_; (case hd => rfl); (case hg => rfl); (case hr => first | (go_simp; done) | (go_simp; rfl)); intro gb207 hg w5 hbox hb; have n0_ := Aside0.mk (below_step (by repeat (first | (with_reducible first | exact HB.out | apply below_alloc | apply pw_below_drewN | apply below_drew1) | exact HB.out)) hb); have n1_ := Aside0.mk (hbox); have n2_ := Aside0.mk ((by rw [hg]; exact (below_size (by repeat (first | (with_reducible first | exact HB.out | apply below_alloc | apply pw_below_drewN | apply below_drew1) | exact HB.out))) : w.heap.size ≤ gb207)); have n3_ := Aside0.mk ((by rw [hg]; exact (below_size (by repeat (first | (with_reducible first | exact HB.out | apply below_alloc | apply pw_below_drewN | apply below_drew1) | exact HB.out))) : w.heap.size ≤ gb207)); clear HB; have HB := n0_; have BK207 := n1_; have GW207 := n2_; have GE207 := n3_; clear n0_ n1_ n2_ n3_; clear hb hbox hg))
  (try simp only [Act.put, List.setIfInBounds_toArray, List.set_cons_zero, List.set_cons_succ])
  go_cut [38] (fun v38 wc => ∃ (kq : Nat) (x38_3 : Bool), v38 = .bool x38_3 ∧ Aside0 (credenzalaw17_MatParts.j0 kq l1 a2 x38_3 a0_0 a0_1 l0_2 = some r) ∧ Aside0 (kq ≤ k) ∧ Aside0 (wc.heap[gb207]? = some (.cells #[.int .i64 a0_0, .int .i64 a0_1, (.slice A0_2 l0_2.length c0_2)] 43 (0, 0))) ∧ Aside0 (Below w.heap.size w wc))
  case first =>
    have H := HC4.out
    clear HC4
    by_cases c6 : (l0_2.length : Int) > 5000
    · rw [if_pos c6] at H
      have c6b0 : decide (5000 < (l0_2.length : Int)) = true := decide_eq_true c6
      have c6b1 : decide (5000 < l0_2.length) = true := decide_eq_true (by omega)
      clear c6
      (first | rw [c6b0] | (simp only [i64_w, i32_w]; rw [c6b0]) | skip)
      have H' := Aside0.mk H
      clear H
      have hcz7_0 : w5.cell? ⟨gb207, 0, none⟩ = some (.int .i64 a0_0) := (blk_cell BK207.out 0).trans rfl
      have hcz7_1 : w5.cell? ⟨gb207, 1, none⟩ = some (.int .i64 a0_1) := (blk_cell BK207.out 1).trans rfl
      have hcz7_2 : w5.cell? ⟨gb207, 2, none⟩ = some (.slice A0_2 l0_2.length c0_2) := (blk_cell BK207.out 2).trans rfl
      have hfz7_0 := blk_frozen BK207.out 0
      have hfz7_1 := blk_frozen BK207.out 1
      have hfz7_2 := blk_frozen BK207.out 2
      go_wp2
      go_meet
      case rel => exact ⟨_, (true), (by first | rfl | (simp; done) | (simp [*]; done)), H', ⟨by first | omega | exact Nat.le_refl _⟩, ⟨by (with_reducible repeat (first | refine blk_drewN ?_ _ | refine blk_drew ?_ | refine blk_alloc ?_ _)); exact BK207.out⟩, ⟨by repeat (first | (with_reducible first | exact HB.out | apply below_alloc | apply pw_below_drewN | apply below_drew1 | refine below_set ?_ GE207.out) | exact HB.out)⟩⟩
    · rw [if_neg c6] at H
      have c6b0 : decide (5000 < (l0_2.length : Int)) = false := decide_eq_false c6
      have c6b1 : decide (5000 < l0_2.length) = false := decide_eq_false (by omega)
      clear c6
      (first | rw [c6b0] | (simp only [i64_w, i32_w]; rw [c6b0]) | skip)
      replace H := Option.bind_eq_some_iff.mp H
      obtain ⟨⟨t208, t209, t210⟩, A80, H⟩ := H
      replace H : ((credenzaref17_Right.f k t208 t209 t210).bind fun t213 => (if t213 = 0 then (if (l1.length : Int) = a0_1 then (if a2 < 0 then (credenzalaw17_MatParts.j0 k l1 a2 true a0_0 a0_1 l0_2) else (credenzalaw17_MatParts.j0 k l1 a2 (decide (a2 ≥ a0_0)) a0_0 a0_1 l0_2)) else (credenzalaw17_MatParts.j0 k l1 a2 true a0_0 a0_1 l0_2)) else (credenzalaw17_MatParts.j0 k l1 a2 true a0_0 a0_1 l0_2))) = some r := H
      have A8 := Aside0.mk A80
      clear A80
      replace H := Option.bind_eq_some_iff.mp H
      obtain ⟨t213, A90, H⟩ := H
      replace H : (if t213 = 0 then (if (l1.length : Int) = a0_1 then (if a2 < 0 then (credenzalaw17_MatParts.j0 k l1 a2 true a0_0 a0_1 l0_2) else (credenzalaw17_MatParts.j0 k l1 a2 (decide (a2 ≥ a0_0)) a0_0 a0_1 l0_2)) else (credenzalaw17_MatParts.j0 k l1 a2 true a0_0 a0_1 l0_2)) else (credenzalaw17_MatParts.j0 k l1 a2 true a0_0 a0_1 l0_2)) = some r := H
      have A9 := Aside0.mk A90
      clear A90
      by_cases c10 : t213 = 0
      · rw [if_pos c10] at H
        have c10b0 : (t213 == 0) = true := beq_iff_eq.mpr c10
        have c10b1 : (t213 != 0) = false := bne_eq_false_iff_eq.mpr c10
        clear c10
        by_cases c11 : (l1.length : Int) = a0_1
        · rw [if_pos c11] at H
          have c11b0 : ((l1.length : Int) == a0_1) = true := beq_iff_eq.mpr c11
          have c11b1 : ((l1.length : Int) != a0_1) = false := bne_eq_false_iff_eq.mpr c11
          clear c11
          by_cases c12 : a2 < 0
          · rw [if_pos c12] at H
            have c12b0 : decide (a2 < 0) = true := decide_eq_true c12
            clear c12
            have H' := Aside0.mk H
            clear H
            have hcz13_0 : w5.cell? ⟨gb207, 0, none⟩ = some (.int .i64 a0_0) := (blk_cell BK207.out 0).trans rfl
            have hcz13_1 : w5.cell? ⟨gb207, 1, none⟩ = some (.int .i64 a0_1) := (blk_cell BK207.out 1).trans rfl
            have hcz13_2 : w5.cell? ⟨gb207, 2, none⟩ = some (.slice A0_2 l0_2.length c0_2) := (blk_cell BK207.out 2).trans rfl
            have hfz13_0 := blk_frozen BK207.out 0
            have hfz13_1 := blk_frozen BK207.out 1
            have hfz13_2 := blk_frozen BK207.out 2
            go_wp2_with (first | (go_at_call 33; (with_reducible refine (credenzalaw17_ref.calls a0_0 a0_1 (fun k_ => k_ < w.heap.size) _ _ l0_2 t208 t209 t210 _ ?side1 A8.out).mono ?_); (case side1 => exact Kd.V_mk HC0_2.out (Kd.F_below (Kd.C_F (Kd.heap_int .i32) HR0_2.out) (by repeat (first | (with_reducible first | exact HB.out | apply below_alloc | apply pw_below_drewN | apply below_drew1 | refine below_set ?_ GE207.out) | exact HB.out)))); rintro e w14 ⟨v211, rfl, ho0, hb⟩; have n0_ := Aside0.mk (Kd.V_lower (Kd.V_mono (ok' := fun k_ => k_ ≠ gb207) ho0 (fun k_ hk_ => Or.elim hk_ (fun hs_ => fun e_ => Nat.not_le.2 hs_ (by rw [e_]; exact GW207.out)) (fun hn_ => (Kd.freshB (g := gb207) (o := .cells #[.int .i64 a0_0, .int .i64 a0_1, .slice A0_2 l0_2.length c0_2] 43 (0, 0)) (by (with_reducible repeat (first | refine blk_drewN ?_ _ | refine blk_drew ?_ | refine blk_alloc ?_ _)); exact BK207.out) k_ hn_)))) (below_size (by repeat (first | (with_reducible first | exact HB.out | apply below_alloc | apply pw_below_drewN | apply below_drew1 | refine below_set ?_ GE207.out) | exact HB.out)))); have n1_ := Aside0.mk (blk_below (g := gb207) (o := .cells #[.int .i64 a0_0, .int .i64 a0_1, .slice A0_2 l0_2.length c0_2] 43 (0, 0)) (by (with_reducible repeat (first | refine blk_drewN ?_ _ | refine blk_drew ?_ | refine blk_alloc ?_ _)); exact BK207.out) hb); have n2_ := Aside0.mk (below_step (by repeat (first | (with_reducible first | exact HB.out | apply below_alloc | apply pw_below_drewN | apply below_drew1 | refine below_set ?_ GE207.out) | exact HB.out)) hb); clear BK207; clear HB; have HO212 := n0_; have BK207 := n1_; have HB := n2_; clear n0_ n1_ n2_; (try clear hb); (try clear hb2); (try clear hk); (try clear hi); (try clear ho0); obtain ⟨Ao15, co15, eo15⟩ := Kd.V_slice HO212.out; subst eo15) | (go_at_call 32; (with_reducible refine (credenzaref17_Right.calls k t208 t209 _ _ t210 t213 _ ?side1 ?side2 A9.out).mono ?_); (case side1 => repeat (first | exact (Kd.V_reads' HO212.out).2.2 | (with_reducible refine Kd.C_alloc ?_ _) | (with_reducible refine Kd.C_drewN ?_ _) | (with_reducible refine Kd.C_drew ?_))); (case side2 => exact (Kd.V_reads' HO212.out).2.1); rintro e w16 ⟨rfl, hb⟩; have n0_ := Aside0.mk (Kd.V_below (by (with_reducible repeat (first | apply Kd.V_alloc | apply Kd.V_drewN | apply Kd.V_drew)); exact HO212.out) hb); have n1_ := Aside0.mk (blk_below (g := gb207) (o := .cells #[.int .i64 a0_0, .int .i64 a0_1, .slice A0_2 l0_2.length c0_2] 43 (0, 0)) (by (with_reducible repeat (first | refine blk_drewN ?_ _ | refine blk_drew ?_ | refine blk_alloc ?_ _)); exact BK207.out) hb); have n2_ := Aside0.mk (below_step (by repeat (first | (with_reducible first | exact HB.out | apply below_alloc | apply pw_below_drewN | apply below_drew1 | refine below_set ?_ GE207.out) | exact HB.out)) hb); clear HO212; clear BK207; clear HB; have HO212 := n0_; have BK207 := n1_; have HB := n2_; clear n0_ n1_ n2_; (try clear hb); (try clear hb2); (try clear hk); (try clear hi); have hcz17_0 : w16.cell? ⟨gb207, 0, none⟩ = some (.int .i64 a0_0) := (blk_cell BK207.out 0).trans rfl; have hcz17_1 : w16.cell? ⟨gb207, 1, none⟩ = some (.int .i64 a0_1) := (blk_cell BK207.out 1).trans rfl; have hcz17_2 : w16.cell? ⟨gb207, 2, none⟩ = some (.slice A0_2 l0_2.length c0_2) := (blk_cell BK207.out 2).trans rfl; have hfz17_0 := blk_frozen BK207.out 0; have hfz17_1 := blk_frozen BK207.out 1; have hfz17_2 := blk_frozen BK207.out 2))
            go_meet
            case rel => exact ⟨_, (true), (by first | rfl | (simp; done) | (simp [*]; done)), H', ⟨by first | omega | exact Nat.le_refl _⟩, ⟨by (with_reducible repeat (first | refine blk_drewN ?_ _ | refine blk_drew ?_ | refine blk_alloc ?_ _)); exact BK207.out⟩, ⟨by repeat (first | (with_reducible first | exact HB.out | apply below_alloc | apply pw_below_drewN | apply below_drew1 | refine below_set ?_ GE207.out) | exact HB.out)⟩⟩
          · rw [if_neg c12] at H
            have c12b0 : decide (a2 < 0) = false := decide_eq_false c12
            clear c12
            have H' := Aside0.mk H
            clear H
            have hcz18_0 : w5.cell? ⟨gb207, 0, none⟩ = some (.int .i64 a0_0) := (blk_cell BK207.out 0).trans rfl
            have hcz18_1 : w5.cell? ⟨gb207, 1, none⟩ = some (.int .i64 a0_1) := (blk_cell BK207.out 1).trans rfl
            have hcz18_2 : w5.cell? ⟨gb207, 2, none⟩ = some (.slice A0_2 l0_2.length c0_2) := (blk_cell BK207.out 2).trans rfl
            have hfz18_0 := blk_frozen BK207.out 0
            have hfz18_1 := blk_frozen BK207.out 1
            have hfz18_2 := blk_frozen BK207.out 2
            go_wp2_with (first | (go_at_call 33; (with_reducible refine (credenzalaw17_ref.calls a0_0 a0_1 (fun k_ => k_ < w.heap.size) _ _ l0_2 t208 t209 t210 _ ?side1 A8.out).mono ?_); (case side1 => exact Kd.V_mk HC0_2.out (Kd.F_below (Kd.C_F (Kd.heap_int .i32) HR0_2.out) (by repeat (first | (with_reducible first | exact HB.out | apply below_alloc | apply pw_below_drewN | apply below_drew1 | refine below_set ?_ GE207.out) | exact HB.out)))); rintro e w19 ⟨v211, rfl, ho0, hb⟩; have n0_ := Aside0.mk (Kd.V_lower (Kd.V_mono (ok' := fun k_ => k_ ≠ gb207) ho0 (fun k_ hk_ => Or.elim hk_ (fun hs_ => fun e_ => Nat.not_le.2 hs_ (by rw [e_]; exact GW207.out)) (fun hn_ => (Kd.freshB (g := gb207) (o := .cells #[.int .i64 a0_0, .int .i64 a0_1, .slice A0_2 l0_2.length c0_2] 43 (0, 0)) (by (with_reducible repeat (first | refine blk_drewN ?_ _ | refine blk_drew ?_ | refine blk_alloc ?_ _)); exact BK207.out) k_ hn_)))) (below_size (by repeat (first | (with_reducible first | exact HB.out | apply below_alloc | apply pw_below_drewN | apply below_drew1 | refine below_set ?_ GE207.out) | exact HB.out)))); have n1_ := Aside0.mk (blk_below (g := gb207) (o := .cells #[.int .i64 a0_0, .int .i64 a0_1, .slice A0_2 l0_2.length c0_2] 43 (0, 0)) (by (with_reducible repeat (first | refine blk_drewN ?_ _ | refine blk_drew ?_ | refine blk_alloc ?_ _)); exact BK207.out) hb); have n2_ := Aside0.mk (below_step (by repeat (first | (with_reducible first | exact HB.out | apply below_alloc | apply pw_below_drewN | apply below_drew1 | refine below_set ?_ GE207.out) | exact HB.out)) hb); clear BK207; clear HB; have HO212 := n0_; have BK207 := n1_; have HB := n2_; clear n0_ n1_ n2_; (try clear hb); (try clear hb2); (try clear hk); (try clear hi); (try clear ho0); obtain ⟨Ao20, co20, eo20⟩ := Kd.V_slice HO212.out; subst eo20) | (go_at_call 32; (with_reducible refine (credenzaref17_Right.calls k t208 t209 _ _ t210 t213 _ ?side1 ?side2 A9.out).mono ?_); (case side1 => repeat (first | exact (Kd.V_reads' HO212.out).2.2 | (with_reducible refine Kd.C_alloc ?_ _) | (with_reducible refine Kd.C_drewN ?_ _) | (with_reducible refine Kd.C_drew ?_))); (case side2 => exact (Kd.V_reads' HO212.out).2.1); rintro e w21 ⟨rfl, hb⟩; have n0_ := Aside0.mk (Kd.V_below (by (with_reducible repeat (first | apply Kd.V_alloc | apply Kd.V_drewN | apply Kd.V_drew)); exact HO212.out) hb); have n1_ := Aside0.mk (blk_below (g := gb207) (o := .cells #[.int .i64 a0_0, .int .i64 a0_1, .slice A0_2 l0_2.length c0_2] 43 (0, 0)) (by (with_reducible repeat (first | refine blk_drewN ?_ _ | refine blk_drew ?_ | refine blk_alloc ?_ _)); exact BK207.out) hb); have n2_ := Aside0.mk (below_step (by repeat (first | (with_reducible first | exact HB.out | apply below_alloc | apply pw_below_drewN | apply below_drew1 | refine below_set ?_ GE207.out) | exact HB.out)) hb); clear HO212; clear BK207; clear HB; have HO212 := n0_; have BK207 := n1_; have HB := n2_; clear n0_ n1_ n2_; (try clear hb); (try clear hb2); (try clear hk); (try clear hi); have hcz22_0 : w21.cell? ⟨gb207, 0, none⟩ = some (.int .i64 a0_0) := (blk_cell BK207.out 0).trans rfl; have hcz22_1 : w21.cell? ⟨gb207, 1, none⟩ = some (.int .i64 a0_1) := (blk_cell BK207.out 1).trans rfl; have hcz22_2 : w21.cell? ⟨gb207, 2, none⟩ = some (.slice A0_2 l0_2.length c0_2) := (blk_cell BK207.out 2).trans rfl; have hfz22_0 := blk_frozen BK207.out 0; have hfz22_1 := blk_frozen BK207.out 1; have hfz22_2 := blk_frozen BK207.out 2))
            go_meet
            case rel => exact ⟨_, (decide (a2 ≥ a0_0)), (by first | rfl | (simp; done) | (simp [*]; done)), H', ⟨by first | omega | exact Nat.le_refl _⟩, ⟨by (with_reducible repeat (first | refine blk_drewN ?_ _ | refine blk_drew ?_ | refine blk_alloc ?_ _)); exact BK207.out⟩, ⟨by repeat (first | (with_reducible first | exact HB.out | apply below_alloc | apply pw_below_drewN | apply below_drew1 | refine below_set ?_ GE207.out) | exact HB.out)⟩⟩
        · rw [if_neg c11] at H
          have c11b0 : ((l1.length : Int) == a0_1) = false := beq_eq_false_iff_ne.mpr c11
          have c11b1 : ((l1.length : Int) != a0_1) = true := bne_iff_ne.mpr c11
          have H' := Aside0.mk H
          clear H
          have hcz23_0 : w5.cell? ⟨gb207, 0, none⟩ = some (.int .i64 a0_0) := (blk_cell BK207.out 0).trans rfl
          have hcz23_1 : w5.cell? ⟨gb207, 1, none⟩ = some (.int .i64 a0_1) := (blk_cell BK207.out 1).trans rfl
          have hcz23_2 : w5.cell? ⟨gb207, 2, none⟩ = some (.slice A0_2 l0_2.length c0_2) := (blk_cell BK207.out 2).trans rfl
          have hfz23_0 := blk_frozen BK207.out 0
          have hfz23_1 := blk_frozen BK207.out 1
          have hfz23_2 := blk_frozen BK207.out 2
          go_wp2_with (first | (go_at_call 33; (with_reducible refine (credenzalaw17_ref.calls a0_0 a0_1 (fun k_ => k_ < w.heap.size) _ _ l0_2 t208 t209 t210 _ ?side1 A8.out).mono ?_); (case side1 => exact Kd.V_mk HC0_2.out (Kd.F_below (Kd.C_F (Kd.heap_int .i32) HR0_2.out) (by repeat (first | (with_reducible first | exact HB.out | apply below_alloc | apply pw_below_drewN | apply below_drew1 | refine below_set ?_ GE207.out) | exact HB.out)))); rintro e w24 ⟨v211, rfl, ho0, hb⟩; have n0_ := Aside0.mk (Kd.V_lower (Kd.V_mono (ok' := fun k_ => k_ ≠ gb207) ho0 (fun k_ hk_ => Or.elim hk_ (fun hs_ => fun e_ => Nat.not_le.2 hs_ (by rw [e_]; exact GW207.out)) (fun hn_ => (Kd.freshB (g := gb207) (o := .cells #[.int .i64 a0_0, .int .i64 a0_1, .slice A0_2 l0_2.length c0_2] 43 (0, 0)) (by (with_reducible repeat (first | refine blk_drewN ?_ _ | refine blk_drew ?_ | refine blk_alloc ?_ _)); exact BK207.out) k_ hn_)))) (below_size (by repeat (first | (with_reducible first | exact HB.out | apply below_alloc | apply pw_below_drewN | apply below_drew1 | refine below_set ?_ GE207.out) | exact HB.out)))); have n1_ := Aside0.mk (blk_below (g := gb207) (o := .cells #[.int .i64 a0_0, .int .i64 a0_1, .slice A0_2 l0_2.length c0_2] 43 (0, 0)) (by (with_reducible repeat (first | refine blk_drewN ?_ _ | refine blk_drew ?_ | refine blk_alloc ?_ _)); exact BK207.out) hb); have n2_ := Aside0.mk (below_step (by repeat (first | (with_reducible first | exact HB.out | apply below_alloc | apply pw_below_drewN | apply below_drew1 | refine below_set ?_ GE207.out) | exact HB.out)) hb); clear BK207; clear HB; have HO212 := n0_; have BK207 := n1_; have HB := n2_; clear n0_ n1_ n2_; (try clear hb); (try clear hb2); (try clear hk); (try clear hi); (try clear ho0); obtain ⟨Ao25, co25, eo25⟩ := Kd.V_slice HO212.out; subst eo25) | (go_at_call 32; (with_reducible refine (credenzaref17_Right.calls k t208 t209 _ _ t210 t213 _ ?side1 ?side2 A9.out).mono ?_); (case side1 => repeat (first | exact (Kd.V_reads' HO212.out).2.2 | (with_reducible refine Kd.C_alloc ?_ _) | (with_reducible refine Kd.C_drewN ?_ _) | (with_reducible refine Kd.C_drew ?_))); (case side2 => exact (Kd.V_reads' HO212.out).2.1); rintro e w26 ⟨rfl, hb⟩; have n0_ := Aside0.mk (Kd.V_below (by (with_reducible repeat (first | apply Kd.V_alloc | apply Kd.V_drewN | apply Kd.V_drew)); exact HO212.out) hb); have n1_ := Aside0.mk (blk_below (g := gb207) (o := .cells #[.int .i64 a0_0, .int .i64 a0_1, .slice A0_2 l0_2.length c0_2] 43 (0, 0)) (by (with_reducible repeat (first | refine blk_drewN ?_ _ | refine blk_drew ?_ | refine blk_alloc ?_ _)); exact BK207.out) hb); have n2_ := Aside0.mk (below_step (by repeat (first | (with_reducible first | exact HB.out | apply below_alloc | apply pw_below_drewN | apply below_drew1 | refine below_set ?_ GE207.out) | exact HB.out)) hb); clear HO212; clear BK207; clear HB; have HO212 := n0_; have BK207 := n1_; have HB := n2_; clear n0_ n1_ n2_; (try clear hb); (try clear hb2); (try clear hk); (try clear hi); have hcz27_0 : w26.cell? ⟨gb207, 0, none⟩ = some (.int .i64 a0_0) := (blk_cell BK207.out 0).trans rfl; have hcz27_1 : w26.cell? ⟨gb207, 1, none⟩ = some (.int .i64 a0_1) := (blk_cell BK207.out 1).trans rfl; have hcz27_2 : w26.cell? ⟨gb207, 2, none⟩ = some (.slice A0_2 l0_2.length c0_2) := (blk_cell BK207.out 2).trans rfl; have hfz27_0 := blk_frozen BK207.out 0; have hfz27_1 := blk_frozen BK207.out 1; have hfz27_2 := blk_frozen BK207.out 2))
          go_meet
          case rel => exact ⟨_, (true), (by first | rfl | (simp; done) | (simp [*]; done)), H', ⟨by first | omega | exact Nat.le_refl _⟩, ⟨by (with_reducible repeat (first | refine blk_drewN ?_ _ | refine blk_drew ?_ | refine blk_alloc ?_ _)); exact BK207.out⟩, ⟨by repeat (first | (with_reducible first | exact HB.out | apply below_alloc | apply pw_below_drewN | apply below_drew1 | refine below_set ?_ GE207.out) | exact HB.out)⟩⟩
      · rw [if_neg c10] at H
        have c10b0 : (t213 == 0) = false := beq_eq_false_iff_ne.mpr c10
        have c10b1 : (t213 != 0) = true := bne_iff_ne.mpr c10
        have H' := Aside0.mk H
        clear H
        have hcz28_0 : w5.cell? ⟨gb207, 0, none⟩ = some (.int .i64 a0_0) := (blk_cell BK207.out 0).trans rfl
        have hcz28_1 : w5.cell? ⟨gb207, 1, none⟩ = some (.int .i64 a0_1) := (blk_cell BK207.out 1).trans rfl
        have hcz28_2 : w5.cell? ⟨gb207, 2, none⟩ = some (.slice A0_2 l0_2.length c0_2) := (blk_cell BK207.out 2).trans rfl
        have hfz28_0 := blk_frozen BK207.out 0
        have hfz28_1 := blk_frozen BK207.out 1
        have hfz28_2 := blk_frozen BK207.out 2
        go_wp2_with (first | (go_at_call 33; (with_reducible refine (credenzalaw17_ref.calls a0_0 a0_1 (fun k_ => k_ < w.heap.size) _ _ l0_2 t208 t209 t210 _ ?side1 A8.out).mono ?_); (case side1 => exact Kd.V_mk HC0_2.out (Kd.F_below (Kd.C_F (Kd.heap_int .i32) HR0_2.out) (by repeat (first | (with_reducible first | exact HB.out | apply below_alloc | apply pw_below_drewN | apply below_drew1 | refine below_set ?_ GE207.out) | exact HB.out)))); rintro e w29 ⟨v211, rfl, ho0, hb⟩; have n0_ := Aside0.mk (Kd.V_lower (Kd.V_mono (ok' := fun k_ => k_ ≠ gb207) ho0 (fun k_ hk_ => Or.elim hk_ (fun hs_ => fun e_ => Nat.not_le.2 hs_ (by rw [e_]; exact GW207.out)) (fun hn_ => (Kd.freshB (g := gb207) (o := .cells #[.int .i64 a0_0, .int .i64 a0_1, .slice A0_2 l0_2.length c0_2] 43 (0, 0)) (by (with_reducible repeat (first | refine blk_drewN ?_ _ | refine blk_drew ?_ | refine blk_alloc ?_ _)); exact BK207.out) k_ hn_)))) (below_size (by repeat (first | (with_reducible first | exact HB.out | apply below_alloc | apply pw_below_drewN | apply below_drew1 | refine below_set ?_ GE207.out) | exact HB.out)))); have n1_ := Aside0.mk (blk_below (g := gb207) (o := .cells #[.int .i64 a0_0, .int .i64 a0_1, .slice A0_2 l0_2.length c0_2] 43 (0, 0)) (by (with_reducible repeat (first | refine blk_drewN ?_ _ | refine blk_drew ?_ | refine blk_alloc ?_ _)); exact BK207.out) hb); have n2_ := Aside0.mk (below_step (by repeat (first | (with_reducible first | exact HB.out | apply below_alloc | apply pw_below_drewN | apply below_drew1 | refine below_set ?_ GE207.out) | exact HB.out)) hb); clear BK207; clear HB; have HO212 := n0_; have BK207 := n1_; have HB := n2_; clear n0_ n1_ n2_; (try clear hb); (try clear hb2); (try clear hk); (try clear hi); (try clear ho0); obtain ⟨Ao30, co30, eo30⟩ := Kd.V_slice HO212.out; subst eo30) | (go_at_call 32; (with_reducible refine (credenzaref17_Right.calls k t208 t209 _ _ t210 t213 _ ?side1 ?side2 A9.out).mono ?_); (case side1 => repeat (first | exact (Kd.V_reads' HO212.out).2.2 | (with_reducible refine Kd.C_alloc ?_ _) | (with_reducible refine Kd.C_drewN ?_ _) | (with_reducible refine Kd.C_drew ?_))); (case side2 => exact (Kd.V_reads' HO212.out).2.1); rintro e w31 ⟨rfl, hb⟩; have n0_ := Aside0.mk (Kd.V_below (by (with_reducible repeat (first | apply Kd.V_alloc | apply Kd.V_drewN | apply Kd.V_drew)); exact HO212.out) hb); have n1_ := Aside0.mk (blk_below (g := gb207) (o := .cells #[.int .i64 a0_0, .int .i64 a0_1, .slice A0_2 l0_2.length c0_2] 43 (0, 0)) (by (with_reducible repeat (first | refine blk_drewN ?_ _ | refine blk_drew ?_ | refine blk_alloc ?_ _)); exact BK207.out) hb); have n2_ := Aside0.mk (below_step (by repeat (first | (with_reducible first | exact HB.out | apply below_alloc | apply pw_below_drewN | apply below_drew1 | refine below_set ?_ GE207.out) | exact HB.out)) hb); clear HO212; clear BK207; clear HB; have HO212 := n0_; have BK207 := n1_; have HB := n2_; clear n0_ n1_ n2_; (try clear hb); (try clear hb2); (try clear hk); (try clear hi)))
        go_meet
        case rel => exact ⟨_, (true), (by first | rfl | (simp; done) | (simp [*]; done)), H', ⟨by first | omega | exact Nat.le_refl _⟩, ⟨by (with_reducible repeat (first | refine blk_drewN ?_ _ | refine blk_drew ?_ | refine blk_alloc ?_ _)); exact BK207.out⟩, ⟨by repeat (first | (with_reducible first | exact HB.out | apply below_alloc | apply pw_below_drewN | apply below_drew1 | refine below_set ?_ GE207.out) | exact HB.out)⟩⟩
  case rest =>
    clear HC4
    try clear c1
    try clear p2
    try clear c6
    try clear c6b0
    try clear c6b1
    try clear c10
    try clear c10b0
    try clear c10b1
    try clear c11
    try clear c11b0
    try clear c11b1
    try clear c12
    try clear c12b0
    try clear hcz13_0
    try clear hcz13_1
    try clear hcz13_2
    try clear hcz17_0
    try clear hcz17_1
    try clear hcz17_2
    try clear hcz18_0
    try clear hcz18_1
    try clear hcz18_2
    try clear hcz22_0
    try clear hcz22_1
    try clear hcz22_2
    try clear hcz23_0
    try clear hcz23_1
    try clear hcz23_2
    try clear hcz27_0
    try clear hcz27_1
    try clear hcz27_2
    try clear hcz28_0
    try clear hcz28_1
    try clear hcz28_2
    try clear hcz7_0
    try clear hcz7_1
    try clear hcz7_2
    try clear hfz13_0
    try clear hfz13_1
    try clear hfz13_2
    try clear hfz17_0
    try clear hfz17_1
    try clear hfz17_2
    try clear hfz18_0
    try clear hfz18_1
    try clear hfz18_2
    try clear hfz22_0
    try clear hfz22_1
    try clear hfz22_2
    try clear hfz23_0
    try clear hfz23_1
    try clear hfz23_2
    try clear hfz27_0
    try clear hfz27_1
    try clear hfz27_2
    try clear hfz28_0
    try clear hfz28_1
    try clear hfz28_2
    try clear hfz7_0
    try clear hfz7_1
    try clear hfz7_2
    obtain ⟨kq, x38_3, rfl, HA, HJ3, BK207, HB⟩ := hcut
    cases kq with
    | zero => exact absurd HA.out (by simp [credenzalaw17_MatParts.j0])
    | succ kj3 =>
      have H := HA.out
      clear HA
      simp only [credenzalaw17_MatParts.j0] at H
      by_cases c32 : x38_3 = true
      · subst c32
        have H1 : ((credenzalaw17_awake.f kj3).bind fun t214 => (some t214)) = some r := by rw [if_pos rfl] at H; exact H
        clear H
        have H := H1
        clear H1
        replace H := Option.bind_eq_some_iff.mp H
        obtain ⟨t214, A330, H⟩ := H
        replace H : (some t214) = some r := H
        have A33 := Aside0.mk A330
        clear A330
        obtain rfl := Option.some.inj H
        go_wp2_with (first | ((with_reducible refine gate_callee (f := 30) rfl ?_); refine goesL_ (some 39) rfl rfl Try.func30 (by kernel_rfl) rfl #[] rfl (by (try simp only [List.map_toArray, List.map_cons, List.map_nil]); first | done | rfl | (simp only [List.length_drop, List.length_take]; rfl)) ?_; (with_reducible refine (credenzalaw17_awake.calls kj3  t214 _ A33.out).mono ?_); rintro e w34 ⟨rfl, hb⟩; refine ⟨_, rfl, ?_⟩; have n0_ := Aside0.mk (blk_below (g := gb207) (o := .cells #[.int .i64 a0_0, .int .i64 a0_1, .slice A0_2 l0_2.length c0_2] 43 (0, 0)) (by (with_reducible repeat (first | refine blk_drewN ?_ _ | refine blk_drew ?_ | refine blk_alloc ?_ _)); exact BK207.out) hb); have n1_ := Aside0.mk (below_step (by repeat (first | (with_reducible first | exact HB.out | apply below_alloc | apply pw_below_drewN | apply below_drew1 | refine below_set ?_ GE207.out) | exact HB.out)) hb); clear BK207; clear HB; have BK207 := n0_; have HB := n1_; clear n0_ n1_; (try clear hb); (try clear hb2); (try clear hk); (try clear hi)))
        go_ret
        exact ⟨by first | rfl | (simp [errW_none, errW_some] <;> rfl) | (simp [*, errW_none, errW_some] <;> rfl), by repeat (first | (with_reducible first | exact HB.out | apply below_alloc | apply pw_below_drewN | apply below_drew1 | refine below_set ?_ GE207.out) | exact HB.out)⟩
      · replace c32 := Bool.eq_false_iff.mpr c32
        subst c32
        have H1 : ((mat_Mat_Times.f kj3 a0_0 a0_1 l0_2 l1).bind fun bt215 => ((some (([] : List Int) : List Int)).bind fun y219 => ((credenzalaw17_ref.f a0_0 a0_1 l0_2).bind fun bt222 => ((credenzaref17_Row.f bt222.1 bt222.2.1 bt222.2.2 a2).bind fun t227 => (if y219.length + t227.length < 35184372088832 then ((mat_Mat_Times.f kj3 1 a0_1 (y219 ++ t227) l1).bind fun bt234 => (if bt215.2 = 0 then (if bt234.2 = 0 then (if (bt234.1.length : Int) = 1 then (if (bt215.1.length : Int) = a0_0 then (if 0 ≤ a2 then (if a2 < (bt215.1.length : Int) then (if 0 < (bt234.1.length : Int) then (if (rd bt215.1 a2) = (rd bt234.1 0) then ((credenzalaw17_awake.f kj3).bind fun t240 => (some t240)) else (some false)) else (none)) else (none)) else (none)) else (some false)) else (some false)) else (some false)) else (some false))) else (none)))))) = some r := by rw [if_neg (show ¬ (false = true) by decide)] at H; exact H
        clear H
        have H := H1
        clear H1
        replace H := Option.bind_eq_some_iff.mp H
        obtain ⟨⟨t215, t218⟩, A350, H⟩ := H
        replace H : ((some (([] : List Int) : List Int)).bind fun y219 => ((credenzalaw17_ref.f a0_0 a0_1 l0_2).bind fun bt222 => ((credenzaref17_Row.f bt222.1 bt222.2.1 bt222.2.2 a2).bind fun t227 => (if y219.length + t227.length < 35184372088832 then ((mat_Mat_Times.f kj3 1 a0_1 (y219 ++ t227) l1).bind fun bt234 => (if t218 = 0 then (if bt234.2 = 0 then (if (bt234.1.length : Int) = 1 then (if (t215.length : Int) = a0_0 then (if 0 ≤ a2 then (if a2 < (t215.length : Int) then (if 0 < (bt234.1.length : Int) then (if (rd t215 a2) = (rd bt234.1 0) then ((credenzalaw17_awake.f kj3).bind fun t240 => (some t240)) else (some false)) else (none)) else (none)) else (none)) else (some false)) else (some false)) else (some false)) else (some false))) else (none))))) = some r := H
        have A35 := Aside0.mk A350
        clear A350
        obtain ⟨y219, hy219⟩ : ∃ y_ : List Int, y_ = (([] : List Int)) := ⟨_, rfl⟩
        replace H : ((credenzalaw17_ref.f a0_0 a0_1 l0_2).bind fun bt222 => ((credenzaref17_Row.f bt222.1 bt222.2.1 bt222.2.2 a2).bind fun t227 => (if y219.length + t227.length < 35184372088832 then ((mat_Mat_Times.f kj3 1 a0_1 (y219 ++ t227) l1).bind fun bt234 => (if t218 = 0 then (if bt234.2 = 0 then (if (bt234.1.length : Int) = 1 then (if (t215.length : Int) = a0_0 then (if 0 ≤ a2 then (if a2 < (t215.length : Int) then (if 0 < (bt234.1.length : Int) then (if (rd t215 a2) = (rd bt234.1 0) then ((credenzalaw17_awake.f kj3).bind fun t240 => (some t240)) else (some false)) else (none)) else (none)) else (none)) else (some false)) else (some false)) else (some false)) else (some false))) else (none)))) = some r := by first | (rw [hy219]; with_reducible exact H) | (have H2_ := (Option.bind_some _ _).symm.trans H; rw [hy219]; with_reducible exact H2_) | (have H2_ := (Option.bind_some _ _).symm.trans H; with_reducible exact H2_) | with_reducible exact H | (rw [hy219]; exact H) | exact H
        have Ny219 := Aside0.mk hy219
        clear hy219
        replace H := Option.bind_eq_some_iff.mp H
        obtain ⟨⟨t222, t223, t224⟩, A360, H⟩ := H
        replace H : ((credenzaref17_Row.f t222 t223 t224 a2).bind fun t227 => (if y219.length + t227.length < 35184372088832 then ((mat_Mat_Times.f kj3 1 a0_1 (y219 ++ t227) l1).bind fun bt234 => (if t218 = 0 then (if bt234.2 = 0 then (if (bt234.1.length : Int) = 1 then (if (t215.length : Int) = a0_0 then (if 0 ≤ a2 then (if a2 < (t215.length : Int) then (if 0 < (bt234.1.length : Int) then (if (rd t215 a2) = (rd bt234.1 0) then ((credenzalaw17_awake.f kj3).bind fun t240 => (some t240)) else (some false)) else (none)) else (none)) else (none)) else (some false)) else (some false)) else (some false)) else (some false))) else (none))) = some r := H
        have A36 := Aside0.mk A360
        clear A360
        replace H := Option.bind_eq_some_iff.mp H
        obtain ⟨t227, A370, H⟩ := H
        replace H : (if y219.length + t227.length < 35184372088832 then ((mat_Mat_Times.f kj3 1 a0_1 (y219 ++ t227) l1).bind fun bt234 => (if t218 = 0 then (if bt234.2 = 0 then (if (bt234.1.length : Int) = 1 then (if (t215.length : Int) = a0_0 then (if 0 ≤ a2 then (if a2 < (t215.length : Int) then (if 0 < (bt234.1.length : Int) then (if (rd t215 a2) = (rd bt234.1 0) then ((credenzalaw17_awake.f kj3).bind fun t240 => (some t240)) else (some false)) else (none)) else (none)) else (none)) else (some false)) else (some false)) else (some false)) else (some false))) else (none)) = some r := H
        have A37 := Aside0.mk A370
        clear A370
        by_cases c38 : y219.length + t227.length < 35184372088832
        · rw [if_pos c38] at H
          have LMc38 := Aside0.mk c38
          clear c38
          obtain ⟨y230, hy230⟩ : ∃ y_ : List Int, y_ = (y219 ++ t227) := ⟨_, rfl⟩
          replace H : ((mat_Mat_Times.f kj3 1 a0_1 y230 l1).bind fun bt234 => (if t218 = 0 then (if bt234.2 = 0 then (if (bt234.1.length : Int) = 1 then (if (t215.length : Int) = a0_0 then (if 0 ≤ a2 then (if a2 < (t215.length : Int) then (if 0 < (bt234.1.length : Int) then (if (rd t215 a2) = (rd bt234.1 0) then ((credenzalaw17_awake.f kj3).bind fun t240 => (some t240)) else (some false)) else (none)) else (none)) else (none)) else (some false)) else (some false)) else (some false)) else (some false))) = some r := by first | (rw [hy230]; with_reducible exact H) | (have H2_ := (Option.bind_some _ _).symm.trans H; rw [hy230]; with_reducible exact H2_) | (have H2_ := (Option.bind_some _ _).symm.trans H; with_reducible exact H2_) | with_reducible exact H | (rw [hy230]; exact H) | exact H
          have Ny230 := Aside0.mk hy230
          clear hy230
          replace H := Option.bind_eq_some_iff.mp H
          obtain ⟨⟨t234, t237⟩, A390, H⟩ := H
          replace H : (if t218 = 0 then (if t237 = 0 then (if (t234.length : Int) = 1 then (if (t215.length : Int) = a0_0 then (if 0 ≤ a2 then (if a2 < (t215.length : Int) then (if 0 < (t234.length : Int) then (if (rd t215 a2) = (rd t234 0) then ((credenzalaw17_awake.f kj3).bind fun t240 => (some t240)) else (some false)) else (none)) else (none)) else (none)) else (some false)) else (some false)) else (some false)) else (some false)) = some r := H
          have A39 := Aside0.mk A390
          clear A390
          by_cases c40 : t218 = 0
          · rw [if_pos c40] at H
            have c40b0 : (t218 == 0) = true := beq_iff_eq.mpr c40
            have c40b1 : (t218 != 0) = false := bne_eq_false_iff_eq.mpr c40
            clear c40
            by_cases c41 : t237 = 0
            · rw [if_pos c41] at H
              have c41b0 : (t237 == 0) = true := beq_iff_eq.mpr c41
              have c41b1 : (t237 != 0) = false := bne_eq_false_iff_eq.mpr c41
              clear c41
              by_cases c42 : (t234.length : Int) = 1
              · rw [if_pos c42] at H
                have c42b0 : ((t234.length : Int) == 1) = true := beq_iff_eq.mpr c42
                have c42b1 : ((t234.length : Int) != 1) = false := bne_eq_false_iff_eq.mpr c42
                clear c42
                by_cases c43 : (t215.length : Int) = a0_0
                · rw [if_pos c43] at H
                  have c43b0 : ((t215.length : Int) == a0_0) = true := beq_iff_eq.mpr c43
                  have c43b1 : ((t215.length : Int) != a0_0) = false := bne_eq_false_iff_eq.mpr c43
                  clear c43
                  by_cases c44 : 0 ≤ a2
                  · rw [if_pos c44] at H
                    have c44b0 : decide (0 ≤ a2) = true := decide_eq_true c44
                    clear c44
                    by_cases c45 : a2 < (t215.length : Int)
                    · rw [if_pos c45] at H
                      have c45b0 : decide (a2 < (t215.length : Int)) = true := decide_eq_true c45
                      clear c45
                      by_cases c46 : 0 < (t234.length : Int)
                      · rw [if_pos c46] at H
                        have c46b0 : decide (0 < (t234.length : Int)) = true := decide_eq_true c46
                        have c46b1 : decide (0 < t234.length) = true := decide_eq_true (by omega)
                        clear c46
                        by_cases c47 : (rd t215 a2) = (rd t234 0)
                        · rw [if_pos c47] at H
                          have c47b0 : ((rd t215 a2) == (rd t234 0)) = true := beq_iff_eq.mpr c47
                          have c47b1 : ((rd t215 a2) != (rd t234 0)) = false := bne_eq_false_iff_eq.mpr c47
                          clear c47
                          replace H := Option.bind_eq_some_iff.mp H
                          obtain ⟨t240, A480, H⟩ := H
                          replace H : (some t240) = some r := H
                          have A48 := Aside0.mk A480
                          clear A480
                          obtain rfl := Option.some.inj H
                          have hcz49_0 : wc.cell? ⟨gb207, 0, none⟩ = some (.int .i64 a0_0) := (blk_cell BK207.out 0).trans rfl
                          have hcz49_1 : wc.cell? ⟨gb207, 1, none⟩ = some (.int .i64 a0_1) := (blk_cell BK207.out 1).trans rfl
                          have hcz49_2 : wc.cell? ⟨gb207, 2, none⟩ = some (.slice A0_2 l0_2.length c0_2) := (blk_cell BK207.out 2).trans rfl
                          have hfz49_0 := blk_frozen BK207.out 0
                          have hfz49_1 := blk_frozen BK207.out 1
                          have hfz49_2 := blk_frozen BK207.out 2
                          try go_wp2_with (first | ((with_reducible refine gate_callee (f := 31) rfl ?_); refine goesL_ (some 43) rfl rfl Try.func31 (by kernel_rfl) rfl #[.agg #[.int .i64 a0_0, .int .i64 a0_1, .slice A0_2 l0_2.length c0_2], .slice A1 l1.length c1] rfl (by (try simp only [List.map_toArray, List.map_cons, List.map_nil]); first | done | rfl | (simp only [List.length_drop, List.length_take]; rfl)) ?_; (with_reducible refine (mat_Mat_Times.calls kj3 a0_0 a0_1 _ _ l0_2 _ _ l1 t215 t218 _ ?side1 ?side2 ?side3 ?side4 A35.out).mono ?_); (case side1 => repeat (first | exact (Kd.C_below HR0_2.out HB.out) | (with_reducible refine Kd.C_alloc ?_ _) | (with_reducible refine Kd.C_drewN ?_ _) | (with_reducible refine Kd.C_drew ?_))); (case side2 => exact HC0_2.out); (case side3 => repeat (first | exact (Kd.C_below HR1.out HB.out) | (with_reducible refine Kd.C_alloc ?_ _) | (with_reducible refine Kd.C_drewN ?_ _) | (with_reducible refine Kd.C_drew ?_))); (case side4 => exact HC1.out); rintro e w50 ⟨v216, rfl, ho0, hb⟩; refine ⟨_, rfl, ?_⟩; have n0_ := Aside0.mk (Kd.R_lower ho0 (below_size (by repeat (first | (with_reducible first | exact HB.out | apply below_alloc | apply pw_below_drewN | apply below_drew1 | refine below_set ?_ GE207.out) | exact HB.out)))); have n1_ := Aside0.mk (blk_below (g := gb207) (o := .cells #[.int .i64 a0_0, .int .i64 a0_1, .slice A0_2 l0_2.length c0_2] 43 (0, 0)) (by (with_reducible repeat (first | refine blk_drewN ?_ _ | refine blk_drew ?_ | refine blk_alloc ?_ _)); exact BK207.out) hb); have n2_ := Aside0.mk (below_step (by repeat (first | (with_reducible first | exact HB.out | apply below_alloc | apply pw_below_drewN | apply below_drew1 | refine below_set ?_ GE207.out) | exact HB.out)) hb); clear BK207; clear HB; have HO217 := n0_; have BK207 := n1_; have HB := n2_; clear n0_ n1_ n2_; (try clear hb); (try clear hb2); (try clear hk); (try clear hi); (try clear ho0)))
                          have n0_ := Aside0.mk (Kd.R_drew HO217.out)
                          have n1_ := Aside0.mk (blk_drew BK207.out)
                          have n2_ := Aside0.mk (below_drew1 HB.out)
                          clear HO217
                          clear BK207
                          clear HB
                          have HO217 := n0_
                          have BK207 := n1_
                          have HB := n2_
                          clear n0_ n1_ n2_
                          refine start_ (n := 11) (S := fun w' => w'.cell? ⟨gb207, 0, none⟩ = some (.int .i64 a0_0) ∧ w'.cell? ⟨gb207, 1, none⟩ = some (.int .i64 a0_1) ∧ w'.cell? ⟨gb207, 2, none⟩ = some (.slice A0_2 l0_2.length c0_2)) (ds := []) #[false, false, false, false, false, false, false, false, false, false, false] (by kernel_rfl) rfl rfl ⟨(blk_cell BK207.out 0).trans rfl, (blk_cell BK207.out 1).trans rfl, (blk_cell BK207.out 2).trans rfl⟩ (fun hHeld => ?_); refine with_tabW credenzalaw17_MatParts.tab4 credenzalaw17_MatParts.bits4 (fun HT_ HW_ => ?_)
                          generalize w50.drew = w51 at HO217 BK207 HB hHeld ⊢
                          refine pure_ (i := 0) (N := some 46) (v := ?_) (a' := ?_) #[true, false, false, false, false, false, false, false, false, false, false] rfl rfl (any_of HT_.out (by kernel_rfl)) (fun _ _ _ h => h) (Or.inl ⟨by rfl, ?_⟩) ?_ ?_
                          rotate_left
                          · intro w'
                            go_simp
                            with_reducible rfl
                          rotate_left
                          · simp only [Act.put, List.setIfInBounds_toArray, List.set_cons_zero, List.set_cons_succ, i64_w, i32_w]
                            rfl
                          refine pure_ (i := 5) (N := some 51) (v := ?_) (a' := ?_) #[true, false, false, false, false, true, false, false, false, false, false] rfl rfl (any_of HT_.out (by kernel_rfl)) (fun _ _ _ h => h) (Or.inl ⟨by rfl, ?_⟩) ?_ ?_
                          rotate_left
                          · intro w'
                            go_simp
                            with_reducible rfl
                          rotate_left
                          · simp only [Act.put, List.setIfInBounds_toArray, List.set_cons_zero, List.set_cons_succ, i64_w, i32_w]
                            rfl
                          refine take_ (i := 1) (N := some 47) (v := ?_) (a' := ?_) #[true, true, false, false, false, true, false, false, false, false, false] rfl rfl (take_ofW HT_.out HW_.out (by kernel_rfl)) (fun _ _ _ h => h) (Or.inl ⟨by rfl, ?_⟩) hHeld ?_ ?_
                          rotate_left
                          · rintro w' ⟨s0, s1, s2⟩
                            go_simp
                            with_reducible rfl
                          rotate_left
                          · simp only [Act.put, List.setIfInBounds_toArray, List.set_cons_zero, List.set_cons_succ, i64_w, i32_w]
                            rfl
                          refine take_ (i := 3) (N := some 49) (v := ?_) (a' := ?_) #[true, true, false, true, false, true, false, false, false, false, false] rfl rfl (take_ofW HT_.out HW_.out (by kernel_rfl)) (fun _ _ _ h => h) (Or.inl ⟨by rfl, ?_⟩) hHeld ?_ ?_
                          rotate_left
                          · rintro w' ⟨s0, s1, s2⟩
                            go_simp
                            with_reducible rfl
                          rotate_left
                          · simp only [Act.put, List.setIfInBounds_toArray, List.set_cons_zero, List.set_cons_succ, i64_w, i32_w]
                            rfl
                          refine join_ (σ := Value × Value × Value × Value × Nat) 1 #[true, true, true, true, true, true, true, true, true, true, false] (fun s_ => [(48, s_.1), (50, .agg #[.int .i64 t222, .int .i64 t223, s_.2.1]), (52, s_.2.2.1), (53, s_.2.2.2.1), (9, .pointer (some ⟨s_.2.2.2.2, 0, none⟩)), (54, .agg #[.int .i64 1, .int .i64 a0_1, s_.2.2.2.1])]) (fun s_ w' => (w'.cell? ⟨gb207, 0, none⟩ = some (.int .i64 a0_0) ∧ w'.cell? ⟨gb207, 1, none⟩ = some (.int .i64 a0_1) ∧ w'.cell? ⟨gb207, 2, none⟩ = some (.slice A0_2 l0_2.length c0_2)) ∧ (Kd.R (Kd.int .i32) 21 w' w.heap.size (fun k_ => some k_ ≠ (s_.2.2.2.1 : Value).ownBlock) v216 t215) ∧ (Kd.V (Kd.int .i32) 21 w' w.heap.size (fun k_ => some k_ ≠ (v216 : Value).ownBlock ∧ some k_ ≠ (s_.2.2.2.1 : Value).ownBlock ∧ k_ ≠ gb207 ∧ k_ ≠ s_.2.2.2.2) s_.2.1 t224) ∧ (Kd.V (Kd.int .i32) 21 w' w.heap.size (fun k_ => some k_ ≠ (v216 : Value).ownBlock ∧ some k_ ≠ (s_.2.2.2.1 : Value).ownBlock ∧ k_ ≠ gb207 ∧ k_ ≠ s_.2.2.2.2) s_.2.2.1 t227) ∧ (Kd.R (Kd.int .i32) 21 w' w.heap.size (fun k_ => some k_ ≠ (v216 : Value).ownBlock) s_.2.2.2.1 y230) ∧ (w'.heap[gb207]? = some (.cells #[.int .i64 a0_0, .int .i64 a0_1, .slice A0_2 l0_2.length c0_2] 43 (0, 0))) ∧ (w'.heap[s_.2.2.2.2]? = some (.cells #[.int .i64 0, .int .i64 0, .slice none 0 0] 43 (0, 0))) ∧ (w.heap.size ≤ s_.2.2.2.2) ∧ (w.heap.size ≤ s_.2.2.2.2) ∧ (gb207 ≠ s_.2.2.2.2) ∧ (s_.2.2.2.2 ≠ gb207) ∧ (Below w.heap.size w w')) ?_ ?_
                          rotate_left
                          · intro hJ2_4_6_7_9
                            refine join_ (σ := Value × Value × Value × Value) 2 #[true, true, true, true, true, true, true, true, true, false, false] (fun s_ => [(48, s_.1), (50, .agg #[.int .i64 t222, .int .i64 t223, s_.2.1]), (52, s_.2.2.1), (53, s_.2.2.2), (54, .agg #[.int .i64 1, .int .i64 a0_1, s_.2.2.2])]) (fun s_ w' => (w'.cell? ⟨gb207, 0, none⟩ = some (.int .i64 a0_0) ∧ w'.cell? ⟨gb207, 1, none⟩ = some (.int .i64 a0_1) ∧ w'.cell? ⟨gb207, 2, none⟩ = some (.slice A0_2 l0_2.length c0_2)) ∧ (Kd.R (Kd.int .i32) 21 w' w.heap.size (fun k_ => some k_ ≠ (s_.2.2.2 : Value).ownBlock) v216 t215) ∧ (Kd.V (Kd.int .i32) 21 w' w.heap.size (fun k_ => some k_ ≠ (v216 : Value).ownBlock ∧ some k_ ≠ (s_.2.2.2 : Value).ownBlock ∧ k_ ≠ gb207) s_.2.1 t224) ∧ (Kd.V (Kd.int .i32) 21 w' w.heap.size (fun k_ => some k_ ≠ (v216 : Value).ownBlock ∧ some k_ ≠ (s_.2.2.2 : Value).ownBlock ∧ k_ ≠ gb207) s_.2.2.1 t227) ∧ (Kd.R (Kd.int .i32) 21 w' w.heap.size (fun k_ => some k_ ≠ (v216 : Value).ownBlock) s_.2.2.2 y230) ∧ (w'.heap[gb207]? = some (.cells #[.int .i64 a0_0, .int .i64 a0_1, .slice A0_2 l0_2.length c0_2] 43 (0, 0))) ∧ (Below w.heap.size w w')) ?_ ?_
                            rotate_left
                            · intro hJ2_4_6_7
                              refine join_ (σ := Value × Value × Value × Nat) 3 #[true, true, true, true, true, true, true, false, false, true, false] (fun s_ => [(48, s_.1), (50, .agg #[.int .i64 t222, .int .i64 t223, s_.2.1]), (52, s_.2.2.1), (9, .pointer (some ⟨s_.2.2.2, 0, none⟩))]) (fun s_ w' => (w'.cell? ⟨gb207, 0, none⟩ = some (.int .i64 a0_0) ∧ w'.cell? ⟨gb207, 1, none⟩ = some (.int .i64 a0_1) ∧ w'.cell? ⟨gb207, 2, none⟩ = some (.slice A0_2 l0_2.length c0_2)) ∧ (Kd.R (Kd.int .i32) 21 w' w.heap.size (fun k_ => some k_ ≠ (s_.1 : Value).ownBlock) v216 t215) ∧ (Kd.R (Kd.int .i32) 21 w' w.heap.size (fun k_ => some k_ ≠ (v216 : Value).ownBlock) s_.1 y219) ∧ (Kd.V (Kd.int .i32) 21 w' w.heap.size (fun k_ => some k_ ≠ (v216 : Value).ownBlock ∧ some k_ ≠ (s_.1 : Value).ownBlock ∧ k_ ≠ gb207 ∧ k_ ≠ s_.2.2.2) s_.2.1 t224) ∧ (Kd.V (Kd.int .i32) 21 w' w.heap.size (fun k_ => some k_ ≠ (v216 : Value).ownBlock ∧ some k_ ≠ (s_.1 : Value).ownBlock ∧ k_ ≠ gb207 ∧ k_ ≠ s_.2.2.2) s_.2.2.1 t227) ∧ (w'.heap[gb207]? = some (.cells #[.int .i64 a0_0, .int .i64 a0_1, .slice A0_2 l0_2.length c0_2] 43 (0, 0))) ∧ (w'.heap[s_.2.2.2]? = some (.cells #[.int .i64 0, .int .i64 0, .slice none 0 0] 43 (0, 0))) ∧ (w.heap.size ≤ s_.2.2.2) ∧ (w.heap.size ≤ s_.2.2.2) ∧ (gb207 ≠ s_.2.2.2) ∧ (s_.2.2.2 ≠ gb207) ∧ (Below w.heap.size w w')) ?_ ?_
                              rotate_left
                              · intro hJ2_4_6_9
                                refine join_ (σ := Value × Value × Value) 4 #[true, true, true, true, true, true, true, false, false, false, false] (fun s_ => [(48, s_.1), (50, .agg #[.int .i64 t222, .int .i64 t223, s_.2.1]), (52, s_.2.2)]) (fun s_ w' => (w'.cell? ⟨gb207, 0, none⟩ = some (.int .i64 a0_0) ∧ w'.cell? ⟨gb207, 1, none⟩ = some (.int .i64 a0_1) ∧ w'.cell? ⟨gb207, 2, none⟩ = some (.slice A0_2 l0_2.length c0_2)) ∧ (Kd.R (Kd.int .i32) 21 w' w.heap.size (fun k_ => some k_ ≠ (s_.1 : Value).ownBlock) v216 t215) ∧ (Kd.R (Kd.int .i32) 21 w' w.heap.size (fun k_ => some k_ ≠ (v216 : Value).ownBlock) s_.1 y219) ∧ (Kd.V (Kd.int .i32) 21 w' w.heap.size (fun k_ => some k_ ≠ (v216 : Value).ownBlock ∧ some k_ ≠ (s_.1 : Value).ownBlock ∧ k_ ≠ gb207) s_.2.1 t224) ∧ (Kd.V (Kd.int .i32) 21 w' w.heap.size (fun k_ => some k_ ≠ (v216 : Value).ownBlock ∧ some k_ ≠ (s_.1 : Value).ownBlock ∧ k_ ≠ gb207) s_.2.2 t227) ∧ (w'.heap[gb207]? = some (.cells #[.int .i64 a0_0, .int .i64 a0_1, .slice A0_2 l0_2.length c0_2] 43 (0, 0))) ∧ (Below w.heap.size w w')) ?_ ?_
                                rotate_left
                                · intro hJ2_4_6
                                  refine join_ (σ := Value × Value × Nat) 4 #[true, true, true, true, true, true, false, false, false, true, false] (fun s_ => [(48, s_.1), (50, .agg #[.int .i64 t222, .int .i64 t223, s_.2.1]), (9, .pointer (some ⟨s_.2.2, 0, none⟩))]) (fun s_ w' => (w'.cell? ⟨gb207, 0, none⟩ = some (.int .i64 a0_0) ∧ w'.cell? ⟨gb207, 1, none⟩ = some (.int .i64 a0_1) ∧ w'.cell? ⟨gb207, 2, none⟩ = some (.slice A0_2 l0_2.length c0_2)) ∧ (Kd.R (Kd.int .i32) 21 w' w.heap.size (fun k_ => some k_ ≠ (s_.1 : Value).ownBlock) v216 t215) ∧ (Kd.R (Kd.int .i32) 21 w' w.heap.size (fun k_ => some k_ ≠ (v216 : Value).ownBlock) s_.1 y219) ∧ (Kd.V (Kd.int .i32) 21 w' w.heap.size (fun k_ => some k_ ≠ (v216 : Value).ownBlock ∧ some k_ ≠ (s_.1 : Value).ownBlock ∧ k_ ≠ gb207 ∧ k_ ≠ s_.2.2) s_.2.1 t224) ∧ (w'.heap[gb207]? = some (.cells #[.int .i64 a0_0, .int .i64 a0_1, .slice A0_2 l0_2.length c0_2] 43 (0, 0))) ∧ (w'.heap[s_.2.2]? = some (.cells #[.int .i64 0, .int .i64 0, .slice none 0 0] 43 (0, 0))) ∧ (w.heap.size ≤ s_.2.2) ∧ (w.heap.size ≤ s_.2.2) ∧ (gb207 ≠ s_.2.2) ∧ (s_.2.2 ≠ gb207) ∧ (Below w.heap.size w w')) ?_ ?_
                                  rotate_left
                                  · intro hJ2_4_9
                                    refine join_ (σ := Value × Value × Nat) 4 #[true, true, false, true, true, true, true, false, false, true, false] (fun s_ => [(50, .agg #[.int .i64 t222, .int .i64 t223, s_.1]), (52, s_.2.1), (9, .pointer (some ⟨s_.2.2, 0, none⟩))]) (fun s_ w' => (w'.cell? ⟨gb207, 0, none⟩ = some (.int .i64 a0_0) ∧ w'.cell? ⟨gb207, 1, none⟩ = some (.int .i64 a0_1) ∧ w'.cell? ⟨gb207, 2, none⟩ = some (.slice A0_2 l0_2.length c0_2)) ∧ (Kd.R (Kd.int .i32) 21 w' w.heap.size (fun _ => True) v216 t215) ∧ (Kd.V (Kd.int .i32) 21 w' w.heap.size (fun k_ => some k_ ≠ (v216 : Value).ownBlock ∧ k_ ≠ gb207 ∧ k_ ≠ s_.2.2) s_.1 t224) ∧ (Kd.V (Kd.int .i32) 21 w' w.heap.size (fun k_ => some k_ ≠ (v216 : Value).ownBlock ∧ k_ ≠ gb207 ∧ k_ ≠ s_.2.2) s_.2.1 t227) ∧ (w'.heap[gb207]? = some (.cells #[.int .i64 a0_0, .int .i64 a0_1, .slice A0_2 l0_2.length c0_2] 43 (0, 0))) ∧ (w'.heap[s_.2.2]? = some (.cells #[.int .i64 0, .int .i64 0, .slice none 0 0] 43 (0, 0))) ∧ (w.heap.size ≤ s_.2.2) ∧ (w.heap.size ≤ s_.2.2) ∧ (gb207 ≠ s_.2.2) ∧ (s_.2.2 ≠ gb207) ∧ (Below w.heap.size w w')) ?_ ?_
                                    rotate_left
                                    · intro hJ4_6_9
                                      refine join_ (σ := Value × Value) 5 #[true, true, true, true, true, true, false, false, false, false, false] (fun s_ => [(48, s_.1), (50, .agg #[.int .i64 t222, .int .i64 t223, s_.2])]) (fun s_ w' => (w'.cell? ⟨gb207, 0, none⟩ = some (.int .i64 a0_0) ∧ w'.cell? ⟨gb207, 1, none⟩ = some (.int .i64 a0_1) ∧ w'.cell? ⟨gb207, 2, none⟩ = some (.slice A0_2 l0_2.length c0_2)) ∧ (Kd.R (Kd.int .i32) 21 w' w.heap.size (fun k_ => some k_ ≠ (s_.1 : Value).ownBlock) v216 t215) ∧ (Kd.R (Kd.int .i32) 21 w' w.heap.size (fun k_ => some k_ ≠ (v216 : Value).ownBlock) s_.1 y219) ∧ (Kd.V (Kd.int .i32) 21 w' w.heap.size (fun k_ => some k_ ≠ (v216 : Value).ownBlock ∧ some k_ ≠ (s_.1 : Value).ownBlock ∧ k_ ≠ gb207) s_.2 t224) ∧ (w'.heap[gb207]? = some (.cells #[.int .i64 a0_0, .int .i64 a0_1, .slice A0_2 l0_2.length c0_2] 43 (0, 0))) ∧ (Below w.heap.size w w')) ?_ ?_
                                      rotate_left
                                      · intro hJ2_4
                                        refine join_ (σ := Value × Nat) 5 #[true, true, true, true, false, true, false, false, false, true, false] (fun s_ => [(48, s_.1), (9, .pointer (some ⟨s_.2, 0, none⟩))]) (fun s_ w' => (w'.cell? ⟨gb207, 0, none⟩ = some (.int .i64 a0_0) ∧ w'.cell? ⟨gb207, 1, none⟩ = some (.int .i64 a0_1) ∧ w'.cell? ⟨gb207, 2, none⟩ = some (.slice A0_2 l0_2.length c0_2)) ∧ (Kd.R (Kd.int .i32) 21 w' w.heap.size (fun k_ => some k_ ≠ (s_.1 : Value).ownBlock) v216 t215) ∧ (Kd.R (Kd.int .i32) 21 w' w.heap.size (fun k_ => some k_ ≠ (v216 : Value).ownBlock) s_.1 y219) ∧ (w'.heap[gb207]? = some (.cells #[.int .i64 a0_0, .int .i64 a0_1, .slice A0_2 l0_2.length c0_2] 43 (0, 0))) ∧ (w'.heap[s_.2]? = some (.cells #[.int .i64 0, .int .i64 0, .slice none 0 0] 43 (0, 0))) ∧ (w.heap.size ≤ s_.2) ∧ (w.heap.size ≤ s_.2) ∧ (gb207 ≠ s_.2) ∧ (s_.2 ≠ gb207) ∧ (Below w.heap.size w w')) ?_ ?_
                                        rotate_left
                                        · intro hJ2_9
                                          refine join_ (σ := Value × Value) 5 #[true, true, false, true, true, true, true, false, false, false, false] (fun s_ => [(50, .agg #[.int .i64 t222, .int .i64 t223, s_.1]), (52, s_.2)]) (fun s_ w' => (w'.cell? ⟨gb207, 0, none⟩ = some (.int .i64 a0_0) ∧ w'.cell? ⟨gb207, 1, none⟩ = some (.int .i64 a0_1) ∧ w'.cell? ⟨gb207, 2, none⟩ = some (.slice A0_2 l0_2.length c0_2)) ∧ (Kd.R (Kd.int .i32) 21 w' w.heap.size (fun _ => True) v216 t215) ∧ (Kd.V (Kd.int .i32) 21 w' w.heap.size (fun k_ => some k_ ≠ (v216 : Value).ownBlock ∧ k_ ≠ gb207) s_.1 t224) ∧ (Kd.V (Kd.int .i32) 21 w' w.heap.size (fun k_ => some k_ ≠ (v216 : Value).ownBlock ∧ k_ ≠ gb207) s_.2 t227) ∧ (w'.heap[gb207]? = some (.cells #[.int .i64 a0_0, .int .i64 a0_1, .slice A0_2 l0_2.length c0_2] 43 (0, 0))) ∧ (Below w.heap.size w w')) ?_ ?_
                                          rotate_left
                                          · intro hJ4_6
                                            refine join_ (σ := Value × Nat) 5 #[true, true, false, true, true, true, false, false, false, true, false] (fun s_ => [(50, .agg #[.int .i64 t222, .int .i64 t223, s_.1]), (9, .pointer (some ⟨s_.2, 0, none⟩))]) (fun s_ w' => (w'.cell? ⟨gb207, 0, none⟩ = some (.int .i64 a0_0) ∧ w'.cell? ⟨gb207, 1, none⟩ = some (.int .i64 a0_1) ∧ w'.cell? ⟨gb207, 2, none⟩ = some (.slice A0_2 l0_2.length c0_2)) ∧ (Kd.R (Kd.int .i32) 21 w' w.heap.size (fun _ => True) v216 t215) ∧ (Kd.V (Kd.int .i32) 21 w' w.heap.size (fun k_ => some k_ ≠ (v216 : Value).ownBlock ∧ k_ ≠ gb207 ∧ k_ ≠ s_.2) s_.1 t224) ∧ (w'.heap[gb207]? = some (.cells #[.int .i64 a0_0, .int .i64 a0_1, .slice A0_2 l0_2.length c0_2] 43 (0, 0))) ∧ (w'.heap[s_.2]? = some (.cells #[.int .i64 0, .int .i64 0, .slice none 0 0] 43 (0, 0))) ∧ (w.heap.size ≤ s_.2) ∧ (w.heap.size ≤ s_.2) ∧ (gb207 ≠ s_.2) ∧ (s_.2 ≠ gb207) ∧ (Below w.heap.size w w')) ?_ ?_
                                            rotate_left
                                            · intro hJ4_9
                                              refine join_ (σ := Value) 6 #[true, true, true, true, false, true, false, false, false, false, false] (fun s_ => [(48, s_)]) (fun s_ w' => (w'.cell? ⟨gb207, 0, none⟩ = some (.int .i64 a0_0) ∧ w'.cell? ⟨gb207, 1, none⟩ = some (.int .i64 a0_1) ∧ w'.cell? ⟨gb207, 2, none⟩ = some (.slice A0_2 l0_2.length c0_2)) ∧ (Kd.R (Kd.int .i32) 21 w' w.heap.size (fun k_ => some k_ ≠ (s_ : Value).ownBlock) v216 t215) ∧ (Kd.R (Kd.int .i32) 21 w' w.heap.size (fun k_ => some k_ ≠ (v216 : Value).ownBlock) s_ y219) ∧ (w'.heap[gb207]? = some (.cells #[.int .i64 a0_0, .int .i64 a0_1, .slice A0_2 l0_2.length c0_2] 43 (0, 0))) ∧ (Below w.heap.size w w')) ?_ ?_
                                              rotate_left
                                              · intro hJ2
                                                refine join_ (σ := Value) 6 #[true, true, false, true, true, true, false, false, false, false, false] (fun s_ => [(50, .agg #[.int .i64 t222, .int .i64 t223, s_])]) (fun s_ w' => (w'.cell? ⟨gb207, 0, none⟩ = some (.int .i64 a0_0) ∧ w'.cell? ⟨gb207, 1, none⟩ = some (.int .i64 a0_1) ∧ w'.cell? ⟨gb207, 2, none⟩ = some (.slice A0_2 l0_2.length c0_2)) ∧ (Kd.R (Kd.int .i32) 21 w' w.heap.size (fun _ => True) v216 t215) ∧ (Kd.V (Kd.int .i32) 21 w' w.heap.size (fun k_ => some k_ ≠ (v216 : Value).ownBlock ∧ k_ ≠ gb207) s_ t224) ∧ (w'.heap[gb207]? = some (.cells #[.int .i64 a0_0, .int .i64 a0_1, .slice A0_2 l0_2.length c0_2] 43 (0, 0))) ∧ (Below w.heap.size w w')) ?_ ?_
                                                rotate_left
                                                · intro hJ4
                                                  refine join_ (σ := Nat) 6 #[true, true, false, true, false, true, false, false, false, true, false] (fun s_ => [(9, .pointer (some ⟨s_, 0, none⟩))]) (fun s_ w' => (w'.cell? ⟨gb207, 0, none⟩ = some (.int .i64 a0_0) ∧ w'.cell? ⟨gb207, 1, none⟩ = some (.int .i64 a0_1) ∧ w'.cell? ⟨gb207, 2, none⟩ = some (.slice A0_2 l0_2.length c0_2)) ∧ (Kd.R (Kd.int .i32) 21 w' w.heap.size (fun _ => True) v216 t215) ∧ (w'.heap[gb207]? = some (.cells #[.int .i64 a0_0, .int .i64 a0_1, .slice A0_2 l0_2.length c0_2] 43 (0, 0))) ∧ (w'.heap[s_]? = some (.cells #[.int .i64 0, .int .i64 0, .slice none 0 0] 43 (0, 0))) ∧ (w.heap.size ≤ s_) ∧ (w.heap.size ≤ s_) ∧ (gb207 ≠ s_) ∧ (s_ ≠ gb207) ∧ (Below w.heap.size w w')) ?_ ?_
                                                  rotate_left
                                                  · intro hJ9
                                                    refine three_ (i := 2) (j := 4) (k := 9) (Ni := some 48) (Nj := some 50) (Nk := some 9) #[true, true, true, true, false, true, false, false, false, false, false] #[true, true, false, true, true, true, false, false, false, false, false] #[true, true, false, true, false, true, false, false, false, true, false] rfl rfl rfl rfl rfl rfl (three_of HT_.out (by kernel_rfl)) (by decide) (by decide) (by decide) (fun K hK => ?_) (fun K hK => ?_) (fun K hK => ?_)
                                                    · skip
                                                      refine Kd.R_lit_step (Kd.int .i32) _ 21 ?hg (N := 48) ?hd (xs := ([] : List Int)) (inner := []) (ok := fun _ => True) (okp := fun _ => True) ?hr ?hp (fun _ hk => hk) trivial (Below.refl _ _) (Nat.le_refl _) (by simp) ?_; (case hd => rfl); (case hg => rfl); (case hr => first | (go_simp; done) | (go_simp; rfl)); (case hp => exact (Reps.none _ _))
                                                      intro v220 w52 ho53 hb hg_ hnew_
                                                      clear hg_ hnew_
                                                      (first | rw [← Ny219.out] at ho53 | (simp only [Int.reduceToNat] at ho53; rw [← Ny219.out] at ho53))
                                                      have n0_ := Aside0.mk (Kd.R_elder' (by (with_reducible repeat (first | apply Kd.R_alloc | apply Kd.R_drewN | apply Kd.R_drew)); exact HO217.out) (Kd.R_base ho53) hb)
                                                      have n1_ := Aside0.mk (Kd.R_lower (Kd.R_new' ho53 (Kd.R_lt (by (with_reducible repeat (first | apply Kd.R_alloc | apply Kd.R_drewN | apply Kd.R_drew)); exact HO217.out))) (below_size (by repeat (first | (with_reducible first | exact HB.out | apply below_alloc | apply pw_below_drewN | apply below_drew1 | refine below_set ?_ GE207.out) | exact HB.out))))
                                                      have n2_ := Aside0.mk (blk_below (g := gb207) (o := .cells #[.int .i64 a0_0, .int .i64 a0_1, .slice A0_2 l0_2.length c0_2] 43 (0, 0)) (by (with_reducible repeat (first | refine blk_drewN ?_ _ | refine blk_drew ?_ | refine blk_alloc ?_ _)); exact BK207.out) hb)
                                                      have n3_ := Aside0.mk (below_step (by repeat (first | (with_reducible first | exact HB.out | apply below_alloc | apply pw_below_drewN | apply below_drew1 | refine below_set ?_ GE207.out) | exact HB.out)) hb)
                                                      clear HO217
                                                      clear BK207
                                                      clear HB
                                                      have HO217 := n0_
                                                      have HO221 := n1_
                                                      have BK207 := n2_
                                                      have HB := n3_
                                                      clear n0_ n1_ n2_ n3_
                                                      clear hb ho53
                                                      refine hK.out _ _ ⟨(blk_cell BK207.out 0).trans rfl, (blk_cell BK207.out 1).trans rfl, (blk_cell BK207.out 2).trans rfl⟩ (fun hHeld => ?_)
                                                      clear hK K
                                                      refine norm_ (a' := ?_) ?_ ?_
                                                      rotate_left
                                                      · show Act.put _ (some 48) _ = _
                                                        simp only [Act.put, List.setIfInBounds_toArray, List.set_cons_zero, List.set_cons_succ, i64_w, i32_w]
                                                        rfl
                                                      exact norm_ (by first | (simp only [putAll, Act.put, List.setIfInBounds_toArray, List.set_cons_zero, List.set_cons_succ]; done) | (simp only [putAll, Act.put, List.setIfInBounds_toArray, List.set_cons_zero, List.set_cons_succ]; rfl)) (hJ2 (v220) _ ⟨hHeld, (by (with_reducible repeat (first | apply Kd.R_alloc | apply Kd.R_drewN | apply Kd.R_drew)); exact Kd.R_mono HO217.out (fun _ hk => hk.2)), (by (with_reducible repeat (first | apply Kd.R_alloc | apply Kd.R_drewN | apply Kd.R_drew)); exact Kd.R_mono HO221.out (fun _ hk => hk.2)), (by (with_reducible repeat (first | refine blk_drewN ?_ _ | refine blk_drew ?_ | refine blk_alloc ?_ _)); exact BK207.out), (by repeat (first | (with_reducible first | exact HB.out | apply below_alloc | apply pw_below_drewN | apply below_drew1 | refine below_set ?_ GE207.out) | exact HB.out))⟩)
                                                    · skip
                                                      refine goes_ Try.func33 (by kernel_rfl) rfl #[.agg #[.int .i64 a0_0, .int .i64 a0_1, .slice A0_2 l0_2.length c0_2]] (by rfl) rfl rfl (by (try simp only [List.map_toArray, List.map_cons, List.map_nil]); first | done | rfl | (simp only [List.length_drop, List.length_take]; rfl)) ?_
                                                      with_reducible refine (credenzalaw17_ref.calls a0_0 a0_1 (fun k_ => k_ < w.heap.size) _ _ l0_2 t222 t223 t224 _ ?side1 A36.out).mono ?_
                                                      (case side1 => exact Kd.V_mk HC0_2.out (Kd.F_below (Kd.C_F (Kd.heap_int .i32) HR0_2.out) (by repeat (first | (with_reducible first | exact HB.out | apply below_alloc | apply pw_below_drewN | apply below_drew1 | refine below_set ?_ GE207.out) | exact HB.out))))
                                                      rintro e w52 ⟨v225, rfl, ho0, hb⟩
                                                      refine ⟨_, rfl, ?_⟩
                                                      have n0_ := Aside0.mk (Kd.R_below (by (with_reducible repeat (first | apply Kd.R_alloc | apply Kd.R_drewN | apply Kd.R_drew)); exact HO217.out) hb)
                                                      have n1_ := Aside0.mk (Kd.V_lower (Kd.V_mono (ok' := fun k_ => some k_ ≠ (v216 : Value).ownBlock ∧ k_ ≠ gb207) ho0 (fun k_ hk_ => ⟨Or.elim hk_ (fun hs_ => fun e_ => Nat.not_le.2 hs_ (Kd.R_base HO217.out k_ e_.symm)) (fun hn_ => (Kd.fresh' (Kd.R_lt (by (with_reducible repeat (first | apply Kd.R_alloc | apply Kd.R_drewN | apply Kd.R_drew)); exact HO217.out)) k_ hn_)), Or.elim hk_ (fun hs_ => fun e_ => Nat.not_le.2 hs_ (by rw [e_]; exact GW207.out)) (fun hn_ => (Kd.freshB (g := gb207) (o := .cells #[.int .i64 a0_0, .int .i64 a0_1, .slice A0_2 l0_2.length c0_2] 43 (0, 0)) (by (with_reducible repeat (first | refine blk_drewN ?_ _ | refine blk_drew ?_ | refine blk_alloc ?_ _)); exact BK207.out) k_ hn_))⟩)) (below_size (by repeat (first | (with_reducible first | exact HB.out | apply below_alloc | apply pw_below_drewN | apply below_drew1 | refine below_set ?_ GE207.out) | exact HB.out))))
                                                      have n2_ := Aside0.mk (blk_below (g := gb207) (o := .cells #[.int .i64 a0_0, .int .i64 a0_1, .slice A0_2 l0_2.length c0_2] 43 (0, 0)) (by (with_reducible repeat (first | refine blk_drewN ?_ _ | refine blk_drew ?_ | refine blk_alloc ?_ _)); exact BK207.out) hb)
                                                      have n3_ := Aside0.mk (below_step (by repeat (first | (with_reducible first | exact HB.out | apply below_alloc | apply pw_below_drewN | apply below_drew1 | refine below_set ?_ GE207.out) | exact HB.out)) hb)
                                                      clear HO217
                                                      clear BK207
                                                      clear HB
                                                      have HO217 := n0_
                                                      have HO226 := n1_
                                                      have BK207 := n2_
                                                      have HB := n3_
                                                      clear n0_ n1_ n2_ n3_
                                                      (try clear hb)
                                                      (try clear hb2)
                                                      (try clear hk)
                                                      (try clear hi)
                                                      (try clear ho0)
                                                      refine hK.out _ _ ⟨(blk_cell BK207.out 0).trans rfl, (blk_cell BK207.out 1).trans rfl, (blk_cell BK207.out 2).trans rfl⟩ (fun hHeld => ?_)
                                                      clear hK K
                                                      refine norm_ (a' := ?_) ?_ ?_
                                                      rotate_left
                                                      · show Act.put _ (some 50) _ = _
                                                        simp only [Act.put, List.setIfInBounds_toArray, List.set_cons_zero, List.set_cons_succ, i64_w, i32_w]
                                                        rfl
                                                      exact norm_ (by first | (simp only [putAll, Act.put, List.setIfInBounds_toArray, List.set_cons_zero, List.set_cons_succ]; done) | (simp only [putAll, Act.put, List.setIfInBounds_toArray, List.set_cons_zero, List.set_cons_succ]; rfl)) (hJ4 (v225) _ ⟨hHeld, (by (with_reducible repeat (first | apply Kd.R_alloc | apply Kd.R_drewN | apply Kd.R_drew)); exact HO217.out), (by (with_reducible repeat (first | apply Kd.V_alloc | apply Kd.V_drewN | apply Kd.V_drew)); exact HO226.out), (by (with_reducible repeat (first | refine blk_drewN ?_ _ | refine blk_drew ?_ | refine blk_alloc ?_ _)); exact BK207.out), (by repeat (first | (with_reducible first | exact HB.out | apply below_alloc | apply pw_below_drewN | apply below_drew1 | refine below_set ?_ GE207.out) | exact HB.out))⟩)
                                                    · skip
                                                      refine box_step ?hg (N := 9) ?hd (cs := #[.int .i64 0, .int .i64 0, .slice none 0 0]) (t := 43) ?hr ?_; (case hd => rfl); (case hg => rfl); (case hr => first | (go_simp; done) | (go_simp; rfl))
                                                      intro gb233 hg w52 hbox hb
                                                      have n0_ := Aside0.mk (Kd.R_below (by (with_reducible repeat (first | apply Kd.R_alloc | apply Kd.R_drewN | apply Kd.R_drew)); exact HO217.out) hb)
                                                      have n1_ := Aside0.mk (blk_below (g := gb207) (o := .cells #[.int .i64 a0_0, .int .i64 a0_1, .slice A0_2 l0_2.length c0_2] 43 (0, 0)) (by (with_reducible repeat (first | refine blk_drewN ?_ _ | refine blk_drew ?_ | refine blk_alloc ?_ _)); exact BK207.out) hb)
                                                      have n2_ := Aside0.mk (below_step (by repeat (first | (with_reducible first | exact HB.out | apply below_alloc | apply pw_below_drewN | apply below_drew1 | refine below_set ?_ GE207.out) | exact HB.out)) hb)
                                                      have n3_ := Aside0.mk (hbox)
                                                      have n4_ := Aside0.mk ((by rw [hg]; exact (below_size (by repeat (first | (with_reducible first | exact HB.out | apply below_alloc | apply pw_below_drewN | apply below_drew1 | refine below_set ?_ GE207.out) | exact HB.out))) : w.heap.size ≤ gb233))
                                                      have n5_ := Aside0.mk ((by rw [hg]; exact (below_size (by repeat (first | (with_reducible first | exact HB.out | apply below_alloc | apply pw_below_drewN | apply below_drew1 | refine below_set ?_ GE207.out) | exact HB.out))) : w.heap.size ≤ gb233))
                                                      have n6_ := Aside0.mk ((by rw [hg]; exact Nat.ne_of_lt (blk_lt (g := gb207) (o := .cells #[.int .i64 a0_0, .int .i64 a0_1, .slice A0_2 l0_2.length c0_2] 43 (0, 0)) (by (with_reducible repeat (first | refine blk_drewN ?_ _ | refine blk_drew ?_ | refine blk_alloc ?_ _)); exact BK207.out)) : gb207 ≠ gb233))
                                                      have n7_ := Aside0.mk ((by rw [hg]; exact Nat.ne_of_gt (blk_lt (g := gb207) (o := .cells #[.int .i64 a0_0, .int .i64 a0_1, .slice A0_2 l0_2.length c0_2] 43 (0, 0)) (by (with_reducible repeat (first | refine blk_drewN ?_ _ | refine blk_drew ?_ | refine blk_alloc ?_ _)); exact BK207.out)) : gb233 ≠ gb207))
                                                      clear HO217
                                                      clear BK207
                                                      clear HB
                                                      have HO217 := n0_
                                                      have BK207 := n1_
                                                      have HB := n2_
                                                      have BK233 := n3_
                                                      have GW233 := n4_
                                                      have GE233 := n5_
                                                      have NB207_233 := n6_
                                                      have NB233_207 := n7_
                                                      clear n0_ n1_ n2_ n3_ n4_ n5_ n6_ n7_
                                                      clear hb hbox hg
                                                      refine hK.out _ _ ⟨(blk_cell BK207.out 0).trans rfl, (blk_cell BK207.out 1).trans rfl, (blk_cell BK207.out 2).trans rfl⟩ (fun hHeld => ?_)
                                                      clear hK K
                                                      refine norm_ (a' := ?_) ?_ ?_
                                                      rotate_left
                                                      · show Act.put _ (some 9) _ = _
                                                        simp only [Act.put, List.setIfInBounds_toArray, List.set_cons_zero, List.set_cons_succ, i64_w, i32_w]
                                                        rfl
                                                      exact norm_ (by first | (simp only [putAll, Act.put, List.setIfInBounds_toArray, List.set_cons_zero, List.set_cons_succ]; done) | (simp only [putAll, Act.put, List.setIfInBounds_toArray, List.set_cons_zero, List.set_cons_succ]; rfl)) (hJ9 (gb233) _ ⟨hHeld, (by (with_reducible repeat (first | apply Kd.R_alloc | apply Kd.R_drewN | apply Kd.R_drew)); exact HO217.out), (by (with_reducible repeat (first | refine blk_drewN ?_ _ | refine blk_drew ?_ | refine blk_alloc ?_ _)); exact BK207.out), (by (with_reducible repeat (first | refine blk_drewN ?_ _ | refine blk_drew ?_ | refine blk_alloc ?_ _)); exact BK233.out), GW233.out, GE233.out, NB207_233.out, NB233_207.out, (by repeat (first | (with_reducible first | exact HB.out | apply below_alloc | apply pw_below_drewN | apply below_drew1 | refine below_set ?_ GE207.out | refine below_set ?_ GE233.out) | exact HB.out))⟩)
                                                  · skip
                                                    rintro gb233 w53 ⟨hS_, h0_, h1_, h2_, h3_, h4_, h5_, h6_, h7_⟩
                                                    have n0_ : Aside0 (Kd.R (Kd.int .i32) 21 w53 w.heap.size (fun _ => True) v216 t215) := ⟨h0_⟩
                                                    have n1_ : Aside0 (w53.heap[gb207]? = some (.cells #[.int .i64 a0_0, .int .i64 a0_1, .slice A0_2 l0_2.length c0_2] 43 (0, 0))) := ⟨h1_⟩
                                                    have n2_ : Aside0 (w53.heap[gb233]? = some (.cells #[.int .i64 0, .int .i64 0, .slice none 0 0] 43 (0, 0))) := ⟨h2_⟩
                                                    have n3_ : Aside0 (w.heap.size ≤ gb233) := ⟨h3_⟩
                                                    have n4_ : Aside0 (w.heap.size ≤ gb233) := ⟨h4_⟩
                                                    have n5_ : Aside0 (gb207 ≠ gb233) := ⟨h5_⟩
                                                    have n6_ : Aside0 (gb233 ≠ gb207) := ⟨h6_⟩
                                                    have n7_ : Aside0 (Below w.heap.size w w53) := ⟨h7_⟩
                                                    clear HO217
                                                    clear BK207
                                                    clear HB
                                                    clear h0_ h1_ h2_ h3_ h4_ h5_ h6_ h7_
                                                    have HO217 := n0_
                                                    have BK207 := n1_
                                                    have BK233 := n2_
                                                    have GW233 := n3_
                                                    have GE233 := n4_
                                                    have NB207_233 := n5_
                                                    have NB233_207 := n6_
                                                    have HB := n7_
                                                    clear n0_ n1_ n2_ n3_ n4_ n5_ n6_ n7_
                                                    have hHeld : w53.cell? ⟨gb207, 0, none⟩ = some (.int .i64 a0_0) ∧ w53.cell? ⟨gb207, 1, none⟩ = some (.int .i64 a0_1) ∧ w53.cell? ⟨gb207, 2, none⟩ = some (.slice A0_2 l0_2.length c0_2) := hS_
                                                    refine norm_ (a' := ?_) ?_ ?_
                                                    rotate_left
                                                    · simp only [putAll, Act.put, List.setIfInBounds_toArray, List.set_cons_zero, List.set_cons_succ]
                                                      rfl
                                                    refine two_ (i := 2) (j := 4) (Ni := some 48) (Nj := some 50) #[true, true, true, true, false, true, false, false, false, true, false] #[true, true, false, true, true, true, false, false, false, true, false] rfl rfl rfl rfl (two_of HT_.out (by kernel_rfl)) (by decide) (by decide) (fun K hK => ?_) (fun K hK => ?_)
                                                    · skip
                                                      refine Kd.R_lit_step (Kd.int .i32) _ 21 ?hg (N := 48) ?hd (xs := ([] : List Int)) (inner := []) (ok := fun _ => True) (okp := fun _ => True) ?hr ?hp (fun _ hk => hk) trivial (Below.refl _ _) (Nat.le_refl _) (by simp) ?_; (case hd => rfl); (case hg => rfl); (case hr => first | (go_simp; done) | (go_simp; rfl)); (case hp => exact (Reps.none _ _))
                                                      intro v220 w54 ho55 hb hg_ hnew_
                                                      clear hg_ hnew_
                                                      (first | rw [← Ny219.out] at ho55 | (simp only [Int.reduceToNat] at ho55; rw [← Ny219.out] at ho55))
                                                      have n0_ := Aside0.mk (Kd.R_elder' (by (with_reducible repeat (first | apply Kd.R_alloc | apply Kd.R_drewN | apply Kd.R_drew)); exact HO217.out) (Kd.R_base ho55) hb)
                                                      have n1_ := Aside0.mk (Kd.R_lower (Kd.R_new' ho55 (Kd.R_lt (by (with_reducible repeat (first | apply Kd.R_alloc | apply Kd.R_drewN | apply Kd.R_drew)); exact HO217.out))) (below_size (by repeat (first | (with_reducible first | exact HB.out | apply below_alloc | apply pw_below_drewN | apply below_drew1 | refine below_set ?_ GE207.out | refine below_set ?_ GE233.out) | exact HB.out))))
                                                      have n2_ := Aside0.mk (blk_below (g := gb207) (o := .cells #[.int .i64 a0_0, .int .i64 a0_1, .slice A0_2 l0_2.length c0_2] 43 (0, 0)) (by (with_reducible repeat (first | refine blk_drewN ?_ _ | refine blk_drew ?_ | refine blk_alloc ?_ _)); exact BK207.out) hb)
                                                      have n3_ := Aside0.mk (blk_below (g := gb233) (o := .cells #[.int .i64 0, .int .i64 0, .slice none 0 0] 43 (0, 0)) (by (with_reducible repeat (first | refine blk_drewN ?_ _ | refine blk_drew ?_ | refine blk_alloc ?_ _)); exact BK233.out) hb)
                                                      have n4_ := Aside0.mk (below_step (by repeat (first | (with_reducible first | exact HB.out | apply below_alloc | apply pw_below_drewN | apply below_drew1 | refine below_set ?_ GE207.out | refine below_set ?_ GE233.out) | exact HB.out)) hb)
                                                      clear HO217
                                                      clear BK207
                                                      clear BK233
                                                      clear HB
                                                      have HO217 := n0_
                                                      have HO221 := n1_
                                                      have BK207 := n2_
                                                      have BK233 := n3_
                                                      have HB := n4_
                                                      clear n0_ n1_ n2_ n3_ n4_
                                                      clear hb ho55
                                                      refine hK.out _ _ ⟨(blk_cell BK207.out 0).trans rfl, (blk_cell BK207.out 1).trans rfl, (blk_cell BK207.out 2).trans rfl⟩ (fun hHeld => ?_)
                                                      clear hK K
                                                      refine norm_ (a' := ?_) ?_ ?_
                                                      rotate_left
                                                      · show Act.put _ (some 48) _ = _
                                                        simp only [Act.put, List.setIfInBounds_toArray, List.set_cons_zero, List.set_cons_succ, i64_w, i32_w]
                                                        rfl
                                                      exact norm_ (by first | (simp only [putAll, Act.put, List.setIfInBounds_toArray, List.set_cons_zero, List.set_cons_succ]; done) | (simp only [putAll, Act.put, List.setIfInBounds_toArray, List.set_cons_zero, List.set_cons_succ]; rfl)) (hJ2_9 (v220, gb233) _ ⟨hHeld, (by (with_reducible repeat (first | apply Kd.R_alloc | apply Kd.R_drewN | apply Kd.R_drew)); exact Kd.R_mono HO217.out (fun _ hk => hk.2)), (by (with_reducible repeat (first | apply Kd.R_alloc | apply Kd.R_drewN | apply Kd.R_drew)); exact Kd.R_mono HO221.out (fun _ hk => hk.2)), (by (with_reducible repeat (first | refine blk_drewN ?_ _ | refine blk_drew ?_ | refine blk_alloc ?_ _)); exact BK207.out), (by (with_reducible repeat (first | refine blk_drewN ?_ _ | refine blk_drew ?_ | refine blk_alloc ?_ _)); exact BK233.out), GW233.out, GE233.out, NB207_233.out, NB233_207.out, (by repeat (first | (with_reducible first | exact HB.out | apply below_alloc | apply pw_below_drewN | apply below_drew1 | refine below_set ?_ GE207.out | refine below_set ?_ GE233.out) | exact HB.out))⟩)
                                                    · skip
                                                      refine goes_ Try.func33 (by kernel_rfl) rfl #[.agg #[.int .i64 a0_0, .int .i64 a0_1, .slice A0_2 l0_2.length c0_2]] (by rfl) rfl rfl (by (try simp only [List.map_toArray, List.map_cons, List.map_nil]); first | done | rfl | (simp only [List.length_drop, List.length_take]; rfl)) ?_
                                                      with_reducible refine (credenzalaw17_ref.calls a0_0 a0_1 (fun k_ => k_ < w.heap.size) _ _ l0_2 t222 t223 t224 _ ?side1 A36.out).mono ?_
                                                      (case side1 => exact Kd.V_mk HC0_2.out (Kd.F_below (Kd.C_F (Kd.heap_int .i32) HR0_2.out) (by repeat (first | (with_reducible first | exact HB.out | apply below_alloc | apply pw_below_drewN | apply below_drew1 | refine below_set ?_ GE207.out | refine below_set ?_ GE233.out) | exact HB.out))))
                                                      rintro e w54 ⟨v225, rfl, ho0, hb⟩
                                                      refine ⟨_, rfl, ?_⟩
                                                      have n0_ := Aside0.mk (Kd.R_below (by (with_reducible repeat (first | apply Kd.R_alloc | apply Kd.R_drewN | apply Kd.R_drew)); exact HO217.out) hb)
                                                      have n1_ := Aside0.mk (Kd.V_lower (Kd.V_mono (ok' := fun k_ => some k_ ≠ (v216 : Value).ownBlock ∧ k_ ≠ gb207 ∧ k_ ≠ gb233) ho0 (fun k_ hk_ => ⟨Or.elim hk_ (fun hs_ => fun e_ => Nat.not_le.2 hs_ (Kd.R_base HO217.out k_ e_.symm)) (fun hn_ => (Kd.fresh' (Kd.R_lt (by (with_reducible repeat (first | apply Kd.R_alloc | apply Kd.R_drewN | apply Kd.R_drew)); exact HO217.out)) k_ hn_)), Or.elim hk_ (fun hs_ => fun e_ => Nat.not_le.2 hs_ (by rw [e_]; exact GW207.out)) (fun hn_ => (Kd.freshB (g := gb207) (o := .cells #[.int .i64 a0_0, .int .i64 a0_1, .slice A0_2 l0_2.length c0_2] 43 (0, 0)) (by (with_reducible repeat (first | refine blk_drewN ?_ _ | refine blk_drew ?_ | refine blk_alloc ?_ _)); exact BK207.out) k_ hn_)), Or.elim hk_ (fun hs_ => fun e_ => Nat.not_le.2 hs_ (by rw [e_]; exact GW233.out)) (fun hn_ => (Kd.freshB (g := gb233) (o := .cells #[.int .i64 0, .int .i64 0, .slice none 0 0] 43 (0, 0)) (by (with_reducible repeat (first | refine blk_drewN ?_ _ | refine blk_drew ?_ | refine blk_alloc ?_ _)); exact BK233.out) k_ hn_))⟩)) (below_size (by repeat (first | (with_reducible first | exact HB.out | apply below_alloc | apply pw_below_drewN | apply below_drew1 | refine below_set ?_ GE207.out | refine below_set ?_ GE233.out) | exact HB.out))))
                                                      have n2_ := Aside0.mk (blk_below (g := gb207) (o := .cells #[.int .i64 a0_0, .int .i64 a0_1, .slice A0_2 l0_2.length c0_2] 43 (0, 0)) (by (with_reducible repeat (first | refine blk_drewN ?_ _ | refine blk_drew ?_ | refine blk_alloc ?_ _)); exact BK207.out) hb)
                                                      have n3_ := Aside0.mk (blk_below (g := gb233) (o := .cells #[.int .i64 0, .int .i64 0, .slice none 0 0] 43 (0, 0)) (by (with_reducible repeat (first | refine blk_drewN ?_ _ | refine blk_drew ?_ | refine blk_alloc ?_ _)); exact BK233.out) hb)
                                                      have n4_ := Aside0.mk (below_step (by repeat (first | (with_reducible first | exact HB.out | apply below_alloc | apply pw_below_drewN | apply below_drew1 | refine below_set ?_ GE207.out | refine below_set ?_ GE233.out) | exact HB.out)) hb)
                                                      clear HO217
                                                      clear BK207
                                                      clear BK233
                                                      clear HB
                                                      have HO217 := n0_
                                                      have HO226 := n1_
                                                      have BK207 := n2_
                                                      have BK233 := n3_
                                                      have HB := n4_
                                                      clear n0_ n1_ n2_ n3_ n4_
                                                      (try clear hb)
                                                      (try clear hb2)
                                                      (try clear hk)
                                                      (try clear hi)
                                                      (try clear ho0)
                                                      refine hK.out _ _ ⟨(blk_cell BK207.out 0).trans rfl, (blk_cell BK207.out 1).trans rfl, (blk_cell BK207.out 2).trans rfl⟩ (fun hHeld => ?_)
                                                      clear hK K
                                                      refine norm_ (a' := ?_) ?_ ?_
                                                      rotate_left
                                                      · show Act.put _ (some 50) _ = _
                                                        simp only [Act.put, List.setIfInBounds_toArray, List.set_cons_zero, List.set_cons_succ, i64_w, i32_w]
                                                        rfl
                                                      exact norm_ (by first | (simp only [putAll, Act.put, List.setIfInBounds_toArray, List.set_cons_zero, List.set_cons_succ]; done) | (simp only [putAll, Act.put, List.setIfInBounds_toArray, List.set_cons_zero, List.set_cons_succ]; rfl)) (hJ4_9 (v225, gb233) _ ⟨hHeld, (by (with_reducible repeat (first | apply Kd.R_alloc | apply Kd.R_drewN | apply Kd.R_drew)); exact HO217.out), (by (with_reducible repeat (first | apply Kd.V_alloc | apply Kd.V_drewN | apply Kd.V_drew)); exact HO226.out), (by (with_reducible repeat (first | refine blk_drewN ?_ _ | refine blk_drew ?_ | refine blk_alloc ?_ _)); exact BK207.out), (by (with_reducible repeat (first | refine blk_drewN ?_ _ | refine blk_drew ?_ | refine blk_alloc ?_ _)); exact BK233.out), GW233.out, GE233.out, NB207_233.out, NB233_207.out, (by repeat (first | (with_reducible first | exact HB.out | apply below_alloc | apply pw_below_drewN | apply below_drew1 | refine below_set ?_ GE207.out | refine below_set ?_ GE233.out) | exact HB.out))⟩)
                                                · skip
                                                  rintro v225 w53 ⟨hS_, h0_, h1_, h2_, h3_⟩
                                                  have n0_ : Aside0 (Kd.R (Kd.int .i32) 21 w53 w.heap.size (fun _ => True) v216 t215) := ⟨h0_⟩
                                                  have n1_ : Aside0 (Kd.V (Kd.int .i32) 21 w53 w.heap.size (fun k_ => some k_ ≠ (v216 : Value).ownBlock ∧ k_ ≠ gb207) v225 t224) := ⟨h1_⟩
                                                  have n2_ : Aside0 (w53.heap[gb207]? = some (.cells #[.int .i64 a0_0, .int .i64 a0_1, .slice A0_2 l0_2.length c0_2] 43 (0, 0))) := ⟨h2_⟩
                                                  have n3_ : Aside0 (Below w.heap.size w w53) := ⟨h3_⟩
                                                  clear HO217
                                                  clear BK207
                                                  clear HB
                                                  clear h0_ h1_ h2_ h3_
                                                  have HO217 := n0_
                                                  have HO226 := n1_
                                                  have BK207 := n2_
                                                  have HB := n3_
                                                  clear n0_ n1_ n2_ n3_
                                                  have hHeld : w53.cell? ⟨gb207, 0, none⟩ = some (.int .i64 a0_0) ∧ w53.cell? ⟨gb207, 1, none⟩ = some (.int .i64 a0_1) ∧ w53.cell? ⟨gb207, 2, none⟩ = some (.slice A0_2 l0_2.length c0_2) := hS_
                                                  refine norm_ (a' := ?_) ?_ ?_
                                                  rotate_left
                                                  · simp only [putAll, Act.put, List.setIfInBounds_toArray, List.set_cons_zero, List.set_cons_succ]
                                                    rfl
                                                  refine three_ (i := 2) (j := 6) (k := 9) (Ni := some 48) (Nj := some 52) (Nk := some 9) #[true, true, true, true, true, true, false, false, false, false, false] #[true, true, false, true, true, true, true, false, false, false, false] #[true, true, false, true, true, true, false, false, false, true, false] rfl rfl rfl rfl rfl rfl (three_of HT_.out (by kernel_rfl)) (by decide) (by decide) (by decide) (fun K hK => ?_) (fun K hK => ?_) (fun K hK => ?_)
                                                  · skip
                                                    refine Kd.R_lit_step (Kd.int .i32) _ 21 ?hg (N := 48) ?hd (xs := ([] : List Int)) (inner := []) (ok := fun _ => True) (okp := fun _ => True) ?hr ?hp (fun _ hk => hk) trivial (Below.refl _ _) (Nat.le_refl _) (by simp) ?_; (case hd => rfl); (case hg => rfl); (case hr => first | (go_simp; done) | (go_simp; rfl)); (case hp => exact (Reps.none _ _))
                                                    intro v220 w54 ho55 hb hg_ hnew_
                                                    clear hg_ hnew_
                                                    (first | rw [← Ny219.out] at ho55 | (simp only [Int.reduceToNat] at ho55; rw [← Ny219.out] at ho55))
                                                    have n0_ := Aside0.mk (Kd.R_elder' (by (with_reducible repeat (first | apply Kd.R_alloc | apply Kd.R_drewN | apply Kd.R_drew)); exact HO217.out) (Kd.R_base ho55) hb)
                                                    have n1_ := Aside0.mk (Kd.V_elder' (by (with_reducible repeat (first | apply Kd.V_alloc | apply Kd.V_drewN | apply Kd.V_drew)); exact HO226.out) (Kd.R_base ho55) hb)
                                                    have n2_ := Aside0.mk (Kd.R_lower (Kd.R_new' ho55 (Kd.R_lt (by (with_reducible repeat (first | apply Kd.R_alloc | apply Kd.R_drewN | apply Kd.R_drew)); exact HO217.out))) (below_size (by repeat (first | (with_reducible first | exact HB.out | apply below_alloc | apply pw_below_drewN | apply below_drew1 | refine below_set ?_ GE207.out) | exact HB.out))))
                                                    have n3_ := Aside0.mk (blk_below (g := gb207) (o := .cells #[.int .i64 a0_0, .int .i64 a0_1, .slice A0_2 l0_2.length c0_2] 43 (0, 0)) (by (with_reducible repeat (first | refine blk_drewN ?_ _ | refine blk_drew ?_ | refine blk_alloc ?_ _)); exact BK207.out) hb)
                                                    have n4_ := Aside0.mk (below_step (by repeat (first | (with_reducible first | exact HB.out | apply below_alloc | apply pw_below_drewN | apply below_drew1 | refine below_set ?_ GE207.out) | exact HB.out)) hb)
                                                    clear HO217
                                                    clear HO226
                                                    clear BK207
                                                    clear HB
                                                    have HO217 := n0_
                                                    have HO226 := n1_
                                                    have HO221 := n2_
                                                    have BK207 := n3_
                                                    have HB := n4_
                                                    clear n0_ n1_ n2_ n3_ n4_
                                                    clear hb ho55
                                                    refine hK.out _ _ ⟨(blk_cell BK207.out 0).trans rfl, (blk_cell BK207.out 1).trans rfl, (blk_cell BK207.out 2).trans rfl⟩ (fun hHeld => ?_)
                                                    clear hK K
                                                    refine norm_ (a' := ?_) ?_ ?_
                                                    rotate_left
                                                    · show Act.put _ (some 48) _ = _
                                                      simp only [Act.put, List.setIfInBounds_toArray, List.set_cons_zero, List.set_cons_succ, i64_w, i32_w]
                                                      rfl
                                                    exact norm_ (by first | (simp only [putAll, Act.put, List.setIfInBounds_toArray, List.set_cons_zero, List.set_cons_succ]; done) | (simp only [putAll, Act.put, List.setIfInBounds_toArray, List.set_cons_zero, List.set_cons_succ]; rfl)) (hJ2_4 (v220, v225) _ ⟨hHeld, (by (with_reducible repeat (first | apply Kd.R_alloc | apply Kd.R_drewN | apply Kd.R_drew)); exact Kd.R_mono HO217.out (fun _ hk => hk.2)), (by (with_reducible repeat (first | apply Kd.R_alloc | apply Kd.R_drewN | apply Kd.R_drew)); exact Kd.R_mono HO221.out (fun _ hk => hk.2)), (by (with_reducible repeat (first | apply Kd.V_alloc | apply Kd.V_drewN | apply Kd.V_drew)); exact Kd.V_mono HO226.out (fun _ hk => ⟨hk.1.1, ⟨hk.2, hk.1.2⟩⟩)), (by (with_reducible repeat (first | refine blk_drewN ?_ _ | refine blk_drew ?_ | refine blk_alloc ?_ _)); exact BK207.out), (by repeat (first | (with_reducible first | exact HB.out | apply below_alloc | apply pw_below_drewN | apply below_drew1 | refine below_set ?_ GE207.out) | exact HB.out))⟩)
                                                  · skip
                                                    obtain ⟨Ao54, co54, eo54⟩ := Kd.V_slice HO226.out
                                                    (first | subst eo54 | (injection eo54 with f1_ f2_ f3_; have f4_ := f1_.symm; have f5_ := f3_.symm; clear f1_ f2_ f3_; subst f4_; subst f5_))
                                                    refine goes_ Try.func37 (by kernel_rfl) rfl #[.agg #[.int .i64 t222, .int .i64 t223, .slice Ao54 t224.length co54], .int .i64 a2] (by rfl) rfl rfl (by (try simp only [List.map_toArray, List.map_cons, List.map_nil]); first | done | rfl | (simp only [List.length_drop, List.length_take]; rfl)) ?_
                                                    with_reducible refine (credenzaref17_Row.calls t222 t223 (fun k_ => (some k_ ≠ (v216 : Value).ownBlock ∧ k_ ≠ gb207)) _ _ t224 a2 t227 _ ?side1 A37.out).mono ?_
                                                    (case side1 => exact HO226.out)
                                                    rintro e w55 ⟨v228, rfl, ho0, hb⟩
                                                    refine ⟨_, rfl, ?_⟩
                                                    have n0_ := Aside0.mk (Kd.R_below (by (with_reducible repeat (first | apply Kd.R_alloc | apply Kd.R_drewN | apply Kd.R_drew)); exact HO217.out) hb)
                                                    have n1_ := Aside0.mk (Kd.V_below (by (with_reducible repeat (first | apply Kd.V_alloc | apply Kd.V_drewN | apply Kd.V_drew)); exact HO226.out) hb)
                                                    have n2_ := Aside0.mk (Kd.V_lower (Kd.V_mono (ok' := fun k_ => some k_ ≠ (v216 : Value).ownBlock ∧ k_ ≠ gb207) ho0 (fun k_ hk_ => ⟨Or.elim hk_ (fun hs_ => hs_.1) (fun hn_ => (Kd.fresh' (Kd.R_lt (by (with_reducible repeat (first | apply Kd.R_alloc | apply Kd.R_drewN | apply Kd.R_drew)); exact HO217.out)) k_ hn_)), Or.elim hk_ (fun hs_ => hs_.2) (fun hn_ => (Kd.freshB (g := gb207) (o := .cells #[.int .i64 a0_0, .int .i64 a0_1, .slice A0_2 l0_2.length c0_2] 43 (0, 0)) (by (with_reducible repeat (first | refine blk_drewN ?_ _ | refine blk_drew ?_ | refine blk_alloc ?_ _)); exact BK207.out) k_ hn_))⟩)) (below_size (by repeat (first | (with_reducible first | exact HB.out | apply below_alloc | apply pw_below_drewN | apply below_drew1 | refine below_set ?_ GE207.out) | exact HB.out))))
                                                    have n3_ := Aside0.mk (blk_below (g := gb207) (o := .cells #[.int .i64 a0_0, .int .i64 a0_1, .slice A0_2 l0_2.length c0_2] 43 (0, 0)) (by (with_reducible repeat (first | refine blk_drewN ?_ _ | refine blk_drew ?_ | refine blk_alloc ?_ _)); exact BK207.out) hb)
                                                    have n4_ := Aside0.mk (below_step (by repeat (first | (with_reducible first | exact HB.out | apply below_alloc | apply pw_below_drewN | apply below_drew1 | refine below_set ?_ GE207.out) | exact HB.out)) hb)
                                                    clear HO217
                                                    clear HO226
                                                    clear BK207
                                                    clear HB
                                                    have HO217 := n0_
                                                    have HO226 := n1_
                                                    have HO229 := n2_
                                                    have BK207 := n3_
                                                    have HB := n4_
                                                    clear n0_ n1_ n2_ n3_ n4_
                                                    (try clear hb)
                                                    (try clear hb2)
                                                    (try clear hk)
                                                    (try clear hi)
                                                    (try clear ho0)
                                                    refine hK.out _ _ ⟨(blk_cell BK207.out 0).trans rfl, (blk_cell BK207.out 1).trans rfl, (blk_cell BK207.out 2).trans rfl⟩ (fun hHeld => ?_)
                                                    clear hK K
                                                    refine norm_ (a' := ?_) ?_ ?_
                                                    rotate_left
                                                    · show Act.put _ (some 52) _ = _
                                                      simp only [Act.put, List.setIfInBounds_toArray, List.set_cons_zero, List.set_cons_succ, i64_w, i32_w]
                                                      rfl
                                                    exact norm_ (by first | (simp only [putAll, Act.put, List.setIfInBounds_toArray, List.set_cons_zero, List.set_cons_succ]; done) | (simp only [putAll, Act.put, List.setIfInBounds_toArray, List.set_cons_zero, List.set_cons_succ]; rfl)) (hJ4_6 (.slice Ao54 t224.length co54, v228) _ ⟨hHeld, (by (with_reducible repeat (first | apply Kd.R_alloc | apply Kd.R_drewN | apply Kd.R_drew)); exact HO217.out), (by (with_reducible repeat (first | apply Kd.V_alloc | apply Kd.V_drewN | apply Kd.V_drew)); exact HO226.out), (by (with_reducible repeat (first | apply Kd.V_alloc | apply Kd.V_drewN | apply Kd.V_drew)); exact HO229.out), (by (with_reducible repeat (first | refine blk_drewN ?_ _ | refine blk_drew ?_ | refine blk_alloc ?_ _)); exact BK207.out), (by repeat (first | (with_reducible first | exact HB.out | apply below_alloc | apply pw_below_drewN | apply below_drew1 | refine below_set ?_ GE207.out) | exact HB.out))⟩)
                                                  · skip
                                                    refine box_step ?hg (N := 9) ?hd (cs := #[.int .i64 0, .int .i64 0, .slice none 0 0]) (t := 43) ?hr ?_; (case hd => rfl); (case hg => rfl); (case hr => first | (go_simp; done) | (go_simp; rfl))
                                                    intro gb233 hg w54 hbox hb
                                                    have n0_ := Aside0.mk (Kd.R_below (by (with_reducible repeat (first | apply Kd.R_alloc | apply Kd.R_drewN | apply Kd.R_drew)); exact HO217.out) hb)
                                                    have n1_ := Aside0.mk (Kd.V_below (Kd.V_elderB (by (with_reducible repeat (first | apply Kd.V_alloc | apply Kd.V_drewN | apply Kd.V_drew)); exact HO226.out) gb233 (Nat.le_of_eq hg.symm)) hb)
                                                    have n2_ := Aside0.mk (blk_below (g := gb207) (o := .cells #[.int .i64 a0_0, .int .i64 a0_1, .slice A0_2 l0_2.length c0_2] 43 (0, 0)) (by (with_reducible repeat (first | refine blk_drewN ?_ _ | refine blk_drew ?_ | refine blk_alloc ?_ _)); exact BK207.out) hb)
                                                    have n3_ := Aside0.mk (below_step (by repeat (first | (with_reducible first | exact HB.out | apply below_alloc | apply pw_below_drewN | apply below_drew1 | refine below_set ?_ GE207.out) | exact HB.out)) hb)
                                                    have n4_ := Aside0.mk (hbox)
                                                    have n5_ := Aside0.mk ((by rw [hg]; exact (below_size (by repeat (first | (with_reducible first | exact HB.out | apply below_alloc | apply pw_below_drewN | apply below_drew1 | refine below_set ?_ GE207.out) | exact HB.out))) : w.heap.size ≤ gb233))
                                                    have n6_ := Aside0.mk ((by rw [hg]; exact (below_size (by repeat (first | (with_reducible first | exact HB.out | apply below_alloc | apply pw_below_drewN | apply below_drew1 | refine below_set ?_ GE207.out) | exact HB.out))) : w.heap.size ≤ gb233))
                                                    have n7_ := Aside0.mk ((by rw [hg]; exact Nat.ne_of_lt (blk_lt (g := gb207) (o := .cells #[.int .i64 a0_0, .int .i64 a0_1, .slice A0_2 l0_2.length c0_2] 43 (0, 0)) (by (with_reducible repeat (first | refine blk_drewN ?_ _ | refine blk_drew ?_ | refine blk_alloc ?_ _)); exact BK207.out)) : gb207 ≠ gb233))
                                                    have n8_ := Aside0.mk ((by rw [hg]; exact Nat.ne_of_gt (blk_lt (g := gb207) (o := .cells #[.int .i64 a0_0, .int .i64 a0_1, .slice A0_2 l0_2.length c0_2] 43 (0, 0)) (by (with_reducible repeat (first | refine blk_drewN ?_ _ | refine blk_drew ?_ | refine blk_alloc ?_ _)); exact BK207.out)) : gb233 ≠ gb207))
                                                    clear HO217
                                                    clear HO226
                                                    clear BK207
                                                    clear HB
                                                    have HO217 := n0_
                                                    have HO226 := n1_
                                                    have BK207 := n2_
                                                    have HB := n3_
                                                    have BK233 := n4_
                                                    have GW233 := n5_
                                                    have GE233 := n6_
                                                    have NB207_233 := n7_
                                                    have NB233_207 := n8_
                                                    clear n0_ n1_ n2_ n3_ n4_ n5_ n6_ n7_ n8_
                                                    clear hb hbox hg
                                                    refine hK.out _ _ ⟨(blk_cell BK207.out 0).trans rfl, (blk_cell BK207.out 1).trans rfl, (blk_cell BK207.out 2).trans rfl⟩ (fun hHeld => ?_)
                                                    clear hK K
                                                    refine norm_ (a' := ?_) ?_ ?_
                                                    rotate_left
                                                    · show Act.put _ (some 9) _ = _
                                                      simp only [Act.put, List.setIfInBounds_toArray, List.set_cons_zero, List.set_cons_succ, i64_w, i32_w]
                                                      rfl
                                                    exact norm_ (by first | (simp only [putAll, Act.put, List.setIfInBounds_toArray, List.set_cons_zero, List.set_cons_succ]; done) | (simp only [putAll, Act.put, List.setIfInBounds_toArray, List.set_cons_zero, List.set_cons_succ]; rfl)) (hJ4_9 (v225, gb233) _ ⟨hHeld, (by (with_reducible repeat (first | apply Kd.R_alloc | apply Kd.R_drewN | apply Kd.R_drew)); exact HO217.out), (by (with_reducible repeat (first | apply Kd.V_alloc | apply Kd.V_drewN | apply Kd.V_drew)); exact Kd.V_mono HO226.out (fun _ hk => ⟨hk.1.1, ⟨hk.1.2, hk.2⟩⟩)), (by (with_reducible repeat (first | refine blk_drewN ?_ _ | refine blk_drew ?_ | refine blk_alloc ?_ _)); exact BK207.out), (by (with_reducible repeat (first | refine blk_drewN ?_ _ | refine blk_drew ?_ | refine blk_alloc ?_ _)); exact BK233.out), GW233.out, GE233.out, NB207_233.out, NB233_207.out, (by repeat (first | (with_reducible first | exact HB.out | apply below_alloc | apply pw_below_drewN | apply below_drew1 | refine below_set ?_ GE207.out | refine below_set ?_ GE233.out) | exact HB.out))⟩)
                                              · skip
                                                rintro v220 w54 ⟨hS_, h0_, h1_, h2_, h3_⟩
                                                have n0_ : Aside0 (Kd.R (Kd.int .i32) 21 w54 w.heap.size (fun k_ => some k_ ≠ (v220 : Value).ownBlock) v216 t215) := ⟨h0_⟩
                                                have n1_ : Aside0 (Kd.R (Kd.int .i32) 21 w54 w.heap.size (fun k_ => some k_ ≠ (v216 : Value).ownBlock) v220 y219) := ⟨h1_⟩
                                                have n2_ : Aside0 (w54.heap[gb207]? = some (.cells #[.int .i64 a0_0, .int .i64 a0_1, .slice A0_2 l0_2.length c0_2] 43 (0, 0))) := ⟨h2_⟩
                                                have n3_ : Aside0 (Below w.heap.size w w54) := ⟨h3_⟩
                                                clear HO217
                                                clear BK207
                                                clear HB
                                                clear h0_ h1_ h2_ h3_
                                                have HO217 := n0_
                                                have HO221 := n1_
                                                have BK207 := n2_
                                                have HB := n3_
                                                clear n0_ n1_ n2_ n3_
                                                have hHeld : w54.cell? ⟨gb207, 0, none⟩ = some (.int .i64 a0_0) ∧ w54.cell? ⟨gb207, 1, none⟩ = some (.int .i64 a0_1) ∧ w54.cell? ⟨gb207, 2, none⟩ = some (.slice A0_2 l0_2.length c0_2) := hS_
                                                refine norm_ (a' := ?_) ?_ ?_
                                                rotate_left
                                                · simp only [putAll, Act.put, List.setIfInBounds_toArray, List.set_cons_zero, List.set_cons_succ]
                                                  rfl
                                                refine two_ (i := 4) (j := 9) (Ni := some 50) (Nj := some 9) #[true, true, true, true, true, true, false, false, false, false, false] #[true, true, true, true, false, true, false, false, false, true, false] rfl rfl rfl rfl (two_of HT_.out (by kernel_rfl)) (by decide) (by decide) (fun K hK => ?_) (fun K hK => ?_)
                                                · skip
                                                  refine goes_ Try.func33 (by kernel_rfl) rfl #[.agg #[.int .i64 a0_0, .int .i64 a0_1, .slice A0_2 l0_2.length c0_2]] (by rfl) rfl rfl (by (try simp only [List.map_toArray, List.map_cons, List.map_nil]); first | done | rfl | (simp only [List.length_drop, List.length_take]; rfl)) ?_
                                                  with_reducible refine (credenzalaw17_ref.calls a0_0 a0_1 (fun k_ => k_ < w.heap.size) _ _ l0_2 t222 t223 t224 _ ?side1 A36.out).mono ?_
                                                  (case side1 => exact Kd.V_mk HC0_2.out (Kd.F_below (Kd.C_F (Kd.heap_int .i32) HR0_2.out) (by repeat (first | (with_reducible first | exact HB.out | apply below_alloc | apply pw_below_drewN | apply below_drew1 | refine below_set ?_ GE207.out) | exact HB.out))))
                                                  rintro e w55 ⟨v225, rfl, ho0, hb⟩
                                                  refine ⟨_, rfl, ?_⟩
                                                  have n0_ := Aside0.mk (Kd.R_below (by (with_reducible repeat (first | apply Kd.R_alloc | apply Kd.R_drewN | apply Kd.R_drew)); exact HO217.out) hb)
                                                  have n1_ := Aside0.mk (Kd.R_below (by (with_reducible repeat (first | apply Kd.R_alloc | apply Kd.R_drewN | apply Kd.R_drew)); exact HO221.out) hb)
                                                  have n2_ := Aside0.mk (Kd.V_lower (Kd.V_mono (ok' := fun k_ => some k_ ≠ (v216 : Value).ownBlock ∧ some k_ ≠ (v220 : Value).ownBlock ∧ k_ ≠ gb207) ho0 (fun k_ hk_ => ⟨Or.elim hk_ (fun hs_ => fun e_ => Nat.not_le.2 hs_ (Kd.R_base HO217.out k_ e_.symm)) (fun hn_ => (Kd.fresh' (Kd.R_lt (by (with_reducible repeat (first | apply Kd.R_alloc | apply Kd.R_drewN | apply Kd.R_drew)); exact HO217.out)) k_ hn_)), Or.elim hk_ (fun hs_ => fun e_ => Nat.not_le.2 hs_ (Kd.R_base HO221.out k_ e_.symm)) (fun hn_ => (Kd.fresh' (Kd.R_lt (by (with_reducible repeat (first | apply Kd.R_alloc | apply Kd.R_drewN | apply Kd.R_drew)); exact HO221.out)) k_ hn_)), Or.elim hk_ (fun hs_ => fun e_ => Nat.not_le.2 hs_ (by rw [e_]; exact GW207.out)) (fun hn_ => (Kd.freshB (g := gb207) (o := .cells #[.int .i64 a0_0, .int .i64 a0_1, .slice A0_2 l0_2.length c0_2] 43 (0, 0)) (by (with_reducible repeat (first | refine blk_drewN ?_ _ | refine blk_drew ?_ | refine blk_alloc ?_ _)); exact BK207.out) k_ hn_))⟩)) (below_size (by repeat (first | (with_reducible first | exact HB.out | apply below_alloc | apply pw_below_drewN | apply below_drew1 | refine below_set ?_ GE207.out) | exact HB.out))))
                                                  have n3_ := Aside0.mk (blk_below (g := gb207) (o := .cells #[.int .i64 a0_0, .int .i64 a0_1, .slice A0_2 l0_2.length c0_2] 43 (0, 0)) (by (with_reducible repeat (first | refine blk_drewN ?_ _ | refine blk_drew ?_ | refine blk_alloc ?_ _)); exact BK207.out) hb)
                                                  have n4_ := Aside0.mk (below_step (by repeat (first | (with_reducible first | exact HB.out | apply below_alloc | apply pw_below_drewN | apply below_drew1 | refine below_set ?_ GE207.out) | exact HB.out)) hb)
                                                  clear HO217
                                                  clear HO221
                                                  clear BK207
                                                  clear HB
                                                  have HO217 := n0_
                                                  have HO221 := n1_
                                                  have HO226 := n2_
                                                  have BK207 := n3_
                                                  have HB := n4_
                                                  clear n0_ n1_ n2_ n3_ n4_
                                                  (try clear hb)
                                                  (try clear hb2)
                                                  (try clear hk)
                                                  (try clear hi)
                                                  (try clear ho0)
                                                  refine hK.out _ _ ⟨(blk_cell BK207.out 0).trans rfl, (blk_cell BK207.out 1).trans rfl, (blk_cell BK207.out 2).trans rfl⟩ (fun hHeld => ?_)
                                                  clear hK K
                                                  refine norm_ (a' := ?_) ?_ ?_
                                                  rotate_left
                                                  · show Act.put _ (some 50) _ = _
                                                    simp only [Act.put, List.setIfInBounds_toArray, List.set_cons_zero, List.set_cons_succ, i64_w, i32_w]
                                                    rfl
                                                  exact norm_ (by first | (simp only [putAll, Act.put, List.setIfInBounds_toArray, List.set_cons_zero, List.set_cons_succ]; done) | (simp only [putAll, Act.put, List.setIfInBounds_toArray, List.set_cons_zero, List.set_cons_succ]; rfl)) (hJ2_4 (v220, v225) _ ⟨hHeld, (by (with_reducible repeat (first | apply Kd.R_alloc | apply Kd.R_drewN | apply Kd.R_drew)); exact HO217.out), (by (with_reducible repeat (first | apply Kd.R_alloc | apply Kd.R_drewN | apply Kd.R_drew)); exact HO221.out), (by (with_reducible repeat (first | apply Kd.V_alloc | apply Kd.V_drewN | apply Kd.V_drew)); exact HO226.out), (by (with_reducible repeat (first | refine blk_drewN ?_ _ | refine blk_drew ?_ | refine blk_alloc ?_ _)); exact BK207.out), (by repeat (first | (with_reducible first | exact HB.out | apply below_alloc | apply pw_below_drewN | apply below_drew1 | refine below_set ?_ GE207.out) | exact HB.out))⟩)
                                                · skip
                                                  refine box_step ?hg (N := 9) ?hd (cs := #[.int .i64 0, .int .i64 0, .slice none 0 0]) (t := 43) ?hr ?_; (case hd => rfl); (case hg => rfl); (case hr => first | (go_simp; done) | (go_simp; rfl))
                                                  intro gb233 hg w55 hbox hb
                                                  have n0_ := Aside0.mk (Kd.R_below (by (with_reducible repeat (first | apply Kd.R_alloc | apply Kd.R_drewN | apply Kd.R_drew)); exact HO217.out) hb)
                                                  have n1_ := Aside0.mk (Kd.R_below (by (with_reducible repeat (first | apply Kd.R_alloc | apply Kd.R_drewN | apply Kd.R_drew)); exact HO221.out) hb)
                                                  have n2_ := Aside0.mk (blk_below (g := gb207) (o := .cells #[.int .i64 a0_0, .int .i64 a0_1, .slice A0_2 l0_2.length c0_2] 43 (0, 0)) (by (with_reducible repeat (first | refine blk_drewN ?_ _ | refine blk_drew ?_ | refine blk_alloc ?_ _)); exact BK207.out) hb)
                                                  have n3_ := Aside0.mk (below_step (by repeat (first | (with_reducible first | exact HB.out | apply below_alloc | apply pw_below_drewN | apply below_drew1 | refine below_set ?_ GE207.out) | exact HB.out)) hb)
                                                  have n4_ := Aside0.mk (hbox)
                                                  have n5_ := Aside0.mk ((by rw [hg]; exact (below_size (by repeat (first | (with_reducible first | exact HB.out | apply below_alloc | apply pw_below_drewN | apply below_drew1 | refine below_set ?_ GE207.out) | exact HB.out))) : w.heap.size ≤ gb233))
                                                  have n6_ := Aside0.mk ((by rw [hg]; exact (below_size (by repeat (first | (with_reducible first | exact HB.out | apply below_alloc | apply pw_below_drewN | apply below_drew1 | refine below_set ?_ GE207.out) | exact HB.out))) : w.heap.size ≤ gb233))
                                                  have n7_ := Aside0.mk ((by rw [hg]; exact Nat.ne_of_lt (blk_lt (g := gb207) (o := .cells #[.int .i64 a0_0, .int .i64 a0_1, .slice A0_2 l0_2.length c0_2] 43 (0, 0)) (by (with_reducible repeat (first | refine blk_drewN ?_ _ | refine blk_drew ?_ | refine blk_alloc ?_ _)); exact BK207.out)) : gb207 ≠ gb233))
                                                  have n8_ := Aside0.mk ((by rw [hg]; exact Nat.ne_of_gt (blk_lt (g := gb207) (o := .cells #[.int .i64 a0_0, .int .i64 a0_1, .slice A0_2 l0_2.length c0_2] 43 (0, 0)) (by (with_reducible repeat (first | refine blk_drewN ?_ _ | refine blk_drew ?_ | refine blk_alloc ?_ _)); exact BK207.out)) : gb233 ≠ gb207))
                                                  clear HO217
                                                  clear HO221
                                                  clear BK207
                                                  clear HB
                                                  have HO217 := n0_
                                                  have HO221 := n1_
                                                  have BK207 := n2_
                                                  have HB := n3_
                                                  have BK233 := n4_
                                                  have GW233 := n5_
                                                  have GE233 := n6_
                                                  have NB207_233 := n7_
                                                  have NB233_207 := n8_
                                                  clear n0_ n1_ n2_ n3_ n4_ n5_ n6_ n7_ n8_
                                                  clear hb hbox hg
                                                  refine hK.out _ _ ⟨(blk_cell BK207.out 0).trans rfl, (blk_cell BK207.out 1).trans rfl, (blk_cell BK207.out 2).trans rfl⟩ (fun hHeld => ?_)
                                                  clear hK K
                                                  refine norm_ (a' := ?_) ?_ ?_
                                                  rotate_left
                                                  · show Act.put _ (some 9) _ = _
                                                    simp only [Act.put, List.setIfInBounds_toArray, List.set_cons_zero, List.set_cons_succ, i64_w, i32_w]
                                                    rfl
                                                  exact norm_ (by first | (simp only [putAll, Act.put, List.setIfInBounds_toArray, List.set_cons_zero, List.set_cons_succ]; done) | (simp only [putAll, Act.put, List.setIfInBounds_toArray, List.set_cons_zero, List.set_cons_succ]; rfl)) (hJ2_9 (v220, gb233) _ ⟨hHeld, (by (with_reducible repeat (first | apply Kd.R_alloc | apply Kd.R_drewN | apply Kd.R_drew)); exact HO217.out), (by (with_reducible repeat (first | apply Kd.R_alloc | apply Kd.R_drewN | apply Kd.R_drew)); exact HO221.out), (by (with_reducible repeat (first | refine blk_drewN ?_ _ | refine blk_drew ?_ | refine blk_alloc ?_ _)); exact BK207.out), (by (with_reducible repeat (first | refine blk_drewN ?_ _ | refine blk_drew ?_ | refine blk_alloc ?_ _)); exact BK233.out), GW233.out, GE233.out, NB207_233.out, NB233_207.out, (by repeat (first | (with_reducible first | exact HB.out | apply below_alloc | apply pw_below_drewN | apply below_drew1 | refine below_set ?_ GE207.out | refine below_set ?_ GE233.out) | exact HB.out))⟩)
                                            · skip
                                              rintro ⟨v225, gb233⟩ w54 ⟨hS_, h0_, h1_, h2_, h3_, h4_, h5_, h6_, h7_, h8_⟩
                                              have n0_ : Aside0 (Kd.R (Kd.int .i32) 21 w54 w.heap.size (fun _ => True) v216 t215) := ⟨h0_⟩
                                              have n1_ : Aside0 (Kd.V (Kd.int .i32) 21 w54 w.heap.size (fun k_ => some k_ ≠ (v216 : Value).ownBlock ∧ k_ ≠ gb207 ∧ k_ ≠ gb233) v225 t224) := ⟨h1_⟩
                                              have n2_ : Aside0 (w54.heap[gb207]? = some (.cells #[.int .i64 a0_0, .int .i64 a0_1, .slice A0_2 l0_2.length c0_2] 43 (0, 0))) := ⟨h2_⟩
                                              have n3_ : Aside0 (w54.heap[gb233]? = some (.cells #[.int .i64 0, .int .i64 0, .slice none 0 0] 43 (0, 0))) := ⟨h3_⟩
                                              have n4_ : Aside0 (w.heap.size ≤ gb233) := ⟨h4_⟩
                                              have n5_ : Aside0 (w.heap.size ≤ gb233) := ⟨h5_⟩
                                              have n6_ : Aside0 (gb207 ≠ gb233) := ⟨h6_⟩
                                              have n7_ : Aside0 (gb233 ≠ gb207) := ⟨h7_⟩
                                              have n8_ : Aside0 (Below w.heap.size w w54) := ⟨h8_⟩
                                              clear HO217
                                              clear BK207
                                              clear HB
                                              clear h0_ h1_ h2_ h3_ h4_ h5_ h6_ h7_ h8_
                                              have HO217 := n0_
                                              have HO226 := n1_
                                              have BK207 := n2_
                                              have BK233 := n3_
                                              have GW233 := n4_
                                              have GE233 := n5_
                                              have NB207_233 := n6_
                                              have NB233_207 := n7_
                                              have HB := n8_
                                              clear n0_ n1_ n2_ n3_ n4_ n5_ n6_ n7_ n8_
                                              have hHeld : w54.cell? ⟨gb207, 0, none⟩ = some (.int .i64 a0_0) ∧ w54.cell? ⟨gb207, 1, none⟩ = some (.int .i64 a0_1) ∧ w54.cell? ⟨gb207, 2, none⟩ = some (.slice A0_2 l0_2.length c0_2) := hS_
                                              refine norm_ (a' := ?_) ?_ ?_
                                              rotate_left
                                              · simp only [putAll, Act.put, List.setIfInBounds_toArray, List.set_cons_zero, List.set_cons_succ]
                                                rfl
                                              refine two_ (i := 2) (j := 6) (Ni := some 48) (Nj := some 52) #[true, true, true, true, true, true, false, false, false, true, false] #[true, true, false, true, true, true, true, false, false, true, false] rfl rfl rfl rfl (two_of HT_.out (by kernel_rfl)) (by decide) (by decide) (fun K hK => ?_) (fun K hK => ?_)
                                              · skip
                                                refine Kd.R_lit_step (Kd.int .i32) _ 21 ?hg (N := 48) ?hd (xs := ([] : List Int)) (inner := []) (ok := fun _ => True) (okp := fun _ => True) ?hr ?hp (fun _ hk => hk) trivial (Below.refl _ _) (Nat.le_refl _) (by simp) ?_; (case hd => rfl); (case hg => rfl); (case hr => first | (go_simp; done) | (go_simp; rfl)); (case hp => exact (Reps.none _ _))
                                                intro v220 w55 ho56 hb hg_ hnew_
                                                clear hg_ hnew_
                                                (first | rw [← Ny219.out] at ho56 | (simp only [Int.reduceToNat] at ho56; rw [← Ny219.out] at ho56))
                                                have n0_ := Aside0.mk (Kd.R_elder' (by (with_reducible repeat (first | apply Kd.R_alloc | apply Kd.R_drewN | apply Kd.R_drew)); exact HO217.out) (Kd.R_base ho56) hb)
                                                have n1_ := Aside0.mk (Kd.V_elder' (by (with_reducible repeat (first | apply Kd.V_alloc | apply Kd.V_drewN | apply Kd.V_drew)); exact HO226.out) (Kd.R_base ho56) hb)
                                                have n2_ := Aside0.mk (Kd.R_lower (Kd.R_new' ho56 (Kd.R_lt (by (with_reducible repeat (first | apply Kd.R_alloc | apply Kd.R_drewN | apply Kd.R_drew)); exact HO217.out))) (below_size (by repeat (first | (with_reducible first | exact HB.out | apply below_alloc | apply pw_below_drewN | apply below_drew1 | refine below_set ?_ GE207.out | refine below_set ?_ GE233.out) | exact HB.out))))
                                                have n3_ := Aside0.mk (blk_below (g := gb207) (o := .cells #[.int .i64 a0_0, .int .i64 a0_1, .slice A0_2 l0_2.length c0_2] 43 (0, 0)) (by (with_reducible repeat (first | refine blk_drewN ?_ _ | refine blk_drew ?_ | refine blk_alloc ?_ _)); exact BK207.out) hb)
                                                have n4_ := Aside0.mk (blk_below (g := gb233) (o := .cells #[.int .i64 0, .int .i64 0, .slice none 0 0] 43 (0, 0)) (by (with_reducible repeat (first | refine blk_drewN ?_ _ | refine blk_drew ?_ | refine blk_alloc ?_ _)); exact BK233.out) hb)
                                                have n5_ := Aside0.mk (below_step (by repeat (first | (with_reducible first | exact HB.out | apply below_alloc | apply pw_below_drewN | apply below_drew1 | refine below_set ?_ GE207.out | refine below_set ?_ GE233.out) | exact HB.out)) hb)
                                                clear HO217
                                                clear HO226
                                                clear BK207
                                                clear BK233
                                                clear HB
                                                have HO217 := n0_
                                                have HO226 := n1_
                                                have HO221 := n2_
                                                have BK207 := n3_
                                                have BK233 := n4_
                                                have HB := n5_
                                                clear n0_ n1_ n2_ n3_ n4_ n5_
                                                clear hb ho56
                                                refine hK.out _ _ ⟨(blk_cell BK207.out 0).trans rfl, (blk_cell BK207.out 1).trans rfl, (blk_cell BK207.out 2).trans rfl⟩ (fun hHeld => ?_)
                                                clear hK K
                                                refine norm_ (a' := ?_) ?_ ?_
                                                rotate_left
                                                · show Act.put _ (some 48) _ = _
                                                  simp only [Act.put, List.setIfInBounds_toArray, List.set_cons_zero, List.set_cons_succ, i64_w, i32_w]
                                                  rfl
                                                exact norm_ (by first | (simp only [putAll, Act.put, List.setIfInBounds_toArray, List.set_cons_zero, List.set_cons_succ]; done) | (simp only [putAll, Act.put, List.setIfInBounds_toArray, List.set_cons_zero, List.set_cons_succ]; rfl)) (hJ2_4_9 (v220, v225, gb233) _ ⟨hHeld, (by (with_reducible repeat (first | apply Kd.R_alloc | apply Kd.R_drewN | apply Kd.R_drew)); exact Kd.R_mono HO217.out (fun _ hk => hk.2)), (by (with_reducible repeat (first | apply Kd.R_alloc | apply Kd.R_drewN | apply Kd.R_drew)); exact Kd.R_mono HO221.out (fun _ hk => hk.2)), (by (with_reducible repeat (first | apply Kd.V_alloc | apply Kd.V_drewN | apply Kd.V_drew)); exact Kd.V_mono HO226.out (fun _ hk => ⟨hk.1.1, ⟨hk.2, ⟨hk.1.2.1, hk.1.2.2⟩⟩⟩)), (by (with_reducible repeat (first | refine blk_drewN ?_ _ | refine blk_drew ?_ | refine blk_alloc ?_ _)); exact BK207.out), (by (with_reducible repeat (first | refine blk_drewN ?_ _ | refine blk_drew ?_ | refine blk_alloc ?_ _)); exact BK233.out), GW233.out, GE233.out, NB207_233.out, NB233_207.out, (by repeat (first | (with_reducible first | exact HB.out | apply below_alloc | apply pw_below_drewN | apply below_drew1 | refine below_set ?_ GE207.out | refine below_set ?_ GE233.out) | exact HB.out))⟩)
                                              · skip
                                                obtain ⟨Ao55, co55, eo55⟩ := Kd.V_slice HO226.out
                                                (first | subst eo55 | (injection eo55 with f1_ f2_ f3_; have f4_ := f1_.symm; have f5_ := f3_.symm; clear f1_ f2_ f3_; subst f4_; subst f5_))
                                                refine goes_ Try.func37 (by kernel_rfl) rfl #[.agg #[.int .i64 t222, .int .i64 t223, .slice Ao55 t224.length co55], .int .i64 a2] (by rfl) rfl rfl (by (try simp only [List.map_toArray, List.map_cons, List.map_nil]); first | done | rfl | (simp only [List.length_drop, List.length_take]; rfl)) ?_
                                                with_reducible refine (credenzaref17_Row.calls t222 t223 (fun k_ => (some k_ ≠ (v216 : Value).ownBlock ∧ (k_ ≠ gb207 ∧ k_ ≠ gb233))) _ _ t224 a2 t227 _ ?side1 A37.out).mono ?_
                                                (case side1 => exact HO226.out)
                                                rintro e w56 ⟨v228, rfl, ho0, hb⟩
                                                refine ⟨_, rfl, ?_⟩
                                                have n0_ := Aside0.mk (Kd.R_below (by (with_reducible repeat (first | apply Kd.R_alloc | apply Kd.R_drewN | apply Kd.R_drew)); exact HO217.out) hb)
                                                have n1_ := Aside0.mk (Kd.V_below (by (with_reducible repeat (first | apply Kd.V_alloc | apply Kd.V_drewN | apply Kd.V_drew)); exact HO226.out) hb)
                                                have n2_ := Aside0.mk (Kd.V_lower (Kd.V_mono (ok' := fun k_ => some k_ ≠ (v216 : Value).ownBlock ∧ k_ ≠ gb207 ∧ k_ ≠ gb233) ho0 (fun k_ hk_ => ⟨Or.elim hk_ (fun hs_ => hs_.1) (fun hn_ => (Kd.fresh' (Kd.R_lt (by (with_reducible repeat (first | apply Kd.R_alloc | apply Kd.R_drewN | apply Kd.R_drew)); exact HO217.out)) k_ hn_)), Or.elim hk_ (fun hs_ => hs_.2.1) (fun hn_ => (Kd.freshB (g := gb207) (o := .cells #[.int .i64 a0_0, .int .i64 a0_1, .slice A0_2 l0_2.length c0_2] 43 (0, 0)) (by (with_reducible repeat (first | refine blk_drewN ?_ _ | refine blk_drew ?_ | refine blk_alloc ?_ _)); exact BK207.out) k_ hn_)), Or.elim hk_ (fun hs_ => hs_.2.2) (fun hn_ => (Kd.freshB (g := gb233) (o := .cells #[.int .i64 0, .int .i64 0, .slice none 0 0] 43 (0, 0)) (by (with_reducible repeat (first | refine blk_drewN ?_ _ | refine blk_drew ?_ | refine blk_alloc ?_ _)); exact BK233.out) k_ hn_))⟩)) (below_size (by repeat (first | (with_reducible first | exact HB.out | apply below_alloc | apply pw_below_drewN | apply below_drew1 | refine below_set ?_ GE207.out | refine below_set ?_ GE233.out) | exact HB.out))))
                                                have n3_ := Aside0.mk (blk_below (g := gb207) (o := .cells #[.int .i64 a0_0, .int .i64 a0_1, .slice A0_2 l0_2.length c0_2] 43 (0, 0)) (by (with_reducible repeat (first | refine blk_drewN ?_ _ | refine blk_drew ?_ | refine blk_alloc ?_ _)); exact BK207.out) hb)
                                                have n4_ := Aside0.mk (blk_below (g := gb233) (o := .cells #[.int .i64 0, .int .i64 0, .slice none 0 0] 43 (0, 0)) (by (with_reducible repeat (first | refine blk_drewN ?_ _ | refine blk_drew ?_ | refine blk_alloc ?_ _)); exact BK233.out) hb)
                                                have n5_ := Aside0.mk (below_step (by repeat (first | (with_reducible first | exact HB.out | apply below_alloc | apply pw_below_drewN | apply below_drew1 | refine below_set ?_ GE207.out | refine below_set ?_ GE233.out) | exact HB.out)) hb)
                                                clear HO217
                                                clear HO226
                                                clear BK207
                                                clear BK233
                                                clear HB
                                                have HO217 := n0_
                                                have HO226 := n1_
                                                have HO229 := n2_
                                                have BK207 := n3_
                                                have BK233 := n4_
                                                have HB := n5_
                                                clear n0_ n1_ n2_ n3_ n4_ n5_
                                                (try clear hb)
                                                (try clear hb2)
                                                (try clear hk)
                                                (try clear hi)
                                                (try clear ho0)
                                                refine hK.out _ _ ⟨(blk_cell BK207.out 0).trans rfl, (blk_cell BK207.out 1).trans rfl, (blk_cell BK207.out 2).trans rfl⟩ (fun hHeld => ?_)
                                                clear hK K
                                                refine norm_ (a' := ?_) ?_ ?_
                                                rotate_left
                                                · show Act.put _ (some 52) _ = _
                                                  simp only [Act.put, List.setIfInBounds_toArray, List.set_cons_zero, List.set_cons_succ, i64_w, i32_w]
                                                  rfl
                                                exact norm_ (by first | (simp only [putAll, Act.put, List.setIfInBounds_toArray, List.set_cons_zero, List.set_cons_succ]; done) | (simp only [putAll, Act.put, List.setIfInBounds_toArray, List.set_cons_zero, List.set_cons_succ]; rfl)) (hJ4_6_9 (.slice Ao55 t224.length co55, v228, gb233) _ ⟨hHeld, (by (with_reducible repeat (first | apply Kd.R_alloc | apply Kd.R_drewN | apply Kd.R_drew)); exact HO217.out), (by (with_reducible repeat (first | apply Kd.V_alloc | apply Kd.V_drewN | apply Kd.V_drew)); exact HO226.out), (by (with_reducible repeat (first | apply Kd.V_alloc | apply Kd.V_drewN | apply Kd.V_drew)); exact HO229.out), (by (with_reducible repeat (first | refine blk_drewN ?_ _ | refine blk_drew ?_ | refine blk_alloc ?_ _)); exact BK207.out), (by (with_reducible repeat (first | refine blk_drewN ?_ _ | refine blk_drew ?_ | refine blk_alloc ?_ _)); exact BK233.out), GW233.out, GE233.out, NB207_233.out, NB233_207.out, (by repeat (first | (with_reducible first | exact HB.out | apply below_alloc | apply pw_below_drewN | apply below_drew1 | refine below_set ?_ GE207.out | refine below_set ?_ GE233.out) | exact HB.out))⟩)
                                          · skip
                                            rintro ⟨v225, v228⟩ w55 ⟨hS_, h0_, h1_, h2_, h3_, h4_⟩
                                            have n0_ : Aside0 (Kd.R (Kd.int .i32) 21 w55 w.heap.size (fun _ => True) v216 t215) := ⟨h0_⟩
                                            have n1_ : Aside0 (Kd.V (Kd.int .i32) 21 w55 w.heap.size (fun k_ => some k_ ≠ (v216 : Value).ownBlock ∧ k_ ≠ gb207) v225 t224) := ⟨h1_⟩
                                            have n2_ : Aside0 (Kd.V (Kd.int .i32) 21 w55 w.heap.size (fun k_ => some k_ ≠ (v216 : Value).ownBlock ∧ k_ ≠ gb207) v228 t227) := ⟨h2_⟩
                                            have n3_ : Aside0 (w55.heap[gb207]? = some (.cells #[.int .i64 a0_0, .int .i64 a0_1, .slice A0_2 l0_2.length c0_2] 43 (0, 0))) := ⟨h3_⟩
                                            have n4_ : Aside0 (Below w.heap.size w w55) := ⟨h4_⟩
                                            clear HO217
                                            clear BK207
                                            clear HB
                                            clear h0_ h1_ h2_ h3_ h4_
                                            have HO217 := n0_
                                            have HO226 := n1_
                                            have HO229 := n2_
                                            have BK207 := n3_
                                            have HB := n4_
                                            clear n0_ n1_ n2_ n3_ n4_
                                            have hHeld : w55.cell? ⟨gb207, 0, none⟩ = some (.int .i64 a0_0) ∧ w55.cell? ⟨gb207, 1, none⟩ = some (.int .i64 a0_1) ∧ w55.cell? ⟨gb207, 2, none⟩ = some (.slice A0_2 l0_2.length c0_2) := hS_
                                            refine norm_ (a' := ?_) ?_ ?_
                                            rotate_left
                                            · simp only [putAll, Act.put, List.setIfInBounds_toArray, List.set_cons_zero, List.set_cons_succ]
                                              rfl
                                            refine two_ (i := 2) (j := 9) (Ni := some 48) (Nj := some 9) #[true, true, true, true, true, true, true, false, false, false, false] #[true, true, false, true, true, true, true, false, false, true, false] rfl rfl rfl rfl (two_of HT_.out (by kernel_rfl)) (by decide) (by decide) (fun K hK => ?_) (fun K hK => ?_)
                                            · skip
                                              refine Kd.R_lit_step (Kd.int .i32) _ 21 ?hg (N := 48) ?hd (xs := ([] : List Int)) (inner := []) (ok := fun _ => True) (okp := fun _ => True) ?hr ?hp (fun _ hk => hk) trivial (Below.refl _ _) (Nat.le_refl _) (by simp) ?_; (case hd => rfl); (case hg => rfl); (case hr => first | (go_simp; done) | (go_simp; rfl)); (case hp => exact (Reps.none _ _))
                                              intro v220 w56 ho57 hb hg_ hnew_
                                              clear hg_ hnew_
                                              (first | rw [← Ny219.out] at ho57 | (simp only [Int.reduceToNat] at ho57; rw [← Ny219.out] at ho57))
                                              have n0_ := Aside0.mk (Kd.R_elder' (by (with_reducible repeat (first | apply Kd.R_alloc | apply Kd.R_drewN | apply Kd.R_drew)); exact HO217.out) (Kd.R_base ho57) hb)
                                              have n1_ := Aside0.mk (Kd.V_elder' (by (with_reducible repeat (first | apply Kd.V_alloc | apply Kd.V_drewN | apply Kd.V_drew)); exact HO226.out) (Kd.R_base ho57) hb)
                                              have n2_ := Aside0.mk (Kd.V_elder' (by (with_reducible repeat (first | apply Kd.V_alloc | apply Kd.V_drewN | apply Kd.V_drew)); exact HO229.out) (Kd.R_base ho57) hb)
                                              have n3_ := Aside0.mk (Kd.R_lower (Kd.R_new' ho57 (Kd.R_lt (by (with_reducible repeat (first | apply Kd.R_alloc | apply Kd.R_drewN | apply Kd.R_drew)); exact HO217.out))) (below_size (by repeat (first | (with_reducible first | exact HB.out | apply below_alloc | apply pw_below_drewN | apply below_drew1 | refine below_set ?_ GE207.out) | exact HB.out))))
                                              have n4_ := Aside0.mk (blk_below (g := gb207) (o := .cells #[.int .i64 a0_0, .int .i64 a0_1, .slice A0_2 l0_2.length c0_2] 43 (0, 0)) (by (with_reducible repeat (first | refine blk_drewN ?_ _ | refine blk_drew ?_ | refine blk_alloc ?_ _)); exact BK207.out) hb)
                                              have n5_ := Aside0.mk (below_step (by repeat (first | (with_reducible first | exact HB.out | apply below_alloc | apply pw_below_drewN | apply below_drew1 | refine below_set ?_ GE207.out) | exact HB.out)) hb)
                                              clear HO217
                                              clear HO226
                                              clear HO229
                                              clear BK207
                                              clear HB
                                              have HO217 := n0_
                                              have HO226 := n1_
                                              have HO229 := n2_
                                              have HO221 := n3_
                                              have BK207 := n4_
                                              have HB := n5_
                                              clear n0_ n1_ n2_ n3_ n4_ n5_
                                              clear hb ho57
                                              refine hK.out _ _ ⟨(blk_cell BK207.out 0).trans rfl, (blk_cell BK207.out 1).trans rfl, (blk_cell BK207.out 2).trans rfl⟩ (fun hHeld => ?_)
                                              clear hK K
                                              refine norm_ (a' := ?_) ?_ ?_
                                              rotate_left
                                              · show Act.put _ (some 48) _ = _
                                                simp only [Act.put, List.setIfInBounds_toArray, List.set_cons_zero, List.set_cons_succ, i64_w, i32_w]
                                                rfl
                                              exact norm_ (by first | (simp only [putAll, Act.put, List.setIfInBounds_toArray, List.set_cons_zero, List.set_cons_succ]; done) | (simp only [putAll, Act.put, List.setIfInBounds_toArray, List.set_cons_zero, List.set_cons_succ]; rfl)) (hJ2_4_6 (v220, v225, v228) _ ⟨hHeld, (by (with_reducible repeat (first | apply Kd.R_alloc | apply Kd.R_drewN | apply Kd.R_drew)); exact Kd.R_mono HO217.out (fun _ hk => hk.2)), (by (with_reducible repeat (first | apply Kd.R_alloc | apply Kd.R_drewN | apply Kd.R_drew)); exact Kd.R_mono HO221.out (fun _ hk => hk.2)), (by (with_reducible repeat (first | apply Kd.V_alloc | apply Kd.V_drewN | apply Kd.V_drew)); exact Kd.V_mono HO226.out (fun _ hk => ⟨hk.1.1, ⟨hk.2, hk.1.2⟩⟩)), (by (with_reducible repeat (first | apply Kd.V_alloc | apply Kd.V_drewN | apply Kd.V_drew)); exact Kd.V_mono HO229.out (fun _ hk => ⟨hk.1.1, ⟨hk.2, hk.1.2⟩⟩)), (by (with_reducible repeat (first | refine blk_drewN ?_ _ | refine blk_drew ?_ | refine blk_alloc ?_ _)); exact BK207.out), (by repeat (first | (with_reducible first | exact HB.out | apply below_alloc | apply pw_below_drewN | apply below_drew1 | refine below_set ?_ GE207.out) | exact HB.out))⟩)
                                            · skip
                                              refine box_step ?hg (N := 9) ?hd (cs := #[.int .i64 0, .int .i64 0, .slice none 0 0]) (t := 43) ?hr ?_; (case hd => rfl); (case hg => rfl); (case hr => first | (go_simp; done) | (go_simp; rfl))
                                              intro gb233 hg w56 hbox hb
                                              have n0_ := Aside0.mk (Kd.R_below (by (with_reducible repeat (first | apply Kd.R_alloc | apply Kd.R_drewN | apply Kd.R_drew)); exact HO217.out) hb)
                                              have n1_ := Aside0.mk (Kd.V_below (Kd.V_elderB (by (with_reducible repeat (first | apply Kd.V_alloc | apply Kd.V_drewN | apply Kd.V_drew)); exact HO226.out) gb233 (Nat.le_of_eq hg.symm)) hb)
                                              have n2_ := Aside0.mk (Kd.V_below (Kd.V_elderB (by (with_reducible repeat (first | apply Kd.V_alloc | apply Kd.V_drewN | apply Kd.V_drew)); exact HO229.out) gb233 (Nat.le_of_eq hg.symm)) hb)
                                              have n3_ := Aside0.mk (blk_below (g := gb207) (o := .cells #[.int .i64 a0_0, .int .i64 a0_1, .slice A0_2 l0_2.length c0_2] 43 (0, 0)) (by (with_reducible repeat (first | refine blk_drewN ?_ _ | refine blk_drew ?_ | refine blk_alloc ?_ _)); exact BK207.out) hb)
                                              have n4_ := Aside0.mk (below_step (by repeat (first | (with_reducible first | exact HB.out | apply below_alloc | apply pw_below_drewN | apply below_drew1 | refine below_set ?_ GE207.out) | exact HB.out)) hb)
                                              have n5_ := Aside0.mk (hbox)
                                              have n6_ := Aside0.mk ((by rw [hg]; exact (below_size (by repeat (first | (with_reducible first | exact HB.out | apply below_alloc | apply pw_below_drewN | apply below_drew1 | refine below_set ?_ GE207.out) | exact HB.out))) : w.heap.size ≤ gb233))
                                              have n7_ := Aside0.mk ((by rw [hg]; exact (below_size (by repeat (first | (with_reducible first | exact HB.out | apply below_alloc | apply pw_below_drewN | apply below_drew1 | refine below_set ?_ GE207.out) | exact HB.out))) : w.heap.size ≤ gb233))
                                              have n8_ := Aside0.mk ((by rw [hg]; exact Nat.ne_of_lt (blk_lt (g := gb207) (o := .cells #[.int .i64 a0_0, .int .i64 a0_1, .slice A0_2 l0_2.length c0_2] 43 (0, 0)) (by (with_reducible repeat (first | refine blk_drewN ?_ _ | refine blk_drew ?_ | refine blk_alloc ?_ _)); exact BK207.out)) : gb207 ≠ gb233))
                                              have n9_ := Aside0.mk ((by rw [hg]; exact Nat.ne_of_gt (blk_lt (g := gb207) (o := .cells #[.int .i64 a0_0, .int .i64 a0_1, .slice A0_2 l0_2.length c0_2] 43 (0, 0)) (by (with_reducible repeat (first | refine blk_drewN ?_ _ | refine blk_drew ?_ | refine blk_alloc ?_ _)); exact BK207.out)) : gb233 ≠ gb207))
                                              clear HO217
                                              clear HO226
                                              clear HO229
                                              clear BK207
                                              clear HB
                                              have HO217 := n0_
                                              have HO226 := n1_
                                              have HO229 := n2_
                                              have BK207 := n3_
                                              have HB := n4_
                                              have BK233 := n5_
                                              have GW233 := n6_
                                              have GE233 := n7_
                                              have NB207_233 := n8_
                                              have NB233_207 := n9_
                                              clear n0_ n1_ n2_ n3_ n4_ n5_ n6_ n7_ n8_ n9_
                                              clear hb hbox hg
                                              refine hK.out _ _ ⟨(blk_cell BK207.out 0).trans rfl, (blk_cell BK207.out 1).trans rfl, (blk_cell BK207.out 2).trans rfl⟩ (fun hHeld => ?_)
                                              clear hK K
                                              refine norm_ (a' := ?_) ?_ ?_
                                              rotate_left
                                              · show Act.put _ (some 9) _ = _
                                                simp only [Act.put, List.setIfInBounds_toArray, List.set_cons_zero, List.set_cons_succ, i64_w, i32_w]
                                                rfl
                                              exact norm_ (by first | (simp only [putAll, Act.put, List.setIfInBounds_toArray, List.set_cons_zero, List.set_cons_succ]; done) | (simp only [putAll, Act.put, List.setIfInBounds_toArray, List.set_cons_zero, List.set_cons_succ]; rfl)) (hJ4_6_9 (v225, v228, gb233) _ ⟨hHeld, (by (with_reducible repeat (first | apply Kd.R_alloc | apply Kd.R_drewN | apply Kd.R_drew)); exact HO217.out), (by (with_reducible repeat (first | apply Kd.V_alloc | apply Kd.V_drewN | apply Kd.V_drew)); exact Kd.V_mono HO226.out (fun _ hk => ⟨hk.1.1, ⟨hk.1.2, hk.2⟩⟩)), (by (with_reducible repeat (first | apply Kd.V_alloc | apply Kd.V_drewN | apply Kd.V_drew)); exact Kd.V_mono HO229.out (fun _ hk => ⟨hk.1.1, ⟨hk.1.2, hk.2⟩⟩)), (by (with_reducible repeat (first | refine blk_drewN ?_ _ | refine blk_drew ?_ | refine blk_alloc ?_ _)); exact BK207.out), (by (with_reducible repeat (first | refine blk_drewN ?_ _ | refine blk_drew ?_ | refine blk_alloc ?_ _)); exact BK233.out), GW233.out, GE233.out, NB207_233.out, NB233_207.out, (by repeat (first | (with_reducible first | exact HB.out | apply below_alloc | apply pw_below_drewN | apply below_drew1 | refine below_set ?_ GE207.out | refine below_set ?_ GE233.out) | exact HB.out))⟩)
                                        · skip
                                          rintro ⟨v220, gb233⟩ w55 ⟨hS_, h0_, h1_, h2_, h3_, h4_, h5_, h6_, h7_, h8_⟩
                                          have n0_ : Aside0 (Kd.R (Kd.int .i32) 21 w55 w.heap.size (fun k_ => some k_ ≠ (v220 : Value).ownBlock) v216 t215) := ⟨h0_⟩
                                          have n1_ : Aside0 (Kd.R (Kd.int .i32) 21 w55 w.heap.size (fun k_ => some k_ ≠ (v216 : Value).ownBlock) v220 y219) := ⟨h1_⟩
                                          have n2_ : Aside0 (w55.heap[gb207]? = some (.cells #[.int .i64 a0_0, .int .i64 a0_1, .slice A0_2 l0_2.length c0_2] 43 (0, 0))) := ⟨h2_⟩
                                          have n3_ : Aside0 (w55.heap[gb233]? = some (.cells #[.int .i64 0, .int .i64 0, .slice none 0 0] 43 (0, 0))) := ⟨h3_⟩
                                          have n4_ : Aside0 (w.heap.size ≤ gb233) := ⟨h4_⟩
                                          have n5_ : Aside0 (w.heap.size ≤ gb233) := ⟨h5_⟩
                                          have n6_ : Aside0 (gb207 ≠ gb233) := ⟨h6_⟩
                                          have n7_ : Aside0 (gb233 ≠ gb207) := ⟨h7_⟩
                                          have n8_ : Aside0 (Below w.heap.size w w55) := ⟨h8_⟩
                                          clear HO217
                                          clear BK207
                                          clear HB
                                          clear h0_ h1_ h2_ h3_ h4_ h5_ h6_ h7_ h8_
                                          have HO217 := n0_
                                          have HO221 := n1_
                                          have BK207 := n2_
                                          have BK233 := n3_
                                          have GW233 := n4_
                                          have GE233 := n5_
                                          have NB207_233 := n6_
                                          have NB233_207 := n7_
                                          have HB := n8_
                                          clear n0_ n1_ n2_ n3_ n4_ n5_ n6_ n7_ n8_
                                          have hHeld : w55.cell? ⟨gb207, 0, none⟩ = some (.int .i64 a0_0) ∧ w55.cell? ⟨gb207, 1, none⟩ = some (.int .i64 a0_1) ∧ w55.cell? ⟨gb207, 2, none⟩ = some (.slice A0_2 l0_2.length c0_2) := hS_
                                          refine norm_ (a' := ?_) ?_ ?_
                                          rotate_left
                                          · simp only [putAll, Act.put, List.setIfInBounds_toArray, List.set_cons_zero, List.set_cons_succ]
                                            rfl
                                          refine one_ (i := 4) (N := some 50) #[true, true, true, true, true, true, false, false, false, true, false] rfl rfl (one_of HT_.out (by kernel_rfl)) (by decide) (fun K hK => ?_)
                                          refine goes_ Try.func33 (by kernel_rfl) rfl #[.agg #[.int .i64 a0_0, .int .i64 a0_1, .slice A0_2 l0_2.length c0_2]] (by rfl) rfl rfl (by (try simp only [List.map_toArray, List.map_cons, List.map_nil]); first | done | rfl | (simp only [List.length_drop, List.length_take]; rfl)) ?_
                                          with_reducible refine (credenzalaw17_ref.calls a0_0 a0_1 (fun k_ => k_ < w.heap.size) _ _ l0_2 t222 t223 t224 _ ?side1 A36.out).mono ?_
                                          (case side1 => exact Kd.V_mk HC0_2.out (Kd.F_below (Kd.C_F (Kd.heap_int .i32) HR0_2.out) (by repeat (first | (with_reducible first | exact HB.out | apply below_alloc | apply pw_below_drewN | apply below_drew1 | refine below_set ?_ GE207.out | refine below_set ?_ GE233.out) | exact HB.out))))
                                          rintro e w56 ⟨v225, rfl, ho0, hb⟩
                                          refine ⟨_, rfl, ?_⟩
                                          have n0_ := Aside0.mk (Kd.R_below (by (with_reducible repeat (first | apply Kd.R_alloc | apply Kd.R_drewN | apply Kd.R_drew)); exact HO217.out) hb)
                                          have n1_ := Aside0.mk (Kd.R_below (by (with_reducible repeat (first | apply Kd.R_alloc | apply Kd.R_drewN | apply Kd.R_drew)); exact HO221.out) hb)
                                          have n2_ := Aside0.mk (Kd.V_lower (Kd.V_mono (ok' := fun k_ => some k_ ≠ (v216 : Value).ownBlock ∧ some k_ ≠ (v220 : Value).ownBlock ∧ k_ ≠ gb207 ∧ k_ ≠ gb233) ho0 (fun k_ hk_ => ⟨Or.elim hk_ (fun hs_ => fun e_ => Nat.not_le.2 hs_ (Kd.R_base HO217.out k_ e_.symm)) (fun hn_ => (Kd.fresh' (Kd.R_lt (by (with_reducible repeat (first | apply Kd.R_alloc | apply Kd.R_drewN | apply Kd.R_drew)); exact HO217.out)) k_ hn_)), Or.elim hk_ (fun hs_ => fun e_ => Nat.not_le.2 hs_ (Kd.R_base HO221.out k_ e_.symm)) (fun hn_ => (Kd.fresh' (Kd.R_lt (by (with_reducible repeat (first | apply Kd.R_alloc | apply Kd.R_drewN | apply Kd.R_drew)); exact HO221.out)) k_ hn_)), Or.elim hk_ (fun hs_ => fun e_ => Nat.not_le.2 hs_ (by rw [e_]; exact GW207.out)) (fun hn_ => (Kd.freshB (g := gb207) (o := .cells #[.int .i64 a0_0, .int .i64 a0_1, .slice A0_2 l0_2.length c0_2] 43 (0, 0)) (by (with_reducible repeat (first | refine blk_drewN ?_ _ | refine blk_drew ?_ | refine blk_alloc ?_ _)); exact BK207.out) k_ hn_)), Or.elim hk_ (fun hs_ => fun e_ => Nat.not_le.2 hs_ (by rw [e_]; exact GW233.out)) (fun hn_ => (Kd.freshB (g := gb233) (o := .cells #[.int .i64 0, .int .i64 0, .slice none 0 0] 43 (0, 0)) (by (with_reducible repeat (first | refine blk_drewN ?_ _ | refine blk_drew ?_ | refine blk_alloc ?_ _)); exact BK233.out) k_ hn_))⟩)) (below_size (by repeat (first | (with_reducible first | exact HB.out | apply below_alloc | apply pw_below_drewN | apply below_drew1 | refine below_set ?_ GE207.out | refine below_set ?_ GE233.out) | exact HB.out))))
                                          have n3_ := Aside0.mk (blk_below (g := gb207) (o := .cells #[.int .i64 a0_0, .int .i64 a0_1, .slice A0_2 l0_2.length c0_2] 43 (0, 0)) (by (with_reducible repeat (first | refine blk_drewN ?_ _ | refine blk_drew ?_ | refine blk_alloc ?_ _)); exact BK207.out) hb)
                                          have n4_ := Aside0.mk (blk_below (g := gb233) (o := .cells #[.int .i64 0, .int .i64 0, .slice none 0 0] 43 (0, 0)) (by (with_reducible repeat (first | refine blk_drewN ?_ _ | refine blk_drew ?_ | refine blk_alloc ?_ _)); exact BK233.out) hb)
                                          have n5_ := Aside0.mk (below_step (by repeat (first | (with_reducible first | exact HB.out | apply below_alloc | apply pw_below_drewN | apply below_drew1 | refine below_set ?_ GE207.out | refine below_set ?_ GE233.out) | exact HB.out)) hb)
                                          clear HO217
                                          clear HO221
                                          clear BK207
                                          clear BK233
                                          clear HB
                                          have HO217 := n0_
                                          have HO221 := n1_
                                          have HO226 := n2_
                                          have BK207 := n3_
                                          have BK233 := n4_
                                          have HB := n5_
                                          clear n0_ n1_ n2_ n3_ n4_ n5_
                                          (try clear hb)
                                          (try clear hb2)
                                          (try clear hk)
                                          (try clear hi)
                                          (try clear ho0)
                                          refine hK.out _ _ ⟨(blk_cell BK207.out 0).trans rfl, (blk_cell BK207.out 1).trans rfl, (blk_cell BK207.out 2).trans rfl⟩ (fun hHeld => ?_)
                                          clear hK K
                                          refine norm_ (a' := ?_) ?_ ?_
                                          rotate_left
                                          · show Act.put _ (some 50) _ = _
                                            simp only [Act.put, List.setIfInBounds_toArray, List.set_cons_zero, List.set_cons_succ, i64_w, i32_w]
                                            rfl
                                          exact norm_ (by first | (simp only [putAll, Act.put, List.setIfInBounds_toArray, List.set_cons_zero, List.set_cons_succ]; done) | (simp only [putAll, Act.put, List.setIfInBounds_toArray, List.set_cons_zero, List.set_cons_succ]; rfl)) (hJ2_4_9 (v220, v225, gb233) _ ⟨hHeld, (by (with_reducible repeat (first | apply Kd.R_alloc | apply Kd.R_drewN | apply Kd.R_drew)); exact HO217.out), (by (with_reducible repeat (first | apply Kd.R_alloc | apply Kd.R_drewN | apply Kd.R_drew)); exact HO221.out), (by (with_reducible repeat (first | apply Kd.V_alloc | apply Kd.V_drewN | apply Kd.V_drew)); exact HO226.out), (by (with_reducible repeat (first | refine blk_drewN ?_ _ | refine blk_drew ?_ | refine blk_alloc ?_ _)); exact BK207.out), (by (with_reducible repeat (first | refine blk_drewN ?_ _ | refine blk_drew ?_ | refine blk_alloc ?_ _)); exact BK233.out), GW233.out, GE233.out, NB207_233.out, NB233_207.out, (by repeat (first | (with_reducible first | exact HB.out | apply below_alloc | apply pw_below_drewN | apply below_drew1 | refine below_set ?_ GE207.out | refine below_set ?_ GE233.out) | exact HB.out))⟩)
                                      · skip
                                        rintro ⟨v220, v225⟩ w55 ⟨hS_, h0_, h1_, h2_, h3_, h4_⟩
                                        have n0_ : Aside0 (Kd.R (Kd.int .i32) 21 w55 w.heap.size (fun k_ => some k_ ≠ (v220 : Value).ownBlock) v216 t215) := ⟨h0_⟩
                                        have n1_ : Aside0 (Kd.R (Kd.int .i32) 21 w55 w.heap.size (fun k_ => some k_ ≠ (v216 : Value).ownBlock) v220 y219) := ⟨h1_⟩
                                        have n2_ : Aside0 (Kd.V (Kd.int .i32) 21 w55 w.heap.size (fun k_ => some k_ ≠ (v216 : Value).ownBlock ∧ some k_ ≠ (v220 : Value).ownBlock ∧ k_ ≠ gb207) v225 t224) := ⟨h2_⟩
                                        have n3_ : Aside0 (w55.heap[gb207]? = some (.cells #[.int .i64 a0_0, .int .i64 a0_1, .slice A0_2 l0_2.length c0_2] 43 (0, 0))) := ⟨h3_⟩
                                        have n4_ : Aside0 (Below w.heap.size w w55) := ⟨h4_⟩
                                        clear HO217
                                        clear BK207
                                        clear HB
                                        clear h0_ h1_ h2_ h3_ h4_
                                        have HO217 := n0_
                                        have HO221 := n1_
                                        have HO226 := n2_
                                        have BK207 := n3_
                                        have HB := n4_
                                        clear n0_ n1_ n2_ n3_ n4_
                                        have hHeld : w55.cell? ⟨gb207, 0, none⟩ = some (.int .i64 a0_0) ∧ w55.cell? ⟨gb207, 1, none⟩ = some (.int .i64 a0_1) ∧ w55.cell? ⟨gb207, 2, none⟩ = some (.slice A0_2 l0_2.length c0_2) := hS_
                                        obtain ⟨Ao56, co56, eo56⟩ := Kd.V_slice HO226.out
                                        (first | subst eo56 | (injection eo56 with f1_ f2_ f3_; have f4_ := f1_.symm; have f5_ := f3_.symm; clear f1_ f2_ f3_; subst f4_; subst f5_))
                                        refine norm_ (a' := ?_) ?_ ?_
                                        rotate_left
                                        · simp only [putAll, Act.put, List.setIfInBounds_toArray, List.set_cons_zero, List.set_cons_succ]
                                          rfl
                                        refine two_ (i := 6) (j := 9) (Ni := some 52) (Nj := some 9) #[true, true, true, true, true, true, true, false, false, false, false] #[true, true, true, true, true, true, false, false, false, true, false] rfl rfl rfl rfl (two_of HT_.out (by kernel_rfl)) (by decide) (by decide) (fun K hK => ?_) (fun K hK => ?_)
                                        · skip
                                          refine goes_ Try.func37 (by kernel_rfl) rfl #[.agg #[.int .i64 t222, .int .i64 t223, .slice Ao56 t224.length co56], .int .i64 a2] (by rfl) rfl rfl (by (try simp only [List.map_toArray, List.map_cons, List.map_nil]); first | done | rfl | (simp only [List.length_drop, List.length_take]; rfl)) ?_
                                          with_reducible refine (credenzaref17_Row.calls t222 t223 (fun k_ => (some k_ ≠ (v216 : Value).ownBlock ∧ (some k_ ≠ (v220 : Value).ownBlock ∧ k_ ≠ gb207))) _ _ t224 a2 t227 _ ?side1 A37.out).mono ?_
                                          (case side1 => exact HO226.out)
                                          rintro e w57 ⟨v228, rfl, ho0, hb⟩
                                          refine ⟨_, rfl, ?_⟩
                                          have n0_ := Aside0.mk (Kd.R_below (by (with_reducible repeat (first | apply Kd.R_alloc | apply Kd.R_drewN | apply Kd.R_drew)); exact HO217.out) hb)
                                          have n1_ := Aside0.mk (Kd.R_below (by (with_reducible repeat (first | apply Kd.R_alloc | apply Kd.R_drewN | apply Kd.R_drew)); exact HO221.out) hb)
                                          have n2_ := Aside0.mk (Kd.V_below (by (with_reducible repeat (first | apply Kd.V_alloc | apply Kd.V_drewN | apply Kd.V_drew)); exact HO226.out) hb)
                                          have n3_ := Aside0.mk (Kd.V_lower (Kd.V_mono (ok' := fun k_ => some k_ ≠ (v216 : Value).ownBlock ∧ some k_ ≠ (v220 : Value).ownBlock ∧ k_ ≠ gb207) ho0 (fun k_ hk_ => ⟨Or.elim hk_ (fun hs_ => hs_.1) (fun hn_ => (Kd.fresh' (Kd.R_lt (by (with_reducible repeat (first | apply Kd.R_alloc | apply Kd.R_drewN | apply Kd.R_drew)); exact HO217.out)) k_ hn_)), Or.elim hk_ (fun hs_ => hs_.2.1) (fun hn_ => (Kd.fresh' (Kd.R_lt (by (with_reducible repeat (first | apply Kd.R_alloc | apply Kd.R_drewN | apply Kd.R_drew)); exact HO221.out)) k_ hn_)), Or.elim hk_ (fun hs_ => hs_.2.2) (fun hn_ => (Kd.freshB (g := gb207) (o := .cells #[.int .i64 a0_0, .int .i64 a0_1, .slice A0_2 l0_2.length c0_2] 43 (0, 0)) (by (with_reducible repeat (first | refine blk_drewN ?_ _ | refine blk_drew ?_ | refine blk_alloc ?_ _)); exact BK207.out) k_ hn_))⟩)) (below_size (by repeat (first | (with_reducible first | exact HB.out | apply below_alloc | apply pw_below_drewN | apply below_drew1 | refine below_set ?_ GE207.out) | exact HB.out))))
                                          have n4_ := Aside0.mk (blk_below (g := gb207) (o := .cells #[.int .i64 a0_0, .int .i64 a0_1, .slice A0_2 l0_2.length c0_2] 43 (0, 0)) (by (with_reducible repeat (first | refine blk_drewN ?_ _ | refine blk_drew ?_ | refine blk_alloc ?_ _)); exact BK207.out) hb)
                                          have n5_ := Aside0.mk (below_step (by repeat (first | (with_reducible first | exact HB.out | apply below_alloc | apply pw_below_drewN | apply below_drew1 | refine below_set ?_ GE207.out) | exact HB.out)) hb)
                                          clear HO217
                                          clear HO221
                                          clear HO226
                                          clear BK207
                                          clear HB
                                          have HO217 := n0_
                                          have HO221 := n1_
                                          have HO226 := n2_
                                          have HO229 := n3_
                                          have BK207 := n4_
                                          have HB := n5_
                                          clear n0_ n1_ n2_ n3_ n4_ n5_
                                          (try clear hb)
                                          (try clear hb2)
                                          (try clear hk)
                                          (try clear hi)
                                          (try clear ho0)
                                          refine hK.out _ _ ⟨(blk_cell BK207.out 0).trans rfl, (blk_cell BK207.out 1).trans rfl, (blk_cell BK207.out 2).trans rfl⟩ (fun hHeld => ?_)
                                          clear hK K
                                          refine norm_ (a' := ?_) ?_ ?_
                                          rotate_left
                                          · show Act.put _ (some 52) _ = _
                                            simp only [Act.put, List.setIfInBounds_toArray, List.set_cons_zero, List.set_cons_succ, i64_w, i32_w]
                                            rfl
                                          exact norm_ (by first | (simp only [putAll, Act.put, List.setIfInBounds_toArray, List.set_cons_zero, List.set_cons_succ]; done) | (simp only [putAll, Act.put, List.setIfInBounds_toArray, List.set_cons_zero, List.set_cons_succ]; rfl)) (hJ2_4_6 (v220, .slice Ao56 t224.length co56, v228) _ ⟨hHeld, (by (with_reducible repeat (first | apply Kd.R_alloc | apply Kd.R_drewN | apply Kd.R_drew)); exact HO217.out), (by (with_reducible repeat (first | apply Kd.R_alloc | apply Kd.R_drewN | apply Kd.R_drew)); exact HO221.out), (by (with_reducible repeat (first | apply Kd.V_alloc | apply Kd.V_drewN | apply Kd.V_drew)); exact HO226.out), (by (with_reducible repeat (first | apply Kd.V_alloc | apply Kd.V_drewN | apply Kd.V_drew)); exact HO229.out), (by (with_reducible repeat (first | refine blk_drewN ?_ _ | refine blk_drew ?_ | refine blk_alloc ?_ _)); exact BK207.out), (by repeat (first | (with_reducible first | exact HB.out | apply below_alloc | apply pw_below_drewN | apply below_drew1 | refine below_set ?_ GE207.out) | exact HB.out))⟩)
                                        · skip
                                          refine box_step ?hg (N := 9) ?hd (cs := #[.int .i64 0, .int .i64 0, .slice none 0 0]) (t := 43) ?hr ?_; (case hd => rfl); (case hg => rfl); (case hr => first | (go_simp; done) | (go_simp; rfl))
                                          intro gb233 hg w56 hbox hb
                                          have n0_ := Aside0.mk (Kd.R_below (by (with_reducible repeat (first | apply Kd.R_alloc | apply Kd.R_drewN | apply Kd.R_drew)); exact HO217.out) hb)
                                          have n1_ := Aside0.mk (Kd.R_below (by (with_reducible repeat (first | apply Kd.R_alloc | apply Kd.R_drewN | apply Kd.R_drew)); exact HO221.out) hb)
                                          have n2_ := Aside0.mk (Kd.V_below (Kd.V_elderB (by (with_reducible repeat (first | apply Kd.V_alloc | apply Kd.V_drewN | apply Kd.V_drew)); exact HO226.out) gb233 (Nat.le_of_eq hg.symm)) hb)
                                          have n3_ := Aside0.mk (blk_below (g := gb207) (o := .cells #[.int .i64 a0_0, .int .i64 a0_1, .slice A0_2 l0_2.length c0_2] 43 (0, 0)) (by (with_reducible repeat (first | refine blk_drewN ?_ _ | refine blk_drew ?_ | refine blk_alloc ?_ _)); exact BK207.out) hb)
                                          have n4_ := Aside0.mk (below_step (by repeat (first | (with_reducible first | exact HB.out | apply below_alloc | apply pw_below_drewN | apply below_drew1 | refine below_set ?_ GE207.out) | exact HB.out)) hb)
                                          have n5_ := Aside0.mk (hbox)
                                          have n6_ := Aside0.mk ((by rw [hg]; exact (below_size (by repeat (first | (with_reducible first | exact HB.out | apply below_alloc | apply pw_below_drewN | apply below_drew1 | refine below_set ?_ GE207.out) | exact HB.out))) : w.heap.size ≤ gb233))
                                          have n7_ := Aside0.mk ((by rw [hg]; exact (below_size (by repeat (first | (with_reducible first | exact HB.out | apply below_alloc | apply pw_below_drewN | apply below_drew1 | refine below_set ?_ GE207.out) | exact HB.out))) : w.heap.size ≤ gb233))
                                          have n8_ := Aside0.mk ((by rw [hg]; exact Nat.ne_of_lt (blk_lt (g := gb207) (o := .cells #[.int .i64 a0_0, .int .i64 a0_1, .slice A0_2 l0_2.length c0_2] 43 (0, 0)) (by (with_reducible repeat (first | refine blk_drewN ?_ _ | refine blk_drew ?_ | refine blk_alloc ?_ _)); exact BK207.out)) : gb207 ≠ gb233))
                                          have n9_ := Aside0.mk ((by rw [hg]; exact Nat.ne_of_gt (blk_lt (g := gb207) (o := .cells #[.int .i64 a0_0, .int .i64 a0_1, .slice A0_2 l0_2.length c0_2] 43 (0, 0)) (by (with_reducible repeat (first | refine blk_drewN ?_ _ | refine blk_drew ?_ | refine blk_alloc ?_ _)); exact BK207.out)) : gb233 ≠ gb207))
                                          clear HO217
                                          clear HO221
                                          clear HO226
                                          clear BK207
                                          clear HB
                                          have HO217 := n0_
                                          have HO221 := n1_
                                          have HO226 := n2_
                                          have BK207 := n3_
                                          have HB := n4_
                                          have BK233 := n5_
                                          have GW233 := n6_
                                          have GE233 := n7_
                                          have NB207_233 := n8_
                                          have NB233_207 := n9_
                                          clear n0_ n1_ n2_ n3_ n4_ n5_ n6_ n7_ n8_ n9_
                                          clear hb hbox hg
                                          refine hK.out _ _ ⟨(blk_cell BK207.out 0).trans rfl, (blk_cell BK207.out 1).trans rfl, (blk_cell BK207.out 2).trans rfl⟩ (fun hHeld => ?_)
                                          clear hK K
                                          refine norm_ (a' := ?_) ?_ ?_
                                          rotate_left
                                          · show Act.put _ (some 9) _ = _
                                            simp only [Act.put, List.setIfInBounds_toArray, List.set_cons_zero, List.set_cons_succ, i64_w, i32_w]
                                            rfl
                                          exact norm_ (by first | (simp only [putAll, Act.put, List.setIfInBounds_toArray, List.set_cons_zero, List.set_cons_succ]; done) | (simp only [putAll, Act.put, List.setIfInBounds_toArray, List.set_cons_zero, List.set_cons_succ]; rfl)) (hJ2_4_9 (v220, .slice Ao56 t224.length co56, gb233) _ ⟨hHeld, (by (with_reducible repeat (first | apply Kd.R_alloc | apply Kd.R_drewN | apply Kd.R_drew)); exact HO217.out), (by (with_reducible repeat (first | apply Kd.R_alloc | apply Kd.R_drewN | apply Kd.R_drew)); exact HO221.out), (by (with_reducible repeat (first | apply Kd.V_alloc | apply Kd.V_drewN | apply Kd.V_drew)); exact Kd.V_mono HO226.out (fun _ hk => ⟨hk.1.1, ⟨hk.1.2.1, ⟨hk.1.2.2, hk.2⟩⟩⟩)), (by (with_reducible repeat (first | refine blk_drewN ?_ _ | refine blk_drew ?_ | refine blk_alloc ?_ _)); exact BK207.out), (by (with_reducible repeat (first | refine blk_drewN ?_ _ | refine blk_drew ?_ | refine blk_alloc ?_ _)); exact BK233.out), GW233.out, GE233.out, NB207_233.out, NB233_207.out, (by repeat (first | (with_reducible first | exact HB.out | apply below_alloc | apply pw_below_drewN | apply below_drew1 | refine below_set ?_ GE207.out | refine below_set ?_ GE233.out) | exact HB.out))⟩)
                                    · skip
                                      rintro ⟨v225, v228, gb233⟩ w56 ⟨hS_, h0_, h1_, h2_, h3_, h4_, h5_, h6_, h7_, h8_, h9_⟩
                                      have n0_ : Aside0 (Kd.R (Kd.int .i32) 21 w56 w.heap.size (fun _ => True) v216 t215) := ⟨h0_⟩
                                      have n1_ : Aside0 (Kd.V (Kd.int .i32) 21 w56 w.heap.size (fun k_ => some k_ ≠ (v216 : Value).ownBlock ∧ k_ ≠ gb207 ∧ k_ ≠ gb233) v225 t224) := ⟨h1_⟩
                                      have n2_ : Aside0 (Kd.V (Kd.int .i32) 21 w56 w.heap.size (fun k_ => some k_ ≠ (v216 : Value).ownBlock ∧ k_ ≠ gb207 ∧ k_ ≠ gb233) v228 t227) := ⟨h2_⟩
                                      have n3_ : Aside0 (w56.heap[gb207]? = some (.cells #[.int .i64 a0_0, .int .i64 a0_1, .slice A0_2 l0_2.length c0_2] 43 (0, 0))) := ⟨h3_⟩
                                      have n4_ : Aside0 (w56.heap[gb233]? = some (.cells #[.int .i64 0, .int .i64 0, .slice none 0 0] 43 (0, 0))) := ⟨h4_⟩
                                      have n5_ : Aside0 (w.heap.size ≤ gb233) := ⟨h5_⟩
                                      have n6_ : Aside0 (w.heap.size ≤ gb233) := ⟨h6_⟩
                                      have n7_ : Aside0 (gb207 ≠ gb233) := ⟨h7_⟩
                                      have n8_ : Aside0 (gb233 ≠ gb207) := ⟨h8_⟩
                                      have n9_ : Aside0 (Below w.heap.size w w56) := ⟨h9_⟩
                                      clear HO217
                                      clear BK207
                                      clear HB
                                      clear h0_ h1_ h2_ h3_ h4_ h5_ h6_ h7_ h8_ h9_
                                      have HO217 := n0_
                                      have HO226 := n1_
                                      have HO229 := n2_
                                      have BK207 := n3_
                                      have BK233 := n4_
                                      have GW233 := n5_
                                      have GE233 := n6_
                                      have NB207_233 := n7_
                                      have NB233_207 := n8_
                                      have HB := n9_
                                      clear n0_ n1_ n2_ n3_ n4_ n5_ n6_ n7_ n8_ n9_
                                      have hHeld : w56.cell? ⟨gb207, 0, none⟩ = some (.int .i64 a0_0) ∧ w56.cell? ⟨gb207, 1, none⟩ = some (.int .i64 a0_1) ∧ w56.cell? ⟨gb207, 2, none⟩ = some (.slice A0_2 l0_2.length c0_2) := hS_
                                      refine norm_ (a' := ?_) ?_ ?_
                                      rotate_left
                                      · simp only [putAll, Act.put, List.setIfInBounds_toArray, List.set_cons_zero, List.set_cons_succ]
                                        rfl
                                      refine one_ (i := 2) (N := some 48) #[true, true, true, true, true, true, true, false, false, true, false] rfl rfl (one_of HT_.out (by kernel_rfl)) (by decide) (fun K hK => ?_)
                                      refine Kd.R_lit_step (Kd.int .i32) _ 21 ?hg (N := 48) ?hd (xs := ([] : List Int)) (inner := []) (ok := fun _ => True) (okp := fun _ => True) ?hr ?hp (fun _ hk => hk) trivial (Below.refl _ _) (Nat.le_refl _) (by simp) ?_; (case hd => rfl); (case hg => rfl); (case hr => first | (go_simp; done) | (go_simp; rfl)); (case hp => exact (Reps.none _ _))
                                      intro v220 w57 ho58 hb hg_ hnew_
                                      clear hg_ hnew_
                                      (first | rw [← Ny219.out] at ho58 | (simp only [Int.reduceToNat] at ho58; rw [← Ny219.out] at ho58))
                                      have n0_ := Aside0.mk (Kd.R_elder' (by (with_reducible repeat (first | apply Kd.R_alloc | apply Kd.R_drewN | apply Kd.R_drew)); exact HO217.out) (Kd.R_base ho58) hb)
                                      have n1_ := Aside0.mk (Kd.V_elder' (by (with_reducible repeat (first | apply Kd.V_alloc | apply Kd.V_drewN | apply Kd.V_drew)); exact HO226.out) (Kd.R_base ho58) hb)
                                      have n2_ := Aside0.mk (Kd.V_elder' (by (with_reducible repeat (first | apply Kd.V_alloc | apply Kd.V_drewN | apply Kd.V_drew)); exact HO229.out) (Kd.R_base ho58) hb)
                                      have n3_ := Aside0.mk (Kd.R_lower (Kd.R_new' ho58 (Kd.R_lt (by (with_reducible repeat (first | apply Kd.R_alloc | apply Kd.R_drewN | apply Kd.R_drew)); exact HO217.out))) (below_size (by repeat (first | (with_reducible first | exact HB.out | apply below_alloc | apply pw_below_drewN | apply below_drew1 | refine below_set ?_ GE207.out | refine below_set ?_ GE233.out) | exact HB.out))))
                                      have n4_ := Aside0.mk (blk_below (g := gb207) (o := .cells #[.int .i64 a0_0, .int .i64 a0_1, .slice A0_2 l0_2.length c0_2] 43 (0, 0)) (by (with_reducible repeat (first | refine blk_drewN ?_ _ | refine blk_drew ?_ | refine blk_alloc ?_ _)); exact BK207.out) hb)
                                      have n5_ := Aside0.mk (blk_below (g := gb233) (o := .cells #[.int .i64 0, .int .i64 0, .slice none 0 0] 43 (0, 0)) (by (with_reducible repeat (first | refine blk_drewN ?_ _ | refine blk_drew ?_ | refine blk_alloc ?_ _)); exact BK233.out) hb)
                                      have n6_ := Aside0.mk (below_step (by repeat (first | (with_reducible first | exact HB.out | apply below_alloc | apply pw_below_drewN | apply below_drew1 | refine below_set ?_ GE207.out | refine below_set ?_ GE233.out) | exact HB.out)) hb)
                                      clear HO217
                                      clear HO226
                                      clear HO229
                                      clear BK207
                                      clear BK233
                                      clear HB
                                      have HO217 := n0_
                                      have HO226 := n1_
                                      have HO229 := n2_
                                      have HO221 := n3_
                                      have BK207 := n4_
                                      have BK233 := n5_
                                      have HB := n6_
                                      clear n0_ n1_ n2_ n3_ n4_ n5_ n6_
                                      clear hb ho58
                                      refine hK.out _ _ ⟨(blk_cell BK207.out 0).trans rfl, (blk_cell BK207.out 1).trans rfl, (blk_cell BK207.out 2).trans rfl⟩ (fun hHeld => ?_)
                                      clear hK K
                                      refine norm_ (a' := ?_) ?_ ?_
                                      rotate_left
                                      · show Act.put _ (some 48) _ = _
                                        simp only [Act.put, List.setIfInBounds_toArray, List.set_cons_zero, List.set_cons_succ, i64_w, i32_w]
                                        rfl
                                      exact norm_ (by first | (simp only [putAll, Act.put, List.setIfInBounds_toArray, List.set_cons_zero, List.set_cons_succ]; done) | (simp only [putAll, Act.put, List.setIfInBounds_toArray, List.set_cons_zero, List.set_cons_succ]; rfl)) (hJ2_4_6_9 (v220, v225, v228, gb233) _ ⟨hHeld, (by (with_reducible repeat (first | apply Kd.R_alloc | apply Kd.R_drewN | apply Kd.R_drew)); exact Kd.R_mono HO217.out (fun _ hk => hk.2)), (by (with_reducible repeat (first | apply Kd.R_alloc | apply Kd.R_drewN | apply Kd.R_drew)); exact Kd.R_mono HO221.out (fun _ hk => hk.2)), (by (with_reducible repeat (first | apply Kd.V_alloc | apply Kd.V_drewN | apply Kd.V_drew)); exact Kd.V_mono HO226.out (fun _ hk => ⟨hk.1.1, ⟨hk.2, ⟨hk.1.2.1, hk.1.2.2⟩⟩⟩)), (by (with_reducible repeat (first | apply Kd.V_alloc | apply Kd.V_drewN | apply Kd.V_drew)); exact Kd.V_mono HO229.out (fun _ hk => ⟨hk.1.1, ⟨hk.2, ⟨hk.1.2.1, hk.1.2.2⟩⟩⟩)), (by (with_reducible repeat (first | refine blk_drewN ?_ _ | refine blk_drew ?_ | refine blk_alloc ?_ _)); exact BK207.out), (by (with_reducible repeat (first | refine blk_drewN ?_ _ | refine blk_drew ?_ | refine blk_alloc ?_ _)); exact BK233.out), GW233.out, GE233.out, NB207_233.out, NB233_207.out, (by repeat (first | (with_reducible first | exact HB.out | apply below_alloc | apply pw_below_drewN | apply below_drew1 | refine below_set ?_ GE207.out | refine below_set ?_ GE233.out) | exact HB.out))⟩)
                                  · skip
                                    rintro ⟨v220, v225, gb233⟩ w56 ⟨hS_, h0_, h1_, h2_, h3_, h4_, h5_, h6_, h7_, h8_, h9_⟩
                                    have n0_ : Aside0 (Kd.R (Kd.int .i32) 21 w56 w.heap.size (fun k_ => some k_ ≠ (v220 : Value).ownBlock) v216 t215) := ⟨h0_⟩
                                    have n1_ : Aside0 (Kd.R (Kd.int .i32) 21 w56 w.heap.size (fun k_ => some k_ ≠ (v216 : Value).ownBlock) v220 y219) := ⟨h1_⟩
                                    have n2_ : Aside0 (Kd.V (Kd.int .i32) 21 w56 w.heap.size (fun k_ => some k_ ≠ (v216 : Value).ownBlock ∧ some k_ ≠ (v220 : Value).ownBlock ∧ k_ ≠ gb207 ∧ k_ ≠ gb233) v225 t224) := ⟨h2_⟩
                                    have n3_ : Aside0 (w56.heap[gb207]? = some (.cells #[.int .i64 a0_0, .int .i64 a0_1, .slice A0_2 l0_2.length c0_2] 43 (0, 0))) := ⟨h3_⟩
                                    have n4_ : Aside0 (w56.heap[gb233]? = some (.cells #[.int .i64 0, .int .i64 0, .slice none 0 0] 43 (0, 0))) := ⟨h4_⟩
                                    have n5_ : Aside0 (w.heap.size ≤ gb233) := ⟨h5_⟩
                                    have n6_ : Aside0 (w.heap.size ≤ gb233) := ⟨h6_⟩
                                    have n7_ : Aside0 (gb207 ≠ gb233) := ⟨h7_⟩
                                    have n8_ : Aside0 (gb233 ≠ gb207) := ⟨h8_⟩
                                    have n9_ : Aside0 (Below w.heap.size w w56) := ⟨h9_⟩
                                    clear HO217
                                    clear BK207
                                    clear HB
                                    clear h0_ h1_ h2_ h3_ h4_ h5_ h6_ h7_ h8_ h9_
                                    have HO217 := n0_
                                    have HO221 := n1_
                                    have HO226 := n2_
                                    have BK207 := n3_
                                    have BK233 := n4_
                                    have GW233 := n5_
                                    have GE233 := n6_
                                    have NB207_233 := n7_
                                    have NB233_207 := n8_
                                    have HB := n9_
                                    clear n0_ n1_ n2_ n3_ n4_ n5_ n6_ n7_ n8_ n9_
                                    have hHeld : w56.cell? ⟨gb207, 0, none⟩ = some (.int .i64 a0_0) ∧ w56.cell? ⟨gb207, 1, none⟩ = some (.int .i64 a0_1) ∧ w56.cell? ⟨gb207, 2, none⟩ = some (.slice A0_2 l0_2.length c0_2) := hS_
                                    obtain ⟨Ao57, co57, eo57⟩ := Kd.V_slice HO226.out
                                    (first | subst eo57 | (injection eo57 with f1_ f2_ f3_; have f4_ := f1_.symm; have f5_ := f3_.symm; clear f1_ f2_ f3_; subst f4_; subst f5_))
                                    refine norm_ (a' := ?_) ?_ ?_
                                    rotate_left
                                    · simp only [putAll, Act.put, List.setIfInBounds_toArray, List.set_cons_zero, List.set_cons_succ]
                                      rfl
                                    refine one_ (i := 6) (N := some 52) #[true, true, true, true, true, true, true, false, false, true, false] rfl rfl (one_of HT_.out (by kernel_rfl)) (by decide) (fun K hK => ?_)
                                    refine goes_ Try.func37 (by kernel_rfl) rfl #[.agg #[.int .i64 t222, .int .i64 t223, .slice Ao57 t224.length co57], .int .i64 a2] (by rfl) rfl rfl (by (try simp only [List.map_toArray, List.map_cons, List.map_nil]); first | done | rfl | (simp only [List.length_drop, List.length_take]; rfl)) ?_
                                    with_reducible refine (credenzaref17_Row.calls t222 t223 (fun k_ => (some k_ ≠ (v216 : Value).ownBlock ∧ (some k_ ≠ (v220 : Value).ownBlock ∧ (k_ ≠ gb207 ∧ k_ ≠ gb233)))) _ _ t224 a2 t227 _ ?side1 A37.out).mono ?_
                                    (case side1 => exact HO226.out)
                                    rintro e w58 ⟨v228, rfl, ho0, hb⟩
                                    refine ⟨_, rfl, ?_⟩
                                    have n0_ := Aside0.mk (Kd.R_below (by (with_reducible repeat (first | apply Kd.R_alloc | apply Kd.R_drewN | apply Kd.R_drew)); exact HO217.out) hb)
                                    have n1_ := Aside0.mk (Kd.R_below (by (with_reducible repeat (first | apply Kd.R_alloc | apply Kd.R_drewN | apply Kd.R_drew)); exact HO221.out) hb)
                                    have n2_ := Aside0.mk (Kd.V_below (by (with_reducible repeat (first | apply Kd.V_alloc | apply Kd.V_drewN | apply Kd.V_drew)); exact HO226.out) hb)
                                    have n3_ := Aside0.mk (Kd.V_lower (Kd.V_mono (ok' := fun k_ => some k_ ≠ (v216 : Value).ownBlock ∧ some k_ ≠ (v220 : Value).ownBlock ∧ k_ ≠ gb207 ∧ k_ ≠ gb233) ho0 (fun k_ hk_ => ⟨Or.elim hk_ (fun hs_ => hs_.1) (fun hn_ => (Kd.fresh' (Kd.R_lt (by (with_reducible repeat (first | apply Kd.R_alloc | apply Kd.R_drewN | apply Kd.R_drew)); exact HO217.out)) k_ hn_)), Or.elim hk_ (fun hs_ => hs_.2.1) (fun hn_ => (Kd.fresh' (Kd.R_lt (by (with_reducible repeat (first | apply Kd.R_alloc | apply Kd.R_drewN | apply Kd.R_drew)); exact HO221.out)) k_ hn_)), Or.elim hk_ (fun hs_ => hs_.2.2.1) (fun hn_ => (Kd.freshB (g := gb207) (o := .cells #[.int .i64 a0_0, .int .i64 a0_1, .slice A0_2 l0_2.length c0_2] 43 (0, 0)) (by (with_reducible repeat (first | refine blk_drewN ?_ _ | refine blk_drew ?_ | refine blk_alloc ?_ _)); exact BK207.out) k_ hn_)), Or.elim hk_ (fun hs_ => hs_.2.2.2) (fun hn_ => (Kd.freshB (g := gb233) (o := .cells #[.int .i64 0, .int .i64 0, .slice none 0 0] 43 (0, 0)) (by (with_reducible repeat (first | refine blk_drewN ?_ _ | refine blk_drew ?_ | refine blk_alloc ?_ _)); exact BK233.out) k_ hn_))⟩)) (below_size (by repeat (first | (with_reducible first | exact HB.out | apply below_alloc | apply pw_below_drewN | apply below_drew1 | refine below_set ?_ GE207.out | refine below_set ?_ GE233.out) | exact HB.out))))
                                    have n4_ := Aside0.mk (blk_below (g := gb207) (o := .cells #[.int .i64 a0_0, .int .i64 a0_1, .slice A0_2 l0_2.length c0_2] 43 (0, 0)) (by (with_reducible repeat (first | refine blk_drewN ?_ _ | refine blk_drew ?_ | refine blk_alloc ?_ _)); exact BK207.out) hb)
                                    have n5_ := Aside0.mk (blk_below (g := gb233) (o := .cells #[.int .i64 0, .int .i64 0, .slice none 0 0] 43 (0, 0)) (by (with_reducible repeat (first | refine blk_drewN ?_ _ | refine blk_drew ?_ | refine blk_alloc ?_ _)); exact BK233.out) hb)
                                    have n6_ := Aside0.mk (below_step (by repeat (first | (with_reducible first | exact HB.out | apply below_alloc | apply pw_below_drewN | apply below_drew1 | refine below_set ?_ GE207.out | refine below_set ?_ GE233.out) | exact HB.out)) hb)
                                    clear HO217
                                    clear HO221
                                    clear HO226
                                    clear BK207
                                    clear BK233
                                    clear HB
                                    have HO217 := n0_
                                    have HO221 := n1_
                                    have HO226 := n2_
                                    have HO229 := n3_
                                    have BK207 := n4_
                                    have BK233 := n5_
                                    have HB := n6_
                                    clear n0_ n1_ n2_ n3_ n4_ n5_ n6_
                                    (try clear hb)
                                    (try clear hb2)
                                    (try clear hk)
                                    (try clear hi)
                                    (try clear ho0)
                                    refine hK.out _ _ ⟨(blk_cell BK207.out 0).trans rfl, (blk_cell BK207.out 1).trans rfl, (blk_cell BK207.out 2).trans rfl⟩ (fun hHeld => ?_)
                                    clear hK K
                                    refine norm_ (a' := ?_) ?_ ?_
                                    rotate_left
                                    · show Act.put _ (some 52) _ = _
                                      simp only [Act.put, List.setIfInBounds_toArray, List.set_cons_zero, List.set_cons_succ, i64_w, i32_w]
                                      rfl
                                    exact norm_ (by first | (simp only [putAll, Act.put, List.setIfInBounds_toArray, List.set_cons_zero, List.set_cons_succ]; done) | (simp only [putAll, Act.put, List.setIfInBounds_toArray, List.set_cons_zero, List.set_cons_succ]; rfl)) (hJ2_4_6_9 (v220, .slice Ao57 t224.length co57, v228, gb233) _ ⟨hHeld, (by (with_reducible repeat (first | apply Kd.R_alloc | apply Kd.R_drewN | apply Kd.R_drew)); exact HO217.out), (by (with_reducible repeat (first | apply Kd.R_alloc | apply Kd.R_drewN | apply Kd.R_drew)); exact HO221.out), (by (with_reducible repeat (first | apply Kd.V_alloc | apply Kd.V_drewN | apply Kd.V_drew)); exact HO226.out), (by (with_reducible repeat (first | apply Kd.V_alloc | apply Kd.V_drewN | apply Kd.V_drew)); exact HO229.out), (by (with_reducible repeat (first | refine blk_drewN ?_ _ | refine blk_drew ?_ | refine blk_alloc ?_ _)); exact BK207.out), (by (with_reducible repeat (first | refine blk_drewN ?_ _ | refine blk_drew ?_ | refine blk_alloc ?_ _)); exact BK233.out), GW233.out, GE233.out, NB207_233.out, NB233_207.out, (by repeat (first | (with_reducible first | exact HB.out | apply below_alloc | apply pw_below_drewN | apply below_drew1 | refine below_set ?_ GE207.out | refine below_set ?_ GE233.out) | exact HB.out))⟩)
                                · skip
                                  rintro ⟨v220, v225, v228⟩ w57 ⟨hS_, h0_, h1_, h2_, h3_, h4_, h5_⟩
                                  have n0_ : Aside0 (Kd.R (Kd.int .i32) 21 w57 w.heap.size (fun k_ => some k_ ≠ (v220 : Value).ownBlock) v216 t215) := ⟨h0_⟩
                                  have n1_ : Aside0 (Kd.R (Kd.int .i32) 21 w57 w.heap.size (fun k_ => some k_ ≠ (v216 : Value).ownBlock) v220 y219) := ⟨h1_⟩
                                  have n2_ : Aside0 (Kd.V (Kd.int .i32) 21 w57 w.heap.size (fun k_ => some k_ ≠ (v216 : Value).ownBlock ∧ some k_ ≠ (v220 : Value).ownBlock ∧ k_ ≠ gb207) v225 t224) := ⟨h2_⟩
                                  have n3_ : Aside0 (Kd.V (Kd.int .i32) 21 w57 w.heap.size (fun k_ => some k_ ≠ (v216 : Value).ownBlock ∧ some k_ ≠ (v220 : Value).ownBlock ∧ k_ ≠ gb207) v228 t227) := ⟨h3_⟩
                                  have n4_ : Aside0 (w57.heap[gb207]? = some (.cells #[.int .i64 a0_0, .int .i64 a0_1, .slice A0_2 l0_2.length c0_2] 43 (0, 0))) := ⟨h4_⟩
                                  have n5_ : Aside0 (Below w.heap.size w w57) := ⟨h5_⟩
                                  clear HO217
                                  clear BK207
                                  clear HB
                                  clear h0_ h1_ h2_ h3_ h4_ h5_
                                  have HO217 := n0_
                                  have HO221 := n1_
                                  have HO226 := n2_
                                  have HO229 := n3_
                                  have BK207 := n4_
                                  have HB := n5_
                                  clear n0_ n1_ n2_ n3_ n4_ n5_
                                  have hHeld : w57.cell? ⟨gb207, 0, none⟩ = some (.int .i64 a0_0) ∧ w57.cell? ⟨gb207, 1, none⟩ = some (.int .i64 a0_1) ∧ w57.cell? ⟨gb207, 2, none⟩ = some (.slice A0_2 l0_2.length c0_2) := hS_
                                  obtain ⟨Ao59, co59, eo59⟩ := Kd.V_slice HO229.out
                                  (first | subst eo59 | (injection eo59 with f1_ f2_ f3_; have f4_ := f1_.symm; have f5_ := f3_.symm; clear f1_ f2_ f3_; subst f4_; subst f5_))
                                  refine norm_ (a' := ?_) ?_ ?_
                                  rotate_left
                                  · simp only [putAll, Act.put, List.setIfInBounds_toArray, List.set_cons_zero, List.set_cons_succ]
                                    rfl
                                  refine two_ (i := 7) (j := 9) (Ni := some 53) (Nj := some 9) #[true, true, true, true, true, true, true, true, false, false, false] #[true, true, true, true, true, true, true, false, false, true, false] rfl rfl rfl rfl (two_of HT_.out (by kernel_rfl)) (by decide) (by decide) (fun K hK => ?_) (fun K hK => ?_)
                                  · skip
                                    refine Kd.R_append_rows_step (Kd.int .i32) (w0 := w) w.heap.size (by rfl) (.tmp 48) (.tmp 52) 22 21 (.int .i32 0) 4 rfl Try.underlying22 info21 rfl (by decide) (by omega) v220 y219 t227 _ _ _ (fun k_ => some k_ ≠ (v216 : Value).ownBlock) (fun _ => False) rfl rfl ?aO ?aR (fun _ _ h => h) (fun _ h => h.elim) ?aF ?aB ?aS ?aL ?_
                                    (case aR => repeat (first | exact (Kd.V_reads' HO229.out).2.2 | (with_reducible refine Kd.C_alloc ?_ _) | (with_reducible refine Kd.C_drewN ?_ _) | (with_reducible refine Kd.C_drew ?_)))
                                    (case aB => exact (by repeat (first | (with_reducible first | exact HB.out | apply below_alloc | apply pw_below_drewN | apply below_drew1 | refine below_set ?_ GE207.out) | exact HB.out)))
                                    (case aF => exact (fun k_ hk => Kd.fresh' (Kd.R_lt (by (with_reducible repeat (first | apply Kd.R_alloc | apply Kd.R_drewN | apply Kd.R_drew)); exact HO217.out)) k_ hk))
                                    (case aO => exact (by (with_reducible repeat (first | apply Kd.R_alloc | apply Kd.R_drewN | apply Kd.R_drew)); exact HO221.out))
                                    (case aS => exact (below_size (by repeat (first | (with_reducible first | exact HB.out | apply below_alloc | apply pw_below_drewN | apply below_drew1 | refine below_set ?_ GE207.out) | exact HB.out))))
                                    (case aL => have := LMc38.out; omega)
                                    intro v231 w58 ho hb hg hat
                                    rw [← Ny230.out] at ho
                                    have n0_ := Aside0.mk (blk_grown (g := gb207) (o := .cells #[.int .i64 a0_0, .int .i64 a0_1, .slice A0_2 l0_2.length c0_2] 43 (0, 0)) (by (with_reducible repeat (first | refine blk_drewN ?_ _ | refine blk_drew ?_ | refine blk_alloc ?_ _)); exact BK207.out) hg (Kd.R_ne HO221.out BK207.out (by decide)))
                                    have n1_ := Aside0.mk (Kd.R_after (ok := (fun _ => True)) (by (with_reducible repeat (first | apply Kd.R_alloc | apply Kd.R_drewN | apply Kd.R_drew)); exact Kd.R_mono HO217.out (fun _ hk => ⟨trivial, hk⟩)) hg hat)
                                    have n2_ := Aside0.mk (Kd.V_afterv (ok := (fun k_ => some k_ ≠ (v216 : Value).ownBlock ∧ k_ ≠ gb207)) (by (with_reducible repeat (first | apply Kd.V_alloc | apply Kd.V_drewN | apply Kd.V_drew)); exact Kd.V_mono HO226.out (fun _ hk => ⟨⟨hk.1, hk.2.2⟩, hk.2.1⟩)) hg hat)
                                    have n3_ := Aside0.mk (Kd.V_afterv (ok := (fun k_ => some k_ ≠ (v216 : Value).ownBlock ∧ k_ ≠ gb207)) (by (with_reducible repeat (first | apply Kd.V_alloc | apply Kd.V_drewN | apply Kd.V_drew)); exact Kd.V_mono HO229.out (fun _ hk => ⟨⟨hk.1, hk.2.2⟩, hk.2.1⟩)) hg hat)
                                    have n4_ := Aside0.mk (hb)
                                    have n5_ := Aside0.mk (ho)
                                    clear BK207
                                    clear HO217
                                    clear HO226
                                    clear HO229
                                    clear HB
                                    clear HO221
                                    have BK207 := n0_
                                    have HO217 := n1_
                                    have HO226 := n2_
                                    have HO229 := n3_
                                    have HB := n4_
                                    have HO232 := n5_
                                    clear n0_ n1_ n2_ n3_ n4_ n5_
                                    clear ho hb hg hat
                                    obtain ⟨Ao60, co60, eo60⟩ := Kd.R_slice HO232.out
                                    (first | subst eo60 | (injection eo60 with f1_ f2_ f3_; have f4_ := f1_.symm; have f5_ := f3_.symm; clear f1_ f2_ f3_; subst f4_; subst f5_))
                                    refine hK.out _ _ ⟨(blk_cell BK207.out 0).trans rfl, (blk_cell BK207.out 1).trans rfl, (blk_cell BK207.out 2).trans rfl⟩ (fun hHeld => ?_)
                                    clear hK K
                                    refine norm_ (a' := ?_) ?_ ?_
                                    rotate_left
                                    · show Act.put _ (some 53) _ = _
                                      simp only [Act.put, List.setIfInBounds_toArray, List.set_cons_zero, List.set_cons_succ, i64_w, i32_w]
                                      rfl
                                    refine pure_ (i := 8) (N := some 54) (v := ?_) (a' := ?_) #[true, true, true, true, true, true, true, true, true, false, false] rfl rfl (any_of HT_.out (by kernel_rfl)) (fun _ _ _ h => h) (Or.inl ⟨by rfl, ?_⟩) ?_ ?_
                                    rotate_left
                                    · intro w'
                                      go_simp
                                      with_reducible rfl
                                    rotate_left
                                    · simp only [Act.put, List.setIfInBounds_toArray, List.set_cons_zero, List.set_cons_succ, i64_w, i32_w]
                                      rfl
                                    exact norm_ (by first | (simp only [putAll, Act.put, List.setIfInBounds_toArray, List.set_cons_zero, List.set_cons_succ]; done) | (simp only [putAll, Act.put, List.setIfInBounds_toArray, List.set_cons_zero, List.set_cons_succ]; rfl)) (hJ2_4_6_7 (v220, v225, .slice Ao59 t227.length co59, .slice Ao60 y230.length co60) _ ⟨hHeld, (by (with_reducible repeat (first | apply Kd.R_alloc | apply Kd.R_drewN | apply Kd.R_drew)); exact Kd.R_mono HO217.out (fun _ hk => hk.2)), (by (with_reducible repeat (first | apply Kd.V_alloc | apply Kd.V_drewN | apply Kd.V_drew)); exact Kd.V_mono HO226.out (fun _ hk => ⟨hk.1.1, ⟨hk.2, hk.1.2⟩⟩)), (by (with_reducible repeat (first | apply Kd.V_alloc | apply Kd.V_drewN | apply Kd.V_drew)); exact Kd.V_mono HO229.out (fun _ hk => ⟨hk.1.1, ⟨hk.2, hk.1.2⟩⟩)), (by (with_reducible repeat (first | apply Kd.R_alloc | apply Kd.R_drewN | apply Kd.R_drew)); exact HO232.out), (by (with_reducible repeat (first | refine blk_drewN ?_ _ | refine blk_drew ?_ | refine blk_alloc ?_ _)); exact BK207.out), (by repeat (first | (with_reducible first | exact HB.out | apply below_alloc | apply pw_below_drewN | apply below_drew1 | refine below_set ?_ GE207.out) | exact HB.out))⟩)
                                  · skip
                                    refine box_step ?hg (N := 9) ?hd (cs := #[.int .i64 0, .int .i64 0, .slice none 0 0]) (t := 43) ?hr ?_; (case hd => rfl); (case hg => rfl); (case hr => first | (go_simp; done) | (go_simp; rfl))
                                    intro gb233 hg w58 hbox hb
                                    have n0_ := Aside0.mk (Kd.R_below (by (with_reducible repeat (first | apply Kd.R_alloc | apply Kd.R_drewN | apply Kd.R_drew)); exact HO217.out) hb)
                                    have n1_ := Aside0.mk (Kd.R_below (by (with_reducible repeat (first | apply Kd.R_alloc | apply Kd.R_drewN | apply Kd.R_drew)); exact HO221.out) hb)
                                    have n2_ := Aside0.mk (Kd.V_below (Kd.V_elderB (by (with_reducible repeat (first | apply Kd.V_alloc | apply Kd.V_drewN | apply Kd.V_drew)); exact HO226.out) gb233 (Nat.le_of_eq hg.symm)) hb)
                                    have n3_ := Aside0.mk (Kd.V_below (Kd.V_elderB (by (with_reducible repeat (first | apply Kd.V_alloc | apply Kd.V_drewN | apply Kd.V_drew)); exact HO229.out) gb233 (Nat.le_of_eq hg.symm)) hb)
                                    have n4_ := Aside0.mk (blk_below (g := gb207) (o := .cells #[.int .i64 a0_0, .int .i64 a0_1, .slice A0_2 l0_2.length c0_2] 43 (0, 0)) (by (with_reducible repeat (first | refine blk_drewN ?_ _ | refine blk_drew ?_ | refine blk_alloc ?_ _)); exact BK207.out) hb)
                                    have n5_ := Aside0.mk (below_step (by repeat (first | (with_reducible first | exact HB.out | apply below_alloc | apply pw_below_drewN | apply below_drew1 | refine below_set ?_ GE207.out) | exact HB.out)) hb)
                                    have n6_ := Aside0.mk (hbox)
                                    have n7_ := Aside0.mk ((by rw [hg]; exact (below_size (by repeat (first | (with_reducible first | exact HB.out | apply below_alloc | apply pw_below_drewN | apply below_drew1 | refine below_set ?_ GE207.out) | exact HB.out))) : w.heap.size ≤ gb233))
                                    have n8_ := Aside0.mk ((by rw [hg]; exact (below_size (by repeat (first | (with_reducible first | exact HB.out | apply below_alloc | apply pw_below_drewN | apply below_drew1 | refine below_set ?_ GE207.out) | exact HB.out))) : w.heap.size ≤ gb233))
                                    have n9_ := Aside0.mk ((by rw [hg]; exact Nat.ne_of_lt (blk_lt (g := gb207) (o := .cells #[.int .i64 a0_0, .int .i64 a0_1, .slice A0_2 l0_2.length c0_2] 43 (0, 0)) (by (with_reducible repeat (first | refine blk_drewN ?_ _ | refine blk_drew ?_ | refine blk_alloc ?_ _)); exact BK207.out)) : gb207 ≠ gb233))
                                    have n10_ := Aside0.mk ((by rw [hg]; exact Nat.ne_of_gt (blk_lt (g := gb207) (o := .cells #[.int .i64 a0_0, .int .i64 a0_1, .slice A0_2 l0_2.length c0_2] 43 (0, 0)) (by (with_reducible repeat (first | refine blk_drewN ?_ _ | refine blk_drew ?_ | refine blk_alloc ?_ _)); exact BK207.out)) : gb233 ≠ gb207))
                                    clear HO217
                                    clear HO221
                                    clear HO226
                                    clear HO229
                                    clear BK207
                                    clear HB
                                    have HO217 := n0_
                                    have HO221 := n1_
                                    have HO226 := n2_
                                    have HO229 := n3_
                                    have BK207 := n4_
                                    have HB := n5_
                                    have BK233 := n6_
                                    have GW233 := n7_
                                    have GE233 := n8_
                                    have NB207_233 := n9_
                                    have NB233_207 := n10_
                                    clear n0_ n1_ n2_ n3_ n4_ n5_ n6_ n7_ n8_ n9_ n10_
                                    clear hb hbox hg
                                    refine hK.out _ _ ⟨(blk_cell BK207.out 0).trans rfl, (blk_cell BK207.out 1).trans rfl, (blk_cell BK207.out 2).trans rfl⟩ (fun hHeld => ?_)
                                    clear hK K
                                    refine norm_ (a' := ?_) ?_ ?_
                                    rotate_left
                                    · show Act.put _ (some 9) _ = _
                                      simp only [Act.put, List.setIfInBounds_toArray, List.set_cons_zero, List.set_cons_succ, i64_w, i32_w]
                                      rfl
                                    exact norm_ (by first | (simp only [putAll, Act.put, List.setIfInBounds_toArray, List.set_cons_zero, List.set_cons_succ]; done) | (simp only [putAll, Act.put, List.setIfInBounds_toArray, List.set_cons_zero, List.set_cons_succ]; rfl)) (hJ2_4_6_9 (v220, v225, .slice Ao59 t227.length co59, gb233) _ ⟨hHeld, (by (with_reducible repeat (first | apply Kd.R_alloc | apply Kd.R_drewN | apply Kd.R_drew)); exact HO217.out), (by (with_reducible repeat (first | apply Kd.R_alloc | apply Kd.R_drewN | apply Kd.R_drew)); exact HO221.out), (by (with_reducible repeat (first | apply Kd.V_alloc | apply Kd.V_drewN | apply Kd.V_drew)); exact Kd.V_mono HO226.out (fun _ hk => ⟨hk.1.1, ⟨hk.1.2.1, ⟨hk.1.2.2, hk.2⟩⟩⟩)), (by (with_reducible repeat (first | apply Kd.V_alloc | apply Kd.V_drewN | apply Kd.V_drew)); exact Kd.V_mono HO229.out (fun _ hk => ⟨hk.1.1, ⟨hk.1.2.1, ⟨hk.1.2.2, hk.2⟩⟩⟩)), (by (with_reducible repeat (first | refine blk_drewN ?_ _ | refine blk_drew ?_ | refine blk_alloc ?_ _)); exact BK207.out), (by (with_reducible repeat (first | refine blk_drewN ?_ _ | refine blk_drew ?_ | refine blk_alloc ?_ _)); exact BK233.out), GW233.out, GE233.out, NB207_233.out, NB233_207.out, (by repeat (first | (with_reducible first | exact HB.out | apply below_alloc | apply pw_below_drewN | apply below_drew1 | refine below_set ?_ GE207.out | refine below_set ?_ GE233.out) | exact HB.out))⟩)
                              · skip
                                rintro ⟨v220, v225, v228, gb233⟩ w58 ⟨hS_, h0_, h1_, h2_, h3_, h4_, h5_, h6_, h7_, h8_, h9_, h10_⟩
                                have n0_ : Aside0 (Kd.R (Kd.int .i32) 21 w58 w.heap.size (fun k_ => some k_ ≠ (v220 : Value).ownBlock) v216 t215) := ⟨h0_⟩
                                have n1_ : Aside0 (Kd.R (Kd.int .i32) 21 w58 w.heap.size (fun k_ => some k_ ≠ (v216 : Value).ownBlock) v220 y219) := ⟨h1_⟩
                                have n2_ : Aside0 (Kd.V (Kd.int .i32) 21 w58 w.heap.size (fun k_ => some k_ ≠ (v216 : Value).ownBlock ∧ some k_ ≠ (v220 : Value).ownBlock ∧ k_ ≠ gb207 ∧ k_ ≠ gb233) v225 t224) := ⟨h2_⟩
                                have n3_ : Aside0 (Kd.V (Kd.int .i32) 21 w58 w.heap.size (fun k_ => some k_ ≠ (v216 : Value).ownBlock ∧ some k_ ≠ (v220 : Value).ownBlock ∧ k_ ≠ gb207 ∧ k_ ≠ gb233) v228 t227) := ⟨h3_⟩
                                have n4_ : Aside0 (w58.heap[gb207]? = some (.cells #[.int .i64 a0_0, .int .i64 a0_1, .slice A0_2 l0_2.length c0_2] 43 (0, 0))) := ⟨h4_⟩
                                have n5_ : Aside0 (w58.heap[gb233]? = some (.cells #[.int .i64 0, .int .i64 0, .slice none 0 0] 43 (0, 0))) := ⟨h5_⟩
                                have n6_ : Aside0 (w.heap.size ≤ gb233) := ⟨h6_⟩
                                have n7_ : Aside0 (w.heap.size ≤ gb233) := ⟨h7_⟩
                                have n8_ : Aside0 (gb207 ≠ gb233) := ⟨h8_⟩
                                have n9_ : Aside0 (gb233 ≠ gb207) := ⟨h9_⟩
                                have n10_ : Aside0 (Below w.heap.size w w58) := ⟨h10_⟩
                                clear HO217
                                clear BK207
                                clear HB
                                clear h0_ h1_ h2_ h3_ h4_ h5_ h6_ h7_ h8_ h9_ h10_
                                have HO217 := n0_
                                have HO221 := n1_
                                have HO226 := n2_
                                have HO229 := n3_
                                have BK207 := n4_
                                have BK233 := n5_
                                have GW233 := n6_
                                have GE233 := n7_
                                have NB207_233 := n8_
                                have NB233_207 := n9_
                                have HB := n10_
                                clear n0_ n1_ n2_ n3_ n4_ n5_ n6_ n7_ n8_ n9_ n10_
                                have hHeld : w58.cell? ⟨gb207, 0, none⟩ = some (.int .i64 a0_0) ∧ w58.cell? ⟨gb207, 1, none⟩ = some (.int .i64 a0_1) ∧ w58.cell? ⟨gb207, 2, none⟩ = some (.slice A0_2 l0_2.length c0_2) := hS_
                                obtain ⟨Ao60, co60, eo60⟩ := Kd.V_slice HO229.out
                                (first | subst eo60 | (injection eo60 with f1_ f2_ f3_; have f4_ := f1_.symm; have f5_ := f3_.symm; clear f1_ f2_ f3_; subst f4_; subst f5_))
                                refine norm_ (a' := ?_) ?_ ?_
                                rotate_left
                                · simp only [putAll, Act.put, List.setIfInBounds_toArray, List.set_cons_zero, List.set_cons_succ]
                                  rfl
                                refine one_ (i := 7) (N := some 53) #[true, true, true, true, true, true, true, true, false, true, false] rfl rfl (one_of HT_.out (by kernel_rfl)) (by decide) (fun K hK => ?_)
                                refine Kd.R_append_rows_step (Kd.int .i32) (w0 := w) w.heap.size (by rfl) (.tmp 48) (.tmp 52) 22 21 (.int .i32 0) 4 rfl Try.underlying22 info21 rfl (by decide) (by omega) v220 y219 t227 _ _ _ (fun k_ => some k_ ≠ (v216 : Value).ownBlock) (fun _ => False) rfl rfl ?aO ?aR (fun _ _ h => h) (fun _ h => h.elim) ?aF ?aB ?aS ?aL ?_
                                (case aR => repeat (first | exact (Kd.V_reads' HO229.out).2.2 | (with_reducible refine Kd.C_alloc ?_ _) | (with_reducible refine Kd.C_drewN ?_ _) | (with_reducible refine Kd.C_drew ?_)))
                                (case aB => exact (by repeat (first | (with_reducible first | exact HB.out | apply below_alloc | apply pw_below_drewN | apply below_drew1 | refine below_set ?_ GE207.out | refine below_set ?_ GE233.out) | exact HB.out)))
                                (case aF => exact (fun k_ hk => Kd.fresh' (Kd.R_lt (by (with_reducible repeat (first | apply Kd.R_alloc | apply Kd.R_drewN | apply Kd.R_drew)); exact HO217.out)) k_ hk))
                                (case aO => exact (by (with_reducible repeat (first | apply Kd.R_alloc | apply Kd.R_drewN | apply Kd.R_drew)); exact HO221.out))
                                (case aS => exact (below_size (by repeat (first | (with_reducible first | exact HB.out | apply below_alloc | apply pw_below_drewN | apply below_drew1 | refine below_set ?_ GE207.out | refine below_set ?_ GE233.out) | exact HB.out))))
                                (case aL => have := LMc38.out; omega)
                                intro v231 w59 ho hb hg hat
                                rw [← Ny230.out] at ho
                                have n0_ := Aside0.mk (blk_grown (g := gb207) (o := .cells #[.int .i64 a0_0, .int .i64 a0_1, .slice A0_2 l0_2.length c0_2] 43 (0, 0)) (by (with_reducible repeat (first | refine blk_drewN ?_ _ | refine blk_drew ?_ | refine blk_alloc ?_ _)); exact BK207.out) hg (Kd.R_ne HO221.out BK207.out (by decide)))
                                have n1_ := Aside0.mk (Kd.R_after (ok := (fun _ => True)) (by (with_reducible repeat (first | apply Kd.R_alloc | apply Kd.R_drewN | apply Kd.R_drew)); exact Kd.R_mono HO217.out (fun _ hk => ⟨trivial, hk⟩)) hg hat)
                                have n2_ := Aside0.mk (Kd.V_afterv (ok := (fun k_ => some k_ ≠ (v216 : Value).ownBlock ∧ k_ ≠ gb207 ∧ k_ ≠ gb233)) (by (with_reducible repeat (first | apply Kd.V_alloc | apply Kd.V_drewN | apply Kd.V_drew)); exact Kd.V_mono HO226.out (fun _ hk => ⟨⟨hk.1, ⟨hk.2.2.1, hk.2.2.2⟩⟩, hk.2.1⟩)) hg hat)
                                have n3_ := Aside0.mk (Kd.V_afterv (ok := (fun k_ => some k_ ≠ (v216 : Value).ownBlock ∧ k_ ≠ gb207 ∧ k_ ≠ gb233)) (by (with_reducible repeat (first | apply Kd.V_alloc | apply Kd.V_drewN | apply Kd.V_drew)); exact Kd.V_mono HO229.out (fun _ hk => ⟨⟨hk.1, ⟨hk.2.2.1, hk.2.2.2⟩⟩, hk.2.1⟩)) hg hat)
                                have n4_ := Aside0.mk (blk_grown (g := gb233) (o := .cells #[.int .i64 0, .int .i64 0, .slice none 0 0] 43 (0, 0)) (by (with_reducible repeat (first | refine blk_drewN ?_ _ | refine blk_drew ?_ | refine blk_alloc ?_ _)); exact BK233.out) hg (Kd.R_ne HO221.out BK233.out (by decide)))
                                have n5_ := Aside0.mk (hb)
                                have n6_ := Aside0.mk (ho)
                                clear BK207
                                clear HO217
                                clear HO226
                                clear HO229
                                clear BK233
                                clear HB
                                clear HO221
                                have BK207 := n0_
                                have HO217 := n1_
                                have HO226 := n2_
                                have HO229 := n3_
                                have BK233 := n4_
                                have HB := n5_
                                have HO232 := n6_
                                clear n0_ n1_ n2_ n3_ n4_ n5_ n6_
                                clear ho hb hg hat
                                obtain ⟨Ao61, co61, eo61⟩ := Kd.R_slice HO232.out
                                (first | subst eo61 | (injection eo61 with f1_ f2_ f3_; have f4_ := f1_.symm; have f5_ := f3_.symm; clear f1_ f2_ f3_; subst f4_; subst f5_))
                                refine hK.out _ _ ⟨(blk_cell BK207.out 0).trans rfl, (blk_cell BK207.out 1).trans rfl, (blk_cell BK207.out 2).trans rfl⟩ (fun hHeld => ?_)
                                clear hK K
                                refine norm_ (a' := ?_) ?_ ?_
                                rotate_left
                                · show Act.put _ (some 53) _ = _
                                  simp only [Act.put, List.setIfInBounds_toArray, List.set_cons_zero, List.set_cons_succ, i64_w, i32_w]
                                  rfl
                                refine pure_ (i := 8) (N := some 54) (v := ?_) (a' := ?_) #[true, true, true, true, true, true, true, true, true, true, false] rfl rfl (any_of HT_.out (by kernel_rfl)) (fun _ _ _ h => h) (Or.inl ⟨by rfl, ?_⟩) ?_ ?_
                                rotate_left
                                · intro w'
                                  go_simp
                                  with_reducible rfl
                                rotate_left
                                · simp only [Act.put, List.setIfInBounds_toArray, List.set_cons_zero, List.set_cons_succ, i64_w, i32_w]
                                  rfl
                                exact norm_ (by first | (simp only [putAll, Act.put, List.setIfInBounds_toArray, List.set_cons_zero, List.set_cons_succ]; done) | (simp only [putAll, Act.put, List.setIfInBounds_toArray, List.set_cons_zero, List.set_cons_succ]; rfl)) (hJ2_4_6_7_9 (v220, v225, .slice Ao60 t227.length co60, .slice Ao61 y230.length co61, gb233) _ ⟨hHeld, (by (with_reducible repeat (first | apply Kd.R_alloc | apply Kd.R_drewN | apply Kd.R_drew)); exact Kd.R_mono HO217.out (fun _ hk => hk.2)), (by (with_reducible repeat (first | apply Kd.V_alloc | apply Kd.V_drewN | apply Kd.V_drew)); exact Kd.V_mono HO226.out (fun _ hk => ⟨hk.1.1, ⟨hk.2, ⟨hk.1.2.1, hk.1.2.2⟩⟩⟩)), (by (with_reducible repeat (first | apply Kd.V_alloc | apply Kd.V_drewN | apply Kd.V_drew)); exact Kd.V_mono HO229.out (fun _ hk => ⟨hk.1.1, ⟨hk.2, ⟨hk.1.2.1, hk.1.2.2⟩⟩⟩)), (by (with_reducible repeat (first | apply Kd.R_alloc | apply Kd.R_drewN | apply Kd.R_drew)); exact HO232.out), (by (with_reducible repeat (first | refine blk_drewN ?_ _ | refine blk_drew ?_ | refine blk_alloc ?_ _)); exact BK207.out), (by (with_reducible repeat (first | refine blk_drewN ?_ _ | refine blk_drew ?_ | refine blk_alloc ?_ _)); exact BK233.out), GW233.out, GE233.out, NB207_233.out, NB233_207.out, (by repeat (first | (with_reducible first | exact HB.out | apply below_alloc | apply pw_below_drewN | apply below_drew1 | refine below_set ?_ GE207.out | refine below_set ?_ GE233.out) | exact HB.out))⟩)
                            · skip
                              rintro ⟨v220, v225, v228, v231⟩ w60 ⟨hS_, h0_, h1_, h2_, h3_, h4_, h5_⟩
                              have n0_ : Aside0 (Kd.R (Kd.int .i32) 21 w60 w.heap.size (fun k_ => some k_ ≠ (v231 : Value).ownBlock) v216 t215) := ⟨h0_⟩
                              have n1_ : Aside0 (Kd.V (Kd.int .i32) 21 w60 w.heap.size (fun k_ => some k_ ≠ (v216 : Value).ownBlock ∧ some k_ ≠ (v231 : Value).ownBlock ∧ k_ ≠ gb207) v225 t224) := ⟨h1_⟩
                              have n2_ : Aside0 (Kd.V (Kd.int .i32) 21 w60 w.heap.size (fun k_ => some k_ ≠ (v216 : Value).ownBlock ∧ some k_ ≠ (v231 : Value).ownBlock ∧ k_ ≠ gb207) v228 t227) := ⟨h2_⟩
                              have n3_ : Aside0 (Kd.R (Kd.int .i32) 21 w60 w.heap.size (fun k_ => some k_ ≠ (v216 : Value).ownBlock) v231 y230) := ⟨h3_⟩
                              have n4_ : Aside0 (w60.heap[gb207]? = some (.cells #[.int .i64 a0_0, .int .i64 a0_1, .slice A0_2 l0_2.length c0_2] 43 (0, 0))) := ⟨h4_⟩
                              have n5_ : Aside0 (Below w.heap.size w w60) := ⟨h5_⟩
                              clear HO217
                              clear BK207
                              clear HB
                              clear h0_ h1_ h2_ h3_ h4_ h5_
                              have HO217 := n0_
                              have HO226 := n1_
                              have HO229 := n2_
                              have HO232 := n3_
                              have BK207 := n4_
                              have HB := n5_
                              clear n0_ n1_ n2_ n3_ n4_ n5_
                              have hHeld : w60.cell? ⟨gb207, 0, none⟩ = some (.int .i64 a0_0) ∧ w60.cell? ⟨gb207, 1, none⟩ = some (.int .i64 a0_1) ∧ w60.cell? ⟨gb207, 2, none⟩ = some (.slice A0_2 l0_2.length c0_2) := hS_
                              obtain ⟨Ao61, co61, eo61⟩ := Kd.R_slice HO232.out
                              (first | subst eo61 | (injection eo61 with f1_ f2_ f3_; have f4_ := f1_.symm; have f5_ := f3_.symm; clear f1_ f2_ f3_; subst f4_; subst f5_))
                              refine norm_ (a' := ?_) ?_ ?_
                              rotate_left
                              · simp only [putAll, Act.put, List.setIfInBounds_toArray, List.set_cons_zero, List.set_cons_succ]
                                rfl
                              refine one_ (i := 9) (N := some 9) #[true, true, true, true, true, true, true, true, true, true, false] rfl rfl (one_of HT_.out (by kernel_rfl)) (by decide) (fun K hK => ?_)
                              refine box_step ?hg (N := 9) ?hd (cs := #[.int .i64 0, .int .i64 0, .slice none 0 0]) (t := 43) ?hr ?_; (case hd => rfl); (case hg => rfl); (case hr => first | (go_simp; done) | (go_simp; rfl))
                              intro gb233 hg w62 hbox hb
                              have n0_ := Aside0.mk (Kd.R_below (by (with_reducible repeat (first | apply Kd.R_alloc | apply Kd.R_drewN | apply Kd.R_drew)); exact HO217.out) hb)
                              have n1_ := Aside0.mk (Kd.V_below (Kd.V_elderB (by (with_reducible repeat (first | apply Kd.V_alloc | apply Kd.V_drewN | apply Kd.V_drew)); exact HO226.out) gb233 (Nat.le_of_eq hg.symm)) hb)
                              have n2_ := Aside0.mk (Kd.V_below (Kd.V_elderB (by (with_reducible repeat (first | apply Kd.V_alloc | apply Kd.V_drewN | apply Kd.V_drew)); exact HO229.out) gb233 (Nat.le_of_eq hg.symm)) hb)
                              have n3_ := Aside0.mk (Kd.R_below (by (with_reducible repeat (first | apply Kd.R_alloc | apply Kd.R_drewN | apply Kd.R_drew)); exact HO232.out) hb)
                              have n4_ := Aside0.mk (blk_below (g := gb207) (o := .cells #[.int .i64 a0_0, .int .i64 a0_1, .slice A0_2 l0_2.length c0_2] 43 (0, 0)) (by (with_reducible repeat (first | refine blk_drewN ?_ _ | refine blk_drew ?_ | refine blk_alloc ?_ _)); exact BK207.out) hb)
                              have n5_ := Aside0.mk (below_step (by repeat (first | (with_reducible first | exact HB.out | apply below_alloc | apply pw_below_drewN | apply below_drew1 | refine below_set ?_ GE207.out) | exact HB.out)) hb)
                              have n6_ := Aside0.mk (hbox)
                              have n7_ := Aside0.mk ((by rw [hg]; exact (below_size (by repeat (first | (with_reducible first | exact HB.out | apply below_alloc | apply pw_below_drewN | apply below_drew1 | refine below_set ?_ GE207.out) | exact HB.out))) : w.heap.size ≤ gb233))
                              have n8_ := Aside0.mk ((by rw [hg]; exact (below_size (by repeat (first | (with_reducible first | exact HB.out | apply below_alloc | apply pw_below_drewN | apply below_drew1 | refine below_set ?_ GE207.out) | exact HB.out))) : w.heap.size ≤ gb233))
                              have n9_ := Aside0.mk ((by rw [hg]; exact Nat.ne_of_lt (blk_lt (g := gb207) (o := .cells #[.int .i64 a0_0, .int .i64 a0_1, .slice A0_2 l0_2.length c0_2] 43 (0, 0)) (by (with_reducible repeat (first | refine blk_drewN ?_ _ | refine blk_drew ?_ | refine blk_alloc ?_ _)); exact BK207.out)) : gb207 ≠ gb233))
                              have n10_ := Aside0.mk ((by rw [hg]; exact Nat.ne_of_gt (blk_lt (g := gb207) (o := .cells #[.int .i64 a0_0, .int .i64 a0_1, .slice A0_2 l0_2.length c0_2] 43 (0, 0)) (by (with_reducible repeat (first | refine blk_drewN ?_ _ | refine blk_drew ?_ | refine blk_alloc ?_ _)); exact BK207.out)) : gb233 ≠ gb207))
                              clear HO217
                              clear HO226
                              clear HO229
                              clear HO232
                              clear BK207
                              clear HB
                              have HO217 := n0_
                              have HO226 := n1_
                              have HO229 := n2_
                              have HO232 := n3_
                              have BK207 := n4_
                              have HB := n5_
                              have BK233 := n6_
                              have GW233 := n7_
                              have GE233 := n8_
                              have NB207_233 := n9_
                              have NB233_207 := n10_
                              clear n0_ n1_ n2_ n3_ n4_ n5_ n6_ n7_ n8_ n9_ n10_
                              clear hb hbox hg
                              refine hK.out _ _ ⟨(blk_cell BK207.out 0).trans rfl, (blk_cell BK207.out 1).trans rfl, (blk_cell BK207.out 2).trans rfl⟩ (fun hHeld => ?_)
                              clear hK K
                              refine norm_ (a' := ?_) ?_ ?_
                              rotate_left
                              · show Act.put _ (some 9) _ = _
                                simp only [Act.put, List.setIfInBounds_toArray, List.set_cons_zero, List.set_cons_succ, i64_w, i32_w]
                                rfl
                              exact norm_ (by first | (simp only [putAll, Act.put, List.setIfInBounds_toArray, List.set_cons_zero, List.set_cons_succ]; done) | (simp only [putAll, Act.put, List.setIfInBounds_toArray, List.set_cons_zero, List.set_cons_succ]; rfl)) (hJ2_4_6_7_9 (v220, v225, v228, .slice Ao61 y230.length co61, gb233) _ ⟨hHeld, (by (with_reducible repeat (first | apply Kd.R_alloc | apply Kd.R_drewN | apply Kd.R_drew)); exact HO217.out), (by (with_reducible repeat (first | apply Kd.V_alloc | apply Kd.V_drewN | apply Kd.V_drew)); exact Kd.V_mono HO226.out (fun _ hk => ⟨hk.1.1, ⟨hk.1.2.1, ⟨hk.1.2.2, hk.2⟩⟩⟩)), (by (with_reducible repeat (first | apply Kd.V_alloc | apply Kd.V_drewN | apply Kd.V_drew)); exact Kd.V_mono HO229.out (fun _ hk => ⟨hk.1.1, ⟨hk.1.2.1, ⟨hk.1.2.2, hk.2⟩⟩⟩)), (by (with_reducible repeat (first | apply Kd.R_alloc | apply Kd.R_drewN | apply Kd.R_drew)); exact HO232.out), (by (with_reducible repeat (first | refine blk_drewN ?_ _ | refine blk_drew ?_ | refine blk_alloc ?_ _)); exact BK207.out), (by (with_reducible repeat (first | refine blk_drewN ?_ _ | refine blk_drew ?_ | refine blk_alloc ?_ _)); exact BK233.out), GW233.out, GE233.out, NB207_233.out, NB233_207.out, (by repeat (first | (with_reducible first | exact HB.out | apply below_alloc | apply pw_below_drewN | apply below_drew1 | refine below_set ?_ GE207.out | refine below_set ?_ GE233.out) | exact HB.out))⟩)
                          rintro ⟨v220, v225, v228, v231, gb233⟩ w61 ⟨hS_, h0_, h1_, h2_, h3_, h4_, h5_, h6_, h7_, h8_, h9_, h10_⟩
                          have n0_ : Aside0 (Kd.R (Kd.int .i32) 21 w61 w.heap.size (fun k_ => some k_ ≠ (v231 : Value).ownBlock) v216 t215) := ⟨h0_⟩
                          have n1_ : Aside0 (Kd.V (Kd.int .i32) 21 w61 w.heap.size (fun k_ => some k_ ≠ (v216 : Value).ownBlock ∧ some k_ ≠ (v231 : Value).ownBlock ∧ k_ ≠ gb207 ∧ k_ ≠ gb233) v225 t224) := ⟨h1_⟩
                          have n2_ : Aside0 (Kd.V (Kd.int .i32) 21 w61 w.heap.size (fun k_ => some k_ ≠ (v216 : Value).ownBlock ∧ some k_ ≠ (v231 : Value).ownBlock ∧ k_ ≠ gb207 ∧ k_ ≠ gb233) v228 t227) := ⟨h2_⟩
                          have n3_ : Aside0 (Kd.R (Kd.int .i32) 21 w61 w.heap.size (fun k_ => some k_ ≠ (v216 : Value).ownBlock) v231 y230) := ⟨h3_⟩
                          have n4_ : Aside0 (w61.heap[gb207]? = some (.cells #[.int .i64 a0_0, .int .i64 a0_1, .slice A0_2 l0_2.length c0_2] 43 (0, 0))) := ⟨h4_⟩
                          have n5_ : Aside0 (w61.heap[gb233]? = some (.cells #[.int .i64 0, .int .i64 0, .slice none 0 0] 43 (0, 0))) := ⟨h5_⟩
                          have n6_ : Aside0 (w.heap.size ≤ gb233) := ⟨h6_⟩
                          have n7_ : Aside0 (w.heap.size ≤ gb233) := ⟨h7_⟩
                          have n8_ : Aside0 (gb207 ≠ gb233) := ⟨h8_⟩
                          have n9_ : Aside0 (gb233 ≠ gb207) := ⟨h9_⟩
                          have n10_ : Aside0 (Below w.heap.size w w61) := ⟨h10_⟩
                          clear HO217
                          clear BK207
                          clear HB
                          clear h0_ h1_ h2_ h3_ h4_ h5_ h6_ h7_ h8_ h9_ h10_
                          have HO217 := n0_
                          have HO226 := n1_
                          have HO229 := n2_
                          have HO232 := n3_
                          have BK207 := n4_
                          have BK233 := n5_
                          have GW233 := n6_
                          have GE233 := n7_
                          have NB207_233 := n8_
                          have NB233_207 := n9_
                          have HB := n10_
                          clear n0_ n1_ n2_ n3_ n4_ n5_ n6_ n7_ n8_ n9_ n10_
                          have hHeld : w61.cell? ⟨gb207, 0, none⟩ = some (.int .i64 a0_0) ∧ w61.cell? ⟨gb207, 1, none⟩ = some (.int .i64 a0_1) ∧ w61.cell? ⟨gb207, 2, none⟩ = some (.slice A0_2 l0_2.length c0_2) := hS_
                          obtain ⟨Ao62, co62, eo62⟩ := Kd.R_slice HO232.out
                          (first | subst eo62 | (injection eo62 with f1_ f2_ f3_; have f4_ := f1_.symm; have f5_ := f3_.symm; clear f1_ f2_ f3_; subst f4_; subst f5_))
                          refine norm_ (a' := ?_) ?_ ?_
                          rotate_left
                          · simp only [putAll, Act.put, List.setIfInBounds_toArray, List.set_cons_zero, List.set_cons_succ]
                            rfl
                          refine one_ (i := 10) (N := none) #[true, true, true, true, true, true, true, true, true, true, true] rfl rfl (one_of HT_.out (by kernel_rfl)) (by decide) (fun K hK => ?_)
                          have hs63 : w61.cell? ⟨gb233, 0, none⟩ = some (.int .i64 0) := (blk_cell BK233.out 0).trans rfl
                          have hfs63 := blk_frozen BK233.out 0
                          have hns63_0 := NB207_233.out
                          have hms63_0 := NB233_207.out
                          have hs64 : w61.cell? ⟨gb233, 1, none⟩ = some (.int .i64 0) := (blk_cell BK233.out 1).trans rfl
                          have hfs64 := blk_frozen BK233.out 1
                          have hns64_0 := NB207_233.out
                          have hms64_0 := NB233_207.out
                          have hs65 : w61.cell? ⟨gb233, 2, none⟩ = some (.slice none 0 0) := (blk_cell BK233.out 2).trans rfl
                          have hfs65 := blk_frozen BK233.out 2
                          have hns65_0 := NB207_233.out
                          have hms65_0 := NB233_207.out
                          refine skip_ (w1 := ?_) (by rfl) rfl ?_ ?_
                          rotate_left
                          · go_simp
                            rfl
                          refine hK.out _ _ ⟨((cell_far (p := ⟨gb233, _, none⟩) NB207_233.out _).trans (((cell_far (p := ⟨gb233, _, none⟩) NB207_233.out _).trans (((cell_far (p := ⟨gb233, _, none⟩) NB207_233.out _).trans (hHeld.1)))))), ((cell_far (p := ⟨gb233, _, none⟩) NB207_233.out _).trans (((cell_far (p := ⟨gb233, _, none⟩) NB207_233.out _).trans (((cell_far (p := ⟨gb233, _, none⟩) NB207_233.out _).trans (hHeld.2.1)))))), ((cell_far (p := ⟨gb233, _, none⟩) NB207_233.out _).trans (((cell_far (p := ⟨gb233, _, none⟩) NB207_233.out _).trans (((cell_far (p := ⟨gb233, _, none⟩) NB207_233.out _).trans (hHeld.2.2))))))⟩ (fun hHeld => ?_)
                          clear hK K
                          refine done_ (done_of HT_.out (by kernel_rfl)) ?_
                          have hnb66 := NB233_207.out
                          have hnc66 := NB207_233.out
                          have hcz67_0 : w61.cell? ⟨gb233, 0, none⟩ = some (.int .i64 0) := (blk_cell BK233.out 0).trans rfl
                          have hcz67_1 : w61.cell? ⟨gb233, 1, none⟩ = some (.int .i64 0) := (blk_cell BK233.out 1).trans rfl
                          have hcz67_2 : w61.cell? ⟨gb233, 2, none⟩ = some (.slice none 0 0) := (blk_cell BK233.out 2).trans rfl
                          have hfz67_0 := blk_frozen BK233.out 0
                          have hfz67_1 := blk_frozen BK233.out 1
                          have hfz67_2 := blk_frozen BK233.out 2
                          try go_wp2_with (first | ((with_reducible refine gate_callee (f := 31) rfl ?_); refine goesL_ (some 58) rfl rfl Try.func31 (by kernel_rfl) rfl #[.agg #[.int .i64 1, .int .i64 a0_1, .slice Ao62 y230.length co62], .slice A1 l1.length c1] rfl (by (try simp only [List.map_toArray, List.map_cons, List.map_nil]); first | done | rfl | (simp only [List.length_drop, List.length_take]; rfl)) ?_; (with_reducible refine (mat_Mat_Times.calls kj3 1 a0_1 _ _ y230 _ _ l1 t234 t237 _ ?side1 ?side2 ?side3 ?side4 A39.out).mono ?_); (case side1 => refine (Kd.R_reads' (e := 21) (base := w.heap.size) (ok := fun k_ => some k_ ≠ (v216 : Value).ownBlock) (n := y230.length) (c := co62) ?_).2.2; exact (by (with_reducible repeat (first | apply Kd.R_alloc | apply Kd.R_drewN | apply Kd.R_drew)); exact (Kd.R_mono (Kd.R_far (p := ⟨gb233, 2, none⟩) (Kd.R_far (p := ⟨gb233, 1, none⟩) (Kd.R_far (p := ⟨gb233, 0, none⟩) (Kd.R_types HO232.out BK233.out (by decide)) (fun _ hk => hk.2) (.int .i64 1)) (fun _ hk => hk.2) (.int .i64 a0_1)) (fun _ hk => hk.2) (.slice Ao62 y230.length co62)) (fun _ h_ => h_.1)))); (case side2 => exact (Kd.R_reads' HO232.out).2.1); (case side3 => exact Kd.C_below HR1.out (by repeat (first | (with_reducible first | exact HB.out | apply below_alloc | apply pw_below_drewN | apply below_drew1 | refine below_set ?_ GE207.out | refine below_set ?_ GE233.out) | exact HB.out))); (case side4 => exact HC1.out); rintro e w68 ⟨v235, rfl, ho0, hb⟩; refine ⟨_, rfl, ?_⟩; have n0_ := Aside0.mk (Kd.R_elder' (by (with_reducible repeat (first | apply Kd.R_alloc | apply Kd.R_drewN | apply Kd.R_drew)); exact (Kd.R_mono (Kd.R_far (p := ⟨gb233, 2, none⟩) (Kd.R_far (p := ⟨gb233, 1, none⟩) (Kd.R_far (p := ⟨gb233, 0, none⟩) (Kd.R_types HO217.out BK233.out (by decide)) (fun _ hk => hk.2) (.int .i64 1)) (fun _ hk => hk.2) (.int .i64 a0_1)) (fun _ hk => hk.2) (.slice Ao62 y230.length co62)) (fun _ h_ => h_.1))) (Kd.R_base ho0) hb); have n1_ := Aside0.mk (Kd.V_elder' (by (with_reducible repeat (first | apply Kd.V_alloc | apply Kd.V_drewN | apply Kd.V_drew)); exact (Kd.V_mono (Kd.V_far (p := ⟨gb233, 2, none⟩) (Kd.V_far (p := ⟨gb233, 1, none⟩) (Kd.V_far (p := ⟨gb233, 0, none⟩) (Kd.V_mono HO226.out (fun k_ hk => (⟨hk, hk.2.2.2⟩ : _ ∧ k_ ≠ gb233))) (fun _ hk => hk.2) (.int .i64 1)) (fun _ hk => hk.2) (.int .i64 a0_1)) (fun _ hk => hk.2) (.slice Ao62 y230.length co62)) (fun _ h_ => h_.1))) (Kd.R_base ho0) hb); have n2_ := Aside0.mk (Kd.V_elder' (by (with_reducible repeat (first | apply Kd.V_alloc | apply Kd.V_drewN | apply Kd.V_drew)); exact (Kd.V_mono (Kd.V_far (p := ⟨gb233, 2, none⟩) (Kd.V_far (p := ⟨gb233, 1, none⟩) (Kd.V_far (p := ⟨gb233, 0, none⟩) (Kd.V_mono HO229.out (fun k_ hk => (⟨hk, hk.2.2.2⟩ : _ ∧ k_ ≠ gb233))) (fun _ hk => hk.2) (.int .i64 1)) (fun _ hk => hk.2) (.int .i64 a0_1)) (fun _ hk => hk.2) (.slice Ao62 y230.length co62)) (fun _ h_ => h_.1))) (Kd.R_base ho0) hb); have n3_ := Aside0.mk (Kd.R_elder' (by (with_reducible repeat (first | apply Kd.R_alloc | apply Kd.R_drewN | apply Kd.R_drew)); exact (Kd.R_mono (Kd.R_far (p := ⟨gb233, 2, none⟩) (Kd.R_far (p := ⟨gb233, 1, none⟩) (Kd.R_far (p := ⟨gb233, 0, none⟩) (Kd.R_types HO232.out BK233.out (by decide)) (fun _ hk => hk.2) (.int .i64 1)) (fun _ hk => hk.2) (.int .i64 a0_1)) (fun _ hk => hk.2) (.slice Ao62 y230.length co62)) (fun _ h_ => h_.1))) (Kd.R_base ho0) hb); have n4_ := Aside0.mk (Kd.R_lower (Kd.R_new' (Kd.R_new' ho0 (Kd.R_lt (by (with_reducible repeat (first | apply Kd.R_alloc | apply Kd.R_drewN | apply Kd.R_drew)); exact (Kd.R_mono (Kd.R_far (p := ⟨gb233, 2, none⟩) (Kd.R_far (p := ⟨gb233, 1, none⟩) (Kd.R_far (p := ⟨gb233, 0, none⟩) (Kd.R_types HO217.out BK233.out (by decide)) (fun _ hk => hk.2) (.int .i64 1)) (fun _ hk => hk.2) (.int .i64 a0_1)) (fun _ hk => hk.2) (.slice Ao62 y230.length co62)) (fun _ h_ => h_.1))))) (Kd.R_lt (by (with_reducible repeat (first | apply Kd.R_alloc | apply Kd.R_drewN | apply Kd.R_drew)); exact (Kd.R_mono (Kd.R_far (p := ⟨gb233, 2, none⟩) (Kd.R_far (p := ⟨gb233, 1, none⟩) (Kd.R_far (p := ⟨gb233, 0, none⟩) (Kd.R_types HO232.out BK233.out (by decide)) (fun _ hk => hk.2) (.int .i64 1)) (fun _ hk => hk.2) (.int .i64 a0_1)) (fun _ hk => hk.2) (.slice Ao62 y230.length co62)) (fun _ h_ => h_.1))))) (below_size (by repeat (first | (with_reducible first | exact HB.out | apply below_alloc | apply pw_below_drewN | apply below_drew1 | refine below_set ?_ GE207.out | refine below_set ?_ GE233.out) | exact HB.out)))); have n5_ := Aside0.mk (blk_below (g := gb207) (o := .cells #[.int .i64 a0_0, .int .i64 a0_1, .slice A0_2 l0_2.length c0_2] 43 (0, 0)) (by (with_reducible repeat (first | refine blk_drewN ?_ _ | refine blk_drew ?_ | refine blk_alloc ?_ _)); refine blk_far ?_ NB207_233.out _; (with_reducible repeat (first | refine blk_drewN ?_ _ | refine blk_drew ?_ | refine blk_alloc ?_ _)); refine blk_far ?_ NB207_233.out _; (with_reducible repeat (first | refine blk_drewN ?_ _ | refine blk_drew ?_ | refine blk_alloc ?_ _)); refine blk_far ?_ NB207_233.out _; (with_reducible repeat (first | refine blk_drewN ?_ _ | refine blk_drew ?_ | refine blk_alloc ?_ _)); exact BK207.out) hb); have n6_ := Aside0.mk (blk_below (g := gb233) (o := .cells #[.int .i64 1, .int .i64 a0_1, .slice Ao62 y230.length co62] 43 (0, 0)) (by (with_reducible repeat (first | refine blk_drewN ?_ _ | refine blk_drew ?_ | refine blk_alloc ?_ _)); refine blk_put (cs := #[.int .i64 1, .int .i64 a0_1, .slice none 0 0]) ?_ 2 _ rfl; (with_reducible repeat (first | refine blk_drewN ?_ _ | refine blk_drew ?_ | refine blk_alloc ?_ _)); refine blk_put (cs := #[.int .i64 1, .int .i64 0, .slice none 0 0]) ?_ 1 _ rfl; (with_reducible repeat (first | refine blk_drewN ?_ _ | refine blk_drew ?_ | refine blk_alloc ?_ _)); refine blk_put (cs := #[.int .i64 0, .int .i64 0, .slice none 0 0]) ?_ 0 _ rfl; (with_reducible repeat (first | refine blk_drewN ?_ _ | refine blk_drew ?_ | refine blk_alloc ?_ _)); exact BK233.out) hb); have n7_ := Aside0.mk (below_step (by repeat (first | (with_reducible first | exact HB.out | apply below_alloc | apply pw_below_drewN | apply below_drew1 | refine below_set ?_ GE207.out | refine below_set ?_ GE233.out) | exact HB.out)) hb); clear HO217; clear HO226; clear HO229; clear HO232; clear BK207; clear BK233; clear HB; have HO217 := n0_; have HO226 := n1_; have HO229 := n2_; have HO232 := n3_; have HO236 := n4_; have BK207 := n5_; have BK233 := n6_; have HB := n7_; clear n0_ n1_ n2_ n3_ n4_ n5_ n6_ n7_; (try clear hb); (try clear hb2); (try clear hk); (try clear hi); (try clear ho0)))
                          have n0_ := Aside0.mk (Kd.R_drew HO217.out)
                          have n1_ := Aside0.mk (Kd.V_drew HO226.out)
                          have n2_ := Aside0.mk (Kd.V_drew HO229.out)
                          have n3_ := Aside0.mk (Kd.R_drew HO232.out)
                          have n4_ := Aside0.mk (Kd.R_drew HO236.out)
                          have n5_ := Aside0.mk (blk_drew BK207.out)
                          have n6_ := Aside0.mk (blk_drew BK233.out)
                          have n7_ := Aside0.mk (below_drew1 HB.out)
                          clear HO217
                          clear HO226
                          clear HO229
                          clear HO232
                          clear HO236
                          clear BK207
                          clear BK233
                          clear HB
                          have HO217 := n0_
                          have HO226 := n1_
                          have HO229 := n2_
                          have HO232 := n3_
                          have HO236 := n4_
                          have BK207 := n5_
                          have BK233 := n6_
                          have HB := n7_
                          clear n0_ n1_ n2_ n3_ n4_ n5_ n6_ n7_
                          obtain ⟨Ao70, co70, eo70⟩ := Kd.R_slice HO236.out
                          (first | subst eo70 | (injection eo70 with f1_ f2_ f3_; have f4_ := f1_.symm; have f5_ := f3_.symm; clear f1_ f2_ f3_; subst f4_; subst f5_))
                          obtain ⟨Ao71, co71, eo71⟩ := Kd.R_slice HO217.out
                          (first | subst eo71 | (injection eo71 with f1_ f2_ f3_; have f4_ := f1_.symm; have f5_ := f3_.symm; clear f1_ f2_ f3_; subst f4_; subst f5_))
                          have p238 : 0 ≤ (a2 : Int) := of_decide_eq_true (by first | (with_reducible assumption) | assumption)
                          have q238 : a2 < (t215.length : Int) := of_decide_eq_true (by first | (with_reducible assumption) | assumption)
                          obtain ⟨ad238, e238, hx238_0⟩ := Kd.at_int (Kd.R_reads' HO217.out).2.2 a2 p238 q238
                          cases e238
                          replace p238 := eq_true p238
                          replace q238 := eq_true q238
                          have p239 : 0 ≤ (0 : Int) := (by omega)
                          have q239 : 0 < (t234.length : Int) := of_decide_eq_true (by first | (with_reducible assumption) | assumption)
                          obtain ⟨ad239, e239, hx239_0⟩ := Kd.at_int (Kd.R_reads' HO236.out).2.2 0 p239 q239
                          cases e239
                          have qi239 : (0 < t234.length) = True := eq_true (by omega)
                          (try rw [show ((0 : Int)).toNat = 0 from rfl] at hx239_0)
                          (try rw [Addr.add_zero'] at hx239_0)
                          replace p239 := eq_true p239
                          replace q239 := eq_true q239
                          refine start_ (n := 32) (S := fun w' => w'.cell? ⟨gb207, 0, none⟩ = some (.int .i64 a0_0) ∧ w'.cell? ⟨gb207, 1, none⟩ = some (.int .i64 a0_1) ∧ w'.cell? ⟨gb207, 2, none⟩ = some (.slice A0_2 l0_2.length c0_2) ∧ w'.cell? (ad238.add (a2).toNat) = some (.int .i32 (rd t215 a2)) ∧ w'.cell? ad239 = some (.int .i32 (rd t234 0))) (ds := []) #[false, false, false, false, false, false, false, false, false, false, false, false, false, false, false, false, false, false, false, false, false, false, false, false, false, false, false, false, false, false, false, false] (by kernel_rfl) rfl rfl ⟨(blk_cell BK207.out 0).trans rfl, (blk_cell BK207.out 1).trans rfl, (blk_cell BK207.out 2).trans rfl, hx238_0, hx239_0⟩ (fun hHeld => ?_); refine with_tabW credenzalaw17_MatParts.tab6 credenzalaw17_MatParts.bits6 (fun HT_ HW_ => ?_)
                          generalize w68.drew = w69 at HO217 HO226 HO229 HO232 HO236 BK207 BK233 HB hx238_0 hx239_0 hHeld ⊢
                          refine pure_ (i := 0) (N := some 61) (v := ?_) (a' := ?_) #[true, false, false, false, false, false, false, false, false, false, false, false, false, false, false, false, false, false, false, false, false, false, false, false, false, false, false, false, false, false, false, false] rfl rfl (any_of HT_.out (by kernel_rfl)) (fun _ _ _ h => h) (Or.inl ⟨by rfl, ?_⟩) ?_ ?_
                          rotate_left
                          · intro w'
                            go_simp
                            with_reducible rfl
                          rotate_left
                          · simp only [Act.put, List.setIfInBounds_toArray, List.set_cons_zero, List.set_cons_succ, i64_w, i32_w]
                            rfl
                          refine pure_ (i := 1) (N := some 62) (v := ?_) (a' := ?_) #[true, true, false, false, false, false, false, false, false, false, false, false, false, false, false, false, false, false, false, false, false, false, false, false, false, false, false, false, false, false, false, false] rfl rfl (any_of HT_.out (by kernel_rfl)) (fun _ _ _ h => h) (Or.inl ⟨by rfl, ?_⟩) ?_ ?_
                          rotate_left
                          · intro w'
                            go_simp
                            with_reducible rfl
                          rotate_left
                          · simp only [Act.put, List.setIfInBounds_toArray, List.set_cons_zero, List.set_cons_succ, i64_w, i32_w]
                            rfl
                          refine pure_ (i := 2) (N := some 63) (v := ?_) (a' := ?_) #[true, true, true, false, false, false, false, false, false, false, false, false, false, false, false, false, false, false, false, false, false, false, false, false, false, false, false, false, false, false, false, false] rfl rfl (any_of HT_.out (by kernel_rfl)) (fun _ _ _ h => h) (Or.inl ⟨by rfl, ?_⟩) ?_ ?_
                          rotate_left
                          · intro w'
                            go_simp
                            with_reducible rfl
                          rotate_left
                          · simp only [Act.put, List.setIfInBounds_toArray, List.set_cons_zero, List.set_cons_succ, i64_w, i32_w]
                            rfl
                          refine pure_ (i := 3) (N := some 64) (v := ?_) (a' := ?_) #[true, true, true, true, false, false, false, false, false, false, false, false, false, false, false, false, false, false, false, false, false, false, false, false, false, false, false, false, false, false, false, false] rfl rfl (any_of HT_.out (by kernel_rfl)) (fun _ _ _ h => h) (Or.inl ⟨by rfl, ?_⟩) ?_ ?_
                          rotate_left
                          · intro w'
                            go_simp
                            with_reducible rfl
                          rotate_left
                          · simp only [Act.put, List.setIfInBounds_toArray, List.set_cons_zero, List.set_cons_succ, i64_w, i32_w]
                            rfl
                          refine pure_ (i := 4) (N := some 65) (v := ?_) (a' := ?_) #[true, true, true, true, true, false, false, false, false, false, false, false, false, false, false, false, false, false, false, false, false, false, false, false, false, false, false, false, false, false, false, false] rfl rfl (any_of HT_.out (by kernel_rfl)) (fun _ _ _ h => h) (Or.inl ⟨by rfl, ?_⟩) ?_ ?_
                          rotate_left
                          · intro w'
                            go_simp
                            with_reducible rfl
                          rotate_left
                          · simp only [Act.put, List.setIfInBounds_toArray, List.set_cons_zero, List.set_cons_succ, i64_w, i32_w]
                            rfl
                          refine pure_ (i := 5) (N := some 66) (v := ?_) (a' := ?_) #[true, true, true, true, true, true, false, false, false, false, false, false, false, false, false, false, false, false, false, false, false, false, false, false, false, false, false, false, false, false, false, false] rfl rfl (any_of HT_.out (by kernel_rfl)) (fun _ _ _ h => h) (Or.inl ⟨by rfl, ?_⟩) ?_ ?_
                          rotate_left
                          · intro w'
                            go_simp
                            with_reducible rfl
                          rotate_left
                          · simp only [Act.put, List.setIfInBounds_toArray, List.set_cons_zero, List.set_cons_succ, i64_w, i32_w]
                            rfl
                          refine pure_ (i := 6) (N := some 67) (v := ?_) (a' := ?_) #[true, true, true, true, true, true, true, false, false, false, false, false, false, false, false, false, false, false, false, false, false, false, false, false, false, false, false, false, false, false, false, false] rfl rfl (any_of HT_.out (by kernel_rfl)) (fun _ _ _ h => h) (Or.inl ⟨by rfl, ?_⟩) ?_ ?_
                          rotate_left
                          · intro w'
                            go_simp
                            with_reducible rfl
                          rotate_left
                          · simp only [Act.put, List.setIfInBounds_toArray, List.set_cons_zero, List.set_cons_succ, i64_w, i32_w]
                            rfl
                          refine pure_ (i := 7) (N := some 68) (v := ?_) (a' := ?_) #[true, true, true, true, true, true, true, true, false, false, false, false, false, false, false, false, false, false, false, false, false, false, false, false, false, false, false, false, false, false, false, false] rfl rfl (any_of HT_.out (by kernel_rfl)) (fun _ _ _ h => h) (Or.inl ⟨by rfl, ?_⟩) ?_ ?_
                          rotate_left
                          · intro w'
                            go_simp
                            with_reducible rfl
                          rotate_left
                          · simp only [Act.put, List.setIfInBounds_toArray, List.set_cons_zero, List.set_cons_succ, i64_w, i32_w]
                            rfl
                          refine pure_ (i := 8) (N := some 69) (v := ?_) (a' := ?_) #[true, true, true, true, true, true, true, true, true, false, false, false, false, false, false, false, false, false, false, false, false, false, false, false, false, false, false, false, false, false, false, false] rfl rfl (any_of HT_.out (by kernel_rfl)) (fun _ _ _ h => h) (Or.inl ⟨by rfl, ?_⟩) ?_ ?_
                          rotate_left
                          · intro w'
                            go_simp
                            with_reducible rfl
                          rotate_left
                          · simp only [Act.put, List.setIfInBounds_toArray, List.set_cons_zero, List.set_cons_succ, i64_w, i32_w]
                            rfl
                          refine pure_ (i := 9) (N := some 70) (v := ?_) (a' := ?_) #[true, true, true, true, true, true, true, true, true, true, false, false, false, false, false, false, false, false, false, false, false, false, false, false, false, false, false, false, false, false, false, false] rfl rfl (any_of HT_.out (by kernel_rfl)) (fun _ _ _ h => h) (Or.inl ⟨by rfl, ?_⟩) ?_ ?_
                          rotate_left
                          · intro w'
                            go_simp
                            with_reducible rfl
                          rotate_left
                          · simp only [Act.put, List.setIfInBounds_toArray, List.set_cons_zero, List.set_cons_succ, i64_w, i32_w]
                            rfl
                          refine pure_ (i := 10) (N := some 71) (v := ?_) (a' := ?_) #[true, true, true, true, true, true, true, true, true, true, true, false, false, false, false, false, false, false, false, false, false, false, false, false, false, false, false, false, false, false, false, false] rfl rfl (any_of HT_.out (by kernel_rfl)) (fun _ _ _ h => h) (Or.inl ⟨by rfl, ?_⟩) ?_ ?_
                          rotate_left
                          · intro w'
                            go_simp
                            with_reducible rfl
                          rotate_left
                          · simp only [Act.put, List.setIfInBounds_toArray, List.set_cons_zero, List.set_cons_succ, i64_w, i32_w]
                            rfl
                          refine pure_ (i := 11) (N := some 72) (v := ?_) (a' := ?_) #[true, true, true, true, true, true, true, true, true, true, true, true, false, false, false, false, false, false, false, false, false, false, false, false, false, false, false, false, false, false, false, false] rfl rfl (any_of HT_.out (by kernel_rfl)) (fun _ _ _ h => h) (Or.inl ⟨by rfl, ?_⟩) ?_ ?_
                          rotate_left
                          · intro w'
                            go_simp
                            with_reducible rfl
                          rotate_left
                          · simp only [Act.put, List.setIfInBounds_toArray, List.set_cons_zero, List.set_cons_succ, i64_w, i32_w]
                            rfl
                          refine pure_ (i := 12) (N := some 73) (v := ?_) (a' := ?_) #[true, true, true, true, true, true, true, true, true, true, true, true, true, false, false, false, false, false, false, false, false, false, false, false, false, false, false, false, false, false, false, false] rfl rfl (any_of HT_.out (by kernel_rfl)) (fun _ _ _ h => h) (Or.inl ⟨by rfl, ?_⟩) ?_ ?_
                          rotate_left
                          · intro w'
                            go_simp
                            with_reducible rfl
                          rotate_left
                          · simp only [Act.put, List.setIfInBounds_toArray, List.set_cons_zero, List.set_cons_succ, i64_w, i32_w]
                            rfl
                          refine pure_ (i := 13) (N := some 74) (v := ?_) (a' := ?_) #[true, true, true, true, true, true, true, true, true, true, true, true, true, true, false, false, false, false, false, false, false, false, false, false, false, false, false, false, false, false, false, false] rfl rfl (any_of HT_.out (by kernel_rfl)) (fun _ _ _ h => h) (Or.inl ⟨by rfl, ?_⟩) ?_ ?_
                          rotate_left
                          · intro w'
                            go_simp
                            with_reducible rfl
                          rotate_left
                          · simp only [Act.put, List.setIfInBounds_toArray, List.set_cons_zero, List.set_cons_succ, i64_w, i32_w]
                            rfl
                          refine pure_ (i := 14) (N := some 75) (v := ?_) (a' := ?_) #[true, true, true, true, true, true, true, true, true, true, true, true, true, true, true, false, false, false, false, false, false, false, false, false, false, false, false, false, false, false, false, false] rfl rfl (any_of HT_.out (by kernel_rfl)) (fun _ _ _ h => h) (Or.inl ⟨by rfl, ?_⟩) ?_ ?_
                          rotate_left
                          · intro w'
                            go_simp
                            with_reducible rfl
                          rotate_left
                          · simp only [Act.put, List.setIfInBounds_toArray, List.set_cons_zero, List.set_cons_succ, i64_w, i32_w]
                            rfl
                          refine take_ (i := 15) (N := some 76) (v := ?_) (a' := ?_) #[true, true, true, true, true, true, true, true, true, true, true, true, true, true, true, true, false, false, false, false, false, false, false, false, false, false, false, false, false, false, false, false] rfl rfl (take_ofW HT_.out HW_.out (by kernel_rfl)) (fun _ _ _ h => h) (Or.inl ⟨by rfl, ?_⟩) hHeld ?_ ?_
                          rotate_left
                          · rintro w' ⟨s0, s1, s2, s3, s4⟩
                            go_simp
                            with_reducible rfl
                          rotate_left
                          · simp only [Act.put, List.setIfInBounds_toArray, List.set_cons_zero, List.set_cons_succ, i64_w, i32_w]
                            rfl
                          refine pure_ (i := 16) (N := some 77) (v := ?_) (a' := ?_) #[true, true, true, true, true, true, true, true, true, true, true, true, true, true, true, true, true, false, false, false, false, false, false, false, false, false, false, false, false, false, false, false] rfl rfl (any_of HT_.out (by kernel_rfl)) (fun _ _ _ h => h) (Or.inl ⟨by rfl, ?_⟩) ?_ ?_
                          rotate_left
                          · intro w'
                            go_simp
                            with_reducible rfl
                          rotate_left
                          · simp only [Act.put, List.setIfInBounds_toArray, List.set_cons_zero, List.set_cons_succ, i64_w, i32_w]
                            rfl
                          refine pure_ (i := 17) (N := some 78) (v := ?_) (a' := ?_) #[true, true, true, true, true, true, true, true, true, true, true, true, true, true, true, true, true, true, false, false, false, false, false, false, false, false, false, false, false, false, false, false] rfl rfl (any_of HT_.out (by kernel_rfl)) (fun _ _ _ h => h) (Or.inl ⟨by rfl, ?_⟩) ?_ ?_
                          rotate_left
                          · intro w'
                            go_simp
                            with_reducible rfl
                          rotate_left
                          · simp only [Act.put, List.setIfInBounds_toArray, List.set_cons_zero, List.set_cons_succ, i64_w, i32_w]
                            rfl
                          refine pure_ (i := 18) (N := some 79) (v := ?_) (a' := ?_) #[true, true, true, true, true, true, true, true, true, true, true, true, true, true, true, true, true, true, true, false, false, false, false, false, false, false, false, false, false, false, false, false] rfl rfl (any_of HT_.out (by kernel_rfl)) (fun _ _ _ h => h) (Or.inl ⟨by rfl, ?_⟩) ?_ ?_
                          rotate_left
                          · intro w'
                            go_simp
                            with_reducible rfl
                          rotate_left
                          · simp only [Act.put, List.setIfInBounds_toArray, List.set_cons_zero, List.set_cons_succ, i64_w, i32_w]
                            rfl
                          refine pure_ (i := 19) (N := some 80) (v := ?_) (a' := ?_) #[true, true, true, true, true, true, true, true, true, true, true, true, true, true, true, true, true, true, true, true, false, false, false, false, false, false, false, false, false, false, false, false] rfl rfl (any_of HT_.out (by kernel_rfl)) (fun _ _ _ h => h) (Or.inl ⟨by rfl, ?_⟩) ?_ ?_
                          rotate_left
                          · intro w'
                            go_simp
                            with_reducible rfl
                          rotate_left
                          · simp only [Act.put, List.setIfInBounds_toArray, List.set_cons_zero, List.set_cons_succ, i64_w, i32_w]
                            rfl
                          refine pure_ (i := 20) (N := some 81) (v := ?_) (a' := ?_) #[true, true, true, true, true, true, true, true, true, true, true, true, true, true, true, true, true, true, true, true, true, false, false, false, false, false, false, false, false, false, false, false] rfl rfl (any_of HT_.out (by kernel_rfl)) (fun _ _ _ h => h) (Or.inl ⟨by rfl, ?_⟩) ?_ ?_
                          rotate_left
                          · intro w'
                            go_simp
                            with_reducible rfl
                          rotate_left
                          · simp only [Act.put, List.setIfInBounds_toArray, List.set_cons_zero, List.set_cons_succ, i64_w, i32_w]
                            rfl
                          refine pure_ (i := 21) (N := some 82) (v := ?_) (a' := ?_) #[true, true, true, true, true, true, true, true, true, true, true, true, true, true, true, true, true, true, true, true, true, true, false, false, false, false, false, false, false, false, false, false] rfl rfl (any_of HT_.out (by kernel_rfl)) (fun _ _ _ h => h) (Or.inl ⟨by rfl, ?_⟩) ?_ ?_
                          rotate_left
                          · intro w'
                            go_simp
                            with_reducible rfl
                          rotate_left
                          · simp only [Act.put, List.setIfInBounds_toArray, List.set_cons_zero, List.set_cons_succ, i64_w, i32_w]
                            rfl
                          refine pure_ (i := 23) (N := some 84) (v := ?_) (a' := ?_) #[true, true, true, true, true, true, true, true, true, true, true, true, true, true, true, true, true, true, true, true, true, true, false, true, false, false, false, false, false, false, false, false] rfl rfl (any_of HT_.out (by kernel_rfl)) (fun _ _ _ h => h) (Or.inl ⟨by rfl, ?_⟩) ?_ ?_
                          rotate_left
                          · intro w'
                            go_simp
                            with_reducible rfl
                          rotate_left
                          · simp only [Act.put, List.setIfInBounds_toArray, List.set_cons_zero, List.set_cons_succ, i64_w, i32_w]
                            rfl
                          refine pure_ (i := 24) (N := some 85) (v := ?_) (a' := ?_) #[true, true, true, true, true, true, true, true, true, true, true, true, true, true, true, true, true, true, true, true, true, true, false, true, true, false, false, false, false, false, false, false] rfl rfl (any_of HT_.out (by kernel_rfl)) (fun _ _ _ h => h) (Or.inl ⟨by rfl, ?_⟩) ?_ ?_
                          rotate_left
                          · intro w'
                            go_simp
                            with_reducible rfl
                          rotate_left
                          · simp only [Act.put, List.setIfInBounds_toArray, List.set_cons_zero, List.set_cons_succ, i64_w, i32_w]
                            rfl
                          refine take_ (i := 22) (N := some 83) (v := ?_) (a' := ?_) #[true, true, true, true, true, true, true, true, true, true, true, true, true, true, true, true, true, true, true, true, true, true, true, true, true, false, false, false, false, false, false, false] rfl rfl (take_ofW HT_.out HW_.out (by kernel_rfl)) (fun _ _ _ h => h) (Or.inl ⟨by rfl, ?_⟩) hHeld ?_ ?_
                          rotate_left
                          · rintro w' ⟨s0, s1, s2, s3, s4⟩
                            go_simp
                            with_reducible rfl
                          rotate_left
                          · simp only [Act.put, List.setIfInBounds_toArray, List.set_cons_zero, List.set_cons_succ, i64_w, i32_w]
                            rfl
                          refine take_ (i := 25) (N := some 86) (v := ?_) (a' := ?_) #[true, true, true, true, true, true, true, true, true, true, true, true, true, true, true, true, true, true, true, true, true, true, true, true, true, true, false, false, false, false, false, false] rfl rfl (take_ofW HT_.out HW_.out (by kernel_rfl)) (fun _ _ _ h => h) (Or.inl ⟨by rfl, ?_⟩) hHeld ?_ ?_
                          rotate_left
                          · rintro w' ⟨s0, s1, s2, s3, s4⟩
                            go_simp
                            with_reducible rfl
                          rotate_left
                          · simp only [Act.put, List.setIfInBounds_toArray, List.set_cons_zero, List.set_cons_succ, i64_w, i32_w]
                            rfl
                          refine pure_ (i := 26) (N := some 87) (v := ?_) (a' := ?_) #[true, true, true, true, true, true, true, true, true, true, true, true, true, true, true, true, true, true, true, true, true, true, true, true, true, true, true, false, false, false, false, false] rfl rfl (any_of HT_.out (by kernel_rfl)) (fun _ _ _ h => h) (Or.inl ⟨by rfl, ?_⟩) ?_ ?_
                          rotate_left
                          · intro w'
                            go_simp
                            with_reducible rfl
                          rotate_left
                          · simp only [Act.put, List.setIfInBounds_toArray, List.set_cons_zero, List.set_cons_succ, i64_w, i32_w]
                            rfl
                          refine pure_ (i := 27) (N := some 88) (v := ?_) (a' := ?_) #[true, true, true, true, true, true, true, true, true, true, true, true, true, true, true, true, true, true, true, true, true, true, true, true, true, true, true, true, false, false, false, false] rfl rfl (any_of HT_.out (by kernel_rfl)) (fun _ _ _ h => h) (Or.inl ⟨by rfl, ?_⟩) ?_ ?_
                          rotate_left
                          · intro w'
                            go_simp
                            with_reducible rfl
                          rotate_left
                          · simp only [Act.put, List.setIfInBounds_toArray, List.set_cons_zero, List.set_cons_succ, i64_w, i32_w]
                            rfl
                          refine pure_ (i := 28) (N := some 89) (v := ?_) (a' := ?_) #[true, true, true, true, true, true, true, true, true, true, true, true, true, true, true, true, true, true, true, true, true, true, true, true, true, true, true, true, true, false, false, false] rfl rfl (any_of HT_.out (by kernel_rfl)) (fun _ _ _ h => h) (Or.inl ⟨by rfl, ?_⟩) ?_ ?_
                          rotate_left
                          · intro w'
                            go_simp
                            with_reducible rfl
                          rotate_left
                          · simp only [Act.put, List.setIfInBounds_toArray, List.set_cons_zero, List.set_cons_succ, i64_w, i32_w]
                            rfl
                          refine one_ (i := 29) (N := some 90) #[true, true, true, true, true, true, true, true, true, true, true, true, true, true, true, true, true, true, true, true, true, true, true, true, true, true, true, true, true, true, false, false] rfl rfl (one_of HT_.out (by kernel_rfl)) (by decide) (fun K hK => ?_)
                          refine goes_ Try.func30 (by kernel_rfl) rfl #[] (by rfl) rfl rfl (by (try simp only [List.map_toArray, List.map_cons, List.map_nil]); first | done | rfl | (simp only [List.length_drop, List.length_take]; rfl)) ?_
                          with_reducible refine (credenzalaw17_awake.calls kj3  t240 _ A48.out).mono ?_
                          rintro e w72 ⟨rfl, hb⟩
                          have HS3_ := (hb.cell (World.block_lt_of_cell? _ _ (hHeld.2.2.2.1))).trans (hHeld.2.2.2.1)
                          have HS4_ := (hb.cell (World.block_lt_of_cell? _ _ (hHeld.2.2.2.2))).trans (hHeld.2.2.2.2)
                          refine ⟨_, rfl, ?_⟩
                          have n0_ := Aside0.mk (Kd.R_below (by (with_reducible repeat (first | apply Kd.R_alloc | apply Kd.R_drewN | apply Kd.R_drew)); exact HO217.out) hb)
                          have n1_ := Aside0.mk (Kd.V_below (by (with_reducible repeat (first | apply Kd.V_alloc | apply Kd.V_drewN | apply Kd.V_drew)); exact HO226.out) hb)
                          have n2_ := Aside0.mk (Kd.V_below (by (with_reducible repeat (first | apply Kd.V_alloc | apply Kd.V_drewN | apply Kd.V_drew)); exact HO229.out) hb)
                          have n3_ := Aside0.mk (Kd.R_below (by (with_reducible repeat (first | apply Kd.R_alloc | apply Kd.R_drewN | apply Kd.R_drew)); exact HO232.out) hb)
                          have n4_ := Aside0.mk (Kd.R_below (by (with_reducible repeat (first | apply Kd.R_alloc | apply Kd.R_drewN | apply Kd.R_drew)); exact HO236.out) hb)
                          have n5_ := Aside0.mk (blk_below (g := gb207) (o := .cells #[.int .i64 a0_0, .int .i64 a0_1, .slice A0_2 l0_2.length c0_2] 43 (0, 0)) (by (with_reducible repeat (first | refine blk_drewN ?_ _ | refine blk_drew ?_ | refine blk_alloc ?_ _)); exact BK207.out) hb)
                          have n6_ := Aside0.mk (blk_below (g := gb233) (o := .cells #[.int .i64 1, .int .i64 a0_1, .slice Ao62 y230.length co62] 43 (0, 0)) (by (with_reducible repeat (first | refine blk_drewN ?_ _ | refine blk_drew ?_ | refine blk_alloc ?_ _)); exact BK233.out) hb)
                          have n7_ := Aside0.mk (below_step (by repeat (first | (with_reducible first | exact HB.out | apply below_alloc | apply pw_below_drewN | apply below_drew1 | refine below_set ?_ GE207.out | refine below_set ?_ GE233.out) | exact HB.out)) hb)
                          clear HO217
                          clear HO226
                          clear HO229
                          clear HO232
                          clear HO236
                          clear BK207
                          clear BK233
                          clear HB
                          have HO217 := n0_
                          have HO226 := n1_
                          have HO229 := n2_
                          have HO232 := n3_
                          have HO236 := n4_
                          have BK207 := n5_
                          have BK233 := n6_
                          have HB := n7_
                          clear n0_ n1_ n2_ n3_ n4_ n5_ n6_ n7_
                          (try clear hb)
                          (try clear hb2)
                          (try clear hk)
                          (try clear hi)
                          refine hK.out _ _ ⟨(blk_cell BK207.out 0).trans rfl, (blk_cell BK207.out 1).trans rfl, (blk_cell BK207.out 2).trans rfl, HS3_, HS4_⟩ (fun hHeld => ?_)
                          clear hK K
                          refine norm_ (a' := ?_) ?_ ?_
                          rotate_left
                          · show Act.put _ (some 90) _ = _
                            simp only [Act.put, List.setIfInBounds_toArray, List.set_cons_zero, List.set_cons_succ, i64_w, i32_w]
                            rfl
                          refine pure_ (i := 30) (N := some 91) (v := ?_) (a' := ?_) #[true, true, true, true, true, true, true, true, true, true, true, true, true, true, true, true, true, true, true, true, true, true, true, true, true, true, true, true, true, true, true, false] rfl rfl (any_of HT_.out (by kernel_rfl)) (fun _ _ _ h => h) (Or.inl ⟨by rfl, ?_⟩) ?_ ?_
                          rotate_left
                          · intro w'
                            go_simp
                            with_reducible rfl
                          rotate_left
                          · simp only [Act.put, List.setIfInBounds_toArray, List.set_cons_zero, List.set_cons_succ, i64_w, i32_w]
                            rfl
                          refine pure_ (i := 31) (N := some 6) (v := ?_) (a' := ?_) #[true, true, true, true, true, true, true, true, true, true, true, true, true, true, true, true, true, true, true, true, true, true, true, true, true, true, true, true, true, true, true, true] rfl rfl (any_of HT_.out (by kernel_rfl)) (fun _ _ _ h => h) (Or.inl ⟨by rfl, ?_⟩) ?_ ?_
                          rotate_left
                          · intro w'
                            go_simp
                            with_reducible rfl
                          rotate_left
                          · simp only [Act.put, List.setIfInBounds_toArray, List.set_cons_zero, List.set_cons_succ, i64_w, i32_w]
                            rfl
                          refine done_ (done_of HT_.out (by kernel_rfl)) ?_
                          try go_wp2
                          go_ret
                          exact ⟨by first | rfl | (simp [errW_none, errW_some] <;> rfl) | (simp [*, errW_none, errW_some] <;> rfl), by repeat (first | (with_reducible first | exact HB.out | apply below_alloc | apply pw_below_drewN | apply below_drew1 | refine below_set ?_ GE207.out | refine below_set ?_ GE233.out) | exact HB.out)⟩
                        · rw [if_neg c47] at H
                          have c47b0 : ((rd t215 a2) == (rd t234 0)) = false := beq_eq_false_iff_ne.mpr c47
                          have c47b1 : ((rd t215 a2) != (rd t234 0)) = true := bne_iff_ne.mpr c47
                          exact absurd (H.trans (congrArg some HRT.out)) (by simp)
                      · rw [if_neg c46] at H
                        exact absurd H (by simp)
                    · rw [if_neg c45] at H
                      exact absurd H (by simp)
                  · rw [if_neg c44] at H
                    exact absurd H (by simp)
                · rw [if_neg c43] at H
                  have c43b0 : ((t215.length : Int) == a0_0) = false := beq_eq_false_iff_ne.mpr c43
                  have c43b1 : ((t215.length : Int) != a0_0) = true := bne_iff_ne.mpr c43
                  exact absurd (H.trans (congrArg some HRT.out)) (by simp)
              · rw [if_neg c42] at H
                have c42b0 : ((t234.length : Int) == 1) = false := beq_eq_false_iff_ne.mpr c42
                have c42b1 : ((t234.length : Int) != 1) = true := bne_iff_ne.mpr c42
                exact absurd (H.trans (congrArg some HRT.out)) (by simp)
            · rw [if_neg c41] at H
              have c41b0 : (t237 == 0) = false := beq_eq_false_iff_ne.mpr c41
              have c41b1 : (t237 != 0) = true := bne_iff_ne.mpr c41
              exact absurd (H.trans (congrArg some HRT.out)) (by simp)
          · rw [if_neg c40] at H
            have c40b0 : (t218 == 0) = false := beq_eq_false_iff_ne.mpr c40
            have c40b1 : (t218 != 0) = true := bne_iff_ne.mpr c40
            exact absurd (H.trans (congrArg some HRT.out)) (by simp)
        · rw [if_neg c38] at H
          exact absurd H (by simp)

end Go.Proofs.Ytmndomlpdajjmab.Mp
