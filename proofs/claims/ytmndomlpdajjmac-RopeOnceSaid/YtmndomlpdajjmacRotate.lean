/- The method that turns a list: its walk. -/
import Derived.Test.YtmndomlpdajjmacTab
import Derived.Test.YtmndomlpdajjmacRtx3
namespace Go.Proofs.Ytmndomlpdajjmac.Rt
open Go.RowKit Go.Proofs.YtmndomlpdajjmacW.PrintWords Go.Proofs.YtmndomlpdajjmacW.PrintLast Go.Proofs.YtmndomlpdajjmacW.PrintMore
attribute [local go_sem] max2_int min2_int max_two min_two max_three min_three max_four min_four   -- for this text's walks alone
set_option linter.unusedVariables false
set_option linter.unusedSimpArgs false
/-! ### rope_Table_Rotate: function 36 -/
def rope_Table_Rotate.l0 : Nat → List Int → List Int → List (S54) → Int → Int → Option (List Int × Int)
  | 0, _, _, _, _, _ => none
  | k + 1, x1, x10, x36, x37, x38 => if x38 < x37 then (if 0 ≤ x38 then (if x38 < (x36.length : Int) then (if 0 ≤ (wrap64 (2 * x38)) then (if (wrap64 (2 * x38)) < (x1.length : Int) then (if 0 ≤ (wrap64 ((wrap64 (2 * x38)) + 1)) then (if (wrap64 ((wrap64 (2 * x38)) + 1)) < (x1.length : Int) then ((rope_by.f (rd x1 (wrap64 (2 * x38))) (rd x1 (wrap64 ((wrap64 (2 * x38)) + 1))) ((rd_T54 x36 x38).f0) ((rd_T54 x36 x38).f1)).bind fun bt118 => ((fix_Narrow.f bt118.1).bind fun t120 => ((fix_Narrow.f bt118.2).bind fun t121 => (if (wrap64 (2 * x38)) < (x10.length : Int) then (if (wrap64 ((wrap64 (2 * x38)) + 1)) < (x10.length : Int) then (rope_Table_Rotate.l0 k x1 ((x10.set ((wrap64 (2 * x38)) : Int).toNat t120).set ((wrap64 ((wrap64 (2 * x38)) + 1)) : Int).toNat t121) x36 x37 (wrap64 (x38 + 1))) else (none)) else (none))))) else (none)) else (none)) else (none)) else (none)) else (none)) else (none)) else (some (x10, 0))
def rope_Table_Rotate.f (k : Nat) (l0 : List (S54)) (l1 : List Int) (a2 : Int) : Option (List Int × Int) := if (l1.length : Int) = (wrap64 (2 * (l0.length : Int))) then (if 0 = 0 then (if 0 ≤ (l1.length : Int) then (if ((l1.length : Int) : Int).toNat ≤ 70368744177664 then (rope_Table_Rotate.l0 k l1 (List.replicate ((l1.length : Int) : Int).toNat 0) l0 (l0.length : Int) 0) else (none)) else (none)) else (some (([] : List Int), 0))) else (some (([] : List Int), 25))
theorem rope_Table_Rotate.mono_l : ∀ k, (∀ y0 y1 y2 y3 y4, LeO (rope_Table_Rotate.l0 k y0 y1 y2 y3 y4) (rope_Table_Rotate.l0 (k + 1) y0 y1 y2 y3 y4))
  | 0 => fun _ _ _ _ _ r h => by simp [rope_Table_Rotate.l0] at h
  | k + 1 => by
    have ih0 := rope_Table_Rotate.mono_l k
    · intro y0 y1 y2 y3 y4
      unfold rope_Table_Rotate.l0
      repeat' first
      | (with_reducible exact ih0 _ _ _ _ _)
      | (with_reducible exact LeO.refl _)
      | (with_reducible exact LeO.none _)
      | (with_reducible refine LeO.ite ?_ ?_)
      | (with_reducible refine LeO.bind ?_ (fun _ => ?_))
      | exact ih0 _ _ _ _ _
      | exact LeO.none _
      | refine LeO.ite ?_ ?_
      | refine LeO.bind ?_ (fun _ => ?_)
theorem rope_Table_Rotate.mono : ∀ a0 a1 a2 k, LeO (rope_Table_Rotate.f k a0 a1 a2) (rope_Table_Rotate.f (k + 1) a0 a1 a2) := by
  intro a0 a1 a2 k
  have ih0 := rope_Table_Rotate.mono_l k
  unfold rope_Table_Rotate.f
  repeat' first
      | (with_reducible exact ih0 _ _ _ _ _)
      | (with_reducible exact LeO.refl _)
      | (with_reducible exact LeO.none _)
      | (with_reducible refine LeO.ite ?_ ?_)
      | (with_reducible refine LeO.bind ?_ (fun _ => ?_))
      | exact ih0 _ _ _ _ _
      | exact LeO.none _
      | refine LeO.ite ?_ ?_
      | refine LeO.bind ?_ (fun _ => ?_)
def rope_Table_Rotate.T10 : Bool × List (List Nat × List Nat) := (true, [([], []), ([], []), ([1], [1]), ([0, 2], [0, 2]), ([3], [3]), ([], []), ([], []), ([6], [6]), ([7], [7]), ([5, 8], [5, 8]), ([9], [9]), ([], []), ([4, 10, 11], [4, 10, 11]), ([12], [12]), ([13], [13]), ([13], [13]), ([14, 12, 0, 1, 2, 3, 4, 5, 6, 7, 8, 9, 10, 11, 12, 13, 14], [14]), ([15, 16, 0, 1, 2, 3, 4, 5, 6, 7, 8, 9, 10, 11, 12, 13, 14, 15, 16], [15])])
def rope_Table_Rotate.B10 : List Nat := [0, 0, 2, 7, 15, 0, 0, 64, 192, 480, 992, 0, 4095, 8191, 16383, 16383, 32767, 131071]
theorem rope_Table_Rotate.tab10 : rtab .any (opsOf Try.f36 10) = rope_Table_Rotate.T10 := by kernel_rfl
theorem rope_Table_Rotate.bits10 : waitsOk rope_Table_Rotate.T10.2 rope_Table_Rotate.B10 = true := by kernel_rfl
theorem C_int_grown {k : IntKind} {w w' : World} {A : Option Addr} {n b : Nat} {xs : List Int} (h : Kd.C (Kd.int k) w A n xs) (hg : w.grownBy w' (some b)) (hne : 0 < n → ∀ ad, A = some ad → ad.block ≠ b) : Kd.C (Kd.int k) w' A n xs := by
  obtain ⟨h1, h2, h3⟩ := h
  refine ⟨h1, h2, fun hn => ?_⟩
  obtain ⟨ad, e, h4⟩ := h3 hn
  refine ⟨ad, e, fun j p hj => ?_⟩
  obtain ⟨c, hc, hp, hu⟩ := h4 j p hj
  exact ⟨c, hc, hp, fun i u hi => hg.cell (hu i u hi) (by rw [add_block]; exact fun e2 => hne hn ad e (Option.some.inj e2))⟩
theorem grown_below {w w1 w2 : World} {row : Option Nat} (hg : w.grownBy w1 row) (hB : Below w1.heap.size w1 w2) : w.grownBy w2 row :=
  ⟨hB.os.trans hg.os, hB.tape.trans hg.tape, hB.output.trans hg.output, Nat.le_trans hg.size hB.size, fun i hi hn => (hB.block i (Nat.lt_of_lt_of_le hi hg.size)).trans (hg.block i hi hn)⟩
/-- What 'Rotate' hands back: a list, new. -/
def RotQ (w : World) (base : Nat) (ok : Nat → Prop) (b : Nat) (l : List S54) (rs : List (List S54)) (r : List Int) (e : Ending) (w' : World) : Prop :=
  ∃ v : Value, e = .returned (.tuple #[v, .int .i64 0]) ∧ Kd.R (Kd.int .i32) 21 w' w.heap.size (fun _ => True) v r ∧
    Tab w' base (fun k => (ok k ∨ w.heap.size ≤ k) ∧ some k ≠ v.ownBlock) b l rs ∧ w.grownBy w' (some b)
set_option maxHeartbeats 8000000 in
set_option maxRecDepth 100000 in
theorem rotate_calls (kb k base b : Nat) (ok : Nat → Prop) (l : List S54) (rs : List (List S54)) (p : Int) (A1 : Option Addr) (c1 : Nat) (l1 : List Int) (r1 : List Int) (w : World) (hT : Tab w base ok b l rs) (hbase : base ≤ w.heap.size) (hk : rope_Table_build.f kb l = some rs)
    (hlen : rs.length = 1024) (h0 : 0 ≤ p) (h1 : p < 1024) (hrow : (rs.getD p.toNat []).length = l.length) (h8 : l.length ≤ 8) (hr1 : Kd.C (Kd.int .i32) w A1 l1.length l1) (hc1 : l1.length ≤ c1) (hne : 0 < l1.length → ∀ ad, A1 = some ad → ad.block ≠ b)
    (hx : l1.length = 2 * l.length) (h : rope_Table_Rotate.l0 k l1 (List.replicate l1.length 0) (rs.getD p.toNat []) (l.length : Int) 0 = some (r1, 0)) :
    Calls Try.prog 36 #[.pointer (some ⟨b, 0, none⟩), .slice A1 l1.length c1, .int .i64 p] w (RotQ w base ok b l rs r1) := by
  have hu54 := Try.underlying54
  have HD := Aside0.mk (at_calls kb base b ok l rs p w hT hbase hk hlen h0 h1)
  obtain ⟨At, ct, hct⟩ : ∃ (At : Option Addr) (ct : Nat), w.cell? ⟨b, 0, none⟩ = some (.slice At l.length ct) := by
    obtain ⟨_, A, c, d, s, v, hb, _⟩ := hT
    exact ⟨A, c, (blk_cell hb 0).trans rfl⟩
  have HX := Aside0.mk hr1
  have HC1 := Aside0.mk hc1
  have HNE := Aside0.mk hne
  clear hT hk hbase hlen h0 h1 hr1 hc1 hne
  generalize hQ : RotQ w base ok b l rs r1 = Q
  have HQ := Aside0.mk hQ
  clear hQ
  rw [← hrow] at hct hx h8 h
  clear hrow
  obtain ⟨l0, hl0⟩ : ∃ l0, l0 = rs.getD p.toNat [] := ⟨_, rfl⟩
  rw [← hl0] at hct hx h8 h
  have HL0 := Aside0.mk hl0
  clear hl0
  have c4 : (l1.length : Int) = (wrap64 (2 * (l0.length : Int))) := by rw [show wrap64 (2 * (l0.length : Int)) = 2 * (l0.length : Int) from by unfold wrap64; omega]; omega
  have c4b0 : ((l1.length : Int) == (wrap64 (2 * (l0.length : Int)))) = true := beq_iff_eq.mpr c4
  have c4b1 : ((l1.length : Int) != (wrap64 (2 * (l0.length : Int)))) = false := bne_eq_false_iff_eq.mpr c4
  clear c4
  have c6 : 0 ≤ (l1.length : Int) := by omega
  have c6b0 := eq_true c6
  have c6b1 : decide (0 ≤ (l1.length : Int)) = true := decide_eq_true c6
  clear c6
  have c7 : ((l1.length : Int) : Int).toNat ≤ 70368744177664 := by omega
  have c7b0 := eq_true c7
  have c7b1 : decide (((l1.length : Int) : Int).toNat ≤ 70368744177664) = true := decide_eq_true c7
  clear c7 hx h8
  obtain ⟨y111, hy111⟩ : ∃ y_ : List Int, y_ = (List.replicate ((l1.length : Int) : Int).toNat 0) := ⟨_, rfl⟩
  have H : (rope_Table_Rotate.l0 k l1 y111 l0 (l0.length : Int) 0) = some (r1, 0) := by rw [hy111]; exact h
  clear h
  have Ny111 := Aside0.mk hy111
  clear hy111
  have H' := Aside0.mk H
  clear H
  go_enter Try.func36, Try.ntmps36
  go_wp2_with (first | (go_at_call 64; refine HD.out.mono ?_; rintro e wA ⟨A0, c0, rfl, hc0, hr0, hT1, hg1⟩; rw [← HL0.out] at hr0 hc0; rw [← HL0.out]; have HR0 := Aside0.mk hr0; have HC0 := Aside0.mk hc0; have HR1 := Aside0.mk (C_int_grown HX.out hg1 HNE.out); have HT1 := Aside0.mk (And.intro hT1 hg1); have HB := Aside0.mk (Below.refl wA.heap.size wA); clear hr0 hc0 hT1 hg1) | ((with_reducible refine gate_dst (N := 35) rfl ?_); refine Kd.R_make (Kd.int .i32) _ 21 rfl (N := 35) rfl 22 _ _ rfl (l1.length : Int) rfl rfl Try.underlying22 (.int .i32 0) 4 info21 rfl (by decide) (by omega) 0 (ok := fun _ => True) (okp := fun _ => True) rfl (fun _ hk => hk) trivial (of_decide_eq_true (by first | (with_reducible assumption) | assumption)) (Nat.le_trans (Nat.mul_le_mul_right _ (of_decide_eq_true (by first | (with_reducible assumption) | assumption) : (l1.length : Int).toNat ≤ 70368744177664)) (by omega)) (Below.refl _ _) (Nat.le_refl _) ?_; intro v112 w8 ho9 hb hg_ hnew_; clear hg_ hnew_; (first | rw [← Ny111.out] at ho9 | (simp only [Int.reduceToNat] at ho9; rw [← Ny111.out] at ho9)); have n0_ := Aside0.mk (Kd.R_lower ho9 (below_size (by repeat (first | (with_reducible first | exact HB.out | apply below_alloc | apply pw_below_drewN | apply below_drew1) | exact HB.out)))); have n1_ := Aside0.mk (below_step (by repeat (first | (with_reducible first | exact HB.out | apply below_alloc | apply pw_below_drewN | apply below_drew1) | exact HB.out)) hb); clear HB; have HO113 := n0_; have HB := n1_; clear n0_ n1_; clear hb ho9))
  go_loopg [38] k (fun kq v38 w' => ∃ (x10_1 : List Int) (x38_1 : Int), v38 = .int .i64 x38_1 ∧ Aside0 (rope_Table_Rotate.l0 kq l1 x10_1 l0 (l0.length : Int) x38_1 = some (r1, 0)) ∧ Aside0 (kq ≤ k) ∧ Aside0 (Kd.R (Kd.int .i32) 21 w' wA.heap.size (fun _ => True) v112 x10_1) ∧ Aside0 (Below wA.heap.size wA w'))
  case atStart => exact ⟨(y111), (0), (by first | rfl | (simp; done) | (simp [*]; done)), H', ⟨Nat.le_refl _⟩, ⟨by (with_reducible repeat (first | apply Kd.R_alloc | apply Kd.R_drewN | apply Kd.R_drew)); exact HO113.out⟩, ⟨by repeat (first | (with_reducible first | exact HB.out | apply below_alloc | apply pw_below_drewN | apply below_drew1) | exact HB.out)⟩⟩
  case round =>
    clear H'
    obtain ⟨x10_1, x38_1, rfl, HA, HK1, HO_10, HB⟩ := hrel
    cases gk with
    | zero => exact absurd HA.out (by simp [rope_Table_Rotate.l0])
    | succ k1 =>
      have H := HA.out
      clear HA
      simp only [rope_Table_Rotate.l0] at H
      by_cases c10 : x38_1 < (l0.length : Int)
      · rw [if_pos c10] at H
        have c10b0 : decide (x38_1 < (l0.length : Int)) = true := decide_eq_true c10
        clear c10
        by_cases c11 : 0 ≤ x38_1
        · rw [if_pos c11] at H
          have c11b0 : decide (0 ≤ x38_1) = true := decide_eq_true c11
          clear c11
          by_cases c12 : x38_1 < (l0.length : Int)
          · rw [if_pos c12] at H
            have c12b0 : decide (x38_1 < (l0.length : Int)) = true := decide_eq_true c12
            clear c12
            obtain ⟨ji13, hji13⟩ : ∃ j_ : Int, (wrap64 (2 * x38_1)) = j_ := ⟨_, rfl⟩
            replace H : (if 0 ≤ (ji13) then (if (ji13) < (l1.length : Int) then (if 0 ≤ (wrap64 ((ji13) + 1)) then (if (wrap64 ((ji13) + 1)) < (l1.length : Int) then ((rope_by.f (rd l1 (ji13)) (rd l1 (wrap64 ((ji13) + 1))) ((rd_T54 l0 x38_1).f0) ((rd_T54 l0 x38_1).f1)).bind fun bt118 => ((fix_Narrow.f bt118.1).bind fun t120 => ((fix_Narrow.f bt118.2).bind fun t121 => (if (ji13) < (x10_1.length : Int) then (if (wrap64 ((ji13) + 1)) < (x10_1.length : Int) then (rope_Table_Rotate.l0 k1 l1 ((x10_1.set ((ji13) : Int).toNat t120).set ((wrap64 ((ji13) + 1)) : Int).toNat t121) l0 (l0.length : Int) (wrap64 (x38_1 + 1))) else (none)) else (none))))) else (none)) else (none)) else (none)) else (none)) = some (r1, 0) := by first | (rw [hji13] at H; exact H) | (simp only [hji13] at H ⊢; exact H)
            have hji13w : (IntKind.i64.wrap (2 * x38_1)) = ji13 := (i64_w _).trans hji13
            by_cases c14 : 0 ≤ (ji13)
            · rw [if_pos c14] at H
              have c14b0 : decide (0 ≤ (ji13)) = true := decide_eq_true c14
              clear c14
              by_cases c15 : (ji13) < (l1.length : Int)
              · rw [if_pos c15] at H
                have c15b0 : decide ((ji13) < (l1.length : Int)) = true := decide_eq_true c15
                clear c15
                obtain ⟨ji16, hji16⟩ : ∃ j_ : Int, (wrap64 ((ji13) + 1)) = j_ := ⟨_, rfl⟩
                replace H : (if 0 ≤ (ji16) then (if (ji16) < (l1.length : Int) then ((rope_by.f (rd l1 (ji13)) (rd l1 (ji16)) ((rd_T54 l0 x38_1).f0) ((rd_T54 l0 x38_1).f1)).bind fun bt118 => ((fix_Narrow.f bt118.1).bind fun t120 => ((fix_Narrow.f bt118.2).bind fun t121 => (if (ji13) < (x10_1.length : Int) then (if (ji16) < (x10_1.length : Int) then (rope_Table_Rotate.l0 k1 l1 ((x10_1.set ((ji13) : Int).toNat t120).set ((ji16) : Int).toNat t121) l0 (l0.length : Int) (wrap64 (x38_1 + 1))) else (none)) else (none))))) else (none)) else (none)) = some (r1, 0) := by first | (rw [hji16] at H; exact H) | (simp only [hji16] at H ⊢; exact H)
                have hji16w : (IntKind.i64.wrap ((ji13) + 1)) = ji16 := (i64_w _).trans hji16
                by_cases c17 : 0 ≤ (ji16)
                · rw [if_pos c17] at H
                  have c17b0 : decide (0 ≤ (ji16)) = true := decide_eq_true c17
                  clear c17
                  by_cases c18 : (ji16) < (l1.length : Int)
                  · rw [if_pos c18] at H
                    have c18b0 : decide ((ji16) < (l1.length : Int)) = true := decide_eq_true c18
                    clear c18
                    replace H := Option.bind_eq_some_iff.mp H
                    obtain ⟨⟨t118, t119⟩, A190, H⟩ := H
                    replace H : ((fix_Narrow.f t118).bind fun t120 => ((fix_Narrow.f t119).bind fun t121 => (if (ji13) < (x10_1.length : Int) then (if (ji16) < (x10_1.length : Int) then (rope_Table_Rotate.l0 k1 l1 ((x10_1.set ((ji13) : Int).toNat t120).set ((ji16) : Int).toNat t121) l0 (l0.length : Int) (wrap64 (x38_1 + 1))) else (none)) else (none)))) = some (r1, 0) := H
                    have A19 := Aside0.mk A190
                    clear A190
                    replace H := Option.bind_eq_some_iff.mp H
                    obtain ⟨t120, A200, H⟩ := H
                    replace H : ((fix_Narrow.f t119).bind fun t121 => (if (ji13) < (x10_1.length : Int) then (if (ji16) < (x10_1.length : Int) then (rope_Table_Rotate.l0 k1 l1 ((x10_1.set ((ji13) : Int).toNat t120).set ((ji16) : Int).toNat t121) l0 (l0.length : Int) (wrap64 (x38_1 + 1))) else (none)) else (none))) = some (r1, 0) := H
                    have A20 := Aside0.mk A200
                    clear A200
                    replace H := Option.bind_eq_some_iff.mp H
                    obtain ⟨t121, A210, H⟩ := H
                    replace H : (if (ji13) < (x10_1.length : Int) then (if (ji16) < (x10_1.length : Int) then (rope_Table_Rotate.l0 k1 l1 ((x10_1.set ((ji13) : Int).toNat t120).set ((ji16) : Int).toNat t121) l0 (l0.length : Int) (wrap64 (x38_1 + 1))) else (none)) else (none)) = some (r1, 0) := H
                    have A21 := Aside0.mk A210
                    clear A210
                    by_cases c22 : (ji13) < (x10_1.length : Int)
                    · rw [if_pos c22] at H
                      have c22b0 : decide ((ji13) < (x10_1.length : Int)) = true := decide_eq_true c22
                      clear c22
                      obtain ⟨y122, hy122⟩ : ∃ y_ : List Int, y_ = (x10_1.set ((ji13) : Int).toNat t120) := ⟨_, rfl⟩
                      replace H : (if (ji16) < (x10_1.length : Int) then (rope_Table_Rotate.l0 k1 l1 (y122.set ((ji16) : Int).toNat t121) l0 (l0.length : Int) (wrap64 (x38_1 + 1))) else (none)) = some (r1, 0) := by first | (rw [hy122]; with_reducible exact H) | (have H2_ := (Option.bind_some _ _).symm.trans H; rw [hy122]; with_reducible exact H2_) | (have H2_ := (Option.bind_some _ _).symm.trans H; with_reducible exact H2_) | with_reducible exact H | (rw [hy122]; exact H) | exact H
                      have Ny122 := Aside0.mk hy122
                      clear hy122
                      by_cases c24 : (ji16) < (x10_1.length : Int)
                      · rw [if_pos c24] at H
                        have c24b0 : decide ((ji16) < (x10_1.length : Int)) = true := decide_eq_true c24
                        clear c24
                        obtain ⟨y123, hy123⟩ : ∃ y_ : List Int, y_ = (y122.set ((ji16) : Int).toNat t121) := ⟨_, rfl⟩
                        replace H : (rope_Table_Rotate.l0 k1 l1 y123 l0 (l0.length : Int) (wrap64 (x38_1 + 1))) = some (r1, 0) := by first | (rw [hy123]; with_reducible exact H) | (have H2_ := (Option.bind_some _ _).symm.trans H; rw [hy123]; with_reducible exact H2_) | (have H2_ := (Option.bind_some _ _).symm.trans H; with_reducible exact H2_) | with_reducible exact H | (rw [hy123]; exact H) | exact H
                        have Ny123 := Aside0.mk hy123
                        clear hy123
                        have H' := Aside0.mk H
                        clear H
                        have p114 : 0 ≤ (x38_1 : Int) := of_decide_eq_true (by first | (with_reducible assumption) | assumption)
                        have q114 : x38_1 < (l0.length : Int) := of_decide_eq_true (by first | (with_reducible assumption) | assumption)
                        obtain ⟨ad114, e114, hx114_0, hx114_1⟩ := at_T54 HR0.out x38_1 p114 q114
                        cases e114
                        replace hx114_0 := (HB.out.cell (World.block_lt_of_cell? wA _ hx114_0)).trans hx114_0
                        replace hx114_1 := (HB.out.cell (World.block_lt_of_cell? wA _ hx114_1)).trans hx114_1
                        replace p114 := eq_true p114
                        replace q114 := eq_true q114
                        try go_wp2_with (first | ((with_reducible refine gate_dst (N := 12) rfl ?_); refine box_event ?hg (N := 12) ?hd (cs := #[.int .i32 0, .int .i32 0]) (t := 54) ?hr ?_; (case hd => rfl); (case hg => rfl); (case hr => first | (go_simp; done) | (go_simp; rfl)); intro gb115 hg w26 hbox hb; have n0_ := Aside0.mk (Kd.R_below (by (with_reducible repeat (first | apply Kd.R_alloc | apply Kd.R_drewN | apply Kd.R_drew)); exact HO_10.out) hb); have n1_ := Aside0.mk (below_step (by repeat (first | (with_reducible first | exact HB.out | apply below_alloc | apply pw_below_drewN | apply below_drew1) | exact HB.out)) hb); have n2_ := Aside0.mk (hbox); have n3_ := Aside0.mk ((by rw [hg]; exact (below_size (by repeat (first | (with_reducible first | exact HB.out | apply below_alloc | apply pw_below_drewN | apply below_drew1) | exact HB.out))) : wA.heap.size ≤ gb115)); have n4_ := Aside0.mk ((by rw [hg]; exact (below_size (by repeat (first | (with_reducible first | exact HB.out | apply below_alloc | apply pw_below_drewN | apply below_drew1) | exact HB.out))) : wA.heap.size ≤ gb115)); clear HO_10; clear HB; have HO_10 := n0_; have HB := n1_; have BK115 := n2_; have GW115 := n3_; have GE115 := n4_; clear n0_ n1_ n2_ n3_ n4_; clear hb hbox hg; have hcz27_0 : w26.cell? ⟨gb115, 0, none⟩ = some (.int .i32 0) := (blk_cell BK115.out 0).trans rfl; have hcz27_1 : w26.cell? ⟨gb115, 1, none⟩ = some (.int .i32 0) := (blk_cell BK115.out 1).trans rfl; have hfz27_0 := blk_frozen BK115.out 0; have hfz27_1 := blk_frozen BK115.out 1))
                        have n0_ : Aside0 (Kd.R (Kd.int .i32) 21 ((w26.setCell ⟨gb115, 0, none⟩ (.int .i32 ((rd_T54 l0 x38_1).f0))).setCell ⟨gb115, 1, none⟩ (.int .i32 ((rd_T54 l0 x38_1).f1))) wA.heap.size (fun _ => True) v112 x10_1) := ⟨by (with_reducible repeat (first | apply Kd.R_alloc | apply Kd.R_drewN | apply Kd.R_drew)); exact Kd.R_mono (Kd.R_far (p := ⟨gb115, 1, none⟩) (Kd.R_far (p := ⟨gb115, 0, none⟩) (Kd.R_types HO_10.out BK115.out (by decide)) (fun _ hk => hk.2) (.int .i32 ((rd_T54 l0 x38_1).f0))) (fun _ hk => hk.2) (.int .i32 ((rd_T54 l0 x38_1).f1))) (fun _ hk => trivial)⟩
                        have n1_ : Aside0 (((w26.setCell ⟨gb115, 0, none⟩ (.int .i32 ((rd_T54 l0 x38_1).f0))).setCell ⟨gb115, 1, none⟩ (.int .i32 ((rd_T54 l0 x38_1).f1))).heap[gb115]? = some (.cells #[.int .i32 ((rd_T54 l0 x38_1).f0), .int .i32 ((rd_T54 l0 x38_1).f1)] 54 (0, 0))) := ⟨by (with_reducible repeat (first | refine blk_drewN ?_ _ | refine blk_drew ?_ | refine blk_alloc ?_ _)); refine blk_put (cs := #[.int .i32 ((rd_T54 l0 x38_1).f0), .int .i32 0]) ?_ 1 _ rfl; (with_reducible repeat (first | refine blk_drewN ?_ _ | refine blk_drew ?_ | refine blk_alloc ?_ _)); refine blk_put (cs := #[.int .i32 0, .int .i32 0]) ?_ 0 _ rfl; (with_reducible repeat (first | refine blk_drewN ?_ _ | refine blk_drew ?_ | refine blk_alloc ?_ _)); exact BK115.out⟩
                        have n2_ : Aside0 (Below wA.heap.size wA ((w26.setCell ⟨gb115, 0, none⟩ (.int .i32 ((rd_T54 l0 x38_1).f0))).setCell ⟨gb115, 1, none⟩ (.int .i32 ((rd_T54 l0 x38_1).f1)))) := ⟨by repeat (first | (with_reducible first | exact HB.out | apply below_alloc | apply pw_below_drewN | apply below_drew1 | refine below_set ?_ GE115.out) | exact HB.out)⟩
                        (try clear HO_10)
                        (try clear BK115)
                        (try clear HB)
                        generalize ((w26.setCell ⟨gb115, 0, none⟩ (.int .i32 ((rd_T54 l0 x38_1).f0))).setCell ⟨gb115, 1, none⟩ (.int .i32 ((rd_T54 l0 x38_1).f1))) = w28 at n0_ n1_ n2_ ⊢
                        have HO_10 := n0_
                        have BK115 := n1_
                        have HB := n2_
                        clear n0_ n1_ n2_
                        have n0_ := Aside0.mk (Kd.R_drew HO_10.out)
                        have n1_ := Aside0.mk (blk_drew BK115.out)
                        have n2_ := Aside0.mk (below_drew1 HB.out)
                        clear HO_10
                        clear BK115
                        clear HB
                        have HO_10 := n0_
                        have BK115 := n1_
                        have HB := n2_
                        clear n0_ n1_ n2_
                        have p116 : 0 ≤ ((ji13) : Int) := of_decide_eq_true (by first | (with_reducible assumption) | assumption)
                        have q116 : (ji13) < (l1.length : Int) := of_decide_eq_true (by first | (with_reducible assumption) | assumption)
                        obtain ⟨ad116, e116, hx116_0⟩ := Kd.at_int HR1.out (ji13) p116 q116
                        have hw116_0 := hx116_0
                        cases e116
                        replace hx116_0 := (HB.out.cell (World.block_lt_of_cell? wA _ hx116_0)).trans hx116_0
                        replace p116 := eq_true p116
                        replace q116 := eq_true q116
                        have p117 : 0 ≤ ((ji16) : Int) := of_decide_eq_true (by first | (with_reducible assumption) | assumption)
                        have q117 : (ji16) < (l1.length : Int) := of_decide_eq_true (by first | (with_reducible assumption) | assumption)
                        obtain ⟨ad117, e117, hx117_0⟩ := Kd.at_int HR1.out (ji16) p117 q117
                        have hw117_0 := hx117_0
                        obtain rfl : ad116 = ad117 := (by injection e117)
                        replace hx117_0 := (HB.out.cell (World.block_lt_of_cell? wA _ hx117_0)).trans hx117_0
                        replace p117 := eq_true p117
                        replace q117 := eq_true q117
                        refine start_ (n := 18) (S := fun w' => w'.cell? ⟨gb115, 0, none⟩ = some (.int .i32 ((rd_T54 l0 x38_1).f0)) ∧ w'.cell? ⟨gb115, 1, none⟩ = some (.int .i32 ((rd_T54 l0 x38_1).f1)) ∧ w'.cell? (ad116.add ((ji13)).toNat) = some (.int .i32 (rd l1 (ji13))) ∧ w'.cell? (ad116.add ((ji16)).toNat) = some (.int .i32 (rd l1 (ji16)))) (ds := []) #[false, false, false, false, false, false, false, false, false, false, false, false, false, false, false, false, false, false] (by kernel_rfl) rfl rfl ⟨(blk_cell BK115.out 0).trans rfl, (blk_cell BK115.out 1).trans rfl, ((HB.out.cell (World.block_lt_of_cell? wA _ hw116_0)).trans hw116_0), ((HB.out.cell (World.block_lt_of_cell? wA _ hw117_0)).trans hw117_0)⟩ (fun hHeld => ?_); refine with_tabW rope_Table_Rotate.tab10 rope_Table_Rotate.bits10 (fun HT_ HW_ => ?_)
                        generalize w28.drew = w29 at HO_10 BK115 HB hx116_0 hx117_0 hHeld ⊢
                        refine pure_ (i := 0) (N := some 44) (v := ?_) (a' := ?_) #[true, false, false, false, false, false, false, false, false, false, false, false, false, false, false, false, false, false] rfl rfl (any_of HT_.out (by kernel_rfl)) (fun _ _ _ h => h) (Or.inl ⟨by rfl, ?_⟩) ?_ ?_
                        rotate_left
                        · intro w'
                          go_simp
                          with_reducible rfl
                        rotate_left
                        · simp only [Act.put, List.setIfInBounds_toArray, List.set_cons_zero, List.set_cons_succ, i64_w, i32_w]
                          rfl
                        refine pure_ (i := 1) (N := some 45) (v := ?_) (a' := ?_) #[true, true, false, false, false, false, false, false, false, false, false, false, false, false, false, false, false, false] rfl rfl (any_of HT_.out (by kernel_rfl)) (fun _ _ _ h => h) (Or.inl ⟨by rfl, ?_⟩) ?_ ?_
                        rotate_left
                        · intro w'
                          go_simp
                          with_reducible rfl
                        rotate_left
                        · simp only [Act.put, List.setIfInBounds_toArray, List.set_cons_zero, List.set_cons_succ, i64_w, i32_w]
                          rfl
                        refine pure_ (i := 2) (N := some 46) (v := ?_) (a' := ?_) #[true, true, true, false, false, false, false, false, false, false, false, false, false, false, false, false, false, false] rfl rfl (any_of HT_.out (by kernel_rfl)) (fun _ _ _ h => h) (Or.inl ⟨by rfl, ?_⟩) ?_ ?_
                        rotate_left
                        · intro w'
                          go_simp
                          with_reducible rfl
                        rotate_left
                        · simp only [Act.put, List.setIfInBounds_toArray, List.set_cons_zero, List.set_cons_succ, i64_w, i32_w]
                          rfl
                        refine pure_ (i := 3) (N := some 47) (v := ?_) (a' := ?_) #[true, true, true, true, false, false, false, false, false, false, false, false, false, false, false, false, false, false] rfl rfl (any_of HT_.out (by kernel_rfl)) (fun _ _ _ h => h) (Or.inl ⟨by rfl, ?_⟩) ?_ ?_
                        rotate_left
                        · intro w'
                          go_simp
                          with_reducible rfl
                        rotate_left
                        · simp only [Act.put, List.setIfInBounds_toArray, List.set_cons_zero, List.set_cons_succ, i64_w, i32_w]
                          rfl
                        refine pure_ (i := 5) (N := some 49) (v := ?_) (a' := ?_) #[true, true, true, true, false, true, false, false, false, false, false, false, false, false, false, false, false, false] rfl rfl (any_of HT_.out (by kernel_rfl)) (fun _ _ _ h => h) (Or.inl ⟨by rfl, ?_⟩) ?_ ?_
                        rotate_left
                        · intro w'
                          go_simp
                          with_reducible rfl
                        rotate_left
                        · simp only [Act.put, List.setIfInBounds_toArray, List.set_cons_zero, List.set_cons_succ, i64_w, i32_w]
                          rfl
                        refine pure_ (i := 6) (N := some 50) (v := ?_) (a' := ?_) #[true, true, true, true, false, true, true, false, false, false, false, false, false, false, false, false, false, false] rfl rfl (any_of HT_.out (by kernel_rfl)) (fun _ _ _ h => h) (Or.inl ⟨by rfl, ?_⟩) ?_ ?_
                        rotate_left
                        · intro w'
                          go_simp
                          with_reducible rfl
                        rotate_left
                        · simp only [Act.put, List.setIfInBounds_toArray, List.set_cons_zero, List.set_cons_succ, i64_w, i32_w]
                          rfl
                        refine pure_ (i := 7) (N := some 51) (v := ?_) (a' := ?_) #[true, true, true, true, false, true, true, true, false, false, false, false, false, false, false, false, false, false] rfl rfl (any_of HT_.out (by kernel_rfl)) (fun _ _ _ h => h) (Or.inl ⟨by rfl, ?_⟩) ?_ ?_
                        rotate_left
                        · intro w'
                          go_simp
                          with_reducible rfl
                        rotate_left
                        · simp only [Act.put, List.setIfInBounds_toArray, List.set_cons_zero, List.set_cons_succ, i64_w, i32_w]
                          rfl
                        refine pure_ (i := 8) (N := some 52) (v := ?_) (a' := ?_) #[true, true, true, true, false, true, true, true, true, false, false, false, false, false, false, false, false, false] rfl rfl (any_of HT_.out (by kernel_rfl)) (fun _ _ _ h => h) (Or.inl ⟨by rfl, ?_⟩) ?_ ?_
                        rotate_left
                        · intro w'
                          go_simp
                          with_reducible rfl
                        rotate_left
                        · simp only [Act.put, List.setIfInBounds_toArray, List.set_cons_zero, List.set_cons_succ, i64_w, i32_w]
                          rfl
                        refine pure_ (i := 9) (N := some 53) (v := ?_) (a' := ?_) #[true, true, true, true, false, true, true, true, true, true, false, false, false, false, false, false, false, false] rfl rfl (any_of HT_.out (by kernel_rfl)) (fun _ _ _ h => h) (Or.inl ⟨by rfl, ?_⟩) ?_ ?_
                        rotate_left
                        · intro w'
                          go_simp
                          with_reducible rfl
                        rotate_left
                        · simp only [Act.put, List.setIfInBounds_toArray, List.set_cons_zero, List.set_cons_succ, i64_w, i32_w]
                          rfl
                        refine take_ (i := 4) (N := some 48) (v := ?_) (a' := ?_) #[true, true, true, true, true, true, true, true, true, true, false, false, false, false, false, false, false, false] rfl rfl (take_ofW HT_.out HW_.out (by kernel_rfl)) (fun _ _ _ h => h) (Or.inl ⟨by rfl, ?_⟩) hHeld ?_ ?_
                        rotate_left
                        · rintro w' ⟨s0, s1, s2, s3⟩
                          go_simp
                          with_reducible rfl
                        rotate_left
                        · simp only [Act.put, List.setIfInBounds_toArray, List.set_cons_zero, List.set_cons_succ, i64_w, i32_w]
                          rfl
                        refine take_ (i := 10) (N := some 54) (v := ?_) (a' := ?_) #[true, true, true, true, true, true, true, true, true, true, true, false, false, false, false, false, false, false] rfl rfl (take_ofW HT_.out HW_.out (by kernel_rfl)) (fun _ _ _ h => h) (Or.inl ⟨by rfl, ?_⟩) hHeld ?_ ?_
                        rotate_left
                        · rintro w' ⟨s0, s1, s2, s3⟩
                          go_simp
                          with_reducible rfl
                        rotate_left
                        · simp only [Act.put, List.setIfInBounds_toArray, List.set_cons_zero, List.set_cons_succ, i64_w, i32_w]
                          rfl
                        refine take_ (i := 11) (N := some 55) (v := ?_) (a' := ?_) #[true, true, true, true, true, true, true, true, true, true, true, true, false, false, false, false, false, false] rfl rfl (take_ofW HT_.out HW_.out (by kernel_rfl)) (fun _ _ _ h => h) (Or.inl ⟨by rfl, ?_⟩) hHeld ?_ ?_
                        rotate_left
                        · rintro w' ⟨s0, s1, s2, s3⟩
                          go_simp
                          with_reducible rfl
                        rotate_left
                        · simp only [Act.put, List.setIfInBounds_toArray, List.set_cons_zero, List.set_cons_succ, i64_w, i32_w]
                          rfl
                        refine one_ (i := 12) (N := some 56) #[true, true, true, true, true, true, true, true, true, true, true, true, true, false, false, false, false, false] rfl rfl (one_of HT_.out (by kernel_rfl)) (by decide) (fun K hK => ?_)
                        refine goes_ Try.func68 (by kernel_rfl) rfl #[.int .i32 (rd l1 (ji13)), .int .i32 (rd l1 (ji16)), .agg #[.int .i32 ((rd_T54 l0 x38_1).f0), .int .i32 ((rd_T54 l0 x38_1).f1)]] (by rfl) rfl rfl (by (try simp only [List.map_toArray, List.map_cons, List.map_nil]); first | done | (simp only [hji13, hji16]; rfl) | rfl | (simp only [List.length_drop, List.length_take]; rfl)) ?_
                        with_reducible refine (rope_by.calls (rd l1 (ji13)) (rd l1 (ji16)) ((rd_T54 l0 x38_1).f0) ((rd_T54 l0 x38_1).f1) t118 t119 _ A19.out).mono ?_
                        rintro e w30 ⟨rfl, hb⟩
                        refine ⟨_, rfl, ?_⟩
                        have n0_ := Aside0.mk (Kd.R_below (by (with_reducible repeat (first | apply Kd.R_alloc | apply Kd.R_drewN | apply Kd.R_drew)); exact HO_10.out) hb)
                        have n1_ := Aside0.mk (blk_below (g := gb115) (o := .cells #[.int .i32 ((rd_T54 l0 x38_1).f0), .int .i32 ((rd_T54 l0 x38_1).f1)] 54 (0, 0)) (by (with_reducible repeat (first | refine blk_drewN ?_ _ | refine blk_drew ?_ | refine blk_alloc ?_ _)); exact BK115.out) hb)
                        have n2_ := Aside0.mk (below_step (by repeat (first | (with_reducible first | exact HB.out | apply below_alloc | apply pw_below_drewN | apply below_drew1 | refine below_set ?_ GE115.out) | exact HB.out)) hb)
                        clear HO_10
                        clear BK115
                        clear HB
                        have HO_10 := n0_
                        have BK115 := n1_
                        have HB := n2_
                        clear n0_ n1_ n2_
                        (try clear hb)
                        (try clear hb2)
                        (try clear hk)
                        (try clear hi)
                        refine hK.out _ _ ⟨(blk_cell BK115.out 0).trans rfl, (blk_cell BK115.out 1).trans rfl, ((HB.out.cell (World.block_lt_of_cell? wA _ hw116_0)).trans hw116_0), ((HB.out.cell (World.block_lt_of_cell? wA _ hw117_0)).trans hw117_0)⟩ (fun hHeld => ?_)
                        clear hK K
                        refine norm_ (a' := ?_) ?_ ?_
                        rotate_left
                        · show Act.put _ (some 56) _ = _
                          simp only [Act.put, List.setIfInBounds_toArray, List.set_cons_zero, List.set_cons_succ, i64_w, i32_w]
                          rfl
                        refine pure_ (i := 13) (N := some 43) (v := ?_) (a' := ?_) #[true, true, true, true, true, true, true, true, true, true, true, true, true, true, false, false, false, false] rfl rfl (any_of HT_.out (by kernel_rfl)) (fun _ _ _ h => h) (Or.inl ⟨by rfl, ?_⟩) ?_ ?_
                        rotate_left
                        · intro w'
                          go_simp
                          with_reducible rfl
                        rotate_left
                        · simp only [Act.put, List.setIfInBounds_toArray, List.set_cons_zero, List.set_cons_succ, i64_w, i32_w]
                          rfl
                        refine pure_ (i := 14) (N := some 57) (v := ?_) (a' := ?_) #[true, true, true, true, true, true, true, true, true, true, true, true, true, true, true, false, false, false] rfl rfl (any_of HT_.out (by kernel_rfl)) (fun _ _ _ h => h) (Or.inl ⟨by rfl, ?_⟩) ?_ ?_
                        rotate_left
                        · intro w'
                          go_simp
                          with_reducible rfl
                        rotate_left
                        · simp only [Act.put, List.setIfInBounds_toArray, List.set_cons_zero, List.set_cons_succ, i64_w, i32_w]
                          rfl
                        refine pure_ (i := 15) (N := some 58) (v := ?_) (a' := ?_) #[true, true, true, true, true, true, true, true, true, true, true, true, true, true, true, true, false, false] rfl rfl (any_of HT_.out (by kernel_rfl)) (fun _ _ _ h => h) (Or.inl ⟨by rfl, ?_⟩) ?_ ?_
                        rotate_left
                        · intro w'
                          go_simp
                          with_reducible rfl
                        rotate_left
                        · simp only [Act.put, List.setIfInBounds_toArray, List.set_cons_zero, List.set_cons_succ, i64_w, i32_w]
                          rfl
                        refine pure_ (i := 16) (N := some 13) (v := ?_) (a' := ?_) #[true, true, true, true, true, true, true, true, true, true, true, true, true, true, true, true, true, false] rfl rfl (any_of HT_.out (by kernel_rfl)) (fun _ _ _ h => h) (Or.inl ⟨by rfl, ?_⟩) ?_ ?_
                        rotate_left
                        · intro w'
                          go_simp
                          with_reducible rfl
                        rotate_left
                        · simp only [Act.put, List.setIfInBounds_toArray, List.set_cons_zero, List.set_cons_succ, i64_w, i32_w]
                          rfl
                        refine pure_ (i := 17) (N := some 14) (v := ?_) (a' := ?_) #[true, true, true, true, true, true, true, true, true, true, true, true, true, true, true, true, true, true] rfl rfl (any_of HT_.out (by kernel_rfl)) (fun _ _ _ h => h) (Or.inl ⟨by rfl, ?_⟩) ?_ ?_
                        rotate_left
                        · intro w'
                          go_simp
                          with_reducible rfl
                        rotate_left
                        · simp only [Act.put, List.setIfInBounds_toArray, List.set_cons_zero, List.set_cons_succ, i64_w, i32_w]
                          rfl
                        refine done_ (done_of HT_.out (by kernel_rfl)) ?_
                        try go_wp2_with (first | ((with_reducible refine gate_callee (f := 44) rfl ?_); refine goesL_ (some 67) rfl rfl Try.func44 (by kernel_rfl) rfl #[.int .i64 t118] rfl (by (try simp only [List.map_toArray, List.map_cons, List.map_nil]); first | done | rfl | (simp only [List.length_drop, List.length_take]; rfl)) ?_; (with_reducible refine (fix_Narrow.calls t118 t120 _ A20.out).mono ?_); rintro e w31 ⟨rfl, hb⟩; refine ⟨_, rfl, ?_⟩; have n0_ := Aside0.mk (Kd.R_below (by (with_reducible repeat (first | apply Kd.R_alloc | apply Kd.R_drewN | apply Kd.R_drew)); exact HO_10.out) hb); have n1_ := Aside0.mk (blk_below (g := gb115) (o := .cells #[.int .i32 ((rd_T54 l0 x38_1).f0), .int .i32 ((rd_T54 l0 x38_1).f1)] 54 (0, 0)) (by (with_reducible repeat (first | refine blk_drewN ?_ _ | refine blk_drew ?_ | refine blk_alloc ?_ _)); exact BK115.out) hb); have n2_ := Aside0.mk (below_step (by repeat (first | (with_reducible first | exact HB.out | apply below_alloc | apply pw_below_drewN | apply below_drew1 | refine below_set ?_ GE115.out) | exact HB.out)) hb); clear HO_10; clear BK115; clear HB; have HO_10 := n0_; have BK115 := n1_; have HB := n2_; clear n0_ n1_ n2_; (try clear hb); (try clear hb2); (try clear hk); (try clear hi)) | ((with_reducible refine gate_callee (f := 44) rfl ?_); refine goesL_ (some 69) rfl rfl Try.func44 (by kernel_rfl) rfl #[.int .i64 t119] rfl (by (try simp only [List.map_toArray, List.map_cons, List.map_nil]); first | done | rfl | (simp only [List.length_drop, List.length_take]; rfl)) ?_; (with_reducible refine (fix_Narrow.calls t119 t121 _ A21.out).mono ?_); rintro e w32 ⟨rfl, hb⟩; refine ⟨_, rfl, ?_⟩; have n0_ := Aside0.mk (Kd.R_below (by (with_reducible repeat (first | apply Kd.R_alloc | apply Kd.R_drewN | apply Kd.R_drew)); exact HO_10.out) hb); have n1_ := Aside0.mk (blk_below (g := gb115) (o := .cells #[.int .i32 ((rd_T54 l0 x38_1).f0), .int .i32 ((rd_T54 l0 x38_1).f1)] 54 (0, 0)) (by (with_reducible repeat (first | refine blk_drewN ?_ _ | refine blk_drew ?_ | refine blk_alloc ?_ _)); exact BK115.out) hb); have n2_ := Aside0.mk (below_step (by repeat (first | (with_reducible first | exact HB.out | apply below_alloc | apply pw_below_drewN | apply below_drew1 | refine below_set ?_ GE115.out) | exact HB.out)) hb); clear HO_10; clear BK115; clear HB; have HO_10 := n0_; have BK115 := n1_; have HB := n2_; clear n0_ n1_ n2_; (try clear hb); (try clear hb2); (try clear hk); (try clear hi); have p23 : 0 ≤ ((ji13) : Int) := of_decide_eq_true (by first | (with_reducible assumption) | assumption); have q23 : ((ji13) : Int) < ((x10_1.length : Int) : Int) := of_decide_eq_true (by first | (with_reducible assumption) | assumption); obtain ⟨go23, co23, eo23, gb23, gl23, cl23, HG23⟩ := Kd.R_form HO_10.out (by omega); (first | cases eo23 | (injection eo23 with ea_ en_ ec_; (first | subst ea_ | (injection ea_ with ea_; subst ea_)); subst ec_; clear en_)); have GB23 := Aside0.mk gb23; have GG23 := Aside0.mk HG23; clear gb23 gl23 HG23; obtain ⟨hx23_0, hf23_0⟩ := Kd.R_celln 0 HO_10.out ((ji13) : Int) p23 q23; replace p23 := eq_true p23; replace q23 := eq_true q23; obtain ⟨hy33_, hz33_⟩ := Kd.R_celln 0 HO_10.out ((ji13) : Int) (of_decide_eq_true (by first | (with_reducible assumption) | assumption)) (of_decide_eq_true (by first | (with_reducible assumption) | assumption)); have HP33 := Kd.R_putg HO_10.out ((ji13) : Int) t120) | ((with_reducible refine gate_store (t := 21) (p := 70) rfl ?_); refine store_event (t := 21) (p := 70) (v := ?vo_w34) (w1 := (w32.setCell ⟨go23, ((ji13) : Int).toNat, none⟩ (.int .i32 t120))) ?hg ?ho ?hn ?hr ?_; (case ho => rfl); (case hg => rfl); (case hn => rfl); (case hr => first | (go_simp; done) | (go_simp; rfl)); intro w34 hw; have hg : w32.grownBy w34 (some go23) := (by rw [hw]; exact HP33.2); have hp_ : Kd.R (Kd.int .i32) 21 w34 wA.heap.size (fun _ => True) (.slice (some ⟨go23, 0, none⟩) x10_1.length co23) y122 := (by rw [hw, Ny122.out]; exact HP33.1); clear HP33; have n0_ := Aside0.mk (hp_); have n1_ := Aside0.mk (blk_grown (g := gb115) (o := .cells #[.int .i32 ((rd_T54 l0 x38_1).f0), .int .i32 ((rd_T54 l0 x38_1).f1)] 54 (0, 0)) (by (with_reducible repeat (first | refine blk_drewN ?_ _ | refine blk_drew ?_ | refine blk_alloc ?_ _)); exact BK115.out) hg (Kd.R_ne HO_10.out BK115.out (by decide))); have n2_ := Aside0.mk ((by rw [hw]; exact below_set (HB.out) GB23.out : Below wA.heap.size wA w34)); clear HO_10; clear BK115; clear HB; have HO_10 := n0_; have BK115 := n1_; have HB := n2_; clear n0_ n1_ n2_; clear hg hw hp_; have p25 : 0 ≤ ((ji16) : Int) := of_decide_eq_true (by first | (with_reducible assumption) | assumption); have q25 : ((ji16) : Int) < ((x10_1.length : Int) : Int) := of_decide_eq_true (by first | (with_reducible assumption) | assumption); obtain ⟨hx25_0, hf25_0⟩ := Kd.R_celln 0 HO_10.out ((ji16) : Int) p25 q25; replace p25 := eq_true p25; replace q25 := eq_true q25; obtain ⟨hy35_, hz35_⟩ := Kd.R_celln 0 HO_10.out ((ji16) : Int) (of_decide_eq_true (by first | (with_reducible assumption) | assumption)) (of_decide_eq_true (by first | (with_reducible assumption) | assumption)); have HP35 := Kd.R_putg HO_10.out ((ji16) : Int) t121) | ((with_reducible refine gate_store (t := 21) (p := 71) rfl ?_); refine store_event (t := 21) (p := 71) (v := ?vo_w36) (w1 := (w34.setCell ⟨go23, ((ji16) : Int).toNat, none⟩ (.int .i32 t121))) ?hg ?ho ?hn ?hr ?_; (case ho => rfl); (case hg => rfl); (case hn => rfl); (case hr => first | (go_simp; done) | (go_simp; rfl)); intro w36 hw; have hg : w34.grownBy w36 (some go23) := (by rw [hw]; exact HP35.2); have hp_ : Kd.R (Kd.int .i32) 21 w36 wA.heap.size (fun _ => True) (.slice (some ⟨go23, 0, none⟩) x10_1.length co23) y123 := (by rw [hw, Ny123.out]; exact HP35.1); clear HP35; have n0_ := Aside0.mk (hp_); have n1_ := Aside0.mk (blk_grown (g := gb115) (o := .cells #[.int .i32 ((rd_T54 l0 x38_1).f0), .int .i32 ((rd_T54 l0 x38_1).f1)] 54 (0, 0)) (by (with_reducible repeat (first | refine blk_drewN ?_ _ | refine blk_drew ?_ | refine blk_alloc ?_ _)); exact BK115.out) hg (Kd.R_ne HO_10.out BK115.out (by decide))); have n2_ := Aside0.mk ((by rw [hw]; exact below_set (HB.out) GB23.out : Below wA.heap.size wA w36)); clear HO_10; clear BK115; clear HB; have HO_10 := n0_; have BK115 := n1_; have HB := n2_; clear n0_ n1_ n2_; clear hg hw hp_))
                        go_roundg k1
                        case measure => have := HK1.out; omega
                        case rel => exact ⟨(y123), (wrap64 (x38_1 + 1)), (by first | rfl | (simp; done) | (simp [*]; done)), H', ⟨by have := HK1.out; omega⟩, ⟨by (with_reducible repeat (first | apply Kd.R_alloc | apply Kd.R_drewN | apply Kd.R_drew)); exact HO_10.out⟩, ⟨by repeat (first | (with_reducible first | exact HB.out | apply below_alloc | apply pw_below_drewN | apply below_drew1 | refine below_set ?_ GE115.out) | exact HB.out)⟩⟩
                      · rw [if_neg c24] at H
                        exact absurd H (by simp)
                    · rw [if_neg c22] at H
                      exact absurd H (by simp)
                  · rw [if_neg c18] at H
                    exact absurd H (by simp)
                · rw [if_neg c17] at H
                  exact absurd H (by simp)
              · rw [if_neg c15] at H
                exact absurd H (by simp)
            · rw [if_neg c14] at H
              exact absurd H (by simp)
          · rw [if_neg c12] at H
            exact absurd H (by simp)
        · rw [if_neg c11] at H
          exact absurd H (by simp)
      · rw [if_neg c10] at H
        have c10b0 : decide (x38_1 < (l0.length : Int)) = false := decide_eq_false c10
        clear c10
        simp only [Option.some.injEq, Prod.mk.injEq] at H
        obtain rfl := H.1
        go_wp2
        rw [← HQ.out]
        obtain ⟨hT1, hg1⟩ := HT1.out
        have hB := HB.out
        have hR := HO_10.out
        exact ⟨_, rfl, Kd.R_lower hR hg1.size, tab_elder hT1 (Kd.R_base hR) hB, grown_below hg1 hB⟩
end Go.Proofs.Ytmndomlpdajjmac.Rt
