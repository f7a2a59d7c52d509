/- The method that makes a table's rows: its walk, and what it makes. -/
import Derived.Test.YtmndomlpdajjmacKb
namespace Go.Proofs.Ytmndomlpdajjmac.Rt
open Go.RowKit Go.Proofs.YtmndomlpdajjmacW.PrintWords Go.Proofs.YtmndomlpdajjmacW.PrintLast Go.Proofs.YtmndomlpdajjmacW.PrintMore
attribute [local go_sem] max2_int min2_int max_two min_two max_three min_three max_four min_four   -- for this text's walks alone
set_option linter.unusedVariables false
set_option linter.unusedSimpArgs false
theorem info42 : (Try.prog.info? 42).map (fun i => (i.zero, i.size, i.bytes)) = some (some (.slice none 0 0), 1, 24) := by kernel_rfl
/-- What is left behind: the rows are made, all else is kept. -/
def Built (w w' : World) (b : Nat) (A : Option Addr) (n c : Nat) (s : Int) (r : List (List S54)) : Prop := ∃ v : Value, Kd.S (Kd.slice 54 k54) 42 w' w.heap.size (fun _ => True) v r ∧ KB w w' b (tabO A n c 0 1 s v)
/-! ### rope_Table_build: function 92 -/
mutual
def rope_Table_build.l0 : Nat → List (S54) → List (S54) → Int → Int → Option ((List (List (S54))))
  | 0, _, _, _, _ => none
  | k + 1, x0, x2, x15, x16 => if x16 < x15 then (if 0 ≤ x16 then (if x16 < (x2.length : Int) then (rope_Table_build.l0 k x0 (x2.set (x16 : Int).toNat (⟨65536, 0⟩ : S54)) x15 (wrap64 (x16 + 1))) else (none)) else (none)) else (rope_Table_build.l1 k x0 ([] : List (List (S54))) x2 0)
def rope_Table_build.l1 : Nat → List (S54) → List (List (S54)) → List (S54) → Int → Option ((List (List (S54))))
  | 0, _, _, _, _ => none
  | k + 1, x0, x1, x2, x24 => if x24 < 1024 then ((rope_Turn.f x2).bind fun t114 => (if x1.length < 5864062014805 then (rope_Table_build.l2 k x0 (x1 ++ [t114]) x2 x24 x0 (x0.length : Int) 0) else (none))) else (some x1)
def rope_Table_build.l2 : Nat → List (S54) → List (List (S54)) → List (S54) → Int → List (S54) → Int → Int → Option ((List (List (S54))))
  | 0, _, _, _, _, _, _, _ => none
  | k + 1, x0, x1, x2, x24, x40, x41, x42 => if x42 < x41 then (if 0 ≤ x42 then (if x42 < (x40.length : Int) then (if x42 < (x2.length : Int) then ((rope_by.f ((rd_T54 x2 x42).f0) ((rd_T54 x2 x42).f1) ((rd_T54 x40 x42).f0) ((rd_T54 x40 x42).f1)).bind fun bt124 => ((rope_unit.f bt124.1).bind fun t126 => ((rope_unit.f bt124.2).bind fun t127 => (rope_Table_build.l2 k x0 x1 (x2.set (x42 : Int).toNat (⟨t126, t127⟩ : S54)) x24 x40 x41 (wrap64 (x42 + 1)))))) else (none)) else (none)) else (none)) else (rope_Table_build.l1 k x0 x1 x2 (wrap64 (x24 + 1)))
end
def rope_Table_build.f (k : Nat) (l0 : List (S54)) : Option ((List (List (S54)))) := if 0 ≤ (l0.length : Int) then (if ((l0.length : Int) : Int).toNat ≤ 35184372088832 then ((some (List.replicate ((l0.length : Int) : Int).toNat z54 : List (S54))).bind fun y110 => (rope_Table_build.l0 k l0 y110 (y110.length : Int) 0)) else (none)) else (none)
theorem rope_Table_build.mono_l : ∀ k, (∀ y0 y1 y2 y3, LeO (rope_Table_build.l0 k y0 y1 y2 y3) (rope_Table_build.l0 (k + 1) y0 y1 y2 y3)) ∧ (∀ y0 y1 y2 y3, LeO (rope_Table_build.l1 k y0 y1 y2 y3) (rope_Table_build.l1 (k + 1) y0 y1 y2 y3)) ∧ (∀ y0 y1 y2 y3 y4 y5 y6, LeO (rope_Table_build.l2 k y0 y1 y2 y3 y4 y5 y6) (rope_Table_build.l2 (k + 1) y0 y1 y2 y3 y4 y5 y6))
  | 0 => ⟨fun _ _ _ _ r h => by simp [rope_Table_build.l0] at h, fun _ _ _ _ r h => by simp [rope_Table_build.l1] at h, fun _ _ _ _ _ _ _ r h => by simp [rope_Table_build.l2] at h⟩
  | k + 1 => by
    obtain ⟨ih0, ih1, ih2⟩ := rope_Table_build.mono_l k
    refine ⟨?_, ?_, ?_⟩
    · intro y0 y1 y2 y3
      unfold rope_Table_build.l0
      repeat' first
      | (with_reducible exact ih0 _ _ _ _)
      | (with_reducible exact ih1 _ _ _ _)
      | (with_reducible exact ih2 _ _ _ _ _ _ _)
      | (with_reducible exact LeO.refl _)
      | (with_reducible exact LeO.none _)
      | (with_reducible refine LeO.ite ?_ ?_)
      | (with_reducible refine LeO.bind ?_ (fun _ => ?_))
      | exact ih0 _ _ _ _
      | exact ih1 _ _ _ _
      | exact ih2 _ _ _ _ _ _ _
      | exact LeO.none _
      | refine LeO.ite ?_ ?_
      | refine LeO.bind ?_ (fun _ => ?_)
    · intro y0 y1 y2 y3
      unfold rope_Table_build.l1
      repeat' first
      | (with_reducible exact ih0 _ _ _ _)
      | (with_reducible exact ih1 _ _ _ _)
      | (with_reducible exact ih2 _ _ _ _ _ _ _)
      | (with_reducible exact LeO.refl _)
      | (with_reducible exact LeO.none _)
      | (with_reducible refine LeO.ite ?_ ?_)
      | (with_reducible refine LeO.bind ?_ (fun _ => ?_))
      | exact ih0 _ _ _ _
      | exact ih1 _ _ _ _
      | exact ih2 _ _ _ _ _ _ _
      | exact LeO.none _
      | refine LeO.ite ?_ ?_
      | refine LeO.bind ?_ (fun _ => ?_)
    · intro y0 y1 y2 y3 y4 y5 y6
      unfold rope_Table_build.l2
      repeat' first
      | (with_reducible exact ih0 _ _ _ _)
      | (with_reducible exact ih1 _ _ _ _)
      | (with_reducible exact ih2 _ _ _ _ _ _ _)
      | (with_reducible exact LeO.refl _)
      | (with_reducible exact LeO.none _)
      | (with_reducible refine LeO.ite ?_ ?_)
      | (with_reducible refine LeO.bind ?_ (fun _ => ?_))
      | exact ih0 _ _ _ _
      | exact ih1 _ _ _ _
      | exact ih2 _ _ _ _ _ _ _
      | exact LeO.none _
      | refine LeO.ite ?_ ?_
      | refine LeO.bind ?_ (fun _ => ?_)
theorem rope_Table_build.mono : ∀ a0 k, LeO (rope_Table_build.f k a0) (rope_Table_build.f (k + 1) a0) := by
  intro a0 k
  obtain ⟨ih0, ih1, ih2⟩ := rope_Table_build.mono_l k
  unfold rope_Table_build.f
  repeat' first
      | (with_reducible exact ih0 _ _ _ _)
      | (with_reducible exact ih1 _ _ _ _)
      | (with_reducible exact ih2 _ _ _ _ _ _ _)
      | (with_reducible exact LeO.refl _)
      | (with_reducible exact LeO.none _)
      | (with_reducible refine LeO.ite ?_ ?_)
      | (with_reducible refine LeO.bind ?_ (fun _ => ?_))
      | exact ih0 _ _ _ _
      | exact ih1 _ _ _ _
      | exact ih2 _ _ _ _ _ _ _
      | exact LeO.none _
      | refine LeO.ite ?_ ?_
      | refine LeO.bind ?_ (fun _ => ?_)
def rope_Table_build.T8 : Bool × List (List Nat × List Nat) := (true, [([], []), ([], []), ([1], [1]), ([2], [2]), ([3], [3]), ([], []), ([5], [5]), ([6], [6]), ([4, 7, 6], [4, 7]), ([0, 0, 1, 2, 3, 4, 5, 6, 7, 8], [0]), ([9, 0, 1, 2, 3, 4, 5, 6, 7, 8], [9]), ([10, 8, 8, 0, 1, 2, 3, 4, 5, 6, 7, 8], [8, 10])])
def rope_Table_build.B8 : List Nat := [0, 0, 2, 6, 14, 0, 32, 96, 254, 511, 1023, 2047]
theorem rope_Table_build.tab8 : rtab .any (opsOf Try.f92 8) = rope_Table_build.T8 := by kernel_rfl
theorem rope_Table_build.bits8 : waitsOk rope_Table_build.T8.2 rope_Table_build.B8 = true := by kernel_rfl
def rope_Table_build.T12 : Bool × List (List Nat × List Nat) := (true, [([], []), ([], []), ([0, 1], [0, 1]), ([2], [2]), ([3], [3]), ([], []), ([], []), ([5, 6], [5, 6]), ([7], [7]), ([8], [8]), ([], []), ([4, 9, 10], [4, 9, 10]), ([11], [11]), ([12], [12]), ([12], [12]), ([13, 11, 0, 1, 2, 3, 4, 5, 6, 7, 8, 9, 10, 11, 12, 13], [13]), ([14, 15, 0, 1, 2, 3, 4, 5, 6, 7, 8, 9, 10, 11, 12, 13, 14, 15], [14])])
def rope_Table_build.B12 : List Nat := [0, 0, 3, 7, 15, 0, 0, 96, 224, 480, 0, 2047, 4095, 8191, 8191, 16383, 65535]
theorem rope_Table_build.tab12 : rtab .any (opsOf Try.f92 12) = rope_Table_build.T12 := by kernel_rfl
theorem rope_Table_build.bits12 : waitsOk rope_Table_build.T12.2 rope_Table_build.B12 = true := by kernel_rfl
set_option maxHeartbeats 8000000 in
set_option maxRecDepth 100000 in
theorem build_calls (k : Nat) (b : Nat) (s : Int) (A0 : Option Addr) (c0 : Nat) (l0 : List (S54)) (r : List (List (S54))) (w : World) (hr0 : Kd.C k54 w A0 l0.length l0) (hc0 : l0.length ≤ c0) (hA : ∀ ad, A0 = some ad → ad.block ≠ b) (ht : w.heap[b]? = some (tabO A0 l0.length c0 0 1 s (.slice none 0 0))) (h : rope_Table_build.f k l0 = some r) :
    Calls Try.prog 92 #[.pointer (some ⟨b, 0, none⟩)] w fun e w' => e = .returned (.tuple #[]) ∧ Built w w' b A0 l0.length c0 s r := by
  have hu54 := Try.underlying54
  have HR0 := Aside0.mk hr0
  have HC0 := Aside0.mk hc0
  clear hr0 hc0
  have HA := Aside0.mk hA
  clear hA
  have HB := Aside0.mk (kb_refl ht)
  clear ht
  have H : (if 0 ≤ (l0.length : Int) then (if ((l0.length : Int) : Int).toNat ≤ 35184372088832 then ((some (List.replicate ((l0.length : Int) : Int).toNat z54 : List (S54))).bind fun y110 => (rope_Table_build.l0 k l0 y110 (y110.length : Int) 0)) else (none)) else (none)) = some r := h
  clear h
  by_cases c2 : 0 ≤ (l0.length : Int)
  · rw [if_pos c2] at H
    have c2b0 := eq_true c2
    have c2b1 : decide (0 ≤ (l0.length : Int)) = true := decide_eq_true c2
    clear c2
    by_cases c3 : ((l0.length : Int) : Int).toNat ≤ 35184372088832
    · rw [if_pos c3] at H
      have c3b0 := eq_true c3
      have c3b1 : decide (((l0.length : Int) : Int).toNat ≤ 35184372088832) = true := decide_eq_true c3
      clear c3
      obtain ⟨y110, hy110⟩ : ∃ y_ : List (S54), y_ = (List.replicate ((l0.length : Int) : Int).toNat z54) := ⟨_, rfl⟩
      replace H : (rope_Table_build.l0 k l0 y110 (y110.length : Int) 0) = some r := by first | (rw [hy110]; with_reducible exact H) | (have H2_ := (Option.bind_some _ _).symm.trans H; rw [hy110]; with_reducible exact H2_) | (have H2_ := (Option.bind_some _ _).symm.trans H; with_reducible exact H2_) | with_reducible exact H | (rw [hy110]; exact H) | exact H
      have Ny110 := Aside0.mk hy110
      clear hy110
      have H' := Aside0.mk H
      clear H
      have ht0 := kb_turns HB.out
      go_enter Try.func92, Try.ntmps92
      go_wp2_with (first | ((with_reducible refine gate_dst (N := 13) rfl ?_); refine Kd.R_make k54 _ 54 rfl (N := 13) rfl 42 _ _ rfl (l0.length : Int) rfl rfl Try.underlying42 (.agg #[(.int .i32 0), (.int .i32 0)]) 8 info54 rfl (by decide) (by omega) z54 (ok := fun _ => True) (okp := fun _ => True) (k54_mkM _ _ _ z54 ) (fun _ hk => hk) trivial (of_decide_eq_true (by first | (with_reducible assumption) | assumption)) (Nat.le_trans (Nat.mul_le_mul_right _ (of_decide_eq_true (by first | (with_reducible assumption) | assumption) : (l0.length : Int).toNat ≤ 35184372088832)) (by omega)) (Below.refl _ _) (Nat.le_refl _) ?_; intro v111 w4 ho5 hb hg_ hnew_; clear hg_ hnew_; (first | rw [← Ny110.out] at ho5 | (simp only [Int.reduceToNat] at ho5; rw [← Ny110.out] at ho5)); have n0_ := Aside0.mk (Kd.R_lower ho5 (kb_size (by repeat (first | (with_reducible first | exact HB.out | apply kb_alloc | apply kb_drewN | apply kb_drew1) | exact HB.out)))); have n1_ := Aside0.mk (kb_step (by repeat (first | (with_reducible first | exact HB.out | apply kb_alloc | apply kb_drewN | apply kb_drew1) | exact HB.out)) hb); clear HB; have HO112 := n0_; have HB := n1_; clear n0_ n1_; clear hb ho5; obtain ⟨Ao6, co6, eo6⟩ := Kd.R_slice HO112.out; subst eo6))
      go_loopg [16] k (fun kq v16 w' => ∃ (x2_1 : List (S54)) (x16_1 : Int), v16 = .int .i64 x16_1 ∧ Aside0 (rope_Table_build.l0 kq l0 x2_1 (y110.length : Int) x16_1 = some r) ∧ Aside0 (kq ≤ k) ∧ Aside0 (Kd.R k54 54 w' w.heap.size (fun _ => True) (.slice Ao6 y110.length co6) x2_1) ∧ Aside0 (KB w w' b (tabO A0 l0.length c0 0 1 s (.slice none 0 0))))
      case atStart => exact ⟨(y110), (0), (by first | rfl | (simp; done) | (simp [*]; done)), H', ⟨Nat.le_refl _⟩, ⟨by (with_reducible repeat (first | apply Kd.R_alloc | apply Kd.R_drewN | apply Kd.R_drew)); exact HO112.out⟩, ⟨by repeat (first | (with_reducible first | exact HB.out | apply kb_alloc | apply kb_drewN | apply kb_drew1) | exact HB.out)⟩⟩
      case round =>
        clear H'
        obtain ⟨x2_1, x16_1, rfl, HA, HK1, HO_2, HB⟩ := hrel
        have hl2_1 := (Kd.R_reads' HO_2.out).1
        rw [hl2_1] at HO_2
        (try simp only [hl2_1])
        cases gk with
        | zero => exact absurd HA.out (by simp [rope_Table_build.l0])
        | succ k1 =>
          have H := HA.out
          clear HA
          simp only [rope_Table_build.l0] at H
          by_cases c7 : x16_1 < (y110.length : Int)
          · rw [if_pos c7] at H
            have c7b0 : decide (x16_1 < (y110.length : Int)) = true := decide_eq_true c7
            (try (have c7b0hl2_1 := c7b0; simp only [hl2_1] at c7b0hl2_1))
            clear c7
            by_cases c8 : 0 ≤ x16_1
            · rw [if_pos c8] at H
              have c8b0 : decide (0 ≤ x16_1) = true := decide_eq_true c8
              clear c8
              by_cases c9 : x16_1 < (x2_1.length : Int)
              · rw [if_pos c9] at H
                have c9b0 : decide (x16_1 < (x2_1.length : Int)) = true := decide_eq_true c9
                (try (have c9b0hl2_1 := c9b0; simp only [hl2_1] at c9b0hl2_1))
                clear c9
                obtain ⟨y113, hy113⟩ : ∃ y_ : List (S54), y_ = (x2_1.set (x16_1 : Int).toNat (⟨65536, 0⟩ : S54)) := ⟨_, rfl⟩
                replace H : (rope_Table_build.l0 k1 l0 y113 (y110.length : Int) (wrap64 (x16_1 + 1))) = some r := by first | (rw [hy113]; with_reducible exact H) | (have H2_ := (Option.bind_some _ _).symm.trans H; rw [hy113]; with_reducible exact H2_) | (have H2_ := (Option.bind_some _ _).symm.trans H; with_reducible exact H2_) | with_reducible exact H | (rw [hy113]; exact H) | exact H
                have Ny113 := Aside0.mk hy113
                clear hy113
                have H' := Aside0.mk H
                clear H
                have p10 : 0 ≤ (x16_1 : Int) := of_decide_eq_true (by first | (with_reducible assumption) | assumption)
                have q10 : (x16_1 : Int) < ((x2_1.length : Int) : Int) := of_decide_eq_true (by first | (with_reducible assumption) | assumption)
                obtain ⟨go10, co10, eo10, gb10, gl10, cl10, HG10⟩ := Kd.R_form HO_2.out (by omega)
                (first | cases eo10 | (injection eo10 with ea_ en_ ec_; (first | subst ea_ | (injection ea_ with ea_; subst ea_)); subst ec_; clear en_))
                have GB10 := Aside0.mk gb10
                have GG10 := Aside0.mk HG10
                clear gb10 gl10 HG10
                obtain ⟨ce10, hcl10, hM10, hcc10, hfr10⟩ := Kd.R_elem HO_2.out z54 (x16_1 : Int) p10 q10
                obtain rfl := k54_openM hM10
                have hx10_0 : wr.cell? ⟨go10, (x16_1 : Int).toNat * 2, none⟩ = some (.int .i32 ((rd_T54 x2_1 x16_1).f0)) := hcc10 0 _ rfl
                have hx10_1 : wr.cell? ⟨go10, (x16_1 : Int).toNat * 2 + 1, none⟩ = some (.int .i32 ((rd_T54 x2_1 x16_1).f1)) := hcc10 1 _ rfl
                have hf10_0 : wr.frozen? ⟨go10, (x16_1 : Int).toNat * 2, none⟩ = false := hfr10 0
                have hf10_1 : wr.frozen? ⟨go10, (x16_1 : Int).toNat * 2 + 1, none⟩ = false := hfr10 1
                clear hcl10 hcc10 hfr10 hM10
                replace p10 := eq_true p10
                replace q10 := eq_true q10
                have HX11 := Aside0.mk (show Kd.R k54 54 wr w.heap.size (fun _ => True) (.slice (some ⟨go10, 0, none⟩) x2_1.length co6) x2_1 from (by (with_reducible repeat (first | apply Kd.R_alloc | apply Kd.R_drewN | apply Kd.R_drew)); exact HO_2.out))
                obtain ⟨ce11, hcl11, hM11, hcc11, hfr11⟩ := Kd.R_elem HX11.out z54 (x16_1 : Int) (of_decide_eq_true (by first | (with_reducible assumption) | assumption)) (by have h_ : (x16_1 : Int) < ((x2_1.length : Int) : Int) := of_decide_eq_true (by first | (with_reducible assumption) | assumption); first | exact h_ | (have e_ := (Kd.R_reads' HO_2.out).1; omega) | simpa using h_)
                obtain rfl := k54_openM hM11
                have HP11 := Kd.R_seg HX11.out (x16_1 : Int) (of_decide_eq_true (by first | (with_reducible assumption) | assumption)) (by have h_ : (x16_1 : Int) < ((x2_1.length : Int) : Int) := of_decide_eq_true (by first | (with_reducible assumption) | assumption); first | exact h_ | (have e_ := (Kd.R_reads' HO_2.out).1; omega) | simpa using h_) (seg := [.int .i32 65536, .int .i32 0]) (j := 0) hcl11 hcc11 (show 2 ≤ 2 from by decide) (x' := (⟨65536, 0⟩ : S54)) (k54_mkM _ _ _ (⟨65536, 0⟩ : S54) ) (fun _ hk => hk)
                have hx11_0 := hcc11 0 _ rfl
                (try simp only [show (k54).sz = 2 from rfl, Nat.mul_one, Nat.add_zero] at hx11_0)
                have hf11_0 := hfr11 0
                (try simp only [show (k54).sz = 2 from rfl, Nat.mul_one, Nat.add_zero] at hf11_0)
                have hx11_1 := hcc11 1 _ rfl
                (try simp only [show (k54).sz = 2 from rfl, Nat.mul_one, Nat.add_zero] at hx11_1)
                have hf11_1 := hfr11 1
                (try simp only [show (k54).sz = 2 from rfl, Nat.mul_one, Nat.add_zero] at hf11_1)
                clear hcl11 hcc11 hfr11 hM11
                go_wp2_with (first | ((with_reducible refine gate_store (t := 54) (p := 22) rfl ?_); refine store_event (t := 54) (p := 22) (v := ?vo_w12) (w1 := ((wr.setCell ⟨go10, (x16_1 : Int).toNat * 2, none⟩ (.int .i32 65536)).setCell ⟨go10, (x16_1 : Int).toNat * 2 + 1, none⟩ (.int .i32 0))) ?hg ?ho ?hn ?hr ?_; (case ho => rfl); (case hg => rfl); (case hn => rfl); (case hr => first | (go_simp; done) | (go_simp; rfl)); intro w12 hw; have hg : wr.grownBy w12 (some go10) := (by rw [hw]; exact HP11.2); have hp_ : Kd.R k54 54 w12 w.heap.size (fun _ => True) (.slice (some ⟨go10, 0, none⟩) x2_1.length co6) y113 := (by rw [hw, Ny113.out]; exact HP11.1); clear HP11; have n0_ := Aside0.mk (hp_); have n1_ := Aside0.mk ((by rw [hw]; exact kbt_set (kbt_set (HB.out) GB10.out) GB10.out : KB w w12 b (tabO _ l0.length c0 0 1 s (.slice none 0 0)))); clear HO_2; clear HB; have HO_2 := n0_; have HB := n1_; clear n0_ n1_; clear hg hw hp_))
                (try simp only [← hl2_1])
                go_roundg k1
                case measure => have := HK1.out; omega
                case rel => exact ⟨(y113), (wrap64 (x16_1 + 1)), (by first | rfl | (simp; done) | (simp [*]; done)), H', ⟨by have := HK1.out; omega⟩, ⟨by (try simp only [hl2_1]); (with_reducible repeat (first | apply Kd.R_alloc | apply Kd.R_drewN | apply Kd.R_drew)); exact HO_2.out⟩, ⟨by repeat (first | (with_reducible first | exact HB.out | apply kb_alloc | apply kb_drewN | apply kb_drew1) | exact HB.out)⟩⟩
              · rw [if_neg c9] at H
                exact absurd H (by simp)
            · rw [if_neg c8] at H
              exact absurd H (by simp)
          · rw [if_neg c7] at H
            have c7b0 : decide (x16_1 < (y110.length : Int)) = false := decide_eq_false c7
            (try simp only [hl2_1] at c7b0)
            clear c7
            have H' := Aside0.mk H
            clear H
            go_wp2
            go_loopg [24] k1 (fun kq v24 w' => ∃ (u1 : Value) (x1_2 : List (List (S54))) (x2_2 : List (S54)) (x24_2 : Int), v24 = .int .i64 x24_2 ∧ Aside0 (rope_Table_build.l1 kq l0 x1_2 x2_2 x24_2 = some r) ∧ Aside0 (kq ≤ k1) ∧ Aside0 (Kd.S (Kd.slice 54 k54) 42 w' w.heap.size (fun k_ => some k_ ≠ ((.slice Ao6 x2_1.length co6) : Value).ownBlock) u1 x1_2) ∧ Aside0 (Kd.R k54 54 w' w.heap.size (fun _ => True) (.slice Ao6 x2_1.length co6) x2_2) ∧ Aside0 (KB w w' b (tabO A0 l0.length c0 0 1 s u1)))
            case atStart => exact ⟨(.slice none 0 0), (([] : List (List (S54)))), (x2_1), (0), (by first | rfl | (simp; done) | (simp [*]; done)), H', ⟨Nat.le_refl _⟩, ⟨by (try simp only [hl2_1]); first | exact Kd.S_nil _ _ _ _ _ | exact Kd.N_nil _ _ _ _ _ | exact Kd.V_nil _ _ _ _ _ | exact Kd.Q_nil _ _ _ _ _ | exact Kd.R_nil _ _ _ _ _⟩, ⟨by (try simp only [hl2_1]); (with_reducible repeat (first | apply Kd.R_alloc | apply Kd.R_drewN | apply Kd.R_drew)); exact HO_2.out⟩, ⟨by repeat (first | (with_reducible first | exact HB.out | apply kb_alloc | apply kb_drewN | apply kb_drew1) | exact HB.out)⟩⟩
            case round =>
              clear H'
              obtain ⟨u1, x1_2, x2_2, x24_2, rfl, HA, HK2, HO_1, HO_2, HB⟩ := hrel
              have hl2_2 := (Kd.R_reads' HO_2.out).1
              rw [hl2_2] at HO_2
              (try simp only [hl2_2])
              (try simp only [hl2_2] at HO_1)
              cases gk with
              | zero => exact absurd HA.out (by simp [rope_Table_build.l1])
              | succ k2 =>
                have H := HA.out
                clear HA
                simp only [rope_Table_build.l1] at H
                by_cases c13 : x24_2 < 1024
                · rw [if_pos c13] at H
                  have c13b0 : decide (x24_2 < 1024) = true := decide_eq_true c13
                  clear c13
                  replace H := Option.bind_eq_some_iff.mp H
                  obtain ⟨t114, A140, H⟩ := H
                  replace H : (if x1_2.length < 5864062014805 then (rope_Table_build.l2 k2 l0 (x1_2 ++ [t114]) x2_2 x24_2 l0 (l0.length : Int) 0) else (none)) = some r := H
                  have A14 := Aside0.mk A140
                  clear A140
                  by_cases c15 : x1_2.length < 5864062014805
                  · rw [if_pos c15] at H
                    have LMc15 := Aside0.mk c15
                    clear c15
                    obtain ⟨y117, hy117⟩ : ∃ y_ : List (List (S54)), y_ = (x1_2 ++ [t114]) := ⟨_, rfl⟩
                    replace H : (rope_Table_build.l2 k2 l0 y117 x2_2 x24_2 l0 (l0.length : Int) 0) = some r := by first | (rw [hy117]; with_reducible exact H) | (have H2_ := (Option.bind_some _ _).symm.trans H; rw [hy117]; with_reducible exact H2_) | (have H2_ := (Option.bind_some _ _).symm.trans H; with_reducible exact H2_) | with_reducible exact H | (rw [hy117]; exact H) | exact H
                    have Ny117 := Aside0.mk hy117
                    clear hy117
                    have H' := Aside0.mk H
                    clear H
                    try go_wp2
                    have n0_ := Aside0.mk (Kd.S_drew HO_1.out)
                    have n1_ := Aside0.mk (Kd.R_drew HO_2.out)
                    have n2_ := Aside0.mk (kb_drew1 HB.out)
                    clear HO_1
                    clear HO_2
                    clear HB
                    have HO_1 := n0_
                    have HO_2 := n1_
                    have HB := n2_
                    clear n0_ n1_ n2_
                    refine start_ (n := 12) (S := fun w' => w'.cell? ⟨b, 4, none⟩ = some u1) (ds := [11]) #[false, false, false, false, false, false, false, false, false, false, false, false] (by kernel_rfl) rfl rfl (kb_rows HB.out) (fun hHeld => ?_); refine with_tabW rope_Table_build.tab8 rope_Table_build.bits8 (fun HT_ HW_ => ?_)
                    generalize wr.drew = w16 at HO_1 HO_2 HB hHeld ⊢
                    refine pure_ (i := 0) (N := some 26) (v := ?_) (a' := ?_) #[true, false, false, false, false, false, false, false, false, false, false, false] rfl rfl (any_of HT_.out (by kernel_rfl)) (fun _ _ _ h => h) (Or.inl ⟨by rfl, ?_⟩) ?_ ?_
                    rotate_left
                    · intro w'
                      go_simp
                      with_reducible rfl
                    rotate_left
                    · simp only [Act.put, List.setIfInBounds_toArray, List.set_cons_zero, List.set_cons_succ, i64_w, i32_w]
                      rfl
                    refine pure_ (i := 1) (N := some 27) (v := ?_) (a' := ?_) #[true, true, false, false, false, false, false, false, false, false, false, false] rfl rfl (any_of HT_.out (by kernel_rfl)) (fun _ _ _ h => h) (Or.inl ⟨by rfl, ?_⟩) ?_ ?_
                    rotate_left
                    · intro w'
                      go_simp
                      with_reducible rfl
                    rotate_left
                    · simp only [Act.put, List.setIfInBounds_toArray, List.set_cons_zero, List.set_cons_succ, i64_w, i32_w]
                      rfl
                    refine pure_ (i := 2) (N := some 28) (v := ?_) (a' := ?_) #[true, true, true, false, false, false, false, false, false, false, false, false] rfl rfl (any_of HT_.out (by kernel_rfl)) (fun _ _ _ h => h) (Or.inl ⟨by rfl, ?_⟩) ?_ ?_
                    rotate_left
                    · intro w'
                      go_simp
                      with_reducible rfl
                    rotate_left
                    · simp only [Act.put, List.setIfInBounds_toArray, List.set_cons_zero, List.set_cons_succ, i64_w, i32_w]
                      rfl
                    refine pure_ (i := 3) (N := some 29) (v := ?_) (a' := ?_) #[true, true, true, true, false, false, false, false, false, false, false, false] rfl rfl (any_of HT_.out (by kernel_rfl)) (fun _ _ _ h => h) (Or.inl ⟨by rfl, ?_⟩) ?_ ?_
                    rotate_left
                    · intro w'
                      go_simp
                      with_reducible rfl
                    rotate_left
                    · simp only [Act.put, List.setIfInBounds_toArray, List.set_cons_zero, List.set_cons_succ, i64_w, i32_w]
                      rfl
                    refine take_ (i := 4) (N := some 30) (v := ?_) (a' := ?_) #[true, true, true, true, true, false, false, false, false, false, false, false] rfl rfl (take_ofW HT_.out HW_.out (by kernel_rfl)) (fun _ _ _ h => h) (Or.inl ⟨by rfl, ?_⟩) hHeld ?_ ?_
                    rotate_left
                    · rintro w' s0
                      go_simp
                      with_reducible rfl
                    rotate_left
                    · simp only [Act.put, List.setIfInBounds_toArray, List.set_cons_zero, List.set_cons_succ, i64_w, i32_w]
                      rfl
                    refine pure_ (i := 5) (N := some 31) (v := ?_) (a' := ?_) #[true, true, true, true, true, true, false, false, false, false, false, false] rfl rfl (any_of HT_.out (by kernel_rfl)) (fun _ _ _ h => h) (Or.inl ⟨by rfl, ?_⟩) ?_ ?_
                    rotate_left
                    · intro w'
                      go_simp
                      with_reducible rfl
                    rotate_left
                    · simp only [Act.put, List.setIfInBounds_toArray, List.set_cons_zero, List.set_cons_succ, i64_w, i32_w]
                      rfl
                    refine one_ (i := 6) (N := some 32) #[true, true, true, true, true, true, true, false, false, false, false, false] rfl rfl (one_of HT_.out (by kernel_rfl)) (by decide) (fun K hK => ?_)
                    refine goes_ Try.func65 (by kernel_rfl) rfl #[.slice Ao6 x2_2.length co6] (by rfl) rfl rfl (by (try simp only [List.map_toArray, List.map_cons, List.map_nil]); first | done | rfl | (simp only [List.length_drop, List.length_take]; rfl)) ?_
                    with_reducible refine (rope_Turn.calls _ _ x2_2 t114 _ ?side1 ?side2 A14.out).mono ?_
                    (case side1 => repeat (first | exact (Kd.R_reads' HO_2.out).2.2 | (with_reducible refine Kd.C_alloc ?_ _) | (with_reducible refine Kd.C_drewN ?_ _) | (with_reducible refine Kd.C_drew ?_)))
                    (case side2 => exact (Kd.R_reads' HO_2.out).2.1)
                    rintro e w17 ⟨v115, rfl, ho0, hb⟩
                    refine ⟨_, rfl, ?_⟩
                    have n0_ := Aside0.mk (Kd.S_elder' (by (with_reducible repeat (first | apply Kd.S_alloc | apply Kd.S_drewN | apply Kd.S_drew)); exact HO_1.out) (Kd.R_base ho0) hb)
                    have n1_ := Aside0.mk (Kd.R_elder' (by (with_reducible repeat (first | apply Kd.R_alloc | apply Kd.R_drewN | apply Kd.R_drew)); exact HO_2.out) (Kd.R_base ho0) hb)
                    have n2_ := Aside0.mk (Kd.R_lower (Kd.R_new' ho0 (Kd.R_lt (by (with_reducible repeat (first | apply Kd.R_alloc | apply Kd.R_drewN | apply Kd.R_drew)); exact HO_2.out))) (kb_size (by repeat (first | (with_reducible first | exact HB.out | apply kb_alloc | apply kb_drewN | apply kb_drew1) | exact HB.out))))
                    have n3_ := Aside0.mk (kb_step (by repeat (first | (with_reducible first | exact HB.out | apply kb_alloc | apply kb_drewN | apply kb_drew1) | exact HB.out)) hb)
                    clear HO_1
                    clear HO_2
                    clear HB
                    have HO_1 := n0_
                    have HO_2 := n1_
                    have HO116 := n2_
                    have HB := n3_
                    clear n0_ n1_ n2_ n3_
                    (try clear hb)
                    (try clear hb2)
                    (try clear hk)
                    (try clear hi)
                    (try clear ho0)
                    obtain ⟨Ao19, co19, eo19⟩ := Kd.R_slice HO116.out
                    (first | subst eo19 | (injection eo19 with f1_ f2_ f3_; have f4_ := f1_.symm; have f5_ := f3_.symm; clear f1_ f2_ f3_; subst f4_; subst f5_))
                    refine hK.out _ _ (kb_rows HB.out) (fun hHeld => ?_)
                    clear hK K
                    refine norm_ (a' := ?_) ?_ ?_
                    rotate_left
                    · show Act.put _ (some 32) _ = _
                      simp only [Act.put, List.setIfInBounds_toArray, List.set_cons_zero, List.set_cons_succ, i64_w, i32_w]
                      rfl
                    refine one_ (i := 7) (N := some 33) #[true, true, true, true, true, true, true, true, false, false, false, false] rfl rfl (one_of HT_.out (by kernel_rfl)) (by decide) (fun K hK => ?_)
                    refine value_ (w1 := ?_) (v := ?_) (by rfl) rfl ?_ ?_
                    rotate_left 2
                    · go_simp
                      constructor
                      · rfl
                      · rfl
                    refine hK.out _ _ (kb_rows (kb_alloc HB.out _)) (fun hHeld => ?_)
                    clear hK K
                    refine norm_ (a' := ?_) ?_ ?_
                    rotate_left
                    · show Act.put _ (some 33) _ = _
                      simp only [Act.put, List.setIfInBounds_toArray, List.set_cons_zero, List.set_cons_succ, i64_w, i32_w]
                      rfl
                    refine one_ (i := 8) (N := some 34) #[true, true, true, true, true, true, true, true, true, false, false, false] rfl rfl (one_of HT_.out (by kernel_rfl)) (by decide) (fun K hK => ?_)
                    refine Kd.S_append_step (Kd.slice 54 k54) w.heap.size (by rfl) (.tmp 30) (.tmp 33) 94 42 (.slice none 0 0) 24 rfl Try.underlying94 info42 rfl (by decide) (by omega) u1 x1_2 t114 [.slice Ao19 t114.length co19] (fun k_ => some k_ ≠ (.slice Ao6 x2_2.length co6 : Value).ownBlock) (fun k_ => some k_ = (.slice Ao19 t114.length co19 : Value).ownBlock) rfl rfl ?aP (fun k_ hk_ => ((Kd.R_mono (ok' := fun k_ => ((fun k_ => some k_ ≠ (.slice Ao6 x2_2.length co6 : Value).ownBlock)) k_ ∧ some k_ ≠ (u1 : Value).ownBlock) (Kd.R_apart' (HO116.out) (Kd.S_typed HO_1.out) (by decide)) (fun k_ hk => ⟨hk.1.2, hk.2⟩))).1 k_ hk_.symm) ?aF ?aO (Below.refl _ _) ?aS ?aL ?_
                    (case aP => exact Kd.M_row (Kd.R_mono (Kd.R_tight rfl (Kd.R_mono (ok' := fun k_ => ((fun k_ => some k_ ≠ (.slice Ao6 x2_2.length co6 : Value).ownBlock)) k_ ∧ some k_ ≠ (u1 : Value).ownBlock) (Kd.R_apart' (HO116.out) (Kd.S_typed HO_1.out) (by decide)) (fun k_ hk => ⟨hk.1.2, hk.2⟩))) (fun _ h_ => h_)))
                    (case aF => exact (fun k_ hk => Kd.fresh' (Kd.R_lt (by (with_reducible repeat (first | apply Kd.R_alloc | apply Kd.R_drewN | apply Kd.R_drew)); exact HO_2.out)) k_ hk))
                    (case aO => exact (by (with_reducible repeat (first | apply Kd.S_alloc | apply Kd.S_drewN | apply Kd.S_drew)); exact Kd.S_mono HO_1.out (fun k_ hk => ⟨hk.1, fun e_ => hk.2 e_⟩)))
                    (case aS => exact (kb_size (by repeat (first | (with_reducible first | exact HB.out | apply kb_alloc | apply kb_drewN | apply kb_drew1) | exact HB.out))))
                    (case aL => have := LMc15.out; omega)
                    intro v118 w18 ho hb hg hat
                    rw [← Ny117.out] at ho
                    have n0_ := Aside0.mk (Kd.R_over' (by (with_reducible repeat (first | apply Kd.R_alloc | apply Kd.R_drewN | apply Kd.R_drew)); exact HO_2.out) (Kd.S_typed (by (with_reducible repeat (first | apply Kd.S_alloc | apply Kd.S_drewN | apply Kd.S_drew)); exact HO_1.out)) (by decide) hg)
                    have n1_ := Aside0.mk (kb_grown (by repeat (first | (with_reducible first | exact HB.out | apply kb_alloc | apply kb_drewN | apply kb_drew1) | exact HB.out)) hg (Kd.S_base HO_1.out))
                    have n2_ := Aside0.mk (ho)
                    clear HO_2
                    clear HB
                    clear HO_1
                    clear HO116
                    have HO_2 := n0_
                    have HB := n1_
                    have HO119 := n2_
                    clear n0_ n1_ n2_
                    clear ho hb hg hat
                    refine hK.out _ _ (kb_rows HB.out) (fun hHeld => ?_)
                    clear hK K
                    refine norm_ (a' := ?_) ?_ ?_
                    rotate_left
                    · show Act.put _ (some 34) _ = _
                      simp only [Act.put, List.setIfInBounds_toArray, List.set_cons_zero, List.set_cons_succ, i64_w, i32_w]
                      rfl
                    refine pure_ (i := 9) (N := some 35) (v := ?_) (a' := ?_) #[true, true, true, true, true, true, true, true, true, true, false, false] rfl rfl (any_of HT_.out (by kernel_rfl)) (fun _ _ _ h => h) (Or.inl ⟨by rfl, ?_⟩) ?_ ?_
                    rotate_left
                    · intro w'
                      go_simp
                      with_reducible rfl
                    rotate_left
                    · simp only [Act.put, List.setIfInBounds_toArray, List.set_cons_zero, List.set_cons_succ, i64_w, i32_w]
                      rfl
                    refine pure_ (i := 10) (N := some 36) (v := ?_) (a' := ?_) #[true, true, true, true, true, true, true, true, true, true, true, false] rfl rfl (any_of HT_.out (by kernel_rfl)) (fun _ _ _ h => h) (Or.inl ⟨by rfl, ?_⟩) ?_ ?_
                    rotate_left
                    · intro w'
                      go_simp
                      with_reducible rfl
                    rotate_left
                    · simp only [Act.put, List.setIfInBounds_toArray, List.set_cons_zero, List.set_cons_succ, i64_w, i32_w]
                      rfl
                    refine last_ (i := 11) (N := none) #[true, true, true, true, true, true, true, true, true, true, true, true] rfl rfl (by first | exact one_of HT_.out (by kernel_rfl) | kernel_rfl) (by decide) (fun K hK => ?_)
                    refine skip_ (w1 := w18.setCell ⟨b, 4, none⟩ v118) (by rfl) rfl ?_ ?_
                    · obtain ⟨Av, cv, ev⟩ := Kd.S_slice HO119.out
                      subst ev
                      have hz4 := kb_frozen HB.out 4
                      have hq4 := kb_rows HB.out
                      go_simp
                    have hlt := HB.out.2.2
                    have n0_ := Aside0.mk (Kd.S_mono (Kd.S_far (p := ⟨b, 4, none⟩) (Kd.S_bound HO119.out) (fun k_ hk_ => by have := hk_.2.1; show k_ ≠ b; omega) v118) (fun _ h_ => h_.1))
                    have n1_ := Aside0.mk (Kd.R_mono (Kd.R_far (p := ⟨b, 4, none⟩) (Kd.R_bound HO_2.out) (fun k_ hk_ => by have := hk_.2.1; show k_ ≠ b; omega) v118) (fun _ h_ => h_.1))
                    have n2_ := Aside0.mk (kb_put (u := v118) HB.out)
                    clear HO119
                    clear HO_2
                    clear HB
                    have HO119 := n0_
                    have HO_2 := n1_
                    have HB := n2_
                    clear n0_ n1_ n2_ hlt
                    refine hK.out _ _ ?_
                    clear hK K
                    refine done_ (done_of HT_.out (by kernel_rfl)) ?_
                    have ht9 := kb_turns HB.out
                    go_wp2
                    clear ht9
                    go_loopg [42] k2 (fun kq v42 w' => ∃ (x2_3 : List (S54)) (x42_3 : Int), v42 = .int .i64 x42_3 ∧ Aside0 (rope_Table_build.l2 kq l0 y117 x2_3 x24_2 l0 (l0.length : Int) x42_3 = some r) ∧ Aside0 (kq ≤ k2) ∧ Aside0 (Kd.S (Kd.slice 54 k54) 42 w' w.heap.size (fun k_ => some k_ ≠ ((.slice Ao6 x2_2.length co6) : Value).ownBlock) v118 y117) ∧ Aside0 (Kd.R k54 54 w' w.heap.size (fun _ => True) (.slice Ao6 x2_2.length co6) x2_3) ∧ Aside0 (KB w w' b (tabO A0 l0.length c0 0 1 s v118)))
                    case atStart => exact ⟨(x2_2), (0), (by first | rfl | (simp; done) | (simp [*]; done)), H', ⟨Nat.le_refl _⟩, ⟨by (try simp only [hl2_1]); (try simp only [hl2_2]); (with_reducible repeat (first | apply Kd.S_alloc | apply Kd.S_drewN | apply Kd.S_drew)); exact HO119.out⟩, ⟨by (try simp only [hl2_1]); (try simp only [hl2_2]); (with_reducible repeat (first | apply Kd.R_alloc | apply Kd.R_drewN | apply Kd.R_drew)); exact Kd.R_mono HO_2.out (fun _ hk => trivial)⟩, ⟨by repeat (first | (with_reducible first | exact HB.out | apply kb_alloc | apply kb_drewN | apply kb_drew1) | exact HB.out)⟩⟩
                    case round =>
                      clear H'
                      obtain ⟨x2_3, x42_3, rfl, HA, HK3, HO_1, HO_2, HB⟩ := hrel
                      have hl2_3 := (Kd.R_reads' HO_2.out).1
                      rw [hl2_3] at HO_2
                      (try simp only [hl2_3])
                      (try simp only [hl2_3] at HO_1)
                      cases gk with
                      | zero => exact absurd HA.out (by simp [rope_Table_build.l2])
                      | succ k3 =>
                        have H := HA.out
                        clear HA
                        simp only [rope_Table_build.l2] at H
                        by_cases c20 : x42_3 < (l0.length : Int)
                        · rw [if_pos c20] at H
                          have c20b0 : decide (x42_3 < (l0.length : Int)) = true := decide_eq_true c20
                          (try (have c20b0hl2_1 := c20b0; simp only [hl2_1] at c20b0hl2_1))
                          (try (have c20b0hl2_2 := c20b0; simp only [hl2_2] at c20b0hl2_2))
                          (try (have c20b0hl2_3 := c20b0; simp only [hl2_3] at c20b0hl2_3))
                          clear c20
                          by_cases c21 : 0 ≤ x42_3
                          · rw [if_pos c21] at H
                            have c21b0 : decide (0 ≤ x42_3) = true := decide_eq_true c21
                            clear c21
                            by_cases c22 : x42_3 < (l0.length : Int)
                            · rw [if_pos c22] at H
                              have c22b0 : decide (x42_3 < (l0.length : Int)) = true := decide_eq_true c22
                              (try (have c22b0hl2_1 := c22b0; simp only [hl2_1] at c22b0hl2_1))
                              (try (have c22b0hl2_2 := c22b0; simp only [hl2_2] at c22b0hl2_2))
                              (try (have c22b0hl2_3 := c22b0; simp only [hl2_3] at c22b0hl2_3))
                              clear c22
                              by_cases c23 : x42_3 < (x2_3.length : Int)
                              · rw [if_pos c23] at H
                                have c23b0 : decide (x42_3 < (x2_3.length : Int)) = true := decide_eq_true c23
                                (try (have c23b0hl2_1 := c23b0; simp only [hl2_1] at c23b0hl2_1))
                                (try (have c23b0hl2_2 := c23b0; simp only [hl2_2] at c23b0hl2_2))
                                (try (have c23b0hl2_3 := c23b0; simp only [hl2_3] at c23b0hl2_3))
                                clear c23
                                replace H := Option.bind_eq_some_iff.mp H
                                obtain ⟨⟨t124, t125⟩, A240, H⟩ := H
                                replace H : ((rope_unit.f t124).bind fun t126 => ((rope_unit.f t125).bind fun t127 => (rope_Table_build.l2 k3 l0 y117 (x2_3.set (x42_3 : Int).toNat (⟨t126, t127⟩ : S54)) x24_2 l0 (l0.length : Int) (wrap64 (x42_3 + 1))))) = some r := H
                                have A24 := Aside0.mk A240
                                clear A240
                                replace H := Option.bind_eq_some_iff.mp H
                                obtain ⟨t126, A250, H⟩ := H
                                replace H : ((rope_unit.f t125).bind fun t127 => (rope_Table_build.l2 k3 l0 y117 (x2_3.set (x42_3 : Int).toNat (⟨t126, t127⟩ : S54)) x24_2 l0 (l0.length : Int) (wrap64 (x42_3 + 1)))) = some r := H
                                have A25 := Aside0.mk A250
                                clear A250
                                replace H := Option.bind_eq_some_iff.mp H
                                obtain ⟨t127, A260, H⟩ := H
                                replace H : (rope_Table_build.l2 k3 l0 y117 (x2_3.set (x42_3 : Int).toNat (⟨t126, t127⟩ : S54)) x24_2 l0 (l0.length : Int) (wrap64 (x42_3 + 1))) = some r := H
                                have A26 := Aside0.mk A260
                                clear A260
                                obtain ⟨y128, hy128⟩ : ∃ y_ : List (S54), y_ = (x2_3.set (x42_3 : Int).toNat (⟨t126, t127⟩ : S54)) := ⟨_, rfl⟩
                                replace H : (rope_Table_build.l2 k3 l0 y117 y128 x24_2 l0 (l0.length : Int) (wrap64 (x42_3 + 1))) = some r := by first | (rw [hy128]; with_reducible exact H) | (have H2_ := (Option.bind_some _ _).symm.trans H; rw [hy128]; with_reducible exact H2_) | (have H2_ := (Option.bind_some _ _).symm.trans H; with_reducible exact H2_) | with_reducible exact H | (rw [hy128]; exact H) | exact H
                                have Ny128 := Aside0.mk hy128
                                clear hy128
                                have H' := Aside0.mk H
                                clear H
                                have p120 : 0 ≤ (x42_3 : Int) := of_decide_eq_true (by first | (with_reducible assumption) | assumption)
                                have q120 : x42_3 < (l0.length : Int) := of_decide_eq_true (by first | (with_reducible assumption) | assumption)
                                obtain ⟨ad120, e120, hx120_0, hx120_1⟩ := at_T54 HR0.out x42_3 p120 q120
                                cases e120
                                have hne120 := HA.out _ rfl
                                replace hx120_0 := kb_cell HB.out hx120_0 (by first | (rw [add_block]; exact hne120) | exact hne120)
                                replace hx120_1 := kb_cell HB.out hx120_1 (by first | (show (Addr.add _ _).block ≠ _; rw [add_block]; exact hne120) | exact hne120)
                                clear hne120
                                replace p120 := eq_true p120
                                replace q120 := eq_true q120
                                try go_wp2_with (first | ((with_reducible refine gate_dst (N := 5) rfl ?_); refine box_event ?hg (N := 5) ?hd (cs := #[.int .i32 0, .int .i32 0]) (t := 54) ?hr ?_; (case hd => rfl); (case hg => rfl); (case hr => first | (go_simp; done) | (go_simp; rfl)); intro gb121 hg w28 hbox hb; have n0_ := Aside0.mk (Kd.S_below (Kd.S_elderB (by (with_reducible repeat (first | apply Kd.S_alloc | apply Kd.S_drewN | apply Kd.S_drew)); exact HO_1.out) gb121 (Nat.le_of_eq hg.symm)) hb); have n1_ := Aside0.mk (Kd.R_below (Kd.R_elderB (by (with_reducible repeat (first | apply Kd.R_alloc | apply Kd.R_drewN | apply Kd.R_drew)); exact HO_2.out) gb121 (Nat.le_of_eq hg.symm)) hb); have n2_ := Aside0.mk (kb_step (by repeat (first | (with_reducible first | exact HB.out | apply kb_alloc | apply kb_drewN | apply kb_drew1) | exact HB.out)) hb); have n3_ := Aside0.mk (hbox); have n4_ := Aside0.mk ((by rw [hg]; exact (kb_size (by repeat (first | (with_reducible first | exact HB.out | apply kb_alloc | apply kb_drewN | apply kb_drew1) | exact HB.out))) : w.heap.size ≤ gb121)); have n5_ := Aside0.mk ((by rw [hg]; exact (kb_size (by repeat (first | (with_reducible first | exact HB.out | apply kb_alloc | apply kb_drewN | apply kb_drew1) | exact HB.out))) : w.heap.size ≤ gb121)); clear HO_1; clear HO_2; clear HB; have HO_1 := n0_; have HO_2 := n1_; have HB := n2_; have BK121 := n3_; have GW121 := n4_; have GE121 := n5_; clear n0_ n1_ n2_ n3_ n4_ n5_; clear hb hbox hg; have hcz29_0 : w28.cell? ⟨gb121, 0, none⟩ = some (.int .i32 0) := (blk_cell BK121.out 0).trans rfl; have hcz29_1 : w28.cell? ⟨gb121, 1, none⟩ = some (.int .i32 0) := (blk_cell BK121.out 1).trans rfl; have hfz29_0 := blk_frozen BK121.out 0; have hfz29_1 := blk_frozen BK121.out 1))
                                have n0_ : Aside0 (Kd.S (Kd.slice 54 k54) 42 ((w28.setCell ⟨gb121, 0, none⟩ (.int .i32 ((rd_T54 l0 x42_3).f0))).setCell ⟨gb121, 1, none⟩ (.int .i32 ((rd_T54 l0 x42_3).f1))) w.heap.size (fun k_ => some k_ ≠ (.slice Ao6 x2_3.length co6 : Value).ownBlock ∧ k_ ≠ gb121) v118 y117) := ⟨by (with_reducible repeat (first | apply Kd.S_alloc | apply Kd.S_drewN | apply Kd.S_drew)); exact Kd.S_mono (Kd.S_far (p := ⟨gb121, 1, none⟩) (Kd.S_far (p := ⟨gb121, 0, none⟩) (Kd.S_mono HO_1.out (fun k_ hk => (⟨hk, hk.2⟩ : _ ∧ k_ ≠ gb121))) (fun _ hk => hk.2) (.int .i32 ((rd_T54 l0 x42_3).f0))) (fun _ hk => hk.2) (.int .i32 ((rd_T54 l0 x42_3).f1))) (fun _ hk => ⟨hk.1.1, hk.1.2⟩)⟩
                                have n1_ : Aside0 (Kd.R k54 54 ((w28.setCell ⟨gb121, 0, none⟩ (.int .i32 ((rd_T54 l0 x42_3).f0))).setCell ⟨gb121, 1, none⟩ (.int .i32 ((rd_T54 l0 x42_3).f1))) w.heap.size (fun k_ => k_ ≠ gb121) (.slice Ao6 x2_3.length co6) x2_3) := ⟨by (with_reducible repeat (first | apply Kd.R_alloc | apply Kd.R_drewN | apply Kd.R_drew)); exact Kd.R_mono (Kd.R_far (p := ⟨gb121, 1, none⟩) (Kd.R_far (p := ⟨gb121, 0, none⟩) (Kd.R_mono HO_2.out (fun k_ hk => (⟨hk, hk.2⟩ : _ ∧ k_ ≠ gb121))) (fun _ hk => hk.2) (.int .i32 ((rd_T54 l0 x42_3).f0))) (fun _ hk => hk.2) (.int .i32 ((rd_T54 l0 x42_3).f1))) (fun _ hk => hk.1.2)⟩
                                have n2_ : Aside0 (((w28.setCell ⟨gb121, 0, none⟩ (.int .i32 ((rd_T54 l0 x42_3).f0))).setCell ⟨gb121, 1, none⟩ (.int .i32 ((rd_T54 l0 x42_3).f1))).heap[gb121]? = some (.cells #[.int .i32 ((rd_T54 l0 x42_3).f0), .int .i32 ((rd_T54 l0 x42_3).f1)] 54 (0, 0))) := ⟨by (with_reducible repeat (first | refine blk_drewN ?_ _ | refine blk_drew ?_ | refine blk_alloc ?_ _)); refine blk_put (cs := #[.int .i32 ((rd_T54 l0 x42_3).f0), .int .i32 0]) ?_ 1 _ rfl; (with_reducible repeat (first | refine blk_drewN ?_ _ | refine blk_drew ?_ | refine blk_alloc ?_ _)); refine blk_put (cs := #[.int .i32 0, .int .i32 0]) ?_ 0 _ rfl; (with_reducible repeat (first | refine blk_drewN ?_ _ | refine blk_drew ?_ | refine blk_alloc ?_ _)); exact BK121.out⟩
                                have n3_ : Aside0 (KB w ((w28.setCell ⟨gb121, 0, none⟩ (.int .i32 ((rd_T54 l0 x42_3).f0))).setCell ⟨gb121, 1, none⟩ (.int .i32 ((rd_T54 l0 x42_3).f1))) b (tabO (some ad120) l0.length c0 0 1 s v118)) := ⟨by repeat (first | (with_reducible first | exact HB.out | apply kb_alloc | apply kb_drewN | apply kb_drew1 | refine kbt_set ?_ GE121.out) | exact HB.out)⟩
                                (try clear HO_1)
                                (try clear HO_2)
                                (try clear BK121)
                                (try clear HB)
                                generalize ((w28.setCell ⟨gb121, 0, none⟩ (.int .i32 ((rd_T54 l0 x42_3).f0))).setCell ⟨gb121, 1, none⟩ (.int .i32 ((rd_T54 l0 x42_3).f1))) = w30 at n0_ n1_ n2_ n3_ ⊢
                                have HO_1 := n0_
                                have HO_2 := n1_
                                have BK121 := n2_
                                have HB := n3_
                                clear n0_ n1_ n2_ n3_
                                have n0_ := Aside0.mk (Kd.S_drew HO_1.out)
                                have n1_ := Aside0.mk (Kd.R_drew HO_2.out)
                                have n2_ := Aside0.mk (blk_drew BK121.out)
                                have n3_ := Aside0.mk (kb_drew1 HB.out)
                                clear HO_1
                                clear HO_2
                                clear BK121
                                clear HB
                                have HO_1 := n0_
                                have HO_2 := n1_
                                have BK121 := n2_
                                have HB := n3_
                                clear n0_ n1_ n2_ n3_
                                have p122 : 0 ≤ (x42_3 : Int) := of_decide_eq_true (by first | (with_reducible assumption) | assumption)
                                have q122 : x42_3 < (x2_3.length : Int) := of_decide_eq_true (by first | (with_reducible assumption) | assumption)
                                obtain ⟨ad122, e122, hx122_0, hx122_1⟩ := at_T54 (Kd.R_reads' HO_2.out).2.2 x42_3 p122 q122
                                cases e122
                                replace p122 := eq_true p122
                                replace q122 := eq_true q122
                                have p123 : 0 ≤ (x42_3 : Int) := of_decide_eq_true (by first | (with_reducible assumption) | assumption)
                                have q123 : x42_3 < (x2_3.length : Int) := of_decide_eq_true (by first | (with_reducible assumption) | assumption)
                                obtain ⟨ad123, e123, hx123_0, hx123_1⟩ := at_T54 (Kd.R_reads' HO_2.out).2.2 x42_3 p123 q123
                                obtain rfl : ad122 = ad123 := (by injection e123)
                                replace p123 := eq_true p123
                                replace q123 := eq_true q123
                                refine start_ (n := 17) (S := fun w' => w'.cell? ⟨gb121, 0, none⟩ = some (.int .i32 ((rd_T54 l0 x42_3).f0)) ∧ w'.cell? ⟨gb121, 1, none⟩ = some (.int .i32 ((rd_T54 l0 x42_3).f1)) ∧ w'.cell? (ad122.add ((x42_3).toNat * 2)) = some (.int .i32 ((rd_T54 x2_3 x42_3).f0)) ∧ w'.cell? ⟨(ad122.add ((x42_3).toNat * 2)).block, (ad122.add ((x42_3).toNat * 2)).off + 1, none⟩ = some (.int .i32 ((rd_T54 x2_3 x42_3).f1)) ∧ w'.cell? (ad122.add ((x42_3).toNat * 2)) = some (.int .i32 ((rd_T54 x2_3 x42_3).f0)) ∧ w'.cell? ⟨(ad122.add ((x42_3).toNat * 2)).block, (ad122.add ((x42_3).toNat * 2)).off + 1, none⟩ = some (.int .i32 ((rd_T54 x2_3 x42_3).f1))) (ds := []) #[false, false, false, false, false, false, false, false, false, false, false, false, false, false, false, false, false] (by kernel_rfl) rfl rfl ⟨(blk_cell BK121.out 0).trans rfl, (blk_cell BK121.out 1).trans rfl, hx122_0, hx122_1, hx123_0, hx123_1⟩ (fun hHeld => ?_); refine with_tabW rope_Table_build.tab12 rope_Table_build.bits12 (fun HT_ HW_ => ?_)
                                generalize w30.drew = w31 at HO_1 HO_2 BK121 HB hx122_0 hx122_1 hx123_0 hx123_1 hHeld ⊢
                                refine pure_ (i := 0) (N := some 48) (v := ?_) (a' := ?_) #[true, false, false, false, false, false, false, false, false, false, false, false, false, false, false, false, false] rfl rfl (any_of HT_.out (by kernel_rfl)) (fun _ _ _ h => h) (Or.inl ⟨by rfl, ?_⟩) ?_ ?_
                                rotate_left
                                · intro w'
                                  go_simp
                                  with_reducible rfl
                                rotate_left
                                · simp only [Act.put, List.setIfInBounds_toArray, List.set_cons_zero, List.set_cons_succ, i64_w, i32_w]
                                  rfl
                                refine pure_ (i := 1) (N := some 49) (v := ?_) (a' := ?_) #[true, true, false, false, false, false, false, false, false, false, false, false, false, false, false, false, false] rfl rfl (any_of HT_.out (by kernel_rfl)) (fun _ _ _ h => h) (Or.inl ⟨by rfl, ?_⟩) ?_ ?_
                                rotate_left
                                · intro w'
                                  go_simp
                                  with_reducible rfl
                                rotate_left
                                · simp only [Act.put, List.setIfInBounds_toArray, List.set_cons_zero, List.set_cons_succ, i64_w, i32_w]
                                  rfl
                                refine pure_ (i := 2) (N := some 50) (v := ?_) (a' := ?_) #[true, true, true, false, false, false, false, false, false, false, false, false, false, false, false, false, false] rfl rfl (any_of HT_.out (by kernel_rfl)) (fun _ _ _ h => h) (Or.inl ⟨by rfl, ?_⟩) ?_ ?_
                                rotate_left
                                · intro w'
                                  go_simp
                                  with_reducible rfl
                                rotate_left
                                · simp only [Act.put, List.setIfInBounds_toArray, List.set_cons_zero, List.set_cons_succ, i64_w, i32_w]
                                  rfl
                                refine pure_ (i := 3) (N := some 51) (v := ?_) (a' := ?_) #[true, true, true, true, false, false, false, false, false, false, false, false, false, false, false, false, false] rfl rfl (any_of HT_.out (by kernel_rfl)) (fun _ _ _ h => h) (Or.inl ⟨by rfl, ?_⟩) ?_ ?_
                                rotate_left
                                · intro w'
                                  go_simp
                                  with_reducible rfl
                                rotate_left
                                · simp only [Act.put, List.setIfInBounds_toArray, List.set_cons_zero, List.set_cons_succ, i64_w, i32_w]
                                  rfl
                                refine pure_ (i := 5) (N := some 53) (v := ?_) (a' := ?_) #[true, true, true, true, false, true, false, false, false, false, false, false, false, false, false, false, false] rfl rfl (any_of HT_.out (by kernel_rfl)) (fun _ _ _ h => h) (Or.inl ⟨by rfl, ?_⟩) ?_ ?_
                                rotate_left
                                · intro w'
                                  go_simp
                                  with_reducible rfl
                                rotate_left
                                · simp only [Act.put, List.setIfInBounds_toArray, List.set_cons_zero, List.set_cons_succ, i64_w, i32_w]
                                  rfl
                                refine pure_ (i := 6) (N := some 54) (v := ?_) (a' := ?_) #[true, true, true, true, false, true, true, false, false, false, false, false, false, false, false, false, false] rfl rfl (any_of HT_.out (by kernel_rfl)) (fun _ _ _ h => h) (Or.inl ⟨by rfl, ?_⟩) ?_ ?_
                                rotate_left
                                · intro w'
                                  go_simp
                                  with_reducible rfl
                                rotate_left
                                · simp only [Act.put, List.setIfInBounds_toArray, List.set_cons_zero, List.set_cons_succ, i64_w, i32_w]
                                  rfl
                                refine pure_ (i := 7) (N := some 55) (v := ?_) (a' := ?_) #[true, true, true, true, false, true, true, true, false, false, false, false, false, false, false, false, false] rfl rfl (any_of HT_.out (by kernel_rfl)) (fun _ _ _ h => h) (Or.inl ⟨by rfl, ?_⟩) ?_ ?_
                                rotate_left
                                · intro w'
                                  go_simp
                                  with_reducible rfl
                                rotate_left
                                · simp only [Act.put, List.setIfInBounds_toArray, List.set_cons_zero, List.set_cons_succ, i64_w, i32_w]
                                  rfl
                                refine pure_ (i := 8) (N := some 56) (v := ?_) (a' := ?_) #[true, true, true, true, false, true, true, true, true, false, false, false, false, false, false, false, false] rfl rfl (any_of HT_.out (by kernel_rfl)) (fun _ _ _ h => h) (Or.inl ⟨by rfl, ?_⟩) ?_ ?_
                                rotate_left
                                · intro w'
                                  go_simp
                                  with_reducible rfl
                                rotate_left
                                · simp only [Act.put, List.setIfInBounds_toArray, List.set_cons_zero, List.set_cons_succ, i64_w, i32_w]
                                  rfl
                                refine take_ (i := 4) (N := some 52) (v := ?_) (a' := ?_) #[true, true, true, true, true, true, true, true, true, false, false, false, false, false, false, false, false] rfl rfl (take_ofW HT_.out HW_.out (by kernel_rfl)) (fun _ _ _ h => h) (Or.inl ⟨by rfl, ?_⟩) hHeld ?_ ?_
                                rotate_left
                                · rintro w' ⟨s0, s1, s2, s3, s4, s5⟩
                                  go_simp
                                  with_reducible rfl
                                rotate_left
                                · simp only [Act.put, List.setIfInBounds_toArray, List.set_cons_zero, List.set_cons_succ, i64_w, i32_w]
                                  rfl
                                refine take_ (i := 9) (N := some 57) (v := ?_) (a' := ?_) #[true, true, true, true, true, true, true, true, true, true, false, false, false, false, false, false, false] rfl rfl (take_ofW HT_.out HW_.out (by kernel_rfl)) (fun _ _ _ h => h) (Or.inl ⟨by rfl, ?_⟩) hHeld ?_ ?_
                                rotate_left
                                · rintro w' ⟨s0, s1, s2, s3, s4, s5⟩
                                  go_simp
                                  with_reducible rfl
                                rotate_left
                                · simp only [Act.put, List.setIfInBounds_toArray, List.set_cons_zero, List.set_cons_succ, i64_w, i32_w]
                                  rfl
                                refine take_ (i := 10) (N := some 58) (v := ?_) (a' := ?_) #[true, true, true, true, true, true, true, true, true, true, true, false, false, false, false, false, false] rfl rfl (take_ofW HT_.out HW_.out (by kernel_rfl)) (fun _ _ _ h => h) (Or.inl ⟨by rfl, ?_⟩) hHeld ?_ ?_
                                rotate_left
                                · rintro w' ⟨s0, s1, s2, s3, s4, s5⟩
                                  go_simp
                                  with_reducible rfl
                                rotate_left
                                · simp only [Act.put, List.setIfInBounds_toArray, List.set_cons_zero, List.set_cons_succ, i64_w, i32_w]
                                  rfl
                                refine one_ (i := 11) (N := some 59) #[true, true, true, true, true, true, true, true, true, true, true, true, false, false, false, false, false] rfl rfl (one_of HT_.out (by kernel_rfl)) (by decide) (fun K hK => ?_)
                                refine goes_ Try.func68 (by kernel_rfl) rfl #[.int .i32 ((rd_T54 x2_3 x42_3).f0), .int .i32 ((rd_T54 x2_3 x42_3).f1), .agg #[.int .i32 ((rd_T54 l0 x42_3).f0), .int .i32 ((rd_T54 l0 x42_3).f1)]] (by rfl) rfl rfl (by (try simp only [List.map_toArray, List.map_cons, List.map_nil]); first | done | rfl | (simp only [List.length_drop, List.length_take]; rfl)) ?_
                                with_reducible refine (rope_by.calls ((rd_T54 x2_3 x42_3).f0) ((rd_T54 x2_3 x42_3).f1) ((rd_T54 l0 x42_3).f0) ((rd_T54 l0 x42_3).f1) t124 t125 _ A24.out).mono ?_
                                rintro e w32 ⟨rfl, hb⟩
                                have HS2_ := (hb.cell (World.block_lt_of_cell? _ _ (hHeld.2.2.1))).trans (hHeld.2.2.1)
                                have HS3_ := (hb.cell (World.block_lt_of_cell? _ _ (hHeld.2.2.2.1))).trans (hHeld.2.2.2.1)
                                have HS4_ := (hb.cell (World.block_lt_of_cell? _ _ (hHeld.2.2.2.2.1))).trans (hHeld.2.2.2.2.1)
                                have HS5_ := (hb.cell (World.block_lt_of_cell? _ _ (hHeld.2.2.2.2.2))).trans (hHeld.2.2.2.2.2)
                                refine ⟨_, rfl, ?_⟩
                                have n0_ := Aside0.mk (Kd.S_below (by (with_reducible repeat (first | apply Kd.S_alloc | apply Kd.S_drewN | apply Kd.S_drew)); exact HO_1.out) hb)
                                have n1_ := Aside0.mk (Kd.R_below (by (with_reducible repeat (first | apply Kd.R_alloc | apply Kd.R_drewN | apply Kd.R_drew)); exact HO_2.out) hb)
                                have n2_ := Aside0.mk (blk_below (g := gb121) (o := .cells #[.int .i32 ((rd_T54 l0 x42_3).f0), .int .i32 ((rd_T54 l0 x42_3).f1)] 54 (0, 0)) (by (with_reducible repeat (first | refine blk_drewN ?_ _ | refine blk_drew ?_ | refine blk_alloc ?_ _)); exact BK121.out) hb)
                                have n3_ := Aside0.mk (kb_step (by repeat (first | (with_reducible first | exact HB.out | apply kb_alloc | apply kb_drewN | apply kb_drew1 | refine kbt_set ?_ GE121.out) | exact HB.out)) hb)
                                clear HO_1
                                clear HO_2
                                clear BK121
                                clear HB
                                have HO_1 := n0_
                                have HO_2 := n1_
                                have BK121 := n2_
                                have HB := n3_
                                clear n0_ n1_ n2_ n3_
                                (try clear hb)
                                (try clear hb2)
                                (try clear hk)
                                (try clear hi)
                                refine hK.out _ _ ⟨(blk_cell BK121.out 0).trans rfl, (blk_cell BK121.out 1).trans rfl, HS2_, HS3_, HS4_, HS5_⟩ (fun hHeld => ?_)
                                clear hK K
                                refine norm_ (a' := ?_) ?_ ?_
                                rotate_left
                                · show Act.put _ (some 59) _ = _
                                  simp only [Act.put, List.setIfInBounds_toArray, List.set_cons_zero, List.set_cons_succ, i64_w, i32_w]
                                  rfl
                                refine pure_ (i := 12) (N := some 47) (v := ?_) (a' := ?_) #[true, true, true, true, true, true, true, true, true, true, true, true, true, false, false, false, false] rfl rfl (any_of HT_.out (by kernel_rfl)) (fun _ _ _ h => h) (Or.inl ⟨by rfl, ?_⟩) ?_ ?_
                                rotate_left
                                · intro w'
                                  go_simp
                                  with_reducible rfl
                                rotate_left
                                · simp only [Act.put, List.setIfInBounds_toArray, List.set_cons_zero, List.set_cons_succ, i64_w, i32_w]
                                  rfl
                                refine pure_ (i := 13) (N := some 60) (v := ?_) (a' := ?_) #[true, true, true, true, true, true, true, true, true, true, true, true, true, true, false, false, false] rfl rfl (any_of HT_.out (by kernel_rfl)) (fun _ _ _ h => h) (Or.inl ⟨by rfl, ?_⟩) ?_ ?_
                                rotate_left
                                · intro w'
                                  go_simp
                                  with_reducible rfl
                                rotate_left
                                · simp only [Act.put, List.setIfInBounds_toArray, List.set_cons_zero, List.set_cons_succ, i64_w, i32_w]
                                  rfl
                                refine pure_ (i := 14) (N := some 61) (v := ?_) (a' := ?_) #[true, true, true, true, true, true, true, true, true, true, true, true, true, true, true, false, false] rfl rfl (any_of HT_.out (by kernel_rfl)) (fun _ _ _ h => h) (Or.inl ⟨by rfl, ?_⟩) ?_ ?_
                                rotate_left
                                · intro w'
                                  go_simp
                                  with_reducible rfl
                                rotate_left
                                · simp only [Act.put, List.setIfInBounds_toArray, List.set_cons_zero, List.set_cons_succ, i64_w, i32_w]
                                  rfl
                                refine pure_ (i := 15) (N := some 6) (v := ?_) (a' := ?_) #[true, true, true, true, true, true, true, true, true, true, true, true, true, true, true, true, false] rfl rfl (any_of HT_.out (by kernel_rfl)) (fun _ _ _ h => h) (Or.inl ⟨by rfl, ?_⟩) ?_ ?_
                                rotate_left
                                · intro w'
                                  go_simp
                                  with_reducible rfl
                                rotate_left
                                · simp only [Act.put, List.setIfInBounds_toArray, List.set_cons_zero, List.set_cons_succ, i64_w, i32_w]
                                  rfl
                                refine pure_ (i := 16) (N := some 7) (v := ?_) (a' := ?_) #[true, true, true, true, true, true, true, true, true, true, true, true, true, true, true, true, true] rfl rfl (any_of HT_.out (by kernel_rfl)) (fun _ _ _ h => h) (Or.inl ⟨by rfl, ?_⟩) ?_ ?_
                                rotate_left
                                · intro w'
                                  go_simp
                                  with_reducible rfl
                                rotate_left
                                · simp only [Act.put, List.setIfInBounds_toArray, List.set_cons_zero, List.set_cons_succ, i64_w, i32_w]
                                  rfl
                                refine done_ (done_of HT_.out (by kernel_rfl)) ?_
                                try go_wp2_with (first | ((with_reducible refine gate_callee (f := 102) rfl ?_); refine goesL_ (some 65) rfl rfl Try.func102 (by kernel_rfl) rfl #[.int .i64 t124] rfl (by (try simp only [List.map_toArray, List.map_cons, List.map_nil]); first | done | rfl | (simp only [List.length_drop, List.length_take]; rfl)) ?_; (with_reducible refine (rope_unit.calls t124 t126 _ A25.out).mono ?_); rintro e w33 ⟨rfl, hb⟩; refine ⟨_, rfl, ?_⟩; have n0_ := Aside0.mk (Kd.S_below (by (with_reducible repeat (first | apply Kd.S_alloc | apply Kd.S_drewN | apply Kd.S_drew)); exact HO_1.out) hb); have n1_ := Aside0.mk (Kd.R_below (by (with_reducible repeat (first | apply Kd.R_alloc | apply Kd.R_drewN | apply Kd.R_drew)); exact HO_2.out) hb); have n2_ := Aside0.mk (blk_below (g := gb121) (o := .cells #[.int .i32 ((rd_T54 l0 x42_3).f0), .int .i32 ((rd_T54 l0 x42_3).f1)] 54 (0, 0)) (by (with_reducible repeat (first | refine blk_drewN ?_ _ | refine blk_drew ?_ | refine blk_alloc ?_ _)); exact BK121.out) hb); have n3_ := Aside0.mk (kb_step (by repeat (first | (with_reducible first | exact HB.out | apply kb_alloc | apply kb_drewN | apply kb_drew1 | refine kbt_set ?_ GE121.out) | exact HB.out)) hb); clear HO_1; clear HO_2; clear BK121; clear HB; have HO_1 := n0_; have HO_2 := n1_; have BK121 := n2_; have HB := n3_; clear n0_ n1_ n2_ n3_; (try clear hb); (try clear hb2); (try clear hk); (try clear hi)) | ((with_reducible refine gate_callee (f := 102) rfl ?_); refine goesL_ (some 67) rfl rfl Try.func102 (by kernel_rfl) rfl #[.int .i64 t125] rfl (by (try simp only [List.map_toArray, List.map_cons, List.map_nil]); first | done | rfl | (simp only [List.length_drop, List.length_take]; rfl)) ?_; (with_reducible refine (rope_unit.calls t125 t127 _ A26.out).mono ?_); rintro e w34 ⟨rfl, hb⟩; refine ⟨_, rfl, ?_⟩; have n0_ := Aside0.mk (Kd.S_below (by (with_reducible repeat (first | apply Kd.S_alloc | apply Kd.S_drewN | apply Kd.S_drew)); exact HO_1.out) hb); have n1_ := Aside0.mk (Kd.R_below (by (with_reducible repeat (first | apply Kd.R_alloc | apply Kd.R_drewN | apply Kd.R_drew)); exact HO_2.out) hb); have n2_ := Aside0.mk (blk_below (g := gb121) (o := .cells #[.int .i32 ((rd_T54 l0 x42_3).f0), .int .i32 ((rd_T54 l0 x42_3).f1)] 54 (0, 0)) (by (with_reducible repeat (first | refine blk_drewN ?_ _ | refine blk_drew ?_ | refine blk_alloc ?_ _)); exact BK121.out) hb); have n3_ := Aside0.mk (kb_step (by repeat (first | (with_reducible first | exact HB.out | apply kb_alloc | apply kb_drewN | apply kb_drew1 | refine kbt_set ?_ GE121.out) | exact HB.out)) hb); clear HO_1; clear HO_2; clear BK121; clear HB; have HO_1 := n0_; have HO_2 := n1_; have BK121 := n2_; have HB := n3_; clear n0_ n1_ n2_ n3_; (try clear hb); (try clear hb2); (try clear hk); (try clear hi); have p27 : 0 ≤ (x42_3 : Int) := of_decide_eq_true (by first | (with_reducible assumption) | assumption); have q27 : (x42_3 : Int) < ((x2_3.length : Int) : Int) := of_decide_eq_true (by first | (with_reducible assumption) | assumption); obtain ⟨go27, co27, eo27, gb27, gl27, cl27, HG27⟩ := Kd.R_form HO_2.out (by omega); (first | cases eo27 | (injection eo27 with ea_ en_ ec_; (first | subst ea_ | (injection ea_ with ea_; subst ea_)); subst ec_; clear en_)); have GB27 := Aside0.mk gb27; have GG27 := Aside0.mk HG27; clear gb27 gl27 HG27; (first | simp only [add_plain] at hx122_0 | skip); (first | simp only [add_plain] at hx122_1 | skip); (first | simp only [add_plain] at hx123_0 | skip); (first | simp only [add_plain] at hx123_1 | skip); obtain ⟨ce27, hcl27, hM27, hcc27, hfr27⟩ := Kd.R_elem HO_2.out z54 (x42_3 : Int) p27 q27; obtain rfl := k54_openM hM27; have hx27_0 : w34.cell? ⟨go27, (x42_3 : Int).toNat * 2, none⟩ = some (.int .i32 ((rd_T54 x2_3 x42_3).f0)) := hcc27 0 _ rfl; have hx27_1 : w34.cell? ⟨go27, (x42_3 : Int).toNat * 2 + 1, none⟩ = some (.int .i32 ((rd_T54 x2_3 x42_3).f1)) := hcc27 1 _ rfl; have hf27_0 : w34.frozen? ⟨go27, (x42_3 : Int).toNat * 2, none⟩ = false := hfr27 0; have hf27_1 : w34.frozen? ⟨go27, (x42_3 : Int).toNat * 2 + 1, none⟩ = false := hfr27 1; clear hcl27 hcc27 hfr27 hM27; replace p27 := eq_true p27; replace q27 := eq_true q27; have HX35 := Aside0.mk (show Kd.R k54 54 w34 w.heap.size (fun k_ => k_ ≠ gb121) (.slice (some ⟨go27, 0, none⟩) x2_3.length co6) x2_3 from (by (with_reducible repeat (first | apply Kd.R_alloc | apply Kd.R_drewN | apply Kd.R_drew)); exact HO_2.out)); obtain ⟨ce35, hcl35, hM35, hcc35, hfr35⟩ := Kd.R_elem HX35.out z54 (x42_3 : Int) (of_decide_eq_true (by first | (with_reducible assumption) | assumption)) (by have h_ : (x42_3 : Int) < ((x2_3.length : Int) : Int) := of_decide_eq_true (by first | (with_reducible assumption) | assumption); first | exact h_ | (have e_ := (Kd.R_reads' HO_2.out).1; omega) | simpa using h_); obtain rfl := k54_openM hM35; have HP35 := Kd.R_seg HX35.out (x42_3 : Int) (of_decide_eq_true (by first | (with_reducible assumption) | assumption)) (by have h_ : (x42_3 : Int) < ((x2_3.length : Int) : Int) := of_decide_eq_true (by first | (with_reducible assumption) | assumption); first | exact h_ | (have e_ := (Kd.R_reads' HO_2.out).1; omega) | simpa using h_) (seg := [.int .i32 t126, .int .i32 t127]) (j := 0) hcl35 hcc35 (show 2 ≤ 2 from by decide) (x' := (⟨t126, t127⟩ : S54)) (k54_mkM _ _ _ (⟨t126, t127⟩ : S54) ) (fun _ hk => hk); have hx35_0 := hcc35 0 _ rfl; (try simp only [show (k54).sz = 2 from rfl, Nat.mul_one, Nat.add_zero] at hx35_0); have hf35_0 := hfr35 0; (try simp only [show (k54).sz = 2 from rfl, Nat.mul_one, Nat.add_zero] at hf35_0); have hx35_1 := hcc35 1 _ rfl; (try simp only [show (k54).sz = 2 from rfl, Nat.mul_one, Nat.add_zero] at hx35_1); have hf35_1 := hfr35 1; (try simp only [show (k54).sz = 2 from rfl, Nat.mul_one, Nat.add_zero] at hf35_1); clear hcl35 hcc35 hfr35 hM35) | ((with_reducible refine gate_store (t := 54) (p := 69) rfl ?_); refine store_event (t := 54) (p := 69) (v := ?vo_w36) (w1 := ((w34.setCell ⟨go27, (x42_3 : Int).toNat * 2, none⟩ (.int .i32 t126)).setCell ⟨go27, (x42_3 : Int).toNat * 2 + 1, none⟩ (.int .i32 t127))) ?hg ?ho ?hn ?hr ?_; (case ho => rfl); (case hg => rfl); (case hn => rfl); (case hr => first | (go_simp; done) | (go_simp; rfl)); intro w36 hw; have hg : w34.grownBy w36 (some go27) := (by rw [hw]; exact HP35.2); have hp_ : Kd.R k54 54 w36 w.heap.size (fun k_ => k_ ≠ gb121) (.slice (some ⟨go27, 0, none⟩) x2_3.length co6) y128 := (by rw [hw, Ny128.out]; exact HP35.1); clear HP35; have n0_ := Aside0.mk (Kd.S_after (v := (.slice (some ⟨go27, 0, none⟩) x2_3.length co6)) (v1 := (.slice (some ⟨go27, 0, none⟩) x2_3.length co6)) (ok := (fun k_ => k_ ≠ gb121)) (by (with_reducible repeat (first | apply Kd.S_alloc | apply Kd.S_drewN | apply Kd.S_drew)); exact Kd.S_mono HO_1.out (fun _ hk => ⟨hk.2, hk.1⟩)) hg (.inl rfl)); have n1_ := Aside0.mk (hp_); have n2_ := Aside0.mk (blk_grown (g := gb121) (o := .cells #[.int .i32 ((rd_T54 l0 x42_3).f0), .int .i32 ((rd_T54 l0 x42_3).f1)] 54 (0, 0)) (by (with_reducible repeat (first | refine blk_drewN ?_ _ | refine blk_drew ?_ | refine blk_alloc ?_ _)); exact BK121.out) hg (Kd.R_away HO_2.out (fun _ hk => hk))); have n3_ := Aside0.mk ((by rw [hw]; exact kbt_set (kbt_set (HB.out) GB27.out) GB27.out : KB w w36 b (tabO _ l0.length c0 0 1 s v118))); clear HO_1; clear HO_2; clear BK121; clear HB; have HO_1 := n0_; have HO_2 := n1_; have BK121 := n2_; have HB := n3_; clear n0_ n1_ n2_ n3_; clear hg hw hp_))
                                (try simp only [← hl2_3])
                                go_roundg k3
                                case measure => have := HK1.out; have := HK2.out; have := HK3.out; omega
                                case rel => exact ⟨(y128), (wrap64 (x42_3 + 1)), (by first | rfl | (simp; done) | (simp [*]; done)), H', ⟨by have := HK1.out; have := HK2.out; have := HK3.out; omega⟩, ⟨by (try simp only [hl2_1]); (try simp only [hl2_2]); (try simp only [hl2_3]); (with_reducible repeat (first | apply Kd.S_alloc | apply Kd.S_drewN | apply Kd.S_drew)); exact Kd.S_mono HO_1.out (fun _ hk => hk.2)⟩, ⟨by (try simp only [hl2_1]); (try simp only [hl2_2]); (try simp only [hl2_3]); (with_reducible repeat (first | apply Kd.R_alloc | apply Kd.R_drewN | apply Kd.R_drew)); exact Kd.R_mono HO_2.out (fun _ hk => trivial)⟩, ⟨by repeat (first | (with_reducible first | exact HB.out | apply kb_alloc | apply kb_drewN | apply kb_drew1 | refine kbt_set ?_ GE121.out) | exact HB.out)⟩⟩
                              · rw [if_neg c23] at H
                                exact absurd H (by simp)
                            · rw [if_neg c22] at H
                              exact absurd H (by simp)
                          · rw [if_neg c21] at H
                            exact absurd H (by simp)
                        · rw [if_neg c20] at H
                          have c20b0 : decide (x42_3 < (l0.length : Int)) = false := decide_eq_false c20
                          (try simp only [hl2_1] at c20b0)
                          (try simp only [hl2_2] at c20b0)
                          (try simp only [hl2_3] at c20b0)
                          clear c20
                          have H' := Aside0.mk H
                          clear H
                          go_wp2
                          (try simp only [← hl2_2, ← hl2_3])
                          go_roundg k3
                          case measure => have := HK1.out; have := HK2.out; have := HK3.out; omega
                          case rel => exact ⟨v118, (y117), (x2_3), (wrap64 (x24_2 + 1)), (by first | rfl | (simp; done) | (simp [*]; done)), H', ⟨by have := HK1.out; have := HK2.out; have := HK3.out; omega⟩, ⟨by (try simp only [hl2_1]); (try simp only [hl2_2]); (try simp only [hl2_3]); (with_reducible repeat (first | apply Kd.S_alloc | apply Kd.S_drewN | apply Kd.S_drew)); exact HO_1.out⟩, ⟨by (try simp only [hl2_1]); (try simp only [hl2_2]); (try simp only [hl2_3]); (with_reducible repeat (first | apply Kd.R_alloc | apply Kd.R_drewN | apply Kd.R_drew)); exact HO_2.out⟩, ⟨by repeat (first | (with_reducible first | exact HB.out | apply kb_alloc | apply kb_drewN | apply kb_drew1) | exact HB.out)⟩⟩
                  · rw [if_neg c15] at H
                    exact absurd H (by simp)
                · rw [if_neg c13] at H
                  have c13b0 : decide (x24_2 < 1024) = false := decide_eq_false c13
                  clear c13
                  obtain rfl := Option.some.inj H
                  go_wp2
                  go_end0
                  exact ⟨rfl, u1, Kd.S_mono HO_1.out (fun _ hk => trivial), HB.out⟩
    · rw [if_neg c3] at H
      exact absurd H (by simp)
  · rw [if_neg c2] at H
    exact absurd H (by simp)

end Go.Proofs.Ytmndomlpdajjmac.Rt
