-- Ytmndomlpdajjmac: the machine side of the statements, written by a program of the session.
import Derived.Test.YtmndomlpdajjmacQx0
namespace Go.Proofs.Ytmndomlpdajjmac.Q
open Go.RowKit Go.Proofs.YtmndomlpdajjmacW.PrintWords Go.Proofs.YtmndomlpdajjmacW.PrintLast Go.Proofs.YtmndomlpdajjmacW.PrintMore
attribute [local go_sem] max2_int min2_int max_two min_two max_three min_three max_four min_four   -- for this text's walks alone
set_option linter.unusedVariables false
set_option linter.unusedSimpArgs false

/-! ### credenzaref03_Mild: function 46 -/
def credenzaref03_Mild.l0 : Nat → List Int → Int → Option (Bool)
  | 0, _, _ => none
  | k + 1, x0, x3 => if x3 < (x0.length : Int) then (if 0 ≤ x3 then (if (rd x0 x3) < (-16777216) then (some false) else (if (rd x0 x3) > 16777216 then (some false) else (credenzaref03_Mild.l0 k x0 (wrap64 (x3 + 1))))) else (none)) else (some (decide ((x0.length : Int) ≤ 1024)))
def credenzaref03_Mild.f (k : Nat) (l0 : List Int) : Option (Bool) := credenzaref03_Mild.l0 k l0 0
theorem credenzaref03_Mild.mono_l : ∀ k, (∀ y0 y1, LeO (credenzaref03_Mild.l0 k y0 y1) (credenzaref03_Mild.l0 (k + 1) y0 y1))
  | 0 => fun _ _ r h => by simp [credenzaref03_Mild.l0] at h
  | k + 1 => by
    have ih0 := credenzaref03_Mild.mono_l k
    · intro y0 y1
      unfold credenzaref03_Mild.l0
      repeat' first
      | (with_reducible exact ih0 _ _)
      | (with_reducible exact LeO.refl _)
      | (with_reducible exact LeO.none _)
      | (with_reducible refine LeO.ite ?_ ?_)
      | (with_reducible refine LeO.bind ?_ (fun _ => ?_))
      | exact ih0 _ _
      | exact LeO.none _
      | refine LeO.ite ?_ ?_
      | refine LeO.bind ?_ (fun _ => ?_)
theorem credenzaref03_Mild.mono : ∀ a0 k, LeO (credenzaref03_Mild.f k a0) (credenzaref03_Mild.f (k + 1) a0) := by
  intro a0 k
  have ih0 := credenzaref03_Mild.mono_l k
  unfold credenzaref03_Mild.f
  repeat' first
      | (with_reducible exact ih0 _ _)
      | (with_reducible exact LeO.refl _)
      | (with_reducible exact LeO.none _)
      | (with_reducible refine LeO.ite ?_ ?_)
      | (with_reducible refine LeO.bind ?_ (fun _ => ?_))
      | exact ih0 _ _
      | exact LeO.none _
      | refine LeO.ite ?_ ?_
      | refine LeO.bind ?_ (fun _ => ?_)
set_option maxHeartbeats 8000000 in
set_option maxRecDepth 100000 in
theorem credenzaref03_Mild.calls (k : Nat) (A0 : Option Addr) (c0 : Nat) (l0 : List Int) (r : Bool) (w : World) (hr0 : Kd.C (Kd.int .i32) w A0 l0.length l0) (hc0 : l0.length ≤ c0) (h : credenzaref03_Mild.f k l0 = some r) :
    Calls Try.prog 46 #[.slice A0 l0.length c0] w fun e w' => e = .returned (.bool r) ∧ Drawn0 w w' := by
  have HR0 := Aside0.mk hr0
  have HC0 := Aside0.mk hc0
  clear hr0 hc0
  have H : (credenzaref03_Mild.l0 k l0 0) = some r := h
  clear h
  have H' := Aside0.mk H
  clear H
  go_enter Try.func46, Try.ntmps46
  go_wp2
  go_loopg [3] k (fun kq v3 w' => ∃ (x3_1 : Int), v3 = .int .i64 x3_1 ∧ Aside0 (credenzaref03_Mild.l0 kq l0 x3_1 = some r) ∧ Aside0 (kq ≤ k) ∧ Drawn0 w w')
  case atStart => exact ⟨(0), (by first | rfl | (simp; done) | (simp [*]; done)), H', ⟨Nat.le_refl _⟩, by repeat (first | exact Drawn0.refl _ | apply Drawn0.step)⟩
  case round =>
    clear H'
    obtain ⟨x3_1, rfl, HA, HK1, ⟨m1, rfl⟩⟩ := hrel
    cases gk with
    | zero => exact absurd HA.out (by simp [credenzaref03_Mild.l0])
    | succ k1 =>
      have H := HA.out
      clear HA
      simp only [credenzaref03_Mild.l0] at H
      by_cases c2 : x3_1 < (l0.length : Int)
      · rw [if_pos c2] at H
        have c2b0 : decide (x3_1 < (l0.length : Int)) = true := decide_eq_true c2
        clear c2
        by_cases c3 : 0 ≤ x3_1
        · rw [if_pos c3] at H
          have c3b0 : decide (0 ≤ x3_1) = true := decide_eq_true c3
          clear c3
          by_cases c4 : (rd l0 x3_1) < (-16777216)
          · rw [if_pos c4] at H
            have c4b0 : decide ((rd l0 x3_1) < (-16777216)) = true := decide_eq_true c4
            clear c4
            obtain rfl := Option.some.inj H
            have p244 : 0 ≤ (x3_1 : Int) := of_decide_eq_true (by first | (with_reducible assumption) | assumption)
            have q244 : x3_1 < (l0.length : Int) := of_decide_eq_true (by first | (with_reducible assumption) | assumption)
            obtain ⟨ad244, e244, hx244_0⟩ := Kd.at_int HR0.out x3_1 p244 q244
            cases e244
            replace p244 := eq_true p244
            replace q244 := eq_true q244
            go_wp2
            go_ret
            exact ⟨by first | rfl | (simp; done) | (simp [*]; done), by repeat (first | exact Drawn0.refl _ | apply Drawn0.step)⟩
          · rw [if_neg c4] at H
            have c4b0 : decide ((rd l0 x3_1) < (-16777216)) = false := decide_eq_false c4
            clear c4
            by_cases c5 : (rd l0 x3_1) > 16777216
            · rw [if_pos c5] at H
              have c5b0 : decide (16777216 < (rd l0 x3_1)) = true := decide_eq_true c5
              clear c5
              obtain rfl := Option.some.inj H
              have p244 : 0 ≤ (x3_1 : Int) := of_decide_eq_true (by first | (with_reducible assumption) | assumption)
              have q244 : x3_1 < (l0.length : Int) := of_decide_eq_true (by first | (with_reducible assumption) | assumption)
              obtain ⟨ad244, e244, hx244_0⟩ := Kd.at_int HR0.out x3_1 p244 q244
              cases e244
              replace p244 := eq_true p244
              replace q244 := eq_true q244
              have p245 : 0 ≤ (x3_1 : Int) := of_decide_eq_true (by first | (with_reducible assumption) | assumption)
              have q245 : x3_1 < (l0.length : Int) := of_decide_eq_true (by first | (with_reducible assumption) | assumption)
              obtain ⟨ad245, e245, hx245_0⟩ := Kd.at_int HR0.out x3_1 p245 q245
              obtain rfl : ad244 = ad245 := (by injection e245)
              replace p245 := eq_true p245
              replace q245 := eq_true q245
              go_wp2
              go_ret
              exact ⟨by first | rfl | (simp; done) | (simp [*]; done), by repeat (first | exact Drawn0.refl _ | apply Drawn0.step)⟩
            · rw [if_neg c5] at H
              have c5b0 : decide (16777216 < (rd l0 x3_1)) = false := decide_eq_false c5
              clear c5
              have H' := Aside0.mk H
              clear H
              have p244 : 0 ≤ (x3_1 : Int) := of_decide_eq_true (by first | (with_reducible assumption) | assumption)
              have q244 : x3_1 < (l0.length : Int) := of_decide_eq_true (by first | (with_reducible assumption) | assumption)
              obtain ⟨ad244, e244, hx244_0⟩ := Kd.at_int HR0.out x3_1 p244 q244
              cases e244
              replace p244 := eq_true p244
              replace q244 := eq_true q244
              have p245 : 0 ≤ (x3_1 : Int) := of_decide_eq_true (by first | (with_reducible assumption) | assumption)
              have q245 : x3_1 < (l0.length : Int) := of_decide_eq_true (by first | (with_reducible assumption) | assumption)
              obtain ⟨ad245, e245, hx245_0⟩ := Kd.at_int HR0.out x3_1 p245 q245
              obtain rfl : ad244 = ad245 := (by injection e245)
              replace p245 := eq_true p245
              replace q245 := eq_true q245
              go_wp2
              go_roundg k1
              case measure => have := HK1.out; omega
              case rel => exact ⟨(wrap64 (x3_1 + 1)), (by first | rfl | (simp; done) | (simp [*]; done)), H', ⟨by have := HK1.out; omega⟩, by repeat (first | exact Drawn0.refl _ | apply Drawn0.step)⟩
        · rw [if_neg c3] at H
          exact absurd H (by simp)
      · rw [if_neg c2] at H
        have c2b0 : decide (x3_1 < (l0.length : Int)) = false := decide_eq_false c2
        clear c2
        obtain rfl := Option.some.inj H
        go_wp2
        go_ret
        exact ⟨by first | rfl | (simp; done) | (simp [*]; done), by repeat (first | exact Drawn0.refl _ | apply Drawn0.step)⟩

/-! ### credenzaref04_Sum: function 47 -/
def credenzaref04_Sum.l0 : Nat → List Int → Int → Int → Option (Int)
  | 0, _, _, _ => none
  | k + 1, x0, x3, x4 => if x4 < (x0.length : Int) then (if 0 ≤ x4 then (credenzaref04_Sum.l0 k x0 (wrap64 (x3 + (rd x0 x4))) (wrap64 (x4 + 1))) else (none)) else (some x3)
def credenzaref04_Sum.f (k : Nat) (l0 : List Int) : Option (Int) := credenzaref04_Sum.l0 k l0 0 0
theorem credenzaref04_Sum.mono_l : ∀ k, (∀ y0 y1 y2, LeO (credenzaref04_Sum.l0 k y0 y1 y2) (credenzaref04_Sum.l0 (k + 1) y0 y1 y2))
  | 0 => fun _ _ _ r h => by simp [credenzaref04_Sum.l0] at h
  | k + 1 => by
    have ih0 := credenzaref04_Sum.mono_l k
    · intro y0 y1 y2
      unfold credenzaref04_Sum.l0
      repeat' first
      | (with_reducible exact ih0 _ _ _)
      | (with_reducible exact LeO.refl _)
      | (with_reducible exact LeO.none _)
      | (with_reducible refine LeO.ite ?_ ?_)
      | (with_reducible refine LeO.bind ?_ (fun _ => ?_))
      | exact ih0 _ _ _
      | exact LeO.none _
      | refine LeO.ite ?_ ?_
      | refine LeO.bind ?_ (fun _ => ?_)
theorem credenzaref04_Sum.mono : ∀ a0 k, LeO (credenzaref04_Sum.f k a0) (credenzaref04_Sum.f (k + 1) a0) := by
  intro a0 k
  have ih0 := credenzaref04_Sum.mono_l k
  unfold credenzaref04_Sum.f
  repeat' first
      | (with_reducible exact ih0 _ _ _)
      | (with_reducible exact LeO.refl _)
      | (with_reducible exact LeO.none _)
      | (with_reducible refine LeO.ite ?_ ?_)
      | (with_reducible refine LeO.bind ?_ (fun _ => ?_))
      | exact ih0 _ _ _
      | exact LeO.none _
      | refine LeO.ite ?_ ?_
      | refine LeO.bind ?_ (fun _ => ?_)
set_option maxHeartbeats 8000000 in
set_option maxRecDepth 100000 in
theorem credenzaref04_Sum.calls (k : Nat) (A0 : Option Addr) (c0 : Nat) (l0 : List Int) (r : Int) (w : World) (hr0 : Kd.C (Kd.int .i64) w A0 l0.length l0) (hc0 : l0.length ≤ c0) (h : credenzaref04_Sum.f k l0 = some r) :
    Calls Try.prog 47 #[.slice A0 l0.length c0] w fun e w' => e = .returned (.int .i64 r) ∧ Drawn0 w w' := by
  have HR0 := Aside0.mk hr0
  have HC0 := Aside0.mk hc0
  clear hr0 hc0
  have H : (credenzaref04_Sum.l0 k l0 0 0) = some r := h
  clear h
  have H' := Aside0.mk H
  clear H
  go_enter Try.func47, Try.ntmps47
  go_wp2
  go_loopg [3, 4] k (fun kq v3 v4 w' => ∃ (x3_1 : Int) (x4_1 : Int), v3 = .int .i64 x3_1 ∧ v4 = .int .i64 x4_1 ∧ Aside0 (credenzaref04_Sum.l0 kq l0 x3_1 x4_1 = some r) ∧ Aside0 (kq ≤ k) ∧ Drawn0 w w')
  case atStart => exact ⟨(0), (0), (by first | rfl | (simp; done) | (simp [*]; done)), (by first | rfl | (simp; done) | (simp [*]; done)), H', ⟨Nat.le_refl _⟩, by repeat (first | exact Drawn0.refl _ | apply Drawn0.step)⟩
  case round =>
    clear H'
    obtain ⟨x3_1, x4_1, rfl, rfl, HA, HK1, ⟨m1, rfl⟩⟩ := hrel
    cases gk with
    | zero => exact absurd HA.out (by simp [credenzaref04_Sum.l0])
    | succ k1 =>
      have H := HA.out
      clear HA
      simp only [credenzaref04_Sum.l0] at H
      by_cases c2 : x4_1 < (l0.length : Int)
      · rw [if_pos c2] at H
        have c2b0 : decide (x4_1 < (l0.length : Int)) = true := decide_eq_true c2
        clear c2
        by_cases c3 : 0 ≤ x4_1
        · rw [if_pos c3] at H
          have c3b0 : decide (0 ≤ x4_1) = true := decide_eq_true c3
          clear c3
          have H' := Aside0.mk H
          clear H
          have p246 : 0 ≤ (x4_1 : Int) := of_decide_eq_true (by first | (with_reducible assumption) | assumption)
          have q246 : x4_1 < (l0.length : Int) := of_decide_eq_true (by first | (with_reducible assumption) | assumption)
          obtain ⟨ad246, e246, hx246_0⟩ := Kd.at_int HR0.out x4_1 p246 q246
          cases e246
          replace p246 := eq_true p246
          replace q246 := eq_true q246
          go_wp2
          go_roundg k1
          case measure => have := HK1.out; omega
          case rel => exact ⟨(wrap64 (x3_1 + (rd l0 x4_1))), (wrap64 (x4_1 + 1)), (by first | rfl | (simp; done) | (simp [*]; done)), (by first | rfl | (simp; done) | (simp [*]; done)), H', ⟨by have := HK1.out; omega⟩, by repeat (first | exact Drawn0.refl _ | apply Drawn0.step)⟩
        · rw [if_neg c3] at H
          exact absurd H (by simp)
      · rw [if_neg c2] at H
        have c2b0 : decide (x4_1 < (l0.length : Int)) = false := decide_eq_false c2
        clear c2
        obtain rfl := Option.some.inj H
        go_wp2
        go_ret
        exact ⟨by first | rfl | (simp; done) | (simp [*]; done), by repeat (first | exact Drawn0.refl _ | apply Drawn0.step)⟩

/-! ### credenzaref04_Right: function 19 -/
mutual
def credenzaref04_Right.l0 : Nat → List Int → List (List Int) → Int → Option (Int)
  | 0, _, _, _ => none
  | k + 1, x0, x1, x5 => if x5 < (x1.length : Int) then (if 0 ≤ x5 then (if 0 < (x1.length : Int) then (if ((rd_L2 x1 x5).length : Int) = ((rd_L2 x1 0).length : Int) then (credenzaref04_Right.l0 k x0 x1 (wrap64 (x5 + 1))) else (some 25)) else (none)) else (none)) else (credenzaref04_Right.l1 k x0 x1 0)
def credenzaref04_Right.l1 : Nat → List Int → List (List Int) → Int → Option (Int)
  | 0, _, _, _ => none
  | k + 1, x0, x1, x6 => if x6 < (x1.length : Int) then (if 0 ≤ x6 then (if x6 < (x0.length : Int) then (if (rd x0 x6) < 0 then (some 11) else (if (rd x0 x6) > 65536 then (some 11) else ((credenzaref03_Mild.f k (rd_L2 x1 x6)).bind fun t252 => (if t252 = true then (credenzaref04_Right.l1 k x0 x1 (wrap64 (x6 + 1))) else (some 11))))) else (none)) else (none)) else ((credenzaref04_Sum.f k x0).bind fun t253 => (if t253 = 0 then (some 11) else (some 0)))
end
def credenzaref04_Right.f (k : Nat) (l0 : List Int) (l1 : List (List Int)) : Option (Int) := if (l1.length : Int) = 0 then (some 14) else (if (l1.length : Int) > 1024 then (some 12) else (if (l1.length : Int) = (l0.length : Int) then (credenzaref04_Right.l0 k l0 l1 0) else (some 25)))
theorem credenzaref04_Right.mono_l : ∀ k, (∀ y0 y1 y2, LeO (credenzaref04_Right.l0 k y0 y1 y2) (credenzaref04_Right.l0 (k + 1) y0 y1 y2)) ∧ (∀ y0 y1 y2, LeO (credenzaref04_Right.l1 k y0 y1 y2) (credenzaref04_Right.l1 (k + 1) y0 y1 y2))
  | 0 => ⟨fun _ _ _ r h => by simp [credenzaref04_Right.l0] at h, fun _ _ _ r h => by simp [credenzaref04_Right.l1] at h⟩
  | k + 1 => by
    obtain ⟨ih0, ih1⟩ := credenzaref04_Right.mono_l k
    refine ⟨?_, ?_⟩
    · intro y0 y1 y2
      unfold credenzaref04_Right.l0
      repeat' first
      | (with_reducible exact ih0 _ _ _)
      | (with_reducible exact ih1 _ _ _)
      | (with_reducible exact credenzaref03_Mild.mono _ _)
      | (with_reducible exact credenzaref04_Sum.mono _ _)
      | (with_reducible exact LeO.refl _)
      | (with_reducible exact LeO.none _)
      | (with_reducible refine LeO.ite ?_ ?_)
      | (with_reducible refine LeO.bind ?_ (fun _ => ?_))
      | exact ih0 _ _ _
      | exact ih1 _ _ _
      | exact credenzaref03_Mild.mono _ _
      | exact credenzaref04_Sum.mono _ _
      | exact LeO.none _
      | refine LeO.ite ?_ ?_
      | refine LeO.bind ?_ (fun _ => ?_)
    · intro y0 y1 y2
      unfold credenzaref04_Right.l1
      repeat' first
      | (with_reducible exact ih0 _ _ _)
      | (with_reducible exact ih1 _ _ _)
      | (with_reducible exact credenzaref03_Mild.mono _ _)
      | (with_reducible exact credenzaref04_Sum.mono _ _)
      | (with_reducible exact LeO.refl _)
      | (with_reducible exact LeO.none _)
      | (with_reducible refine LeO.ite ?_ ?_)
      | (with_reducible refine LeO.bind ?_ (fun _ => ?_))
      | exact ih0 _ _ _
      | exact ih1 _ _ _
      | exact credenzaref03_Mild.mono _ _
      | exact credenzaref04_Sum.mono _ _
      | exact LeO.none _
      | refine LeO.ite ?_ ?_
      | refine LeO.bind ?_ (fun _ => ?_)
theorem credenzaref04_Right.mono : ∀ a0 a1 k, LeO (credenzaref04_Right.f k a0 a1) (credenzaref04_Right.f (k + 1) a0 a1) := by
  intro a0 a1 k
  obtain ⟨ih0, ih1⟩ := credenzaref04_Right.mono_l k
  unfold credenzaref04_Right.f
  repeat' first
      | (with_reducible exact ih0 _ _ _)
      | (with_reducible exact ih1 _ _ _)
      | (with_reducible exact credenzaref03_Mild.mono _ _)
      | (with_reducible exact credenzaref04_Sum.mono _ _)
      | (with_reducible exact LeO.refl _)
      | (with_reducible exact LeO.none _)
      | (with_reducible refine LeO.ite ?_ ?_)
      | (with_reducible refine LeO.bind ?_ (fun _ => ?_))
      | exact ih0 _ _ _
      | exact ih1 _ _ _
      | exact credenzaref03_Mild.mono _ _
      | exact credenzaref04_Sum.mono _ _
      | exact LeO.none _
      | refine LeO.ite ?_ ?_
      | refine LeO.bind ?_ (fun _ => ?_)
set_option maxHeartbeats 8000000 in
set_option maxRecDepth 100000 in
theorem credenzaref04_Right.calls (k : Nat) (A0 : Option Addr) (c0 : Nat) (l0 : List Int) (A1 : Option Addr) (c1 : Nat) (l1 : List (List Int)) (r : Int) (w : World) (hr0 : Kd.C (Kd.int .i64) w A0 l0.length l0) (hc0 : l0.length ≤ c0) (hr1 : Kd.C (Kd.slice 21 (Kd.int .i32)) w A1 l1.length l1) (hc1 : l1.length ≤ c1) (h : credenzaref04_Right.f k l0 l1 = some r) :
    Calls Try.prog 19 #[.slice A0 l0.length c0, .slice A1 l1.length c1] w fun e w' => e = .returned (.int .i64 r) ∧ Drawn0 w w' := by
  have HR0 := Aside0.mk hr0
  have HC0 := Aside0.mk hc0
  clear hr0 hc0
  have HR1 := Aside0.mk hr1
  have HC1 := Aside0.mk hc1
  clear hr1 hc1
  have H : (if (l1.length : Int) = 0 then (some 14) else (if (l1.length : Int) > 1024 then (some 12) else (if (l1.length : Int) = (l0.length : Int) then (credenzaref04_Right.l0 k l0 l1 0) else (some 25)))) = some r := h
  clear h
  by_cases c3 : (l1.length : Int) = 0
  · rw [if_pos c3] at H
    have c3b0 : ((l1.length : Int) == 0) = true := beq_iff_eq.mpr c3
    have c3b1 : ((l1.length : Int) != 0) = false := bne_eq_false_iff_eq.mpr c3
    clear c3
    obtain rfl := Option.some.inj H
    go_enter Try.func19, Try.ntmps19
    go_wp2
    repeat (go_quiet (fail); try go_wp2)
    go_ret
    exact ⟨by first | rfl | (simp; done) | (simp [*]; done), by repeat (first | exact Drawn0.refl _ | apply Drawn0.step)⟩
  · rw [if_neg c3] at H
    have c3b0 : ((l1.length : Int) == 0) = false := beq_eq_false_iff_ne.mpr c3
    have c3b1 : ((l1.length : Int) != 0) = true := bne_iff_ne.mpr c3
    have c3b2 : ¬ (l1 = []) := fun h_ => c3 (by rw [h_]; rfl)
    by_cases c4 : (l1.length : Int) > 1024
    · rw [if_pos c4] at H
      have c4b0 : decide (1024 < (l1.length : Int)) = true := decide_eq_true c4
      have c4b1 : decide (1024 < l1.length) = true := decide_eq_true (by omega)
      clear c4
      obtain rfl := Option.some.inj H
      go_enter Try.func19, Try.ntmps19
      go_wp2
      repeat (go_quiet (fail); try go_wp2)
      go_ret
      exact ⟨by first | rfl | (simp; done) | (simp [*]; done), by repeat (first | exact Drawn0.refl _ | apply Drawn0.step)⟩
    · rw [if_neg c4] at H
      have c4b0 : decide (1024 < (l1.length : Int)) = false := decide_eq_false c4
      have c4b1 : decide (1024 < l1.length) = false := decide_eq_false (by omega)
      clear c4
      by_cases c5 : (l1.length : Int) = (l0.length : Int)
      · rw [if_pos c5] at H
        have c5b0 : ((l1.length : Int) == (l0.length : Int)) = true := beq_iff_eq.mpr c5
        have c5b1 : ((l1.length : Int) != (l0.length : Int)) = false := bne_eq_false_iff_eq.mpr c5
        have c5b2 : (l1.length == l0.length) = true := by first | simpa using c5 | (simp at c5 ⊢; omega)
        clear c5
        have H' := Aside0.mk H
        clear H
        go_enter Try.func19, Try.ntmps19
        go_wp2
        repeat (go_quiet (fail); try go_wp2)
        go_loopg [5] k (fun kq v5 w' => ∃ (x5_1 : Int), v5 = .int .i64 x5_1 ∧ Aside0 (credenzaref04_Right.l0 kq l0 l1 x5_1 = some r) ∧ Aside0 (kq ≤ k) ∧ Drawn0 w w')
        case atStart => exact ⟨(0), (by first | rfl | (simp; done) | (simp [*]; done)), H', ⟨Nat.le_refl _⟩, by repeat (first | exact Drawn0.refl _ | apply Drawn0.step)⟩
        case round =>
          clear H'
          try clear c1
          try clear p2
          try clear c3
          try clear c3b0
          try clear c3b1
          try clear c3b2
          try clear c4
          try clear c4b0
          try clear c4b1
          try clear c5
          try clear c5b0
          try clear c5b1
          try clear c5b2
          obtain ⟨x5_1, rfl, HA, HK1, ⟨m1, rfl⟩⟩ := hrel
          cases gk with
          | zero => exact absurd HA.out (by simp [credenzaref04_Right.l0])
          | succ k1 =>
            have H := HA.out
            clear HA
            simp only [credenzaref04_Right.l0] at H
            by_cases c6 : x5_1 < (l1.length : Int)
            · rw [if_pos c6] at H
              have c6b0 : decide (x5_1 < (l1.length : Int)) = true := decide_eq_true c6
              clear c6
              by_cases c7 : 0 ≤ x5_1
              · rw [if_pos c7] at H
                have c7b0 : decide (0 ≤ x5_1) = true := decide_eq_true c7
                clear c7
                by_cases c8 : 0 < (l1.length : Int)
                · rw [if_pos c8] at H
                  have c8b0 : decide (0 < (l1.length : Int)) = true := decide_eq_true c8
                  have c8b1 : decide (0 < l1.length) = true := decide_eq_true (by omega)
                  clear c8
                  by_cases c9 : ((rd_L2 l1 x5_1).length : Int) = ((rd_L2 l1 0).length : Int)
                  · rw [if_pos c9] at H
                    have c9b0 : (((rd_L2 l1 x5_1).length : Int) == ((rd_L2 l1 0).length : Int)) = true := beq_iff_eq.mpr c9
                    have c9b1 : (((rd_L2 l1 x5_1).length : Int) != ((rd_L2 l1 0).length : Int)) = false := bne_eq_false_iff_eq.mpr c9
                    have c9b2 : ((rd_L2 l1 x5_1).length == (rd_L2 l1 0).length) = true := by first | simpa using c9 | (simp at c9 ⊢; omega)
                    clear c9
                    have H' := Aside0.mk H
                    clear H
                    have p247 : 0 ≤ (x5_1 : Int) := of_decide_eq_true (by first | (with_reducible assumption) | assumption)
                    have q247 : x5_1 < (l1.length : Int) := of_decide_eq_true (by first | (with_reducible assumption) | assumption)
                    obtain ⟨ad247, A247_0, c247_0, e247, hx247_0, hl247_0, hi247_0⟩ := at_L2 HR1.out x5_1 p247 q247
                    cases e247
                    have HR247_0 := Aside0.mk hi247_0
                    have HC247_0 := Aside0.mk hl247_0
                    clear hi247_0 hl247_0
                    replace p247 := eq_true p247
                    replace q247 := eq_true q247
                    have p248 : 0 ≤ (0 : Int) := (by omega)
                    have q248 : 0 < (l1.length : Int) := of_decide_eq_true (by first | (with_reducible assumption) | assumption)
                    obtain ⟨ad248, A248_0, c248_0, e248, hx248_0, hl248_0, hi248_0⟩ := at_L2 HR1.out 0 p248 q248
                    obtain rfl : ad247 = ad248 := (by injection e248)
                    have qi248 : (0 < l1.length) = True := eq_true (by omega)
                    (try rw [show ((0 : Int)).toNat = 0 from rfl] at hx248_0)
                    (try rw [Addr.add_zero'] at hx248_0)
                    have HR248_0 := Aside0.mk hi248_0
                    have HC248_0 := Aside0.mk hl248_0
                    clear hi248_0 hl248_0
                    replace p248 := eq_true p248
                    replace q248 := eq_true q248
                    go_wp2
                    repeat (go_quiet (fail); try go_wp2)
                    go_roundg k1
                    case measure => have := HK1.out; omega
                    case rel => exact ⟨(wrap64 (x5_1 + 1)), (by first | rfl | (simp; done) | (simp [*]; done)), H', ⟨by have := HK1.out; omega⟩, by repeat (first | exact Drawn0.refl _ | apply Drawn0.step)⟩
                  · rw [if_neg c9] at H
                    have c9b0 : (((rd_L2 l1 x5_1).length : Int) == ((rd_L2 l1 0).length : Int)) = false := beq_eq_false_iff_ne.mpr c9
                    have c9b1 : (((rd_L2 l1 x5_1).length : Int) != ((rd_L2 l1 0).length : Int)) = true := bne_iff_ne.mpr c9
                    have c9b2 : ((rd_L2 l1 x5_1).length == (rd_L2 l1 0).length) = false := by first | simpa using c9 | (simp at c9 ⊢; omega)
                    obtain rfl := Option.some.inj H
                    have p247 : 0 ≤ (x5_1 : Int) := of_decide_eq_true (by first | (with_reducible assumption) | assumption)
                    have q247 : x5_1 < (l1.length : Int) := of_decide_eq_true (by first | (with_reducible assumption) | assumption)
                    obtain ⟨ad247, A247_0, c247_0, e247, hx247_0, hl247_0, hi247_0⟩ := at_L2 HR1.out x5_1 p247 q247
                    cases e247
                    have HR247_0 := Aside0.mk hi247_0
                    have HC247_0 := Aside0.mk hl247_0
                    clear hi247_0 hl247_0
                    replace p247 := eq_true p247
                    replace q247 := eq_true q247
                    have p248 : 0 ≤ (0 : Int) := (by omega)
                    have q248 : 0 < (l1.length : Int) := of_decide_eq_true (by first | (with_reducible assumption) | assumption)
                    obtain ⟨ad248, A248_0, c248_0, e248, hx248_0, hl248_0, hi248_0⟩ := at_L2 HR1.out 0 p248 q248
                    obtain rfl : ad247 = ad248 := (by injection e248)
                    have qi248 : (0 < l1.length) = True := eq_true (by omega)
                    (try rw [show ((0 : Int)).toNat = 0 from rfl] at hx248_0)
                    (try rw [Addr.add_zero'] at hx248_0)
                    have HR248_0 := Aside0.mk hi248_0
                    have HC248_0 := Aside0.mk hl248_0
                    clear hi248_0 hl248_0
                    replace p248 := eq_true p248
                    replace q248 := eq_true q248
                    go_wp2
                    repeat (go_quiet (fail); try go_wp2)
                    go_ret
                    exact ⟨by first | rfl | (simp; done) | (simp [*]; done), by repeat (first | exact Drawn0.refl _ | apply Drawn0.step)⟩
                · rw [if_neg c8] at H
                  exact absurd H (by simp)
              · rw [if_neg c7] at H
                exact absurd H (by simp)
            · rw [if_neg c6] at H
              have c6b0 : decide (x5_1 < (l1.length : Int)) = false := decide_eq_false c6
              clear c6
              have H' := Aside0.mk H
              clear H
              go_wp2
              repeat (go_quiet (fail); try go_wp2)
              go_loopg [6] k1 (fun kq v6 w' => ∃ (x6_2 : Int), v6 = .int .i64 x6_2 ∧ Aside0 (credenzaref04_Right.l1 kq l0 l1 x6_2 = some r) ∧ Aside0 (kq ≤ k1) ∧ Drawn0 w w')
              case atStart => exact ⟨(0), (by first | rfl | (simp; done) | (simp [*]; done)), H', ⟨Nat.le_refl _⟩, by repeat (first | exact Drawn0.refl _ | apply Drawn0.step)⟩
              case round =>
                clear H'
                try clear c1
                try clear c2
                try clear p2
                try clear q2
                try clear hx2
                try clear qi2
                try clear c3
                try clear c3b0
                try clear c3b1
                try clear c3b2
                try clear c4
                try clear c4b0
                try clear c4b1
                try clear c5
                try clear c5b0
                try clear c5b1
                try clear c5b2
                try clear c6
                try clear c6b0
                try clear p6
                try clear c7
                try clear c7b0
                try clear c8
                try clear c8b0
                try clear c8b1
                try clear c9
                try clear c9b0
                try clear c9b1
                try clear c9b2
                try clear hx247_0
                try clear hx248_0
                try clear p2
                try clear p247
                try clear p248
                try clear q247
                try clear q248
                obtain ⟨x6_2, rfl, HA, HK2, ⟨m2, rfl⟩⟩ := hrel
                cases gk with
                | zero => exact absurd HA.out (by simp [credenzaref04_Right.l1])
                | succ k2 =>
                  have H := HA.out
                  clear HA
                  simp only [credenzaref04_Right.l1] at H
                  by_cases c10 : x6_2 < (l1.length : Int)
                  · rw [if_pos c10] at H
                    have c10b0 : decide (x6_2 < (l1.length : Int)) = true := decide_eq_true c10
                    clear c10
                    by_cases c11 : 0 ≤ x6_2
                    · rw [if_pos c11] at H
                      have c11b0 : decide (0 ≤ x6_2) = true := decide_eq_true c11
                      clear c11
                      by_cases c12 : x6_2 < (l0.length : Int)
                      · rw [if_pos c12] at H
                        have c12b0 : decide (x6_2 < (l0.length : Int)) = true := decide_eq_true c12
                        clear c12
                        by_cases c13 : (rd l0 x6_2) < 0
                        · rw [if_pos c13] at H
                          have c13b0 : decide ((rd l0 x6_2) < 0) = true := decide_eq_true c13
                          clear c13
                          obtain rfl := Option.some.inj H
                          have p249 : 0 ≤ (x6_2 : Int) := of_decide_eq_true (by first | (with_reducible assumption) | assumption)
                          have q249 : x6_2 < (l0.length : Int) := of_decide_eq_true (by first | (with_reducible assumption) | assumption)
                          obtain ⟨ad249, e249, hx249_0⟩ := Kd.at_int HR0.out x6_2 p249 q249
                          cases e249
                          replace p249 := eq_true p249
                          replace q249 := eq_true q249
                          go_wp2
                          repeat (go_quiet (fail); try go_wp2)
                          go_ret
                          exact ⟨by first | rfl | (simp; done) | (simp [*]; done), by repeat (first | exact Drawn0.refl _ | apply Drawn0.step)⟩
                        · rw [if_neg c13] at H
                          have c13b0 : decide ((rd l0 x6_2) < 0) = false := decide_eq_false c13
                          clear c13
                          by_cases c14 : (rd l0 x6_2) > 65536
                          · rw [if_pos c14] at H
                            have c14b0 : decide (65536 < (rd l0 x6_2)) = true := decide_eq_true c14
                            clear c14
                            obtain rfl := Option.some.inj H
                            have p249 : 0 ≤ (x6_2 : Int) := of_decide_eq_true (by first | (with_reducible assumption) | assumption)
                            have q249 : x6_2 < (l0.length : Int) := of_decide_eq_true (by first | (with_reducible assumption) | assumption)
                            obtain ⟨ad249, e249, hx249_0⟩ := Kd.at_int HR0.out x6_2 p249 q249
                            cases e249
                            replace p249 := eq_true p249
                            replace q249 := eq_true q249
                            have p250 : 0 ≤ (x6_2 : Int) := of_decide_eq_true (by first | (with_reducible assumption) | assumption)
                            have q250 : x6_2 < (l0.length : Int) := of_decide_eq_true (by first | (with_reducible assumption) | assumption)
                            obtain ⟨ad250, e250, hx250_0⟩ := Kd.at_int HR0.out x6_2 p250 q250
                            obtain rfl : ad249 = ad250 := (by injection e250)
                            replace p250 := eq_true p250
                            replace q250 := eq_true q250
                            go_wp2
                            repeat (go_quiet (fail); try go_wp2)
                            go_ret
                            exact ⟨by first | rfl | (simp; done) | (simp [*]; done), by repeat (first | exact Drawn0.refl _ | apply Drawn0.step)⟩
                          · rw [if_neg c14] at H
                            have c14b0 : decide (65536 < (rd l0 x6_2)) = false := decide_eq_false c14
                            clear c14
                            replace H := Option.bind_eq_some_iff.mp H
                            obtain ⟨t252, A150, H⟩ := H
                            replace H : (if t252 = true then (credenzaref04_Right.l1 k2 l0 l1 (wrap64 (x6_2 + 1))) else (some 11)) = some r := H
                            have A15 := Aside0.mk A150
                            clear A150
                            by_cases c16 : t252 = true
                            · subst c16
                              have H1 : (credenzaref04_Right.l1 k2 l0 l1 (wrap64 (x6_2 + 1))) = some r := by rw [if_pos rfl] at H; exact H
                              clear H
                              have H := H1
                              clear H1
                              have H' := Aside0.mk H
                              clear H
                              have p249 : 0 ≤ (x6_2 : Int) := of_decide_eq_true (by first | (with_reducible assumption) | assumption)
                              have q249 : x6_2 < (l0.length : Int) := of_decide_eq_true (by first | (with_reducible assumption) | assumption)
                              obtain ⟨ad249, e249, hx249_0⟩ := Kd.at_int HR0.out x6_2 p249 q249
                              cases e249
                              replace p249 := eq_true p249
                              replace q249 := eq_true q249
                              have p250 : 0 ≤ (x6_2 : Int) := of_decide_eq_true (by first | (with_reducible assumption) | assumption)
                              have q250 : x6_2 < (l0.length : Int) := of_decide_eq_true (by first | (with_reducible assumption) | assumption)
                              obtain ⟨ad250, e250, hx250_0⟩ := Kd.at_int HR0.out x6_2 p250 q250
                              obtain rfl : ad249 = ad250 := (by injection e250)
                              replace p250 := eq_true p250
                              replace q250 := eq_true q250
                              have p251 : 0 ≤ (x6_2 : Int) := of_decide_eq_true (by first | (with_reducible assumption) | assumption)
                              have q251 : x6_2 < (l1.length : Int) := of_decide_eq_true (by first | (with_reducible assumption) | assumption)
                              obtain ⟨ad251, A251_0, c251_0, e251, hx251_0, hl251_0, hi251_0⟩ := at_L2 HR1.out x6_2 p251 q251
                              cases e251
                              have HR251_0 := Aside0.mk hi251_0
                              have HC251_0 := Aside0.mk hl251_0
                              clear hi251_0 hl251_0
                              replace p251 := eq_true p251
                              replace q251 := eq_true q251
                              go_wp2_with (first | (go_at_call 46; (with_reducible refine (credenzaref03_Mild.calls k2 _ _ (rd_L2 l1 x6_2) true _ ?side1 ?side2 A15.out).mono ?_); (case side1 => repeat (first | exact HR251_0.out | (with_reducible refine Kd.C_alloc ?_ _) | (with_reducible refine Kd.C_drewN ?_ _) | (with_reducible refine Kd.C_drew ?_))); (case side2 => exact HC251_0.out); rintro e w' ⟨rfl, ⟨nd, rfl⟩⟩; (try first | exact ⟨rfl, _, World.drewN_drewN _ _ _⟩ | exact ⟨rfl, _, Eq.trans (World.drewN_drewN _ _ _) (congrArg (World.drewN _) (Nat.add_assoc _ _ _))⟩)))
                              repeat (go_quiet (first | (go_at_call 46; (with_reducible refine (credenzaref03_Mild.calls k2 _ _ (rd_L2 l1 x6_2) true _ ?side1 ?side2 A15.out).mono ?_); (case side1 => repeat (first | exact HR251_0.out | (with_reducible refine Kd.C_alloc ?_ _) | (with_reducible refine Kd.C_drewN ?_ _) | (with_reducible refine Kd.C_drew ?_))); (case side2 => exact HC251_0.out); rintro e w' ⟨rfl, ⟨nd, rfl⟩⟩; (try first | exact ⟨rfl, _, World.drewN_drewN _ _ _⟩ | exact ⟨rfl, _, Eq.trans (World.drewN_drewN _ _ _) (congrArg (World.drewN _) (Nat.add_assoc _ _ _))⟩))); try go_wp2_with (first | (go_at_call 46; (with_reducible refine (credenzaref03_Mild.calls k2 _ _ (rd_L2 l1 x6_2) true _ ?side1 ?side2 A15.out).mono ?_); (case side1 => repeat (first | exact HR251_0.out | (with_reducible refine Kd.C_alloc ?_ _) | (with_reducible refine Kd.C_drewN ?_ _) | (with_reducible refine Kd.C_drew ?_))); (case side2 => exact HC251_0.out); rintro e w' ⟨rfl, ⟨nd, rfl⟩⟩; (try first | exact ⟨rfl, _, World.drewN_drewN _ _ _⟩ | exact ⟨rfl, _, Eq.trans (World.drewN_drewN _ _ _) (congrArg (World.drewN _) (Nat.add_assoc _ _ _))⟩))))
                              go_roundg k2
                              case measure => have := HK1.out; have := HK2.out; omega
                              case rel => exact ⟨(wrap64 (x6_2 + 1)), (by first | rfl | (simp; done) | (simp [*]; done)), H', ⟨by have := HK1.out; have := HK2.out; omega⟩, by repeat (first | exact Drawn0.refl _ | apply Drawn0.step)⟩
                            · replace c16 := Bool.eq_false_iff.mpr c16
                              subst c16
                              have H1 : (some 11) = some r := by rw [if_neg (show ¬ (false = true) by decide)] at H; exact H
                              clear H
                              have H := H1
                              clear H1
                              obtain rfl := Option.some.inj H
                              have p249 : 0 ≤ (x6_2 : Int) := of_decide_eq_true (by first | (with_reducible assumption) | assumption)
                              have q249 : x6_2 < (l0.length : Int) := of_decide_eq_true (by first | (with_reducible assumption) | assumption)
                              obtain ⟨ad249, e249, hx249_0⟩ := Kd.at_int HR0.out x6_2 p249 q249
                              cases e249
                              replace p249 := eq_true p249
                              replace q249 := eq_true q249
                              have p250 : 0 ≤ (x6_2 : Int) := of_decide_eq_true (by first | (with_reducible assumption) | assumption)
                              have q250 : x6_2 < (l0.length : Int) := of_decide_eq_true (by first | (with_reducible assumption) | assumption)
                              obtain ⟨ad250, e250, hx250_0⟩ := Kd.at_int HR0.out x6_2 p250 q250
                              obtain rfl : ad249 = ad250 := (by injection e250)
                              replace p250 := eq_true p250
                              replace q250 := eq_true q250
                              have p251 : 0 ≤ (x6_2 : Int) := of_decide_eq_true (by first | (with_reducible assumption) | assumption)
                              have q251 : x6_2 < (l1.length : Int) := of_decide_eq_true (by first | (with_reducible assumption) | assumption)
                              obtain ⟨ad251, A251_0, c251_0, e251, hx251_0, hl251_0, hi251_0⟩ := at_L2 HR1.out x6_2 p251 q251
                              cases e251
                              have HR251_0 := Aside0.mk hi251_0
                              have HC251_0 := Aside0.mk hl251_0
                              clear hi251_0 hl251_0
                              replace p251 := eq_true p251
                              replace q251 := eq_true q251
                              go_wp2_with (first | (go_at_call 46; (with_reducible refine (credenzaref03_Mild.calls k2 _ _ (rd_L2 l1 x6_2) false _ ?side1 ?side2 A15.out).mono ?_); (case side1 => repeat (first | exact HR251_0.out | (with_reducible refine Kd.C_alloc ?_ _) | (with_reducible refine Kd.C_drewN ?_ _) | (with_reducible refine Kd.C_drew ?_))); (case side2 => exact HC251_0.out); rintro e w' ⟨rfl, ⟨nd, rfl⟩⟩; (try first | exact ⟨rfl, _, World.drewN_drewN _ _ _⟩ | exact ⟨rfl, _, Eq.trans (World.drewN_drewN _ _ _) (congrArg (World.drewN _) (Nat.add_assoc _ _ _))⟩)))
                              repeat (go_quiet (first | (go_at_call 46; (with_reducible refine (credenzaref03_Mild.calls k2 _ _ (rd_L2 l1 x6_2) false _ ?side1 ?side2 A15.out).mono ?_); (case side1 => repeat (first | exact HR251_0.out | (with_reducible refine Kd.C_alloc ?_ _) | (with_reducible refine Kd.C_drewN ?_ _) | (with_reducible refine Kd.C_drew ?_))); (case side2 => exact HC251_0.out); rintro e w' ⟨rfl, ⟨nd, rfl⟩⟩; (try first | exact ⟨rfl, _, World.drewN_drewN _ _ _⟩ | exact ⟨rfl, _, Eq.trans (World.drewN_drewN _ _ _) (congrArg (World.drewN _) (Nat.add_assoc _ _ _))⟩))); try go_wp2_with (first | (go_at_call 46; (with_reducible refine (credenzaref03_Mild.calls k2 _ _ (rd_L2 l1 x6_2) false _ ?side1 ?side2 A15.out).mono ?_); (case side1 => repeat (first | exact HR251_0.out | (with_reducible refine Kd.C_alloc ?_ _) | (with_reducible refine Kd.C_drewN ?_ _) | (with_reducible refine Kd.C_drew ?_))); (case side2 => exact HC251_0.out); rintro e w' ⟨rfl, ⟨nd, rfl⟩⟩; (try first | exact ⟨rfl, _, World.drewN_drewN _ _ _⟩ | exact ⟨rfl, _, Eq.trans (World.drewN_drewN _ _ _) (congrArg (World.drewN _) (Nat.add_assoc _ _ _))⟩))))
                              go_ret
                              exact ⟨by first | rfl | (simp; done) | (simp [*]; done), by repeat (first | exact Drawn0.refl _ | apply Drawn0.step)⟩
                      · rw [if_neg c12] at H
                        exact absurd H (by simp)
                    · rw [if_neg c11] at H
                      exact absurd H (by simp)
                  · rw [if_neg c10] at H
                    have c10b0 : decide (x6_2 < (l1.length : Int)) = false := decide_eq_false c10
                    clear c10
                    replace H := Option.bind_eq_some_iff.mp H
                    obtain ⟨t253, A170, H⟩ := H
                    replace H : (if t253 = 0 then (some 11) else (some 0)) = some r := H
                    have A17 := Aside0.mk A170
                    clear A170
                    by_cases c18 : t253 = 0
                    · rw [if_pos c18] at H
                      have c18b0 : (t253 == 0) = true := beq_iff_eq.mpr c18
                      have c18b1 : (t253 != 0) = false := bne_eq_false_iff_eq.mpr c18
                      clear c18
                      obtain rfl := Option.some.inj H
                      go_wp2_with (first | (go_at_call 47; (with_reducible refine (credenzaref04_Sum.calls k2 _ _ l0 t253 _ ?side1 ?side2 A17.out).mono ?_); (case side1 => repeat (first | exact HR0.out | (with_reducible refine Kd.C_alloc ?_ _) | (with_reducible refine Kd.C_drewN ?_ _) | (with_reducible refine Kd.C_drew ?_))); (case side2 => exact HC0.out); rintro e w' ⟨rfl, ⟨nd, rfl⟩⟩; (try first | exact ⟨rfl, _, World.drewN_drewN _ _ _⟩ | exact ⟨rfl, _, Eq.trans (World.drewN_drewN _ _ _) (congrArg (World.drewN _) (Nat.add_assoc _ _ _))⟩)))
                      repeat (go_quiet (first | (go_at_call 47; (with_reducible refine (credenzaref04_Sum.calls k2 _ _ l0 t253 _ ?side1 ?side2 A17.out).mono ?_); (case side1 => repeat (first | exact HR0.out | (with_reducible refine Kd.C_alloc ?_ _) | (with_reducible refine Kd.C_drewN ?_ _) | (with_reducible refine Kd.C_drew ?_))); (case side2 => exact HC0.out); rintro e w' ⟨rfl, ⟨nd, rfl⟩⟩; (try first | exact ⟨rfl, _, World.drewN_drewN _ _ _⟩ | exact ⟨rfl, _, Eq.trans (World.drewN_drewN _ _ _) (congrArg (World.drewN _) (Nat.add_assoc _ _ _))⟩))); try go_wp2_with (first | (go_at_call 47; (with_reducible refine (credenzaref04_Sum.calls k2 _ _ l0 t253 _ ?side1 ?side2 A17.out).mono ?_); (case side1 => repeat (first | exact HR0.out | (with_reducible refine Kd.C_alloc ?_ _) | (with_reducible refine Kd.C_drewN ?_ _) | (with_reducible refine Kd.C_drew ?_))); (case side2 => exact HC0.out); rintro e w' ⟨rfl, ⟨nd, rfl⟩⟩; (try first | exact ⟨rfl, _, World.drewN_drewN _ _ _⟩ | exact ⟨rfl, _, Eq.trans (World.drewN_drewN _ _ _) (congrArg (World.drewN _) (Nat.add_assoc _ _ _))⟩))))
                      go_ret
                      exact ⟨by first | rfl | (simp; done) | (simp [*]; done), by repeat (first | exact Drawn0.refl _ | apply Drawn0.step)⟩
                    · rw [if_neg c18] at H
                      have c18b0 : (t253 == 0) = false := beq_eq_false_iff_ne.mpr c18
                      have c18b1 : (t253 != 0) = true := bne_iff_ne.mpr c18
                      obtain rfl := Option.some.inj H
                      go_wp2_with (first | (go_at_call 47; (with_reducible refine (credenzaref04_Sum.calls k2 _ _ l0 t253 _ ?side1 ?side2 A17.out).mono ?_); (case side1 => repeat (first | exact HR0.out | (with_reducible refine Kd.C_alloc ?_ _) | (with_reducible refine Kd.C_drewN ?_ _) | (with_reducible refine Kd.C_drew ?_))); (case side2 => exact HC0.out); rintro e w' ⟨rfl, ⟨nd, rfl⟩⟩; (try first | exact ⟨rfl, _, World.drewN_drewN _ _ _⟩ | exact ⟨rfl, _, Eq.trans (World.drewN_drewN _ _ _) (congrArg (World.drewN _) (Nat.add_assoc _ _ _))⟩)))
                      repeat (go_quiet (first | (go_at_call 47; (with_reducible refine (credenzaref04_Sum.calls k2 _ _ l0 t253 _ ?side1 ?side2 A17.out).mono ?_); (case side1 => repeat (first | exact HR0.out | (with_reducible refine Kd.C_alloc ?_ _) | (with_reducible refine Kd.C_drewN ?_ _) | (with_reducible refine Kd.C_drew ?_))); (case side2 => exact HC0.out); rintro e w' ⟨rfl, ⟨nd, rfl⟩⟩; (try first | exact ⟨rfl, _, World.drewN_drewN _ _ _⟩ | exact ⟨rfl, _, Eq.trans (World.drewN_drewN _ _ _) (congrArg (World.drewN _) (Nat.add_assoc _ _ _))⟩))); try go_wp2_with (first | (go_at_call 47; (with_reducible refine (credenzaref04_Sum.calls k2 _ _ l0 t253 _ ?side1 ?side2 A17.out).mono ?_); (case side1 => repeat (first | exact HR0.out | (with_reducible refine Kd.C_alloc ?_ _) | (with_reducible refine Kd.C_drewN ?_ _) | (with_reducible refine Kd.C_drew ?_))); (case side2 => exact HC0.out); rintro e w' ⟨rfl, ⟨nd, rfl⟩⟩; (try first | exact ⟨rfl, _, World.drewN_drewN _ _ _⟩ | exact ⟨rfl, _, Eq.trans (World.drewN_drewN _ _ _) (congrArg (World.drewN _) (Nat.add_assoc _ _ _))⟩))))
                      go_ret
                      exact ⟨by first | rfl | (simp; done) | (simp [*]; done), by repeat (first | exact Drawn0.refl _ | apply Drawn0.step)⟩
      · rw [if_neg c5] at H
        have c5b0 : ((l1.length : Int) == (l0.length : Int)) = false := beq_eq_false_iff_ne.mpr c5
        have c5b1 : ((l1.length : Int) != (l0.length : Int)) = true := bne_iff_ne.mpr c5
        have c5b2 : (l1.length == l0.length) = false := by first | simpa using c5 | (simp at c5 ⊢; omega)
        obtain rfl := Option.some.inj H
        go_enter Try.func19, Try.ntmps19
        go_wp2
        repeat (go_quiet (fail); try go_wp2)
        go_ret
        exact ⟨by first | rfl | (simp; done) | (simp [*]; done), by repeat (first | exact Drawn0.refl _ | apply Drawn0.step)⟩

/-! ### credenzaref03_Top: function 48 -/
def credenzaref03_Top.l0 : Nat → List Int → Int → Int → Option (Int)
  | 0, _, _, _ => none
  | k + 1, x0, x3, x4 => if x4 < (x0.length : Int) then (if 0 ≤ x4 then (if 0 ≤ x3 then (if x3 < (x0.length : Int) then (if (rd x0 x4) > (rd x0 x3) then (credenzaref03_Top.l0 k x0 x4 (wrap64 (x4 + 1))) else (credenzaref03_Top.l0 k x0 x3 (wrap64 (x4 + 1)))) else (none)) else (none)) else (none)) else (some x3)
def credenzaref03_Top.f (k : Nat) (l0 : List Int) : Option (Int) := credenzaref03_Top.l0 k l0 0 0
theorem credenzaref03_Top.mono_l : ∀ k, (∀ y0 y1 y2, LeO (credenzaref03_Top.l0 k y0 y1 y2) (credenzaref03_Top.l0 (k + 1) y0 y1 y2))
  | 0 => fun _ _ _ r h => by simp [credenzaref03_Top.l0] at h
  | k + 1 => by
    have ih0 := credenzaref03_Top.mono_l k
    · intro y0 y1 y2
      unfold credenzaref03_Top.l0
      repeat' first
      | (with_reducible exact ih0 _ _ _)
      | (with_reducible exact LeO.refl _)
      | (with_reducible exact LeO.none _)
      | (with_reducible refine LeO.ite ?_ ?_)
      | (with_reducible refine LeO.bind ?_ (fun _ => ?_))
      | exact ih0 _ _ _
      | exact LeO.none _
      | refine LeO.ite ?_ ?_
      | refine LeO.bind ?_ (fun _ => ?_)
theorem credenzaref03_Top.mono : ∀ a0 k, LeO (credenzaref03_Top.f k a0) (credenzaref03_Top.f (k + 1) a0) := by
  intro a0 k
  have ih0 := credenzaref03_Top.mono_l k
  unfold credenzaref03_Top.f
  repeat' first
      | (with_reducible exact ih0 _ _ _)
      | (with_reducible exact LeO.refl _)
      | (with_reducible exact LeO.none _)
      | (with_reducible refine LeO.ite ?_ ?_)
      | (with_reducible refine LeO.bind ?_ (fun _ => ?_))
      | exact ih0 _ _ _
      | exact LeO.none _
      | refine LeO.ite ?_ ?_
      | refine LeO.bind ?_ (fun _ => ?_)
set_option maxHeartbeats 8000000 in
set_option maxRecDepth 100000 in
theorem credenzaref03_Top.calls (k : Nat) (A0 : Option Addr) (c0 : Nat) (l0 : List Int) (r : Int) (w : World) (hr0 : Kd.C (Kd.int .i32) w A0 l0.length l0) (hc0 : l0.length ≤ c0) (h : credenzaref03_Top.f k l0 = some r) :
    Calls Try.prog 48 #[.slice A0 l0.length c0] w fun e w' => e = .returned (.int .i64 r) ∧ Drawn0 w w' := by
  have HR0 := Aside0.mk hr0
  have HC0 := Aside0.mk hc0
  clear hr0 hc0
  have H : (credenzaref03_Top.l0 k l0 0 0) = some r := h
  clear h
  have H' := Aside0.mk H
  clear H
  go_enter Try.func48, Try.ntmps48
  go_wp2
  repeat (go_quiet (fail); try go_wp2)
  go_loopg [3, 4] k (fun kq v3 v4 w' => ∃ (x3_1 : Int) (x4_1 : Int), v3 = .int .i64 x3_1 ∧ v4 = .int .i64 x4_1 ∧ Aside0 (credenzaref03_Top.l0 kq l0 x3_1 x4_1 = some r) ∧ Aside0 (kq ≤ k) ∧ Drawn0 w w')
  case atStart => exact ⟨(0), (0), (by first | rfl | (simp; done) | (simp [*]; done)), (by first | rfl | (simp; done) | (simp [*]; done)), H', ⟨Nat.le_refl _⟩, by repeat (first | exact Drawn0.refl _ | apply Drawn0.step)⟩
  case round =>
    clear H'
    obtain ⟨x3_1, x4_1, rfl, rfl, HA, HK1, ⟨m1, rfl⟩⟩ := hrel
    cases gk with
    | zero => exact absurd HA.out (by simp [credenzaref03_Top.l0])
    | succ k1 =>
      have H := HA.out
      clear HA
      simp only [credenzaref03_Top.l0] at H
      by_cases c2 : x4_1 < (l0.length : Int)
      · rw [if_pos c2] at H
        have c2b0 : decide (x4_1 < (l0.length : Int)) = true := decide_eq_true c2
        clear c2
        by_cases c3 : 0 ≤ x4_1
        · rw [if_pos c3] at H
          have c3b0 : decide (0 ≤ x4_1) = true := decide_eq_true c3
          clear c3
          by_cases c4 : 0 ≤ x3_1
          · rw [if_pos c4] at H
            have c4b0 : decide (0 ≤ x3_1) = true := decide_eq_true c4
            clear c4
            by_cases c5 : x3_1 < (l0.length : Int)
            · rw [if_pos c5] at H
              have c5b0 : decide (x3_1 < (l0.length : Int)) = true := decide_eq_true c5
              clear c5
              by_cases c6 : (rd l0 x4_1) > (rd l0 x3_1)
              · rw [if_pos c6] at H
                have c6b0 : decide ((rd l0 x3_1) < (rd l0 x4_1)) = true := decide_eq_true c6
                clear c6
                have H' := Aside0.mk H
                clear H
                have p254 : 0 ≤ (x4_1 : Int) := of_decide_eq_true (by first | (with_reducible assumption) | assumption)
                have q254 : x4_1 < (l0.length : Int) := of_decide_eq_true (by first | (with_reducible assumption) | assumption)
                obtain ⟨ad254, e254, hx254_0⟩ := Kd.at_int HR0.out x4_1 p254 q254
                cases e254
                replace p254 := eq_true p254
                replace q254 := eq_true q254
                have p255 : 0 ≤ (x3_1 : Int) := of_decide_eq_true (by first | (with_reducible assumption) | assumption)
                have q255 : x3_1 < (l0.length : Int) := of_decide_eq_true (by first | (with_reducible assumption) | assumption)
                obtain ⟨ad255, e255, hx255_0⟩ := Kd.at_int HR0.out x3_1 p255 q255
                obtain rfl : ad254 = ad255 := (by injection e255)
                replace p255 := eq_true p255
                replace q255 := eq_true q255
                go_wp2
                repeat (go_quiet (fail); try go_wp2)
                go_roundg k1
                case measure => have := HK1.out; omega
                case rel => exact ⟨(x4_1), (wrap64 (x4_1 + 1)), (by first | rfl | (simp; done) | (simp [*]; done)), (by first | rfl | (simp; done) | (simp [*]; done)), H', ⟨by have := HK1.out; omega⟩, by repeat (first | exact Drawn0.refl _ | apply Drawn0.step)⟩
              · rw [if_neg c6] at H
                have c6b0 : decide ((rd l0 x3_1) < (rd l0 x4_1)) = false := decide_eq_false c6
                clear c6
                have H' := Aside0.mk H
                clear H
                have p254 : 0 ≤ (x4_1 : Int) := of_decide_eq_true (by first | (with_reducible assumption) | assumption)
                have q254 : x4_1 < (l0.length : Int) := of_decide_eq_true (by first | (with_reducible assumption) | assumption)
                obtain ⟨ad254, e254, hx254_0⟩ := Kd.at_int HR0.out x4_1 p254 q254
                cases e254
                replace p254 := eq_true p254
                replace q254 := eq_true q254
                have p255 : 0 ≤ (x3_1 : Int) := of_decide_eq_true (by first | (with_reducible assumption) | assumption)
                have q255 : x3_1 < (l0.length : Int) := of_decide_eq_true (by first | (with_reducible assumption) | assumption)
                obtain ⟨ad255, e255, hx255_0⟩ := Kd.at_int HR0.out x3_1 p255 q255
                obtain rfl : ad254 = ad255 := (by injection e255)
                replace p255 := eq_true p255
                replace q255 := eq_true q255
                go_wp2
                repeat (go_quiet (fail); try go_wp2)
                go_roundg k1
                case measure => have := HK1.out; omega
                case rel => exact ⟨(x3_1), (wrap64 (x4_1 + 1)), (by first | rfl | (simp; done) | (simp [*]; done)), (by first | rfl | (simp; done) | (simp [*]; done)), H', ⟨by have := HK1.out; omega⟩, by repeat (first | exact Drawn0.refl _ | apply Drawn0.step)⟩
            · rw [if_neg c5] at H
              exact absurd H (by simp)
          · rw [if_neg c4] at H
            exact absurd H (by simp)
        · rw [if_neg c3] at H
          exact absurd H (by simp)
      · rw [if_neg c2] at H
        have c2b0 : decide (x4_1 < (l0.length : Int)) = false := decide_eq_false c2
        clear c2
        obtain rfl := Option.some.inj H
        go_wp2
        repeat (go_quiet (fail); try go_wp2)
        go_ret
        exact ⟨by first | rfl | (simp; done) | (simp [*]; done), by repeat (first | exact Drawn0.refl _ | apply Drawn0.step)⟩

/-! ### credenzaref01_Floor: function 81 -/
def credenzaref01_Floor.f (a0 : Int) (a1 : Int) : Option (Int) := if a1 = 0 then (none) else (if (wrap64 ((wrap64 (Int.tdiv a0 a1)) * a1)) > a0 then (some (wrap64 ((wrap64 (Int.tdiv a0 a1)) - 1))) else (some (wrap64 (Int.tdiv a0 a1))))
set_option maxHeartbeats 8000000 in
set_option maxRecDepth 100000 in
theorem credenzaref01_Floor.calls (a0 : Int) (a1 : Int) (r : Int) (w : World) (h : credenzaref01_Floor.f a0 a1 = some r) :
    Calls Try.prog 81 #[.int .i64 a0, .int .i64 a1] w fun e w' => e = .returned (.int .i64 r) ∧ Drawn0 w w' := by
  have H : (if a1 = 0 then (none) else (if (wrap64 ((wrap64 (Int.tdiv a0 a1)) * a1)) > a0 then (some (wrap64 ((wrap64 (Int.tdiv a0 a1)) - 1))) else (some (wrap64 (Int.tdiv a0 a1))))) = some r := h
  clear h
  by_cases c3 : a1 = 0
  · rw [if_pos c3] at H
    exact absurd H (by simp)
  · rw [if_neg c3] at H
    have c3b0 : (a1 == 0) = false := beq_eq_false_iff_ne.mpr c3
    have c3b1 : (a1 != 0) = true := bne_iff_ne.mpr c3
    by_cases c4 : (wrap64 ((wrap64 (Int.tdiv a0 a1)) * a1)) > a0
    · rw [if_pos c4] at H
      have c4b0 : decide (a0 < (wrap64 ((wrap64 (Int.tdiv a0 a1)) * a1))) = true := decide_eq_true c4
      clear c4
      obtain rfl := Option.some.inj H
      go_enter Try.func81, Try.ntmps81
      go_wp2
      go_ret
      exact ⟨by first | rfl | (simp; done) | (simp [*]; done), by repeat (first | exact Drawn0.refl _ | apply Drawn0.step)⟩
    · rw [if_neg c4] at H
      have c4b0 : decide (a0 < (wrap64 ((wrap64 (Int.tdiv a0 a1)) * a1))) = false := decide_eq_false c4
      clear c4
      obtain rfl := Option.some.inj H
      go_enter Try.func81, Try.ntmps81
      go_wp2
      go_ret
      exact ⟨by first | rfl | (simp; done) | (simp [*]; done), by repeat (first | exact Drawn0.refl _ | apply Drawn0.step)⟩

/-! ### credenzaref01_Ratio: function 58 -/
def credenzaref01_Ratio.f (a0 : Int) (a1 : Int) : Option (Int) := (credenzaref01_Floor.f a0 a1).bind fun t256 => (if (wrap64 (a0 - (wrap64 (t256 * a1)))) > (wrap64 (a1 - (wrap64 (a0 - (wrap64 (t256 * a1)))))) then (some (wrap64 (t256 + 1))) else (if (wrap64 (a0 - (wrap64 (t256 * a1)))) = (wrap64 (a1 - (wrap64 (a0 - (wrap64 (t256 * a1)))))) then (if (Int.tmod t256 2) = 0 then (some t256) else (some (wrap64 (t256 + 1)))) else (some t256)))
set_option maxHeartbeats 8000000 in
set_option maxRecDepth 100000 in
theorem credenzaref01_Ratio.calls (a0 : Int) (a1 : Int) (r : Int) (w : World) (h : credenzaref01_Ratio.f a0 a1 = some r) :
    Calls Try.prog 58 #[.int .i64 a0, .int .i64 a1] w fun e w' => e = .returned (.int .i64 r) ∧ Drawn0 w w' := by
  have H : ((credenzaref01_Floor.f a0 a1).bind fun t256 => (if (wrap64 (a0 - (wrap64 (t256 * a1)))) > (wrap64 (a1 - (wrap64 (a0 - (wrap64 (t256 * a1)))))) then (some (wrap64 (t256 + 1))) else (if (wrap64 (a0 - (wrap64 (t256 * a1)))) = (wrap64 (a1 - (wrap64 (a0 - (wrap64 (t256 * a1)))))) then (if (Int.tmod t256 2) = 0 then (some t256) else (some (wrap64 (t256 + 1)))) else (some t256)))) = some r := h
  clear h
  replace H := Option.bind_eq_some_iff.mp H
  obtain ⟨t256, A30, H⟩ := H
  replace H : (if (wrap64 (a0 - (wrap64 (t256 * a1)))) > (wrap64 (a1 - (wrap64 (a0 - (wrap64 (t256 * a1)))))) then (some (wrap64 (t256 + 1))) else (if (wrap64 (a0 - (wrap64 (t256 * a1)))) = (wrap64 (a1 - (wrap64 (a0 - (wrap64 (t256 * a1)))))) then (if (Int.tmod t256 2) = 0 then (some t256) else (some (wrap64 (t256 + 1)))) else (some t256))) = some r := H
  have A3 := Aside0.mk A30
  clear A30
  by_cases c4 : (wrap64 (a0 - (wrap64 (t256 * a1)))) > (wrap64 (a1 - (wrap64 (a0 - (wrap64 (t256 * a1))))))
  · rw [if_pos c4] at H
    have c4b0 : decide ((wrap64 (a1 - (wrap64 (a0 - (wrap64 (t256 * a1)))))) < (wrap64 (a0 - (wrap64 (t256 * a1))))) = true := decide_eq_true c4
    clear c4
    obtain rfl := Option.some.inj H
    go_enter Try.func58, Try.ntmps58
    go_wp2_with (first | ((with_reducible refine gate_callee (f := 81) rfl ?_); refine goesL_ (some 10) rfl rfl Try.func81 (by kernel_rfl) rfl #[.int .i64 a0, .int .i64 a1] rfl (by (try simp only [List.map_toArray, List.map_cons, List.map_nil]); first | done | rfl | (simp only [List.length_drop, List.length_take]; rfl)) ?_; (with_reducible refine (credenzaref01_Floor.calls a0 a1 t256 _ A3.out).mono ?_); rintro e w' ⟨rfl, ⟨nd, rfl⟩⟩; refine ⟨_, rfl, ?_⟩))
    go_ret
    exact ⟨by first | rfl | (simp; done) | (simp [*]; done), by repeat (first | exact Drawn0.refl _ | apply Drawn0.step)⟩
  · rw [if_neg c4] at H
    have c4b0 : decide ((wrap64 (a1 - (wrap64 (a0 - (wrap64 (t256 * a1)))))) < (wrap64 (a0 - (wrap64 (t256 * a1))))) = false := decide_eq_false c4
    clear c4
    by_cases c5 : (wrap64 (a0 - (wrap64 (t256 * a1)))) = (wrap64 (a1 - (wrap64 (a0 - (wrap64 (t256 * a1))))))
    · rw [if_pos c5] at H
      have c5b0 : ((wrap64 (a0 - (wrap64 (t256 * a1)))) == (wrap64 (a1 - (wrap64 (a0 - (wrap64 (t256 * a1))))))) = true := beq_iff_eq.mpr c5
      have c5b1 : ((wrap64 (a0 - (wrap64 (t256 * a1)))) != (wrap64 (a1 - (wrap64 (a0 - (wrap64 (t256 * a1))))))) = false := bne_eq_false_iff_eq.mpr c5
      clear c5
      by_cases c6 : (Int.tmod t256 2) = 0
      · rw [if_pos c6] at H
        have c6b0 : ((Int.tmod t256 2) == 0) = true := beq_iff_eq.mpr c6
        have c6b1 : ((Int.tmod t256 2) != 0) = false := bne_eq_false_iff_eq.mpr c6
        clear c6
        obtain rfl := Option.some.inj H
        go_enter Try.func58, Try.ntmps58
        go_wp2_with (first | ((with_reducible refine gate_callee (f := 81) rfl ?_); refine goesL_ (some 10) rfl rfl Try.func81 (by kernel_rfl) rfl #[.int .i64 a0, .int .i64 a1] rfl (by (try simp only [List.map_toArray, List.map_cons, List.map_nil]); first | done | rfl | (simp only [List.length_drop, List.length_take]; rfl)) ?_; (with_reducible refine (credenzaref01_Floor.calls a0 a1 t256 _ A3.out).mono ?_); rintro e w' ⟨rfl, ⟨nd, rfl⟩⟩; refine ⟨_, rfl, ?_⟩))
        go_ret
        exact ⟨by first | rfl | (simp; done) | (simp [*]; done), by repeat (first | exact Drawn0.refl _ | apply Drawn0.step)⟩
      · rw [if_neg c6] at H
        have c6b0 : ((Int.tmod t256 2) == 0) = false := beq_eq_false_iff_ne.mpr c6
        have c6b1 : ((Int.tmod t256 2) != 0) = true := bne_iff_ne.mpr c6
        obtain rfl := Option.some.inj H
        go_enter Try.func58, Try.ntmps58
        go_wp2_with (first | ((with_reducible refine gate_callee (f := 81) rfl ?_); refine goesL_ (some 10) rfl rfl Try.func81 (by kernel_rfl) rfl #[.int .i64 a0, .int .i64 a1] rfl (by (try simp only [List.map_toArray, List.map_cons, List.map_nil]); first | done | rfl | (simp only [List.length_drop, List.length_take]; rfl)) ?_; (with_reducible refine (credenzaref01_Floor.calls a0 a1 t256 _ A3.out).mono ?_); rintro e w' ⟨rfl, ⟨nd, rfl⟩⟩; refine ⟨_, rfl, ?_⟩))
        go_ret
        exact ⟨by first | rfl | (simp; done) | (simp [*]; done), by repeat (first | exact Drawn0.refl _ | apply Drawn0.step)⟩
    · rw [if_neg c5] at H
      have c5b0 : ((wrap64 (a0 - (wrap64 (t256 * a1)))) == (wrap64 (a1 - (wrap64 (a0 - (wrap64 (t256 * a1))))))) = false := beq_eq_false_iff_ne.mpr c5
      have c5b1 : ((wrap64 (a0 - (wrap64 (t256 * a1)))) != (wrap64 (a1 - (wrap64 (a0 - (wrap64 (t256 * a1))))))) = true := bne_iff_ne.mpr c5
      obtain rfl := Option.some.inj H
      go_enter Try.func58, Try.ntmps58
      go_wp2_with (first | ((with_reducible refine gate_callee (f := 81) rfl ?_); refine goesL_ (some 10) rfl rfl Try.func81 (by kernel_rfl) rfl #[.int .i64 a0, .int .i64 a1] rfl (by (try simp only [List.map_toArray, List.map_cons, List.map_nil]); first | done | rfl | (simp only [List.length_drop, List.length_take]; rfl)) ?_; (with_reducible refine (credenzaref01_Floor.calls a0 a1 t256 _ A3.out).mono ?_); rintro e w' ⟨rfl, ⟨nd, rfl⟩⟩; refine ⟨_, rfl, ?_⟩))
      go_ret
      exact ⟨by first | rfl | (simp; done) | (simp [*]; done), by repeat (first | exact Drawn0.refl _ | apply Drawn0.step)⟩

end Go.Proofs.Ytmndomlpdajjmac.Q
