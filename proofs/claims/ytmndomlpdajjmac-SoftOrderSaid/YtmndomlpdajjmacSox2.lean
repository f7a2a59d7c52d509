-- Ytmndomlpdajjmac: the machine side of the statements, written by a program of the session.
import Derived.Test.YtmndomlpdajjmacSox0
import Derived.Test.YtmndomlpdajjmacSox1
namespace Go.Proofs.Ytmndomlpdajjmac.So
open Go.RowKit Go.Proofs.YtmndomlpdajjmacW.PrintWords Go.Proofs.YtmndomlpdajjmacW.PrintLast Go.Proofs.YtmndomlpdajjmacW.PrintMore
attribute [local go_sem] max2_int min2_int max_two min_two max_three min_three max_four min_four   -- for this text's walks alone
set_option linter.unusedVariables false
set_option linter.unusedSimpArgs false

/-! ### slices_IndexFunc_int32_int32_of_dot_Mild_1: function 144 -/
def slices_IndexFunc_int32_int32_of_dot_Mild_1.l0 : Nat → List Int → Int → Int → Option (Int)
  | 0, _, _, _ => none
  | k + 1, x0, x7, x8 => if x8 < x7 then (if 0 ≤ x8 then (if x8 < (x0.length : Int) then ((dot_Mild_1.f (rd x0 x8)).bind fun t122 => (if t122 = true then (some x8) else (slices_IndexFunc_int32_int32_of_dot_Mild_1.l0 k x0 x7 (wrap64 (x8 + 1))))) else (none)) else (none)) else (some (-1))
def slices_IndexFunc_int32_int32_of_dot_Mild_1.f (k : Nat) (l0 : List Int)  : Option (Int) := slices_IndexFunc_int32_int32_of_dot_Mild_1.l0 k l0 (l0.length : Int) 0
theorem slices_IndexFunc_int32_int32_of_dot_Mild_1.mono_l : ∀ k, (∀ y0 y1 y2, LeO (slices_IndexFunc_int32_int32_of_dot_Mild_1.l0 k y0 y1 y2) (slices_IndexFunc_int32_int32_of_dot_Mild_1.l0 (k + 1) y0 y1 y2))
  | 0 => fun _ _ _ r h => by simp [slices_IndexFunc_int32_int32_of_dot_Mild_1.l0] at h
  | k + 1 => by
    have ih0 := slices_IndexFunc_int32_int32_of_dot_Mild_1.mono_l k
    · intro y0 y1 y2
      unfold slices_IndexFunc_int32_int32_of_dot_Mild_1.l0
      repeat' first
      | (with_reducible exact ih0 _ _ _)
      | (with_reducible exact LeO.refl _)
      | (with_reducible exact LeO.none _)
      | (with_reducible refine LeO.ite ?_ ?_)
      | (with_reducible refine LeO.bind ?_ (fun _ => ?_))
      | exact ih0 _ _ _
      | exact LeO.none _
      | refine LeO.ite ?_ ?_
      | refine LeO.bind ?_ (fun _ => ?_)
theorem slices_IndexFunc_int32_int32_of_dot_Mild_1.mono : ∀ a0 k, LeO (slices_IndexFunc_int32_int32_of_dot_Mild_1.f k a0) (slices_IndexFunc_int32_int32_of_dot_Mild_1.f (k + 1) a0) := by
  intro a0 k
  have ih0 := slices_IndexFunc_int32_int32_of_dot_Mild_1.mono_l k
  unfold slices_IndexFunc_int32_int32_of_dot_Mild_1.f
  repeat' first
      | (with_reducible exact ih0 _ _ _)
      | (with_reducible exact LeO.refl _)
      | (with_reducible exact LeO.none _)
      | (with_reducible refine LeO.ite ?_ ?_)
      | (with_reducible refine LeO.bind ?_ (fun _ => ?_))
      | exact ih0 _ _ _
      | exact LeO.none _
      | refine LeO.ite ?_ ?_
      | refine LeO.bind ?_ (fun _ => ?_)
set_option maxHeartbeats 8000000 in
set_option maxRecDepth 100000 in
theorem slices_IndexFunc_int32_int32_of_dot_Mild_1.calls (k : Nat) (A0 : Option Addr) (c0 : Nat) (l0 : List Int)  (r : Int) (w : World) (hr0 : Kd.C (Kd.int .i32) w A0 l0.length l0) (hc0 : l0.length ≤ c0) (h : slices_IndexFunc_int32_int32_of_dot_Mild_1.f k l0 = some r) :
    Calls Try.prog 103 #[.slice A0 l0.length c0, .func (.func 96) #[] #[]] w fun e w' => e = .returned (.int .i64 r) ∧ Drawn0 w w' := by
  have HR0 := Aside0.mk hr0
  have HC0 := Aside0.mk hc0
  clear hr0 hc0
  have H : (slices_IndexFunc_int32_int32_of_dot_Mild_1.l0 k l0 (l0.length : Int) 0) = some r := h
  clear h
  have H' := Aside0.mk H
  clear H
  go_enter Try.func103, Try.ntmps103
  go_wp2
  go_loopg [8] k (fun kq v8 w' => ∃ (x8_1 : Int), v8 = .int .i64 x8_1 ∧ Aside0 (slices_IndexFunc_int32_int32_of_dot_Mild_1.l0 kq l0 (l0.length : Int) x8_1 = some r) ∧ Aside0 (kq ≤ k) ∧ Drawn0 w w')
  case atStart => exact ⟨(0), (by first | rfl | (simp; done) | (simp [*]; done)), H', ⟨Nat.le_refl _⟩, by repeat (first | exact Drawn0.refl _ | apply Drawn0.step)⟩
  case round =>
    clear H'
    try clear c1
    try clear p2
    obtain ⟨x8_1, rfl, HA, HK1, ⟨m1, rfl⟩⟩ := hrel
    cases gk with
    | zero => exact absurd HA.out (by simp [slices_IndexFunc_int32_int32_of_dot_Mild_1.l0])
    | succ k1 =>
      have H := HA.out
      clear HA
      simp only [slices_IndexFunc_int32_int32_of_dot_Mild_1.l0] at H
      by_cases c3 : x8_1 < (l0.length : Int)
      · rw [if_pos c3] at H
        have c3b0 : decide (x8_1 < (l0.length : Int)) = true := decide_eq_true c3
        clear c3
        by_cases c4 : 0 ≤ x8_1
        · rw [if_pos c4] at H
          have c4b0 : decide (0 ≤ x8_1) = true := decide_eq_true c4
          clear c4
          by_cases c5 : x8_1 < (l0.length : Int)
          · rw [if_pos c5] at H
            have c5b0 : decide (x8_1 < (l0.length : Int)) = true := decide_eq_true c5
            clear c5
            replace H := Option.bind_eq_some_iff.mp H
            obtain ⟨t122, A60, H⟩ := H
            replace H : (if t122 = true then (some x8_1) else (slices_IndexFunc_int32_int32_of_dot_Mild_1.l0 k1 l0 (l0.length : Int) (wrap64 (x8_1 + 1)))) = some r := H
            have A6 := Aside0.mk A60
            clear A60
            by_cases c7 : t122 = true
            · subst c7
              have H1 : (some x8_1) = some r := by rw [if_pos rfl] at H; exact H
              clear H
              have H := H1
              clear H1
              obtain rfl := Option.some.inj H
              have p121 : 0 ≤ (x8_1 : Int) := of_decide_eq_true (by first | (with_reducible assumption) | assumption)
              have q121 : x8_1 < (l0.length : Int) := of_decide_eq_true (by first | (with_reducible assumption) | assumption)
              obtain ⟨ad121, e121, hx121_0⟩ := Kd.at_int HR0.out x8_1 p121 q121
              cases e121
              replace p121 := eq_true p121
              replace q121 := eq_true q121
              go_wp2_with (first | (go_at_call 96; (with_reducible refine (dot_Mild_1.calls (rd l0 x8_1) true _ A6.out).mono ?_); rintro e w' ⟨rfl, ⟨nd, rfl⟩⟩))
              go_ret
              exact ⟨by first | rfl | (simp; done) | (simp [*]; done), by repeat (first | exact Drawn0.refl _ | apply Drawn0.step)⟩
            · replace c7 := Bool.eq_false_iff.mpr c7
              subst c7
              have H1 : (slices_IndexFunc_int32_int32_of_dot_Mild_1.l0 k1 l0 (l0.length : Int) (wrap64 (x8_1 + 1))) = some r := by rw [if_neg (show ¬ (false = true) by decide)] at H; exact H
              clear H
              have H := H1
              clear H1
              have H' := Aside0.mk H
              clear H
              have p121 : 0 ≤ (x8_1 : Int) := of_decide_eq_true (by first | (with_reducible assumption) | assumption)
              have q121 : x8_1 < (l0.length : Int) := of_decide_eq_true (by first | (with_reducible assumption) | assumption)
              obtain ⟨ad121, e121, hx121_0⟩ := Kd.at_int HR0.out x8_1 p121 q121
              cases e121
              replace p121 := eq_true p121
              replace q121 := eq_true q121
              go_wp2_with (first | (go_at_call 96; (with_reducible refine (dot_Mild_1.calls (rd l0 x8_1) false _ A6.out).mono ?_); rintro e w' ⟨rfl, ⟨nd, rfl⟩⟩))
              go_roundg k1
              case measure => have := HK1.out; omega
              case rel => exact ⟨(wrap64 (x8_1 + 1)), (by first | rfl | (simp; done) | (simp [*]; done)), H', ⟨by have := HK1.out; omega⟩, by repeat (first | exact Drawn0.refl _ | apply Drawn0.step)⟩
          · rw [if_neg c5] at H
            exact absurd H (by simp)
        · rw [if_neg c4] at H
          exact absurd H (by simp)
      · rw [if_neg c3] at H
        have c3b0 : decide (x8_1 < (l0.length : Int)) = false := decide_eq_false c3
        clear c3
        obtain rfl := Option.some.inj H
        go_wp2
        go_ret
        exact ⟨by first | rfl | (simp; done) | (simp [*]; done), by repeat (first | exact Drawn0.refl _ | apply Drawn0.step)⟩

/-! ### slices_ContainsFunc_int32_int32_of_dot_Mild_1: function 143 -/
def slices_ContainsFunc_int32_int32_of_dot_Mild_1.f (k : Nat) (l0 : List Int)  : Option (Bool) := (slices_IndexFunc_int32_int32_of_dot_Mild_1.f k l0).bind fun t123 => (some (decide (t123 ≥ 0)))
theorem slices_ContainsFunc_int32_int32_of_dot_Mild_1.mono : ∀ a0 k, LeO (slices_ContainsFunc_int32_int32_of_dot_Mild_1.f k a0) (slices_ContainsFunc_int32_int32_of_dot_Mild_1.f (k + 1) a0) := by
  intro a0 k
  unfold slices_ContainsFunc_int32_int32_of_dot_Mild_1.f
  repeat' first
      | (with_reducible exact slices_IndexFunc_int32_int32_of_dot_Mild_1.mono _ _)
      | (with_reducible exact LeO.refl _)
      | (with_reducible exact LeO.none _)
      | (with_reducible refine LeO.ite ?_ ?_)
      | (with_reducible refine LeO.bind ?_ (fun _ => ?_))
      | exact slices_IndexFunc_int32_int32_of_dot_Mild_1.mono _ _
      | exact LeO.none _
      | refine LeO.ite ?_ ?_
      | refine LeO.bind ?_ (fun _ => ?_)
set_option maxHeartbeats 8000000 in
set_option maxRecDepth 100000 in
theorem slices_ContainsFunc_int32_int32_of_dot_Mild_1.calls (k : Nat) (A0 : Option Addr) (c0 : Nat) (l0 : List Int)  (r : Bool) (w : World) (hr0 : Kd.C (Kd.int .i32) w A0 l0.length l0) (hc0 : l0.length ≤ c0) (h : slices_ContainsFunc_int32_int32_of_dot_Mild_1.f k l0 = some r) :
    Calls Try.prog 95 #[.slice A0 l0.length c0, .func (.func 96) #[] #[]] w fun e w' => e = .returned (.bool r) ∧ Drawn0 w w' := by
  have HR0 := Aside0.mk hr0
  have HC0 := Aside0.mk hc0
  clear hr0 hc0
  have H : ((slices_IndexFunc_int32_int32_of_dot_Mild_1.f k l0).bind fun t123 => (some (decide (t123 ≥ 0)))) = some r := h
  clear h
  replace H := Option.bind_eq_some_iff.mp H
  obtain ⟨t123, A30, H⟩ := H
  replace H : (some (decide (t123 ≥ 0))) = some r := H
  have A3 := Aside0.mk A30
  clear A30
  obtain rfl := Option.some.inj H
  go_enter Try.func95, Try.ntmps95
  go_wp2_with (first | ((with_reducible refine gate_callee (f := 103) rfl ?_); refine goesL_ (some 7) rfl rfl Try.func103 (by kernel_rfl) rfl #[.slice A0 l0.length c0, .func (.func 96) #[] #[]] rfl (by (try simp only [List.map_toArray, List.map_cons, List.map_nil]); first | done | rfl | (simp only [List.length_drop, List.length_take]; rfl)) ?_; (with_reducible refine (slices_IndexFunc_int32_int32_of_dot_Mild_1.calls k _ _ l0  t123 _ ?side1 ?side2 A3.out).mono ?_); (case side1 => repeat (first | exact HR0.out | (with_reducible refine Kd.C_alloc ?_ _) | (with_reducible refine Kd.C_drewN ?_ _) | (with_reducible refine Kd.C_drew ?_))); (case side2 => exact HC0.out); rintro e w' ⟨rfl, ⟨nd, rfl⟩⟩; refine ⟨_, rfl, ?_⟩))
  go_ret
  exact ⟨by first | rfl | (simp; done) | (simp [*]; done), by repeat (first | exact Drawn0.refl _ | apply Drawn0.step)⟩

/-! ### dot_Mild: function 79 -/
def dot_Mild.f (k : Nat) (l0 : List Int) : Option (Bool) := if (l0.length : Int) ≤ 1024 then ((slices_ContainsFunc_int32_int32_of_dot_Mild_1.f k l0).bind fun t124 => (some (!t124))) else (some false)
theorem dot_Mild.mono : ∀ a0 k, LeO (dot_Mild.f k a0) (dot_Mild.f (k + 1) a0) := by
  intro a0 k
  unfold dot_Mild.f
  repeat' first
      | (with_reducible exact slices_ContainsFunc_int32_int32_of_dot_Mild_1.mono _ _)
      | (with_reducible exact LeO.refl _)
      | (with_reducible exact LeO.none _)
      | (with_reducible refine LeO.ite ?_ ?_)
      | (with_reducible refine LeO.bind ?_ (fun _ => ?_))
      | exact slices_ContainsFunc_int32_int32_of_dot_Mild_1.mono _ _
      | exact LeO.none _
      | refine LeO.ite ?_ ?_
      | refine LeO.bind ?_ (fun _ => ?_)
set_option maxHeartbeats 8000000 in
set_option maxRecDepth 100000 in
theorem dot_Mild.calls (k : Nat) (A0 : Option Addr) (c0 : Nat) (l0 : List Int) (r : Bool) (w : World) (hr0 : Kd.C (Kd.int .i32) w A0 l0.length l0) (hc0 : l0.length ≤ c0) (h : dot_Mild.f k l0 = some r) :
    Calls Try.prog 79 #[.slice A0 l0.length c0] w fun e w' => e = .returned (.bool r) ∧ Drawn0 w w' := by
  have HR0 := Aside0.mk hr0
  have HC0 := Aside0.mk hc0
  clear hr0 hc0
  have H : (if (l0.length : Int) ≤ 1024 then ((slices_ContainsFunc_int32_int32_of_dot_Mild_1.f k l0).bind fun t124 => (some (!t124))) else (some false)) = some r := h
  clear h
  by_cases c2 : (l0.length : Int) ≤ 1024
  · rw [if_pos c2] at H
    have c2b0 : decide ((l0.length : Int) ≤ 1024) = true := decide_eq_true c2
    have c2b1 : decide (l0.length ≤ 1024) = true := decide_eq_true (by omega)
    clear c2
    replace H := Option.bind_eq_some_iff.mp H
    obtain ⟨t124, A30, H⟩ := H
    replace H : (some (!t124)) = some r := H
    have A3 := Aside0.mk A30
    clear A30
    obtain rfl := Option.some.inj H
    go_enter Try.func79, Try.ntmps79
    go_wp2_with (first | (go_at_call 95; (with_reducible refine (slices_ContainsFunc_int32_int32_of_dot_Mild_1.calls k _ _ l0  t124 _ ?side1 ?side2 A3.out).mono ?_); (case side1 => repeat (first | exact HR0.out | (with_reducible refine Kd.C_alloc ?_ _) | (with_reducible refine Kd.C_drewN ?_ _) | (with_reducible refine Kd.C_drew ?_))); (case side2 => exact HC0.out); rintro e w' ⟨rfl, ⟨nd, rfl⟩⟩))
    go_ret
    exact ⟨by first | rfl | (simp; done) | (simp [*]; done), by repeat (first | exact Drawn0.refl _ | apply Drawn0.step)⟩
  · rw [if_neg c2] at H
    have c2b0 : decide ((l0.length : Int) ≤ 1024) = false := decide_eq_false c2
    have c2b1 : decide (l0.length ≤ 1024) = false := decide_eq_false (by omega)
    clear c2
    obtain rfl := Option.some.inj H
    go_enter Try.func79, Try.ntmps79
    go_wp2
    go_ret
    exact ⟨by first | rfl | (simp; done) | (simp [*]; done), by repeat (first | exact Drawn0.refl _ | apply Drawn0.step)⟩

/-! ### soft_right_3: function 78 -/
def soft_right_3.f (k : Nat) (l0 : List Int) : Option (Bool) := (dot_Mild.f k l0).bind fun t125 => (some (!t125))
theorem soft_right_3.mono : ∀ a0 k, LeO (soft_right_3.f k a0) (soft_right_3.f (k + 1) a0) := by
  intro a0 k
  unfold soft_right_3.f
  repeat' first
      | (with_reducible exact dot_Mild.mono _ _)
      | (with_reducible exact LeO.refl _)
      | (with_reducible exact LeO.none _)
      | (with_reducible refine LeO.ite ?_ ?_)
      | (with_reducible refine LeO.bind ?_ (fun _ => ?_))
      | exact dot_Mild.mono _ _
      | exact LeO.none _
      | refine LeO.ite ?_ ?_
      | refine LeO.bind ?_ (fun _ => ?_)
set_option maxHeartbeats 8000000 in
set_option maxRecDepth 100000 in
theorem soft_right_3.calls (k : Nat) (A0 : Option Addr) (c0 : Nat) (l0 : List Int) (r : Bool) (w : World) (hr0 : Kd.C (Kd.int .i32) w A0 l0.length l0) (hc0 : l0.length ≤ c0) (h : soft_right_3.f k l0 = some r) :
    Calls Try.prog 78 #[.slice A0 l0.length c0] w fun e w' => e = .returned (.bool r) ∧ Drawn0 w w' := by
  have HR0 := Aside0.mk hr0
  have HC0 := Aside0.mk hc0
  clear hr0 hc0
  have H : ((dot_Mild.f k l0).bind fun t125 => (some (!t125))) = some r := h
  clear h
  replace H := Option.bind_eq_some_iff.mp H
  obtain ⟨t125, A20, H⟩ := H
  replace H : (some (!t125)) = some r := H
  have A2 := Aside0.mk A20
  clear A20
  obtain rfl := Option.some.inj H
  go_enter Try.func78, Try.ntmps78
  go_wp2_with (first | ((with_reducible refine gate_callee (f := 79) rfl ?_); refine goesL_ (some 4) rfl rfl Try.func79 (by kernel_rfl) rfl #[.slice A0 l0.length c0] rfl (by (try simp only [List.map_toArray, List.map_cons, List.map_nil]); first | done | rfl | (simp only [List.length_drop, List.length_take]; rfl)) ?_; (with_reducible refine (dot_Mild.calls k _ _ l0 t125 _ ?side1 ?side2 A2.out).mono ?_); (case side1 => repeat (first | exact HR0.out | (with_reducible refine Kd.C_alloc ?_ _) | (with_reducible refine Kd.C_drewN ?_ _) | (with_reducible refine Kd.C_drew ?_))); (case side2 => exact HC0.out); rintro e w' ⟨rfl, ⟨nd, rfl⟩⟩; refine ⟨_, rfl, ?_⟩))
  go_ret
  exact ⟨by first | rfl | (simp; done) | (simp [*]; done), by repeat (first | exact Drawn0.refl _ | apply Drawn0.step)⟩

/-! ### slices_IndexFunc_int32_int32_of_soft_right_1: function 146 -/
def slices_IndexFunc_int32_int32_of_soft_right_1.l0 : Nat → List (List Int) → Int → Int → Int → Option (Int)
  | 0, _, _, _, _ => none
  | k + 1, x0, x7, x8, x2000 => if x8 < x7 then (if 0 ≤ x8 then (if x8 < (x0.length : Int) then ((soft_right_1.f (rd_L2 x0 x8) x2000).bind fun t127 => (if t127 = true then (some x8) else (slices_IndexFunc_int32_int32_of_soft_right_1.l0 k x0 x7 (wrap64 (x8 + 1)) x2000))) else (none)) else (none)) else (some (-1))
def slices_IndexFunc_int32_int32_of_soft_right_1.f (k : Nat) (l0 : List (List Int)) (a1 : Int) : Option (Int) := slices_IndexFunc_int32_int32_of_soft_right_1.l0 k l0 (l0.length : Int) 0 a1
theorem slices_IndexFunc_int32_int32_of_soft_right_1.mono_l : ∀ k, (∀ y0 y1 y2 y3, LeO (slices_IndexFunc_int32_int32_of_soft_right_1.l0 k y0 y1 y2 y3) (slices_IndexFunc_int32_int32_of_soft_right_1.l0 (k + 1) y0 y1 y2 y3))
  | 0 => fun _ _ _ _ r h => by simp [slices_IndexFunc_int32_int32_of_soft_right_1.l0] at h
  | k + 1 => by
    have ih0 := slices_IndexFunc_int32_int32_of_soft_right_1.mono_l k
    · intro y0 y1 y2 y3
      unfold slices_IndexFunc_int32_int32_of_soft_right_1.l0
      repeat' first
      | (with_reducible exact ih0 _ _ _ _)
      | (with_reducible exact LeO.refl _)
      | (with_reducible exact LeO.none _)
      | (with_reducible refine LeO.ite ?_ ?_)
      | (with_reducible refine LeO.bind ?_ (fun _ => ?_))
      | exact ih0 _ _ _ _
      | exact LeO.none _
      | refine LeO.ite ?_ ?_
      | refine LeO.bind ?_ (fun _ => ?_)
theorem slices_IndexFunc_int32_int32_of_soft_right_1.mono : ∀ a0 a1 k, LeO (slices_IndexFunc_int32_int32_of_soft_right_1.f k a0 a1) (slices_IndexFunc_int32_int32_of_soft_right_1.f (k + 1) a0 a1) := by
  intro a0 a1 k
  have ih0 := slices_IndexFunc_int32_int32_of_soft_right_1.mono_l k
  unfold slices_IndexFunc_int32_int32_of_soft_right_1.f
  repeat' first
      | (with_reducible exact ih0 _ _ _ _)
      | (with_reducible exact LeO.refl _)
      | (with_reducible exact LeO.none _)
      | (with_reducible refine LeO.ite ?_ ?_)
      | (with_reducible refine LeO.bind ?_ (fun _ => ?_))
      | exact ih0 _ _ _ _
      | exact LeO.none _
      | refine LeO.ite ?_ ?_
      | refine LeO.bind ?_ (fun _ => ?_)
set_option maxHeartbeats 8000000 in
set_option maxRecDepth 100000 in
theorem slices_IndexFunc_int32_int32_of_soft_right_1.calls (k : Nat) (A0 : Option Addr) (c0 : Nat) (l0 : List (List Int)) (B1 : Nat) (a1 : Int) (r : Int) (w : World) (hr0 : Kd.C (Kd.slice 21 (Kd.int .i32)) w A0 l0.length l0) (hc0 : l0.length ≤ c0) (hb1 : w.cell? ⟨B1, 0, none⟩ = some (.int .i64 a1)) (h : slices_IndexFunc_int32_int32_of_soft_right_1.f k l0 a1 = some r) :
    Calls Try.prog 93 #[.slice A0 l0.length c0, .func (.func 75) #[] #[.pointer (some ⟨B1, 0, none⟩)]] w fun e w' => e = .returned (.int .i64 r) ∧ Drawn0 w w' := by
  have HR0 := Aside0.mk hr0
  have HC0 := Aside0.mk hc0
  clear hr0 hc0
  have HBC1 := Aside0.mk hb1
  clear hb1
  have H : (slices_IndexFunc_int32_int32_of_soft_right_1.l0 k l0 (l0.length : Int) 0 a1) = some r := h
  clear h
  have H' := Aside0.mk H
  clear H
  go_enter Try.func93, Try.ntmps93
  go_wp2
  go_loopg [8] k (fun kq v8 w' => ∃ (x8_1 : Int), v8 = .int .i64 x8_1 ∧ Aside0 (slices_IndexFunc_int32_int32_of_soft_right_1.l0 kq l0 (l0.length : Int) x8_1 a1 = some r) ∧ Aside0 (kq ≤ k) ∧ Drawn0 w w')
  case atStart => exact ⟨(0), (by first | rfl | (simp; done) | (simp [*]; done)), H', ⟨Nat.le_refl _⟩, by repeat (first | exact Drawn0.refl _ | apply Drawn0.step)⟩
  case round =>
    clear H'
    try clear p2
    obtain ⟨x8_1, rfl, HA, HK1, ⟨m1, rfl⟩⟩ := hrel
    cases gk with
    | zero => exact absurd HA.out (by simp [slices_IndexFunc_int32_int32_of_soft_right_1.l0])
    | succ k1 =>
      have H := HA.out
      clear HA
      simp only [slices_IndexFunc_int32_int32_of_soft_right_1.l0] at H
      by_cases c3 : x8_1 < (l0.length : Int)
      · rw [if_pos c3] at H
        have c3b0 : decide (x8_1 < (l0.length : Int)) = true := decide_eq_true c3
        clear c3
        by_cases c4 : 0 ≤ x8_1
        · rw [if_pos c4] at H
          have c4b0 : decide (0 ≤ x8_1) = true := decide_eq_true c4
          clear c4
          by_cases c5 : x8_1 < (l0.length : Int)
          · rw [if_pos c5] at H
            have c5b0 : decide (x8_1 < (l0.length : Int)) = true := decide_eq_true c5
            clear c5
            replace H := Option.bind_eq_some_iff.mp H
            obtain ⟨t127, A60, H⟩ := H
            replace H : (if t127 = true then (some x8_1) else (slices_IndexFunc_int32_int32_of_soft_right_1.l0 k1 l0 (l0.length : Int) (wrap64 (x8_1 + 1)) a1)) = some r := H
            have A6 := Aside0.mk A60
            clear A60
            by_cases c7 : t127 = true
            · subst c7
              have H1 : (some x8_1) = some r := by rw [if_pos rfl] at H; exact H
              clear H
              have H := H1
              clear H1
              obtain rfl := Option.some.inj H
              have p126 : 0 ≤ (x8_1 : Int) := of_decide_eq_true (by first | (with_reducible assumption) | assumption)
              have q126 : x8_1 < (l0.length : Int) := of_decide_eq_true (by first | (with_reducible assumption) | assumption)
              obtain ⟨ad126, A126_0, c126_0, e126, hx126_0, hl126_0, hi126_0⟩ := at_L2 HR0.out x8_1 p126 q126
              cases e126
              have HR126_0 := Aside0.mk hi126_0
              have HC126_0 := Aside0.mk hl126_0
              clear hi126_0 hl126_0
              replace p126 := eq_true p126
              replace q126 := eq_true q126
              go_wp2_with (first | (go_at_call 75; (with_reducible refine (soft_right_1.calls _ _ (rd_L2 l0 x8_1) B1 a1 true _ ?side1 ?side2 ?side3 A6.out).mono ?_); (case side1 => repeat (first | exact HR126_0.out | (with_reducible refine Kd.C_alloc ?_ _) | (with_reducible refine Kd.C_drewN ?_ _) | (with_reducible refine Kd.C_drew ?_))); (case side2 => exact HC126_0.out); (case side3 => first | exact HBC1.out | exact pw_cell_below (by repeat (first | (with_reducible first | exact HB.out | apply below_alloc | apply pw_below_drewN | apply below_drew1) | exact HB.out)) HBC1.out); rintro e w' ⟨rfl, ⟨nd, rfl⟩⟩))
              go_ret
              exact ⟨by first | rfl | (simp; done) | (simp [*]; done), by repeat (first | exact Drawn0.refl _ | apply Drawn0.step)⟩
            · replace c7 := Bool.eq_false_iff.mpr c7
              subst c7
              have H1 : (slices_IndexFunc_int32_int32_of_soft_right_1.l0 k1 l0 (l0.length : Int) (wrap64 (x8_1 + 1)) a1) = some r := by rw [if_neg (show ¬ (false = true) by decide)] at H; exact H
              clear H
              have H := H1
              clear H1
              have H' := Aside0.mk H
              clear H
              have p126 : 0 ≤ (x8_1 : Int) := of_decide_eq_true (by first | (with_reducible assumption) | assumption)
              have q126 : x8_1 < (l0.length : Int) := of_decide_eq_true (by first | (with_reducible assumption) | assumption)
              obtain ⟨ad126, A126_0, c126_0, e126, hx126_0, hl126_0, hi126_0⟩ := at_L2 HR0.out x8_1 p126 q126
              cases e126
              have HR126_0 := Aside0.mk hi126_0
              have HC126_0 := Aside0.mk hl126_0
              clear hi126_0 hl126_0
              replace p126 := eq_true p126
              replace q126 := eq_true q126
              go_wp2_with (first | (go_at_call 75; (with_reducible refine (soft_right_1.calls _ _ (rd_L2 l0 x8_1) B1 a1 false _ ?side1 ?side2 ?side3 A6.out).mono ?_); (case side1 => repeat (first | exact HR126_0.out | (with_reducible refine Kd.C_alloc ?_ _) | (with_reducible refine Kd.C_drewN ?_ _) | (with_reducible refine Kd.C_drew ?_))); (case side2 => exact HC126_0.out); (case side3 => first | exact HBC1.out | exact pw_cell_below (by repeat (first | (with_reducible first | exact HB.out | apply below_alloc | apply pw_below_drewN | apply below_drew1) | exact HB.out)) HBC1.out); rintro e w' ⟨rfl, ⟨nd, rfl⟩⟩))
              go_roundg k1
              case measure => have := HK1.out; omega
              case rel => exact ⟨(wrap64 (x8_1 + 1)), (by first | rfl | (simp; done) | (simp [*]; done)), H', ⟨by have := HK1.out; omega⟩, by repeat (first | exact Drawn0.refl _ | apply Drawn0.step)⟩
          · rw [if_neg c5] at H
            exact absurd H (by simp)
        · rw [if_neg c4] at H
          exact absurd H (by simp)
      · rw [if_neg c3] at H
        have c3b0 : decide (x8_1 < (l0.length : Int)) = false := decide_eq_false c3
        clear c3
        obtain rfl := Option.some.inj H
        go_wp2
        go_ret
        exact ⟨by first | rfl | (simp; done) | (simp [*]; done), by repeat (first | exact Drawn0.refl _ | apply Drawn0.step)⟩

/-! ### slices_ContainsFunc_int32_int32_of_soft_right_1: function 145 -/
def slices_ContainsFunc_int32_int32_of_soft_right_1.f (k : Nat) (l0 : List (List Int)) (a1 : Int) : Option (Bool) := (slices_IndexFunc_int32_int32_of_soft_right_1.f k l0 a1).bind fun t128 => (some (decide (t128 ≥ 0)))
theorem slices_ContainsFunc_int32_int32_of_soft_right_1.mono : ∀ a0 a1 k, LeO (slices_ContainsFunc_int32_int32_of_soft_right_1.f k a0 a1) (slices_ContainsFunc_int32_int32_of_soft_right_1.f (k + 1) a0 a1) := by
  intro a0 a1 k
  unfold slices_ContainsFunc_int32_int32_of_soft_right_1.f
  repeat' first
      | (with_reducible exact slices_IndexFunc_int32_int32_of_soft_right_1.mono _ _ _)
      | (with_reducible exact LeO.refl _)
      | (with_reducible exact LeO.none _)
      | (with_reducible refine LeO.ite ?_ ?_)
      | (with_reducible refine LeO.bind ?_ (fun _ => ?_))
      | exact slices_IndexFunc_int32_int32_of_soft_right_1.mono _ _ _
      | exact LeO.none _
      | refine LeO.ite ?_ ?_
      | refine LeO.bind ?_ (fun _ => ?_)
set_option maxHeartbeats 8000000 in
set_option maxRecDepth 100000 in
theorem slices_ContainsFunc_int32_int32_of_soft_right_1.calls (k : Nat) (A0 : Option Addr) (c0 : Nat) (l0 : List (List Int)) (B1 : Nat) (a1 : Int) (r : Bool) (w : World) (hr0 : Kd.C (Kd.slice 21 (Kd.int .i32)) w A0 l0.length l0) (hc0 : l0.length ≤ c0) (hb1 : w.cell? ⟨B1, 0, none⟩ = some (.int .i64 a1)) (h : slices_ContainsFunc_int32_int32_of_soft_right_1.f k l0 a1 = some r) :
    Calls Try.prog 74 #[.slice A0 l0.length c0, .func (.func 75) #[] #[.pointer (some ⟨B1, 0, none⟩)]] w fun e w' => e = .returned (.bool r) ∧ Drawn0 w w' := by
  have HR0 := Aside0.mk hr0
  have HC0 := Aside0.mk hc0
  clear hr0 hc0
  have HBC1 := Aside0.mk hb1
  clear hb1
  have H : ((slices_IndexFunc_int32_int32_of_soft_right_1.f k l0 a1).bind fun t128 => (some (decide (t128 ≥ 0)))) = some r := h
  clear h
  replace H := Option.bind_eq_some_iff.mp H
  obtain ⟨t128, A30, H⟩ := H
  replace H : (some (decide (t128 ≥ 0))) = some r := H
  have A3 := Aside0.mk A30
  clear A30
  obtain rfl := Option.some.inj H
  go_enter Try.func74, Try.ntmps74
  go_wp2_with (first | ((with_reducible refine gate_callee (f := 93) rfl ?_); refine goesL_ (some 7) rfl rfl Try.func93 (by kernel_rfl) rfl #[.slice A0 l0.length c0, .func (.func 75) #[] #[.pointer (some ⟨B1, 0, none⟩)]] rfl (by (try simp only [List.map_toArray, List.map_cons, List.map_nil]); first | done | rfl | (simp only [List.length_drop, List.length_take]; rfl)) ?_; (with_reducible refine (slices_IndexFunc_int32_int32_of_soft_right_1.calls k _ _ l0 B1 a1 t128 _ ?side1 ?side2 ?side3 A3.out).mono ?_); (case side1 => repeat (first | exact HR0.out | (with_reducible refine Kd.C_alloc ?_ _) | (with_reducible refine Kd.C_drewN ?_ _) | (with_reducible refine Kd.C_drew ?_))); (case side2 => exact HC0.out); (case side3 => first | exact HBC1.out | exact pw_cell_below (by repeat (first | (with_reducible first | exact HB.out | apply below_alloc | apply pw_below_drewN | apply below_drew1) | exact HB.out)) HBC1.out); rintro e w' ⟨rfl, ⟨nd, rfl⟩⟩; refine ⟨_, rfl, ?_⟩))
  go_ret
  exact ⟨by first | rfl | (simp; done) | (simp [*]; done), by repeat (first | exact Drawn0.refl _ | apply Drawn0.step)⟩

/-! ### slices_IndexFunc_int_int_of_soft_right_2: function 148 -/
def slices_IndexFunc_int_int_of_soft_right_2.l0 : Nat → List Int → Int → Int → Option (Int)
  | 0, _, _, _ => none
  | k + 1, x0, x7, x8 => if x8 < x7 then (if 0 ≤ x8 then (if x8 < (x0.length : Int) then ((soft_right_2.f (rd x0 x8)).bind fun t130 => (if t130 = true then (some x8) else (slices_IndexFunc_int_int_of_soft_right_2.l0 k x0 x7 (wrap64 (x8 + 1))))) else (none)) else (none)) else (some (-1))
def slices_IndexFunc_int_int_of_soft_right_2.f (k : Nat) (l0 : List Int)  : Option (Int) := slices_IndexFunc_int_int_of_soft_right_2.l0 k l0 (l0.length : Int) 0
theorem slices_IndexFunc_int_int_of_soft_right_2.mono_l : ∀ k, (∀ y0 y1 y2, LeO (slices_IndexFunc_int_int_of_soft_right_2.l0 k y0 y1 y2) (slices_IndexFunc_int_int_of_soft_right_2.l0 (k + 1) y0 y1 y2))
  | 0 => fun _ _ _ r h => by simp [slices_IndexFunc_int_int_of_soft_right_2.l0] at h
  | k + 1 => by
    have ih0 := slices_IndexFunc_int_int_of_soft_right_2.mono_l k
    · intro y0 y1 y2
      unfold slices_IndexFunc_int_int_of_soft_right_2.l0
      repeat' first
      | (with_reducible exact ih0 _ _ _)
      | (with_reducible exact LeO.refl _)
      | (with_reducible exact LeO.none _)
      | (with_reducible refine LeO.ite ?_ ?_)
      | (with_reducible refine LeO.bind ?_ (fun _ => ?_))
      | exact ih0 _ _ _
      | exact LeO.none _
      | refine LeO.ite ?_ ?_
      | refine LeO.bind ?_ (fun _ => ?_)
theorem slices_IndexFunc_int_int_of_soft_right_2.mono : ∀ a0 k, LeO (slices_IndexFunc_int_int_of_soft_right_2.f k a0) (slices_IndexFunc_int_int_of_soft_right_2.f (k + 1) a0) := by
  intro a0 k
  have ih0 := slices_IndexFunc_int_int_of_soft_right_2.mono_l k
  unfold slices_IndexFunc_int_int_of_soft_right_2.f
  repeat' first
      | (with_reducible exact ih0 _ _ _)
      | (with_reducible exact LeO.refl _)
      | (with_reducible exact LeO.none _)
      | (with_reducible refine LeO.ite ?_ ?_)
      | (with_reducible refine LeO.bind ?_ (fun _ => ?_))
      | exact ih0 _ _ _
      | exact LeO.none _
      | refine LeO.ite ?_ ?_
      | refine LeO.bind ?_ (fun _ => ?_)
set_option maxHeartbeats 8000000 in
set_option maxRecDepth 100000 in
theorem slices_IndexFunc_int_int_of_soft_right_2.calls (k : Nat) (A0 : Option Addr) (c0 : Nat) (l0 : List Int)  (r : Int) (w : World) (hr0 : Kd.C (Kd.int .i64) w A0 l0.length l0) (hc0 : l0.length ≤ c0) (h : slices_IndexFunc_int_int_of_soft_right_2.f k l0 = some r) :
    Calls Try.prog 94 #[.slice A0 l0.length c0, .func (.func 77) #[] #[]] w fun e w' => e = .returned (.int .i64 r) ∧ Drawn0 w w' := by
  have HR0 := Aside0.mk hr0
  have HC0 := Aside0.mk hc0
  clear hr0 hc0
  have H : (slices_IndexFunc_int_int_of_soft_right_2.l0 k l0 (l0.length : Int) 0) = some r := h
  clear h
  have H' := Aside0.mk H
  clear H
  go_enter Try.func94, Try.ntmps94
  go_wp2
  go_loopg [8] k (fun kq v8 w' => ∃ (x8_1 : Int), v8 = .int .i64 x8_1 ∧ Aside0 (slices_IndexFunc_int_int_of_soft_right_2.l0 kq l0 (l0.length : Int) x8_1 = some r) ∧ Aside0 (kq ≤ k) ∧ Drawn0 w w')
  case atStart => exact ⟨(0), (by first | rfl | (simp; done) | (simp [*]; done)), H', ⟨Nat.le_refl _⟩, by repeat (first | exact Drawn0.refl _ | apply Drawn0.step)⟩
  case round =>
    clear H'
    try clear p2
    obtain ⟨x8_1, rfl, HA, HK1, ⟨m1, rfl⟩⟩ := hrel
    cases gk with
    | zero => exact absurd HA.out (by simp [slices_IndexFunc_int_int_of_soft_right_2.l0])
    | succ k1 =>
      have H := HA.out
      clear HA
      simp only [slices_IndexFunc_int_int_of_soft_right_2.l0] at H
      by_cases c3 : x8_1 < (l0.length : Int)
      · rw [if_pos c3] at H
        have c3b0 : decide (x8_1 < (l0.length : Int)) = true := decide_eq_true c3
        clear c3
        by_cases c4 : 0 ≤ x8_1
        · rw [if_pos c4] at H
          have c4b0 : decide (0 ≤ x8_1) = true := decide_eq_true c4
          clear c4
          by_cases c5 : x8_1 < (l0.length : Int)
          · rw [if_pos c5] at H
            have c5b0 : decide (x8_1 < (l0.length : Int)) = true := decide_eq_true c5
            clear c5
            replace H := Option.bind_eq_some_iff.mp H
            obtain ⟨t130, A60, H⟩ := H
            replace H : (if t130 = true then (some x8_1) else (slices_IndexFunc_int_int_of_soft_right_2.l0 k1 l0 (l0.length : Int) (wrap64 (x8_1 + 1)))) = some r := H
            have A6 := Aside0.mk A60
            clear A60
            by_cases c7 : t130 = true
            · subst c7
              have H1 : (some x8_1) = some r := by rw [if_pos rfl] at H; exact H
              clear H
              have H := H1
              clear H1
              obtain rfl := Option.some.inj H
              have p129 : 0 ≤ (x8_1 : Int) := of_decide_eq_true (by first | (with_reducible assumption) | assumption)
              have q129 : x8_1 < (l0.length : Int) := of_decide_eq_true (by first | (with_reducible assumption) | assumption)
              obtain ⟨ad129, e129, hx129_0⟩ := Kd.at_int HR0.out x8_1 p129 q129
              cases e129
              replace p129 := eq_true p129
              replace q129 := eq_true q129
              go_wp2_with (first | (go_at_call 77; (with_reducible refine (soft_right_2.calls (rd l0 x8_1) true _ A6.out).mono ?_); rintro e w' ⟨rfl, ⟨nd, rfl⟩⟩))
              go_ret
              exact ⟨by first | rfl | (simp; done) | (simp [*]; done), by repeat (first | exact Drawn0.refl _ | apply Drawn0.step)⟩
            · replace c7 := Bool.eq_false_iff.mpr c7
              subst c7
              have H1 : (slices_IndexFunc_int_int_of_soft_right_2.l0 k1 l0 (l0.length : Int) (wrap64 (x8_1 + 1))) = some r := by rw [if_neg (show ¬ (false = true) by decide)] at H; exact H
              clear H
              have H := H1
              clear H1
              have H' := Aside0.mk H
              clear H
              have p129 : 0 ≤ (x8_1 : Int) := of_decide_eq_true (by first | (with_reducible assumption) | assumption)
              have q129 : x8_1 < (l0.length : Int) := of_decide_eq_true (by first | (with_reducible assumption) | assumption)
              obtain ⟨ad129, e129, hx129_0⟩ := Kd.at_int HR0.out x8_1 p129 q129
              cases e129
              replace p129 := eq_true p129
              replace q129 := eq_true q129
              go_wp2_with (first | (go_at_call 77; (with_reducible refine (soft_right_2.calls (rd l0 x8_1) false _ A6.out).mono ?_); rintro e w' ⟨rfl, ⟨nd, rfl⟩⟩))
              go_roundg k1
              case measure => have := HK1.out; omega
              case rel => exact ⟨(wrap64 (x8_1 + 1)), (by first | rfl | (simp; done) | (simp [*]; done)), H', ⟨by have := HK1.out; omega⟩, by repeat (first | exact Drawn0.refl _ | apply Drawn0.step)⟩
          · rw [if_neg c5] at H
            exact absurd H (by simp)
        · rw [if_neg c4] at H
          exact absurd H (by simp)
      · rw [if_neg c3] at H
        have c3b0 : decide (x8_1 < (l0.length : Int)) = false := decide_eq_false c3
        clear c3
        obtain rfl := Option.some.inj H
        go_wp2
        go_ret
        exact ⟨by first | rfl | (simp; done) | (simp [*]; done), by repeat (first | exact Drawn0.refl _ | apply Drawn0.step)⟩

/-! ### slices_ContainsFunc_int_int_of_soft_right_2: function 147 -/
def slices_ContainsFunc_int_int_of_soft_right_2.f (k : Nat) (l0 : List Int)  : Option (Bool) := (slices_IndexFunc_int_int_of_soft_right_2.f k l0).bind fun t131 => (some (decide (t131 ≥ 0)))
theorem slices_ContainsFunc_int_int_of_soft_right_2.mono : ∀ a0 k, LeO (slices_ContainsFunc_int_int_of_soft_right_2.f k a0) (slices_ContainsFunc_int_int_of_soft_right_2.f (k + 1) a0) := by
  intro a0 k
  unfold slices_ContainsFunc_int_int_of_soft_right_2.f
  repeat' first
      | (with_reducible exact slices_IndexFunc_int_int_of_soft_right_2.mono _ _)
      | (with_reducible exact LeO.refl _)
      | (with_reducible exact LeO.none _)
      | (with_reducible refine LeO.ite ?_ ?_)
      | (with_reducible refine LeO.bind ?_ (fun _ => ?_))
      | exact slices_IndexFunc_int_int_of_soft_right_2.mono _ _
      | exact LeO.none _
      | refine LeO.ite ?_ ?_
      | refine LeO.bind ?_ (fun _ => ?_)
set_option maxHeartbeats 8000000 in
set_option maxRecDepth 100000 in
theorem slices_ContainsFunc_int_int_of_soft_right_2.calls (k : Nat) (A0 : Option Addr) (c0 : Nat) (l0 : List Int)  (r : Bool) (w : World) (hr0 : Kd.C (Kd.int .i64) w A0 l0.length l0) (hc0 : l0.length ≤ c0) (h : slices_ContainsFunc_int_int_of_soft_right_2.f k l0 = some r) :
    Calls Try.prog 76 #[.slice A0 l0.length c0, .func (.func 77) #[] #[]] w fun e w' => e = .returned (.bool r) ∧ Drawn0 w w' := by
  have HR0 := Aside0.mk hr0
  have HC0 := Aside0.mk hc0
  clear hr0 hc0
  have H : ((slices_IndexFunc_int_int_of_soft_right_2.f k l0).bind fun t131 => (some (decide (t131 ≥ 0)))) = some r := h
  clear h
  replace H := Option.bind_eq_some_iff.mp H
  obtain ⟨t131, A30, H⟩ := H
  replace H : (some (decide (t131 ≥ 0))) = some r := H
  have A3 := Aside0.mk A30
  clear A30
  obtain rfl := Option.some.inj H
  go_enter Try.func76, Try.ntmps76
  go_wp2_with (first | ((with_reducible refine gate_callee (f := 94) rfl ?_); refine goesL_ (some 7) rfl rfl Try.func94 (by kernel_rfl) rfl #[.slice A0 l0.length c0, .func (.func 77) #[] #[]] rfl (by (try simp only [List.map_toArray, List.map_cons, List.map_nil]); first | done | rfl | (simp only [List.length_drop, List.length_take]; rfl)) ?_; (with_reducible refine (slices_IndexFunc_int_int_of_soft_right_2.calls k _ _ l0  t131 _ ?side1 ?side2 A3.out).mono ?_); (case side1 => repeat (first | exact HR0.out | (with_reducible refine Kd.C_alloc ?_ _) | (with_reducible refine Kd.C_drewN ?_ _) | (with_reducible refine Kd.C_drew ?_))); (case side2 => exact HC0.out); rintro e w' ⟨rfl, ⟨nd, rfl⟩⟩; refine ⟨_, rfl, ?_⟩))
  go_ret
  exact ⟨by first | rfl | (simp; done) | (simp [*]; done), by repeat (first | exact Drawn0.refl _ | apply Drawn0.step)⟩

/-! ### slices_IndexFunc_int32_int32_of_soft_right_3: function 150 -/
def slices_IndexFunc_int32_int32_of_soft_right_3.l0 : Nat → List (List Int) → Int → Int → Option (Int)
  | 0, _, _, _ => none
  | k + 1, x0, x7, x8 => if x8 < x7 then (if 0 ≤ x8 then (if x8 < (x0.length : Int) then ((soft_right_3.f k (rd_L2 x0 x8)).bind fun t133 => (if t133 = true then (some x8) else (slices_IndexFunc_int32_int32_of_soft_right_3.l0 k x0 x7 (wrap64 (x8 + 1))))) else (none)) else (none)) else (some (-1))
def slices_IndexFunc_int32_int32_of_soft_right_3.f (k : Nat) (l0 : List (List Int))  : Option (Int) := slices_IndexFunc_int32_int32_of_soft_right_3.l0 k l0 (l0.length : Int) 0
theorem slices_IndexFunc_int32_int32_of_soft_right_3.mono_l : ∀ k, (∀ y0 y1 y2, LeO (slices_IndexFunc_int32_int32_of_soft_right_3.l0 k y0 y1 y2) (slices_IndexFunc_int32_int32_of_soft_right_3.l0 (k + 1) y0 y1 y2))
  | 0 => fun _ _ _ r h => by simp [slices_IndexFunc_int32_int32_of_soft_right_3.l0] at h
  | k + 1 => by
    have ih0 := slices_IndexFunc_int32_int32_of_soft_right_3.mono_l k
    · intro y0 y1 y2
      unfold slices_IndexFunc_int32_int32_of_soft_right_3.l0
      repeat' first
      | (with_reducible exact ih0 _ _ _)
      | (with_reducible exact soft_right_3.mono _ _)
      | (with_reducible exact LeO.refl _)
      | (with_reducible exact LeO.none _)
      | (with_reducible refine LeO.ite ?_ ?_)
      | (with_reducible refine LeO.bind ?_ (fun _ => ?_))
      | exact ih0 _ _ _
      | exact soft_right_3.mono _ _
      | exact LeO.none _
      | refine LeO.ite ?_ ?_
      | refine LeO.bind ?_ (fun _ => ?_)
theorem slices_IndexFunc_int32_int32_of_soft_right_3.mono : ∀ a0 k, LeO (slices_IndexFunc_int32_int32_of_soft_right_3.f k a0) (slices_IndexFunc_int32_int32_of_soft_right_3.f (k + 1) a0) := by
  intro a0 k
  have ih0 := slices_IndexFunc_int32_int32_of_soft_right_3.mono_l k
  unfold slices_IndexFunc_int32_int32_of_soft_right_3.f
  repeat' first
      | (with_reducible exact ih0 _ _ _)
      | (with_reducible exact soft_right_3.mono _ _)
      | (with_reducible exact LeO.refl _)
      | (with_reducible exact LeO.none _)
      | (with_reducible refine LeO.ite ?_ ?_)
      | (with_reducible refine LeO.bind ?_ (fun _ => ?_))
      | exact ih0 _ _ _
      | exact soft_right_3.mono _ _
      | exact LeO.none _
      | refine LeO.ite ?_ ?_
      | refine LeO.bind ?_ (fun _ => ?_)
set_option maxHeartbeats 8000000 in
set_option maxRecDepth 100000 in
theorem slices_IndexFunc_int32_int32_of_soft_right_3.calls (k : Nat) (A0 : Option Addr) (c0 : Nat) (l0 : List (List Int))  (r : Int) (w : World) (hr0 : Kd.C (Kd.slice 21 (Kd.int .i32)) w A0 l0.length l0) (hc0 : l0.length ≤ c0) (h : slices_IndexFunc_int32_int32_of_soft_right_3.f k l0 = some r) :
    Calls Try.prog 93 #[.slice A0 l0.length c0, .func (.func 78) #[] #[]] w fun e w' => e = .returned (.int .i64 r) ∧ Drawn0 w w' := by
  have HR0 := Aside0.mk hr0
  have HC0 := Aside0.mk hc0
  clear hr0 hc0
  have H : (slices_IndexFunc_int32_int32_of_soft_right_3.l0 k l0 (l0.length : Int) 0) = some r := h
  clear h
  have H' := Aside0.mk H
  clear H
  go_enter Try.func93, Try.ntmps93
  go_wp2
  go_loopg [8] k (fun kq v8 w' => ∃ (x8_1 : Int), v8 = .int .i64 x8_1 ∧ Aside0 (slices_IndexFunc_int32_int32_of_soft_right_3.l0 kq l0 (l0.length : Int) x8_1 = some r) ∧ Aside0 (kq ≤ k) ∧ Drawn0 w w')
  case atStart => exact ⟨(0), (by first | rfl | (simp; done) | (simp [*]; done)), H', ⟨Nat.le_refl _⟩, by repeat (first | exact Drawn0.refl _ | apply Drawn0.step)⟩
  case round =>
    clear H'
    try clear p2
    obtain ⟨x8_1, rfl, HA, HK1, ⟨m1, rfl⟩⟩ := hrel
    cases gk with
    | zero => exact absurd HA.out (by simp [slices_IndexFunc_int32_int32_of_soft_right_3.l0])
    | succ k1 =>
      have H := HA.out
      clear HA
      simp only [slices_IndexFunc_int32_int32_of_soft_right_3.l0] at H
      by_cases c3 : x8_1 < (l0.length : Int)
      · rw [if_pos c3] at H
        have c3b0 : decide (x8_1 < (l0.length : Int)) = true := decide_eq_true c3
        clear c3
        by_cases c4 : 0 ≤ x8_1
        · rw [if_pos c4] at H
          have c4b0 : decide (0 ≤ x8_1) = true := decide_eq_true c4
          clear c4
          by_cases c5 : x8_1 < (l0.length : Int)
          · rw [if_pos c5] at H
            have c5b0 : decide (x8_1 < (l0.length : Int)) = true := decide_eq_true c5
            clear c5
            replace H := Option.bind_eq_some_iff.mp H
            obtain ⟨t133, A60, H⟩ := H
            replace H : (if t133 = true then (some x8_1) else (slices_IndexFunc_int32_int32_of_soft_right_3.l0 k1 l0 (l0.length : Int) (wrap64 (x8_1 + 1)))) = some r := H
            have A6 := Aside0.mk A60
            clear A60
            by_cases c7 : t133 = true
            · subst c7
              have H1 : (some x8_1) = some r := by rw [if_pos rfl] at H; exact H
              clear H
              have H := H1
              clear H1
              obtain rfl := Option.some.inj H
              have p132 : 0 ≤ (x8_1 : Int) := of_decide_eq_true (by first | (with_reducible assumption) | assumption)
              have q132 : x8_1 < (l0.length : Int) := of_decide_eq_true (by first | (with_reducible assumption) | assumption)
              obtain ⟨ad132, A132_0, c132_0, e132, hx132_0, hl132_0, hi132_0⟩ := at_L2 HR0.out x8_1 p132 q132
              cases e132
              have HR132_0 := Aside0.mk hi132_0
              have HC132_0 := Aside0.mk hl132_0
              clear hi132_0 hl132_0
              replace p132 := eq_true p132
              replace q132 := eq_true q132
              go_wp2_with (first | (go_at_call 78; (with_reducible refine (soft_right_3.calls k1 _ _ (rd_L2 l0 x8_1) true _ ?side1 ?side2 A6.out).mono ?_); (case side1 => repeat (first | exact HR132_0.out | (with_reducible refine Kd.C_alloc ?_ _) | (with_reducible refine Kd.C_drewN ?_ _) | (with_reducible refine Kd.C_drew ?_))); (case side2 => exact HC132_0.out); rintro e w' ⟨rfl, ⟨nd, rfl⟩⟩))
              go_ret
              exact ⟨by first | rfl | (simp; done) | (simp [*]; done), by repeat (first | exact Drawn0.refl _ | apply Drawn0.step)⟩
            · replace c7 := Bool.eq_false_iff.mpr c7
              subst c7
              have H1 : (slices_IndexFunc_int32_int32_of_soft_right_3.l0 k1 l0 (l0.length : Int) (wrap64 (x8_1 + 1))) = some r := by rw [if_neg (show ¬ (false = true) by decide)] at H; exact H
              clear H
              have H := H1
              clear H1
              have H' := Aside0.mk H
              clear H
              have p132 : 0 ≤ (x8_1 : Int) := of_decide_eq_true (by first | (with_reducible assumption) | assumption)
              have q132 : x8_1 < (l0.length : Int) := of_decide_eq_true (by first | (with_reducible assumption) | assumption)
              obtain ⟨ad132, A132_0, c132_0, e132, hx132_0, hl132_0, hi132_0⟩ := at_L2 HR0.out x8_1 p132 q132
              cases e132
              have HR132_0 := Aside0.mk hi132_0
              have HC132_0 := Aside0.mk hl132_0
              clear hi132_0 hl132_0
              replace p132 := eq_true p132
              replace q132 := eq_true q132
              go_wp2_with (first | (go_at_call 78; (with_reducible refine (soft_right_3.calls k1 _ _ (rd_L2 l0 x8_1) false _ ?side1 ?side2 A6.out).mono ?_); (case side1 => repeat (first | exact HR132_0.out | (with_reducible refine Kd.C_alloc ?_ _) | (with_reducible refine Kd.C_drewN ?_ _) | (with_reducible refine Kd.C_drew ?_))); (case side2 => exact HC132_0.out); rintro e w' ⟨rfl, ⟨nd, rfl⟩⟩))
              go_roundg k1
              case measure => have := HK1.out; omega
              case rel => exact ⟨(wrap64 (x8_1 + 1)), (by first | rfl | (simp; done) | (simp [*]; done)), H', ⟨by have := HK1.out; omega⟩, by repeat (first | exact Drawn0.refl _ | apply Drawn0.step)⟩
          · rw [if_neg c5] at H
            exact absurd H (by simp)
        · rw [if_neg c4] at H
          exact absurd H (by simp)
      · rw [if_neg c3] at H
        have c3b0 : decide (x8_1 < (l0.length : Int)) = false := decide_eq_false c3
        clear c3
        obtain rfl := Option.some.inj H
        go_wp2
        go_ret
        exact ⟨by first | rfl | (simp; done) | (simp [*]; done), by repeat (first | exact Drawn0.refl _ | apply Drawn0.step)⟩

/-! ### slices_ContainsFunc_int32_int32_of_soft_right_3: function 149 -/
def slices_ContainsFunc_int32_int32_of_soft_right_3.f (k : Nat) (l0 : List (List Int))  : Option (Bool) := (slices_IndexFunc_int32_int32_of_soft_right_3.f k l0).bind fun t134 => (some (decide (t134 ≥ 0)))
theorem slices_ContainsFunc_int32_int32_of_soft_right_3.mono : ∀ a0 k, LeO (slices_ContainsFunc_int32_int32_of_soft_right_3.f k a0) (slices_ContainsFunc_int32_int32_of_soft_right_3.f (k + 1) a0) := by
  intro a0 k
  unfold slices_ContainsFunc_int32_int32_of_soft_right_3.f
  repeat' first
      | (with_reducible exact slices_IndexFunc_int32_int32_of_soft_right_3.mono _ _)
      | (with_reducible exact LeO.refl _)
      | (with_reducible exact LeO.none _)
      | (with_reducible refine LeO.ite ?_ ?_)
      | (with_reducible refine LeO.bind ?_ (fun _ => ?_))
      | exact slices_IndexFunc_int32_int32_of_soft_right_3.mono _ _
      | exact LeO.none _
      | refine LeO.ite ?_ ?_
      | refine LeO.bind ?_ (fun _ => ?_)
set_option maxHeartbeats 8000000 in
set_option maxRecDepth 100000 in
theorem slices_ContainsFunc_int32_int32_of_soft_right_3.calls (k : Nat) (A0 : Option Addr) (c0 : Nat) (l0 : List (List Int))  (r : Bool) (w : World) (hr0 : Kd.C (Kd.slice 21 (Kd.int .i32)) w A0 l0.length l0) (hc0 : l0.length ≤ c0) (h : slices_ContainsFunc_int32_int32_of_soft_right_3.f k l0 = some r) :
    Calls Try.prog 74 #[.slice A0 l0.length c0, .func (.func 78) #[] #[]] w fun e w' => e = .returned (.bool r) ∧ Drawn0 w w' := by
  have HR0 := Aside0.mk hr0
  have HC0 := Aside0.mk hc0
  clear hr0 hc0
  have H : ((slices_IndexFunc_int32_int32_of_soft_right_3.f k l0).bind fun t134 => (some (decide (t134 ≥ 0)))) = some r := h
  clear h
  replace H := Option.bind_eq_some_iff.mp H
  obtain ⟨t134, A30, H⟩ := H
  replace H : (some (decide (t134 ≥ 0))) = some r := H
  have A3 := Aside0.mk A30
  clear A30
  obtain rfl := Option.some.inj H
  go_enter Try.func74, Try.ntmps74
  go_wp2_with (first | ((with_reducible refine gate_callee (f := 93) rfl ?_); refine goesL_ (some 7) rfl rfl Try.func93 (by kernel_rfl) rfl #[.slice A0 l0.length c0, .func (.func 78) #[] #[]] rfl (by (try simp only [List.map_toArray, List.map_cons, List.map_nil]); first | done | rfl | (simp only [List.length_drop, List.length_take]; rfl)) ?_; (with_reducible refine (slices_IndexFunc_int32_int32_of_soft_right_3.calls k _ _ l0  t134 _ ?side1 ?side2 A3.out).mono ?_); (case side1 => repeat (first | exact HR0.out | (with_reducible refine Kd.C_alloc ?_ _) | (with_reducible refine Kd.C_drewN ?_ _) | (with_reducible refine Kd.C_drew ?_))); (case side2 => exact HC0.out); rintro e w' ⟨rfl, ⟨nd, rfl⟩⟩; refine ⟨_, rfl, ?_⟩))
  go_ret
  exact ⟨by first | rfl | (simp; done) | (simp [*]; done), by repeat (first | exact Drawn0.refl _ | apply Drawn0.step)⟩

end Go.Proofs.Ytmndomlpdajjmac.So
