-- Ytmndomlpdajjmac: the machine side of the statements, written by a program of the session.
import Derived.Test.YtmndomlpdajjmacSbx0
import Derived.Test.YtmndomlpdajjmacSbx1
import Derived.Test.YtmndomlpdajjmacSbx3
import Derived.Test.YtmndomlpdajjmacSbx4
namespace Go.Proofs.Ytmndomlpdajjmac.Sb
open Go.RowKit Go.Proofs.YtmndomlpdajjmacW.PrintWords Go.Proofs.YtmndomlpdajjmacW.PrintLast Go.Proofs.YtmndomlpdajjmacW.PrintMore
attribute [local go_sem] max2_int min2_int max_two min_two max_three min_three max_four min_four   -- for this text's walks alone
set_option linter.unusedVariables false
set_option linter.unusedSimpArgs false

/-! ### credenzalaw04_SoftBetween: function 4 -/
mutual
def credenzalaw04_SoftBetween.j0 : Nat → List Int → List (List Int) → Bool → Option (Bool)
  | 0, _, _, _ => none
  | k + 1, x0, x1, x33 => if x33 = true then ((credenzalaw04_awake.f k).bind fun t200 => (some t200)) else ((soft_Weights.f k x0).bind fun bt201 => (if bt201.2 = 0 then (credenzalaw04_SoftBetween.j1 k x1 bt201.1 ((bt201.1.length : Int) != (x0.length : Int))) else (credenzalaw04_SoftBetween.j1 k x1 bt201.1 true)))
def credenzalaw04_SoftBetween.j1 : Nat → List (List Int) → List Int → Bool → Option (Bool)
  | 0, _, _, _ => none
  | k + 1, x1, x5, x48 => if x48 = true then (some false) else (credenzalaw04_SoftBetween.l0 k x1 x5 x1 (x1.length : Int) 0)
def credenzalaw04_SoftBetween.l0 : Nat → List (List Int) → List Int → List (List Int) → Int → Int → Option (Bool)
  | 0, _, _, _, _, _ => none
  | k + 1, x1, x5, x49, x50, x51 => if x51 < x50 then (if 0 ≤ x51 then (if x51 < (x49.length : Int) then (if ((rd_L2 x49 x51).length : Int) > 40 then (credenzalaw04_SoftBetween.j3 k x1 x5 (rd_L2 x49 x51) x49 x50 x51 true) else (if 0 < (x1.length : Int) then (credenzalaw04_SoftBetween.j3 k x1 x5 (rd_L2 x49 x51) x49 x50 x51 (((rd_L2 x49 x51).length : Int) != ((rd_L2 x1 0).length : Int))) else (none))) else (none)) else (none)) else ((soft_Mix.f k x5 x1).bind fun bt211 => (if bt211.2 = 0 then (if 0 < (x1.length : Int) then (credenzalaw04_SoftBetween.j5 k x1 bt211.1 ((bt211.1.length : Int) != ((rd_L2 x1 0).length : Int))) else (none)) else (credenzalaw04_SoftBetween.j5 k x1 bt211.1 true)))
def credenzalaw04_SoftBetween.j3 : Nat → List (List Int) → List Int → List Int → List (List Int) → Int → Int → Bool → Option (Bool)
  | 0, _, _, _, _, _, _, _ => none
  | k + 1, x1, x5, x8, x49, x50, x51, x66 => if x66 = true then ((credenzalaw04_awake.f k).bind fun t207 => (some t207)) else (credenzalaw04_SoftBetween.l1 k x1 x5 x49 x50 x51 x8 (x8.length : Int) 0)
def credenzalaw04_SoftBetween.l1 : Nat → List (List Int) → List Int → List (List Int) → Int → Int → List Int → Int → Int → Option (Bool)
  | 0, _, _, _, _, _, _, _, _ => none
  | k + 1, x1, x5, x49, x50, x51, x68, x69, x70 => if x70 < x69 then (if 0 ≤ x70 then (if x70 < (x68.length : Int) then (if (rd x68 x70) < (-8388608) then ((credenzalaw04_awake.f k).bind fun t209 => (some t209)) else (if (rd x68 x70) > 8388608 then ((credenzalaw04_awake.f k).bind fun t210 => (some t210)) else (credenzalaw04_SoftBetween.l1 k x1 x5 x49 x50 x51 x68 x69 (wrap64 (x70 + 1))))) else (none)) else (none)) else (credenzalaw04_SoftBetween.l0 k x1 x5 x49 x50 (wrap64 (x51 + 1)))
def credenzalaw04_SoftBetween.j5 : Nat → List (List Int) → List Int → Bool → Option (Bool)
  | 0, _, _, _ => none
  | k + 1, x1, x11, x99 => if x99 = true then (some false) else (credenzalaw04_SoftBetween.l2 k x1 x11 (x11.length : Int) 0)
def credenzalaw04_SoftBetween.l2 : Nat → List (List Int) → List Int → Int → Int → Option (Bool)
  | 0, _, _, _, _ => none
  | k + 1, x1, x100, x101, x102 => if x102 < x101 then (if 0 ≤ x102 then (if x102 < (x100.length : Int) then (if 0 < (x1.length : Int) then (if x102 < ((rd_L2 x1 0).length : Int) then (credenzalaw04_SoftBetween.l3 k x1 x102 (rd x100 x102) (rd (rd_L2 x1 0) x102) (rd (rd_L2 x1 0) x102) x100 x101 x102 x1 (x1.length : Int) 0) else (none)) else (none)) else (none)) else (none)) else ((credenzalaw04_awake.f k).bind fun t216 => (some t216))
def credenzalaw04_SoftBetween.l3 : Nat → List (List Int) → Int → Int → Int → Int → List Int → Int → Int → List (List Int) → Int → Int → Option (Bool)
  | 0, _, _, _, _, _, _, _, _, _, _, _ => none
  | k + 1, x1, x13, x14, x15, x16, x100, x101, x102, x119, x120, x121 => if x121 < x120 then (if 0 ≤ x121 then (if x121 < (x119.length : Int) then (if 0 ≤ x13 then (if x13 < ((rd_L2 x119 x121).length : Int) then (credenzalaw04_SoftBetween.l3 k x1 x13 x14 (mn x15 (rd (rd_L2 x119 x121) x13)) (mx x16 (rd (rd_L2 x119 x121) x13)) x100 x101 x102 x119 x120 (wrap64 (x121 + 1))) else (none)) else (none)) else (none)) else (none)) else (if x14 < x15 then (some false) else (if x14 > x16 then (some false) else (credenzalaw04_SoftBetween.l2 k x1 x100 x101 (wrap64 (x102 + 1)))))
end
def credenzalaw04_SoftBetween.f (k : Nat) (l0 : List Int) (l1 : List (List Int)) : Option (Bool) := if (l0.length : Int) = 0 then (credenzalaw04_SoftBetween.j0 k l0 l1 true) else (if (l0.length : Int) > 40 then (credenzalaw04_SoftBetween.j0 k l0 l1 true) else (credenzalaw04_SoftBetween.j0 k l0 l1 ((l1.length : Int) != (l0.length : Int))))
theorem credenzalaw04_SoftBetween.mono_l : ∀ k, (∀ y0 y1 y2, LeO (credenzalaw04_SoftBetween.j0 k y0 y1 y2) (credenzalaw04_SoftBetween.j0 (k + 1) y0 y1 y2)) ∧ (∀ y0 y1 y2, LeO (credenzalaw04_SoftBetween.j1 k y0 y1 y2) (credenzalaw04_SoftBetween.j1 (k + 1) y0 y1 y2)) ∧ (∀ y0 y1 y2 y3 y4, LeO (credenzalaw04_SoftBetween.l0 k y0 y1 y2 y3 y4) (credenzalaw04_SoftBetween.l0 (k + 1) y0 y1 y2 y3 y4)) ∧ (∀ y0 y1 y2 y3 y4 y5 y6, LeO (credenzalaw04_SoftBetween.j3 k y0 y1 y2 y3 y4 y5 y6) (credenzalaw04_SoftBetween.j3 (k + 1) y0 y1 y2 y3 y4 y5 y6)) ∧ (∀ y0 y1 y2 y3 y4 y5 y6 y7, LeO (credenzalaw04_SoftBetween.l1 k y0 y1 y2 y3 y4 y5 y6 y7) (credenzalaw04_SoftBetween.l1 (k + 1) y0 y1 y2 y3 y4 y5 y6 y7)) ∧ (∀ y0 y1 y2, LeO (credenzalaw04_SoftBetween.j5 k y0 y1 y2) (credenzalaw04_SoftBetween.j5 (k + 1) y0 y1 y2)) ∧ (∀ y0 y1 y2 y3, LeO (credenzalaw04_SoftBetween.l2 k y0 y1 y2 y3) (credenzalaw04_SoftBetween.l2 (k + 1) y0 y1 y2 y3)) ∧ (∀ y0 y1 y2 y3 y4 y5 y6 y7 y8 y9 y10, LeO (credenzalaw04_SoftBetween.l3 k y0 y1 y2 y3 y4 y5 y6 y7 y8 y9 y10) (credenzalaw04_SoftBetween.l3 (k + 1) y0 y1 y2 y3 y4 y5 y6 y7 y8 y9 y10))
  | 0 => ⟨fun _ _ _ r h => by simp [credenzalaw04_SoftBetween.j0] at h, fun _ _ _ r h => by simp [credenzalaw04_SoftBetween.j1] at h, fun _ _ _ _ _ r h => by simp [credenzalaw04_SoftBetween.l0] at h, fun _ _ _ _ _ _ _ r h => by simp [credenzalaw04_SoftBetween.j3] at h, fun _ _ _ _ _ _ _ _ r h => by simp [credenzalaw04_SoftBetween.l1] at h, fun _ _ _ r h => by simp [credenzalaw04_SoftBetween.j5] at h, fun _ _ _ _ r h => by simp [credenzalaw04_SoftBetween.l2] at h, fun _ _ _ _ _ _ _ _ _ _ _ r h => by simp [credenzalaw04_SoftBetween.l3] at h⟩
  | k + 1 => by
    obtain ⟨ih0, ih1, ih2, ih3, ih4, ih5, ih6, ih7⟩ := credenzalaw04_SoftBetween.mono_l k
    refine ⟨?_, ?_, ?_, ?_, ?_, ?_, ?_, ?_⟩
    · intro y0 y1 y2
      unfold credenzalaw04_SoftBetween.j0
      repeat' first
      | (with_reducible exact ih0 _ _ _)
      | (with_reducible exact ih1 _ _ _)
      | (with_reducible exact ih2 _ _ _ _ _)
      | (with_reducible exact ih3 _ _ _ _ _ _ _)
      | (with_reducible exact ih4 _ _ _ _ _ _ _ _)
      | (with_reducible exact ih5 _ _ _)
      | (with_reducible exact ih6 _ _ _ _)
      | (with_reducible exact ih7 _ _ _ _ _ _ _ _ _ _ _)
      | (with_reducible exact credenzalaw04_awake.mono _)
      | (with_reducible exact soft_Mix.mono _ _ _)
      | (with_reducible exact soft_Weights.mono _ _)
      | (with_reducible exact LeO.refl _)
      | (with_reducible exact LeO.none _)
      | (with_reducible refine LeO.ite ?_ ?_)
      | (with_reducible refine LeO.bind ?_ (fun _ => ?_))
      | exact ih0 _ _ _
      | exact ih1 _ _ _
      | exact ih2 _ _ _ _ _
      | exact ih3 _ _ _ _ _ _ _
      | exact ih4 _ _ _ _ _ _ _ _
      | exact ih5 _ _ _
      | exact ih6 _ _ _ _
      | exact ih7 _ _ _ _ _ _ _ _ _ _ _
      | exact credenzalaw04_awake.mono _
      | exact soft_Mix.mono _ _ _
      | exact soft_Weights.mono _ _
      | exact LeO.none _
      | refine LeO.ite ?_ ?_
      | refine LeO.bind ?_ (fun _ => ?_)
    · intro y0 y1 y2
      unfold credenzalaw04_SoftBetween.j1
      repeat' first
      | (with_reducible exact ih0 _ _ _)
      | (with_reducible exact ih1 _ _ _)
      | (with_reducible exact ih2 _ _ _ _ _)
      | (with_reducible exact ih3 _ _ _ _ _ _ _)
      | (with_reducible exact ih4 _ _ _ _ _ _ _ _)
      | (with_reducible exact ih5 _ _ _)
      | (with_reducible exact ih6 _ _ _ _)
      | (with_reducible exact ih7 _ _ _ _ _ _ _ _ _ _ _)
      | (with_reducible exact credenzalaw04_awake.mono _)
      | (with_reducible exact soft_Mix.mono _ _ _)
      | (with_reducible exact soft_Weights.mono _ _)
      | (with_reducible exact LeO.refl _)
      | (with_reducible exact LeO.none _)
      | (with_reducible refine LeO.ite ?_ ?_)
      | (with_reducible refine LeO.bind ?_ (fun _ => ?_))
      | exact ih0 _ _ _
      | exact ih1 _ _ _
      | exact ih2 _ _ _ _ _
      | exact ih3 _ _ _ _ _ _ _
      | exact ih4 _ _ _ _ _ _ _ _
      | exact ih5 _ _ _
      | exact ih6 _ _ _ _
      | exact ih7 _ _ _ _ _ _ _ _ _ _ _
      | exact credenzalaw04_awake.mono _
      | exact soft_Mix.mono _ _ _
      | exact soft_Weights.mono _ _
      | exact LeO.none _
      | refine LeO.ite ?_ ?_
      | refine LeO.bind ?_ (fun _ => ?_)
    · intro y0 y1 y2 y3 y4
      unfold credenzalaw04_SoftBetween.l0
      repeat' first
      | (with_reducible exact ih0 _ _ _)
      | (with_reducible exact ih1 _ _ _)
      | (with_reducible exact ih2 _ _ _ _ _)
      | (with_reducible exact ih3 _ _ _ _ _ _ _)
      | (with_reducible exact ih4 _ _ _ _ _ _ _ _)
      | (with_reducible exact ih5 _ _ _)
      | (with_reducible exact ih6 _ _ _ _)
      | (with_reducible exact ih7 _ _ _ _ _ _ _ _ _ _ _)
      | (with_reducible exact credenzalaw04_awake.mono _)
      | (with_reducible exact soft_Mix.mono _ _ _)
      | (with_reducible exact soft_Weights.mono _ _)
      | (with_reducible exact LeO.refl _)
      | (with_reducible exact LeO.none _)
      | (with_reducible refine LeO.ite ?_ ?_)
      | (with_reducible refine LeO.bind ?_ (fun _ => ?_))
      | exact ih0 _ _ _
      | exact ih1 _ _ _
      | exact ih2 _ _ _ _ _
      | exact ih3 _ _ _ _ _ _ _
      | exact ih4 _ _ _ _ _ _ _ _
      | exact ih5 _ _ _
      | exact ih6 _ _ _ _
      | exact ih7 _ _ _ _ _ _ _ _ _ _ _
      | exact credenzalaw04_awake.mono _
      | exact soft_Mix.mono _ _ _
      | exact soft_Weights.mono _ _
      | exact LeO.none _
      | refine LeO.ite ?_ ?_
      | refine LeO.bind ?_ (fun _ => ?_)
    · intro y0 y1 y2 y3 y4 y5 y6
      unfold credenzalaw04_SoftBetween.j3
      repeat' first
      | (with_reducible exact ih0 _ _ _)
      | (with_reducible exact ih1 _ _ _)
      | (with_reducible exact ih2 _ _ _ _ _)
      | (with_reducible exact ih3 _ _ _ _ _ _ _)
      | (with_reducible exact ih4 _ _ _ _ _ _ _ _)
      | (with_reducible exact ih5 _ _ _)
      | (with_reducible exact ih6 _ _ _ _)
      | (with_reducible exact ih7 _ _ _ _ _ _ _ _ _ _ _)
      | (with_reducible exact credenzalaw04_awake.mono _)
      | (with_reducible exact soft_Mix.mono _ _ _)
      | (with_reducible exact soft_Weights.mono _ _)
      | (with_reducible exact LeO.refl _)
      | (with_reducible exact LeO.none _)
      | (with_reducible refine LeO.ite ?_ ?_)
      | (with_reducible refine LeO.bind ?_ (fun _ => ?_))
      | exact ih0 _ _ _
      | exact ih1 _ _ _
      | exact ih2 _ _ _ _ _
      | exact ih3 _ _ _ _ _ _ _
      | exact ih4 _ _ _ _ _ _ _ _
      | exact ih5 _ _ _
      | exact ih6 _ _ _ _
      | exact ih7 _ _ _ _ _ _ _ _ _ _ _
      | exact credenzalaw04_awake.mono _
      | exact soft_Mix.mono _ _ _
      | exact soft_Weights.mono _ _
      | exact LeO.none _
      | refine LeO.ite ?_ ?_
      | refine LeO.bind ?_ (fun _ => ?_)
    · intro y0 y1 y2 y3 y4 y5 y6 y7
      unfold credenzalaw04_SoftBetween.l1
      repeat' first
      | (with_reducible exact ih0 _ _ _)
      | (with_reducible exact ih1 _ _ _)
      | (with_reducible exact ih2 _ _ _ _ _)
      | (with_reducible exact ih3 _ _ _ _ _ _ _)
      | (with_reducible exact ih4 _ _ _ _ _ _ _ _)
      | (with_reducible exact ih5 _ _ _)
      | (with_reducible exact ih6 _ _ _ _)
      | (with_reducible exact ih7 _ _ _ _ _ _ _ _ _ _ _)
      | (with_reducible exact credenzalaw04_awake.mono _)
      | (with_reducible exact soft_Mix.mono _ _ _)
      | (with_reducible exact soft_Weights.mono _ _)
      | (with_reducible exact LeO.refl _)
      | (with_reducible exact LeO.none _)
      | (with_reducible refine LeO.ite ?_ ?_)
      | (with_reducible refine LeO.bind ?_ (fun _ => ?_))
      | exact ih0 _ _ _
      | exact ih1 _ _ _
      | exact ih2 _ _ _ _ _
      | exact ih3 _ _ _ _ _ _ _
      | exact ih4 _ _ _ _ _ _ _ _
      | exact ih5 _ _ _
      | exact ih6 _ _ _ _
      | exact ih7 _ _ _ _ _ _ _ _ _ _ _
      | exact credenzalaw04_awake.mono _
      | exact soft_Mix.mono _ _ _
      | exact soft_Weights.mono _ _
      | exact LeO.none _
      | refine LeO.ite ?_ ?_
      | refine LeO.bind ?_ (fun _ => ?_)
    · intro y0 y1 y2
      unfold credenzalaw04_SoftBetween.j5
      repeat' first
      | (with_reducible exact ih0 _ _ _)
      | (with_reducible exact ih1 _ _ _)
      | (with_reducible exact ih2 _ _ _ _ _)
      | (with_reducible exact ih3 _ _ _ _ _ _ _)
      | (with_reducible exact ih4 _ _ _ _ _ _ _ _)
      | (with_reducible exact ih5 _ _ _)
      | (with_reducible exact ih6 _ _ _ _)
      | (with_reducible exact ih7 _ _ _ _ _ _ _ _ _ _ _)
      | (with_reducible exact credenzalaw04_awake.mono _)
      | (with_reducible exact soft_Mix.mono _ _ _)
      | (with_reducible exact soft_Weights.mono _ _)
      | (with_reducible exact LeO.refl _)
      | (with_reducible exact LeO.none _)
      | (with_reducible refine LeO.ite ?_ ?_)
      | (with_reducible refine LeO.bind ?_ (fun _ => ?_))
      | exact ih0 _ _ _
      | exact ih1 _ _ _
      | exact ih2 _ _ _ _ _
      | exact ih3 _ _ _ _ _ _ _
      | exact ih4 _ _ _ _ _ _ _ _
      | exact ih5 _ _ _
      | exact ih6 _ _ _ _
      | exact ih7 _ _ _ _ _ _ _ _ _ _ _
      | exact credenzalaw04_awake.mono _
      | exact soft_Mix.mono _ _ _
      | exact soft_Weights.mono _ _
      | exact LeO.none _
      | refine LeO.ite ?_ ?_
      | refine LeO.bind ?_ (fun _ => ?_)
    · intro y0 y1 y2 y3
      unfold credenzalaw04_SoftBetween.l2
      repeat' first
      | (with_reducible exact ih0 _ _ _)
      | (with_reducible exact ih1 _ _ _)
      | (with_reducible exact ih2 _ _ _ _ _)
      | (with_reducible exact ih3 _ _ _ _ _ _ _)
      | (with_reducible exact ih4 _ _ _ _ _ _ _ _)
      | (with_reducible exact ih5 _ _ _)
      | (with_reducible exact ih6 _ _ _ _)
      | (with_reducible exact ih7 _ _ _ _ _ _ _ _ _ _ _)
      | (with_reducible exact credenzalaw04_awake.mono _)
      | (with_reducible exact soft_Mix.mono _ _ _)
      | (with_reducible exact soft_Weights.mono _ _)
      | (with_reducible exact LeO.refl _)
      | (with_reducible exact LeO.none _)
      | (with_reducible refine LeO.ite ?_ ?_)
      | (with_reducible refine LeO.bind ?_ (fun _ => ?_))
      | exact ih0 _ _ _
      | exact ih1 _ _ _
      | exact ih2 _ _ _ _ _
      | exact ih3 _ _ _ _ _ _ _
      | exact ih4 _ _ _ _ _ _ _ _
      | exact ih5 _ _ _
      | exact ih6 _ _ _ _
      | exact ih7 _ _ _ _ _ _ _ _ _ _ _
      | exact credenzalaw04_awake.mono _
      | exact soft_Mix.mono _ _ _
      | exact soft_Weights.mono _ _
      | exact LeO.none _
      | refine LeO.ite ?_ ?_
      | refine LeO.bind ?_ (fun _ => ?_)
    · intro y0 y1 y2 y3 y4 y5 y6 y7 y8 y9 y10
      unfold credenzalaw04_SoftBetween.l3
      repeat' first
      | (with_reducible exact ih0 _ _ _)
      | (with_reducible exact ih1 _ _ _)
      | (with_reducible exact ih2 _ _ _ _ _)
      | (with_reducible exact ih3 _ _ _ _ _ _ _)
      | (with_reducible exact ih4 _ _ _ _ _ _ _ _)
      | (with_reducible exact ih5 _ _ _)
      | (with_reducible exact ih6 _ _ _ _)
      | (with_reducible exact ih7 _ _ _ _ _ _ _ _ _ _ _)
      | (with_reducible exact credenzalaw04_awake.mono _)
      | (with_reducible exact soft_Mix.mono _ _ _)
      | (with_reducible exact soft_Weights.mono _ _)
      | (with_reducible exact LeO.refl _)
      | (with_reducible exact LeO.none _)
      | (with_reducible refine LeO.ite ?_ ?_)
      | (with_reducible refine LeO.bind ?_ (fun _ => ?_))
      | exact ih0 _ _ _
      | exact ih1 _ _ _
      | exact ih2 _ _ _ _ _
      | exact ih3 _ _ _ _ _ _ _
      | exact ih4 _ _ _ _ _ _ _ _
      | exact ih5 _ _ _
      | exact ih6 _ _ _ _
      | exact ih7 _ _ _ _ _ _ _ _ _ _ _
      | exact credenzalaw04_awake.mono _
      | exact soft_Mix.mono _ _ _
      | exact soft_Weights.mono _ _
      | exact LeO.none _
      | refine LeO.ite ?_ ?_
      | refine LeO.bind ?_ (fun _ => ?_)
theorem credenzalaw04_SoftBetween.mono : ∀ a0 a1 k, LeO (credenzalaw04_SoftBetween.f k a0 a1) (credenzalaw04_SoftBetween.f (k + 1) a0 a1) := by
  intro a0 a1 k
  obtain ⟨ih0, ih1, ih2, ih3, ih4, ih5, ih6, ih7⟩ := credenzalaw04_SoftBetween.mono_l k
  unfold credenzalaw04_SoftBetween.f
  repeat' first
      | (with_reducible exact ih0 _ _ _)
      | (with_reducible exact ih1 _ _ _)
      | (with_reducible exact ih2 _ _ _ _ _)
      | (with_reducible exact ih3 _ _ _ _ _ _ _)
      | (with_reducible exact ih4 _ _ _ _ _ _ _ _)
      | (with_reducible exact ih5 _ _ _)
      | (with_reducible exact ih6 _ _ _ _)
      | (with_reducible exact ih7 _ _ _ _ _ _ _ _ _ _ _)
      | (with_reducible exact credenzalaw04_awake.mono _)
      | (with_reducible exact soft_Mix.mono _ _ _)
      | (with_reducible exact soft_Weights.mono _ _)
      | (with_reducible exact LeO.refl _)
      | (with_reducible exact LeO.none _)
      | (with_reducible refine LeO.ite ?_ ?_)
      | (with_reducible refine LeO.bind ?_ (fun _ => ?_))
      | exact ih0 _ _ _
      | exact ih1 _ _ _
      | exact ih2 _ _ _ _ _
      | exact ih3 _ _ _ _ _ _ _
      | exact ih4 _ _ _ _ _ _ _ _
      | exact ih5 _ _ _
      | exact ih6 _ _ _ _
      | exact ih7 _ _ _ _ _ _ _ _ _ _ _
      | exact credenzalaw04_awake.mono _
      | exact soft_Mix.mono _ _ _
      | exact soft_Weights.mono _ _
      | exact LeO.none _
      | refine LeO.ite ?_ ?_
      | refine LeO.bind ?_ (fun _ => ?_)
set_option maxHeartbeats 8000000 in
set_option maxRecDepth 100000 in
theorem credenzalaw04_SoftBetween.calls (k : Nat) (A0 : Option Addr) (c0 : Nat) (l0 : List Int) (A1 : Option Addr) (c1 : Nat) (l1 : List (List Int)) (r : Bool) (w : World) (hr0 : Kd.C (Kd.int .i32) w A0 l0.length l0) (hc0 : l0.length ≤ c0) (hr1 : Kd.C (Kd.slice 21 (Kd.int .i32)) w A1 l1.length l1) (hc1 : l1.length ≤ c1) (h : credenzalaw04_SoftBetween.f k l0 l1 = some r) (hrt_ : r = true) :
    Calls Try.prog 4 #[.slice A0 l0.length c0, .slice A1 l1.length c1] w fun e w' => e = .returned (.bool r) ∧ Below w.heap.size w w' := by
  have HR0 := Aside0.mk hr0
  have HC0 := Aside0.mk hc0
  clear hr0 hc0
  have HR1 := Aside0.mk hr1
  have HC1 := Aside0.mk hc1
  clear hr1 hc1
  have HRT := Aside0.mk hrt_
  clear hrt_
  have HB := Aside0.mk (Below.refl w.heap.size w)
  have H : (if (l0.length : Int) = 0 then (credenzalaw04_SoftBetween.j0 k l0 l1 true) else (if (l0.length : Int) > 40 then (credenzalaw04_SoftBetween.j0 k l0 l1 true) else (credenzalaw04_SoftBetween.j0 k l0 l1 ((l1.length : Int) != (l0.length : Int))))) = some r := h
  clear h
  have HC3 := Aside0.mk H
  clear H
  go_enter Try.func4, Try.ntmps4
  go_upto_region 1 with (fail)
  repeat (go_quiet (fail); go_upto_region 1 with (fail))
  go_cut [33] (fun v33 wc => ∃ (kq : Nat) (x33_2 : Bool), v33 = .bool x33_2 ∧ Aside0 (credenzalaw04_SoftBetween.j0 kq l0 l1 x33_2 = some r) ∧ Aside0 (kq ≤ k) ∧ Aside0 (Below w.heap.size w wc))
  case first =>
    have H := HC3.out
    clear HC3
    by_cases c4 : (l0.length : Int) = 0
    · rw [if_pos c4] at H
      have c4b0 : ((l0.length : Int) == 0) = true := beq_iff_eq.mpr c4
      have c4b1 : ((l0.length : Int) != 0) = false := bne_eq_false_iff_eq.mpr c4
      clear c4
      (first | rw [c4b0] | (simp only [i64_w, i32_w]; rw [c4b0]) | skip)
      have H' := Aside0.mk H
      clear H
      go_wp2
      repeat (go_quiet (fail); try go_wp2)
      go_meet
      case rel => exact ⟨_, (true), (by first | rfl | (simp; done) | (simp [*]; done)), H', ⟨by first | omega | exact Nat.le_refl _⟩, ⟨by repeat (first | (with_reducible first | exact HB.out | apply below_alloc | apply pw_below_drewN | apply below_drew1) | exact HB.out)⟩⟩
    · rw [if_neg c4] at H
      have c4b0 : ((l0.length : Int) == 0) = false := beq_eq_false_iff_ne.mpr c4
      have c4b1 : ((l0.length : Int) != 0) = true := bne_iff_ne.mpr c4
      have c4b2 : ¬ (l0 = []) := fun h_ => c4 (by rw [h_]; rfl)
      (first | rw [c4b0] | (simp only [i64_w, i32_w]; rw [c4b0]) | skip)
      by_cases c5 : (l0.length : Int) > 40
      · rw [if_pos c5] at H
        have c5b0 : decide (40 < (l0.length : Int)) = true := decide_eq_true c5
        have c5b1 : decide (40 < l0.length) = true := decide_eq_true (by omega)
        clear c5
        have H' := Aside0.mk H
        clear H
        go_wp2
        repeat (go_quiet (fail); try go_wp2)
        go_meet
        case rel => exact ⟨_, (true), (by first | rfl | (simp; done) | (simp [*]; done)), H', ⟨by first | omega | exact Nat.le_refl _⟩, ⟨by repeat (first | (with_reducible first | exact HB.out | apply below_alloc | apply pw_below_drewN | apply below_drew1) | exact HB.out)⟩⟩
      · rw [if_neg c5] at H
        have c5b0 : decide (40 < (l0.length : Int)) = false := decide_eq_false c5
        have c5b1 : decide (40 < l0.length) = false := decide_eq_false (by omega)
        clear c5
        have H' := Aside0.mk H
        clear H
        go_wp2
        repeat (go_quiet (fail); try go_wp2)
        go_meet
        case rel => exact ⟨_, (((l1.length : Int) != (l0.length : Int))), (by first | rfl | (simp; done) | (simp [*]; done)), H', ⟨by first | omega | exact Nat.le_refl _⟩, ⟨by repeat (first | (with_reducible first | exact HB.out | apply below_alloc | apply pw_below_drewN | apply below_drew1) | exact HB.out)⟩⟩
  case rest =>
    clear HC3
    try clear c1
    try clear p2
    try clear c4
    try clear c4b0
    try clear c4b1
    try clear c4b2
    try clear c5
    try clear c5b0
    try clear c5b1
    obtain ⟨kq, x33_2, rfl, HA, HJ2, HB⟩ := hcut
    cases kq with
    | zero => exact absurd HA.out (by simp [credenzalaw04_SoftBetween.j0])
    | succ kj2 =>
      have H := HA.out
      clear HA
      simp only [credenzalaw04_SoftBetween.j0] at H
      by_cases c6 : x33_2 = true
      · subst c6
        have H1 : ((credenzalaw04_awake.f kj2).bind fun t200 => (some t200)) = some r := by rw [if_pos rfl] at H; exact H
        clear H
        have H := H1
        clear H1
        replace H := Option.bind_eq_some_iff.mp H
        obtain ⟨t200, A70, H⟩ := H
        replace H : (some t200) = some r := H
        have A7 := Aside0.mk A70
        clear A70
        obtain rfl := Option.some.inj H
        go_wp2_with (first | (go_at_call 15; (with_reducible refine (credenzalaw04_awake.calls kj2  t200 _ A7.out).mono ?_); rintro e w8 ⟨rfl, hb⟩; have n0_ := Aside0.mk (below_step (by repeat (first | (with_reducible first | exact HB.out | apply below_alloc | apply pw_below_drewN | apply below_drew1) | exact HB.out)) hb); clear HB; have HB := n0_; clear n0_; (try clear hb); (try clear hb2); (try clear hk); (try clear hi)))
        repeat (go_quiet (first | (go_at_call 15; (with_reducible refine (credenzalaw04_awake.calls kj2  t200 _ A7.out).mono ?_); rintro e w8 ⟨rfl, hb⟩; have n0_ := Aside0.mk (below_step (by repeat (first | (with_reducible first | exact HB.out | apply below_alloc | apply pw_below_drewN | apply below_drew1) | exact HB.out)) hb); clear HB; have HB := n0_; clear n0_; (try clear hb); (try clear hb2); (try clear hk); (try clear hi))); try go_wp2_with (first | (go_at_call 15; (with_reducible refine (credenzalaw04_awake.calls kj2  t200 _ A7.out).mono ?_); rintro e w8 ⟨rfl, hb⟩; have n0_ := Aside0.mk (below_step (by repeat (first | (with_reducible first | exact HB.out | apply below_alloc | apply pw_below_drewN | apply below_drew1) | exact HB.out)) hb); clear HB; have HB := n0_; clear n0_; (try clear hb); (try clear hb2); (try clear hk); (try clear hi))))
        go_ret
        exact ⟨by first | rfl | (simp [errW_none, errW_some] <;> rfl) | (simp [*, errW_none, errW_some] <;> rfl), by repeat (first | (with_reducible first | exact HB.out | apply below_alloc | apply pw_below_drewN | apply below_drew1) | exact HB.out)⟩
      · replace c6 := Bool.eq_false_iff.mpr c6
        subst c6
        have H1 : ((soft_Weights.f kj2 l0).bind fun bt201 => (if bt201.2 = 0 then (credenzalaw04_SoftBetween.j1 kj2 l1 bt201.1 ((bt201.1.length : Int) != (l0.length : Int))) else (credenzalaw04_SoftBetween.j1 kj2 l1 bt201.1 true))) = some r := by rw [if_neg (show ¬ (false = true) by decide)] at H; exact H
        clear H
        have H := H1
        clear H1
        replace H := Option.bind_eq_some_iff.mp H
        obtain ⟨⟨t201, t202⟩, A90, H⟩ := H
        replace H : (if t202 = 0 then (credenzalaw04_SoftBetween.j1 kj2 l1 t201 ((t201.length : Int) != (l0.length : Int))) else (credenzalaw04_SoftBetween.j1 kj2 l1 t201 true)) = some r := H
        have A9 := Aside0.mk A90
        clear A90
        have HC10 := Aside0.mk H
        clear H
        go_upto_region 4 with (first | (go_at_call 16; (with_reducible refine (soft_Weights.calls kj2 _ _ l0 t201 t202 _ ?side1 ?side2 A9.out).mono ?_); (case side1 => repeat (first | exact (Kd.C_below HR0.out HB.out) | (with_reducible refine Kd.C_alloc ?_ _) | (with_reducible refine Kd.C_drewN ?_ _) | (with_reducible refine Kd.C_drew ?_))); (case side2 => exact HC0.out); rintro e w11 ⟨v203, rfl, ho0, hb⟩; have n0_ := Aside0.mk (Kd.R_lower ho0 (below_size (by repeat (first | (with_reducible first | exact HB.out | apply below_alloc | apply pw_below_drewN | apply below_drew1) | exact HB.out)))); have n1_ := Aside0.mk (below_step (by repeat (first | (with_reducible first | exact HB.out | apply below_alloc | apply pw_below_drewN | apply below_drew1) | exact HB.out)) hb); clear HB; have HO204 := n0_; have HB := n1_; clear n0_ n1_; (try clear hb); (try clear hb2); (try clear hk); (try clear hi); (try clear ho0)))
        repeat (go_quiet (first | (go_at_call 16; (with_reducible refine (soft_Weights.calls kj2 _ _ l0 t201 t202 _ ?side1 ?side2 A9.out).mono ?_); (case side1 => repeat (first | exact (Kd.C_below HR0.out HB.out) | (with_reducible refine Kd.C_alloc ?_ _) | (with_reducible refine Kd.C_drewN ?_ _) | (with_reducible refine Kd.C_drew ?_))); (case side2 => exact HC0.out); rintro e w11 ⟨v203, rfl, ho0, hb⟩; have n0_ := Aside0.mk (Kd.R_lower ho0 (below_size (by repeat (first | (with_reducible first | exact HB.out | apply below_alloc | apply pw_below_drewN | apply below_drew1) | exact HB.out)))); have n1_ := Aside0.mk (below_step (by repeat (first | (with_reducible first | exact HB.out | apply below_alloc | apply pw_below_drewN | apply below_drew1) | exact HB.out)) hb); clear HB; have HO204 := n0_; have HB := n1_; clear n0_ n1_; (try clear hb); (try clear hb2); (try clear hk); (try clear hi); (try clear ho0))); go_upto_region 4 with (first | (go_at_call 16; (with_reducible refine (soft_Weights.calls kj2 _ _ l0 t201 t202 _ ?side1 ?side2 A9.out).mono ?_); (case side1 => repeat (first | exact (Kd.C_below HR0.out HB.out) | (with_reducible refine Kd.C_alloc ?_ _) | (with_reducible refine Kd.C_drewN ?_ _) | (with_reducible refine Kd.C_drew ?_))); (case side2 => exact HC0.out); rintro e w11 ⟨v203, rfl, ho0, hb⟩; have n0_ := Aside0.mk (Kd.R_lower ho0 (below_size (by repeat (first | (with_reducible first | exact HB.out | apply below_alloc | apply pw_below_drewN | apply below_drew1) | exact HB.out)))); have n1_ := Aside0.mk (below_step (by repeat (first | (with_reducible first | exact HB.out | apply below_alloc | apply pw_below_drewN | apply below_drew1) | exact HB.out)) hb); clear HB; have HO204 := n0_; have HB := n1_; clear n0_ n1_; (try clear hb); (try clear hb2); (try clear hk); (try clear hi); (try clear ho0))))
        (try simp only [Act.put, List.setIfInBounds_toArray, List.set_cons_zero, List.set_cons_succ])
        go_cut [48] (fun v48 wc => ∃ (kq : Nat) (x48_9 : Bool), v48 = .bool x48_9 ∧ Aside0 (credenzalaw04_SoftBetween.j1 kq l1 t201 x48_9 = some r) ∧ Aside0 (kq ≤ kj2) ∧ Aside0 (Kd.R (Kd.int .i64) 3 wc w.heap.size (fun _ => True) v203 t201) ∧ Aside0 (Below w.heap.size w wc))
        case first =>
          have H := HC10.out
          clear HC10
          by_cases c12 : t202 = 0
          · rw [if_pos c12] at H
            have c12b0 : (t202 == 0) = true := beq_iff_eq.mpr c12
            have c12b1 : (t202 != 0) = false := bne_eq_false_iff_eq.mpr c12
            clear c12
            (first | rw [c12b0] | (simp only [i64_w, i32_w]; rw [c12b0]) | skip)
            have H' := Aside0.mk H
            clear H
            obtain ⟨Ao13, co13, eo13⟩ := Kd.R_slice HO204.out
            subst eo13
            go_wp2
            repeat (go_quiet (fail); try go_wp2)
            go_meet
            case rel => exact ⟨_, (((t201.length : Int) != (l0.length : Int))), (by first | rfl | (simp; done) | (simp [*]; done)), H', ⟨by have := HJ2.out; first | omega | exact Nat.le_refl _⟩, ⟨by (with_reducible repeat (first | apply Kd.R_alloc | apply Kd.R_drewN | apply Kd.R_drew)); exact HO204.out⟩, ⟨by repeat (first | (with_reducible first | exact HB.out | apply below_alloc | apply pw_below_drewN | apply below_drew1) | exact HB.out)⟩⟩
          · rw [if_neg c12] at H
            have c12b0 : (t202 == 0) = false := beq_eq_false_iff_ne.mpr c12
            have c12b1 : (t202 != 0) = true := bne_iff_ne.mpr c12
            (first | rw [c12b0] | (simp only [i64_w, i32_w]; rw [c12b0]) | skip)
            have H' := Aside0.mk H
            clear H
            go_wp2
            repeat (go_quiet (fail); try go_wp2)
            go_meet
            case rel => exact ⟨_, (true), (by first | rfl | (simp; done) | (simp [*]; done)), H', ⟨by have := HJ2.out; first | omega | exact Nat.le_refl _⟩, ⟨by (with_reducible repeat (first | apply Kd.R_alloc | apply Kd.R_drewN | apply Kd.R_drew)); exact HO204.out⟩, ⟨by repeat (first | (with_reducible first | exact HB.out | apply below_alloc | apply pw_below_drewN | apply below_drew1) | exact HB.out)⟩⟩
        case rest =>
          clear HC10
          try clear c1
          try clear p2
          try clear c4
          try clear c4b0
          try clear c4b1
          try clear c4b2
          try clear c5
          try clear c5b0
          try clear c5b1
          try clear c6
          try clear c12
          try clear c12b0
          try clear c12b1
          try clear p2
          obtain ⟨kq, x48_9, rfl, HA, HJ9, HO_5, HB⟩ := hcut
          cases kq with
          | zero => exact absurd HA.out (by simp [credenzalaw04_SoftBetween.j1])
          | succ kj9 =>
            have H := HA.out
            clear HA
            simp only [credenzalaw04_SoftBetween.j1] at H
            by_cases c14 : x48_9 = true
            · subst c14
              have H1 : (some false) = some r := by rw [if_pos rfl] at H; exact H
              clear H
              have H := H1
              clear H1
              exact absurd (H.trans (congrArg some HRT.out)) (by simp)
            · replace c14 := Bool.eq_false_iff.mpr c14
              subst c14
              have H1 : (credenzalaw04_SoftBetween.l0 kj9 l1 t201 l1 (l1.length : Int) 0) = some r := by rw [if_neg (show ¬ (false = true) by decide)] at H; exact H
              clear H
              have H := H1
              clear H1
              have H' := Aside0.mk H
              clear H
              go_wp2
              repeat (go_quiet (fail); try go_wp2)
              go_loopg [51] kj9 (fun kq v51 w' => ∃ (x51_3 : Int), v51 = .int .i64 x51_3 ∧ Aside0 (credenzalaw04_SoftBetween.l0 kq l1 t201 l1 (l1.length : Int) x51_3 = some r) ∧ Aside0 (kq ≤ kj9) ∧ Aside0 (Kd.R (Kd.int .i64) 3 w' w.heap.size (fun _ => True) v203 t201) ∧ Aside0 (Below w.heap.size w w'))
              case atStart => exact ⟨(0), (by first | rfl | (simp; done) | (simp [*]; done)), H', ⟨Nat.le_refl _⟩, ⟨by (with_reducible repeat (first | apply Kd.R_alloc | apply Kd.R_drewN | apply Kd.R_drew)); exact HO_5.out⟩, ⟨by repeat (first | (with_reducible first | exact HB.out | apply below_alloc | apply pw_below_drewN | apply below_drew1) | exact HB.out)⟩⟩
              case round =>
                clear H'
                try clear c1
                try clear p2
                try clear c4
                try clear c4b0
                try clear c4b1
                try clear c4b2
                try clear c5
                try clear c5b0
                try clear c5b1
                try clear c6
                try clear c12
                try clear c12b0
                try clear c12b1
                try clear c14
                try clear p2
                obtain ⟨x51_3, rfl, HA, HK3, HO_5, HB⟩ := hrel
                cases gk with
                | zero => exact absurd HA.out (by simp [credenzalaw04_SoftBetween.l0])
                | succ k3 =>
                  have H := HA.out
                  clear HA
                  simp only [credenzalaw04_SoftBetween.l0] at H
                  by_cases c15 : x51_3 < (l1.length : Int)
                  · rw [if_pos c15] at H
                    have c15b0 : decide (x51_3 < (l1.length : Int)) = true := decide_eq_true c15
                    clear c15
                    by_cases c16 : 0 ≤ x51_3
                    · rw [if_pos c16] at H
                      have c16b0 : decide (0 ≤ x51_3) = true := decide_eq_true c16
                      clear c16
                      by_cases c17 : x51_3 < (l1.length : Int)
                      · rw [if_pos c17] at H
                        have c17b0 : decide (x51_3 < (l1.length : Int)) = true := decide_eq_true c17
                        clear c17
                        have HC18 := Aside0.mk H
                        clear H
                        have p205 : 0 ≤ (x51_3 : Int) := of_decide_eq_true (by first | (with_reducible assumption) | assumption)
                        have q205 : x51_3 < (l1.length : Int) := of_decide_eq_true (by first | (with_reducible assumption) | assumption)
                        obtain ⟨ad205, A205_0, c205_0, e205, hx205_0, hl205_0, hi205_0⟩ := at_L2 HR1.out x51_3 p205 q205
                        cases e205
                        replace hx205_0 := (HB.out.cell (World.block_lt_of_cell? w _ hx205_0)).trans hx205_0
                        have HR205_0 := Aside0.mk hi205_0
                        have HC205_0 := Aside0.mk hl205_0
                        clear hi205_0 hl205_0
                        replace p205 := eq_true p205
                        replace q205 := eq_true q205
                        go_upto_region 9 with (fail)
                        repeat (go_quiet (fail); go_upto_region 9 with (fail))
                        go_cut [66] (fun v66 wc => ∃ (kq : Nat) (x66_17 : Bool), v66 = .bool x66_17 ∧ Aside0 (credenzalaw04_SoftBetween.j3 kq l1 t201 (rd_L2 l1 x51_3) l1 (l1.length : Int) x51_3 x66_17 = some r) ∧ Aside0 (kq ≤ k3) ∧ Aside0 (Kd.R (Kd.int .i64) 3 wc w.heap.size (fun _ => True) v203 t201) ∧ Aside0 (Below w.heap.size w wc))
                        case first =>
                          have H := HC18.out
                          clear HC18
                          by_cases c19 : ((rd_L2 l1 x51_3).length : Int) > 40
                          · rw [if_pos c19] at H
                            have c19b0 : decide (40 < ((rd_L2 l1 x51_3).length : Int)) = true := decide_eq_true c19
                            have c19b1 : decide (40 < (rd_L2 l1 x51_3).length) = true := decide_eq_true (by omega)
                            clear c19
                            (first | rw [c19b0] | (simp only [i64_w, i32_w]; rw [c19b0]) | skip)
                            have H' := Aside0.mk H
                            clear H
                            go_wp2
                            repeat (go_quiet (fail); try go_wp2)
                            go_meet
                            case rel => exact ⟨_, (true), (by first | rfl | (simp; done) | (simp [*]; done)), H', ⟨by have := HJ2.out; have := HJ9.out; have := HK3.out; first | omega | exact Nat.le_refl _⟩, ⟨by (with_reducible repeat (first | apply Kd.R_alloc | apply Kd.R_drewN | apply Kd.R_drew)); exact HO_5.out⟩, ⟨by repeat (first | (with_reducible first | exact HB.out | apply below_alloc | apply pw_below_drewN | apply below_drew1) | exact HB.out)⟩⟩
                          · rw [if_neg c19] at H
                            have c19b0 : decide (40 < ((rd_L2 l1 x51_3).length : Int)) = false := decide_eq_false c19
                            have c19b1 : decide (40 < (rd_L2 l1 x51_3).length) = false := decide_eq_false (by omega)
                            clear c19
                            (first | rw [c19b0] | (simp only [i64_w, i32_w]; rw [c19b0]) | skip)
                            by_cases c20 : 0 < (l1.length : Int)
                            · rw [if_pos c20] at H
                              have c20b0 : decide (0 < (l1.length : Int)) = true := decide_eq_true c20
                              have c20b1 : decide (0 < l1.length) = true := decide_eq_true (by omega)
                              clear c20
                              have H' := Aside0.mk H
                              clear H
                              have p206 : 0 ≤ (0 : Int) := (by omega)
                              have q206 : 0 < (l1.length : Int) := of_decide_eq_true (by first | (with_reducible assumption) | assumption)
                              obtain ⟨ad206, A206_0, c206_0, e206, hx206_0, hl206_0, hi206_0⟩ := at_L2 HR1.out 0 p206 q206
                              obtain rfl : ad205 = ad206 := (by injection e206)
                              have qi206 : (0 < l1.length) = True := eq_true (by omega)
                              (try rw [show ((0 : Int)).toNat = 0 from rfl] at hx206_0)
                              (try rw [Addr.add_zero'] at hx206_0)
                              replace hx206_0 := (HB.out.cell (World.block_lt_of_cell? w _ hx206_0)).trans hx206_0
                              have HR206_0 := Aside0.mk hi206_0
                              have HC206_0 := Aside0.mk hl206_0
                              clear hi206_0 hl206_0
                              replace p206 := eq_true p206
                              replace q206 := eq_true q206
                              go_wp2
                              repeat (go_quiet (fail); try go_wp2)
                              go_meet
                              case rel => exact ⟨_, ((((rd_L2 l1 x51_3).length : Int) != ((rd_L2 l1 0).length : Int))), (by first | rfl | (simp; done) | (simp [*]; done)), H', ⟨by have := HJ2.out; have := HJ9.out; have := HK3.out; first | omega | exact Nat.le_refl _⟩, ⟨by (with_reducible repeat (first | apply Kd.R_alloc | apply Kd.R_drewN | apply Kd.R_drew)); exact HO_5.out⟩, ⟨by repeat (first | (with_reducible first | exact HB.out | apply below_alloc | apply pw_below_drewN | apply below_drew1) | exact HB.out)⟩⟩
                            · rw [if_neg c20] at H
                              exact absurd H (by simp)
                        case rest =>
                          clear HC18
                          try clear c1
                          try clear c2
                          try clear p2
                          try clear q2
                          try clear hx2
                          try clear qi2
                          try clear c4
                          try clear c4b0
                          try clear c4b1
                          try clear c4b2
                          try clear c5
                          try clear c5b0
                          try clear c5b1
                          try clear c6
                          try clear c12
                          try clear c12b0
                          try clear c12b1
                          try clear c14
                          try clear c15
                          try clear c15b0
                          try clear c16
                          try clear c16b0
                          try clear c17
                          try clear c17b0
                          try clear c19
                          try clear c19b0
                          try clear c19b1
                          try clear c20
                          try clear c20b0
                          try clear c20b1
                          try clear p20
                          try clear q20
                          try clear hx20
                          try clear qi20
                          try clear hx205_0
                          try clear hx206_0
                          try clear p2
                          try clear p205
                          try clear p206
                          try clear q205
                          try clear q206
                          obtain ⟨kq, x66_17, rfl, HA, HJ17, HO_5, HB⟩ := hcut
                          cases kq with
                          | zero => exact absurd HA.out (by simp [credenzalaw04_SoftBetween.j3])
                          | succ kj17 =>
                            have H := HA.out
                            clear HA
                            simp only [credenzalaw04_SoftBetween.j3] at H
                            by_cases c21 : x66_17 = true
                            · subst c21
                              have H1 : ((credenzalaw04_awake.f kj17).bind fun t207 => (some t207)) = some r := by rw [if_pos rfl] at H; exact H
                              clear H
                              have H := H1
                              clear H1
                              replace H := Option.bind_eq_some_iff.mp H
                              obtain ⟨t207, A220, H⟩ := H
                              replace H : (some t207) = some r := H
                              have A22 := Aside0.mk A220
                              clear A220
                              obtain rfl := Option.some.inj H
                              go_wp2_with (first | (go_at_call 15; (with_reducible refine (credenzalaw04_awake.calls kj17  t207 _ A22.out).mono ?_); rintro e w23 ⟨rfl, hb⟩; have n0_ := Aside0.mk (Kd.R_below (by (with_reducible repeat (first | apply Kd.R_alloc | apply Kd.R_drewN | apply Kd.R_drew)); exact HO_5.out) hb); have n1_ := Aside0.mk (below_step (by repeat (first | (with_reducible first | exact HB.out | apply below_alloc | apply pw_below_drewN | apply below_drew1) | exact HB.out)) hb); clear HO_5; clear HB; have HO_5 := n0_; have HB := n1_; clear n0_ n1_; (try clear hb); (try clear hb2); (try clear hk); (try clear hi)))
                              repeat (go_quiet (first | (go_at_call 15; (with_reducible refine (credenzalaw04_awake.calls kj17  t207 _ A22.out).mono ?_); rintro e w23 ⟨rfl, hb⟩; have n0_ := Aside0.mk (Kd.R_below (by (with_reducible repeat (first | apply Kd.R_alloc | apply Kd.R_drewN | apply Kd.R_drew)); exact HO_5.out) hb); have n1_ := Aside0.mk (below_step (by repeat (first | (with_reducible first | exact HB.out | apply below_alloc | apply pw_below_drewN | apply below_drew1) | exact HB.out)) hb); clear HO_5; clear HB; have HO_5 := n0_; have HB := n1_; clear n0_ n1_; (try clear hb); (try clear hb2); (try clear hk); (try clear hi))); try go_wp2_with (first | (go_at_call 15; (with_reducible refine (credenzalaw04_awake.calls kj17  t207 _ A22.out).mono ?_); rintro e w23 ⟨rfl, hb⟩; have n0_ := Aside0.mk (Kd.R_below (by (with_reducible repeat (first | apply Kd.R_alloc | apply Kd.R_drewN | apply Kd.R_drew)); exact HO_5.out) hb); have n1_ := Aside0.mk (below_step (by repeat (first | (with_reducible first | exact HB.out | apply below_alloc | apply pw_below_drewN | apply below_drew1) | exact HB.out)) hb); clear HO_5; clear HB; have HO_5 := n0_; have HB := n1_; clear n0_ n1_; (try clear hb); (try clear hb2); (try clear hk); (try clear hi))))
                              go_ret
                              exact ⟨by first | rfl | (simp [errW_none, errW_some] <;> rfl) | (simp [*, errW_none, errW_some] <;> rfl), by repeat (first | (with_reducible first | exact HB.out | apply below_alloc | apply pw_below_drewN | apply below_drew1) | exact HB.out)⟩
                            · replace c21 := Bool.eq_false_iff.mpr c21
                              subst c21
                              have H1 : (credenzalaw04_SoftBetween.l1 kj17 l1 t201 l1 (l1.length : Int) x51_3 (rd_L2 l1 x51_3) ((rd_L2 l1 x51_3).length : Int) 0) = some r := by rw [if_neg (show ¬ (false = true) by decide)] at H; exact H
                              clear H
                              have H := H1
                              clear H1
                              have H' := Aside0.mk H
                              clear H
                              go_wp2
                              repeat (go_quiet (fail); try go_wp2)
                              go_loopg [70] kj17 (fun kq v70 w' => ∃ (x70_5 : Int), v70 = .int .i64 x70_5 ∧ Aside0 (credenzalaw04_SoftBetween.l1 kq l1 t201 l1 (l1.length : Int) x51_3 (rd_L2 l1 x51_3) ((rd_L2 l1 x51_3).length : Int) x70_5 = some r) ∧ Aside0 (kq ≤ kj17) ∧ Aside0 (Kd.R (Kd.int .i64) 3 w' w.heap.size (fun _ => True) v203 t201) ∧ Aside0 (Below w.heap.size w w'))
                              case atStart => exact ⟨(0), (by first | rfl | (simp; done) | (simp [*]; done)), H', ⟨Nat.le_refl _⟩, ⟨by (with_reducible repeat (first | apply Kd.R_alloc | apply Kd.R_drewN | apply Kd.R_drew)); exact HO_5.out⟩, ⟨by repeat (first | (with_reducible first | exact HB.out | apply below_alloc | apply pw_below_drewN | apply below_drew1) | exact HB.out)⟩⟩
                              case round =>
                                clear H'
                                try clear c1
                                try clear c2
                                try clear p2
                                try clear q2
                                try clear hx2
                                try clear qi2
                                try clear c4
                                try clear c4b0
                                try clear c4b1
                                try clear c4b2
                                try clear c5
                                try clear c5b0
                                try clear c5b1
                                try clear c6
                                try clear c12
                                try clear c12b0
                                try clear c12b1
                                try clear c14
                                try clear c15
                                try clear c15b0
                                try clear c16
                                try clear c16b0
                                try clear c17
                                try clear c17b0
                                try clear c19
                                try clear c19b0
                                try clear c19b1
                                try clear c20
                                try clear c20b0
                                try clear c20b1
                                try clear p20
                                try clear q20
                                try clear hx20
                                try clear qi20
                                try clear c21
                                try clear hx205_0
                                try clear hx206_0
                                try clear p2
                                try clear p20
                                try clear p205
                                try clear p206
                                try clear q2
                                try clear q20
                                try clear q205
                                try clear q206
                                obtain ⟨x70_5, rfl, HA, HK5, HO_5, HB⟩ := hrel
                                cases gk with
                                | zero => exact absurd HA.out (by simp [credenzalaw04_SoftBetween.l1])
                                | succ k5 =>
                                  have H := HA.out
                                  clear HA
                                  simp only [credenzalaw04_SoftBetween.l1] at H
                                  by_cases c24 : x70_5 < ((rd_L2 l1 x51_3).length : Int)
                                  · rw [if_pos c24] at H
                                    have c24b0 : decide (x70_5 < ((rd_L2 l1 x51_3).length : Int)) = true := decide_eq_true c24
                                    clear c24
                                    by_cases c25 : 0 ≤ x70_5
                                    · rw [if_pos c25] at H
                                      have c25b0 : decide (0 ≤ x70_5) = true := decide_eq_true c25
                                      clear c25
                                      by_cases c26 : x70_5 < ((rd_L2 l1 x51_3).length : Int)
                                      · rw [if_pos c26] at H
                                        have c26b0 : decide (x70_5 < ((rd_L2 l1 x51_3).length : Int)) = true := decide_eq_true c26
                                        clear c26
                                        by_cases c27 : (rd (rd_L2 l1 x51_3) x70_5) < (-8388608)
                                        · rw [if_pos c27] at H
                                          have c27b0 : decide ((rd (rd_L2 l1 x51_3) x70_5) < (-8388608)) = true := decide_eq_true c27
                                          clear c27
                                          replace H := Option.bind_eq_some_iff.mp H
                                          obtain ⟨t209, A280, H⟩ := H
                                          replace H : (some t209) = some r := H
                                          have A28 := Aside0.mk A280
                                          clear A280
                                          obtain rfl := Option.some.inj H
                                          have p208 : 0 ≤ (x70_5 : Int) := of_decide_eq_true (by first | (with_reducible assumption) | assumption)
                                          have q208 : x70_5 < ((rd_L2 l1 x51_3).length : Int) := of_decide_eq_true (by first | (with_reducible assumption) | assumption)
                                          obtain ⟨ad208, e208, hx208_0⟩ := Kd.at_int HR205_0.out x70_5 p208 q208
                                          cases e208
                                          replace hx208_0 := (HB.out.cell (World.block_lt_of_cell? w _ hx208_0)).trans hx208_0
                                          replace p208 := eq_true p208
                                          replace q208 := eq_true q208
                                          go_wp2_with (first | (go_at_call 15; (with_reducible refine (credenzalaw04_awake.calls k5  t209 _ A28.out).mono ?_); rintro e w29 ⟨rfl, hb⟩; have n0_ := Aside0.mk (Kd.R_below (by (with_reducible repeat (first | apply Kd.R_alloc | apply Kd.R_drewN | apply Kd.R_drew)); exact HO_5.out) hb); have n1_ := Aside0.mk (below_step (by repeat (first | (with_reducible first | exact HB.out | apply below_alloc | apply pw_below_drewN | apply below_drew1) | exact HB.out)) hb); clear HO_5; clear HB; have HO_5 := n0_; have HB := n1_; clear n0_ n1_; (try clear hb); (try clear hb2); (try clear hk); (try clear hi)))
                                          repeat (go_quiet (first | (go_at_call 15; (with_reducible refine (credenzalaw04_awake.calls k5  t209 _ A28.out).mono ?_); rintro e w29 ⟨rfl, hb⟩; have n0_ := Aside0.mk (Kd.R_below (by (with_reducible repeat (first | apply Kd.R_alloc | apply Kd.R_drewN | apply Kd.R_drew)); exact HO_5.out) hb); have n1_ := Aside0.mk (below_step (by repeat (first | (with_reducible first | exact HB.out | apply below_alloc | apply pw_below_drewN | apply below_drew1) | exact HB.out)) hb); clear HO_5; clear HB; have HO_5 := n0_; have HB := n1_; clear n0_ n1_; (try clear hb); (try clear hb2); (try clear hk); (try clear hi))); try go_wp2_with (first | (go_at_call 15; (with_reducible refine (credenzalaw04_awake.calls k5  t209 _ A28.out).mono ?_); rintro e w29 ⟨rfl, hb⟩; have n0_ := Aside0.mk (Kd.R_below (by (with_reducible repeat (first | apply Kd.R_alloc | apply Kd.R_drewN | apply Kd.R_drew)); exact HO_5.out) hb); have n1_ := Aside0.mk (below_step (by repeat (first | (with_reducible first | exact HB.out | apply below_alloc | apply pw_below_drewN | apply below_drew1) | exact HB.out)) hb); clear HO_5; clear HB; have HO_5 := n0_; have HB := n1_; clear n0_ n1_; (try clear hb); (try clear hb2); (try clear hk); (try clear hi))))
                                          go_ret
                                          exact ⟨by first | rfl | (simp [errW_none, errW_some] <;> rfl) | (simp [*, errW_none, errW_some] <;> rfl), by repeat (first | (with_reducible first | exact HB.out | apply below_alloc | apply pw_below_drewN | apply below_drew1) | exact HB.out)⟩
                                        · rw [if_neg c27] at H
                                          have c27b0 : decide ((rd (rd_L2 l1 x51_3) x70_5) < (-8388608)) = false := decide_eq_false c27
                                          clear c27
                                          by_cases c30 : (rd (rd_L2 l1 x51_3) x70_5) > 8388608
                                          · rw [if_pos c30] at H
                                            have c30b0 : decide (8388608 < (rd (rd_L2 l1 x51_3) x70_5)) = true := decide_eq_true c30
                                            clear c30
                                            replace H := Option.bind_eq_some_iff.mp H
                                            obtain ⟨t210, A310, H⟩ := H
                                            replace H : (some t210) = some r := H
                                            have A31 := Aside0.mk A310
                                            clear A310
                                            obtain rfl := Option.some.inj H
                                            have p208 : 0 ≤ (x70_5 : Int) := of_decide_eq_true (by first | (with_reducible assumption) | assumption)
                                            have q208 : x70_5 < ((rd_L2 l1 x51_3).length : Int) := of_decide_eq_true (by first | (with_reducible assumption) | assumption)
                                            obtain ⟨ad208, e208, hx208_0⟩ := Kd.at_int HR205_0.out x70_5 p208 q208
                                            cases e208
                                            replace hx208_0 := (HB.out.cell (World.block_lt_of_cell? w _ hx208_0)).trans hx208_0
                                            replace p208 := eq_true p208
                                            replace q208 := eq_true q208
                                            go_wp2_with (first | (go_at_call 15; (with_reducible refine (credenzalaw04_awake.calls k5  t210 _ A31.out).mono ?_); rintro e w32 ⟨rfl, hb⟩; have n0_ := Aside0.mk (Kd.R_below (by (with_reducible repeat (first | apply Kd.R_alloc | apply Kd.R_drewN | apply Kd.R_drew)); exact HO_5.out) hb); have n1_ := Aside0.mk (below_step (by repeat (first | (with_reducible first | exact HB.out | apply below_alloc | apply pw_below_drewN | apply below_drew1) | exact HB.out)) hb); clear HO_5; clear HB; have HO_5 := n0_; have HB := n1_; clear n0_ n1_; (try clear hb); (try clear hb2); (try clear hk); (try clear hi)))
                                            repeat (go_quiet (first | (go_at_call 15; (with_reducible refine (credenzalaw04_awake.calls k5  t210 _ A31.out).mono ?_); rintro e w32 ⟨rfl, hb⟩; have n0_ := Aside0.mk (Kd.R_below (by (with_reducible repeat (first | apply Kd.R_alloc | apply Kd.R_drewN | apply Kd.R_drew)); exact HO_5.out) hb); have n1_ := Aside0.mk (below_step (by repeat (first | (with_reducible first | exact HB.out | apply below_alloc | apply pw_below_drewN | apply below_drew1) | exact HB.out)) hb); clear HO_5; clear HB; have HO_5 := n0_; have HB := n1_; clear n0_ n1_; (try clear hb); (try clear hb2); (try clear hk); (try clear hi))); try go_wp2_with (first | (go_at_call 15; (with_reducible refine (credenzalaw04_awake.calls k5  t210 _ A31.out).mono ?_); rintro e w32 ⟨rfl, hb⟩; have n0_ := Aside0.mk (Kd.R_below (by (with_reducible repeat (first | apply Kd.R_alloc | apply Kd.R_drewN | apply Kd.R_drew)); exact HO_5.out) hb); have n1_ := Aside0.mk (below_step (by repeat (first | (with_reducible first | exact HB.out | apply below_alloc | apply pw_below_drewN | apply below_drew1) | exact HB.out)) hb); clear HO_5; clear HB; have HO_5 := n0_; have HB := n1_; clear n0_ n1_; (try clear hb); (try clear hb2); (try clear hk); (try clear hi))))
                                            go_ret
                                            exact ⟨by first | rfl | (simp [errW_none, errW_some] <;> rfl) | (simp [*, errW_none, errW_some] <;> rfl), by repeat (first | (with_reducible first | exact HB.out | apply below_alloc | apply pw_below_drewN | apply below_drew1) | exact HB.out)⟩
                                          · rw [if_neg c30] at H
                                            have c30b0 : decide (8388608 < (rd (rd_L2 l1 x51_3) x70_5)) = false := decide_eq_false c30
                                            clear c30
                                            have H' := Aside0.mk H
                                            clear H
                                            have p208 : 0 ≤ (x70_5 : Int) := of_decide_eq_true (by first | (with_reducible assumption) | assumption)
                                            have q208 : x70_5 < ((rd_L2 l1 x51_3).length : Int) := of_decide_eq_true (by first | (with_reducible assumption) | assumption)
                                            obtain ⟨ad208, e208, hx208_0⟩ := Kd.at_int HR205_0.out x70_5 p208 q208
                                            cases e208
                                            replace hx208_0 := (HB.out.cell (World.block_lt_of_cell? w _ hx208_0)).trans hx208_0
                                            replace p208 := eq_true p208
                                            replace q208 := eq_true q208
                                            go_wp2
                                            repeat (go_quiet (fail); try go_wp2)
                                            go_roundg k5
                                            case measure => have := HJ2.out; have := HJ9.out; have := HK3.out; have := HJ17.out; have := HK5.out; omega
                                            case rel => exact ⟨(wrap64 (x70_5 + 1)), (by first | rfl | (simp; done) | (simp [*]; done)), H', ⟨by have := HJ2.out; have := HJ9.out; have := HK3.out; have := HJ17.out; have := HK5.out; omega⟩, ⟨by (with_reducible repeat (first | apply Kd.R_alloc | apply Kd.R_drewN | apply Kd.R_drew)); exact HO_5.out⟩, ⟨by repeat (first | (with_reducible first | exact HB.out | apply below_alloc | apply pw_below_drewN | apply below_drew1) | exact HB.out)⟩⟩
                                      · rw [if_neg c26] at H
                                        exact absurd H (by simp)
                                    · rw [if_neg c25] at H
                                      exact absurd H (by simp)
                                  · rw [if_neg c24] at H
                                    have c24b0 : decide (x70_5 < ((rd_L2 l1 x51_3).length : Int)) = false := decide_eq_false c24
                                    clear c24
                                    have H' := Aside0.mk H
                                    clear H
                                    go_wp2
                                    repeat (go_quiet (fail); try go_wp2)
                                    go_roundg k5
                                    case measure => have := HJ2.out; have := HJ9.out; have := HK3.out; have := HJ17.out; have := HK5.out; omega
                                    case rel => exact ⟨(wrap64 (x51_3 + 1)), (by first | rfl | (simp; done) | (simp [*]; done)), H', ⟨by have := HJ2.out; have := HJ9.out; have := HK3.out; have := HJ17.out; have := HK5.out; omega⟩, ⟨by (with_reducible repeat (first | apply Kd.R_alloc | apply Kd.R_drewN | apply Kd.R_drew)); exact HO_5.out⟩, ⟨by repeat (first | (with_reducible first | exact HB.out | apply below_alloc | apply pw_below_drewN | apply below_drew1) | exact HB.out)⟩⟩
                      · rw [if_neg c17] at H
                        exact absurd H (by simp)
                    · rw [if_neg c16] at H
                      exact absurd H (by simp)
                  · rw [if_neg c15] at H
                    have c15b0 : decide (x51_3 < (l1.length : Int)) = false := decide_eq_false c15
                    clear c15
                    replace H := Option.bind_eq_some_iff.mp H
                    obtain ⟨⟨t211, t212⟩, A330, H⟩ := H
                    replace H : (if t212 = 0 then (if 0 < (l1.length : Int) then (credenzalaw04_SoftBetween.j5 k3 l1 t211 ((t211.length : Int) != ((rd_L2 l1 0).length : Int))) else (none)) else (credenzalaw04_SoftBetween.j5 k3 l1 t211 true)) = some r := H
                    have A33 := Aside0.mk A330
                    clear A330
                    have HC34 := Aside0.mk H
                    clear H
                    obtain ⟨Ao35, co35, eo35⟩ := Kd.R_slice HO_5.out
                    subst eo35
                    go_upto_region 19 with (first | (go_at_call 18; (with_reducible refine (soft_Mix.calls k3 _ _ t201 _ _ l1 t211 t212 _ ?side1 ?side2 ?side3 ?side4 A33.out).mono ?_); (case side1 => repeat (first | exact (Kd.R_reads' HO_5.out).2.2 | (with_reducible refine Kd.C_alloc ?_ _) | (with_reducible refine Kd.C_drewN ?_ _) | (with_reducible refine Kd.C_drew ?_))); (case side2 => exact (Kd.R_reads' HO_5.out).2.1); (case side3 => repeat (first | exact (Kd.C_below HR1.out HB.out) | (with_reducible refine Kd.C_alloc ?_ _) | (with_reducible refine Kd.C_drewN ?_ _) | (with_reducible refine Kd.C_drew ?_))); (case side4 => exact HC1.out); rintro e w36 ⟨v213, rfl, ho0, hb⟩; have n0_ := Aside0.mk (Kd.R_below (by (with_reducible repeat (first | apply Kd.R_alloc | apply Kd.R_drewN | apply Kd.R_drew)); exact HO_5.out) hb); have n1_ := Aside0.mk (Kd.R_lower ho0 (below_size (by repeat (first | (with_reducible first | exact HB.out | apply below_alloc | apply pw_below_drewN | apply below_drew1) | exact HB.out)))); have n2_ := Aside0.mk (below_step (by repeat (first | (with_reducible first | exact HB.out | apply below_alloc | apply pw_below_drewN | apply below_drew1) | exact HB.out)) hb); clear HO_5; clear HB; have HO_5 := n0_; have HO214 := n1_; have HB := n2_; clear n0_ n1_ n2_; (try clear hb); (try clear hb2); (try clear hk); (try clear hi); (try clear ho0)))
                    repeat (go_quiet (first | (go_at_call 18; (with_reducible refine (soft_Mix.calls k3 _ _ t201 _ _ l1 t211 t212 _ ?side1 ?side2 ?side3 ?side4 A33.out).mono ?_); (case side1 => repeat (first | exact (Kd.R_reads' HO_5.out).2.2 | (with_reducible refine Kd.C_alloc ?_ _) | (with_reducible refine Kd.C_drewN ?_ _) | (with_reducible refine Kd.C_drew ?_))); (case side2 => exact (Kd.R_reads' HO_5.out).2.1); (case side3 => repeat (first | exact (Kd.C_below HR1.out HB.out) | (with_reducible refine Kd.C_alloc ?_ _) | (with_reducible refine Kd.C_drewN ?_ _) | (with_reducible refine Kd.C_drew ?_))); (case side4 => exact HC1.out); rintro e w36 ⟨v213, rfl, ho0, hb⟩; have n0_ := Aside0.mk (Kd.R_below (by (with_reducible repeat (first | apply Kd.R_alloc | apply Kd.R_drewN | apply Kd.R_drew)); exact HO_5.out) hb); have n1_ := Aside0.mk (Kd.R_lower ho0 (below_size (by repeat (first | (with_reducible first | exact HB.out | apply below_alloc | apply pw_below_drewN | apply below_drew1) | exact HB.out)))); have n2_ := Aside0.mk (below_step (by repeat (first | (with_reducible first | exact HB.out | apply below_alloc | apply pw_below_drewN | apply below_drew1) | exact HB.out)) hb); clear HO_5; clear HB; have HO_5 := n0_; have HO214 := n1_; have HB := n2_; clear n0_ n1_ n2_; (try clear hb); (try clear hb2); (try clear hk); (try clear hi); (try clear ho0))); go_upto_region 19 with (first | (go_at_call 18; (with_reducible refine (soft_Mix.calls k3 _ _ t201 _ _ l1 t211 t212 _ ?side1 ?side2 ?side3 ?side4 A33.out).mono ?_); (case side1 => repeat (first | exact (Kd.R_reads' HO_5.out).2.2 | (with_reducible refine Kd.C_alloc ?_ _) | (with_reducible refine Kd.C_drewN ?_ _) | (with_reducible refine Kd.C_drew ?_))); (case side2 => exact (Kd.R_reads' HO_5.out).2.1); (case side3 => repeat (first | exact (Kd.C_below HR1.out HB.out) | (with_reducible refine Kd.C_alloc ?_ _) | (with_reducible refine Kd.C_drewN ?_ _) | (with_reducible refine Kd.C_drew ?_))); (case side4 => exact HC1.out); rintro e w36 ⟨v213, rfl, ho0, hb⟩; have n0_ := Aside0.mk (Kd.R_below (by (with_reducible repeat (first | apply Kd.R_alloc | apply Kd.R_drewN | apply Kd.R_drew)); exact HO_5.out) hb); have n1_ := Aside0.mk (Kd.R_lower ho0 (below_size (by repeat (first | (with_reducible first | exact HB.out | apply below_alloc | apply pw_below_drewN | apply below_drew1) | exact HB.out)))); have n2_ := Aside0.mk (below_step (by repeat (first | (with_reducible first | exact HB.out | apply below_alloc | apply pw_below_drewN | apply below_drew1) | exact HB.out)) hb); clear HO_5; clear HB; have HO_5 := n0_; have HO214 := n1_; have HB := n2_; clear n0_ n1_ n2_; (try clear hb); (try clear hb2); (try clear hk); (try clear hi); (try clear ho0))))
                    (try simp only [Act.put, List.setIfInBounds_toArray, List.set_cons_zero, List.set_cons_succ])
                    go_cut [99] (fun v99 wc => ∃ (kq : Nat) (x99_33 : Bool), v99 = .bool x99_33 ∧ Aside0 (credenzalaw04_SoftBetween.j5 kq l1 t211 x99_33 = some r) ∧ Aside0 (kq ≤ k3) ∧ Aside0 (Kd.R (Kd.int .i32) 21 wc w.heap.size (fun _ => True) v213 t211) ∧ Aside0 (Below w.heap.size w wc))
                    case first =>
                      have H := HC34.out
                      clear HC34
                      by_cases c37 : t212 = 0
                      · rw [if_pos c37] at H
                        have c37b0 : (t212 == 0) = true := beq_iff_eq.mpr c37
                        have c37b1 : (t212 != 0) = false := bne_eq_false_iff_eq.mpr c37
                        clear c37
                        (first | rw [c37b0] | (simp only [i64_w, i32_w]; rw [c37b0]) | skip)
                        by_cases c38 : 0 < (l1.length : Int)
                        · rw [if_pos c38] at H
                          have c38b0 : decide (0 < (l1.length : Int)) = true := decide_eq_true c38
                          have c38b1 : decide (0 < l1.length) = true := decide_eq_true (by omega)
                          clear c38
                          have H' := Aside0.mk H
                          clear H
                          obtain ⟨Ao39, co39, eo39⟩ := Kd.R_slice HO214.out
                          subst eo39
                          have p215 : 0 ≤ (0 : Int) := (by omega)
                          have q215 : 0 < (l1.length : Int) := of_decide_eq_true (by first | (with_reducible assumption) | assumption)
                          obtain ⟨ad215, A215_0, c215_0, e215, hx215_0, hl215_0, hi215_0⟩ := at_L2 HR1.out 0 p215 q215
                          cases e215
                          have qi215 : (0 < l1.length) = True := eq_true (by omega)
                          (try rw [show ((0 : Int)).toNat = 0 from rfl] at hx215_0)
                          (try rw [Addr.add_zero'] at hx215_0)
                          replace hx215_0 := (HB.out.cell (World.block_lt_of_cell? w _ hx215_0)).trans hx215_0
                          have HR215_0 := Aside0.mk hi215_0
                          have HC215_0 := Aside0.mk hl215_0
                          clear hi215_0 hl215_0
                          replace p215 := eq_true p215
                          replace q215 := eq_true q215
                          go_wp2
                          repeat (go_quiet (fail); try go_wp2)
                          go_meet
                          case rel => exact ⟨_, (((t211.length : Int) != ((rd_L2 l1 0).length : Int))), (by first | rfl | (simp; done) | (simp [*]; done)), H', ⟨by have := HJ2.out; have := HJ9.out; have := HK3.out; first | omega | exact Nat.le_refl _⟩, ⟨by (with_reducible repeat (first | apply Kd.R_alloc | apply Kd.R_drewN | apply Kd.R_drew)); exact HO214.out⟩, ⟨by repeat (first | (with_reducible first | exact HB.out | apply below_alloc | apply pw_below_drewN | apply below_drew1) | exact HB.out)⟩⟩
                        · rw [if_neg c38] at H
                          exact absurd H (by simp)
                      · rw [if_neg c37] at H
                        have c37b0 : (t212 == 0) = false := beq_eq_false_iff_ne.mpr c37
                        have c37b1 : (t212 != 0) = true := bne_iff_ne.mpr c37
                        (first | rw [c37b0] | (simp only [i64_w, i32_w]; rw [c37b0]) | skip)
                        have H' := Aside0.mk H
                        clear H
                        go_wp2
                        repeat (go_quiet (fail); try go_wp2)
                        go_meet
                        case rel => exact ⟨_, (true), (by first | rfl | (simp; done) | (simp [*]; done)), H', ⟨by have := HJ2.out; have := HJ9.out; have := HK3.out; first | omega | exact Nat.le_refl _⟩, ⟨by (with_reducible repeat (first | apply Kd.R_alloc | apply Kd.R_drewN | apply Kd.R_drew)); exact HO214.out⟩, ⟨by repeat (first | (with_reducible first | exact HB.out | apply below_alloc | apply pw_below_drewN | apply below_drew1) | exact HB.out)⟩⟩
                    case rest =>
                      clear HC34
                      try clear c1
                      try clear c2
                      try clear p2
                      try clear q2
                      try clear hx2
                      try clear qi2
                      try clear c3
                      try clear c4
                      try clear c4b0
                      try clear c4b1
                      try clear c4b2
                      try clear c5
                      try clear c5b0
                      try clear c5b1
                      try clear c6
                      try clear p6
                      try clear c12
                      try clear c12b0
                      try clear c12b1
                      try clear c14
                      try clear c15
                      try clear c15b0
                      try clear c16
                      try clear c16b0
                      try clear c17
                      try clear c17b0
                      try clear c19
                      try clear c19b0
                      try clear c19b1
                      try clear c20
                      try clear c20b0
                      try clear c20b1
                      try clear p20
                      try clear q20
                      try clear hx20
                      try clear qi20
                      try clear c21
                      try clear p21
                      try clear q21
                      try clear hx21
                      try clear qi21
                      try clear c24
                      try clear c24b0
                      try clear c25
                      try clear c25b0
                      try clear c26
                      try clear c26b0
                      try clear c27
                      try clear c27b0
                      try clear c30
                      try clear c30b0
                      try clear c37
                      try clear c37b0
                      try clear c37b1
                      try clear c38
                      try clear c38b0
                      try clear c38b1
                      try clear hx205_0
                      try clear hx206_0
                      try clear hx208_0
                      try clear hx215_0
                      try clear p2
                      try clear p20
                      try clear p205
                      try clear p206
                      try clear p208
                      try clear p215
                      try clear q2
                      try clear q20
                      try clear q205
                      try clear q206
                      try clear q208
                      try clear q215
                      obtain ⟨kq, x99_33, rfl, HA, HJ33, HO_11, HB⟩ := hcut
                      cases kq with
                      | zero => exact absurd HA.out (by simp [credenzalaw04_SoftBetween.j5])
                      | succ kj33 =>
                        have H := HA.out
                        clear HA
                        simp only [credenzalaw04_SoftBetween.j5] at H
                        by_cases c40 : x99_33 = true
                        · subst c40
                          have H1 : (some false) = some r := by rw [if_pos rfl] at H; exact H
                          clear H
                          have H := H1
                          clear H1
                          exact absurd (H.trans (congrArg some HRT.out)) (by simp)
                        · replace c40 := Bool.eq_false_iff.mpr c40
                          subst c40
                          have H1 : (credenzalaw04_SoftBetween.l2 kj33 l1 t211 (t211.length : Int) 0) = some r := by rw [if_neg (show ¬ (false = true) by decide)] at H; exact H
                          clear H
                          have H := H1
                          clear H1
                          have H' := Aside0.mk H
                          clear H
                          obtain ⟨Ao41, co41, eo41⟩ := Kd.R_slice HO_11.out
                          subst eo41
                          go_wp2
                          repeat (go_quiet (fail); try go_wp2)
                          go_loopg [102] kj33 (fun kq v102 w' => ∃ (x102_5 : Int), v102 = .int .i64 x102_5 ∧ Aside0 (credenzalaw04_SoftBetween.l2 kq l1 t211 (t211.length : Int) x102_5 = some r) ∧ Aside0 (kq ≤ kj33) ∧ Aside0 (Kd.R (Kd.int .i32) 21 w' w.heap.size (fun _ => True) (.slice Ao41 t211.length co41) t211) ∧ Aside0 (Below w.heap.size w w'))
                          case atStart => exact ⟨(0), (by first | rfl | (simp; done) | (simp [*]; done)), H', ⟨Nat.le_refl _⟩, ⟨by (with_reducible repeat (first | apply Kd.R_alloc | apply Kd.R_drewN | apply Kd.R_drew)); exact HO_11.out⟩, ⟨by repeat (first | (with_reducible first | exact HB.out | apply below_alloc | apply pw_below_drewN | apply below_drew1) | exact HB.out)⟩⟩
                          case round =>
                            clear H'
                            try clear c1
                            try clear c2
                            try clear p2
                            try clear q2
                            try clear hx2
                            try clear qi2
                            try clear c3
                            try clear c4
                            try clear c4b0
                            try clear c4b1
                            try clear c4b2
                            try clear c5
                            try clear c5b0
                            try clear c5b1
                            try clear c6
                            try clear p6
                            try clear c12
                            try clear c12b0
                            try clear c12b1
                            try clear c14
                            try clear c15
                            try clear c15b0
                            try clear c16
                            try clear c16b0
                            try clear c17
                            try clear c17b0
                            try clear c19
                            try clear c19b0
                            try clear c19b1
                            try clear c20
                            try clear c20b0
                            try clear c20b1
                            try clear p20
                            try clear q20
                            try clear hx20
                            try clear qi20
                            try clear c21
                            try clear p21
                            try clear q21
                            try clear hx21
                            try clear qi21
                            try clear c24
                            try clear c24b0
                            try clear c25
                            try clear c25b0
                            try clear c26
                            try clear c26b0
                            try clear c27
                            try clear c27b0
                            try clear c30
                            try clear c30b0
                            try clear c37
                            try clear c37b0
                            try clear c37b1
                            try clear c38
                            try clear c38b0
                            try clear c38b1
                            try clear c40
                            try clear hx205_0
                            try clear hx206_0
                            try clear hx208_0
                            try clear hx215_0
                            try clear p2
                            try clear p20
                            try clear p205
                            try clear p206
                            try clear p208
                            try clear p21
                            try clear p215
                            try clear p6
                            try clear q2
                            try clear q20
                            try clear q205
                            try clear q206
                            try clear q208
                            try clear q21
                            try clear q215
                            obtain ⟨x102_5, rfl, HA, HK5, HO_100, HB⟩ := hrel
                            cases gk with
                            | zero => exact absurd HA.out (by simp [credenzalaw04_SoftBetween.l2])
                            | succ k5 =>
                              have H := HA.out
                              clear HA
                              simp only [credenzalaw04_SoftBetween.l2] at H
                              by_cases c42 : x102_5 < (t211.length : Int)
                              · rw [if_pos c42] at H
                                have c42b0 : decide (x102_5 < (t211.length : Int)) = true := decide_eq_true c42
                                clear c42
                                by_cases c43 : 0 ≤ x102_5
                                · rw [if_pos c43] at H
                                  have c43b0 : decide (0 ≤ x102_5) = true := decide_eq_true c43
                                  clear c43
                                  by_cases c44 : x102_5 < (t211.length : Int)
                                  · rw [if_pos c44] at H
                                    have c44b0 : decide (x102_5 < (t211.length : Int)) = true := decide_eq_true c44
                                    clear c44
                                    by_cases c45 : 0 < (l1.length : Int)
                                    · rw [if_pos c45] at H
                                      have c45b0 : decide (0 < (l1.length : Int)) = true := decide_eq_true c45
                                      have c45b1 : decide (0 < l1.length) = true := decide_eq_true (by omega)
                                      clear c45
                                      by_cases c46 : x102_5 < ((rd_L2 l1 0).length : Int)
                                      · rw [if_pos c46] at H
                                        have c46b0 : decide (x102_5 < ((rd_L2 l1 0).length : Int)) = true := decide_eq_true c46
                                        clear c46
                                        have H' := Aside0.mk H
                                        clear H
                                        have p217 : 0 ≤ (x102_5 : Int) := of_decide_eq_true (by first | (with_reducible assumption) | assumption)
                                        have q217 : x102_5 < (t211.length : Int) := of_decide_eq_true (by first | (with_reducible assumption) | assumption)
                                        obtain ⟨ad217, e217, hx217_0⟩ := Kd.at_int (Kd.R_reads' HO_100.out).2.2 x102_5 p217 q217
                                        cases e217
                                        replace p217 := eq_true p217
                                        replace q217 := eq_true q217
                                        have p218 : 0 ≤ (0 : Int) := (by omega)
                                        have q218 : 0 < (l1.length : Int) := of_decide_eq_true (by first | (with_reducible assumption) | assumption)
                                        obtain ⟨ad218, A218_0, c218_0, e218, hx218_0, hl218_0, hi218_0⟩ := at_L2 HR1.out 0 p218 q218
                                        cases e218
                                        have qi218 : (0 < l1.length) = True := eq_true (by omega)
                                        (try rw [show ((0 : Int)).toNat = 0 from rfl] at hx218_0)
                                        (try rw [Addr.add_zero'] at hx218_0)
                                        replace hx218_0 := (HB.out.cell (World.block_lt_of_cell? w _ hx218_0)).trans hx218_0
                                        have HR218_0 := Aside0.mk hi218_0
                                        have HC218_0 := Aside0.mk hl218_0
                                        clear hi218_0 hl218_0
                                        replace p218 := eq_true p218
                                        replace q218 := eq_true q218
                                        have p219 : 0 ≤ (x102_5 : Int) := of_decide_eq_true (by first | (with_reducible assumption) | assumption)
                                        have q219 : x102_5 < ((rd_L2 l1 0).length : Int) := of_decide_eq_true (by first | (with_reducible assumption) | assumption)
                                        obtain ⟨ad219, e219, hx219_0⟩ := Kd.at_int HR218_0.out x102_5 p219 q219
                                        cases e219
                                        replace hx219_0 := (HB.out.cell (World.block_lt_of_cell? w _ hx219_0)).trans hx219_0
                                        replace p219 := eq_true p219
                                        replace q219 := eq_true q219
                                        have p220 : 0 ≤ (0 : Int) := (by omega)
                                        have q220 : 0 < (l1.length : Int) := of_decide_eq_true (by first | (with_reducible assumption) | assumption)
                                        obtain ⟨ad220, A220_0, c220_0, e220, hx220_0, hl220_0, hi220_0⟩ := at_L2 HR1.out 0 p220 q220
                                        obtain rfl : ad218 = ad220 := (by injection e220)
                                        have qi220 : (0 < l1.length) = True := eq_true (by omega)
                                        (try rw [show ((0 : Int)).toNat = 0 from rfl] at hx220_0)
                                        (try rw [Addr.add_zero'] at hx220_0)
                                        replace hx220_0 := (HB.out.cell (World.block_lt_of_cell? w _ hx220_0)).trans hx220_0
                                        have HR220_0 := Aside0.mk hi220_0
                                        have HC220_0 := Aside0.mk hl220_0
                                        clear hi220_0 hl220_0
                                        replace p220 := eq_true p220
                                        replace q220 := eq_true q220
                                        have ea_ := Option.some.inj (hx218_0.symm.trans hx220_0)
                                        injection ea_ with ea_ en_ ec_
                                        subst ea_
                                        subst ec_
                                        clear en_
                                        have p221 : 0 ≤ (x102_5 : Int) := of_decide_eq_true (by first | (with_reducible assumption) | assumption)
                                        have q221 : x102_5 < ((rd_L2 l1 0).length : Int) := of_decide_eq_true (by first | (with_reducible assumption) | assumption)
                                        obtain ⟨ad221, e221, hx221_0⟩ := Kd.at_int HR220_0.out x102_5 p221 q221
                                        cases e221
                                        replace hx221_0 := (HB.out.cell (World.block_lt_of_cell? w _ hx221_0)).trans hx221_0
                                        replace p221 := eq_true p221
                                        replace q221 := eq_true q221
                                        go_wp2
                                        repeat (go_quiet (fail); try go_wp2)
                                        go_loopg [15, 16, 121] k5 (fun kq v15 v16 v121 w' => ∃ (x15_6 : Int) (x16_6 : Int) (x121_6 : Int), v15 = .int .i32 x15_6 ∧ v16 = .int .i32 x16_6 ∧ v121 = .int .i64 x121_6 ∧ Aside0 (credenzalaw04_SoftBetween.l3 kq l1 x102_5 (rd t211 x102_5) x15_6 x16_6 t211 (t211.length : Int) x102_5 l1 (l1.length : Int) x121_6 = some r) ∧ Aside0 (kq ≤ k5) ∧ Aside0 (Kd.R (Kd.int .i32) 21 w' w.heap.size (fun _ => True) (.slice (some ad217) t211.length co41) t211) ∧ Aside0 (Below w.heap.size w w'))
                                        case atStart => exact ⟨(rd (rd_L2 l1 0) x102_5), (rd (rd_L2 l1 0) x102_5), (0), (by first | rfl | (simp; done) | (simp [*]; done)), (by first | rfl | (simp; done) | (simp [*]; done)), (by first | rfl | (simp; done) | (simp [*]; done)), H', ⟨Nat.le_refl _⟩, ⟨by (with_reducible repeat (first | apply Kd.R_alloc | apply Kd.R_drewN | apply Kd.R_drew)); exact HO_100.out⟩, ⟨by repeat (first | (with_reducible first | exact HB.out | apply below_alloc | apply pw_below_drewN | apply below_drew1) | exact HB.out)⟩⟩
                                        case round =>
                                          clear H'
                                          try clear c1
                                          try clear c2
                                          try clear p2
                                          try clear q2
                                          try clear hx2
                                          try clear qi2
                                          try clear c3
                                          try clear c4
                                          try clear c4b0
                                          try clear c4b1
                                          try clear c4b2
                                          try clear c5
                                          try clear c5b0
                                          try clear c5b1
                                          try clear c6
                                          try clear p6
                                          try clear c12
                                          try clear c12b0
                                          try clear c12b1
                                          try clear c14
                                          try clear c15
                                          try clear c15b0
                                          try clear c16
                                          try clear c16b0
                                          try clear c17
                                          try clear c17b0
                                          try clear c19
                                          try clear c19b0
                                          try clear c19b1
                                          try clear c20
                                          try clear c20b0
                                          try clear c20b1
                                          try clear p20
                                          try clear q20
                                          try clear hx20
                                          try clear qi20
                                          try clear c21
                                          try clear p21
                                          try clear q21
                                          try clear hx21
                                          try clear qi21
                                          try clear c22
                                          try clear p22
                                          try clear q22
                                          try clear hx22
                                          try clear qi22
                                          try clear c24
                                          try clear c24b0
                                          try clear c25
                                          try clear c25b0
                                          try clear c26
                                          try clear c26b0
                                          try clear c27
                                          try clear c27b0
                                          try clear c30
                                          try clear c30b0
                                          try clear c37
                                          try clear c37b0
                                          try clear c37b1
                                          try clear c38
                                          try clear c38b0
                                          try clear c38b1
                                          try clear c40
                                          try clear c42
                                          try clear c42b0
                                          try clear c43
                                          try clear c43b0
                                          try clear c44
                                          try clear c44b0
                                          try clear c45
                                          try clear c45b0
                                          try clear c45b1
                                          try clear c46
                                          try clear c46b0
                                          try clear hx205_0
                                          try clear hx206_0
                                          try clear hx208_0
                                          try clear hx215_0
                                          try clear hx217_0
                                          try clear hx218_0
                                          try clear hx219_0
                                          try clear hx220_0
                                          try clear hx221_0
                                          try clear p2
                                          try clear p20
                                          try clear p205
                                          try clear p206
                                          try clear p208
                                          try clear p21
                                          try clear p215
                                          try clear p217
                                          try clear p218
                                          try clear p219
                                          try clear p220
                                          try clear p221
                                          try clear p6
                                          try clear q2
                                          try clear q20
                                          try clear q205
                                          try clear q206
                                          try clear q208
                                          try clear q21
                                          try clear q215
                                          try clear q217
                                          try clear q218
                                          try clear q219
                                          try clear q220
                                          try clear q221
                                          obtain ⟨x15_6, x16_6, x121_6, rfl, rfl, rfl, HA, HK6, HO_100, HB⟩ := hrel
                                          cases gk with
                                          | zero => exact absurd HA.out (by simp [credenzalaw04_SoftBetween.l3])
                                          | succ k6 =>
                                            have H := HA.out
                                            clear HA
                                            simp only [credenzalaw04_SoftBetween.l3] at H
                                            by_cases c47 : x121_6 < (l1.length : Int)
                                            · rw [if_pos c47] at H
                                              have c47b0 : decide (x121_6 < (l1.length : Int)) = true := decide_eq_true c47
                                              clear c47
                                              by_cases c48 : 0 ≤ x121_6
                                              · rw [if_pos c48] at H
                                                have c48b0 : decide (0 ≤ x121_6) = true := decide_eq_true c48
                                                clear c48
                                                by_cases c49 : x121_6 < (l1.length : Int)
                                                · rw [if_pos c49] at H
                                                  have c49b0 : decide (x121_6 < (l1.length : Int)) = true := decide_eq_true c49
                                                  clear c49
                                                  by_cases c50 : 0 ≤ x102_5
                                                  · rw [if_pos c50] at H
                                                    have c50b0 : decide (0 ≤ x102_5) = true := decide_eq_true c50
                                                    clear c50
                                                    by_cases c51 : x102_5 < ((rd_L2 l1 x121_6).length : Int)
                                                    · rw [if_pos c51] at H
                                                      have c51b0 : decide (x102_5 < ((rd_L2 l1 x121_6).length : Int)) = true := decide_eq_true c51
                                                      clear c51
                                                      obtain ⟨ji52, hji52⟩ : ∃ j_ : Int, (mn x15_6 (rd (rd_L2 l1 x121_6) x102_5)) = j_ := ⟨_, rfl⟩
                                                      replace H : (credenzalaw04_SoftBetween.l3 k6 l1 x102_5 (rd t211 x102_5) ji52 (mx x16_6 (rd (rd_L2 l1 x121_6) x102_5)) t211 (t211.length : Int) x102_5 l1 (l1.length : Int) (wrap64 (x121_6 + 1))) = some r := by first | (rw [hji52] at H; exact H) | (simp only [hji52] at H ⊢; exact H)
                                                      have hji52_ : (if (rd (rd_L2 l1 x121_6) x102_5) < x15_6 then (rd (rd_L2 l1 x121_6) x102_5) else x15_6) = ji52 := hji52
                                                      obtain ⟨ji53, hji53⟩ : ∃ j_ : Int, (mx x16_6 (rd (rd_L2 l1 x121_6) x102_5)) = j_ := ⟨_, rfl⟩
                                                      replace H : (credenzalaw04_SoftBetween.l3 k6 l1 x102_5 (rd t211 x102_5) ji52 ji53 t211 (t211.length : Int) x102_5 l1 (l1.length : Int) (wrap64 (x121_6 + 1))) = some r := by first | (rw [hji53] at H; exact H) | (simp only [hji53] at H ⊢; exact H)
                                                      have hji53_ : (if x16_6 < (rd (rd_L2 l1 x121_6) x102_5) then (rd (rd_L2 l1 x121_6) x102_5) else x16_6) = ji53 := hji53
                                                      have H' := Aside0.mk H
                                                      clear H
                                                      have p222 : 0 ≤ (x121_6 : Int) := of_decide_eq_true (by first | (with_reducible assumption) | assumption)
                                                      have q222 : x121_6 < (l1.length : Int) := of_decide_eq_true (by first | (with_reducible assumption) | assumption)
                                                      obtain ⟨ad222, A222_0, c222_0, e222, hx222_0, hl222_0, hi222_0⟩ := at_L2 HR1.out x121_6 p222 q222
                                                      obtain rfl : ad218 = ad222 := (by injection e222)
                                                      replace hx222_0 := (HB.out.cell (World.block_lt_of_cell? w _ hx222_0)).trans hx222_0
                                                      have HR222_0 := Aside0.mk hi222_0
                                                      have HC222_0 := Aside0.mk hl222_0
                                                      clear hi222_0 hl222_0
                                                      replace p222 := eq_true p222
                                                      replace q222 := eq_true q222
                                                      have p223 : 0 ≤ (x102_5 : Int) := of_decide_eq_true (by first | (with_reducible assumption) | assumption)
                                                      have q223 : x102_5 < ((rd_L2 l1 x121_6).length : Int) := of_decide_eq_true (by first | (with_reducible assumption) | assumption)
                                                      obtain ⟨ad223, e223, hx223_0⟩ := Kd.at_int HR222_0.out x102_5 p223 q223
                                                      cases e223
                                                      replace hx223_0 := (HB.out.cell (World.block_lt_of_cell? w _ hx223_0)).trans hx223_0
                                                      replace p223 := eq_true p223
                                                      replace q223 := eq_true q223
                                                      have p224 : 0 ≤ (x102_5 : Int) := of_decide_eq_true (by first | (with_reducible assumption) | assumption)
                                                      have q224 : x102_5 < ((rd_L2 l1 x121_6).length : Int) := of_decide_eq_true (by first | (with_reducible assumption) | assumption)
                                                      obtain ⟨ad224, e224, hx224_0⟩ := Kd.at_int HR222_0.out x102_5 p224 q224
                                                      obtain rfl : ad223 = ad224 := (by injection e224)
                                                      replace hx224_0 := (HB.out.cell (World.block_lt_of_cell? w _ hx224_0)).trans hx224_0
                                                      replace p224 := eq_true p224
                                                      replace q224 := eq_true q224
                                                      go_wp2
                                                      repeat (go_quiet (fail); try go_wp2)
                                                      go_roundg k6
                                                      case measure => have := HJ2.out; have := HJ9.out; have := HK3.out; have := HJ33.out; have := HK5.out; have := HK6.out; omega
                                                      case rel => exact ⟨(ji52), (ji53), (wrap64 (x121_6 + 1)), (by first | rfl | (simp; done) | (simp only [← hji52] <;> (first | rfl | simp)) | (simp [*]; done)), (by first | rfl | (simp; done) | (simp only [← hji53] <;> (first | rfl | simp)) | (simp [*]; done)), (by first | rfl | (simp; done) | (simp [*]; done)), H', ⟨by have := HJ2.out; have := HJ9.out; have := HK3.out; have := HJ33.out; have := HK5.out; have := HK6.out; omega⟩, ⟨by (with_reducible repeat (first | apply Kd.R_alloc | apply Kd.R_drewN | apply Kd.R_drew)); exact HO_100.out⟩, ⟨by repeat (first | (with_reducible first | exact HB.out | apply below_alloc | apply pw_below_drewN | apply below_drew1) | exact HB.out)⟩⟩
                                                    · rw [if_neg c51] at H
                                                      exact absurd H (by simp)
                                                  · rw [if_neg c50] at H
                                                    exact absurd H (by simp)
                                                · rw [if_neg c49] at H
                                                  exact absurd H (by simp)
                                              · rw [if_neg c48] at H
                                                exact absurd H (by simp)
                                            · rw [if_neg c47] at H
                                              have c47b0 : decide (x121_6 < (l1.length : Int)) = false := decide_eq_false c47
                                              clear c47
                                              by_cases c54 : (rd t211 x102_5) < x15_6
                                              · rw [if_pos c54] at H
                                                have c54b0 : decide ((rd t211 x102_5) < x15_6) = true := decide_eq_true c54
                                                clear c54
                                                exact absurd (H.trans (congrArg some HRT.out)) (by simp)
                                              · rw [if_neg c54] at H
                                                have c54b0 : decide ((rd t211 x102_5) < x15_6) = false := decide_eq_false c54
                                                clear c54
                                                by_cases c55 : (rd t211 x102_5) > x16_6
                                                · rw [if_pos c55] at H
                                                  have c55b0 : decide (x16_6 < (rd t211 x102_5)) = true := decide_eq_true c55
                                                  clear c55
                                                  exact absurd (H.trans (congrArg some HRT.out)) (by simp)
                                                · rw [if_neg c55] at H
                                                  have c55b0 : decide (x16_6 < (rd t211 x102_5)) = false := decide_eq_false c55
                                                  clear c55
                                                  have H' := Aside0.mk H
                                                  clear H
                                                  go_wp2
                                                  repeat (go_quiet (fail); try go_wp2)
                                                  go_roundg k6
                                                  case measure => have := HJ2.out; have := HJ9.out; have := HK3.out; have := HJ33.out; have := HK5.out; have := HK6.out; omega
                                                  case rel => exact ⟨(wrap64 (x102_5 + 1)), (by first | rfl | (simp; done) | (simp [*]; done)), H', ⟨by have := HJ2.out; have := HJ9.out; have := HK3.out; have := HJ33.out; have := HK5.out; have := HK6.out; omega⟩, ⟨by (with_reducible repeat (first | apply Kd.R_alloc | apply Kd.R_drewN | apply Kd.R_drew)); exact HO_100.out⟩, ⟨by repeat (first | (with_reducible first | exact HB.out | apply below_alloc | apply pw_below_drewN | apply below_drew1) | exact HB.out)⟩⟩
                                      · rw [if_neg c46] at H
                                        exact absurd H (by simp)
                                    · rw [if_neg c45] at H
                                      exact absurd H (by simp)
                                  · rw [if_neg c44] at H
                                    exact absurd H (by simp)
                                · rw [if_neg c43] at H
                                  exact absurd H (by simp)
                              · rw [if_neg c42] at H
                                have c42b0 : decide (x102_5 < (t211.length : Int)) = false := decide_eq_false c42
                                clear c42
                                replace H := Option.bind_eq_some_iff.mp H
                                obtain ⟨t216, A560, H⟩ := H
                                replace H : (some t216) = some r := H
                                have A56 := Aside0.mk A560
                                clear A560
                                obtain rfl := Option.some.inj H
                                go_wp2_with (first | (go_at_call 15; (with_reducible refine (credenzalaw04_awake.calls k5  t216 _ A56.out).mono ?_); rintro e w57 ⟨rfl, hb⟩; have n0_ := Aside0.mk (Kd.R_below (by (with_reducible repeat (first | apply Kd.R_alloc | apply Kd.R_drewN | apply Kd.R_drew)); exact HO_100.out) hb); have n1_ := Aside0.mk (below_step (by repeat (first | (with_reducible first | exact HB.out | apply below_alloc | apply pw_below_drewN | apply below_drew1) | exact HB.out)) hb); clear HO_100; clear HB; have HO_100 := n0_; have HB := n1_; clear n0_ n1_; (try clear hb); (try clear hb2); (try clear hk); (try clear hi)))
                                repeat (go_quiet (first | (go_at_call 15; (with_reducible refine (credenzalaw04_awake.calls k5  t216 _ A56.out).mono ?_); rintro e w57 ⟨rfl, hb⟩; have n0_ := Aside0.mk (Kd.R_below (by (with_reducible repeat (first | apply Kd.R_alloc | apply Kd.R_drewN | apply Kd.R_drew)); exact HO_100.out) hb); have n1_ := Aside0.mk (below_step (by repeat (first | (with_reducible first | exact HB.out | apply below_alloc | apply pw_below_drewN | apply below_drew1) | exact HB.out)) hb); clear HO_100; clear HB; have HO_100 := n0_; have HB := n1_; clear n0_ n1_; (try clear hb); (try clear hb2); (try clear hk); (try clear hi))); try go_wp2_with (first | (go_at_call 15; (with_reducible refine (credenzalaw04_awake.calls k5  t216 _ A56.out).mono ?_); rintro e w57 ⟨rfl, hb⟩; have n0_ := Aside0.mk (Kd.R_below (by (with_reducible repeat (first | apply Kd.R_alloc | apply Kd.R_drewN | apply Kd.R_drew)); exact HO_100.out) hb); have n1_ := Aside0.mk (below_step (by repeat (first | (with_reducible first | exact HB.out | apply below_alloc | apply pw_below_drewN | apply below_drew1) | exact HB.out)) hb); clear HO_100; clear HB; have HO_100 := n0_; have HB := n1_; clear n0_ n1_; (try clear hb); (try clear hb2); (try clear hk); (try clear hi))))
                                go_ret
                                exact ⟨by first | rfl | (simp [errW_none, errW_some] <;> rfl) | (simp [*, errW_none, errW_some] <;> rfl), by repeat (first | (with_reducible first | exact HB.out | apply below_alloc | apply pw_below_drewN | apply below_drew1) | exact HB.out)⟩

end Go.Proofs.Ytmndomlpdajjmac.Sb
