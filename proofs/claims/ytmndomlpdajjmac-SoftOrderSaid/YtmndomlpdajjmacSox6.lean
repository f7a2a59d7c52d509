-- Ytmndomlpdajjmac: the machine side of the statements, written by a program of the session.
import Derived.Test.YtmndomlpdajjmacSox0
import Derived.Test.YtmndomlpdajjmacSox1
import Derived.Test.YtmndomlpdajjmacSox3
import Derived.Test.YtmndomlpdajjmacSox4
import Derived.Test.YtmndomlpdajjmacSox5
namespace Go.Proofs.Ytmndomlpdajjmac.So
open Go.RowKit Go.Proofs.YtmndomlpdajjmacW.PrintWords Go.Proofs.YtmndomlpdajjmacW.PrintLast Go.Proofs.YtmndomlpdajjmacW.PrintMore
attribute [local go_sem] max2_int min2_int max_two min_two max_three min_three max_four min_four   -- for this text's walks alone
set_option linter.unusedVariables false
set_option linter.unusedSimpArgs false

/-! ### credenzalaw04_SoftOrder: function 5 -/
mutual
def credenzalaw04_SoftOrder.j0 : Nat → List Int → List (List Int) → Bool → Option (Bool)
  | 0, _, _, _ => none
  | k + 1, x0, x1, x36 => if x36 = true then ((credenzalaw04_awake.f k).bind fun t234 => (some t234)) else ((soft_Weights.f k x0).bind fun bt235 => (if bt235.2 = 0 then (credenzalaw04_SoftOrder.j1 k x0 x1 bt235.1 ((bt235.1.length : Int) != (x0.length : Int))) else (credenzalaw04_SoftOrder.j1 k x0 x1 bt235.1 true)))
def credenzalaw04_SoftOrder.j1 : Nat → List Int → List (List Int) → List Int → Bool → Option (Bool)
  | 0, _, _, _, _ => none
  | k + 1, x0, x1, x5, x51 => if x51 = true then (some false) else (credenzalaw04_SoftOrder.l0 k x0 x1 x5 ([] : List Int) ([] : List (List Int)) (x0.length : Int) 0)
def credenzalaw04_SoftOrder.l0 : Nat → List Int → List (List Int) → List Int → List Int → List (List Int) → Int → Int → Option (Bool)
  | 0, _, _, _, _, _, _, _ => none
  | k + 1, x0, x1, x5, x7, x8, x53, x54 => if x54 < x53 then (if 0 ≤ (wrap64 ((wrap64 ((x0.length : Int) - 1)) - x54)) then (if (wrap64 ((wrap64 ((x0.length : Int) - 1)) - x54)) < (x5.length : Int) then ((some (([rd x5 (wrap64 ((wrap64 ((x0.length : Int) - 1)) - x54))] : List Int) : List Int)).bind fun y240 => (if x7.length + y240.length < 17592186044416 then ((some (x7 ++ y240 : List Int)).bind fun y243 => (if (wrap64 ((wrap64 ((x0.length : Int) - 1)) - x54)) < (x1.length : Int) then ((some (([rd_L2 x1 (wrap64 ((wrap64 ((x0.length : Int) - 1)) - x54))] : List (List Int)) : List (List Int))).bind fun y247 => (if x8.length + y247.length < 5864062014805 then ((some (x8 ++ y247 : List (List Int))).bind fun y250 => (if 0 ≤ x54 then (if x54 < (x0.length : Int) then (if 0 < (x0.length : Int) then (if (rd x0 x54) ≤ (rd x0 0) then (if x54 < (x5.length : Int) then (if 0 < (x5.length : Int) then (if (rd x5 x54) > (rd x5 0) then (some false) else (if (rd x0 x54) ≥ (rd x0 0) then (if (rd x5 x54) < (rd x5 0) then (some false) else (credenzalaw04_SoftOrder.l0 k x0 x1 x5 y243 y250 x53 (wrap64 (x54 + 1)))) else (credenzalaw04_SoftOrder.l0 k x0 x1 x5 y243 y250 x53 (wrap64 (x54 + 1))))) else (none)) else (none)) else (if (rd x0 x54) ≥ (rd x0 0) then (if x54 < (x5.length : Int) then (if 0 < (x5.length : Int) then (if (rd x5 x54) < (rd x5 0) then (some false) else (credenzalaw04_SoftOrder.l0 k x0 x1 x5 y243 y250 x53 (wrap64 (x54 + 1)))) else (none)) else (none)) else (credenzalaw04_SoftOrder.l0 k x0 x1 x5 y243 y250 x53 (wrap64 (x54 + 1))))) else (none)) else (none)) else (none))) else (none))) else (none))) else (none))) else (none)) else (none)) else ((soft_Mix.f k x5 x1).bind fun bt265 => ((soft_Mix.f k x7 x8).bind fun bt269 => (if bt265.2 = 0 then (if bt269.2 = 0 then ((credenzaref03_Same.f k bt265.1 bt269.1).bind fun t273 => (if t273 = true then ((credenzalaw04_awake.f k).bind fun t274 => (some t274)) else (some false))) else (some false)) else (some false))))
end
def credenzalaw04_SoftOrder.f (k : Nat) (l0 : List Int) (l1 : List (List Int)) : Option (Bool) := if (l0.length : Int) = 0 then (credenzalaw04_SoftOrder.j0 k l0 l1 true) else (if (l0.length : Int) > 40 then (credenzalaw04_SoftOrder.j0 k l0 l1 true) else (if (l1.length : Int) = (l0.length : Int) then ((credenzaref04_Weights.f k l0).bind fun t230 => ((credenzaref04_Right.f k t230 l1).bind fun t233 => (credenzalaw04_SoftOrder.j0 k l0 l1 (t233 != 0)))) else (credenzalaw04_SoftOrder.j0 k l0 l1 true)))
theorem credenzalaw04_SoftOrder.mono_l : ∀ k, (∀ y0 y1 y2, LeO (credenzalaw04_SoftOrder.j0 k y0 y1 y2) (credenzalaw04_SoftOrder.j0 (k + 1) y0 y1 y2)) ∧ (∀ y0 y1 y2 y3, LeO (credenzalaw04_SoftOrder.j1 k y0 y1 y2 y3) (credenzalaw04_SoftOrder.j1 (k + 1) y0 y1 y2 y3)) ∧ (∀ y0 y1 y2 y3 y4 y5 y6, LeO (credenzalaw04_SoftOrder.l0 k y0 y1 y2 y3 y4 y5 y6) (credenzalaw04_SoftOrder.l0 (k + 1) y0 y1 y2 y3 y4 y5 y6))
  | 0 => ⟨fun _ _ _ r h => by simp [credenzalaw04_SoftOrder.j0] at h, fun _ _ _ _ r h => by simp [credenzalaw04_SoftOrder.j1] at h, fun _ _ _ _ _ _ _ r h => by simp [credenzalaw04_SoftOrder.l0] at h⟩
  | k + 1 => by
    obtain ⟨ih0, ih1, ih2⟩ := credenzalaw04_SoftOrder.mono_l k
    refine ⟨?_, ?_, ?_⟩
    · intro y0 y1 y2
      unfold credenzalaw04_SoftOrder.j0
      repeat' first
      | (with_reducible exact ih0 _ _ _)
      | (with_reducible exact ih1 _ _ _ _)
      | (with_reducible exact ih2 _ _ _ _ _ _ _)
      | (with_reducible exact credenzalaw04_awake.mono _)
      | (with_reducible exact credenzaref03_Same.mono _ _ _)
      | (with_reducible exact credenzaref04_Right.mono _ _ _)
      | (with_reducible exact credenzaref04_Weights.mono _ _)
      | (with_reducible exact soft_Mix.mono _ _ _)
      | (with_reducible exact soft_Weights.mono _ _)
      | (with_reducible exact LeO.refl _)
      | (with_reducible exact LeO.none _)
      | (with_reducible refine LeO.ite ?_ ?_)
      | (with_reducible refine LeO.bind ?_ (fun _ => ?_))
      | exact ih0 _ _ _
      | exact ih1 _ _ _ _
      | exact ih2 _ _ _ _ _ _ _
      | exact credenzalaw04_awake.mono _
      | exact credenzaref03_Same.mono _ _ _
      | exact credenzaref04_Right.mono _ _ _
      | exact credenzaref04_Weights.mono _ _
      | exact soft_Mix.mono _ _ _
      | exact soft_Weights.mono _ _
      | exact LeO.none _
      | refine LeO.ite ?_ ?_
      | refine LeO.bind ?_ (fun _ => ?_)
    · intro y0 y1 y2 y3
      unfold credenzalaw04_SoftOrder.j1
      repeat' first
      | (with_reducible exact ih0 _ _ _)
      | (with_reducible exact ih1 _ _ _ _)
      | (with_reducible exact ih2 _ _ _ _ _ _ _)
      | (with_reducible exact credenzalaw04_awake.mono _)
      | (with_reducible exact credenzaref03_Same.mono _ _ _)
      | (with_reducible exact credenzaref04_Right.mono _ _ _)
      | (with_reducible exact credenzaref04_Weights.mono _ _)
      | (with_reducible exact soft_Mix.mono _ _ _)
      | (with_reducible exact soft_Weights.mono _ _)
      | (with_reducible exact LeO.refl _)
      | (with_reducible exact LeO.none _)
      | (with_reducible refine LeO.ite ?_ ?_)
      | (with_reducible refine LeO.bind ?_ (fun _ => ?_))
      | exact ih0 _ _ _
      | exact ih1 _ _ _ _
      | exact ih2 _ _ _ _ _ _ _
      | exact credenzalaw04_awake.mono _
      | exact credenzaref03_Same.mono _ _ _
      | exact credenzaref04_Right.mono _ _ _
      | exact credenzaref04_Weights.mono _ _
      | exact soft_Mix.mono _ _ _
      | exact soft_Weights.mono _ _
      | exact LeO.none _
      | refine LeO.ite ?_ ?_
      | refine LeO.bind ?_ (fun _ => ?_)
    · intro y0 y1 y2 y3 y4 y5 y6
      unfold credenzalaw04_SoftOrder.l0
      repeat' first
      | (with_reducible exact ih0 _ _ _)
      | (with_reducible exact ih1 _ _ _ _)
      | (with_reducible exact ih2 _ _ _ _ _ _ _)
      | (with_reducible exact credenzalaw04_awake.mono _)
      | (with_reducible exact credenzaref03_Same.mono _ _ _)
      | (with_reducible exact credenzaref04_Right.mono _ _ _)
      | (with_reducible exact credenzaref04_Weights.mono _ _)
      | (with_reducible exact soft_Mix.mono _ _ _)
      | (with_reducible exact soft_Weights.mono _ _)
      | (with_reducible exact LeO.refl _)
      | (with_reducible exact LeO.none _)
      | (with_reducible refine LeO.ite ?_ ?_)
      | (with_reducible refine LeO.bind ?_ (fun _ => ?_))
      | exact ih0 _ _ _
      | exact ih1 _ _ _ _
      | exact ih2 _ _ _ _ _ _ _
      | exact credenzalaw04_awake.mono _
      | exact credenzaref03_Same.mono _ _ _
      | exact credenzaref04_Right.mono _ _ _
      | exact credenzaref04_Weights.mono _ _
      | exact soft_Mix.mono _ _ _
      | exact soft_Weights.mono _ _
      | exact LeO.none _
      | refine LeO.ite ?_ ?_
      | refine LeO.bind ?_ (fun _ => ?_)
theorem credenzalaw04_SoftOrder.mono : ∀ a0 a1 k, LeO (credenzalaw04_SoftOrder.f k a0 a1) (credenzalaw04_SoftOrder.f (k + 1) a0 a1) := by
  intro a0 a1 k
  obtain ⟨ih0, ih1, ih2⟩ := credenzalaw04_SoftOrder.mono_l k
  unfold credenzalaw04_SoftOrder.f
  repeat' first
      | (with_reducible exact ih0 _ _ _)
      | (with_reducible exact ih1 _ _ _ _)
      | (with_reducible exact ih2 _ _ _ _ _ _ _)
      | (with_reducible exact credenzalaw04_awake.mono _)
      | (with_reducible exact credenzaref03_Same.mono _ _ _)
      | (with_reducible exact credenzaref04_Right.mono _ _ _)
      | (with_reducible exact credenzaref04_Weights.mono _ _)
      | (with_reducible exact soft_Mix.mono _ _ _)
      | (with_reducible exact soft_Weights.mono _ _)
      | (with_reducible exact LeO.refl _)
      | (with_reducible exact LeO.none _)
      | (with_reducible refine LeO.ite ?_ ?_)
      | (with_reducible refine LeO.bind ?_ (fun _ => ?_))
      | exact ih0 _ _ _
      | exact ih1 _ _ _ _
      | exact ih2 _ _ _ _ _ _ _
      | exact credenzalaw04_awake.mono _
      | exact credenzaref03_Same.mono _ _ _
      | exact credenzaref04_Right.mono _ _ _
      | exact credenzaref04_Weights.mono _ _
      | exact soft_Mix.mono _ _ _
      | exact soft_Weights.mono _ _
      | exact LeO.none _
      | refine LeO.ite ?_ ?_
      | refine LeO.bind ?_ (fun _ => ?_)
def credenzalaw04_SoftOrder.T12 : Bool × List (List Nat × List Nat) := (true, [([], []), ([], []), ([], []), ([1, 2], [1, 2]), ([3], [3]), ([4], [4]), ([0, 5], [0, 5]), ([], []), ([], []), ([], []), ([8, 9], [8, 9]), ([10], [10]), ([11], [11]), ([7, 12, 6], [7, 12]), ([6, 13, 0, 1, 2, 3, 4, 5, 6], [0, 6]), ([13, 14, 0, 1, 2, 3, 4, 5, 6, 7, 8, 9, 10, 11, 12, 13, 14], [7, 13])])
def credenzalaw04_SoftOrder.B12 : List Nat := [0, 0, 0, 6, 14, 30, 63, 0, 0, 0, 768, 1792, 3840, 8191, 16383, 32767]
theorem credenzalaw04_SoftOrder.tab12 : rtab .any (opsOf Try.f5 12) = credenzalaw04_SoftOrder.T12 := by kernel_rfl
theorem credenzalaw04_SoftOrder.bits12 : waitsOk credenzalaw04_SoftOrder.T12.2 credenzalaw04_SoftOrder.B12 = true := by kernel_rfl
def credenzalaw04_SoftOrder.T13 : Bool × List (List Nat × List Nat) := (true, [([], []), ([], []), ([0, 1], [0, 1]), ([2], [2]), ([], []), ([4], [4]), ([5], [5]), ([3, 6], [3, 6]), ([7], [7]), ([8], [8]), ([8], [8]), ([9, 10, 8], [8, 9, 10]), ([11, 8], [8, 11]), ([8], [8]), ([13, 8], [8, 13]), ([14, 8], [8, 14]), ([12, 15, 8], [8, 12, 15]), ([8, 16], [8, 16]), ([17, 8], [17]), ([18], [18]), ([18], [18]), ([19, 20, 18], [18, 19, 20]), ([21, 18], [18, 21]), ([18], [18]), ([23, 18], [18, 23]), ([24, 18], [18, 24]), ([22, 25, 18], [18, 22, 25]), ([26, 18, 18], [18, 26]), ([27], [27]), ([27], [27]), ([28, 29, 27], [27, 28, 29]), ([30, 27], [27, 30]), ([27], [27]), ([32, 27], [27, 32]), ([33, 27], [27, 33]), ([31, 34, 27], [27, 31, 34]), ([27, 35, 18], [18, 27, 35]), ([18, 36], [18, 36])])
def credenzalaw04_SoftOrder.B13 : List Nat := [0, 0, 3, 7, 0, 16, 48, 127, 255, 511, 511, 2047, 4095, 511, 8703, 25087, 65535, 131071, 262143, 524287, 524287, 2097151, 4194303, 524287, 8912895, 25690111, 67108863, 134217727, 268435455, 268435455, 1073741823, 2147483647, 268435455, 4563402751, 13153337343, 34359738367, 68719476735, 137438953471]
theorem credenzalaw04_SoftOrder.tab13 : rtab .any (opsOf Try.f5 13) = credenzalaw04_SoftOrder.T13 := by kernel_rfl
theorem credenzalaw04_SoftOrder.bits13 : waitsOk credenzalaw04_SoftOrder.T13.2 credenzalaw04_SoftOrder.B13 = true := by kernel_rfl
section
variable {α : Type} {d : Kd α} {e : Nat} {w : World} {base : Nat} {ok : Nat → Prop} {v : Value} {xs : List α}
theorem rA (h : d.R e w base ok v xs) (o : Obj) : d.R e (w.alloc o) base ok v xs := Kd.R_alloc h o
theorem rD (h : d.R e w base ok v xs) : d.R e w.drew base ok v xs := Kd.R_drew h
theorem rN (h : d.R e w base ok v xs) (m : Nat) : d.R e (w.drewN m) base ok v xs := Kd.R_drewN h m
end
end Go.Proofs.Ytmndomlpdajjmac.So
