-- Ytmndomlpdajjmac: the machine side of the statements, written by a program of the session.
import Derived.Test.YtmndomlpdajjmacNox0
import Derived.Test.YtmndomlpdajjmacNox2
import Derived.Test.YtmndomlpdajjmacNox3
namespace Go.Proofs.Ytmndomlpdajjmac.No
open Go.RowKit Go.Proofs.YtmndomlpdajjmacW.PrintWords Go.Proofs.YtmndomlpdajjmacW.PrintLast Go.Proofs.YtmndomlpdajjmacW.PrintMore
attribute [local go_sem] max2_int min2_int max_two min_two max_three min_three max_four min_four   -- for this text's walks alone
set_option linter.unusedVariables false
set_option linter.unusedSimpArgs false

/-! ### credenzalaw15_NormOdd: function 8 -/
mutual
def credenzalaw15_NormOdd.j0 : Nat → List Int → List Int → Bool → Option (Bool)
  | 0, _, _, _ => none
  | k + 1, x0, x1, x31 => if x31 = true then ((credenzalaw15_awake.f k).bind fun t204 => (some t204)) else (credenzalaw15_NormOdd.l0 k x0 x1 ([] : List Int) ([] : List Int) ([] : List Int) (x0.length : Int) 0)
def credenzalaw15_NormOdd.l0 : Nat → List Int → List Int → List Int → List Int → List Int → Int → Int → Option (Bool)
  | 0, _, _, _, _, _, _, _ => none
  | k + 1, x0, x1, x5, x6, x7, x34, x35 => if x35 < x34 then (if 0 ≤ x35 then (if x35 < (x0.length : Int) then (if (rd x0 x35) = (-2147483648) then ((credenzalaw15_awake.f k).bind fun t206 => (some t206)) else ((some (([wrap32 (-(rd x0 x35))] : List Int) : List Int)).bind fun y208 => (if x5.length + y208.length < 35184372088832 then (if 0 ≤ (wrap64 ((wrap64 ((x0.length : Int) - 1)) - x35)) then (if (wrap64 ((wrap64 ((x0.length : Int) - 1)) - x35)) < (x0.length : Int) then ((some (([rd x0 (wrap64 ((wrap64 ((x0.length : Int) - 1)) - x35))] : List Int) : List Int)).bind fun y215 => (if x6.length + y215.length < 35184372088832 then (if (wrap64 ((wrap64 ((x0.length : Int) - 1)) - x35)) < (x1.length : Int) then ((some (([rd x1 (wrap64 ((wrap64 ((x0.length : Int) - 1)) - x35))] : List Int) : List Int)).bind fun y222 => (if x7.length + y222.length < 35184372088832 then (credenzalaw15_NormOdd.l0 k x0 x1 (x5 ++ y208) (x6 ++ y215) (x7 ++ y222) x34 (wrap64 (x35 + 1))) else (none))) else (none)) else (none))) else (none)) else (none)) else (none)))) else (none)) else (none)) else ((norm_Even.f k x0 x1).bind fun bt228 => ((norm_Even.f k x5 x1).bind fun bt232 => ((norm_Even.f k x6 x7).bind fun bt236 => (if bt228.2 = 0 then (if bt232.2 = 0 then (if bt236.2 = 0 then (if (bt228.1.length : Int) = (x0.length : Int) then (if (bt232.1.length : Int) = (x0.length : Int) then (if (bt236.1.length : Int) = (x0.length : Int) then ((norm_Square.f k x0).bind fun t240 => ((norm_Square.f k x6).bind fun t241 => (credenzalaw15_NormOdd.j2 k x0 bt228.1 bt232.1 bt236.1 (t240 != t241)))) else (credenzalaw15_NormOdd.j2 k x0 bt228.1 bt232.1 bt236.1 true)) else (credenzalaw15_NormOdd.j2 k x0 bt228.1 bt232.1 bt236.1 true)) else (credenzalaw15_NormOdd.j2 k x0 bt228.1 bt232.1 bt236.1 true)) else (credenzalaw15_NormOdd.j2 k x0 bt228.1 bt232.1 bt236.1 true)) else (credenzalaw15_NormOdd.j2 k x0 bt228.1 bt232.1 bt236.1 true)) else (credenzalaw15_NormOdd.j2 k x0 bt228.1 bt232.1 bt236.1 true)))))
def credenzalaw15_NormOdd.j2 : Nat → List Int → List Int → List Int → List Int → Bool → Option (Bool)
  | 0, _, _, _, _, _ => none
  | k + 1, x0, x10, x12, x14, x127 => if x127 = true then (some false) else (credenzalaw15_NormOdd.l1 k x0 x10 x12 x14 (x10.length : Int) 0)
def credenzalaw15_NormOdd.l1 : Nat → List Int → List Int → List Int → List Int → Int → Int → Option (Bool)
  | 0, _, _, _, _, _, _ => none
  | k + 1, x0, x10, x12, x14, x129, x130 => if x130 < x129 then (if 0 ≤ x130 then (if x130 < (x12.length : Int) then (if x130 < (x10.length : Int) then (if (rd x12 x130) = (wrap32 (-(rd x10 x130))) then (if 0 ≤ (wrap64 ((wrap64 ((x0.length : Int) - 1)) - x130)) then (if (wrap64 ((wrap64 ((x0.length : Int) - 1)) - x130)) < (x14.length : Int) then (if (rd x14 (wrap64 ((wrap64 ((x0.length : Int) - 1)) - x130))) = (rd x10 x130) then (credenzalaw15_NormOdd.l1 k x0 x10 x12 x14 x129 (wrap64 (x130 + 1))) else (some false)) else (none)) else (none)) else (some false)) else (none)) else (none)) else (none)) else ((credenzalaw15_awake.f k).bind fun t246 => (some t246))
end
def credenzalaw15_NormOdd.f (k : Nat) (l0 : List Int) (l1 : List Int) : Option (Bool) := if (l0.length : Int) = 0 then (credenzalaw15_NormOdd.j0 k l0 l1 true) else (if (l0.length : Int) > 200 then (credenzalaw15_NormOdd.j0 k l0 l1 true) else (credenzalaw15_NormOdd.j0 k l0 l1 ((l1.length : Int) != (l0.length : Int))))
theorem credenzalaw15_NormOdd.mono_l : ∀ k, (∀ y0 y1 y2, LeO (credenzalaw15_NormOdd.j0 k y0 y1 y2) (credenzalaw15_NormOdd.j0 (k + 1) y0 y1 y2)) ∧ (∀ y0 y1 y2 y3 y4 y5 y6, LeO (credenzalaw15_NormOdd.l0 k y0 y1 y2 y3 y4 y5 y6) (credenzalaw15_NormOdd.l0 (k + 1) y0 y1 y2 y3 y4 y5 y6)) ∧ (∀ y0 y1 y2 y3 y4, LeO (credenzalaw15_NormOdd.j2 k y0 y1 y2 y3 y4) (credenzalaw15_NormOdd.j2 (k + 1) y0 y1 y2 y3 y4)) ∧ (∀ y0 y1 y2 y3 y4 y5, LeO (credenzalaw15_NormOdd.l1 k y0 y1 y2 y3 y4 y5) (credenzalaw15_NormOdd.l1 (k + 1) y0 y1 y2 y3 y4 y5))
  | 0 => ⟨fun _ _ _ r h => by simp [credenzalaw15_NormOdd.j0] at h, fun _ _ _ _ _ _ _ r h => by simp [credenzalaw15_NormOdd.l0] at h, fun _ _ _ _ _ r h => by simp [credenzalaw15_NormOdd.j2] at h, fun _ _ _ _ _ _ r h => by simp [credenzalaw15_NormOdd.l1] at h⟩
  | k + 1 => by
    obtain ⟨ih0, ih1, ih2, ih3⟩ := credenzalaw15_NormOdd.mono_l k
    refine ⟨?_, ?_, ?_, ?_⟩
    · intro y0 y1 y2
      unfold credenzalaw15_NormOdd.j0
      repeat' first
      | (with_reducible exact ih0 _ _ _)
      | (with_reducible exact ih1 _ _ _ _ _ _ _)
      | (with_reducible exact ih2 _ _ _ _ _)
      | (with_reducible exact ih3 _ _ _ _ _ _)
      | (with_reducible exact credenzalaw15_awake.mono _)
      | (with_reducible exact norm_Even.mono _ _ _)
      | (with_reducible exact norm_Square.mono _ _)
      | (with_reducible exact LeO.refl _)
      | (with_reducible exact LeO.none _)
      | (with_reducible refine LeO.ite ?_ ?_)
      | (with_reducible refine LeO.bind ?_ (fun _ => ?_))
      | exact ih0 _ _ _
      | exact ih1 _ _ _ _ _ _ _
      | exact ih2 _ _ _ _ _
      | exact ih3 _ _ _ _ _ _
      | exact credenzalaw15_awake.mono _
      | exact norm_Even.mono _ _ _
      | exact norm_Square.mono _ _
      | exact LeO.none _
      | refine LeO.ite ?_ ?_
      | refine LeO.bind ?_ (fun _ => ?_)
    · intro y0 y1 y2 y3 y4 y5 y6
      unfold credenzalaw15_NormOdd.l0
      repeat' first
      | (with_reducible exact ih0 _ _ _)
      | (with_reducible exact ih1 _ _ _ _ _ _ _)
      | (with_reducible exact ih2 _ _ _ _ _)
      | (with_reducible exact ih3 _ _ _ _ _ _)
      | (with_reducible exact credenzalaw15_awake.mono _)
      | (with_reducible exact norm_Even.mono _ _ _)
      | (with_reducible exact norm_Square.mono _ _)
      | (with_reducible exact LeO.refl _)
      | (with_reducible exact LeO.none _)
      | (with_reducible refine LeO.ite ?_ ?_)
      | (with_reducible refine LeO.bind ?_ (fun _ => ?_))
      | exact ih0 _ _ _
      | exact ih1 _ _ _ _ _ _ _
      | exact ih2 _ _ _ _ _
      | exact ih3 _ _ _ _ _ _
      | exact credenzalaw15_awake.mono _
      | exact norm_Even.mono _ _ _
      | exact norm_Square.mono _ _
      | exact LeO.none _
      | refine LeO.ite ?_ ?_
      | refine LeO.bind ?_ (fun _ => ?_)
    · intro y0 y1 y2 y3 y4
      unfold credenzalaw15_NormOdd.j2
      repeat' first
      | (with_reducible exact ih0 _ _ _)
      | (with_reducible exact ih1 _ _ _ _ _ _ _)
      | (with_reducible exact ih2 _ _ _ _ _)
      | (with_reducible exact ih3 _ _ _ _ _ _)
      | (with_reducible exact credenzalaw15_awake.mono _)
      | (with_reducible exact norm_Even.mono _ _ _)
      | (with_reducible exact norm_Square.mono _ _)
      | (with_reducible exact LeO.refl _)
      | (with_reducible exact LeO.none _)
      | (with_reducible refine LeO.ite ?_ ?_)
      | (with_reducible refine LeO.bind ?_ (fun _ => ?_))
      | exact ih0 _ _ _
      | exact ih1 _ _ _ _ _ _ _
      | exact ih2 _ _ _ _ _
      | exact ih3 _ _ _ _ _ _
      | exact credenzalaw15_awake.mono _
      | exact norm_Even.mono _ _ _
      | exact norm_Square.mono _ _
      | exact LeO.none _
      | refine LeO.ite ?_ ?_
      | refine LeO.bind ?_ (fun _ => ?_)
    · intro y0 y1 y2 y3 y4 y5
      unfold credenzalaw15_NormOdd.l1
      repeat' first
      | (with_reducible exact ih0 _ _ _)
      | (with_reducible exact ih1 _ _ _ _ _ _ _)
      | (with_reducible exact ih2 _ _ _ _ _)
      | (with_reducible exact ih3 _ _ _ _ _ _)
      | (with_reducible exact credenzalaw15_awake.mono _)
      | (with_reducible exact norm_Even.mono _ _ _)
      | (with_reducible exact norm_Square.mono _ _)
      | (with_reducible exact LeO.refl _)
      | (with_reducible exact LeO.none _)
      | (with_reducible refine LeO.ite ?_ ?_)
      | (with_reducible refine LeO.bind ?_ (fun _ => ?_))
      | exact ih0 _ _ _
      | exact ih1 _ _ _ _ _ _ _
      | exact ih2 _ _ _ _ _
      | exact ih3 _ _ _ _ _ _
      | exact credenzalaw15_awake.mono _
      | exact norm_Even.mono _ _ _
      | exact norm_Square.mono _ _
      | exact LeO.none _
      | refine LeO.ite ?_ ?_
      | refine LeO.bind ?_ (fun _ => ?_)
theorem credenzalaw15_NormOdd.mono : ∀ a0 a1 k, LeO (credenzalaw15_NormOdd.f k a0 a1) (credenzalaw15_NormOdd.f (k + 1) a0 a1) := by
  intro a0 a1 k
  obtain ⟨ih0, ih1, ih2, ih3⟩ := credenzalaw15_NormOdd.mono_l k
  unfold credenzalaw15_NormOdd.f
  repeat' first
      | (with_reducible exact ih0 _ _ _)
      | (with_reducible exact ih1 _ _ _ _ _ _ _)
      | (with_reducible exact ih2 _ _ _ _ _)
      | (with_reducible exact ih3 _ _ _ _ _ _)
      | (with_reducible exact credenzalaw15_awake.mono _)
      | (with_reducible exact norm_Even.mono _ _ _)
      | (with_reducible exact norm_Square.mono _ _)
      | (with_reducible exact LeO.refl _)
      | (with_reducible exact LeO.none _)
      | (with_reducible refine LeO.ite ?_ ?_)
      | (with_reducible refine LeO.bind ?_ (fun _ => ?_))
      | exact ih0 _ _ _
      | exact ih1 _ _ _ _ _ _ _
      | exact ih2 _ _ _ _ _
      | exact ih3 _ _ _ _ _ _
      | exact credenzalaw15_awake.mono _
      | exact norm_Even.mono _ _ _
      | exact norm_Square.mono _ _
      | exact LeO.none _
      | refine LeO.ite ?_ ?_
      | refine LeO.bind ?_ (fun _ => ?_)
def credenzalaw15_NormOdd.T10 : Bool × List (List Nat × List Nat) := (true, [([], []), ([], []), ([], []), ([1, 2], [1, 2]), ([3], [3]), ([4], [4]), ([5], [5]), ([0, 6], [0, 6]), ([], []), ([], []), ([], []), ([9, 10], [9, 10]), ([11], [11]), ([12], [12]), ([8, 13, 7], [8, 13]), ([], []), ([], []), ([], []), ([16, 17], [16, 17]), ([18], [18]), ([19], [19]), ([15, 20, 14], [15, 20]), ([7, 21, 0, 1, 2, 3, 4, 5, 6, 7], [0, 7]), ([14, 22, 0, 1, 2, 3, 4, 5, 6, 7, 8, 9, 10, 11, 12, 13, 14, 22], [8, 14]), ([21, 23, 0, 1, 2, 3, 4, 5, 6, 7, 8, 9, 10, 11, 12, 13, 14, 15, 16, 17, 18, 19, 20, 21, 22, 23], [15, 21])])
def credenzalaw15_NormOdd.B10 : List Nat := [0, 0, 0, 6, 14, 30, 62, 127, 0, 0, 0, 1536, 3584, 7680, 16383, 0, 0, 0, 196608, 458752, 983040, 2097151, 4194303, 8388607, 16777215]
theorem credenzalaw15_NormOdd.tab10 : rtab .any (opsOf Try.f8 10) = credenzalaw15_NormOdd.T10 := by kernel_rfl
theorem credenzalaw15_NormOdd.bits10 : waitsOk credenzalaw15_NormOdd.T10.2 credenzalaw15_NormOdd.B10 = true := by kernel_rfl
def credenzalaw15_NormOdd.T20 : Bool × List (List Nat × List Nat) := (true, [([], []), ([], []), ([0, 1], [0, 1]), ([2], [2]), ([], []), ([], []), ([4, 5], [4, 5]), ([6], [6]), ([7], [7]), ([3, 8], [3, 8]), ([9], [9]), ([10], [10]), ([10], [10]), ([12, 10], [10, 12]), ([13, 10], [10, 13]), ([10], [10]), ([14, 15, 10], [10, 14, 15]), ([11, 16, 10], [10, 11, 16]), ([17, 10], [10, 17]), ([10], [10]), ([10], [10]), ([19, 20, 10], [10, 19, 20]), ([21, 10], [10, 21]), ([18, 22, 10], [10, 18, 22]), ([10, 23], [10, 23])])
def credenzalaw15_NormOdd.B20 : List Nat := [0, 0, 3, 7, 0, 0, 48, 112, 240, 511, 1023, 2047, 2047, 6143, 14335, 2047, 63487, 131071, 262143, 2047, 2047, 1574911, 3672063, 8388607, 16777215]
theorem credenzalaw15_NormOdd.tab20 : rtab .any (opsOf Try.f8 20) = credenzalaw15_NormOdd.T20 := by kernel_rfl
theorem credenzalaw15_NormOdd.bits20 : waitsOk credenzalaw15_NormOdd.T20.2 credenzalaw15_NormOdd.B20 = true := by kernel_rfl
section
variable {α : Type} {d : Kd α} {e : Nat} {w : World} {base : Nat} {ok : Nat → Prop} {v : Value} {xs : List α}
theorem rA (h : d.R e w base ok v xs) (o : Obj) : d.R e (w.alloc o) base ok v xs := Kd.R_alloc h o
theorem rD (h : d.R e w base ok v xs) : d.R e w.drew base ok v xs := Kd.R_drew h
theorem rN (h : d.R e w base ok v xs) (m : Nat) : d.R e (w.drewN m) base ok v xs := Kd.R_drewN h m
end
end Go.Proofs.Ytmndomlpdajjmac.No
