/- Within what no cut touches the sum with a list that is a sum is the sum of both. No condition: for every input. -/
import Derived.Test.YtmndomlpdajjmabQx1
import Derived.Test.YtmndomlpdajjmabQx3
import Derived.Test.YtmndomlpdajjmabQx7
set_option linter.unusedVariables false
set_option linter.unusedSimpArgs false
namespace Go.Proofs.Ytmndomlpdajjmab.Pure
open Go.RowKit Go.Proofs.Ytmndomlpdajjmab.Q Go.Proofs.YtmndomlpdajjmabW.PrintWords Go.Proofs.YtmndomlpdajjmabW.PrintLast
namespace Cz
theorem w64 (x : Int) (h0 : -9223372036854775808 ≤ x) (h1 : x ≤ 9223372036854775807) : wrap64 x = x := by unfold wrap64; omega
theorem wf32 {x : Int} (h : (Lit.int .i32 x).wf = true) : -2147483648 ≤ x ∧ x ≤ 2147483647 := by
  simp only [Lit.wf, IntKind.min, IntKind.max, IntKind.signed, IntKind.bits, Bool.and_eq_true, decide_eq_true_eq, if_true] at h
  omega
theorem up {α : Type} {f : Nat → Option α} (hm : ∀ k, LeO (f k) (f (k + 1))) {k0 : Nat} {r : α} (h : f k0 = some r) {k : Nat} (hk : k0 ≤ k) : f k = some r := by
  obtain ⟨d, rfl⟩ : ∃ d, k = k0 + d := ⟨k - k0, by omega⟩
  clear hk
  induction d with
  | zero => exact h
  | succ d ih => exact hm _ _ ih
theorem mul_bound {a b A B : Int} (ha : -A ≤ a) (ha' : a ≤ A) (hb : -B ≤ b) (hb' : b ≤ B) : -(A * B) ≤ a * b ∧ a * b ≤ A * B := by
  have h1 : 0 ≤ (A - a) * (B + b) := Int.mul_nonneg (by omega) (by omega)
  have h2 : 0 ≤ (A + a) * (B - b) := Int.mul_nonneg (by omega) (by omega)
  have h3 : 0 ≤ (A - a) * (B - b) := Int.mul_nonneg (by omega) (by omega)
  have h4 : 0 ≤ (A + a) * (B + b) := Int.mul_nonneg (by omega) (by omega)
  simp only [Int.sub_mul, Int.mul_sub, Int.add_mul, Int.mul_add] at h1 h2 h3 h4
  generalize A * B = p at *
  generalize a * b = q at *
  generalize A * b = r at *
  generalize a * B = s at *
  omega
/-- Cut to a range. -/
def cutI (v lo hi : Int) : Int := if v < lo then lo else if v > hi then hi else v
def narrow (v : Int) : Int := cutI v (-8388608) 8388608
theorem narrow_range (v : Int) : -8388608 ≤ narrow v ∧ narrow v ≤ 8388608 := by unfold narrow cutI; omega
theorem cut_eq (v lo hi : Int) (h0 : -2147483648 ≤ lo) (h1 : lo ≤ hi) (h2 : hi ≤ 2147483647) : fix_cut.f v lo hi = some (cutI v lo hi) := by
  unfold fix_cut.f cutI mn mx wrap32
  congr 1
  split <;> split <;> (try split) <;> (try split) <;> omega
theorem narrow_eq (v : Int) : fix_Narrow.f v = some (narrow v) := by
  unfold fix_Narrow.f
  rw [cut_eq _ _ _ (by omega) (by omega) (by omega)]; rfl
theorem rd_drop (l : List Int) (i : Nat) (h : i < l.length) : l.drop i = rd l (i : Int) :: l.drop (i + 1) := by
  rw [List.drop_eq_getElem_cons h]
  congr 1
  unfold rd
  rw [Int.toNat_natCast, List.getD_eq_getElem?_getD, List.getElem?_eq_getElem h]
  rfl
theorem rd_mem (l : List Int) (i : Nat) (h : i < l.length) : rd l (i : Int) ∈ l := by
  have := rd_drop l i h
  exact List.mem_of_mem_drop (this ▸ List.mem_cons_self : rd l (i : Int) ∈ l.drop i)
theorem w64_succ (i n : Nat) (h : i < n) (hn : n ≤ 140737488351232) : wrap64 ((i : Int) + 1) = ((i + 1 : Nat) : Int) := by
  rw [w64 _ (by omega) (by omega)]; omega
/-- All numbers are of 32 bits. -/
def I32 (l : List Int) : Prop := ∀ x ∈ l, -2147483648 ≤ x ∧ x ≤ 2147483647
theorem i32_of {l : List Int} (h : ∀ x ∈ l, (Lit.int .i32 x).wf = true) : I32 l := fun x hx => wf32 (h x hx)
theorem set_take (l : List Int) (i : Nat) (v : Int) (h : i < l.length) : (l.set i v).take (i + 1) = l.take i ++ [v] := by
  rw [List.take_add_one, List.take_set, List.getElem?_set_self h, List.set_eq_of_length_le (by rw [List.length_take]; omega)]
  rfl
def badI (x : Int) : Bool := decide (x < -16777216) || decide (x > 16777216)
def mildB (l : List Int) : Bool := decide ((l.length : Int) ≤ 1024) && !(l.any badI)
theorem mild1_eq (x : Int) : dot_Mild_1.f x = some (badI x) := by
  unfold dot_Mild_1.f badI
  by_cases h : x < -16777216
  · rw [if_pos h, decide_eq_true h]; rfl
  · rw [if_neg h, decide_eq_false h]; rfl
theorem mild_index (l : List Int) (hl : l.length ≤ 140737488351232) (d : Nat) : ∀ (k i : Nat), i + d = l.length → d < k →
    ∃ r, slices_IndexFunc_int32_int32_of_dot_Mild_1.l0 k l (l.length : Int) (i : Int) = some r ∧ decide (r ≥ 0) = (l.drop i).any badI := by
  induction d with
  | zero =>
    intro k i h hk
    obtain ⟨k, rfl⟩ : ∃ m, k = m + 1 := ⟨k - 1, by omega⟩
    refine ⟨-1, ?_, ?_⟩
    · simp only [slices_IndexFunc_int32_int32_of_dot_Mild_1.l0]; rw [if_neg (by omega)]
    · rw [List.drop_of_length_le (by omega)]; rfl
  | succ d ih =>
    intro k i h hk
    obtain ⟨k, rfl⟩ : ∃ m, k = m + 1 := ⟨k - 1, by omega⟩
    simp only [slices_IndexFunc_int32_int32_of_dot_Mild_1.l0]
    rw [if_pos (by omega), if_pos (by omega), if_pos (by omega), mild1_eq, rd_drop l i (by omega), List.any_cons]
    simp only [Option.bind_some]
    by_cases hb : badI (rd l (i : Int)) = true
    · rw [if_pos hb, hb]
      exact ⟨_, rfl, by simp⟩
    · rw [if_neg hb, w64_succ i l.length (by omega) hl]
      obtain ⟨r, e, hr⟩ := ih k (i + 1) (by omega) (by omega)
      rw [Bool.not_eq_true] at hb
      exact ⟨r, e, by rw [hr, hb]; rfl⟩
theorem mild_eq (l : List Int) (k : Nat) (hk : 1025 < k) : dot_Mild.f k l = some (mildB l) := by
  unfold dot_Mild.f mildB
  by_cases h : (l.length : Int) ≤ 1024
  · rw [if_pos h, decide_eq_true h]
    obtain ⟨r, e, hr⟩ := mild_index l (by omega) l.length k 0 (by omega) (by omega)
    unfold slices_ContainsFunc_int32_int32_of_dot_Mild_1.f slices_IndexFunc_int32_int32_of_dot_Mild_1.f
    have e' : slices_IndexFunc_int32_int32_of_dot_Mild_1.l0 k l (l.length : Int) 0 = some r := e
    rw [e']
    simp only [Option.bind_some]
    rw [hr, List.drop_zero]; rfl
  · rw [if_neg h, decide_eq_false h]; rfl
theorem mild_mem {l : List Int} (h : mildB l = true) : (l.length : Int) ≤ 1024 ∧ ∀ x ∈ l, -16777216 ≤ x ∧ x ≤ 16777216 := by
  unfold mildB at h
  rw [Bool.and_eq_true, decide_eq_true_eq, Bool.not_eq_true', List.any_eq_false] at h
  refine ⟨h.1, fun x hx => ?_⟩
  have := h.2 x hx
  simp only [badI, Bool.or_eq_true, decide_eq_true_eq] at this
  omega
theorem mild_of {l : List Int} (h0 : (l.length : Int) ≤ 1024) (h : ∀ x ∈ l, -16777216 ≤ x ∧ x ≤ 16777216) : mildB l = true := by
  unfold mildB
  rw [Bool.and_eq_true, decide_eq_true_eq, Bool.not_eq_true', List.any_eq_false]
  refine ⟨h0, fun x hx => ?_⟩
  have := h x hx
  simp only [badI, Bool.or_eq_true, decide_eq_true_eq]
  omega
/-- The sum of the products. -/
def dotI : List Int → List Int → Int
  | x :: xs, y :: ys => x * y + dotI xs ys
  | _, _ => 0
theorem dotI_bound (A B : Int) (hA : 0 ≤ A) (hB : 0 ≤ B) : ∀ (a b : List Int), (∀ x ∈ a, -A ≤ x ∧ x ≤ A) → (∀ x ∈ b, -B ≤ x ∧ x ≤ B) → -(a.length * (A * B)) ≤ dotI a b ∧ dotI a b ≤ a.length * (A * B)
  | [], b, _, _ => by simp [dotI]
  | x :: xs, [], _, _ => by
    have : 0 ≤ ((x :: xs).length : Int) * (A * B) := Int.mul_nonneg (by omega) (Int.mul_nonneg hA hB)
    simp only [dotI]; omega
  | x :: xs, y :: ys, ha, hb => by
    have ih := dotI_bound A B hA hB xs ys (fun z hz => ha z (List.mem_cons_of_mem _ hz)) (fun z hz => hb z (List.mem_cons_of_mem _ hz))
    have h1 := ha x List.mem_cons_self
    have h2 := hb y List.mem_cons_self
    have h3 := mul_bound (a := x) (b := y) (A := A) (B := B) (by omega) (by omega) (by omega) (by omega)
    have e : (((x :: xs).length : Nat) : Int) * (A * B) = xs.length * (A * B) + A * B := by rw [List.length_cons, Int.natCast_succ, Int.add_mul, Int.one_mul]
    simp only [dotI]
    rw [e]
    omega
theorem shape_eq (a b : List Int) : dot_shape.f a b = some (if (a.length : Int) = (b.length : Int) then (if (a.length : Int) > 1024 then 12 else 0) else 25) := by
  unfold dot_shape.f
  repeat' split
  all_goals rfl
theorem dot_loop (a b : List Int) (hab : a.length = b.length) (hn : a.length ≤ 1024) (ha : ∀ x ∈ a, -16777216 ≤ x ∧ x ≤ 16777216) (hb : ∀ x ∈ b, -16777216 ≤ x ∧ x ≤ 16777216) (d : Nat) :
    ∀ (k i : Nat) (acc : Int), i + d = a.length → d < k → -(i * 281474976710656) ≤ acc → acc ≤ i * 281474976710656 →
      dot_Dot.l0 k b acc a (a.length : Int) (i : Int) = some (acc + dotI (a.drop i) (b.drop i), 0) := by
  induction d with
  | zero =>
    intro k i acc h hk _ _
    obtain ⟨k, rfl⟩ : ∃ m, k = m + 1 := ⟨k - 1, by omega⟩
    simp only [dot_Dot.l0]
    rw [if_neg (by omega), List.drop_of_length_le (by omega : a.length ≤ i)]
    simp [dotI]
  | succ d ih =>
    intro k i acc h hk h0 h1
    obtain ⟨k, rfl⟩ : ∃ m, k = m + 1 := ⟨k - 1, by omega⟩
    have hx := ha _ (rd_mem a i (by omega))
    have hy := hb _ (rd_mem b i (by omega))
    have hp := mul_bound (a := rd a (i : Int)) (b := rd b (i : Int)) (A := 16777216) (B := 16777216) (by omega) (by omega) (by omega) (by omega)
    simp only [dot_Dot.l0]
    rw [if_pos (by omega), if_pos (by omega), if_pos (by omega), if_pos (by omega), w64_succ i a.length (by omega) (by omega), w64 (rd a (i : Int)) (by omega) (by omega), w64 (rd b (i : Int)) (by omega) (by omega), w64 (rd a (i : Int) * rd b (i : Int)) (by omega) (by omega), w64 (acc + rd a (i : Int) * rd b (i : Int)) (by omega) (by omega)]
    rw [ih k (i + 1) _ (by omega) (by omega) (by omega) (by omega), rd_drop a i (by omega), rd_drop b i (by omega)]
    simp only [dotI]
    rw [Int.add_assoc]
/-- What Dot tells. -/
def dotR (a b : List Int) : Int × Int :=
  if (a.length : Int) = (b.length : Int) then (if (a.length : Int) > 1024 then (0, 12) else if mildB a = true ∧ mildB b = true then (dotI a b, 0) else (0, 11)) else (0, 25)
theorem dot_eq (a b : List Int) (k : Nat) (hk : 1027 < k) : dot_Dot.f k a b = some (dotR a b) := by
  obtain ⟨k, rfl⟩ : ∃ m, k = m + 1 := ⟨k - 1, by omega⟩
  unfold dot_Dot.f dotR
  rw [shape_eq, mild_eq a (k + 1) (by omega), mild_eq b (k + 1) (by omega)]
  simp only [Option.bind_some]
  by_cases h1 : (a.length : Int) = (b.length : Int)
  · rw [if_pos h1, if_pos h1]
    by_cases h2 : (a.length : Int) > 1024
    · rw [if_pos h2, if_pos h2, if_neg (by decide)]
    · rw [if_neg h2, if_neg h2, if_pos rfl]
      by_cases ma : mildB a = true
      · rw [if_pos ma]
        by_cases mb : mildB b = true
        · rw [if_pos ⟨ma, mb⟩, mb]
          simp only [dot_Dot.j0]
          rw [if_neg (by decide)]
          have := dot_loop a b (by omega) (by omega) (mild_mem ma).2 (mild_mem mb).2 a.length k 0 0 (by omega) (by omega) (by omega) (by omega)
          rw [List.drop_zero, List.drop_zero, Int.zero_add] at this
          exact this
        · rw [if_neg (fun h => mb h.2)]
          rw [Bool.not_eq_true] at mb
          rw [mb]
          simp only [dot_Dot.j0]
          rw [if_pos (by rfl)]
      · rw [if_neg ma, if_neg (fun h => ma h.1)]
        simp only [dot_Dot.j0]
        rw [if_pos trivial]
  · rw [if_neg h1, if_neg h1, if_neg (by decide)]
def addG (x y : Int) : Int := narrow (x + y)
def eachR (g : Int → Int → Int) (a b : List Int) : List Int × Int :=
  if (a.length : Int) = (b.length : Int) then (if (a.length : Int) > 1024 then ([], 12) else (List.zipWith g a b, 0)) else ([], 25)
theorem add1_eq (x y : Int) (hx : -2147483648 ≤ x ∧ x ≤ 2147483647) (hy : -2147483648 ≤ y ∧ y ≤ 2147483647) : dot_Add_1.f (wrap64 x) (wrap64 y) = some (x + y) := by
  unfold dot_Add_1.f
  rw [w64 x (by omega) (by omega), w64 y (by omega) (by omega), w64 (x + y) (by omega) (by omega)]
theorem zip_length (g : Int → Int → Int) (a b : List Int) (h : a.length = b.length) : (List.zipWith g a b).length = a.length := by
  rw [List.length_zipWith]; omega
theorem zip_range (f : Int → Int → Int) (a b : List Int) : ∀ x ∈ List.zipWith (fun x y => narrow (f x y)) a b, -8388608 ≤ x ∧ x ≤ 8388608 := by
  induction a generalizing b with
  | nil => intro x hx; simp at hx
  | cons y ys ih =>
    cases b with
    | nil => intro x hx; simp at hx
    | cons z zs =>
      intro x hx
      rw [List.zipWith_cons_cons, List.mem_cons] at hx
      rcases hx with rfl | hx
      · exact narrow_range _
      · exact ih zs x hx
theorem each_add_loop (a b : List Int) (hab : a.length = b.length) (hn : a.length ≤ 140737488351232) (ha : I32 a) (hb : I32 b) (d : Nat) :
    ∀ (k i : Nat) (out : List Int), i + d = a.length → d < k → out.length = a.length →
      dot_each_of_dot_Add_1.l0 k b out a (a.length : Int) (i : Int) = some (out.take i ++ List.zipWith addG (a.drop i) (b.drop i), 0) := by
  induction d with
  | zero =>
    intro k i out h hk ho
    obtain ⟨k, rfl⟩ : ∃ m, k = m + 1 := ⟨k - 1, by omega⟩
    simp only [dot_each_of_dot_Add_1.l0]
    rw [if_neg (by omega), List.drop_of_length_le (by omega : a.length ≤ i), List.take_of_length_le (by omega)]
    simp
  | succ d ih =>
    intro k i out h hk ho
    obtain ⟨k, rfl⟩ : ∃ m, k = m + 1 := ⟨k - 1, by omega⟩
    have hx := ha _ (rd_mem a i (by omega))
    have hy := hb _ (rd_mem b i (by omega))
    simp only [dot_each_of_dot_Add_1.l0]
    rw [if_pos (by omega), if_pos (by omega), if_pos (by omega), if_pos (by omega), add1_eq _ _ hx hy]
    simp only [Option.bind_some]
    rw [narrow_eq]
    simp only [Option.bind_some]
    rw [if_pos (by omega), w64_succ i a.length (by omega) hn, Int.toNat_natCast, ih k (i + 1) _ (by omega) (by omega) (by rw [List.length_set]; exact ho), set_take _ _ _ (by omega), rd_drop a i (by omega), rd_drop b i (by omega), List.zipWith_cons_cons, List.append_assoc]
    rfl
theorem each_add_eq (a b : List Int) (ha : I32 a) (hb : I32 b) (k : Nat) (hk : 1025 < k) : dot_each_of_dot_Add_1.f k a b = some (eachR addG a b) := by
  unfold dot_each_of_dot_Add_1.f eachR
  rw [shape_eq]
  simp only [Option.bind_some]
  by_cases h1 : (a.length : Int) = (b.length : Int)
  · rw [if_pos h1, if_pos h1]
    by_cases h2 : (a.length : Int) > 1024
    · rw [if_pos h2, if_pos h2, if_neg (by decide)]
    · rw [if_neg h2, if_neg h2, if_pos rfl, if_pos (by omega), if_pos (by omega)]
      have := each_add_loop a b (by omega) (by omega) ha hb a.length k 0 (List.replicate (a.length : Int).toNat 0) (by omega) (by omega) (by rw [List.length_replicate, Int.toNat_natCast])
      rw [List.drop_zero, List.drop_zero, List.take_zero, List.nil_append] at this
      exact this
  · rw [if_neg h1, if_neg h1, if_neg (by decide)]
theorem dadd_eq (a b : List Int) (ha : I32 a) (hb : I32 b) (k : Nat) (hk : 1025 < k) : dot_Add.f k a b = some (eachR addG a b) := by
  unfold dot_Add.f; rw [each_add_eq a b ha hb k hk]; rfl
theorem all_rd (l : List Int) (P : Int → Prop) (h : ∀ j : Nat, j < l.length → P (rd l (j : Int))) : ∀ x ∈ l, P x := by
  intro x hx
  obtain ⟨j, hj, rfl⟩ := List.mem_iff_getElem.mp hx
  have := h j hj
  unfold rd at this
  rwa [Int.toNat_natCast, List.getD_eq_getElem?_getD, List.getElem?_eq_getElem hj] at this
theorem dotI_add : ∀ (a b c : List Int), a.length = b.length → (∀ x ∈ a, -4194304 ≤ x ∧ x ≤ 4194304) → (∀ x ∈ b, -4194304 ≤ x ∧ x ≤ 4194304) → dotI (List.zipWith addG a b) c = dotI a c + dotI b c
  | [], [], c, _, _, _ => by cases c <;> simp [dotI]
  | x :: xs, y :: ys, [], _, _, _ => by simp [dotI]
  | x :: xs, y :: ys, z :: zs, h, ha, hb => by
    have ih := dotI_add xs ys zs (by simpa using h) (fun w hw => ha w (List.mem_cons_of_mem _ hw)) (fun w hw => hb w (List.mem_cons_of_mem _ hw))
    have h1 := ha x List.mem_cons_self
    have h2 := hb y List.mem_cons_self
    have e : addG x y = x + y := by unfold addG narrow cutI; rw [if_neg (by omega), if_neg (by omega)]
    rw [List.zipWith_cons_cons]
    simp only [dotI]
    rw [ih, e, Int.add_mul]
    omega
end Cz

theorem dotlin_loop (a b c : List Int) (hab : a.length = b.length) (hac : a.length = c.length) (hn : a.length ≤ 1024) (ha : Cz.I32 a) (hb : Cz.I32 b) (hc : Cz.I32 c) (aw : ∀ k, 1100 ≤ k → credenzalaw03_awake.f k = some true) (d : Nat) :
    ∀ (k i : Nat), i + d = a.length → d + 1100 < k → (∀ j : Nat, j < i → (-4194304 ≤ rd a (j : Int) ∧ rd a (j : Int) ≤ 4194304) ∧ (-4194304 ≤ rd b (j : Int) ∧ rd b (j : Int) ≤ 4194304) ∧ -16777216 ≤ rd c (j : Int) ∧ rd c (j : Int) ≤ 16777216) →
      credenzalaw03_DotLinear.l0 k a b c (a.length : Int) (i : Int) = some true := by
  induction d with
  | zero =>
    intro k i h hk hr
    obtain ⟨k, rfl⟩ : ∃ m, k = m + 1 := ⟨k - 1, by omega⟩
    obtain rfl : i = a.length := by omega
    have ga := Cz.all_rd a (fun x => -4194304 ≤ x ∧ x ≤ 4194304) (fun j hj => (hr j hj).1)
    have gb := Cz.all_rd b (fun x => -4194304 ≤ x ∧ x ≤ 4194304) (fun j hj => (hr j (by omega)).2.1)
    have gc := Cz.all_rd c (fun x => -16777216 ≤ x ∧ x ≤ 16777216) (fun j hj => (hr j (by omega)).2.2)
    have ma := Cz.mild_of (by omega) (fun x hx => by have := ga x hx; omega : ∀ x ∈ a, -16777216 ≤ x ∧ x ≤ 16777216)
    have mb := Cz.mild_of (by omega) (fun x hx => by have := gb x hx; omega : ∀ x ∈ b, -16777216 ≤ x ∧ x ≤ 16777216)
    have mc := Cz.mild_of (by omega) gc
    have lz := Cz.zip_length Cz.addG a b hab
    have mz : Cz.mildB (List.zipWith Cz.addG a b) = true := Cz.mild_of (by omega) (fun x hx => by have := Cz.zip_range (fun x y => x + y) a b x hx; omega)
    have eadd : Cz.eachR Cz.addG a b = (List.zipWith Cz.addG a b, 0) := by unfold Cz.eachR; rw [if_pos (by omega), if_neg (by omega)]
    have d1 : Cz.dotR (List.zipWith Cz.addG a b) c = (Cz.dotI (List.zipWith Cz.addG a b) c, 0) := by unfold Cz.dotR; rw [if_pos (by omega), if_neg (by omega), if_pos ⟨mz, mc⟩]
    have d2 : Cz.dotR a c = (Cz.dotI a c, 0) := by unfold Cz.dotR; rw [if_pos (by omega), if_neg (by omega), if_pos ⟨ma, mc⟩]
    have d3 : Cz.dotR b c = (Cz.dotI b c, 0) := by unfold Cz.dotR; rw [if_pos (by omega), if_neg (by omega), if_pos ⟨mb, mc⟩]
    have b2 := Cz.dotI_bound 16777216 16777216 (by omega) (by omega) a c (fun x hx => by have := ga x hx; omega) (fun x hx => by have := gc x hx; omega)
    have b3 := Cz.dotI_bound 16777216 16777216 (by omega) (by omega) b c (fun x hx => by have := gb x hx; omega) (fun x hx => by have := gc x hx; omega)
    simp only [credenzalaw03_DotLinear.l0]
    rw [if_neg (by omega), Cz.dadd_eq a b ha hb k (by omega), eadd]
    simp only [Option.bind_some]
    rw [Cz.dot_eq _ c k (by omega), Cz.dot_eq a c k (by omega), Cz.dot_eq b c k (by omega), d1, d2, d3]
    simp only [Option.bind_some, if_true]
    rw [Cz.w64 (Cz.dotI a c + Cz.dotI b c) (by omega) (by omega), if_pos (Cz.dotI_add a b c hab ga gb), aw k (by omega)]
    rfl
  | succ d ih =>
    intro k i h hk hr
    obtain ⟨k, rfl⟩ : ∃ m, k = m + 1 := ⟨k - 1, by omega⟩
    have awk := aw k (by omega)
    simp only [credenzalaw03_DotLinear.l0]
    rw [if_pos (by omega), if_pos (by omega), if_pos (by omega), awk]
    simp only [Option.bind_some]
    by_cases a1 : rd a (i : Int) > 4194304
    · rw [if_pos a1]
    rw [if_neg a1]
    by_cases a2 : rd a (i : Int) < -4194304
    · rw [if_pos a2]
    rw [if_neg a2, if_pos (by omega)]
    by_cases b1 : rd b (i : Int) > 4194304
    · rw [if_pos b1]
    rw [if_neg b1]
    by_cases b2 : rd b (i : Int) < -4194304
    · rw [if_pos b2]
    rw [if_neg b2, if_pos (by omega)]
    by_cases c1 : rd c (i : Int) > 16777216
    · rw [if_pos c1]
    rw [if_neg c1]
    by_cases c2 : rd c (i : Int) < -16777216
    · rw [if_pos c2]
    rw [if_neg c2, Cz.w64_succ i a.length (by omega) (by omega)]
    apply ih k (i + 1) (by omega) (by omega)
    intro j hj
    rcases Nat.lt_succ_iff_lt_or_eq.mp hj with h4 | rfl
    · exact hr j h4
    · exact ⟨⟨by omega, by omega⟩, ⟨by omega, by omega⟩, by omega, by omega⟩
theorem DotLinear : credenzalaw03_DotLinear.Pure := by
  intro a b c _ _ ha _ _ hb _ _ hc
  have ha := Cz.i32_of ha
  have hb := Cz.i32_of hb
  have hc := Cz.i32_of hc
  refine ⟨2203, ?_⟩
  have aw : credenzalaw03_awake.f 1100 = some true := by decide +kernel
  have awk := fun k (hk : 1100 ≤ k) => Cz.up credenzalaw03_awake.mono aw hk
  have J : credenzalaw03_DotLinear.j0 2203 a b c true = some true := by
    simp only [credenzalaw03_DotLinear.j0]
    rw [if_pos trivial, awk 2202 (by omega)]; rfl
  unfold credenzalaw03_DotLinear.f
  by_cases h1 : (a.length : Int) = (b.length : Int)
  · rw [if_pos h1]
    by_cases h2 : (a.length : Int) = (c.length : Int)
    · rw [if_pos h2]
      by_cases h3 : (a.length : Int) > 1024
      · rw [decide_eq_true h3]; exact J
      · rw [decide_eq_false h3]
        simp only [credenzalaw03_DotLinear.j0]
        rw [if_neg (by decide)]
        exact dotlin_loop a b c (by omega) (by omega) (by omega) ha hb hc awk a.length 2202 0 (by omega) (by omega) (fun j hj => by omega)
    · rw [if_neg h2]; exact J
  · rw [if_neg h1]; exact J

end Go.Proofs.Ytmndomlpdajjmab.Pure
