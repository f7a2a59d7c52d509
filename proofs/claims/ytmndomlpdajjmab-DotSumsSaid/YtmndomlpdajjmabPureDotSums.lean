/- Any two lists are multiplied and summed up as the document says, or refused. No condition: for every input. -/
import Derived.Test.YtmndomlpdajjmabQx1
import Derived.Test.YtmndomlpdajjmabQx3
import Derived.Test.YtmndomlpdajjmabQx4
set_option linter.unusedVariables false
set_option linter.unusedSimpArgs false
namespace Go.Proofs.Ytmndomlpdajjmab.Pure
open Go.RowKit Go.Proofs.Ytmndomlpdajjmab.Q Go.Proofs.YtmndomlpdajjmabW.PrintWords Go.Proofs.YtmndomlpdajjmabW.PrintLast
namespace Cz
theorem w64 (x : Int) (h0 : -9223372036854775808 ≤ x) (h1 : x ≤ 9223372036854775807) : wrap64 x = x := by unfold wrap64; omega
theorem up {α : Type} {f : Nat → Option α} (hm : ∀ k, LeO (f k) (f (k + 1))) {k0 : Nat} {r : α} (h : f k0 = some r) {k : Nat} (hk : k0 ≤ k) : f k = some r := by
  obtain ⟨d, rfl⟩ : ∃ d, k = k0 + d := ⟨k - k0, by omega⟩
  clear hk
  induction d with
  | zero => exact h
  | succ d ih => exact hm _ _ ih
theorem mul_bound {a b A B : Int} (ha : -A ≤ a) (ha' : a ≤ A) (hb : -B ≤ b) (hb' : b ≤ B) : -(A * B) ≤ a * b ∧ a * b ≤ A * B := by
  have h1 : 0 ≤ (A - a) * (B + b) := Int.mul_nonneg (by omega) (by omega)
  have h2 : 0 ≤ (A + a) * (B - b) := Int.mul_nonneg (by omega) (by omega)
  have h3 : 0 ≤ (A - a) * (B - b) := Int.mul_nonneg (by omega) (by omega)
  have h4 : 0 ≤ (A + a) * (B + b) := Int.mul_nonneg (by omega) (by omega)
  simp only [Int.sub_mul, Int.mul_sub, Int.add_mul, Int.mul_add] at h1 h2 h3 h4
  generalize A * B = p at *
  generalize a * b = q at *
  generalize A * b = r at *
  generalize a * B = s at *
  omega
theorem rd_drop (l : List Int) (i : Nat) (h : i < l.length) : l.drop i = rd l (i : Int) :: l.drop (i + 1) := by
  rw [List.drop_eq_getElem_cons h]
  congr 1
  unfold rd
  rw [Int.toNat_natCast, List.getD_eq_getElem?_getD, List.getElem?_eq_getElem h]
  rfl
theorem rd_mem (l : List Int) (i : Nat) (h : i < l.length) : rd l (i : Int) ∈ l := by
  have := rd_drop l i h
  exact List.mem_of_mem_drop (this ▸ List.mem_cons_self : rd l (i : Int) ∈ l.drop i)
theorem w64_succ (i n : Nat) (h : i < n) (hn : n ≤ 140737488351232) : wrap64 ((i : Int) + 1) = ((i + 1 : Nat) : Int) := by
  rw [w64 _ (by omega) (by omega)]; omega
def badI (x : Int) : Bool := decide (x < -16777216) || decide (x > 16777216)
def mildB (l : List Int) : Bool := decide ((l.length : Int) ≤ 1024) && !(l.any badI)
theorem mild1_eq (x : Int) : dot_Mild_1.f x = some (badI x) := by
  unfold dot_Mild_1.f badI
  by_cases h : x < -16777216
  · rw [if_pos h, decide_eq_true h]; rfl
  · rw [if_neg h, decide_eq_false h]; rfl
theorem mild_index (l : List Int) (hl : l.length ≤ 140737488351232) (d : Nat) : ∀ (k i : Nat), i + d = l.length → d < k →
    ∃ r, slices_IndexFunc_int32_int32_of_dot_Mild_1.l0 k l (l.length : Int) (i : Int) = some r ∧ decide (r ≥ 0) = (l.drop i).any badI := by
  induction d with
  | zero =>
    intro k i h hk
    obtain ⟨k, rfl⟩ : ∃ m, k = m + 1 := ⟨k - 1, by omega⟩
    refine ⟨-1, ?_, ?_⟩
    · simp only [slices_IndexFunc_int32_int32_of_dot_Mild_1.l0]; rw [if_neg (by omega)]
    · rw [List.drop_of_length_le (by omega)]; rfl
  | succ d ih =>
    intro k i h hk
    obtain ⟨k, rfl⟩ : ∃ m, k = m + 1 := ⟨k - 1, by omega⟩
    simp only [slices_IndexFunc_int32_int32_of_dot_Mild_1.l0]
    rw [if_pos (by omega), if_pos (by omega), if_pos (by omega), mild1_eq, rd_drop l i (by omega), List.any_cons]
    simp only [Option.bind_some]
    by_cases hb : badI (rd l (i : Int)) = true
    · rw [if_pos hb, hb]
      exact ⟨_, rfl, by simp⟩
    · rw [if_neg hb, w64_succ i l.length (by omega) hl]
      obtain ⟨r, e, hr⟩ := ih k (i + 1) (by omega) (by omega)
      rw [Bool.not_eq_true] at hb
      exact ⟨r, e, by rw [hr, hb]; rfl⟩
theorem mild_eq (l : List Int) (k : Nat) (hk : 1025 < k) : dot_Mild.f k l = some (mildB l) := by
  unfold dot_Mild.f mildB
  by_cases h : (l.length : Int) ≤ 1024
  · rw [if_pos h, decide_eq_true h]
    obtain ⟨r, e, hr⟩ := mild_index l (by omega) l.length k 0 (by omega) (by omega)
    unfold slices_ContainsFunc_int32_int32_of_dot_Mild_1.f slices_IndexFunc_int32_int32_of_dot_Mild_1.f
    have e' : slices_IndexFunc_int32_int32_of_dot_Mild_1.l0 k l (l.length : Int) 0 = some r := e
    rw [e']
    simp only [Option.bind_some]
    rw [hr, List.drop_zero]; rfl
  · rw [if_neg h, decide_eq_false h]; rfl
theorem mild_mem {l : List Int} (h : mildB l = true) : (l.length : Int) ≤ 1024 ∧ ∀ x ∈ l, -16777216 ≤ x ∧ x ≤ 16777216 := by
  unfold mildB at h
  rw [Bool.and_eq_true, decide_eq_true_eq, Bool.not_eq_true', List.any_eq_false] at h
  refine ⟨h.1, fun x hx => ?_⟩
  have := h.2 x hx
  simp only [badI, Bool.or_eq_true, decide_eq_true_eq] at this
  omega
/-- The sum of the products. -/
def dotI : List Int → List Int → Int
  | x :: xs, y :: ys => x * y + dotI xs ys
  | _, _ => 0
theorem dotI_bound (A B : Int) (hA : 0 ≤ A) (hB : 0 ≤ B) : ∀ (a b : List Int), (∀ x ∈ a, -A ≤ x ∧ x ≤ A) → (∀ x ∈ b, -B ≤ x ∧ x ≤ B) → -(a.length * (A * B)) ≤ dotI a b ∧ dotI a b ≤ a.length * (A * B)
  | [], b, _, _ => by simp [dotI]
  | x :: xs, [], _, _ => by
    have : 0 ≤ ((x :: xs).length : Int) * (A * B) := Int.mul_nonneg (by omega) (Int.mul_nonneg hA hB)
    simp only [dotI]; omega
  | x :: xs, y :: ys, ha, hb => by
    have ih := dotI_bound A B hA hB xs ys (fun z hz => ha z (List.mem_cons_of_mem _ hz)) (fun z hz => hb z (List.mem_cons_of_mem _ hz))
    have h1 := ha x List.mem_cons_self
    have h2 := hb y List.mem_cons_self
    have h3 := mul_bound (a := x) (b := y) (A := A) (B := B) (by omega) (by omega) (by omega) (by omega)
    have e : (((x :: xs).length : Nat) : Int) * (A * B) = xs.length * (A * B) + A * B := by rw [List.length_cons, Int.natCast_succ, Int.add_mul, Int.one_mul]
    simp only [dotI]
    rw [e]
    omega
theorem shape_eq (a b : List Int) : dot_shape.f a b = some (if (a.length : Int) = (b.length : Int) then (if (a.length : Int) > 1024 then 12 else 0) else 25) := by
  unfold dot_shape.f
  repeat' split
  all_goals rfl
theorem dot_loop (a b : List Int) (hab : a.length = b.length) (hn : a.length ≤ 1024) (ha : ∀ x ∈ a, -16777216 ≤ x ∧ x ≤ 16777216) (hb : ∀ x ∈ b, -16777216 ≤ x ∧ x ≤ 16777216) (d : Nat) :
    ∀ (k i : Nat) (acc : Int), i + d = a.length → d < k → -(i * 281474976710656) ≤ acc → acc ≤ i * 281474976710656 →
      dot_Dot.l0 k b acc a (a.length : Int) (i : Int) = some (acc + dotI (a.drop i) (b.drop i), 0) := by
  induction d with
  | zero =>
    intro k i acc h hk _ _
    obtain ⟨k, rfl⟩ : ∃ m, k = m + 1 := ⟨k - 1, by omega⟩
    simp only [dot_Dot.l0]
    rw [if_neg (by omega), List.drop_of_length_le (by omega : a.length ≤ i)]
    simp [dotI]
  | succ d ih =>
    intro k i acc h hk h0 h1
    obtain ⟨k, rfl⟩ : ∃ m, k = m + 1 := ⟨k - 1, by omega⟩
    have hx := ha _ (rd_mem a i (by omega))
    have hy := hb _ (rd_mem b i (by omega))
    have hp := mul_bound (a := rd a (i : Int)) (b := rd b (i : Int)) (A := 16777216) (B := 16777216) (by omega) (by omega) (by omega) (by omega)
    simp only [dot_Dot.l0]
    rw [if_pos (by omega), if_pos (by omega), if_pos (by omega), if_pos (by omega), w64_succ i a.length (by omega) (by omega), w64 (rd a (i : Int)) (by omega) (by omega), w64 (rd b (i : Int)) (by omega) (by omega), w64 (rd a (i : Int) * rd b (i : Int)) (by omega) (by omega), w64 (acc + rd a (i : Int) * rd b (i : Int)) (by omega) (by omega)]
    rw [ih k (i + 1) _ (by omega) (by omega) (by omega) (by omega), rd_drop a i (by omega), rd_drop b i (by omega)]
    simp only [dotI]
    rw [Int.add_assoc]
/-- What Dot tells. -/
def dotR (a b : List Int) : Int × Int :=
  if (a.length : Int) = (b.length : Int) then (if (a.length : Int) > 1024 then (0, 12) else if mildB a = true ∧ mildB b = true then (dotI a b, 0) else (0, 11)) else (0, 25)
theorem dot_eq (a b : List Int) (k : Nat) (hk : 1027 < k) : dot_Dot.f k a b = some (dotR a b) := by
  obtain ⟨k, rfl⟩ : ∃ m, k = m + 1 := ⟨k - 1, by omega⟩
  unfold dot_Dot.f dotR
  rw [shape_eq, mild_eq a (k + 1) (by omega), mild_eq b (k + 1) (by omega)]
  simp only [Option.bind_some]
  by_cases h1 : (a.length : Int) = (b.length : Int)
  · rw [if_pos h1, if_pos h1]
    by_cases h2 : (a.length : Int) > 1024
    · rw [if_pos h2, if_pos h2, if_neg (by decide)]
    · rw [if_neg h2, if_neg h2, if_pos rfl]
      by_cases ma : mildB a = true
      · rw [if_pos ma]
        by_cases mb : mildB b = true
        · rw [if_pos ⟨ma, mb⟩, mb]
          simp only [dot_Dot.j0]
          rw [if_neg (by decide)]
          have := dot_loop a b (by omega) (by omega) (mild_mem ma).2 (mild_mem mb).2 a.length k 0 0 (by omega) (by omega) (by omega) (by omega)
          rw [List.drop_zero, List.drop_zero, Int.zero_add] at this
          exact this
        · rw [if_neg (fun h => mb h.2)]
          rw [Bool.not_eq_true] at mb
          rw [mb]
          simp only [dot_Dot.j0]
          rw [if_pos (by rfl)]
      · rw [if_neg ma, if_neg (fun h => ma h.1)]
        simp only [dot_Dot.j0]
        rw [if_pos trivial]
  · rw [if_neg h1, if_neg h1, if_neg (by decide)]
theorem rshape_eq (a b : List Int) : credenzaref03_Shape.f a b = some (if (a.length : Int) = (b.length : Int) then (if (a.length : Int) > 1024 then 12 else 0) else 25) := by
  unfold credenzaref03_Shape.f
  repeat' split
  all_goals rfl
theorem rmild_loop (l : List Int) (hl : l.length ≤ 140737488351232) (d : Nat) : ∀ (k i : Nat), i + d = l.length → d < k →
    credenzaref03_Mild.l0 k l (i : Int) = some (decide ((l.length : Int) ≤ 1024) && !((l.drop i).any badI)) := by
  induction d with
  | zero =>
    intro k i h hk
    obtain ⟨k, rfl⟩ : ∃ m, k = m + 1 := ⟨k - 1, by omega⟩
    simp only [credenzaref03_Mild.l0]
    rw [if_neg (by omega), List.drop_of_length_le (by omega)]
    simp
  | succ d ih =>
    intro k i h hk
    obtain ⟨k, rfl⟩ : ∃ m, k = m + 1 := ⟨k - 1, by omega⟩
    simp only [credenzaref03_Mild.l0]
    rw [if_pos (by omega), if_pos (by omega), w64_succ i l.length (by omega) hl, ih k (i + 1) (by omega) (by omega), rd_drop l i (by omega), List.any_cons]
    unfold badI
    by_cases h1 : rd l (i : Int) < -16777216
    · rw [if_pos h1, decide_eq_true h1]; simp
    · rw [if_neg h1, decide_eq_false h1]
      by_cases h2 : rd l (i : Int) > 16777216
      · rw [if_pos h2, decide_eq_true h2]; simp
      · rw [if_neg h2, decide_eq_false h2]; simp
theorem rmild_eq (l : List Int) (hl : l.length ≤ 140737488351232) (k : Nat) (hk : l.length < k) : credenzaref03_Mild.f k l = some (mildB l) := by
  unfold credenzaref03_Mild.f mildB
  have := rmild_loop l hl l.length k 0 (by omega) hk
  rwa [List.drop_zero] at this
theorem rdot_loop (a b : List Int) (hab : a.length = b.length) (hn : a.length ≤ 1024) (ha : ∀ x ∈ a, -16777216 ≤ x ∧ x ≤ 16777216) (hb : ∀ x ∈ b, -16777216 ≤ x ∧ x ≤ 16777216) (d : Nat) :
    ∀ (k i : Nat) (acc : Int), i + d = a.length → d < k → -(i * 281474976710656) ≤ acc → acc ≤ i * 281474976710656 →
      credenzaref03_Dot.l0 k a b acc (i : Int) = some (acc + dotI (a.drop i) (b.drop i)) := by
  induction d with
  | zero =>
    intro k i acc h hk _ _
    obtain ⟨k, rfl⟩ : ∃ m, k = m + 1 := ⟨k - 1, by omega⟩
    simp only [credenzaref03_Dot.l0]
    rw [if_neg (by omega), List.drop_of_length_le (by omega : a.length ≤ i)]
    simp [dotI]
  | succ d ih =>
    intro k i acc h hk h0 h1
    obtain ⟨k, rfl⟩ : ∃ m, k = m + 1 := ⟨k - 1, by omega⟩
    have hx := ha _ (rd_mem a i (by omega))
    have hy := hb _ (rd_mem b i (by omega))
    have hp := mul_bound (a := rd a (i : Int)) (b := rd b (i : Int)) (A := 16777216) (B := 16777216) (by omega) (by omega) (by omega) (by omega)
    simp only [credenzaref03_Dot.l0]
    rw [if_pos (by omega), if_pos (by omega), if_pos (by omega), w64_succ i a.length (by omega) (by omega), w64 (rd a (i : Int)) (by omega) (by omega), w64 (rd b (i : Int)) (by omega) (by omega), w64 (rd a (i : Int) * rd b (i : Int)) (by omega) (by omega), w64 (acc + rd a (i : Int) * rd b (i : Int)) (by omega) (by omega)]
    rw [ih k (i + 1) _ (by omega) (by omega) (by omega) (by omega), rd_drop a i (by omega), rd_drop b i (by omega)]
    simp only [dotI]
    rw [Int.add_assoc]
theorem rdot_eq (a b : List Int) (hab : a.length = b.length) (ma : mildB a = true) (mb : mildB b = true) (k : Nat) (hk : 1025 < k) : credenzaref03_Dot.f k a b = some (dotI a b) := by
  have h1 := mild_mem ma
  have h2 := mild_mem mb
  have := rdot_loop a b hab (by omega) h1.2 h2.2 a.length k 0 0 (by omega) (by omega) (by omega) (by omega)
  rw [List.drop_zero, List.drop_zero, Int.zero_add] at this
  exact this
end Cz

theorem DotSums : credenzalaw03_DotSums.Pure := by
  intro a b _ ha4 ha _ hb4 hb
  have aw : credenzalaw03_awake.f 1100 = some true := by decide +kernel
  have hK : ∃ K : Nat, 1100 ≤ K ∧ a.length < K ∧ b.length < K := ⟨a.length + b.length + 1100, by omega, by omega, by omega⟩
  obtain ⟨K, hK, hKa, hKb⟩ := hK
  refine ⟨K + 2, ?_⟩
  have aw2 := Cz.up credenzalaw03_awake.mono aw (show 1100 ≤ K + 2 by omega)
  have aw0 := Cz.up credenzalaw03_awake.mono aw hK
  have dm := Cz.dot_eq a b (K + 2) (by omega)
  unfold credenzalaw03_DotSums.f
  rw [dm, Cz.rshape_eq, Cz.rmild_eq a (by omega) (K + 2) (by omega), Cz.rmild_eq b (by omega) (K + 2) (by omega), aw2]
  simp only [Option.bind_some]
  unfold Cz.dotR
  by_cases h1 : (a.length : Int) = (b.length : Int)
  · rw [if_pos h1, if_pos h1]
    by_cases h2 : (a.length : Int) > 1024
    · rw [if_pos h2, if_pos h2, if_neg (by decide), if_pos rfl, if_pos rfl]
    · rw [if_neg h2, if_neg h2, if_pos rfl]
      simp only [credenzalaw03_DotSums.j0]
      rw [Cz.mild_eq a (K + 1) (by omega), Cz.rmild_eq a (by omega) (K + 1) (by omega)]
      simp only [Option.bind_some]
      rw [show (Cz.mildB a != Cz.mildB a) = false from by simp]
      by_cases ma : Cz.mildB a = true
      · rw [if_pos ma, if_neg (by decide)]
        simp only [credenzalaw03_DotSums.j1]
        rw [aw0]
        by_cases mb : Cz.mildB b = true
        · have h3 := Cz.mild_mem ma
          have h4 := Cz.mild_mem mb
          have bd := Cz.dotI_bound 16777216 16777216 (by omega) (by omega) a b (fun x hx => by have := h3.2 x hx; omega) (fun x hx => by have := h4.2 x hx; omega)
          rw [Cz.rdot_eq a b (by omega) ma mb K (by omega), mb, if_neg (by decide), if_pos (⟨ma, rfl⟩ : Cz.mildB a = true ∧ true = true)]
          simp only [Option.bind_some]
          rw [if_pos trivial, if_pos trivial, if_pos (by omega), if_pos (by omega)]
        · rw [Bool.not_eq_true] at mb
          simp [mb]
      · rw [if_neg ma, if_neg (show ¬ (Cz.mildB a = true ∧ Cz.mildB b = true) from fun h => ma h.1), if_neg (by decide)]
        simp only [credenzalaw03_DotSums.j1]
        rw [aw0]
        simp
  · rw [if_neg h1, if_neg h1, if_neg (by decide), if_pos rfl, if_pos rfl]

end Go.Proofs.Ytmndomlpdajjmab.Pure
