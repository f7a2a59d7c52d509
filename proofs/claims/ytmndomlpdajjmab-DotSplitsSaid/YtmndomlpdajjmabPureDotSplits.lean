/- The sum of two lists is that of their first parts and that of what is left; it doesn't hang on which list comes first. No condition: for every input. -/
import Derived.Test.YtmndomlpdajjmabDsx1
import Derived.Test.YtmndomlpdajjmabDsx3
import Derived.Test.YtmndomlpdajjmabDsx4
set_option linter.unusedVariables false
set_option linter.unusedSimpArgs false
namespace Go.Proofs.Ytmndomlpdajjmab.Pure
open Go.RowKit Go.Proofs.Ytmndomlpdajjmab.Ds Go.Proofs.YtmndomlpdajjmabW.PrintWords Go.Proofs.YtmndomlpdajjmabW.PrintLast
namespace Cz
theorem w64 (x : Int) (h0 : -9223372036854775808 ≤ x) (h1 : x ≤ 9223372036854775807) : wrap64 x = x := by unfold wrap64; omega
theorem up {α : Type} {f : Nat → Option α} (hm : ∀ k, LeO (f k) (f (k + 1))) {k0 : Nat} {r : α} (h : f k0 = some r) {k : Nat} (hk : k0 ≤ k) : f k = some r := by
  obtain ⟨d, rfl⟩ : ∃ d, k = k0 + d := ⟨k - k0, by omega⟩
  clear hk
  induction d with
  | zero => exact h
  | succ d ih => exact hm _ _ ih
theorem mul_bound {a b A B : Int} (ha : -A ≤ a) (ha' : a ≤ A) (hb : -B ≤ b) (hb' : b ≤ B) : -(A * B) ≤ a * b ∧ a * b ≤ A * B := by
  have h1 : 0 ≤ (A - a) * (B + b) := Int.mul_nonneg (by omega) (by omega)
  have h2 : 0 ≤ (A + a) * (B - b) := Int.mul_nonneg (by omega) (by omega)
  have h3 : 0 ≤ (A - a) * (B - b) := Int.mul_nonneg (by omega) (by omega)
  have h4 : 0 ≤ (A + a) * (B + b) := Int.mul_nonneg (by omega) (by omega)
  simp only [Int.sub_mul, Int.mul_sub, Int.add_mul, Int.mul_add] at h1 h2 h3 h4
  generalize A * B = p at *
  generalize a * b = q at *
  generalize A * b = r at *
  generalize a * B = s at *
  omega
theorem rd_drop (l : List Int) (i : Nat) (h : i < l.length) : l.drop i = rd l (i : Int) :: l.drop (i + 1) := by
  rw [List.drop_eq_getElem_cons h]
  congr 1
  unfold rd
  rw [Int.toNat_natCast, List.getD_eq_getElem?_getD, List.getElem?_eq_getElem h]
  rfl
theorem rd_mem (l : List Int) (i : Nat) (h : i < l.length) : rd l (i : Int) ∈ l := by
  have := rd_drop l i h
  exact List.mem_of_mem_drop (this ▸ List.mem_cons_self : rd l (i : Int) ∈ l.drop i)
theorem w64_succ (i n : Nat) (h : i < n) (hn : n ≤ 140737488351232) : wrap64 ((i : Int) + 1) = ((i + 1 : Nat) : Int) := by
  rw [w64 _ (by omega) (by omega)]; omega
def badI (x : Int) : Bool := decide (x < -16777216) || decide (x > 16777216)
def mildB (l : List Int) : Bool := decide ((l.length : Int) ≤ 1024) && !(l.any badI)
theorem mild1_eq (x : Int) : dot_Mild_1.f x = some (badI x) := by
  unfold dot_Mild_1.f badI
  by_cases h : x < -16777216
  · rw [if_pos h, decide_eq_true h]; rfl
  · rw [if_neg h, decide_eq_false h]; rfl
theorem mild_index (l : List Int) (hl : l.length ≤ 140737488351232) (d : Nat) : ∀ (k i : Nat), i + d = l.length → d < k →
    ∃ r, slices_IndexFunc_int32_int32_of_dot_Mild_1.l0 k l (l.length : Int) (i : Int) = some r ∧ decide (r ≥ 0) = (l.drop i).any badI := by
  induction d with
  | zero =>
    intro k i h hk
    obtain ⟨k, rfl⟩ : ∃ m, k = m + 1 := ⟨k - 1, by omega⟩
    refine ⟨-1, ?_, ?_⟩
    · simp only [slices_IndexFunc_int32_int32_of_dot_Mild_1.l0]; rw [if_neg (by omega)]
    · rw [List.drop_of_length_le (by omega)]; rfl
  | succ d ih =>
    intro k i h hk
    obtain ⟨k, rfl⟩ : ∃ m, k = m + 1 := ⟨k - 1, by omega⟩
    simp only [slices_IndexFunc_int32_int32_of_dot_Mild_1.l0]
    rw [if_pos (by omega), if_pos (by omega), if_pos (by omega), mild1_eq, rd_drop l i (by omega), List.any_cons]
    simp only [Option.bind_some]
    by_cases hb : badI (rd l (i : Int)) = true
    · rw [if_pos hb, hb]
      exact ⟨_, rfl, by simp⟩
    · rw [if_neg hb, w64_succ i l.length (by omega) hl]
      obtain ⟨r, e, hr⟩ := ih k (i + 1) (by omega) (by omega)
      rw [Bool.not_eq_true] at hb
      exact ⟨r, e, by rw [hr, hb]; rfl⟩
theorem mild_eq (l : List Int) (k : Nat) (hk : 1025 < k) : dot_Mild.f k l = some (mildB l) := by
  unfold dot_Mild.f mildB
  by_cases h : (l.length : Int) ≤ 1024
  · rw [if_pos h, decide_eq_true h]
    obtain ⟨r, e, hr⟩ := mild_index l (by omega) l.length k 0 (by omega) (by omega)
    unfold slices_ContainsFunc_int32_int32_of_dot_Mild_1.f slices_IndexFunc_int32_int32_of_dot_Mild_1.f
    have e' : slices_IndexFunc_int32_int32_of_dot_Mild_1.l0 k l (l.length : Int) 0 = some r := e
    rw [e']
    simp only [Option.bind_some]
    rw [hr, List.drop_zero]; rfl
  · rw [if_neg h, decide_eq_false h]; rfl
theorem mild_mem {l : List Int} (h : mildB l = true) : (l.length : Int) ≤ 1024 ∧ ∀ x ∈ l, -16777216 ≤ x ∧ x ≤ 16777216 := by
  unfold mildB at h
  rw [Bool.and_eq_true, decide_eq_true_eq, Bool.not_eq_true', List.any_eq_false] at h
  refine ⟨h.1, fun x hx => ?_⟩
  have := h.2 x hx
  simp only [badI, Bool.or_eq_true, decide_eq_true_eq] at this
  omega
theorem mild_of {l : List Int} (h0 : (l.length : Int) ≤ 1024) (h : ∀ x ∈ l, -16777216 ≤ x ∧ x ≤ 16777216) : mildB l = true := by
  unfold mildB
  rw [Bool.and_eq_true, decide_eq_true_eq, Bool.not_eq_true', List.any_eq_false]
  refine ⟨h0, fun x hx => ?_⟩
  have := h x hx
  simp only [badI, Bool.or_eq_true, decide_eq_true_eq]
  omega
/-- The sum of the products. -/
def dotI : List Int → List Int → Int
  | x :: xs, y :: ys => x * y + dotI xs ys
  | _, _ => 0
theorem dotI_bound (A B : Int) (hA : 0 ≤ A) (hB : 0 ≤ B) : ∀ (a b : List Int), (∀ x ∈ a, -A ≤ x ∧ x ≤ A) → (∀ x ∈ b, -B ≤ x ∧ x ≤ B) → -(a.length * (A * B)) ≤ dotI a b ∧ dotI a b ≤ a.length * (A * B)
  | [], b, _, _ => by simp [dotI]
  | x :: xs, [], _, _ => by
    have : 0 ≤ ((x :: xs).length : Int) * (A * B) := Int.mul_nonneg (by omega) (Int.mul_nonneg hA hB)
    simp only [dotI]; omega
  | x :: xs, y :: ys, ha, hb => by
    have ih := dotI_bound A B hA hB xs ys (fun z hz => ha z (List.mem_cons_of_mem _ hz)) (fun z hz => hb z (List.mem_cons_of_mem _ hz))
    have h1 := ha x List.mem_cons_self
    have h2 := hb y List.mem_cons_self
    have h3 := mul_bound (a := x) (b := y) (A := A) (B := B) (by omega) (by omega) (by omega) (by omega)
    have e : (((x :: xs).length : Nat) : Int) * (A * B) = xs.length * (A * B) + A * B := by rw [List.length_cons, Int.natCast_succ, Int.add_mul, Int.one_mul]
    simp only [dotI]
    rw [e]
    omega
theorem shape_eq (a b : List Int) : dot_shape.f a b = some (if (a.length : Int) = (b.length : Int) then (if (a.length : Int) > 1024 then 12 else 0) else 25) := by
  unfold dot_shape.f
  repeat' split
  all_goals rfl
theorem dot_loop (a b : List Int) (hab : a.length = b.length) (hn : a.length ≤ 1024) (ha : ∀ x ∈ a, -16777216 ≤ x ∧ x ≤ 16777216) (hb : ∀ x ∈ b, -16777216 ≤ x ∧ x ≤ 16777216) (d : Nat) :
    ∀ (k i : Nat) (acc : Int), i + d = a.length → d < k → -(i * 281474976710656) ≤ acc → acc ≤ i * 281474976710656 →
      dot_Dot.l0 k b acc a (a.length : Int) (i : Int) = some (acc + dotI (a.drop i) (b.drop i), 0) := by
  induction d with
  | zero =>
    intro k i acc h hk _ _
    obtain ⟨k, rfl⟩ : ∃ m, k = m + 1 := ⟨k - 1, by omega⟩
    simp only [dot_Dot.l0]
    rw [if_neg (by omega), List.drop_of_length_le (by omega : a.length ≤ i)]
    simp [dotI]
  | succ d ih =>
    intro k i acc h hk h0 h1
    obtain ⟨k, rfl⟩ : ∃ m, k = m + 1 := ⟨k - 1, by omega⟩
    have hx := ha _ (rd_mem a i (by omega))
    have hy := hb _ (rd_mem b i (by omega))
    have hp := mul_bound (a := rd a (i : Int)) (b := rd b (i : Int)) (A := 16777216) (B := 16777216) (by omega) (by omega) (by omega) (by omega)
    simp only [dot_Dot.l0]
    rw [if_pos (by omega), if_pos (by omega), if_pos (by omega), if_pos (by omega), w64_succ i a.length (by omega) (by omega), w64 (rd a (i : Int)) (by omega) (by omega), w64 (rd b (i : Int)) (by omega) (by omega), w64 (rd a (i : Int) * rd b (i : Int)) (by omega) (by omega), w64 (acc + rd a (i : Int) * rd b (i : Int)) (by omega) (by omega)]
    rw [ih k (i + 1) _ (by omega) (by omega) (by omega) (by omega), rd_drop a i (by omega), rd_drop b i (by omega)]
    simp only [dotI]
    rw [Int.add_assoc]
/-- What Dot tells. -/
def dotR (a b : List Int) : Int × Int :=
  if (a.length : Int) = (b.length : Int) then (if (a.length : Int) > 1024 then (0, 12) else if mildB a = true ∧ mildB b = true then (dotI a b, 0) else (0, 11)) else (0, 25)
theorem dot_eq (a b : List Int) (k : Nat) (hk : 1027 < k) : dot_Dot.f k a b = some (dotR a b) := by
  obtain ⟨k, rfl⟩ : ∃ m, k = m + 1 := ⟨k - 1, by omega⟩
  unfold dot_Dot.f dotR
  rw [shape_eq, mild_eq a (k + 1) (by omega), mild_eq b (k + 1) (by omega)]
  simp only [Option.bind_some]
  by_cases h1 : (a.length : Int) = (b.length : Int)
  · rw [if_pos h1, if_pos h1]
    by_cases h2 : (a.length : Int) > 1024
    · rw [if_pos h2, if_pos h2, if_neg (by decide)]
    · rw [if_neg h2, if_neg h2, if_pos rfl]
      by_cases ma : mildB a = true
      · rw [if_pos ma]
        by_cases mb : mildB b = true
        · rw [if_pos ⟨ma, mb⟩, mb]
          simp only [dot_Dot.j0]
          rw [if_neg (by decide)]
          have := dot_loop a b (by omega) (by omega) (mild_mem ma).2 (mild_mem mb).2 a.length k 0 0 (by omega) (by omega) (by omega) (by omega)
          rw [List.drop_zero, List.drop_zero, Int.zero_add] at this
          exact this
        · rw [if_neg (fun h => mb h.2)]
          rw [Bool.not_eq_true] at mb
          rw [mb]
          simp only [dot_Dot.j0]
          rw [if_pos (by rfl)]
      · rw [if_neg ma, if_neg (fun h => ma h.1)]
        simp only [dot_Dot.j0]
        rw [if_pos trivial]
  · rw [if_neg h1, if_neg h1, if_neg (by decide)]
theorem rmild_loop (l : List Int) (hl : l.length ≤ 140737488351232) (d : Nat) : ∀ (k i : Nat), i + d = l.length → d < k →
    credenzaref03_Mild.l0 k l (i : Int) = some (decide ((l.length : Int) ≤ 1024) && !((l.drop i).any badI)) := by
  induction d with
  | zero =>
    intro k i h hk
    obtain ⟨k, rfl⟩ : ∃ m, k = m + 1 := ⟨k - 1, by omega⟩
    simp only [credenzaref03_Mild.l0]
    rw [if_neg (by omega), List.drop_of_length_le (by omega)]
    simp
  | succ d ih =>
    intro k i h hk
    obtain ⟨k, rfl⟩ : ∃ m, k = m + 1 := ⟨k - 1, by omega⟩
    simp only [credenzaref03_Mild.l0]
    rw [if_pos (by omega), if_pos (by omega), w64_succ i l.length (by omega) hl, ih k (i + 1) (by omega) (by omega), rd_drop l i (by omega), List.any_cons]
    unfold badI
    by_cases h1 : rd l (i : Int) < -16777216
    · rw [if_pos h1, decide_eq_true h1]; simp
    · rw [if_neg h1, decide_eq_false h1]
      by_cases h2 : rd l (i : Int) > 16777216
      · rw [if_pos h2, decide_eq_true h2]; simp
      · rw [if_neg h2, decide_eq_false h2]; simp
theorem rmild_eq (l : List Int) (hl : l.length ≤ 140737488351232) (k : Nat) (hk : l.length < k) : credenzaref03_Mild.f k l = some (mildB l) := by
  unfold credenzaref03_Mild.f mildB
  have := rmild_loop l hl l.length k 0 (by omega) hk
  rwa [List.drop_zero] at this
theorem dotI_comm : ∀ (a b : List Int), dotI a b = dotI b a
  | [], [] => rfl
  | [], _ :: _ => rfl
  | _ :: _, [] => rfl
  | x :: xs, y :: ys => by simp only [dotI]; rw [dotI_comm xs ys, Int.mul_comm]
theorem dotI_split : ∀ (n : Nat) (a b : List Int), dotI a b = dotI (a.take n) (b.take n) + dotI (a.drop n) (b.drop n)
  | 0, a, b => by simp [dotI]
  | n + 1, [], b => by simp [dotI]
  | n + 1, x :: xs, [] => by simp [dotI]
  | n + 1, x :: xs, y :: ys => by
    simp only [dotI, List.take_succ_cons, List.drop_succ_cons]
    rw [dotI_split n xs ys, Int.add_assoc]
theorem dotR_mild {a b : List Int} (hab : a.length = b.length) (ha : mildB a = true) (hb : mildB b = true) : dotR a b = (dotI a b, 0) := by
  have h1 := (mild_mem ha).1
  unfold dotR
  rw [if_pos (by omega), if_neg (by omega), if_pos ⟨ha, hb⟩]
end Cz

theorem DotSplits : credenzalaw03_DotSplits.Pure := by
  intro a b at_ _ _ ha _ _ hb _
  have aw : credenzalaw03_awake.f 1200 = some true := by decide +kernel
  have awk := fun k (hk : 1200 ≤ k) => Cz.up credenzalaw03_awake.mono aw hk
  refine ⟨6001, ?_⟩
  have J : credenzalaw03_DotSplits.j0 6001 a b at_ true = some true := by
    simp only [credenzalaw03_DotSplits.j0]
    rw [if_pos trivial, awk _ (by omega)]; rfl
  unfold credenzalaw03_DotSplits.f
  by_cases c0 : (a.length : Int) = (b.length : Int)
  · rw [if_pos c0]
    by_cases c1 : (a.length : Int) > 1024
    · rw [if_pos c1]; exact J
    rw [if_neg c1, Cz.rmild_eq a (by omega) 6001 (by omega), Cz.rmild_eq b (by omega) 6001 (by omega)]
    simp only [Option.bind_some]
    by_cases ma : Cz.mildB a = true
    · rw [if_pos ma]
      by_cases mb : Cz.mildB b = true
      · rw [if_pos mb]
        by_cases c2 : at_ < 0
        · rw [if_pos c2]; exact J
        rw [if_neg c2]
        by_cases c3 : at_ > (a.length : Int)
        · rw [decide_eq_true c3]; exact J
        rw [decide_eq_false c3]
        obtain ⟨n, rfl⟩ := Int.eq_ofNat_of_zero_le (show 0 ≤ at_ by omega)
        have hm := Cz.mild_mem ma
        have hn := Cz.mild_mem mb
        have t1 : Cz.mildB (a.take n) = true := Cz.mild_of (by rw [List.length_take]; omega) (fun x hx => hm.2 x (List.mem_of_mem_take hx))
        have t2 : Cz.mildB (b.take n) = true := Cz.mild_of (by rw [List.length_take]; omega) (fun x hx => hn.2 x (List.mem_of_mem_take hx))
        have t3 : Cz.mildB (a.drop n) = true := Cz.mild_of (by rw [List.length_drop]; omega) (fun x hx => hm.2 x (List.mem_of_mem_drop hx))
        have t4 : Cz.mildB (b.drop n) = true := Cz.mild_of (by rw [List.length_drop]; omega) (fun x hx => hn.2 x (List.mem_of_mem_drop hx))
        have b1 := Cz.dotI_bound 16777216 16777216 (by omega) (by omega) a b hm.2 hn.2
        have e := Cz.dotI_split n a b
        simp only [credenzalaw03_DotSplits.j0]
        rw [if_neg (by decide), Cz.dot_eq _ _ 6000 (by omega), Cz.dot_eq _ _ 6000 (by omega), Cz.dotR_mild (by omega) ma mb, Cz.dotR_mild (by omega) mb ma]
        simp only [Option.bind_some]
        rw [if_pos (by omega), if_pos (by omega), if_pos (by omega), Int.toNat_natCast, Cz.dot_eq _ _ 6000 (by omega), Cz.dotR_mild (by rw [List.length_take, List.length_take]; omega) t1 t2]
        simp only [Option.bind_some]
        rw [Cz.dot_eq _ _ 6000 (by omega), Cz.dotR_mild (by rw [List.length_drop, List.length_drop]; omega) t3 t4]
        simp only [Option.bind_some]
        rw [if_pos trivial, if_pos trivial, if_pos trivial, if_pos trivial, if_pos (Cz.dotI_comm a b), Cz.w64 _ (by omega) (by omega), if_pos e, awk _ (by omega)]
        rfl
      · rw [if_neg mb]; exact J
    · rw [if_neg ma]; exact J
  · rw [if_neg c0]; exact J

end Go.Proofs.Ytmndomlpdajjmab.Pure
