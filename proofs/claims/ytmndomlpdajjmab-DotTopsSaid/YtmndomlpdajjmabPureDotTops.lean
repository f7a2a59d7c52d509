/- The greatest number of any list is told, and the first place where it stands. No condition: for every input. -/
import Derived.Test.YtmndomlpdajjmabQx2
import Derived.Test.YtmndomlpdajjmabQx3
import Derived.Test.YtmndomlpdajjmabQx6
import Derived.Test.YtmndomlpdajjmabQx7
set_option linter.unusedVariables false
set_option linter.unusedSimpArgs false
namespace Go.Proofs.Ytmndomlpdajjmab.Pure
open Go.RowKit Go.Proofs.Ytmndomlpdajjmab.Q Go.Proofs.YtmndomlpdajjmabW.PrintWords Go.Proofs.YtmndomlpdajjmabW.PrintLast
namespace Cz
theorem w64 (x : Int) (h0 : -9223372036854775808 ≤ x) (h1 : x ≤ 9223372036854775807) : wrap64 x = x := by unfold wrap64; omega
theorem up {α : Type} {f : Nat → Option α} (hm : ∀ k, LeO (f k) (f (k + 1))) {k0 : Nat} {r : α} (h : f k0 = some r) {k : Nat} (hk : k0 ≤ k) : f k = some r := by
  obtain ⟨d, rfl⟩ : ∃ d, k = k0 + d := ⟨k - k0, by omega⟩
  clear hk
  induction d with
  | zero => exact h
  | succ d ih => exact hm _ _ ih
theorem w64_succ (i n : Nat) (h : i < n) (hn : n ≤ 140737488351232) : wrap64 ((i : Int) + 1) = ((i + 1 : Nat) : Int) := by
  rw [w64 _ (by omega) (by omega)]; omega
/-- The first place of the greatest one. -/
def FirstMax (l : List Int) (p : Nat) : Prop := p < l.length ∧ (∀ j : Nat, j < l.length → rd l (j : Int) ≤ rd l (p : Int)) ∧ ∀ j : Nat, j < p → rd l (j : Int) < rd l (p : Int)
theorem first_unique {l : List Int} {p q : Nat} (hp : FirstMax l p) (hq : FirstMax l q) : p = q := by
  obtain ⟨p0, p1, p2⟩ := hp
  obtain ⟨q0, q1, q2⟩ := hq
  have h1 := p1 q q0
  have h2 := q1 p p0
  rcases Nat.lt_trichotomy p q with h | h | h
  · have := q2 p h; omega
  · exact h
  · have := p2 q h; omega
theorem max_loop (l : List Int) (hn : l.length ≤ 140737488351232) (d : Nat) : ∀ (k i : Nat) (m : Int), i + d = l.length → d < k → (∀ j : Nat, j < i → rd l (j : Int) ≤ m) → (∃ j : Nat, j < i ∧ rd l (j : Int) = m) →
    ∃ M, slices_Max_int32_int32.l0 k l m (i : Int) = some M ∧ (∀ j : Nat, j < l.length → rd l (j : Int) ≤ M) ∧ ∃ j : Nat, j < l.length ∧ rd l (j : Int) = M := by
  induction d with
  | zero =>
    intro k i m h hk hm he
    obtain ⟨k, rfl⟩ : ∃ m, k = m + 1 := ⟨k - 1, by omega⟩
    obtain rfl : i = l.length := by omega
    refine ⟨m, ?_, hm, he⟩
    simp only [slices_Max_int32_int32.l0]
    rw [if_neg (by omega)]
  | succ d ih =>
    intro k i m h hk hm he
    obtain ⟨k, rfl⟩ : ∃ m, k = m + 1 := ⟨k - 1, by omega⟩
    simp only [slices_Max_int32_int32.l0]
    rw [if_pos (by omega), if_pos (by omega), w64_succ i l.length (by omega) hn]
    have hmx : m ≤ mx m (rd l (i : Int)) ∧ rd l (i : Int) ≤ mx m (rd l (i : Int)) ∧ (mx m (rd l (i : Int)) = m ∨ mx m (rd l (i : Int)) = rd l (i : Int)) := by unfold mx; split <;> omega
    apply ih k (i + 1) _ (by omega) (by omega)
    · intro j hj
      rcases Nat.lt_succ_iff_lt_or_eq.mp hj with h1 | rfl
      · have := hm j h1; omega
      · exact hmx.2.1
    · rcases hmx.2.2 with h1 | h1
      · obtain ⟨j, hj, e⟩ := he
        exact ⟨j, by omega, by rw [e, h1]⟩
      · exact ⟨i, by omega, h1.symm⟩
theorem index_loop (l : List Int) (v : Int) (hn : l.length ≤ 140737488351232) (d : Nat) : ∀ (k i : Nat), i + d = l.length → d < k → (∃ j : Nat, i ≤ j ∧ j < l.length ∧ rd l (j : Int) = v) →
    ∃ p : Nat, slices_Index_int32_int32.l0 k l v (l.length : Int) (i : Int) = some (p : Int) ∧ i ≤ p ∧ p < l.length ∧ rd l (p : Int) = v ∧ ∀ j : Nat, i ≤ j → j < p → rd l (j : Int) ≠ v := by
  induction d with
  | zero =>
    intro k i h hk he
    obtain ⟨j, h1, h2, -⟩ := he
    omega
  | succ d ih =>
    intro k i h hk he
    obtain ⟨k, rfl⟩ : ∃ m, k = m + 1 := ⟨k - 1, by omega⟩
    simp only [slices_Index_int32_int32.l0]
    rw [if_pos (by omega), if_pos (by omega), if_pos (by omega)]
    by_cases c : v = rd l (i : Int)
    · rw [if_pos c]
      exact ⟨i, rfl, by omega, by omega, c.symm, fun j h1 h2 => by omega⟩
    · rw [if_neg c, w64_succ i l.length (by omega) hn]
      obtain ⟨j, h1, h2, h3⟩ := he
      have hj : i + 1 ≤ j := by
        rcases Nat.eq_or_lt_of_le h1 with rfl | h4
        · exact absurd h3.symm c
        · omega
      obtain ⟨p, e, g1, g2, g3, g4⟩ := ih k (i + 1) (by omega) (by omega) ⟨j, hj, h2, h3⟩
      refine ⟨p, e, by omega, g2, g3, fun j h5 h6 => ?_⟩
      rcases Nat.eq_or_lt_of_le h5 with rfl | h7
      · exact fun e2 => c e2.symm
      · exact g4 j (by omega) h6
theorem top_eq (l : List Int) (h0 : 0 < l.length) (hn : l.length ≤ 140737488351232) (k : Nat) (hk : l.length < k) : ∃ p : Nat, FirstMax l p ∧ dot_Top.f k l = some ((p : Int), rd l (p : Int), 0) := by
  obtain ⟨M, eM, hM, j, hj, ej⟩ := max_loop l hn (l.length - 1) k 1 (rd l ((0 : Nat) : Int)) (by omega) (by omega) (fun j h => Nat.lt_one_iff.mp h ▸ Int.le_refl _) ⟨0, by omega, rfl⟩
  obtain ⟨p, ep, -, hp, rp, np⟩ := index_loop l M hn l.length k 0 (by omega) hk ⟨j, by omega, hj, ej⟩
  refine ⟨p, ⟨hp, fun q hq => by rw [rp]; exact hM q hq, fun q hq => ?_⟩, ?_⟩
  · have h1 := hM q (by omega)
    have h2 := np q (by omega) hq
    rw [rp]; omega
  · unfold dot_Top.f slices_Max_int32_int32.f slices_Index_int32_int32.f
    rw [if_neg (by omega), if_neg (by omega), if_pos (by omega)]
    have eM' : slices_Max_int32_int32.l0 k l (rd l 0) 1 = some M := eM
    have ep' : slices_Index_int32_int32.l0 k l M (l.length : Int) 0 = some (p : Int) := ep
    rw [eM']
    simp only [Option.bind_some]
    rw [ep', rp]; rfl
theorem top_nil (k : Nat) : dot_Top.f k [] = some (0, 0, 14) := by
  unfold dot_Top.f; rw [if_pos (by rfl)]
theorem rtop_loop (l : List Int) (hn : l.length ≤ 140737488351232) (d : Nat) : ∀ (k i p : Nat), i + d = l.length → d < k → p < l.length → (∀ j : Nat, j < i → rd l (j : Int) ≤ rd l (p : Int)) → (∀ j : Nat, j < p → rd l (j : Int) < rd l (p : Int)) →
    p ≤ i → ∃ q : Nat, credenzaref03_Top.l0 k l (p : Int) (i : Int) = some (q : Int) ∧ FirstMax l q := by
  induction d with
  | zero =>
    intro k i p h hk hp h1 h2 h3
    obtain ⟨k, rfl⟩ : ∃ m, k = m + 1 := ⟨k - 1, by omega⟩
    refine ⟨p, ?_, hp, fun j hj => h1 j (by omega), h2⟩
    simp only [credenzaref03_Top.l0]
    rw [if_neg (by omega)]
  | succ d ih =>
    intro k i p h hk hp h1 h2 h3
    obtain ⟨k, rfl⟩ : ∃ m, k = m + 1 := ⟨k - 1, by omega⟩
    simp only [credenzaref03_Top.l0]
    rw [if_pos (by omega), if_pos (by omega), if_pos (by omega), if_pos (by omega), w64_succ i l.length (by omega) hn]
    by_cases c : rd l (i : Int) > rd l (p : Int)
    · rw [if_pos c]
      apply ih k (i + 1) i (by omega) (by omega) (by omega)
      · intro j hj
        rcases Nat.lt_succ_iff_lt_or_eq.mp hj with h4 | rfl
        · have := h1 j h4; omega
        · exact Int.le_refl _
      · intro j hj
        have := h1 j hj
        omega
      · omega
    · rw [if_neg c]
      apply ih k (i + 1) p (by omega) (by omega) hp
      · intro j hj
        rcases Nat.lt_succ_iff_lt_or_eq.mp hj with h4 | rfl
        · exact h1 j h4
        · omega
      · exact h2
      · omega
theorem rtop_eq (l : List Int) (h0 : 0 < l.length) (hn : l.length ≤ 140737488351232) (k : Nat) (hk : l.length < k) : ∃ p : Nat, FirstMax l p ∧ credenzaref03_Top.f k l = some (p : Int) := by
  obtain ⟨q, e, hq⟩ := rtop_loop l hn l.length k 0 0 (by omega) hk h0 (fun j h => by omega) (fun j h => by omega) (by omega)
  exact ⟨q, hq, e⟩
end Cz

theorem DotTops : credenzalaw03_DotTops.Pure := by
  intro l _ _ hl
  refine ⟨2100, ?_⟩
  have aw : credenzalaw03_awake.f 1100 = some true := by decide +kernel
  have aw2 := Cz.up credenzalaw03_awake.mono aw (show 1100 ≤ 2100 by omega)
  unfold credenzalaw03_DotTops.f
  rw [aw2]
  by_cases h0 : (l.length : Int) > 2000
  · rw [if_pos h0]; rfl
  rw [if_neg h0]
  by_cases h1 : l.length = 0
  · obtain rfl := List.eq_nil_of_length_eq_zero h1
    rw [Cz.top_nil]
    rfl
  · obtain ⟨p, hp, ep⟩ := Cz.top_eq l (by omega) (by omega) 2100 (by omega)
    obtain ⟨q, hq, eq'⟩ := Cz.rtop_eq l (by omega) (by omega) 2100 (by omega)
    obtain rfl := Cz.first_unique hp hq
    have hpl := hp.1
    rw [ep, eq']
    simp only [Option.bind_some, if_true]
    rw [if_neg (by omega), if_pos (by omega), if_pos (by omega)]

end Go.Proofs.Ytmndomlpdajjmab.Pure
