/- Each number of what a table makes hangs on its own row alone. No condition: for every input. -/
import Derived.Test.YtmndomlpdajjmabMpx1
import Derived.Test.YtmndomlpdajjmabMpx2
import Derived.Test.YtmndomlpdajjmabMpx3
import Derived.Test.YtmndomlpdajjmabMpx4
import Derived.Test.YtmndomlpdajjmabMpx5
set_option linter.unusedVariables false
set_option linter.unusedSimpArgs false
namespace Go.Proofs.Ytmndomlpdajjmab.Pure
open Go.RowKit Go.Proofs.Ytmndomlpdajjmab.Mp Go.Proofs.YtmndomlpdajjmabW.PrintWords Go.Proofs.YtmndomlpdajjmabW.PrintLast
namespace Cz

/-- Divided by d, rounded, a half to the even one. -/
def rnd (a d : Int) : Int :=
  if a % d > d - a % d then a / d + 1 else if a % d = d - a % d ∧ (a / d) % 2 = 1 then a / d + 1 else a / d
/-- What is promised of a rounded fraction. -/
def Near (a d r : Int) : Prop := 2 * (a - r * d) ≤ d ∧ -d ≤ 2 * (a - r * d) ∧ ((2 * (a - r * d) = d ∨ 2 * (a - r * d) = -d) → r % 2 = 0)
theorem rnd_near (a d : Int) (hd : 0 < d) : Near a d (rnd a d) := by
  have h1 := Int.emod_add_mul_ediv a d
  have h2 := Int.emod_nonneg a (by omega : d ≠ 0)
  have h3 := Int.emod_lt_of_pos a hd
  unfold Near rnd
  generalize a % d = m at *
  generalize a / d = q at *
  have e1 : (q + 1) * d = d * q + d := by rw [Int.add_mul, Int.one_mul, Int.mul_comm]
  have e2 : q * d = d * q := Int.mul_comm _ _
  generalize hk : d * q = k at *
  split
  · rw [e1]; omega
  · split
    · rw [e1]; omega
    · rw [e2]; omega
theorem near_le {a b d r s : Int} (hd : 0 < d) (ha : Near a d r) (hb : Near b d s) (h : a ≤ b) : r ≤ s := by
  obtain ⟨a1, a2, a3⟩ := ha
  obtain ⟨b1, b2, b3⟩ := hb
  by_cases hlt : s < r
  · exfalso
    obtain ⟨k, rfl⟩ : ∃ k : Int, r = s + 1 + k := ⟨r - s - 1, by omega⟩
    have hk : 0 ≤ k := by omega
    have e1 : (s + 1 + k) * d = s * d + d + k * d := by rw [Int.add_mul, Int.add_mul, Int.one_mul]
    rw [e1] at a1 a2 a3
    have hkd : 0 ≤ k * d := Int.mul_nonneg hk (by omega)
    generalize s * d = sd at *
    by_cases h0 : k = 0
    · subst h0
      rw [Int.zero_mul] at *
      have := a3 (by omega)
      have := b3 (by omega)
      omega
    · have : d ≤ k * d := by
        have := Int.mul_le_mul_of_nonneg_right (show (1 : Int) ≤ k by omega) (show 0 ≤ d by omega)
        omega
      generalize k * d = kd at *
      omega
  · omega
theorem near_unique {a d r s : Int} (hd : 0 < d) (ha : Near a d r) (hb : Near a d s) : r = s :=
  Int.le_antisymm (near_le hd ha hb (Int.le_refl a)) (near_le hd hb ha (Int.le_refl a))
theorem rnd_unique {a d r : Int} (hd : 0 < d) (h : Near a d r) : rnd a d = r := near_unique hd (rnd_near a d hd) h
theorem rnd_mul (q d : Int) (hd : 0 < d) : rnd (q * d) d = q := by
  apply rnd_unique hd
  unfold Near
  rw [Int.sub_self]
  omega
theorem rnd_one (a : Int) : rnd a 1 = a := by
  have := rnd_mul a 1 (by omega)
  rwa [Int.mul_one] at this
theorem two_pow_pos (n : Nat) : (0 : Int) < 2 ^ n := Int.pow_pos (by omega)
theorem two_pow_le (m : Nat) (d : Nat) : (2 : Int) ^ m ≤ 2 ^ (m + d) := by
  induction d with
  | zero => exact Int.le_refl _
  | succ d ih =>
    have h := two_pow_pos (m + d)
    have e : (2 : Int) ^ (m + (d + 1)) = 2 * 2 ^ (m + d) := by rw [← Nat.add_assoc, Int.pow_succ, Int.mul_comm]
    omega
theorem two_pow_max {m n : Nat} (h : m ≤ n) : (2 : Int) ^ m ≤ 2 ^ n := by
  obtain ⟨d, rfl⟩ : ∃ d, n = m + d := ⟨n - m, by omega⟩
  exact two_pow_le m d
theorem two_pow_62 {m : Nat} (h : m ≤ 62) : (2 : Int) ^ m ≤ 4611686018427387904 := two_pow_max h
theorem two_pow_succ (n : Nat) : (2 : Int) ^ (n + 1) = 2 * 2 ^ n := by rw [Int.pow_succ, Int.mul_comm]
theorem w64 (x : Int) (h0 : -9223372036854775808 ≤ x) (h1 : x ≤ 9223372036854775807) : wrap64 x = x := by unfold wrap64; omega
theorem w64_sub (a b : Int) : wrap64 (a - wrap64 b) = wrap64 (a - b) := by unfold wrap64; omega
theorem wf32 {x : Int} (h : (Lit.int .i32 x).wf = true) : -2147483648 ≤ x ∧ x ≤ 2147483647 := by
  simp only [Lit.wf, IntKind.min, IntKind.max, IntKind.signed, IntKind.bits, Bool.and_eq_true, decide_eq_true_eq, if_true] at h
  omega
theorem and1 (x : Int) : Go.bits .and .i64 x 1 = x % 2 := by
  have h : (BitVec.ofInt 64 x &&& BitVec.ofInt 64 1).toNat = ((x % 2).toNat) := by
    have e : (BitVec.ofInt 64 1).toNat = 2 ^ 1 - 1 := by decide
    rw [BitVec.toNat_and, e, Nat.and_two_pow_sub_one_eq_mod, BitVec.toNat_ofInt]
    omega
  show IntKind.i64.wrap (((BitVec.ofInt 64 x &&& BitVec.ofInt 64 1).toNat : Nat) : Int) = _
  rw [h, IntKind.wrap_i64]
  omega
theorem up {α : Type} {f : Nat → Option α} (hm : ∀ k, LeO (f k) (f (k + 1))) {k0 : Nat} {r : α} (h : f k0 = some r) {k : Nat} (hk : k0 ≤ k) : f k = some r := by
  obtain ⟨d, rfl⟩ : ∃ d, k = k0 + d := ⟨k - k0, by omega⟩
  clear hk
  induction d with
  | zero => exact h
  | succ d ih => exact hm _ _ ih
theorem mul_bound {a b A B : Int} (ha : -A ≤ a) (ha' : a ≤ A) (hb : -B ≤ b) (hb' : b ≤ B) : -(A * B) ≤ a * b ∧ a * b ≤ A * B := by
  have h1 : 0 ≤ (A - a) * (B + b) := Int.mul_nonneg (by omega) (by omega)
  have h2 : 0 ≤ (A + a) * (B - b) := Int.mul_nonneg (by omega) (by omega)
  have h3 : 0 ≤ (A - a) * (B - b) := Int.mul_nonneg (by omega) (by omega)
  have h4 : 0 ≤ (A + a) * (B + b) := Int.mul_nonneg (by omega) (by omega)
  simp only [Int.sub_mul, Int.mul_sub, Int.add_mul, Int.mul_add] at h1 h2 h3 h4
  generalize A * B = p at *
  generalize a * b = q at *
  generalize A * b = r at *
  generalize a * B = s at *
  omega
theorem div_half (v D : Int) (hD : 2 ≤ D) (h0 : -9223372036854775808 ≤ v) (h1 : v ≤ 9223372036854775807) : -4611686018427387904 ≤ v / D ∧ v / D ≤ 4611686018427387903 := by
  constructor
  · exact Int.le_ediv_of_mul_le (by omega) (by omega)
  · have : v / D < 4611686018427387904 := Int.ediv_lt_of_lt_mul (by omega) (by omega)
    omega
/-- Cut to a range. -/
def cutI (v lo hi : Int) : Int := if v < lo then lo else if v > hi then hi else v
def narrow (v : Int) : Int := cutI v (-8388608) 8388608
theorem narrow_range (v : Int) : -8388608 ≤ narrow v ∧ narrow v ≤ 8388608 := by unfold narrow cutI; omega
theorem cut_eq (v lo hi : Int) (h0 : -2147483648 ≤ lo) (h1 : lo ≤ hi) (h2 : hi ≤ 2147483647) : fix_cut.f v lo hi = some (cutI v lo hi) := by
  unfold fix_cut.f cutI mn mx wrap32
  congr 1
  split <;> split <;> (try split) <;> (try split) <;> omega
theorem narrow_eq (v : Int) : fix_Narrow.f v = some (narrow v) := by
  unfold fix_Narrow.f
  rw [cut_eq _ _ _ (by omega) (by omega) (by omega)]; rfl
theorem half_core (v : Int) (m : Nat) (hm : m ≤ 62) (h0 : -9223372036854775808 ≤ v) (h1 : v ≤ 9223372036854775807) :
    (if (wrap64 (v - (wrap64 ((v / 2 ^ m) * 2 ^ m)))) > ((wrap64 (2 ^ m)) / 2) then (some (wrap64 ((v / 2 ^ m) + 1))) else (if (wrap64 (v - (wrap64 ((v / 2 ^ m) * 2 ^ m)))) = ((wrap64 (2 ^ m)) / 2) then (if (m : Int) > 0 then (if (v / 2 ^ m) % 2 = 1 then (some (wrap64 ((v / 2 ^ m) + 1))) else (some (v / 2 ^ m))) else (some (v / 2 ^ m))) else (some (v / 2 ^ m)))) = some (rnd v (2 ^ m)) := by
  have hD : (2 : Int) ^ m ≤ 4611686018427387904 := two_pow_62 hm
  have hp := two_pow_pos m
  have e1 := Int.emod_add_mul_ediv v (2 ^ m)
  have e2 := Int.emod_nonneg v (by omega : (2 : Int) ^ m ≠ 0)
  have e3 := Int.emod_lt_of_pos v hp
  have e4 : v - (v / 2 ^ m) * 2 ^ m = v % 2 ^ m := by rw [Int.mul_comm]; omega
  rw [w64_sub, e4, w64 (v % 2 ^ m) (by omega) (by omega), w64 (2 ^ m) (by omega) (by omega)]
  rcases Nat.eq_zero_or_pos m with rfl | hpos
  · have e5 : v % 2 ^ 0 = 0 := by rw [Int.pow_zero]; omega
    rw [e5, Int.pow_zero, Int.ediv_one, rnd_one, if_neg (by decide), if_pos (by decide), if_neg (by decide)]
  · obtain ⟨n, rfl⟩ : ∃ n, m = n + 1 := ⟨m - 1, by omega⟩
    have hq := div_half v (2 ^ (n + 1)) (by have := two_pow_pos n; rw [two_pow_succ]; omega) h0 h1
    rw [w64 (v / 2 ^ (n + 1) + 1) (by omega) (by omega)]
    unfold rnd
    have e6 : (2 : Int) ^ (n + 1) / 2 = 2 ^ n := by rw [two_pow_succ]; omega
    have e7 := two_pow_succ n
    rw [e6]
    generalize v % 2 ^ (n + 1) = r at *
    generalize v / 2 ^ (n + 1) = q at *
    rw [e7]
    generalize (2 : Int) ^ n = d at *
    clear e1 e4 e6
    repeat' split
    all_goals first | rfl | (exfalso; omega)
/-- Half's power. -/
def pw (n : Int) : Nat := (mn (mx n 0) 62).toNat
theorem half_eq (v n : Int) (h0 : -9223372036854775808 ≤ v) (h1 : v ≤ 9223372036854775807) : fix_Half.f v n = some (rnd v (2 ^ pw n)) := by
  have hm : pw n ≤ 62 := by unfold pw mn mx; omega
  have := half_core v (pw n) hm h0 h1
  unfold fix_Half.f
  simp only [and1]
  rw [show (mn (mx n 0) 62 : Int) = (pw n : Int) from by unfold pw mn mx; omega]
  exact this
theorem pw16 : (2 : Int) ^ pw 16 = 65536 := by decide
theorem rd_drop (l : List Int) (i : Nat) (h : i < l.length) : l.drop i = rd l (i : Int) :: l.drop (i + 1) := by
  rw [List.drop_eq_getElem_cons h]
  congr 1
  unfold rd
  rw [Int.toNat_natCast, List.getD_eq_getElem?_getD, List.getElem?_eq_getElem h]
  rfl
theorem rd_mem (l : List Int) (i : Nat) (h : i < l.length) : rd l (i : Int) ∈ l := by
  have := rd_drop l i h
  exact List.mem_of_mem_drop (this ▸ List.mem_cons_self : rd l (i : Int) ∈ l.drop i)
theorem w64_succ (i n : Nat) (h : i < n) (hn : n ≤ 140737488351232) : wrap64 ((i : Int) + 1) = ((i + 1 : Nat) : Int) := by
  rw [w64 _ (by omega) (by omega)]; omega
/-- All numbers are of 32 bits. -/
def I32 (l : List Int) : Prop := ∀ x ∈ l, -2147483648 ≤ x ∧ x ≤ 2147483647
theorem i32_of {l : List Int} (h : ∀ x ∈ l, (Lit.int .i32 x).wf = true) : I32 l := fun x hx => wf32 (h x hx)
theorem set_take (l : List Int) (i : Nat) (v : Int) (h : i < l.length) : (l.set i v).take (i + 1) = l.take i ++ [v] := by
  rw [List.take_add_one, List.take_set, List.getElem?_set_self h, List.set_eq_of_length_le (by rw [List.length_take]; omega)]
  rfl
def badI (x : Int) : Bool := decide (x < -16777216) || decide (x > 16777216)
def mildB (l : List Int) : Bool := decide ((l.length : Int) ≤ 1024) && !(l.any badI)
theorem mild1_eq (x : Int) : dot_Mild_1.f x = some (badI x) := by
  unfold dot_Mild_1.f badI
  by_cases h : x < -16777216
  · rw [if_pos h, decide_eq_true h]; rfl
  · rw [if_neg h, decide_eq_false h]; rfl
theorem mild_index (l : List Int) (hl : l.length ≤ 140737488351232) (d : Nat) : ∀ (k i : Nat), i + d = l.length → d < k →
    ∃ r, slices_IndexFunc_int32_int32_of_dot_Mild_1.l0 k l (l.length : Int) (i : Int) = some r ∧ decide (r ≥ 0) = (l.drop i).any badI := by
  induction d with
  | zero =>
    intro k i h hk
    obtain ⟨k, rfl⟩ : ∃ m, k = m + 1 := ⟨k - 1, by omega⟩
    refine ⟨-1, ?_, ?_⟩
    · simp only [slices_IndexFunc_int32_int32_of_dot_Mild_1.l0]; rw [if_neg (by omega)]
    · rw [List.drop_of_length_le (by omega)]; rfl
  | succ d ih =>
    intro k i h hk
    obtain ⟨k, rfl⟩ : ∃ m, k = m + 1 := ⟨k - 1, by omega⟩
    simp only [slices_IndexFunc_int32_int32_of_dot_Mild_1.l0]
    rw [if_pos (by omega), if_pos (by omega), if_pos (by omega), mild1_eq, rd_drop l i (by omega), List.any_cons]
    simp only [Option.bind_some]
    by_cases hb : badI (rd l (i : Int)) = true
    · rw [if_pos hb, hb]
      exact ⟨_, rfl, by simp⟩
    · rw [if_neg hb, w64_succ i l.length (by omega) hl]
      obtain ⟨r, e, hr⟩ := ih k (i + 1) (by omega) (by omega)
      rw [Bool.not_eq_true] at hb
      exact ⟨r, e, by rw [hr, hb]; rfl⟩
theorem mild_eq (l : List Int) (k : Nat) (hk : 1025 < k) : dot_Mild.f k l = some (mildB l) := by
  unfold dot_Mild.f mildB
  by_cases h : (l.length : Int) ≤ 1024
  · rw [if_pos h, decide_eq_true h]
    obtain ⟨r, e, hr⟩ := mild_index l (by omega) l.length k 0 (by omega) (by omega)
    unfold slices_ContainsFunc_int32_int32_of_dot_Mild_1.f slices_IndexFunc_int32_int32_of_dot_Mild_1.f
    have e' : slices_IndexFunc_int32_int32_of_dot_Mild_1.l0 k l (l.length : Int) 0 = some r := e
    rw [e']
    simp only [Option.bind_some]
    rw [hr, List.drop_zero]; rfl
  · rw [if_neg h, decide_eq_false h]; rfl
theorem mild_mem {l : List Int} (h : mildB l = true) : (l.length : Int) ≤ 1024 ∧ ∀ x ∈ l, -16777216 ≤ x ∧ x ≤ 16777216 := by
  unfold mildB at h
  rw [Bool.and_eq_true, decide_eq_true_eq, Bool.not_eq_true', List.any_eq_false] at h
  refine ⟨h.1, fun x hx => ?_⟩
  have := h.2 x hx
  simp only [badI, Bool.or_eq_true, decide_eq_true_eq] at this
  omega
theorem mild_of {l : List Int} (h0 : (l.length : Int) ≤ 1024) (h : ∀ x ∈ l, -16777216 ≤ x ∧ x ≤ 16777216) : mildB l = true := by
  unfold mildB
  rw [Bool.and_eq_true, decide_eq_true_eq, Bool.not_eq_true', List.any_eq_false]
  refine ⟨h0, fun x hx => ?_⟩
  have := h x hx
  simp only [badI, Bool.or_eq_true, decide_eq_true_eq]
  omega
/-- The sum of the products. -/
def dotI : List Int → List Int → Int
  | x :: xs, y :: ys => x * y + dotI xs ys
  | _, _ => 0
theorem dotI_bound (A B : Int) (hA : 0 ≤ A) (hB : 0 ≤ B) : ∀ (a b : List Int), (∀ x ∈ a, -A ≤ x ∧ x ≤ A) → (∀ x ∈ b, -B ≤ x ∧ x ≤ B) → -(a.length * (A * B)) ≤ dotI a b ∧ dotI a b ≤ a.length * (A * B)
  | [], b, _, _ => by simp [dotI]
  | x :: xs, [], _, _ => by
    have : 0 ≤ ((x :: xs).length : Int) * (A * B) := Int.mul_nonneg (by omega) (Int.mul_nonneg hA hB)
    simp only [dotI]; omega
  | x :: xs, y :: ys, ha, hb => by
    have ih := dotI_bound A B hA hB xs ys (fun z hz => ha z (List.mem_cons_of_mem _ hz)) (fun z hz => hb z (List.mem_cons_of_mem _ hz))
    have h1 := ha x List.mem_cons_self
    have h2 := hb y List.mem_cons_self
    have h3 := mul_bound (a := x) (b := y) (A := A) (B := B) (by omega) (by omega) (by omega) (by omega)
    have e : (((x :: xs).length : Nat) : Int) * (A * B) = xs.length * (A * B) + A * B := by rw [List.length_cons, Int.natCast_succ, Int.add_mul, Int.one_mul]
    simp only [dotI]
    rw [e]
    omega
theorem shape_eq (a b : List Int) : dot_shape.f a b = some (if (a.length : Int) = (b.length : Int) then (if (a.length : Int) > 1024 then 12 else 0) else 25) := by
  unfold dot_shape.f
  repeat' split
  all_goals rfl
theorem dot_loop (a b : List Int) (hab : a.length = b.length) (hn : a.length ≤ 1024) (ha : ∀ x ∈ a, -16777216 ≤ x ∧ x ≤ 16777216) (hb : ∀ x ∈ b, -16777216 ≤ x ∧ x ≤ 16777216) (d : Nat) :
    ∀ (k i : Nat) (acc : Int), i + d = a.length → d < k → -(i * 281474976710656) ≤ acc → acc ≤ i * 281474976710656 →
      dot_Dot.l0 k b acc a (a.length : Int) (i : Int) = some (acc + dotI (a.drop i) (b.drop i), 0) := by
  induction d with
  | zero =>
    intro k i acc h hk _ _
    obtain ⟨k, rfl⟩ : ∃ m, k = m + 1 := ⟨k - 1, by omega⟩
    simp only [dot_Dot.l0]
    rw [if_neg (by omega), List.drop_of_length_le (by omega : a.length ≤ i)]
    simp [dotI]
  | succ d ih =>
    intro k i acc h hk h0 h1
    obtain ⟨k, rfl⟩ : ∃ m, k = m + 1 := ⟨k - 1, by omega⟩
    have hx := ha _ (rd_mem a i (by omega))
    have hy := hb _ (rd_mem b i (by omega))
    have hp := mul_bound (a := rd a (i : Int)) (b := rd b (i : Int)) (A := 16777216) (B := 16777216) (by omega) (by omega) (by omega) (by omega)
    simp only [dot_Dot.l0]
    rw [if_pos (by omega), if_pos (by omega), if_pos (by omega), if_pos (by omega), w64_succ i a.length (by omega) (by omega), w64 (rd a (i : Int)) (by omega) (by omega), w64 (rd b (i : Int)) (by omega) (by omega), w64 (rd a (i : Int) * rd b (i : Int)) (by omega) (by omega), w64 (acc + rd a (i : Int) * rd b (i : Int)) (by omega) (by omega)]
    rw [ih k (i + 1) _ (by omega) (by omega) (by omega) (by omega), rd_drop a i (by omega), rd_drop b i (by omega)]
    simp only [dotI]
    rw [Int.add_assoc]
/-- What Dot tells. -/
def dotR (a b : List Int) : Int × Int :=
  if (a.length : Int) = (b.length : Int) then (if (a.length : Int) > 1024 then (0, 12) else if mildB a = true ∧ mildB b = true then (dotI a b, 0) else (0, 11)) else (0, 25)
theorem dot_eq (a b : List Int) (k : Nat) (hk : 1027 < k) : dot_Dot.f k a b = some (dotR a b) := by
  obtain ⟨k, rfl⟩ : ∃ m, k = m + 1 := ⟨k - 1, by omega⟩
  unfold dot_Dot.f dotR
  rw [shape_eq, mild_eq a (k + 1) (by omega), mild_eq b (k + 1) (by omega)]
  simp only [Option.bind_some]
  by_cases h1 : (a.length : Int) = (b.length : Int)
  · rw [if_pos h1, if_pos h1]
    by_cases h2 : (a.length : Int) > 1024
    · rw [if_pos h2, if_pos h2, if_neg (by decide)]
    · rw [if_neg h2, if_neg h2, if_pos rfl]
      by_cases ma : mildB a = true
      · rw [if_pos ma]
        by_cases mb : mildB b = true
        · rw [if_pos ⟨ma, mb⟩, mb]
          simp only [dot_Dot.j0]
          rw [if_neg (by decide)]
          have := dot_loop a b (by omega) (by omega) (mild_mem ma).2 (mild_mem mb).2 a.length k 0 0 (by omega) (by omega) (by omega) (by omega)
          rw [List.drop_zero, List.drop_zero, Int.zero_add] at this
          exact this
        · rw [if_neg (fun h => mb h.2)]
          rw [Bool.not_eq_true] at mb
          rw [mb]
          simp only [dot_Dot.j0]
          rw [if_pos (by rfl)]
      · rw [if_neg ma, if_neg (fun h => ma h.1)]
        simp only [dot_Dot.j0]
        rw [if_pos trivial]
  · rw [if_neg h1, if_neg h1, if_neg (by decide)]
def narrowL (l : List Int) : List Int := l.map narrow
theorem narrowL_length (l : List Int) : (narrowL l).length = l.length := by unfold narrowL; rw [List.length_map]
theorem narrowL_range (l : List Int) : ∀ x ∈ narrowL l, -8388608 ≤ x ∧ x ≤ 8388608 := by
  intro x hx
  obtain ⟨y, -, rfl⟩ := List.mem_map.mp hx
  exact narrow_range y
theorem narrowL_mild (l : List Int) (h : (l.length : Int) ≤ 1024) : mildB (narrowL l) = true :=
  mild_of (by rw [narrowL_length]; exact h) (fun x hx => by have := narrowL_range l x hx; omega)
def heavyI (x : Int) : Bool := decide (x < -1048576) || decide (x > 1048576)
theorem heavy1_eq (x : Int) : mat_Mat_Right_1.f x = some (heavyI x) := by
  unfold mat_Mat_Right_1.f heavyI
  by_cases h : x < -1048576
  · rw [if_pos h, decide_eq_true h]; rfl
  · rw [if_neg h, decide_eq_false h]; rfl
theorem heavy_index (l : List Int) (hl : l.length ≤ 140737488351232) (d : Nat) : ∀ (k i : Nat), i + d = l.length → d < k →
    ∃ r, slices_IndexFunc_int32_int32_of_mat_Mat_Right_1.l0 k l (l.length : Int) (i : Int) = some r ∧ decide (r ≥ 0) = (l.drop i).any heavyI := by
  induction d with
  | zero =>
    intro k i h hk
    obtain ⟨k, rfl⟩ : ∃ m, k = m + 1 := ⟨k - 1, by omega⟩
    refine ⟨-1, ?_, ?_⟩
    · simp only [slices_IndexFunc_int32_int32_of_mat_Mat_Right_1.l0]; rw [if_neg (by omega)]
    · rw [List.drop_of_length_le (by omega)]; rfl
  | succ d ih =>
    intro k i h hk
    obtain ⟨k, rfl⟩ : ∃ m, k = m + 1 := ⟨k - 1, by omega⟩
    simp only [slices_IndexFunc_int32_int32_of_mat_Mat_Right_1.l0]
    rw [if_pos (by omega), if_pos (by omega), if_pos (by omega), heavy1_eq, rd_drop l i (by omega), List.any_cons]
    simp only [Option.bind_some]
    by_cases hb : heavyI (rd l (i : Int)) = true
    · rw [if_pos hb, hb]
      exact ⟨_, rfl, by simp⟩
    · rw [if_neg hb, w64_succ i l.length (by omega) hl]
      obtain ⟨r, e, hr⟩ := ih k (i + 1) (by omega) (by omega)
      rw [Bool.not_eq_true] at hb
      exact ⟨r, e, by rw [hr, hb]; rfl⟩
/-- May a table be? -/
def rightI (r c : Int) (w : List Int) : Int :=
  if 1 ≤ r ∧ r ≤ 64 ∧ 1 ≤ c ∧ c ≤ 64 then (if (w.length : Int) = r * c then (if w.any heavyI = true then 11 else 0) else 25) else 11
theorem cells_few {r c : Int} (h : 1 ≤ r ∧ r ≤ 64 ∧ 1 ≤ c ∧ c ≤ 64) : -4096 ≤ r * c ∧ r * c ≤ 4096 := by
  have := mul_bound (a := r) (b := c) (A := 64) (B := 64) (by omega) (by omega) (by omega) (by omega)
  omega
theorem sized_eq (n : Int) : mat_sized.f n = some (decide (1 ≤ n ∧ n ≤ 64)) := by
  unfold mat_sized.f
  by_cases h : n ≥ 1
  · rw [if_pos h]
    by_cases h2 : n ≤ 64
    · rw [decide_eq_true h2, decide_eq_true ⟨h, h2⟩]
    · rw [decide_eq_false h2, decide_eq_false (by omega)]
  · rw [if_neg h, decide_eq_false (by omega)]
theorem right_eq (r c : Int) (w : List Int) (k : Nat) (hk : 4100 < k) : mat_Mat_Right.f k r c w = some (rightI r c w) := by
  obtain ⟨k, rfl⟩ : ∃ m, k = m + 1 := ⟨k - 1, by omega⟩
  unfold mat_Mat_Right.f rightI
  rw [sized_eq, sized_eq]
  simp only [Option.bind_some]
  by_cases h1 : 1 ≤ r ∧ r ≤ 64
  · rw [decide_eq_true h1, if_pos rfl]
    by_cases h2 : 1 ≤ c ∧ c ≤ 64
    · have hf := cells_few (r := r) (c := c) (by omega)
      rw [decide_eq_true h2, if_pos (show 1 ≤ r ∧ r ≤ 64 ∧ 1 ≤ c ∧ c ≤ 64 from ⟨h1.1, h1.2, h2.1, h2.2⟩)]
      simp only [mat_Mat_Right.j0]
      rw [if_neg (by decide), w64 (r * c) (by omega) (by omega)]
      by_cases h3 : (w.length : Int) = r * c
      · rw [if_pos h3, if_pos h3]
        obtain ⟨v, e, hv⟩ := heavy_index w (by omega) w.length k 0 (by omega) (by omega)
        unfold slices_ContainsFunc_int32_int32_of_mat_Mat_Right_1.f slices_IndexFunc_int32_int32_of_mat_Mat_Right_1.f
        have e' : slices_IndexFunc_int32_int32_of_mat_Mat_Right_1.l0 k w (w.length : Int) 0 = some v := e
        rw [e']
        simp only [Option.bind_some]
        rw [hv, List.drop_zero]
        by_cases h4 : w.any heavyI = true
        · rw [if_pos h4, if_pos h4]
        · rw [if_neg h4, if_neg h4]
      · rw [if_neg h3, if_neg h3]
    · rw [decide_eq_false h2, if_neg (by omega)]
      simp only [mat_Mat_Right.j0]
      rw [if_pos (by decide)]
  · rw [decide_eq_false h1, if_neg (by decide), if_neg (by omega)]
    simp only [mat_Mat_Right.j0]
    rw [if_pos trivial]
theorem right_parts {r c : Int} {w : List Int} (h : rightI r c w = 0) :
    ∃ rn cn : Nat, r = (rn : Int) ∧ c = (cn : Int) ∧ 1 ≤ rn ∧ rn ≤ 64 ∧ 1 ≤ cn ∧ cn ≤ 64 ∧ w.length = rn * cn ∧ ∀ x ∈ w, -1048576 ≤ x ∧ x ≤ 1048576 := by
  unfold rightI at h
  by_cases h1 : 1 ≤ r ∧ r ≤ 64 ∧ 1 ≤ c ∧ c ≤ 64
  · rw [if_pos h1] at h
    by_cases h2 : (w.length : Int) = r * c
    · rw [if_pos h2] at h
      by_cases h3 : w.any heavyI = true
      · rw [if_pos h3] at h; omega
      · obtain ⟨rn, rfl⟩ := Int.eq_ofNat_of_zero_le (show 0 ≤ r by omega)
        obtain ⟨cn, rfl⟩ := Int.eq_ofNat_of_zero_le (show 0 ≤ c by omega)
        refine ⟨rn, cn, rfl, rfl, by omega, by omega, by omega, by omega, by exact_mod_cast h2, fun x hx => ?_⟩
        rw [Bool.not_eq_true, List.any_eq_false] at h3
        have := h3 x hx
        simp only [heavyI, Bool.or_eq_true, decide_eq_true_eq] at this
        omega
    · rw [if_neg h2] at h; omega
  · rw [if_neg h1] at h; omega
theorem right_of {r c : Nat} {w : List Int} (h1 : 1 ≤ r) (h2 : r ≤ 64) (h3 : 1 ≤ c) (h4 : c ≤ 64) (h5 : w.length = r * c) (h6 : ∀ x ∈ w, -1048576 ≤ x ∧ x ≤ 1048576) : rightI (r : Int) (c : Int) w = 0 := by
  unfold rightI
  rw [if_pos (by omega), if_pos (by rw [h5]; exact_mod_cast rfl), if_neg]
  rw [Bool.not_eq_true, List.any_eq_false]
  intro x hx
  have := h6 x hx
  simp only [heavyI, Bool.or_eq_true, decide_eq_true_eq]
  omega
/-- One of a table's rows. -/
def rowN (w : List Int) (c i : Nat) : List Int := (w.drop (i * c)).take c
theorem row_in {r c i : Nat} (hr : r ≤ 64) (hc : c ≤ 64) (hi : i < r) : i * c + c ≤ r * c ∧ r * c ≤ 4096 := by
  have h1 : (i + 1) * c ≤ r * c := Nat.mul_le_mul_right c (by omega)
  have h2 : r * c ≤ 64 * 64 := Nat.mul_le_mul hr hc
  rw [Nat.succ_mul] at h1
  omega
theorem rowN_length {w : List Int} {r c i : Nat} (hw : w.length = r * c) (hr : r ≤ 64) (hc : c ≤ 64) (hi : i < r) : (rowN w c i).length = c := by
  have := row_in hr hc hi
  unfold rowN
  rw [List.length_take, List.length_drop]
  omega
theorem rowN_mem {w : List Int} {c i : Nat} {x : Int} (h : x ∈ rowN w c i) : x ∈ w := List.mem_of_mem_drop (List.mem_of_mem_take h)
theorem mrow_eq (w : List Int) (r c i : Nat) (r' : Int) (hw : w.length = r * c) (hr : r ≤ 64) (hc : c ≤ 64) (hi : i < r) : mat_Mat_row.f r' (c : Int) w (i : Int) = some (rowN w c i) := by
  have h := row_in hr hc hi
  have e1 : wrap64 ((i : Int) * (c : Int)) = ((i * c : Nat) : Int) := by rw [← Int.natCast_mul, w64 _ (by omega) (by omega)]
  have e2 : wrap64 ((i : Int) + 1) = ((i + 1 : Nat) : Int) := by rw [w64 _ (by omega) (by omega)]; omega
  have e3 : wrap64 (((i + 1 : Nat) : Int) * (c : Int)) = ((i * c + c : Nat) : Int) := by rw [← Int.natCast_mul, Nat.succ_mul, w64 _ (by omega) (by omega)]
  unfold mat_Mat_row.f rowN
  rw [e2, e1, e3, if_pos (by omega), if_pos (by omega), if_pos (by omega), Int.toNat_natCast, Int.toNat_natCast, List.drop_take]
  congr 2
  omega
/-- What a table makes, row by row. -/
def timesL (w x : List Int) (c : Nat) : Nat → Nat → List Int
  | 0, _ => []
  | d + 1, i => narrow (rnd (dotI (rowN w c i) (narrowL x)) 65536) :: timesL w x c d (i + 1)
theorem timesL_length (w x : List Int) (c : Nat) (d : Nat) : ∀ i, (timesL w x c d i).length = d := by
  induction d with
  | zero => intro i; rfl
  | succ d ih => intro i; simp only [timesL, List.length_cons]; rw [ih]
theorem rowdot_range {w x : List Int} {r c i : Nat} (hw : w.length = r * c) (hr : r ≤ 64) (hc : c ≤ 64) (hi : i < r) (hm : ∀ y ∈ w, -1048576 ≤ y ∧ y ≤ 1048576) :
    -1000000000000000 ≤ dotI (rowN w c i) (narrowL x) ∧ dotI (rowN w c i) (narrowL x) ≤ 1000000000000000 := by
  have h := dotI_bound 1048576 8388608 (by omega) (by omega) (rowN w c i) (narrowL x) (fun y hy => hm y (rowN_mem hy)) (narrowL_range x)
  rw [rowN_length hw hr hc hi] at h
  omega
theorem rowmild {w : List Int} {r c i : Nat} (hw : w.length = r * c) (hr : r ≤ 64) (hc : c ≤ 64) (hi : i < r) (hm : ∀ y ∈ w, -1048576 ≤ y ∧ y ≤ 1048576) : mildB (rowN w c i) = true :=
  mild_of (by rw [rowN_length hw hr hc hi]; omega) (fun y hy => by have := hm y (rowN_mem hy); omega)
theorem times_loop1 (w x : List Int) (r c : Nat) (hw : w.length = r * c) (hr : r ≤ 64) (hc : c ≤ 64) (hm : ∀ y ∈ w, -1048576 ≤ y ∧ y ≤ 1048576) (hx : x.length = c) (d : Nat) : ∀ (k i : Nat) (out : List Int), i + d = r → d + 1030 < k → out.length = r →
    mat_Mat_Times.l1 k (narrowL x) out (r : Int) (i : Int) (r : Int) (c : Int) w = some (out.take i ++ timesL w x c d i, 0) := by
  induction d with
  | zero =>
    intro k i out h hk ho
    obtain ⟨k, rfl⟩ : ∃ m, k = m + 1 := ⟨k - 1, by omega⟩
    simp only [mat_Mat_Times.l1]
    rw [if_neg (by omega), List.take_of_length_le (by omega)]
    simp [timesL]
  | succ d ih =>
    intro k i out h hk ho
    obtain ⟨k, rfl⟩ : ∃ m, k = m + 1 := ⟨k - 1, by omega⟩
    have hd := rowdot_range (x := x) hw hr hc (i := i) (by omega) hm
    have e : dotR (rowN w c i) (narrowL x) = (dotI (rowN w c i) (narrowL x), 0) := by
      unfold dotR
      rw [rowN_length hw hr hc (by omega), narrowL_length, hx, if_pos rfl, if_neg (by omega), if_pos (show mildB (rowN w c i) = true ∧ mildB (narrowL x) = true from ⟨rowmild hw hr hc (by omega) hm, narrowL_mild x (by omega)⟩)]
    simp only [mat_Mat_Times.l1]
    rw [if_pos (by omega), mrow_eq w r c i _ hw hr hc (by omega)]
    simp only [Option.bind_some]
    rw [dot_eq _ _ k (by omega), e]
    simp only [Option.bind_some]
    rw [half_eq _ _ (by omega) (by omega), pw16]
    simp only [Option.bind_some]
    rw [narrow_eq]
    simp only [Option.bind_some]
    rw [if_pos (by omega), if_pos (by omega), w64_succ i r (by omega) (by omega), Int.toNat_natCast, ih k (i + 1) _ (by omega) (by omega) (by rw [List.length_set]; exact ho), set_take _ _ _ (by omega), List.append_assoc]
    rfl
theorem times_loop0 (w x : List Int) (r c : Nat) (hw : w.length = r * c) (hr : r ≤ 64) (hc : c ≤ 64) (hm : ∀ y ∈ w, -1048576 ≤ y ∧ y ≤ 1048576) (hx : x.length = c) (hi : I32 x) (d : Nat) : ∀ (k i : Nat) (out : List Int), i + d = c → d + 1100 < k → out.length = c →
    mat_Mat_Times.l0 k out x (c : Int) (i : Int) (r : Int) (c : Int) w = mat_Mat_Times.l1 (k - d - 1) (out.take i ++ narrowL (x.drop i)) (List.replicate r 0) (r : Int) 0 (r : Int) (c : Int) w := by
  induction d with
  | zero =>
    intro k i out h hk ho
    obtain ⟨k, rfl⟩ : ∃ m, k = m + 1 := ⟨k - 1, by omega⟩
    simp only [mat_Mat_Times.l0]
    rw [if_neg (by omega), if_pos (by omega), if_pos (by omega), List.take_of_length_le (by omega), List.drop_of_length_le (by omega : x.length ≤ i)]
    simp [narrowL]
  | succ d ih =>
    intro k i out h hk ho
    obtain ⟨k, rfl⟩ : ∃ m, k = m + 1 := ⟨k - 1, by omega⟩
    have hy := hi _ (rd_mem x i (by omega))
    simp only [mat_Mat_Times.l0]
    rw [if_pos (by omega), if_pos (by omega), if_pos (by omega), w64 (rd x (i : Int)) (by omega) (by omega), narrow_eq]
    simp only [Option.bind_some]
    rw [if_pos (by omega), w64_succ i c (by omega) (by omega), Int.toNat_natCast, ih k (i + 1) _ (by omega) (by omega) (by rw [List.length_set]; exact ho), set_take _ _ _ (by omega), rd_drop x i (by omega), List.append_assoc, show k + 1 - (d + 1) - 1 = k - d - 1 from by omega]
    rfl
theorem times_eq (w x : List Int) (r c : Nat) (h1 : 1 ≤ r) (hr : r ≤ 64) (h3 : 1 ≤ c) (hc : c ≤ 64) (hw : w.length = r * c) (hm : ∀ y ∈ w, -1048576 ≤ y ∧ y ≤ 1048576) (hx : x.length = c) (hi : I32 x) (k : Nat) (hk : 4100 < k) :
    mat_Mat_Times.f k (r : Int) (c : Int) w x = some (timesL w x c r 0, 0) := by
  unfold mat_Mat_Times.f
  rw [right_eq _ _ _ k hk, right_of h1 hr h3 hc hw hm]
  simp only [Option.bind_some]
  rw [if_pos trivial, hx, if_pos rfl, if_pos (by omega), if_pos (by omega)]
  have := times_loop0 w x r c hw hr hc hm hx hi c k 0 (List.replicate c 0) (by omega) (by omega) (by rw [List.length_replicate])
  rw [List.take_zero, List.drop_zero, List.nil_append] at this
  rw [Int.toNat_natCast]
  refine this.trans ?_
  have := times_loop1 w x r c hw hr hc hm hx r (k - c - 1) 0 (List.replicate r 0) (by omega) (by omega) (by rw [List.length_replicate])
  rw [List.take_zero, List.nil_append] at this
  exact this
theorem rright_loop (r c : Int) (w : List Int) (hn : w.length ≤ 140737488351232) (d : Nat) : ∀ (k i : Nat), i + d = w.length → d < k →
    credenzaref17_Right.l0 k (i : Int) r c w = some (if (w.drop i).any heavyI = true then 11 else 0) := by
  induction d with
  | zero =>
    intro k i h hk
    obtain ⟨k, rfl⟩ : ∃ m, k = m + 1 := ⟨k - 1, by omega⟩
    simp only [credenzaref17_Right.l0]
    rw [if_neg (by omega), List.drop_of_length_le (by omega)]; rfl
  | succ d ih =>
    intro k i h hk
    obtain ⟨k, rfl⟩ : ∃ m, k = m + 1 := ⟨k - 1, by omega⟩
    simp only [credenzaref17_Right.l0]
    rw [if_pos (by omega), if_pos (by omega), w64_succ i w.length (by omega) hn, ih k (i + 1) (by omega) (by omega), rd_drop w i (by omega), List.any_cons]
    by_cases c1 : rd w (i : Int) < -1048576
    · rw [if_pos c1, show heavyI (rd w (i : Int)) = true from by unfold heavyI; rw [decide_eq_true c1]; rfl]; rfl
    · rw [if_neg c1]
      by_cases c2 : rd w (i : Int) > 1048576
      · rw [if_pos c2, show heavyI (rd w (i : Int)) = true from by unfold heavyI; rw [decide_eq_true c2, Bool.or_true]]; rfl
      · rw [if_neg c2, show heavyI (rd w (i : Int)) = false from by unfold heavyI; rw [decide_eq_false c1, decide_eq_false c2]; rfl]; rfl
theorem rright_eq (r c : Int) (w : List Int) (k : Nat) (hk : 4100 < k) : credenzaref17_Right.f k r c w = some (rightI r c w) := by
  obtain ⟨k, rfl⟩ : ∃ m, k = m + 1 := ⟨k - 1, by omega⟩
  unfold credenzaref17_Right.f rightI
  simp only [credenzaref17_Right.j0]
  by_cases h1 : r < 1
  · rw [if_pos h1, if_pos trivial, if_neg (by omega)]
  rw [if_neg h1]
  by_cases h2 : r > 64
  · rw [if_pos h2, if_pos trivial, if_neg (by omega)]
  rw [if_neg h2]
  by_cases h3 : c < 1
  · rw [if_pos h3, if_pos trivial, if_neg (by omega)]
  rw [if_neg h3]
  by_cases h4 : c > 64
  · rw [decide_eq_true h4, if_pos rfl, if_neg (by omega)]
  have hf := cells_few (r := r) (c := c) (by omega)
  rw [decide_eq_false h4, if_neg (by decide), if_pos (show 1 ≤ r ∧ r ≤ 64 ∧ 1 ≤ c ∧ c ≤ 64 by omega), w64 (r * c) (by omega) (by omega)]
  by_cases h5 : (w.length : Int) = r * c
  · rw [if_pos h5, if_pos h5]
    have := rright_loop r c w (by omega) w.length k 0 (by omega) (by omega)
    rw [List.drop_zero] at this
    exact this
  · rw [if_neg h5, if_neg h5]
theorem rrow_eq (w : List Int) (r c i : Nat) (r' : Int) (hw : w.length = r * c) (hr : r ≤ 64) (hc : c ≤ 64) (hi : i < r) : credenzaref17_Row.f r' (c : Int) w (i : Int) = some (rowN w c i) := by
  have h := row_in hr hc hi
  have e1 : wrap64 ((i : Int) * (c : Int)) = ((i * c : Nat) : Int) := by rw [← Int.natCast_mul, w64 _ (by omega) (by omega)]
  have e3 : wrap64 (((i * c : Nat) : Int) + (c : Int)) = ((i * c + c : Nat) : Int) := by rw [← Int.natCast_add, w64 _ (by omega) (by omega)]
  unfold credenzaref17_Row.f rowN
  rw [e1, e3, if_pos (by omega), if_pos (by omega), if_pos (by omega), Int.toNat_natCast, Int.toNat_natCast, List.drop_take]
  congr 2
  omega
theorem rd_timesL (w x : List Int) (c : Nat) (d : Nat) : ∀ (i j : Nat), j < d → rd (timesL w x c d i) (j : Int) = narrow (rnd (dotI (rowN w c (i + j)) (narrowL x)) 65536) := by
  induction d with
  | zero => intro i j h; omega
  | succ d ih =>
    intro i j h
    cases j with
    | zero => rfl
    | succ j =>
      have := ih (i + 1) j (by omega)
      rw [show i + 1 + j = i + (j + 1) from by omega] at this
      rw [← this]
      unfold rd
      simp only [timesL, Int.toNat_natCast, List.getD_cons_succ]
theorem rowN_self (l : List Int) (c : Nat) (h : l.length = c) : rowN l c 0 = l := by
  unfold rowN
  rw [Nat.zero_mul, List.drop_zero, List.take_of_length_le (by omega)]
theorem rd_one (v : Int) : rd [v] 0 = v := rfl
end Cz

theorem parts_j0 (k : Nat) (x1 : List Int) (x2 : Int) (x38 : Bool) (x208000 x208001 : Int) (x208002 : List Int) : credenzalaw17_MatParts.j0 (k + 1) x1 x2 x38 x208000 x208001 x208002 = (if x38 = true then ((credenzalaw17_awake.f k).bind fun t214 => (some t214)) else ((mat_Mat_Times.f k x208000 x208001 x208002 x1).bind fun bt215 => ((some (([] : List Int) : List Int)).bind fun y219 => ((credenzalaw17_ref.f x208000 x208001 x208002).bind fun bt222 => ((credenzaref17_Row.f bt222.1 bt222.2.1 bt222.2.2 x2).bind fun t227 => (if y219.length + t227.length < 35184372088832 then ((mat_Mat_Times.f k 1 x208001 (y219 ++ t227) x1).bind fun bt234 => (if bt215.2 = 0 then (if bt234.2 = 0 then (if (bt234.1.length : Int) = 1 then (if (bt215.1.length : Int) = x208000 then (if 0 ≤ x2 then (if x2 < (bt215.1.length : Int) then (if 0 < (bt234.1.length : Int) then (if (rd bt215.1 x2) = (rd bt234.1 0) then ((credenzalaw17_awake.f k).bind fun t240 => (some t240)) else (some false)) else (none)) else (none)) else (none)) else (some false)) else (some false)) else (some false)) else (some false))) else (none))))))) := rfl
theorem parts_ref (r c : Int) (w : List Int) : credenzalaw17_ref.f r c w = some (r, c, w) := rfl
theorem MatParts : ∀ (a0_0 a0_1 : Int) (l0_2 : List Int) (l1 : List Int) (a2 : Int), (Lit.int .i64 a0_0).wf = true → (Lit.int .i64 a0_1).wf = true → l0_2.length ≤ maxLen → (∀ x ∈ l0_2, (Lit.int .i32 x).wf = true) → l1.length ≤ maxLen → (∀ x ∈ l1, (Lit.int .i32 x).wf = true) → (Lit.int .i64 a2).wf = true → ∃ k, credenzalaw17_MatParts.f k a0_0 a0_1 l0_2 l1 a2 = some true := by
  intro r c w x i _ _ _ hw _ hx _
  have hx := Cz.i32_of hx
  have aw : credenzalaw17_awake.f 1200 = some true := by decide +kernel
  have awk := fun k (hk : 1200 ≤ k) => Cz.up credenzalaw17_awake.mono aw hk
  suffices key : ∀ k, 9002 ≤ k → credenzalaw17_MatParts.f (k + 1) r c w x i = some true from ⟨_, key 9002 (Nat.le_refl _)⟩
  intro k hk
  have Jt : credenzalaw17_MatParts.j0 (k + 1) x i true r c w = some true := by
    rw [parts_j0, if_pos (Eq.refl true), awk _ (by omega)]; rfl
  unfold credenzalaw17_MatParts.f
  by_cases c0 : (w.length : Int) > 5000
  · rw [if_pos c0]; exact Jt
  rw [if_neg c0]
  simp only [credenzalaw17_ref.f, Option.bind_some]
  rw [Cz.rright_eq r c w (k + 1) (by omega)]
  simp only [Option.bind_some]
  by_cases h0 : Cz.rightI r c w = 0
  · rw [if_pos h0]
    by_cases hl : (x.length : Int) = c
    · rw [if_pos hl]
      by_cases c2 : i < 0
      · rw [if_pos c2]; exact Jt
      rw [if_neg c2]
      by_cases c3 : i ≥ r
      · rw [decide_eq_true c3]; exact Jt
      rw [decide_eq_false c3]
      obtain ⟨rn, cn, rfl, rfl, h1, h2, h3, h4, h5, h6⟩ := Cz.right_parts h0
      obtain ⟨n, rfl⟩ := Int.eq_ofNat_of_zero_le (show 0 ≤ i by omega)
      have hin : n < rn := by omega
      have hlr := Cz.rowN_length h5 h2 h4 hin
      have et := Cz.times_eq w x rn cn h1 h2 h3 h4 h5 h6 (by omega) hx k (by omega)
      have e1 := Cz.times_eq (Cz.rowN w cn n) x 1 cn (by omega) (by omega) h3 h4 (by omega) (fun y hy => h6 y (Cz.rowN_mem hy)) (by omega) hx k (by omega)
      have e2 : Cz.timesL (Cz.rowN w cn n) x cn 1 0 = [Cz.narrow (Cz.rnd (Cz.dotI (Cz.rowN w cn n) (Cz.narrowL x)) 65536)] := by
        simp only [Cz.timesL]
        rw [Cz.rowN_self _ cn hlr]
      have e3 := Cz.rd_timesL w x cn rn 0 n hin
      rw [Nat.zero_add] at e3
      have hlen := Cz.timesL_length w x cn rn 0
      rw [e2] at e1
      rw [show ((1 : Nat) : Int) = 1 from rfl] at e1
      rw [parts_j0, if_neg (by decide), et, Option.bind_some, Option.bind_some, parts_ref, Option.bind_some, Cz.rrow_eq w rn cn n _ h5 h2 h4 hin, Option.bind_some, List.nil_append, if_pos (by rw [List.length_nil]; omega), e1, Option.bind_some, if_pos (Eq.refl (0 : Int)), if_pos (Eq.refl (0 : Int)), if_pos (by rw [List.length_singleton]; rfl), if_pos (by show ((Cz.timesL w x cn rn 0).length : Int) = _; omega), if_pos (by omega), if_pos (by show (n : Int) < ((Cz.timesL w x cn rn 0).length : Int); omega), if_pos (by rw [List.length_singleton]; decide), e3, Cz.rd_one, if_pos (Eq.refl (Cz.narrow _)), awk k (by omega)]
      rfl
    · rw [if_neg hl]; exact Jt
  · rw [if_neg h0]; exact Jt

end Go.Proofs.Ytmndomlpdajjmab.Pure
