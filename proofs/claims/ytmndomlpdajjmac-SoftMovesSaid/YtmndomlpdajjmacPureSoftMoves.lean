/- A number put to all scores, such that none is cut, changes no weight. No condition: for every input. -/
import Derived.Test.YtmndomlpdajjmacQx1
import Derived.Test.YtmndomlpdajjmacQx4
set_option linter.unusedVariables false
set_option linter.unusedSimpArgs false
namespace Go.Proofs.Ytmndomlpdajjmac.Pure
open Go.RowKit Go.Proofs.Ytmndomlpdajjmac.Q Go.Proofs.YtmndomlpdajjmacW.PrintWords Go.Proofs.YtmndomlpdajjmacW.PrintLast
namespace Cz

/-- Divided by d, rounded, a half to the even one. -/
def rnd (a d : Int) : Int :=
  if a % d > d - a % d then a / d + 1 else if a % d = d - a % d ∧ (a / d) % 2 = 1 then a / d + 1 else a / d
/-- What is promised of a rounded fraction. -/
def Near (a d r : Int) : Prop := 2 * (a - r * d) ≤ d ∧ -d ≤ 2 * (a - r * d) ∧ ((2 * (a - r * d) = d ∨ 2 * (a - r * d) = -d) → r % 2 = 0)
theorem rnd_near (a d : Int) (hd : 0 < d) : Near a d (rnd a d) := by
  have h1 := Int.emod_add_mul_ediv a d
  have h2 := Int.emod_nonneg a (by omega : d ≠ 0)
  have h3 := Int.emod_lt_of_pos a hd
  unfold Near rnd
  generalize a % d = m at *
  generalize a / d = q at *
  have e1 : (q + 1) * d = d * q + d := by rw [Int.add_mul, Int.one_mul, Int.mul_comm]
  have e2 : q * d = d * q := Int.mul_comm _ _
  generalize hk : d * q = k at *
  split
  · rw [e1]; omega
  · split
    · rw [e1]; omega
    · rw [e2]; omega
theorem near_le {a b d r s : Int} (hd : 0 < d) (ha : Near a d r) (hb : Near b d s) (h : a ≤ b) : r ≤ s := by
  obtain ⟨a1, a2, a3⟩ := ha
  obtain ⟨b1, b2, b3⟩ := hb
  by_cases hlt : s < r
  · exfalso
    obtain ⟨k, rfl⟩ : ∃ k : Int, r = s + 1 + k := ⟨r - s - 1, by omega⟩
    have hk : 0 ≤ k := by omega
    have e1 : (s + 1 + k) * d = s * d + d + k * d := by rw [Int.add_mul, Int.add_mul, Int.one_mul]
    rw [e1] at a1 a2 a3
    have hkd : 0 ≤ k * d := Int.mul_nonneg hk (by omega)
    generalize s * d = sd at *
    by_cases h0 : k = 0
    · subst h0
      rw [Int.zero_mul] at *
      have := a3 (by omega)
      have := b3 (by omega)
      omega
    · have : d ≤ k * d := by
        have := Int.mul_le_mul_of_nonneg_right (show (1 : Int) ≤ k by omega) (show 0 ≤ d by omega)
        omega
      generalize k * d = kd at *
      omega
  · omega
theorem near_unique {a d r s : Int} (hd : 0 < d) (ha : Near a d r) (hb : Near a d s) : r = s :=
  Int.le_antisymm (near_le hd ha hb (Int.le_refl a)) (near_le hd hb ha (Int.le_refl a))
theorem rnd_unique {a d r : Int} (hd : 0 < d) (h : Near a d r) : rnd a d = r := near_unique hd (rnd_near a d hd) h
theorem rnd_mono {a b d : Int} (hd : 0 < d) (h : a ≤ b) : rnd a d ≤ rnd b d := near_le hd (rnd_near a d hd) (rnd_near b d hd) h
theorem rnd_mul (q d : Int) (hd : 0 < d) : rnd (q * d) d = q := by
  apply rnd_unique hd
  unfold Near
  rw [Int.sub_self]
  omega
theorem rnd_ge {a d q : Int} (hd : 0 < d) (h : q * d ≤ a) : q ≤ rnd a d := by
  have := rnd_mono hd h
  rwa [rnd_mul q d hd] at this
theorem rnd_le {a d q : Int} (hd : 0 < d) (h : a ≤ q * d) : rnd a d ≤ q := by
  have := rnd_mono hd h
  rwa [rnd_mul q d hd] at this
theorem rnd_one (a : Int) : rnd a 1 = a := by
  have := rnd_mul a 1 (by omega)
  rwa [Int.mul_one] at this
theorem two_pow_pos (n : Nat) : (0 : Int) < 2 ^ n := Int.pow_pos (by omega)
theorem two_pow_le (m : Nat) (d : Nat) : (2 : Int) ^ m ≤ 2 ^ (m + d) := by
  induction d with
  | zero => exact Int.le_refl _
  | succ d ih =>
    have h := two_pow_pos (m + d)
    have e : (2 : Int) ^ (m + (d + 1)) = 2 * 2 ^ (m + d) := by rw [← Nat.add_assoc, Int.pow_succ, Int.mul_comm]
    omega
theorem two_pow_max {m n : Nat} (h : m ≤ n) : (2 : Int) ^ m ≤ 2 ^ n := by
  obtain ⟨d, rfl⟩ : ∃ d, n = m + d := ⟨n - m, by omega⟩
  exact two_pow_le m d
theorem two_pow_62 {m : Nat} (h : m ≤ 62) : (2 : Int) ^ m ≤ 4611686018427387904 := two_pow_max h
theorem two_pow_succ (n : Nat) : (2 : Int) ^ (n + 1) = 2 * 2 ^ n := by rw [Int.pow_succ, Int.mul_comm]
/-- 2 to a fraction. -/
def of2 (f : Int) : Int := 65536 + f * (45613 + f * (14743 + f * 5180 / 65536) / 65536) / 65536
theorem of2_parts (f : Int) (h0 : 0 ≤ f) (h1 : f ≤ 65536) :
    14743 ≤ 14743 + f * 5180 / 65536 ∧ 14743 + f * 5180 / 65536 ≤ 19923 ∧
    45613 ≤ 45613 + f * (14743 + f * 5180 / 65536) / 65536 ∧ 45613 + f * (14743 + f * 5180 / 65536) / 65536 ≤ 65536 ∧
    0 ≤ f * (14743 + f * 5180 / 65536) ∧ f * (14743 + f * 5180 / 65536) ≤ 65536 * 19923 ∧
    0 ≤ f * (45613 + f * (14743 + f * 5180 / 65536) / 65536) ∧ f * (45613 + f * (14743 + f * 5180 / 65536) / 65536) ≤ f * 65536 := by
  have b1 : 14743 ≤ 14743 + f * 5180 / 65536 := by omega
  have b2 : 14743 + f * 5180 / 65536 ≤ 19923 := by omega
  generalize 14743 + f * 5180 / 65536 = B at *
  have c1 : 0 ≤ f * B := Int.mul_nonneg h0 (by omega)
  have c2 : f * B ≤ 65536 * 19923 := Int.mul_le_mul h1 b2 (by omega) (by omega)
  have c3 : 45613 + f * B / 65536 ≤ 65536 := by omega
  have c4 : 45613 ≤ 45613 + f * B / 65536 := by omega
  refine ⟨b1, b2, c4, c3, c1, c2, Int.mul_nonneg h0 (by omega), Int.mul_le_mul_of_nonneg_left c3 h0⟩
theorem of2_range (f : Int) (h0 : 0 ≤ f) (h1 : f ≤ 65536) : 65536 ≤ of2 f ∧ of2 f ≤ 65536 + f := by
  have := of2_parts f h0 h1
  unfold of2
  omega
/-- The power of a t (n: how far down). -/
def powT (t : Int) : Int := rnd (of2 (t % 65536)) (2 ^ (-(t / 65536)).toNat)
/-- .. with what is too far down cut off. -/
def powC (t : Int) : Int := if -(t / 65536) > 62 then 0 else powT t
theorem w64 (x : Int) (h0 : -9223372036854775808 ≤ x) (h1 : x ≤ 9223372036854775807) : wrap64 x = x := by unfold wrap64; omega
theorem w32 (x : Int) (h0 : -2147483648 ≤ x) (h1 : x ≤ 2147483647) : wrap32 x = x := by unfold wrap32; omega
theorem w64_sub (a b : Int) : wrap64 (a - wrap64 b) = wrap64 (a - b) := by unfold wrap64; omega
theorem wf32 {x : Int} (h : (Lit.int .i32 x).wf = true) : -2147483648 ≤ x ∧ x ≤ 2147483647 := by
  simp only [Lit.wf, IntKind.min, IntKind.max, IntKind.signed, IntKind.bits, Bool.and_eq_true, decide_eq_true_eq, if_true] at h
  omega
theorem and1 (x : Int) : Go.bits .and .i64 x 1 = x % 2 := by
  have h : (BitVec.ofInt 64 x &&& BitVec.ofInt 64 1).toNat = ((x % 2).toNat) := by
    have e : (BitVec.ofInt 64 1).toNat = 2 ^ 1 - 1 := by decide
    rw [BitVec.toNat_and, e, Nat.and_two_pow_sub_one_eq_mod, BitVec.toNat_ofInt]
    omega
  show IntKind.i64.wrap (((BitVec.ofInt 64 x &&& BitVec.ofInt 64 1).toNat : Nat) : Int) = _
  rw [h, IntKind.wrap_i64]
  omega
theorem up {α : Type} {f : Nat → Option α} (hm : ∀ k, LeO (f k) (f (k + 1))) {k0 : Nat} {r : α} (h : f k0 = some r) {k : Nat} (hk : k0 ≤ k) : f k = some r := by
  obtain ⟨d, rfl⟩ : ∃ d, k = k0 + d := ⟨k - k0, by omega⟩
  clear hk
  induction d with
  | zero => exact h
  | succ d ih => exact hm _ _ ih
theorem div_half (v D : Int) (hD : 2 ≤ D) (h0 : -9223372036854775808 ≤ v) (h1 : v ≤ 9223372036854775807) : -4611686018427387904 ≤ v / D ∧ v / D ≤ 4611686018427387903 := by
  constructor
  · exact Int.le_ediv_of_mul_le (by omega) (by omega)
  · have : v / D < 4611686018427387904 := Int.ediv_lt_of_lt_mul (by omega) (by omega)
    omega
/-- Cut to a range. -/
def cutI (v lo hi : Int) : Int := if v < lo then lo else if v > hi then hi else v
def wide (v : Int) : Int := cutI v (-2147483648) 2147483647
theorem wide_range (v : Int) : -2147483648 ≤ wide v ∧ wide v ≤ 2147483647 := by unfold wide cutI; omega
theorem cut_eq (v lo hi : Int) (h0 : -2147483648 ≤ lo) (h1 : lo ≤ hi) (h2 : hi ≤ 2147483647) : fix_cut.f v lo hi = some (cutI v lo hi) := by
  unfold fix_cut.f cutI mn mx wrap32
  congr 1
  split <;> split <;> (try split) <;> (try split) <;> omega
theorem wide_eq (v : Int) : fix_Wide.f v = some (wide v) := by
  unfold fix_Wide.f
  rw [cut_eq _ _ _ (by omega) (by omega) (by omega)]; rfl
theorem half_core (v : Int) (m : Nat) (hm : m ≤ 62) (h0 : -9223372036854775808 ≤ v) (h1 : v ≤ 9223372036854775807) :
    (if (wrap64 (v - (wrap64 ((v / 2 ^ m) * 2 ^ m)))) > ((wrap64 (2 ^ m)) / 2) then (some (wrap64 ((v / 2 ^ m) + 1))) else (if (wrap64 (v - (wrap64 ((v / 2 ^ m) * 2 ^ m)))) = ((wrap64 (2 ^ m)) / 2) then (if (m : Int) > 0 then (if (v / 2 ^ m) % 2 = 1 then (some (wrap64 ((v / 2 ^ m) + 1))) else (some (v / 2 ^ m))) else (some (v / 2 ^ m))) else (some (v / 2 ^ m)))) = some (rnd v (2 ^ m)) := by
  have hD : (2 : Int) ^ m ≤ 4611686018427387904 := two_pow_62 hm
  have hp := two_pow_pos m
  have e1 := Int.emod_add_mul_ediv v (2 ^ m)
  have e2 := Int.emod_nonneg v (by omega : (2 : Int) ^ m ≠ 0)
  have e3 := Int.emod_lt_of_pos v hp
  have e4 : v - (v / 2 ^ m) * 2 ^ m = v % 2 ^ m := by rw [Int.mul_comm]; omega
  rw [w64_sub, e4, w64 (v % 2 ^ m) (by omega) (by omega), w64 (2 ^ m) (by omega) (by omega)]
  rcases Nat.eq_zero_or_pos m with rfl | hpos
  · have e5 : v % 2 ^ 0 = 0 := by rw [Int.pow_zero]; omega
    rw [e5, Int.pow_zero, Int.ediv_one, rnd_one, if_neg (by decide), if_pos (by decide), if_neg (by decide)]
  · obtain ⟨n, rfl⟩ : ∃ n, m = n + 1 := ⟨m - 1, by omega⟩
    have hq := div_half v (2 ^ (n + 1)) (by have := two_pow_pos n; rw [two_pow_succ]; omega) h0 h1
    rw [w64 (v / 2 ^ (n + 1) + 1) (by omega) (by omega)]
    unfold rnd
    have e6 : (2 : Int) ^ (n + 1) / 2 = 2 ^ n := by rw [two_pow_succ]; omega
    have e7 := two_pow_succ n
    rw [e6]
    generalize v % 2 ^ (n + 1) = r at *
    generalize v / 2 ^ (n + 1) = q at *
    rw [e7]
    generalize (2 : Int) ^ n = d at *
    clear e1 e4 e6
    repeat' split
    all_goals first | rfl | (exfalso; omega)
/-- Half's power. -/
def pw (n : Int) : Nat := (mn (mx n 0) 62).toNat
theorem half_eq (v n : Int) (h0 : -9223372036854775808 ≤ v) (h1 : v ≤ 9223372036854775807) : fix_Half.f v n = some (rnd v (2 ^ pw n)) := by
  have hm : pw n ≤ 62 := by unfold pw mn mx; omega
  have := half_core v (pw n) hm h0 h1
  unfold fix_Half.f
  simp only [and1]
  rw [show (mn (mx n 0) 62 : Int) = (pw n : Int) from by unfold pw mn mx; omega]
  exact this
theorem sub_eq (a b : Int) (ha : -2147483648 ≤ a ∧ a ≤ 2147483647) (hb : -2147483648 ≤ b ∧ b ≤ 2147483647) : fix_Sub.f a b = some (wide (a - b)) := by
  unfold fix_Sub.f
  rw [w64 a (by omega) (by omega), w64 b (by omega) (by omega), w64 (a - b) (by omega) (by omega), wide_eq]; rfl
theorem pw16 : (2 : Int) ^ pw 16 = 65536 := by decide
/-- How many powers of two, with 16 bits behind the point. -/
def tOf (x : Int) : Int := rnd (mn x 0 * 94548) 65536
theorem tOf_range (x : Int) (hx : -2147483648 ≤ x ∧ x ≤ 2147483647) : -3098148864 ≤ tOf x ∧ tOf x ≤ 0 := by
  have h : -2147483648 ≤ mn x 0 ∧ mn x 0 ≤ 0 := by unfold mn; split <;> omega
  unfold tOf
  exact ⟨rnd_ge (by omega) (by omega), rnd_le (by omega) (by omega)⟩
def expI (x : Int) : Int := powC (tOf x)
theorem of2_eq (f : Int) (h0 : 0 ≤ f) (h1 : f ≤ 65536) : expo_of2.f f = some (of2 f) := by
  have p := of2_parts f h0 h1
  unfold expo_of2.f of2
  rw [w64 (f * 5180) (by omega) (by omega), w64 (14743 + f * 5180 / 65536) (by omega) (by omega), w64 (f * (14743 + f * 5180 / 65536)) (by omega) (by omega), w64 (45613 + f * (14743 + f * 5180 / 65536) / 65536) (by omega) (by omega), w64 (f * (45613 + f * (14743 + f * 5180 / 65536) / 65536)) (by omega) (by omega), w64 _ (by omega) (by omega)]
theorem exp_eq (x : Int) (hx : -2147483648 ≤ x ∧ x ≤ 2147483647) : expo_Exp.f x = some (expI x) := by
  have h : -2147483648 ≤ mn x 0 ∧ mn x 0 ≤ 0 := by unfold mn; split <;> omega
  have ht := tOf_range x hx
  unfold expo_Exp.f expI powC powT
  rw [w64 (mn x 0) (by omega) (by omega), w64 (mn x 0 * 94548) (by omega) (by omega), half_eq _ _ (by omega) (by omega), pw16]
  simp only [Option.bind_some]
  rw [show rnd (mn x 0 * 94548) 65536 = tOf x from rfl]
  generalize tOf x = t at *
  rw [w64 (-(t / 65536)) (by omega) (by omega), w64 (t / 65536 * 65536) (by omega) (by omega), show t - t / 65536 * 65536 = t % 65536 from by omega, w64 (t % 65536) (by omega) (by omega)]
  by_cases c : -(t / 65536) > 62
  · rw [if_pos c, if_pos c]
  · rw [if_neg c, if_neg c, of2_eq _ (by omega) (by omega)]
    simp only [Option.bind_some]
    have r := of2_range (t % 65536) (by omega) (by omega)
    rw [half_eq _ _ (by omega) (by omega), show pw (-(t / 65536)) = (-(t / 65536)).toNat from by unfold pw mn mx; (repeat' split) <;> omega]
    rfl
theorem rd_drop (l : List Int) (i : Nat) (h : i < l.length) : l.drop i = rd l (i : Int) :: l.drop (i + 1) := by
  rw [List.drop_eq_getElem_cons h]
  congr 1
  unfold rd
  rw [Int.toNat_natCast, List.getD_eq_getElem?_getD, List.getElem?_eq_getElem h]
  rfl
theorem rd_mem (l : List Int) (i : Nat) (h : i < l.length) : rd l (i : Int) ∈ l := by
  have := rd_drop l i h
  exact List.mem_of_mem_drop (this ▸ List.mem_cons_self : rd l (i : Int) ∈ l.drop i)
theorem w64_succ (i n : Nat) (h : i < n) (hn : n ≤ 140737488351232) : wrap64 ((i : Int) + 1) = ((i + 1 : Nat) : Int) := by
  rw [w64 _ (by omega) (by omega)]; omega
/-- All numbers are of 32 bits. -/
def I32 (l : List Int) : Prop := ∀ x ∈ l, -2147483648 ≤ x ∧ x ≤ 2147483647
theorem i32_of {l : List Int} (h : ∀ x ∈ l, (Lit.int .i32 x).wf = true) : I32 l := fun x hx => wf32 (h x hx)
/-- The first place of the greatest one. -/
def FirstMax (l : List Int) (p : Nat) : Prop := p < l.length ∧ (∀ j : Nat, j < l.length → rd l (j : Int) ≤ rd l (p : Int)) ∧ ∀ j : Nat, j < p → rd l (j : Int) < rd l (p : Int)
theorem first_unique {l : List Int} {p q : Nat} (hp : FirstMax l p) (hq : FirstMax l q) : p = q := by
  obtain ⟨p0, p1, p2⟩ := hp
  obtain ⟨q0, q1, q2⟩ := hq
  have h1 := p1 q q0
  have h2 := q1 p p0
  rcases Nat.lt_trichotomy p q with h | h | h
  · have := q2 p h; omega
  · exact h
  · have := p2 q h; omega
theorem max_loop (l : List Int) (hn : l.length ≤ 140737488351232) (d : Nat) : ∀ (k i : Nat) (m : Int), i + d = l.length → d < k → (∀ j : Nat, j < i → rd l (j : Int) ≤ m) → (∃ j : Nat, j < i ∧ rd l (j : Int) = m) →
    ∃ M, slices_Max_int32_int32.l0 k l m (i : Int) = some M ∧ (∀ j : Nat, j < l.length → rd l (j : Int) ≤ M) ∧ ∃ j : Nat, j < l.length ∧ rd l (j : Int) = M := by
  induction d with
  | zero =>
    intro k i m h hk hm he
    obtain ⟨k, rfl⟩ : ∃ m, k = m + 1 := ⟨k - 1, by omega⟩
    obtain rfl : i = l.length := by omega
    refine ⟨m, ?_, hm, he⟩
    simp only [slices_Max_int32_int32.l0]
    rw [if_neg (by omega)]
  | succ d ih =>
    intro k i m h hk hm he
    obtain ⟨k, rfl⟩ : ∃ m, k = m + 1 := ⟨k - 1, by omega⟩
    simp only [slices_Max_int32_int32.l0]
    rw [if_pos (by omega), if_pos (by omega), w64_succ i l.length (by omega) hn]
    have hmx : m ≤ mx m (rd l (i : Int)) ∧ rd l (i : Int) ≤ mx m (rd l (i : Int)) ∧ (mx m (rd l (i : Int)) = m ∨ mx m (rd l (i : Int)) = rd l (i : Int)) := by unfold mx; split <;> omega
    apply ih k (i + 1) _ (by omega) (by omega)
    · intro j hj
      rcases Nat.lt_succ_iff_lt_or_eq.mp hj with h1 | rfl
      · have := hm j h1; omega
      · exact hmx.2.1
    · rcases hmx.2.2 with h1 | h1
      · obtain ⟨j, hj, e⟩ := he
        exact ⟨j, by omega, by rw [e, h1]⟩
      · exact ⟨i, by omega, h1.symm⟩
theorem index_loop (l : List Int) (v : Int) (hn : l.length ≤ 140737488351232) (d : Nat) : ∀ (k i : Nat), i + d = l.length → d < k → (∃ j : Nat, i ≤ j ∧ j < l.length ∧ rd l (j : Int) = v) →
    ∃ p : Nat, slices_Index_int32_int32.l0 k l v (l.length : Int) (i : Int) = some (p : Int) ∧ i ≤ p ∧ p < l.length ∧ rd l (p : Int) = v ∧ ∀ j : Nat, i ≤ j → j < p → rd l (j : Int) ≠ v := by
  induction d with
  | zero =>
    intro k i h hk he
    obtain ⟨j, h1, h2, -⟩ := he
    omega
  | succ d ih =>
    intro k i h hk he
    obtain ⟨k, rfl⟩ : ∃ m, k = m + 1 := ⟨k - 1, by omega⟩
    simp only [slices_Index_int32_int32.l0]
    rw [if_pos (by omega), if_pos (by omega), if_pos (by omega)]
    by_cases c : v = rd l (i : Int)
    · rw [if_pos c]
      exact ⟨i, rfl, by omega, by omega, c.symm, fun j h1 h2 => by omega⟩
    · rw [if_neg c, w64_succ i l.length (by omega) hn]
      obtain ⟨j, h1, h2, h3⟩ := he
      have hj : i + 1 ≤ j := by
        rcases Nat.eq_or_lt_of_le h1 with rfl | h4
        · exact absurd h3.symm c
        · omega
      obtain ⟨p, e, g1, g2, g3, g4⟩ := ih k (i + 1) (by omega) (by omega) ⟨j, hj, h2, h3⟩
      refine ⟨p, e, by omega, g2, g3, fun j h5 h6 => ?_⟩
      rcases Nat.eq_or_lt_of_le h5 with rfl | h7
      · exact fun e2 => c e2.symm
      · exact g4 j (by omega) h6
theorem top_eq (l : List Int) (h0 : 0 < l.length) (hn : l.length ≤ 140737488351232) (k : Nat) (hk : l.length < k) : ∃ p : Nat, FirstMax l p ∧ dot_Top.f k l = some ((p : Int), rd l (p : Int), 0) := by
  obtain ⟨M, eM, hM, j, hj, ej⟩ := max_loop l hn (l.length - 1) k 1 (rd l ((0 : Nat) : Int)) (by omega) (by omega) (fun j h => Nat.lt_one_iff.mp h ▸ Int.le_refl _) ⟨0, by omega, rfl⟩
  obtain ⟨p, ep, -, hp, rp, np⟩ := index_loop l M hn l.length k 0 (by omega) hk ⟨j, by omega, hj, ej⟩
  refine ⟨p, ⟨hp, fun q hq => by rw [rp]; exact hM q hq, fun q hq => ?_⟩, ?_⟩
  · have h1 := hM q (by omega)
    have h2 := np q (by omega) hq
    rw [rp]; omega
  · unfold dot_Top.f slices_Max_int32_int32.f slices_Index_int32_int32.f
    rw [if_neg (by omega), if_neg (by omega), if_pos (by omega)]
    have eM' : slices_Max_int32_int32.l0 k l (rd l 0) 1 = some M := eM
    have ep' : slices_Index_int32_int32.l0 k l M (l.length : Int) 0 = some (p : Int) := ep
    rw [eM']
    simp only [Option.bind_some]
    rw [ep', rp]; rfl
theorem all_rd (l : List Int) (P : Int → Prop) (h : ∀ j : Nat, j < l.length → P (rd l (j : Int))) : ∀ x ∈ l, P x := by
  intro x hx
  obtain ⟨j, hj, rfl⟩ := List.mem_iff_getElem.mp hx
  have := h j hj
  unfold rd at this
  rwa [Int.toNat_natCast, List.getD_eq_getElem?_getD, List.getElem?_eq_getElem hj] at this
theorem rd_map (f : Int → Int) (l : List Int) (i : Nat) (h : i < l.length) : rd (l.map f) (i : Int) = f (rd l (i : Int)) := by
  unfold rd
  rw [Int.toNat_natCast, List.getD_eq_getElem?_getD, List.getD_eq_getElem?_getD, List.getElem?_eq_getElem h, List.getElem?_eq_getElem (by rw [List.length_map]; omega), List.getElem_map]
  rfl
/-- A score's weight, the greatest one being top. -/
def weigh (top x : Int) : Int := expI (wide (x - top))
def weighL (top : Int) (l : List Int) : List Int := l.map (weigh top)
theorem weights_loop (l : List Int) (top : Int) (ht : -2147483648 ≤ top ∧ top ≤ 2147483647) (hn : l.length ≤ 1000000) (hl : I32 l) (d : Nat) : ∀ (k i : Nat) (acc : List Int), i + d = l.length → d < k → acc.length = i →
    soft_Weights.l0 k top acc l (l.length : Int) (i : Int) = some (acc ++ weighL top (l.drop i), 0) := by
  induction d with
  | zero =>
    intro k i acc h hk ho
    obtain ⟨k, rfl⟩ : ∃ m, k = m + 1 := ⟨k - 1, by omega⟩
    simp only [soft_Weights.l0]
    rw [if_neg (by omega), List.drop_of_length_le (by omega : l.length ≤ i)]
    simp [weighL]
  | succ d ih =>
    intro k i acc h hk ho
    obtain ⟨k, rfl⟩ : ∃ m, k = m + 1 := ⟨k - 1, by omega⟩
    have hx := hl _ (rd_mem l i (by omega))
    simp only [soft_Weights.l0]
    rw [if_pos (by omega), if_pos (by omega), if_pos (by omega), sub_eq _ _ hx ht]
    simp only [Option.bind_some]
    rw [exp_eq _ (wide_range _)]
    simp only [Option.bind_some]
    rw [if_pos (by omega), w64_succ i l.length (by omega) (by omega), ih k (i + 1) _ (by omega) (by omega) (by rw [List.length_append]; simp; omega), rd_drop l i (by omega), List.append_assoc]
    rfl
theorem weights_eq (l : List Int) (h0 : 0 < l.length) (h1 : (l.length : Int) ≤ 1024) (hl : I32 l) (k : Nat) (hk : l.length < k) (p : Nat) (hp : FirstMax l p) : soft_Weights.f k l = some (weighL (rd l (p : Int)) l, 0) := by
  obtain ⟨q, hq, e⟩ := top_eq l h0 (by omega) k hk
  obtain rfl := first_unique hp hq
  unfold soft_Weights.f
  rw [if_neg (by omega), e]
  simp only [Option.bind_some]
  rw [if_pos trivial]
  have := weights_loop l (rd l (p : Int)) (hl _ (rd_mem l p hp.1)) (by omega) hl l.length k 0 [] (by omega) hk rfl
  rw [List.drop_zero, List.nil_append] at this
  exact this
theorem first_ex (l : List Int) (h0 : 0 < l.length) (hn : l.length ≤ 140737488351232) : ∃ p, FirstMax l p := by
  obtain ⟨q, hq, -⟩ := top_eq l h0 hn (l.length + 1) (by omega)
  exact ⟨q, hq⟩
theorem weighL_length (top : Int) (l : List Int) : (weighL top l).length = l.length := by unfold weighL; rw [List.length_map]
theorem same4_loop (a b : List Int) (hab : a.length = b.length) (hn : a.length ≤ 140737488351232) (d : Nat) : ∀ (k i : Nat), i + d = a.length → d < k →
    credenzalaw04_same.l0 k a b (a.length : Int) (i : Int) = some (decide (a.drop i = b.drop i)) := by
  induction d with
  | zero =>
    intro k i h hk
    obtain ⟨k, rfl⟩ : ∃ m, k = m + 1 := ⟨k - 1, by omega⟩
    simp only [credenzalaw04_same.l0]
    rw [if_neg (by omega), List.drop_of_length_le (by omega : a.length ≤ i), List.drop_of_length_le (by omega : b.length ≤ i)]
    simp
  | succ d ih =>
    intro k i h hk
    obtain ⟨k, rfl⟩ : ∃ m, k = m + 1 := ⟨k - 1, by omega⟩
    simp only [credenzalaw04_same.l0]
    rw [if_pos (by omega), if_pos (by omega), if_pos (by omega), if_pos (by omega), w64_succ i a.length (by omega) hn, ih k (i + 1) (by omega) (by omega), rd_drop a i (by omega), rd_drop b i (by omega)]
    by_cases c : rd a (i : Int) = rd b (i : Int)
    · rw [if_pos c, c]; simp
    · rw [if_neg c]; simp [c]
theorem same4_self (a : List Int) (hn : a.length ≤ 140737488351232) (k : Nat) (hk : a.length < k) : credenzalaw04_same.f k a a = some true := by
  unfold credenzalaw04_same.f
  rw [if_pos rfl]
  have := same4_loop a a rfl hn a.length k 0 (by omega) hk
  rw [List.drop_zero] at this
  rw [show credenzalaw04_same.l0 k a a (a.length : Int) 0 = some (decide (a = a)) from this]
  simp
end Cz

theorem softmoves_loop (l : List Int) (x : Int) (h0 : 0 < l.length) (h1 : (l.length : Int) ≤ 1024) (hl : Cz.I32 l) (hx : -536870912 ≤ x ∧ x ≤ 536870912) (aw : ∀ k, 1200 ≤ k → credenzalaw04_awake.f k = some true) (d : Nat) : ∀ (k i : Nat), i + d = l.length → d + 3000 < k → (∀ j : Nat, j < i → -536870912 ≤ rd l (j : Int) ∧ rd l (j : Int) ≤ 536870912) →
    credenzalaw04_SoftMoves.l0 k l x ((l.take i).map (fun y => x + y)) l (l.length : Int) (i : Int) = some true := by
  induction d with
  | zero =>
    intro k i h hk hr
    obtain ⟨k, rfl⟩ : ∃ m, k = m + 1 := ⟨k - 1, by omega⟩
    obtain rfl : i = l.length := by omega
    rw [List.take_length]
    have hm : Cz.I32 (l.map (fun y => x + y)) := by
      intro z hz
      obtain ⟨y, hy, rfl⟩ := List.mem_map.mp hz
      have := Cz.all_rd l (fun y => -536870912 ≤ y ∧ y ≤ 536870912) hr y hy
      show -2147483648 ≤ x + y ∧ x + y ≤ 2147483647
      omega
    have hlm : (l.map (fun y => x + y)).length = l.length := List.length_map _
    obtain ⟨p, hp⟩ := Cz.first_ex l h0 (by omega)
    have rm : ∀ j : Nat, j < l.length → rd (l.map (fun y => x + y)) (j : Int) = x + rd l (j : Int) := fun j hj => Cz.rd_map _ _ _ hj
    have hp' : Cz.FirstMax (l.map (fun y => x + y)) p := by
      obtain ⟨p0, p1, p2⟩ := hp
      refine ⟨by omega, fun j hj => ?_, fun j hj => ?_⟩
      · rw [rm j (by omega), rm p p0]; have := p1 j (by omega); omega
      · rw [rm j (by omega), rm p p0]; have := p2 j hj; omega
    have hw := Cz.weighL_length (rd l (p : Int)) l
    have ew : Cz.weighL (x + rd l (p : Int)) (l.map (fun y => x + y)) = Cz.weighL (rd l (p : Int)) l := by
      unfold Cz.weighL
      rw [List.map_map]
      apply List.map_congr_left
      intro y _
      show Cz.weigh (x + rd l (p : Int)) (x + y) = Cz.weigh (rd l (p : Int)) y
      unfold Cz.weigh
      rw [show x + y - (x + rd l (p : Int)) = y - rd l (p : Int) from by omega]
    simp only [credenzalaw04_SoftMoves.l0]
    rw [if_neg (by omega), Cz.weights_eq l h0 h1 hl k (by omega) p hp, Cz.weights_eq _ (by omega) (by omega) hm k (by omega) p hp', rm p hp.1, ew]
    simp only [Option.bind_some]
    rw [if_pos trivial, Cz.same4_self _ (by omega) k (by omega), aw k (by omega)]
    simp
  | succ d ih =>
    intro k i h hk hr
    obtain ⟨k, rfl⟩ : ∃ m, k = m + 1 := ⟨k - 1, by omega⟩
    simp only [credenzalaw04_SoftMoves.l0]
    rw [if_pos (by omega), if_pos (by omega), if_pos (by omega), aw k (by omega)]
    by_cases c1 : rd l (i : Int) < -536870912
    · rw [if_pos c1]; rfl
    rw [if_neg c1]
    by_cases c2 : rd l (i : Int) > 536870912
    · rw [if_pos c2]; rfl
    rw [if_neg c2, if_pos (by rw [List.length_map, List.length_take]; omega), Cz.w64_succ i l.length (by omega) (by omega), Cz.w32 (x + rd l (i : Int)) (by omega) (by omega)]
    have et : (l.take i).map (fun y => x + y) ++ [x + rd l (i : Int)] = (l.take (i + 1)).map (fun y => x + y) := by
      rw [List.take_succ_eq_append_getElem (by omega), List.map_append]
      congr 1
      unfold rd
      rw [Int.toNat_natCast, List.getD_eq_getElem?_getD, List.getElem?_eq_getElem (by omega)]
      rfl
    rw [et]
    apply ih k (i + 1) (by omega) (by omega)
    intro j hj
    rcases Nat.lt_succ_iff_lt_or_eq.mp hj with h4 | rfl
    · exact hr j h4
    · exact ⟨by omega, by omega⟩
theorem SoftMoves : credenzalaw04_SoftMoves.Pure := by
  intro l x _ _ hl hx
  have hl := Cz.i32_of hl
  have hx := Cz.wf32 hx
  have aw : credenzalaw04_awake.f 1200 = some true := by decide +kernel
  have awk := fun k (hk : 1200 ≤ k) => Cz.up credenzalaw04_awake.mono aw hk
  refine ⟨9002, ?_⟩
  have J : credenzalaw04_SoftMoves.j0 9002 l x true = some true := by
    simp only [credenzalaw04_SoftMoves.j0]
    rw [if_pos trivial, awk _ (by omega)]; rfl
  unfold credenzalaw04_SoftMoves.f
  by_cases c0 : (l.length : Int) > 1024
  · rw [if_pos c0]; exact J
  rw [if_neg c0]
  by_cases c1 : (l.length : Int) = 0
  · rw [if_pos c1]; exact J
  rw [if_neg c1]
  by_cases c2 : x < -536870912
  · rw [if_pos c2]; exact J
  rw [if_neg c2]
  by_cases c3 : x > 536870912
  · rw [decide_eq_true c3]; exact J
  rw [decide_eq_false c3]
  simp only [credenzalaw04_SoftMoves.j0]
  rw [if_neg (by decide)]
  exact softmoves_loop l x (by omega) (by omega) hl (by omega) awk l.length 9001 0 (by omega) (by omega) (fun j hj => by omega)

end Go.Proofs.Ytmndomlpdajjmac.Pure
