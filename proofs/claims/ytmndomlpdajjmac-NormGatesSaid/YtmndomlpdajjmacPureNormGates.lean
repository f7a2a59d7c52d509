/- Any list is let through by any other one as the document says, or refused; what is let through by nothing above 0 is 0. No condition: for every input. -/
import Derived.Test.YtmndomlpdajjmacQx1
import Derived.Test.YtmndomlpdajjmacQx10
import Derived.Test.YtmndomlpdajjmacQx11
import Derived.Test.YtmndomlpdajjmacQx12
import Derived.Test.YtmndomlpdajjmacQx3
import Derived.Test.YtmndomlpdajjmacQx6
import Derived.Test.YtmndomlpdajjmacQx7
import Derived.Test.YtmndomlpdajjmacQx8
import Derived.Test.YtmndomlpdajjmacQx9
set_option linter.unusedVariables false
set_option linter.unusedSimpArgs false
namespace Go.Proofs.Ytmndomlpdajjmac.Pure
open Go.RowKit Go.Proofs.Ytmndomlpdajjmac.Q Go.Proofs.YtmndomlpdajjmacW.PrintWords Go.Proofs.YtmndomlpdajjmacW.PrintLast
namespace Cz

/-- Divided by d, rounded, a half to the even one. -/
def rnd (a d : Int) : Int :=
  if a % d > d - a % d then a / d + 1 else if a % d = d - a % d ∧ (a / d) % 2 = 1 then a / d + 1 else a / d
/-- What is promised of a rounded fraction. -/
def Near (a d r : Int) : Prop := 2 * (a - r * d) ≤ d ∧ -d ≤ 2 * (a - r * d) ∧ ((2 * (a - r * d) = d ∨ 2 * (a - r * d) = -d) → r % 2 = 0)
theorem rnd_near (a d : Int) (hd : 0 < d) : Near a d (rnd a d) := by
  have h1 := Int.emod_add_mul_ediv a d
  have h2 := Int.emod_nonneg a (by omega : d ≠ 0)
  have h3 := Int.emod_lt_of_pos a hd
  unfold Near rnd
  generalize a % d = m at *
  generalize a / d = q at *
  have e1 : (q + 1) * d = d * q + d := by rw [Int.add_mul, Int.one_mul, Int.mul_comm]
  have e2 : q * d = d * q := Int.mul_comm _ _
  generalize hk : d * q = k at *
  split
  · rw [e1]; omega
  · split
    · rw [e1]; omega
    · rw [e2]; omega
theorem near_le {a b d r s : Int} (hd : 0 < d) (ha : Near a d r) (hb : Near b d s) (h : a ≤ b) : r ≤ s := by
  obtain ⟨a1, a2, a3⟩ := ha
  obtain ⟨b1, b2, b3⟩ := hb
  by_cases hlt : s < r
  · exfalso
    obtain ⟨k, rfl⟩ : ∃ k : Int, r = s + 1 + k := ⟨r - s - 1, by omega⟩
    have hk : 0 ≤ k := by omega
    have e1 : (s + 1 + k) * d = s * d + d + k * d := by rw [Int.add_mul, Int.add_mul, Int.one_mul]
    rw [e1] at a1 a2 a3
    have hkd : 0 ≤ k * d := Int.mul_nonneg hk (by omega)
    generalize s * d = sd at *
    by_cases h0 : k = 0
    · subst h0
      rw [Int.zero_mul] at *
      have := a3 (by omega)
      have := b3 (by omega)
      omega
    · have : d ≤ k * d := by
        have := Int.mul_le_mul_of_nonneg_right (show (1 : Int) ≤ k by omega) (show 0 ≤ d by omega)
        omega
      generalize k * d = kd at *
      omega
  · omega
theorem near_unique {a d r s : Int} (hd : 0 < d) (ha : Near a d r) (hb : Near a d s) : r = s :=
  Int.le_antisymm (near_le hd ha hb (Int.le_refl a)) (near_le hd hb ha (Int.le_refl a))
theorem rnd_unique {a d r : Int} (hd : 0 < d) (h : Near a d r) : rnd a d = r := near_unique hd (rnd_near a d hd) h
theorem rnd_mul (q d : Int) (hd : 0 < d) : rnd (q * d) d = q := by
  apply rnd_unique hd
  unfold Near
  rw [Int.sub_self]
  omega
theorem rnd_one (a : Int) : rnd a 1 = a := by
  have := rnd_mul a 1 (by omega)
  rwa [Int.mul_one] at this
theorem two_pow_pos (n : Nat) : (0 : Int) < 2 ^ n := Int.pow_pos (by omega)
theorem two_pow_le (m : Nat) (d : Nat) : (2 : Int) ^ m ≤ 2 ^ (m + d) := by
  induction d with
  | zero => exact Int.le_refl _
  | succ d ih =>
    have h := two_pow_pos (m + d)
    have e : (2 : Int) ^ (m + (d + 1)) = 2 * 2 ^ (m + d) := by rw [← Nat.add_assoc, Int.pow_succ, Int.mul_comm]
    omega
theorem two_pow_max {m n : Nat} (h : m ≤ n) : (2 : Int) ^ m ≤ 2 ^ n := by
  obtain ⟨d, rfl⟩ : ∃ d, n = m + d := ⟨n - m, by omega⟩
  exact two_pow_le m d
theorem two_pow_62 {m : Nat} (h : m ≤ 62) : (2 : Int) ^ m ≤ 4611686018427387904 := two_pow_max h
theorem two_pow_61 {m : Nat} (h : m ≤ 61) : (2 : Int) ^ m ≤ 2305843009213693952 := two_pow_max h
theorem two_pow_succ (n : Nat) : (2 : Int) ^ (n + 1) = 2 * 2 ^ n := by rw [Int.pow_succ, Int.mul_comm]
theorem w64 (x : Int) (h0 : -9223372036854775808 ≤ x) (h1 : x ≤ 9223372036854775807) : wrap64 x = x := by unfold wrap64; omega
theorem w32 (x : Int) (h0 : -2147483648 ≤ x) (h1 : x ≤ 2147483647) : wrap32 x = x := by unfold wrap32; omega
theorem w64_sub (a b : Int) : wrap64 (a - wrap64 b) = wrap64 (a - b) := by unfold wrap64; omega
theorem wf32 {x : Int} (h : (Lit.int .i32 x).wf = true) : -2147483648 ≤ x ∧ x ≤ 2147483647 := by
  simp only [Lit.wf, IntKind.min, IntKind.max, IntKind.signed, IntKind.bits, Bool.and_eq_true, decide_eq_true_eq, if_true] at h
  omega
theorem and1 (x : Int) : Go.bits .and .i64 x 1 = x % 2 := by
  have h : (BitVec.ofInt 64 x &&& BitVec.ofInt 64 1).toNat = ((x % 2).toNat) := by
    have e : (BitVec.ofInt 64 1).toNat = 2 ^ 1 - 1 := by decide
    rw [BitVec.toNat_and, e, Nat.and_two_pow_sub_one_eq_mod, BitVec.toNat_ofInt]
    omega
  show IntKind.i64.wrap (((BitVec.ofInt 64 x &&& BitVec.ofInt 64 1).toNat : Nat) : Int) = _
  rw [h, IntKind.wrap_i64]
  omega
theorem up {α : Type} {f : Nat → Option α} (hm : ∀ k, LeO (f k) (f (k + 1))) {k0 : Nat} {r : α} (h : f k0 = some r) {k : Nat} (hk : k0 ≤ k) : f k = some r := by
  obtain ⟨d, rfl⟩ : ∃ d, k = k0 + d := ⟨k - k0, by omega⟩
  clear hk
  induction d with
  | zero => exact h
  | succ d ih => exact hm _ _ ih
theorem mul_bound {a b A B : Int} (ha : -A ≤ a) (ha' : a ≤ A) (hb : -B ≤ b) (hb' : b ≤ B) : -(A * B) ≤ a * b ∧ a * b ≤ A * B := by
  have h1 : 0 ≤ (A - a) * (B + b) := Int.mul_nonneg (by omega) (by omega)
  have h2 : 0 ≤ (A + a) * (B - b) := Int.mul_nonneg (by omega) (by omega)
  have h3 : 0 ≤ (A - a) * (B - b) := Int.mul_nonneg (by omega) (by omega)
  have h4 : 0 ≤ (A + a) * (B + b) := Int.mul_nonneg (by omega) (by omega)
  simp only [Int.sub_mul, Int.mul_sub, Int.add_mul, Int.mul_add] at h1 h2 h3 h4
  generalize A * B = p at *
  generalize a * b = q at *
  generalize A * b = r at *
  generalize a * B = s at *
  omega
theorem div_bound (v D : Int) (hD : 1 ≤ D) : (0 ≤ v → 0 ≤ v / D ∧ v / D ≤ v) ∧ (v < 0 → v ≤ v / D ∧ v / D < 0) := by
  have h1 := Int.emod_add_mul_ediv v D
  have h2 := Int.emod_nonneg v (by omega : D ≠ 0)
  have h3 := Int.emod_lt_of_pos v (by omega : 0 < D)
  constructor
  · intro h
    exact ⟨Int.ediv_nonneg h (by omega), Int.ediv_le_self D h⟩
  · intro h
    have hn : v / D < 0 := Int.ediv_neg_of_neg_of_pos h (by omega)
    have : (v / D + 1) * (D - 1) ≤ 0 := Int.mul_nonpos_of_nonpos_of_nonneg (by omega) (by omega)
    rw [Int.mul_sub, Int.mul_one, Int.add_mul, Int.one_mul, Int.mul_comm (v / D)] at this
    omega
theorem div_half (v D : Int) (hD : 2 ≤ D) (h0 : -9223372036854775808 ≤ v) (h1 : v ≤ 9223372036854775807) : -4611686018427387904 ≤ v / D ∧ v / D ≤ 4611686018427387903 := by
  constructor
  · exact Int.le_ediv_of_mul_le (by omega) (by omega)
  · have : v / D < 4611686018427387904 := Int.ediv_lt_of_lt_mul (by omega) (by omega)
    omega
/-- Cut to a range. -/
def cutI (v lo hi : Int) : Int := if v < lo then lo else if v > hi then hi else v
def narrow (v : Int) : Int := cutI v (-8388608) 8388608
theorem narrow_range (v : Int) : -8388608 ≤ narrow v ∧ narrow v ≤ 8388608 := by unfold narrow cutI; omega
theorem cut_eq (v lo hi : Int) (h0 : -2147483648 ≤ lo) (h1 : lo ≤ hi) (h2 : hi ≤ 2147483647) : fix_cut.f v lo hi = some (cutI v lo hi) := by
  unfold fix_cut.f cutI mn mx wrap32
  congr 1
  split <;> split <;> (try split) <;> (try split) <;> omega
theorem narrow_eq (v : Int) : fix_Narrow.f v = some (narrow v) := by
  unfold fix_Narrow.f
  rw [cut_eq _ _ _ (by omega) (by omega) (by omega)]; rfl
theorem half_core (v : Int) (m : Nat) (hm : m ≤ 62) (h0 : -9223372036854775808 ≤ v) (h1 : v ≤ 9223372036854775807) :
    (if (wrap64 (v - (wrap64 ((v / 2 ^ m) * 2 ^ m)))) > ((wrap64 (2 ^ m)) / 2) then (some (wrap64 ((v / 2 ^ m) + 1))) else (if (wrap64 (v - (wrap64 ((v / 2 ^ m) * 2 ^ m)))) = ((wrap64 (2 ^ m)) / 2) then (if (m : Int) > 0 then (if (v / 2 ^ m) % 2 = 1 then (some (wrap64 ((v / 2 ^ m) + 1))) else (some (v / 2 ^ m))) else (some (v / 2 ^ m))) else (some (v / 2 ^ m)))) = some (rnd v (2 ^ m)) := by
  have hD : (2 : Int) ^ m ≤ 4611686018427387904 := two_pow_62 hm
  have hp := two_pow_pos m
  have e1 := Int.emod_add_mul_ediv v (2 ^ m)
  have e2 := Int.emod_nonneg v (by omega : (2 : Int) ^ m ≠ 0)
  have e3 := Int.emod_lt_of_pos v hp
  have e4 : v - (v / 2 ^ m) * 2 ^ m = v % 2 ^ m := by rw [Int.mul_comm]; omega
  rw [w64_sub, e4, w64 (v % 2 ^ m) (by omega) (by omega), w64 (2 ^ m) (by omega) (by omega)]
  rcases Nat.eq_zero_or_pos m with rfl | hpos
  · have e5 : v % 2 ^ 0 = 0 := by rw [Int.pow_zero]; omega
    rw [e5, Int.pow_zero, Int.ediv_one, rnd_one, if_neg (by decide), if_pos (by decide), if_neg (by decide)]
  · obtain ⟨n, rfl⟩ : ∃ n, m = n + 1 := ⟨m - 1, by omega⟩
    have hq := div_half v (2 ^ (n + 1)) (by have := two_pow_pos n; rw [two_pow_succ]; omega) h0 h1
    rw [w64 (v / 2 ^ (n + 1) + 1) (by omega) (by omega)]
    unfold rnd
    have e6 : (2 : Int) ^ (n + 1) / 2 = 2 ^ n := by rw [two_pow_succ]; omega
    have e7 := two_pow_succ n
    rw [e6]
    generalize v % 2 ^ (n + 1) = r at *
    generalize v / 2 ^ (n + 1) = q at *
    rw [e7]
    generalize (2 : Int) ^ n = d at *
    clear e1 e4 e6
    repeat' split
    all_goals first | rfl | (exfalso; omega)
/-- Half's power. -/
def pw (n : Int) : Nat := (mn (mx n 0) 62).toNat
theorem half_eq (v n : Int) (h0 : -9223372036854775808 ≤ v) (h1 : v ≤ 9223372036854775807) : fix_Half.f v n = some (rnd v (2 ^ pw n)) := by
  have hm : pw n ≤ 62 := by unfold pw mn mx; omega
  have := half_core v (pw n) hm h0 h1
  unfold fix_Half.f
  simp only [and1]
  rw [show (mn (mx n 0) 62 : Int) = (pw n : Int) from by unfold pw mn mx; omega]
  exact this
theorem tdiv_eq (a b : Int) (hb : 0 < b) : Int.tdiv a b = if a < 0 ∧ a % b ≠ 0 then a / b + 1 else a / b := by
  rw [Int.tdiv_eq_ediv]
  have hs : b.sign = 1 := Int.sign_eq_one_of_pos hb
  have hd : b ∣ a ↔ a % b = 0 := ⟨Int.emod_eq_zero_of_dvd, Int.dvd_of_emod_eq_zero⟩
  by_cases c : a < 0 ∧ a % b ≠ 0
  · rw [if_pos c, if_neg (by rw [hd]; omega), hs]
  · rw [if_neg c, if_pos (by rw [hd]; omega)]; omega
theorem tmod_eq (a b : Int) (hb : 0 < b) : Int.tmod a b = if a < 0 ∧ a % b ≠ 0 then a % b - b else a % b := by
  have h1 := Int.tmod_add_mul_tdiv a b
  have h2 := Int.emod_add_mul_ediv a b
  rw [tdiv_eq a b hb] at h1
  split at h1
  · rename_i c
    rw [if_pos c]
    rw [Int.mul_add, Int.mul_one] at h1
    omega
  · rename_i c
    rw [if_neg c]
    omega
theorem pw16 : (2 : Int) ^ pw 16 = 65536 := by decide
theorem mul_range (a b : Int) (ha : -2147483648 ≤ a ∧ a ≤ 2147483647) (hb : -2147483648 ≤ b ∧ b ≤ 2147483647) : -4611686018427387904 ≤ a * b ∧ a * b ≤ 4611686018427387904 :=
  mul_bound (A := 2147483648) (B := 2147483648) (by omega) (by omega) (by omega) (by omega)
theorem rfloor_eq (a b : Int) (h0 : -9223372036854775808 ≤ a) (h1 : a ≤ 9223372036854775807) (hb : 0 < b) : credenzaref01_Floor.f a b = some (a / b) := by
  have e1 := Int.emod_add_mul_ediv a b
  have e2 := Int.emod_nonneg a (by omega : b ≠ 0)
  have e3 := Int.emod_lt_of_pos a hb
  have hq := div_bound a b (by omega)
  have hn : a < 0 → (a / b + 1) * b ≤ 0 := fun h => Int.mul_nonpos_of_nonpos_of_nonneg (by omega) (by omega)
  have hz : 0 ≤ a → 0 ≤ b * (a / b) := fun h => Int.mul_nonneg (by omega) (hq.1 h).1
  have ep : (a / b + 1) * b = b * (a / b) + b := by rw [Int.add_mul, Int.one_mul, Int.mul_comm]
  have eq' : a / b * b = b * (a / b) := Int.mul_comm _ _
  unfold credenzaref01_Floor.f
  rw [if_neg (by omega), tdiv_eq a b hb]
  by_cases c : a < 0 ∧ a % b ≠ 0
  · have := hn c.1
    rw [if_pos c, w64 (a / b + 1) (by omega) (by omega), ep, w64 (b * (a / b) + b) (by omega) (by omega), if_pos (by omega), show a / b + 1 - 1 = a / b from by omega, w64 _ (by omega) (by omega)]
  · rw [if_neg c, w64 (a / b) (by omega) (by omega), eq', w64 (b * (a / b)) (by omega) (by omega), if_neg (by omega)]
theorem rratio_eq (a b : Int) (h0 : -9223372036854775808 ≤ a) (h1 : a ≤ 9223372036854775807) (hb : 0 < b) (hb1 : b ≤ 9223372036854775807) : credenzaref01_Ratio.f a b = some (rnd a b) := by
  have e1 := Int.emod_add_mul_ediv a b
  have e2 := Int.emod_nonneg a (by omega : b ≠ 0)
  have e3 := Int.emod_lt_of_pos a hb
  have hq := div_bound a b (by omega)
  have hq2 := fun h => div_half a b h h0 h1
  have e4 : a - (a / b) * b = a % b := by rw [Int.mul_comm]; omega
  unfold credenzaref01_Ratio.f rnd
  rw [rfloor_eq a b h0 h1 hb]
  simp only [Option.bind_some]
  rw [w64_sub, e4, w64 (a % b) (by omega) (by omega), w64 (b - a % b) (by omega) (by omega), tmod_eq _ 2 (by omega)]
  generalize a % b = r at *
  generalize a / b = q at *
  by_cases c1 : 2 ≤ b
  · rw [w64 (q + 1) (by omega) (by omega)]
    repeat' split
    all_goals first | rfl | (exfalso; omega)
  · repeat' split
    all_goals first | rfl | (exfalso; omega)
theorem rcut_eq (v lo hi : Int) : credenzaref01_Cut.f v lo hi = some (cutI v lo hi) := by
  unfold credenzaref01_Cut.f cutI
  split
  · rfl
  · split <;> rfl
theorem rpower_loop (n : Nat) (hn : n ≤ 62) (d : Nat) : ∀ (k i : Nat), i + d = n → d < k → credenzaref01_Power.l0 k (n : Int) (2 ^ i) (i : Int) = some (2 ^ n) := by
  induction d with
  | zero =>
    intro k i h hk
    obtain ⟨k, rfl⟩ : ∃ m, k = m + 1 := ⟨k - 1, by omega⟩
    obtain rfl : i = n := by omega
    simp only [credenzaref01_Power.l0]; rw [if_neg (by omega)]
  | succ d ih =>
    intro k i h hk
    obtain ⟨k, rfl⟩ : ∃ m, k = m + 1 := ⟨k - 1, by omega⟩
    have hD : (2 : Int) ^ i ≤ 2305843009213693952 := two_pow_61 (by omega)
    have hp := two_pow_pos i
    simp only [credenzaref01_Power.l0]
    rw [if_pos (by omega), w64 (2 ^ i * 2) (by omega) (by omega), w64 ((i : Int) + 1) (by omega) (by omega), show (2 : Int) ^ i * 2 = 2 ^ (i + 1) from by rw [two_pow_succ, Int.mul_comm], show (i : Int) + 1 = ((i + 1 : Nat) : Int) from by omega]
    exact ih k (i + 1) (by omega) (by omega)
theorem rpower_eq (n : Nat) (hn : n ≤ 62) (k : Nat) (hk : 63 ≤ k) : credenzaref01_Power.f k (n : Int) = some (2 ^ n) := by
  unfold credenzaref01_Power.f
  exact rpower_loop n hn n k 0 (by omega) (by omega)
theorem rhalf_eq (v n : Int) (h0 : -9223372036854775808 ≤ v) (h1 : v ≤ 9223372036854775807) (k : Nat) (hk : 63 ≤ k) : credenzaref01_Half.f k v n = some (rnd v (2 ^ pw n)) := by
  have hm : pw n ≤ 62 := by unfold pw mn mx; omega
  have hD : (2 : Int) ^ pw n ≤ 4611686018427387904 := two_pow_62 hm
  have hc : cutI n 0 62 = (pw n : Int) := by unfold pw mn mx cutI; omega
  unfold credenzaref01_Half.f
  rw [rcut_eq, hc]
  simp only [Option.bind_some]
  rw [rpower_eq _ hm k hk]
  simp only [Option.bind_some]
  rw [rratio_eq v _ h0 h1 (two_pow_pos _) (by omega)]
  rfl
theorem rnarrow_eq (v : Int) : credenzaref01_Narrow.f v = some (narrow v) := by
  have := narrow_range v
  unfold credenzaref01_Narrow.f
  rw [rcut_eq]
  show some (wrap32 (narrow v)) = some (narrow v)
  rw [w32 _ (by omega) (by omega)]
theorem rd_drop (l : List Int) (i : Nat) (h : i < l.length) : l.drop i = rd l (i : Int) :: l.drop (i + 1) := by
  rw [List.drop_eq_getElem_cons h]
  congr 1
  unfold rd
  rw [Int.toNat_natCast, List.getD_eq_getElem?_getD, List.getElem?_eq_getElem h]
  rfl
theorem rd_mem (l : List Int) (i : Nat) (h : i < l.length) : rd l (i : Int) ∈ l := by
  have := rd_drop l i h
  exact List.mem_of_mem_drop (this ▸ List.mem_cons_self : rd l (i : Int) ∈ l.drop i)
theorem w64_succ (i n : Nat) (h : i < n) (hn : n ≤ 140737488351232) : wrap64 ((i : Int) + 1) = ((i + 1 : Nat) : Int) := by
  rw [w64 _ (by omega) (by omega)]; omega
/-- All numbers are of 32 bits. -/
def I32 (l : List Int) : Prop := ∀ x ∈ l, -2147483648 ≤ x ∧ x ≤ 2147483647
theorem i32_of {l : List Int} (h : ∀ x ∈ l, (Lit.int .i32 x).wf = true) : I32 l := fun x hx => wf32 (h x hx)
theorem set_take (l : List Int) (i : Nat) (v : Int) (h : i < l.length) : (l.set i v).take (i + 1) = l.take i ++ [v] := by
  rw [List.take_add_one, List.take_set, List.getElem?_set_self h, List.set_eq_of_length_le (by rw [List.length_take]; omega)]
  rfl
theorem shape_eq (a b : List Int) : dot_shape.f a b = some (if (a.length : Int) = (b.length : Int) then (if (a.length : Int) > 1024 then 12 else 0) else 25) := by
  unfold dot_shape.f
  repeat' split
  all_goals rfl
theorem rshape_eq (a b : List Int) : credenzaref03_Shape.f a b = some (if (a.length : Int) = (b.length : Int) then (if (a.length : Int) > 1024 then 12 else 0) else 25) := by
  unfold credenzaref03_Shape.f
  repeat' split
  all_goals rfl
theorem same_loop (a b : List Int) (hab : a.length = b.length) (hn : a.length ≤ 140737488351232) (d : Nat) : ∀ (k i : Nat), i + d = a.length → d < k →
    credenzaref03_Same.l0 k a b (i : Int) = some (decide (a.drop i = b.drop i)) := by
  induction d with
  | zero =>
    intro k i h hk
    obtain ⟨k, rfl⟩ : ∃ m, k = m + 1 := ⟨k - 1, by omega⟩
    simp only [credenzaref03_Same.l0]
    rw [if_neg (by omega), List.drop_of_length_le (by omega : a.length ≤ i), List.drop_of_length_le (by omega : b.length ≤ i)]
    simp
  | succ d ih =>
    intro k i h hk
    obtain ⟨k, rfl⟩ : ∃ m, k = m + 1 := ⟨k - 1, by omega⟩
    simp only [credenzaref03_Same.l0]
    rw [if_pos (by omega), if_pos (by omega), if_pos (by omega), w64_succ i a.length (by omega) hn, ih k (i + 1) (by omega) (by omega), rd_drop a i (by omega), rd_drop b i (by omega)]
    by_cases c : rd a (i : Int) = rd b (i : Int)
    · rw [if_pos c, c]; simp
    · rw [if_neg c]; simp [c]
theorem same_eq (a b : List Int) (hn : a.length ≤ 140737488351232) (k : Nat) (hk : a.length < k) : credenzaref03_Same.f k a b = some (decide (a = b)) := by
  unfold credenzaref03_Same.f
  by_cases h : (a.length : Int) = (b.length : Int)
  · rw [if_pos h]
    have := same_loop a b (by omega) hn a.length k 0 (by omega) hk
    rwa [List.drop_zero, List.drop_zero] at this
  · rw [if_neg h, decide_eq_false (fun e => h (by rw [e]))]
theorem same_self (a : List Int) (hn : a.length ≤ 140737488351232) (k : Nat) (hk : a.length < k) : credenzaref03_Same.f k a a = some true := by
  rw [same_eq a a hn k hk]; simp
def prodG (x y : Int) : Int := narrow (rnd (x * y) 65536)
def eachR (g : Int → Int → Int) (a b : List Int) : List Int × Int :=
  if (a.length : Int) = (b.length : Int) then (if (a.length : Int) > 1024 then ([], 12) else (List.zipWith g a b, 0)) else ([], 25)
theorem product_eq (x y : Int) (hx : -2147483648 ≤ x ∧ x ≤ 2147483647) (hy : -2147483648 ≤ y ∧ y ≤ 2147483647) : dot_product.f x y = some (rnd (x * y) 65536) := by
  have h := mul_range x y hx hy
  unfold dot_product.f
  rw [w64 (x * y) (by omega) (by omega), half_eq _ _ (by omega) (by omega), pw16]; rfl
theorem product1_eq (x y : Int) (hx : -2147483648 ≤ x ∧ x ≤ 2147483647) (hy : -2147483648 ≤ y ∧ y ≤ 2147483647) : dot_product.f (wrap64 x) (wrap64 y) = some (rnd (x * y) 65536) := by
  rw [w64 x (by omega) (by omega), w64 y (by omega) (by omega), product_eq x y hx hy]
theorem each_by_loop (a b : List Int) (hab : a.length = b.length) (hn : a.length ≤ 140737488351232) (ha : I32 a) (hb : I32 b) (d : Nat) :
    ∀ (k i : Nat) (out : List Int), i + d = a.length → d < k → out.length = a.length →
      dot_each_of_dot_product.l0 k b out a (a.length : Int) (i : Int) = some (out.take i ++ List.zipWith prodG (a.drop i) (b.drop i), 0) := by
  induction d with
  | zero =>
    intro k i out h hk ho
    obtain ⟨k, rfl⟩ : ∃ m, k = m + 1 := ⟨k - 1, by omega⟩
    simp only [dot_each_of_dot_product.l0]
    rw [if_neg (by omega), List.drop_of_length_le (by omega : a.length ≤ i), List.take_of_length_le (by omega)]
    simp
  | succ d ih =>
    intro k i out h hk ho
    obtain ⟨k, rfl⟩ : ∃ m, k = m + 1 := ⟨k - 1, by omega⟩
    have hx := ha _ (rd_mem a i (by omega))
    have hy := hb _ (rd_mem b i (by omega))
    simp only [dot_each_of_dot_product.l0]
    rw [if_pos (by omega), if_pos (by omega), if_pos (by omega), if_pos (by omega), product1_eq _ _ hx hy]
    simp only [Option.bind_some]
    rw [narrow_eq]
    simp only [Option.bind_some]
    rw [if_pos (by omega), w64_succ i a.length (by omega) hn, Int.toNat_natCast, ih k (i + 1) _ (by omega) (by omega) (by rw [List.length_set]; exact ho), set_take _ _ _ (by omega), rd_drop a i (by omega), rd_drop b i (by omega), List.zipWith_cons_cons, List.append_assoc]
    rfl
theorem each_by_eq (a b : List Int) (ha : I32 a) (hb : I32 b) (k : Nat) (hk : 1025 < k) : dot_each_of_dot_product.f k a b = some (eachR prodG a b) := by
  unfold dot_each_of_dot_product.f eachR
  rw [shape_eq]
  simp only [Option.bind_some]
  by_cases h1 : (a.length : Int) = (b.length : Int)
  · rw [if_pos h1, if_pos h1]
    by_cases h2 : (a.length : Int) > 1024
    · rw [if_pos h2, if_pos h2, if_neg (by decide)]
    · rw [if_neg h2, if_neg h2, if_pos rfl, if_pos (by omega), if_pos (by omega)]
      have := each_by_loop a b (by omega) (by omega) ha hb a.length k 0 (List.replicate (a.length : Int).toNat 0) (by omega) (by omega) (by rw [List.length_replicate, Int.toNat_natCast])
      rw [List.drop_zero, List.drop_zero, List.take_zero, List.nil_append] at this
      exact this
  · rw [if_neg h1, if_neg h1, if_neg (by decide)]
theorem dby_eq (a b : List Int) (ha : I32 a) (hb : I32 b) (k : Nat) (hk : 1025 < k) : dot_By.f k a b = some (eachR prodG a b) := by
  unfold dot_By.f; rw [each_by_eq a b ha hb k hk]; rfl
theorem rproduct_eq (x y : Int) (hx : -2147483648 ≤ x ∧ x ≤ 2147483647) (hy : -2147483648 ≤ y ∧ y ≤ 2147483647) (k : Nat) (hk : 63 ≤ k) : credenzaref03_Product.f k x y = some (prodG x y) := by
  have h := mul_range x y hx hy
  unfold credenzaref03_Product.f
  rw [w64 x (by omega) (by omega), w64 y (by omega) (by omega), w64 (x * y) (by omega) (by omega), rhalf_eq _ _ (by omega) (by omega) k hk, pw16]
  simp only [Option.bind_some]
  rw [rnarrow_eq]; rfl
theorem rby_loop (a b : List Int) (hab : a.length = b.length) (hn : a.length ≤ 1000000) (ha : I32 a) (hb : I32 b) (d : Nat) :
    ∀ (k i : Nat) (acc : List Int), i + d = a.length → d + 64 < k → acc.length = i →
      credenzaref03_By.l0 k a b acc (i : Int) = some (acc ++ List.zipWith prodG (a.drop i) (b.drop i)) := by
  induction d with
  | zero =>
    intro k i acc h hk ho
    obtain ⟨k, rfl⟩ : ∃ m, k = m + 1 := ⟨k - 1, by omega⟩
    simp only [credenzaref03_By.l0]
    rw [if_neg (by omega), List.drop_of_length_le (by omega : a.length ≤ i)]
    simp
  | succ d ih =>
    intro k i acc h hk ho
    obtain ⟨k, rfl⟩ : ∃ m, k = m + 1 := ⟨k - 1, by omega⟩
    have hx := ha _ (rd_mem a i (by omega))
    have hy := hb _ (rd_mem b i (by omega))
    simp only [credenzaref03_By.l0]
    rw [if_pos (by omega), if_pos (by omega), if_pos (by omega), rproduct_eq _ _ hx hy k (by omega)]
    simp only [Option.bind_some]
    rw [if_pos (by omega), w64_succ i a.length (by omega) (by omega), ih k (i + 1) _ (by omega) (by omega) (by rw [List.length_append]; simp; omega), rd_drop a i (by omega), rd_drop b i (by omega), List.zipWith_cons_cons, List.append_assoc]
    rfl
theorem rby_eq (a b : List Int) (hab : a.length = b.length) (hn : a.length ≤ 1000000) (ha : I32 a) (hb : I32 b) (k : Nat) (hk : a.length + 64 < k) : credenzaref03_By.f k a b = some (List.zipWith prodG a b) := by
  unfold credenzaref03_By.f
  have := rby_loop a b hab hn ha hb a.length k 0 [] (by omega) (by omega) rfl
  rw [List.drop_zero, List.drop_zero, List.nil_append] at this
  exact this
def openL (l : List Int) : List Int := l.map fun x => mx x 0
theorem openL_length (l : List Int) : (openL l).length = l.length := by unfold openL; rw [List.length_map]
theorem openL_i32 (l : List Int) (h : I32 l) : I32 (openL l) := by
  intro x hx
  obtain ⟨y, hy, rfl⟩ := List.mem_map.mp hx
  have := h y hy
  show -2147483648 ≤ mx y 0 ∧ mx y 0 ≤ 2147483647
  unfold mx; split <;> omega
theorem ngate_loop (up l : List Int) (hn : l.length ≤ 140737488351232) (hup : I32 up) (hl : I32 l) (d : Nat) : ∀ (k i : Nat) (out : List Int), i + d = l.length → d + 1030 < k → out.length = l.length →
    norm_Gate.l0 k up out l (l.length : Int) (i : Int) = (dot_By.f (k - d - 1) up (out.take i ++ openL (l.drop i))).bind fun b => some (b.1, b.2) := by
  induction d with
  | zero =>
    intro k i out h hk ho
    obtain ⟨k, rfl⟩ : ∃ m, k = m + 1 := ⟨k - 1, by omega⟩
    simp only [norm_Gate.l0]
    rw [if_neg (by omega), List.drop_of_length_le (by omega : l.length ≤ i), List.take_of_length_le (by omega)]
    simp [openL]
  | succ d ih =>
    intro k i out h hk ho
    obtain ⟨k, rfl⟩ : ∃ m, k = m + 1 := ⟨k - 1, by omega⟩
    simp only [norm_Gate.l0]
    rw [if_pos (by omega), if_pos (by omega), if_pos (by omega), if_pos (by omega), w64_succ i l.length (by omega) hn, Int.toNat_natCast, ih k (i + 1) _ (by omega) (by omega) (by rw [List.length_set]; exact ho), set_take _ _ _ (by omega), rd_drop l i (by omega), List.append_assoc, show k + 1 - (d + 1) - 1 = k - d - 1 from by omega]
    rfl
theorem ngate_eq (up l : List Int) (hn : l.length ≤ 1000000) (hup : I32 up) (hl : I32 l) (k : Nat) (hk : l.length + 1030 < k) : norm_Gate.f k up l = some (eachR prodG up (openL l)) := by
  unfold norm_Gate.f
  rw [if_pos (by omega), if_pos (by omega)]
  have := ngate_loop up l (by omega) hup hl l.length k 0 (List.replicate (l.length : Int).toNat 0) (by omega) (by omega) (by rw [List.length_replicate, Int.toNat_natCast])
  rw [List.drop_zero, List.take_zero, List.nil_append, dby_eq up (openL l) hup (openL_i32 l hl) (k - l.length - 1) (by omega)] at this
  exact this
theorem rgate_loop (up l : List Int) (hlen : up.length = l.length) (hn : l.length ≤ 1000000) (hup : I32 up) (hl : I32 l) (d : Nat) : ∀ (k i : Nat) (acc : List Int), i + d = l.length → d + up.length + 70 < k → acc.length = i → I32 acc →
    credenzaref15_Gate.l0 k up l acc (i : Int) = some (List.zipWith prodG up (acc ++ openL (l.drop i))) := by
  induction d with
  | zero =>
    intro k i acc h hk ho ha
    obtain ⟨k, rfl⟩ : ∃ m, k = m + 1 := ⟨k - 1, by omega⟩
    simp only [credenzaref15_Gate.l0]
    rw [if_neg (by omega), List.drop_of_length_le (by omega : l.length ≤ i), rby_eq up acc (by omega) (by omega) hup ha k (by omega)]
    simp [openL]
  | succ d ih =>
    intro k i acc h hk ho ha
    obtain ⟨k, rfl⟩ : ∃ m, k = m + 1 := ⟨k - 1, by omega⟩
    have hx := hl _ (rd_mem l i (by omega))
    simp only [credenzaref15_Gate.l0]
    rw [if_pos (by omega), if_pos (by omega), w64_succ i l.length (by omega) (by omega)]
    by_cases c : rd l (i : Int) > 0
    · rw [if_pos c, if_pos (by omega), ih k (i + 1) _ (by omega) (by omega) (by rw [List.length_append]; simp; omega) (by
        intro x hx'
        rcases List.mem_append.mp hx' with h1 | h1
        · exact ha x h1
        · rw [List.mem_singleton] at h1; rw [h1]; exact hx), rd_drop l i (by omega), List.append_assoc]
      have e : mx (rd l (i : Int)) 0 = rd l (i : Int) := by unfold mx; split <;> omega
      show _ = some (List.zipWith prodG up (acc ++ (mx (rd l (i : Int)) 0 :: openL (l.drop (i + 1)))))
      rw [e]; rfl
    · rw [if_neg c, if_pos (by omega), ih k (i + 1) _ (by omega) (by omega) (by rw [List.length_append]; simp; omega) (by
        intro x hx'
        rcases List.mem_append.mp hx' with h1 | h1
        · exact ha x h1
        · rw [List.mem_singleton] at h1; rw [h1]; omega), rd_drop l i (by omega), List.append_assoc]
      have e : mx (rd l (i : Int)) 0 = 0 := by unfold mx; split <;> omega
      show _ = some (List.zipWith prodG up (acc ++ (mx (rd l (i : Int)) 0 :: openL (l.drop (i + 1)))))
      rw [e]; rfl
theorem rgate_eq (up l : List Int) (hlen : up.length = l.length) (hn : l.length ≤ 1000000) (hup : I32 up) (hl : I32 l) (k : Nat) (hk : l.length + up.length + 70 < k) : credenzaref15_Gate.f k up l = some (List.zipWith prodG up (openL l)) := by
  unfold credenzaref15_Gate.f
  have := rgate_loop up l hlen hn hup hl l.length k 0 [] (by omega) (by omega) rfl (fun x h => by cases h)
  rw [List.drop_zero, List.nil_append] at this
  exact this
theorem prodG_zero (x : Int) : prodG x 0 = 0 := by
  unfold prodG
  rw [Int.mul_zero, show rnd 0 65536 = 0 from rnd_mul 0 65536 (by omega)]
  rfl
theorem rd_zip (g : Int → Int → Int) (a b : List Int) (i : Nat) (ha : i < a.length) (hb : i < b.length) : rd (List.zipWith g a b) (i : Int) = g (rd a (i : Int)) (rd b (i : Int)) := by
  unfold rd
  rw [Int.toNat_natCast, List.getD_eq_getElem?_getD, List.getD_eq_getElem?_getD, List.getD_eq_getElem?_getD, List.getElem?_eq_getElem ha, List.getElem?_eq_getElem hb, List.getElem?_eq_getElem (by rw [List.length_zipWith]; omega), List.getElem_zipWith]
  rfl
theorem rd_map (f : Int → Int) (l : List Int) (i : Nat) (h : i < l.length) : rd (l.map f) (i : Int) = f (rd l (i : Int)) := by
  unfold rd
  rw [Int.toNat_natCast, List.getD_eq_getElem?_getD, List.getD_eq_getElem?_getD, List.getElem?_eq_getElem h, List.getElem?_eq_getElem (by rw [List.length_map]; omega), List.getElem_map]
  rfl
end Cz

theorem ngates_loop (l gate : List Int) (hlen : l.length = gate.length) (hn : gate.length ≤ 2000) (h : ∀ i : Nat, i < gate.length → rd gate (i : Int) ≤ 0 → rd l (i : Int) = 0) (aw : ∀ k, 1200 ≤ k → credenzalaw15_awake.f k = some true) (d : Nat) : ∀ (k i : Nat), i + d = gate.length → d + 1300 < k →
    credenzalaw15_NormGates.l0 k l gate (gate.length : Int) (i : Int) = some true := by
  induction d with
  | zero =>
    intro k i h' hk
    obtain ⟨k, rfl⟩ : ∃ m, k = m + 1 := ⟨k - 1, by omega⟩
    simp only [credenzalaw15_NormGates.l0]
    rw [if_neg (by omega), aw k (by omega)]; rfl
  | succ d ih =>
    intro k i h' hk
    obtain ⟨k, rfl⟩ : ∃ m, k = m + 1 := ⟨k - 1, by omega⟩
    simp only [credenzalaw15_NormGates.l0]
    rw [if_pos (by omega), if_pos (by omega), if_pos (by omega), Cz.w64_succ i gate.length (by omega) (by omega)]
    by_cases c : rd gate (i : Int) ≤ 0
    · rw [if_pos c, if_pos (by omega), if_pos (h i (by omega) c)]
      exact ih k (i + 1) (by omega) (by omega)
    · rw [if_neg c]
      exact ih k (i + 1) (by omega) (by omega)
theorem NormGates : credenzalaw15_NormGates.Pure := by
  intro up gate _ _ hup _ _ hg
  have hup := Cz.i32_of hup
  have hg := Cz.i32_of hg
  have aw : credenzalaw15_awake.f 1200 = some true := by decide +kernel
  have awk := fun k (hk : 1200 ≤ k) => Cz.up credenzalaw15_awake.mono aw hk
  refine ⟨9002, ?_⟩
  have J : credenzalaw15_NormGates.j0 9002 up gate true = some true := by
    simp only [credenzalaw15_NormGates.j0]
    rw [if_pos trivial, awk _ (by omega)]; rfl
  unfold credenzalaw15_NormGates.f
  by_cases c0 : (up.length : Int) > 2000
  · rw [if_pos c0]; exact J
  rw [if_neg c0]
  by_cases c1 : (gate.length : Int) > 2000
  · rw [decide_eq_true c1]; exact J
  rw [decide_eq_false c1]
  simp only [credenzalaw15_NormGates.j0]
  rw [if_neg (by decide), Cz.ngate_eq up gate (by omega) hup hg 9001 (by omega), Cz.rshape_eq]
  simp only [Option.bind_some]
  unfold Cz.eachR
  rw [Cz.openL_length]
  by_cases h1 : (up.length : Int) = (gate.length : Int)
  · rw [if_pos h1, if_pos h1]
    by_cases h2 : (up.length : Int) > 1024
    · rw [if_pos h2, if_pos h2, if_neg (by decide), if_pos rfl, awk _ (by omega)]
      rfl
    · have hz : (List.zipWith Cz.prodG up (Cz.openL gate)).length = gate.length := by rw [List.length_zipWith, Cz.openL_length]; omega
      rw [if_neg h2, if_neg h2, if_pos rfl, if_pos rfl, Cz.rgate_eq up gate (by omega) (by omega) hup hg 9001 (by omega)]
      simp only [Option.bind_some]
      rw [Cz.same_self _ (by rw [hz]; omega) 9001 (by rw [hz]; omega)]
      simp only [Option.bind_some]
      simp only [credenzalaw15_NormGates.j1]
      rw [if_neg (by decide)]
      refine ngates_loop _ gate hz (by omega) (fun i hi hle => ?_) awk gate.length 9000 0 (by omega) (by omega)
      rw [Cz.rd_zip _ _ _ _ (by omega) (by rw [Cz.openL_length]; omega)]
      have e : rd (Cz.openL gate) (i : Int) = mx (rd gate (i : Int)) 0 := Cz.rd_map (fun x => mx x 0) gate i hi
      rw [e, show mx (rd gate (i : Int)) 0 = 0 from by unfold mx; split <;> omega, Cz.prodG_zero]
  · rw [if_neg h1, if_neg h1, if_neg (by decide), if_pos rfl, awk _ (by omega)]
    rfl

end Go.Proofs.Ytmndomlpdajjmac.Pure
