/- The turns of a table, in plain numbers. No condition: for every input. -/
import Derived.Test.YtmndomlpdajjmacBuild
import Derived.Test.YtmndomlpdajjmacRotate
import Derived.Test.YtmndomlpdajjmacRtx0
import Derived.Test.YtmndomlpdajjmacRtx1
import Derived.Test.YtmndomlpdajjmacRtx2
import Derived.Test.YtmndomlpdajjmacRtx3
import Derived.Test.YtmndomlpdajjmacTab
set_option linter.unusedVariables false
set_option linter.unusedSimpArgs false
namespace Go.Proofs.Ytmndomlpdajjmac.Pure
open Go.RowKit Go.Proofs.Ytmndomlpdajjmac.Rt Go.Proofs.YtmndomlpdajjmacW.PrintWords Go.Proofs.YtmndomlpdajjmacW.PrintLast
namespace Cz

/-- Divided by d, rounded, a half to the even one. -/
def rnd (a d : Int) : Int :=
  if a % d > d - a % d then a / d + 1 else if a % d = d - a % d ∧ (a / d) % 2 = 1 then a / d + 1 else a / d
/-- What is promised of a rounded fraction. -/
def Near (a d r : Int) : Prop := 2 * (a - r * d) ≤ d ∧ -d ≤ 2 * (a - r * d) ∧ ((2 * (a - r * d) = d ∨ 2 * (a - r * d) = -d) → r % 2 = 0)
theorem rnd_near (a d : Int) (hd : 0 < d) : Near a d (rnd a d) := by
  have h1 := Int.emod_add_mul_ediv a d
  have h2 := Int.emod_nonneg a (by omega : d ≠ 0)
  have h3 := Int.emod_lt_of_pos a hd
  unfold Near rnd
  generalize a % d = m at *
  generalize a / d = q at *
  have e1 : (q + 1) * d = d * q + d := by rw [Int.add_mul, Int.one_mul, Int.mul_comm]
  have e2 : q * d = d * q := Int.mul_comm _ _
  generalize hk : d * q = k at *
  split
  · rw [e1]; omega
  · split
    · rw [e1]; omega
    · rw [e2]; omega
theorem near_le {a b d r s : Int} (hd : 0 < d) (ha : Near a d r) (hb : Near b d s) (h : a ≤ b) : r ≤ s := by
  obtain ⟨a1, a2, a3⟩ := ha
  obtain ⟨b1, b2, b3⟩ := hb
  by_cases hlt : s < r
  · exfalso
    obtain ⟨k, rfl⟩ : ∃ k : Int, r = s + 1 + k := ⟨r - s - 1, by omega⟩
    have hk : 0 ≤ k := by omega
    have e1 : (s + 1 + k) * d = s * d + d + k * d := by rw [Int.add_mul, Int.add_mul, Int.one_mul]
    rw [e1] at a1 a2 a3
    have hkd : 0 ≤ k * d := Int.mul_nonneg hk (by omega)
    generalize s * d = sd at *
    by_cases h0 : k = 0
    · subst h0
      rw [Int.zero_mul] at *
      have := a3 (by omega)
      have := b3 (by omega)
      omega
    · have : d ≤ k * d := by
        have := Int.mul_le_mul_of_nonneg_right (show (1 : Int) ≤ k by omega) (show 0 ≤ d by omega)
        omega
      generalize k * d = kd at *
      omega
  · omega
theorem near_unique {a d r s : Int} (hd : 0 < d) (ha : Near a d r) (hb : Near a d s) : r = s :=
  Int.le_antisymm (near_le hd ha hb (Int.le_refl a)) (near_le hd hb ha (Int.le_refl a))
theorem rnd_unique {a d r : Int} (hd : 0 < d) (h : Near a d r) : rnd a d = r := near_unique hd (rnd_near a d hd) h
theorem rnd_mul (q d : Int) (hd : 0 < d) : rnd (q * d) d = q := by
  apply rnd_unique hd
  unfold Near
  rw [Int.sub_self]
  omega
theorem rnd_one (a : Int) : rnd a 1 = a := by
  have := rnd_mul a 1 (by omega)
  rwa [Int.mul_one] at this
theorem two_pow_pos (n : Nat) : (0 : Int) < 2 ^ n := Int.pow_pos (by omega)
theorem two_pow_le (m : Nat) (d : Nat) : (2 : Int) ^ m ≤ 2 ^ (m + d) := by
  induction d with
  | zero => exact Int.le_refl _
  | succ d ih =>
    have h := two_pow_pos (m + d)
    have e : (2 : Int) ^ (m + (d + 1)) = 2 * 2 ^ (m + d) := by rw [← Nat.add_assoc, Int.pow_succ, Int.mul_comm]
    omega
theorem two_pow_max {m n : Nat} (h : m ≤ n) : (2 : Int) ^ m ≤ 2 ^ n := by
  obtain ⟨d, rfl⟩ : ∃ d, n = m + d := ⟨n - m, by omega⟩
  exact two_pow_le m d
theorem two_pow_62 {m : Nat} (h : m ≤ 62) : (2 : Int) ^ m ≤ 4611686018427387904 := two_pow_max h
theorem two_pow_succ (n : Nat) : (2 : Int) ^ (n + 1) = 2 * 2 ^ n := by rw [Int.pow_succ, Int.mul_comm]
theorem w64 (x : Int) (h0 : -9223372036854775808 ≤ x) (h1 : x ≤ 9223372036854775807) : wrap64 x = x := by unfold wrap64; omega
theorem w32 (x : Int) (h0 : -2147483648 ≤ x) (h1 : x ≤ 2147483647) : wrap32 x = x := by unfold wrap32; omega
theorem w64_sub (a b : Int) : wrap64 (a - wrap64 b) = wrap64 (a - b) := by unfold wrap64; omega
theorem wf32 {x : Int} (h : (Lit.int .i32 x).wf = true) : -2147483648 ≤ x ∧ x ≤ 2147483647 := by
  simp only [Lit.wf, IntKind.min, IntKind.max, IntKind.signed, IntKind.bits, Bool.and_eq_true, decide_eq_true_eq, if_true] at h
  omega
theorem and1 (x : Int) : Go.bits .and .i64 x 1 = x % 2 := by
  have h : (BitVec.ofInt 64 x &&& BitVec.ofInt 64 1).toNat = ((x % 2).toNat) := by
    have e : (BitVec.ofInt 64 1).toNat = 2 ^ 1 - 1 := by decide
    rw [BitVec.toNat_and, e, Nat.and_two_pow_sub_one_eq_mod, BitVec.toNat_ofInt]
    omega
  show IntKind.i64.wrap (((BitVec.ofInt 64 x &&& BitVec.ofInt 64 1).toNat : Nat) : Int) = _
  rw [h, IntKind.wrap_i64]
  omega
theorem up {α : Type} {f : Nat → Option α} (hm : ∀ k, LeO (f k) (f (k + 1))) {k0 : Nat} {r : α} (h : f k0 = some r) {k : Nat} (hk : k0 ≤ k) : f k = some r := by
  obtain ⟨d, rfl⟩ : ∃ d, k = k0 + d := ⟨k - k0, by omega⟩
  clear hk
  induction d with
  | zero => exact h
  | succ d ih => exact hm _ _ ih
theorem mul_bound {a b A B : Int} (ha : -A ≤ a) (ha' : a ≤ A) (hb : -B ≤ b) (hb' : b ≤ B) : -(A * B) ≤ a * b ∧ a * b ≤ A * B := by
  have h1 : 0 ≤ (A - a) * (B + b) := Int.mul_nonneg (by omega) (by omega)
  have h2 : 0 ≤ (A + a) * (B - b) := Int.mul_nonneg (by omega) (by omega)
  have h3 : 0 ≤ (A - a) * (B - b) := Int.mul_nonneg (by omega) (by omega)
  have h4 : 0 ≤ (A + a) * (B + b) := Int.mul_nonneg (by omega) (by omega)
  simp only [Int.sub_mul, Int.mul_sub, Int.add_mul, Int.mul_add] at h1 h2 h3 h4
  generalize A * B = p at *
  generalize a * b = q at *
  generalize A * b = r at *
  generalize a * B = s at *
  omega
theorem div_bound (v D : Int) (hD : 1 ≤ D) : (0 ≤ v → 0 ≤ v / D ∧ v / D ≤ v) ∧ (v < 0 → v ≤ v / D ∧ v / D < 0) := by
  have h1 := Int.emod_add_mul_ediv v D
  have h2 := Int.emod_nonneg v (by omega : D ≠ 0)
  have h3 := Int.emod_lt_of_pos v (by omega : 0 < D)
  constructor
  · intro h
    exact ⟨Int.ediv_nonneg h (by omega), Int.ediv_le_self D h⟩
  · intro h
    have hn : v / D < 0 := Int.ediv_neg_of_neg_of_pos h (by omega)
    have : (v / D + 1) * (D - 1) ≤ 0 := Int.mul_nonpos_of_nonpos_of_nonneg (by omega) (by omega)
    rw [Int.mul_sub, Int.mul_one, Int.add_mul, Int.one_mul, Int.mul_comm (v / D)] at this
    omega
theorem div_half (v D : Int) (hD : 2 ≤ D) (h0 : -9223372036854775808 ≤ v) (h1 : v ≤ 9223372036854775807) : -4611686018427387904 ≤ v / D ∧ v / D ≤ 4611686018427387903 := by
  constructor
  · exact Int.le_ediv_of_mul_le (by omega) (by omega)
  · have : v / D < 4611686018427387904 := Int.ediv_lt_of_lt_mul (by omega) (by omega)
    omega
/-- Cut to a range. -/
def cutI (v lo hi : Int) : Int := if v < lo then lo else if v > hi then hi else v
def narrow (v : Int) : Int := cutI v (-8388608) 8388608
theorem narrow_range (v : Int) : -8388608 ≤ narrow v ∧ narrow v ≤ 8388608 := by unfold narrow cutI; omega
theorem cut_eq (v lo hi : Int) (h0 : -2147483648 ≤ lo) (h1 : lo ≤ hi) (h2 : hi ≤ 2147483647) : fix_cut.f v lo hi = some (cutI v lo hi) := by
  unfold fix_cut.f cutI mn mx wrap32
  congr 1
  split <;> split <;> (try split) <;> (try split) <;> omega
theorem narrow_eq (v : Int) : fix_Narrow.f v = some (narrow v) := by
  unfold fix_Narrow.f
  rw [cut_eq _ _ _ (by omega) (by omega) (by omega)]; rfl
theorem half_core (v : Int) (m : Nat) (hm : m ≤ 62) (h0 : -9223372036854775808 ≤ v) (h1 : v ≤ 9223372036854775807) :
    (if (wrap64 (v - (wrap64 ((v / 2 ^ m) * 2 ^ m)))) > ((wrap64 (2 ^ m)) / 2) then (some (wrap64 ((v / 2 ^ m) + 1))) else (if (wrap64 (v - (wrap64 ((v / 2 ^ m) * 2 ^ m)))) = ((wrap64 (2 ^ m)) / 2) then (if (m : Int) > 0 then (if (v / 2 ^ m) % 2 = 1 then (some (wrap64 ((v / 2 ^ m) + 1))) else (some (v / 2 ^ m))) else (some (v / 2 ^ m))) else (some (v / 2 ^ m)))) = some (rnd v (2 ^ m)) := by
  have hD : (2 : Int) ^ m ≤ 4611686018427387904 := two_pow_62 hm
  have hp := two_pow_pos m
  have e1 := Int.emod_add_mul_ediv v (2 ^ m)
  have e2 := Int.emod_nonneg v (by omega : (2 : Int) ^ m ≠ 0)
  have e3 := Int.emod_lt_of_pos v hp
  have e4 : v - (v / 2 ^ m) * 2 ^ m = v % 2 ^ m := by rw [Int.mul_comm]; omega
  rw [w64_sub, e4, w64 (v % 2 ^ m) (by omega) (by omega), w64 (2 ^ m) (by omega) (by omega)]
  rcases Nat.eq_zero_or_pos m with rfl | hpos
  · have e5 : v % 2 ^ 0 = 0 := by rw [Int.pow_zero]; omega
    rw [e5, Int.pow_zero, Int.ediv_one, rnd_one, if_neg (by decide), if_pos (by decide), if_neg (by decide)]
  · obtain ⟨n, rfl⟩ : ∃ n, m = n + 1 := ⟨m - 1, by omega⟩
    have hq := div_half v (2 ^ (n + 1)) (by have := two_pow_pos n; rw [two_pow_succ]; omega) h0 h1
    rw [w64 (v / 2 ^ (n + 1) + 1) (by omega) (by omega)]
    unfold rnd
    have e6 : (2 : Int) ^ (n + 1) / 2 = 2 ^ n := by rw [two_pow_succ]; omega
    have e7 := two_pow_succ n
    rw [e6]
    generalize v % 2 ^ (n + 1) = r at *
    generalize v / 2 ^ (n + 1) = q at *
    rw [e7]
    generalize (2 : Int) ^ n = d at *
    clear e1 e4 e6
    repeat' split
    all_goals first | rfl | (exfalso; omega)
/-- Half's power. -/
def pw (n : Int) : Nat := (mn (mx n 0) 62).toNat
theorem half_eq (v n : Int) (h0 : -9223372036854775808 ≤ v) (h1 : v ≤ 9223372036854775807) : fix_Half.f v n = some (rnd v (2 ^ pw n)) := by
  have hm : pw n ≤ 62 := by unfold pw mn mx; omega
  have := half_core v (pw n) hm h0 h1
  unfold fix_Half.f
  simp only [and1]
  rw [show (mn (mx n 0) 62 : Int) = (pw n : Int) from by unfold pw mn mx; omega]
  exact this
theorem tdiv_eq (a b : Int) (hb : 0 < b) : Int.tdiv a b = if a < 0 ∧ a % b ≠ 0 then a / b + 1 else a / b := by
  rw [Int.tdiv_eq_ediv]
  have hs : b.sign = 1 := Int.sign_eq_one_of_pos hb
  have hd : b ∣ a ↔ a % b = 0 := ⟨Int.emod_eq_zero_of_dvd, Int.dvd_of_emod_eq_zero⟩
  by_cases c : a < 0 ∧ a % b ≠ 0
  · rw [if_pos c, if_neg (by rw [hd]; omega), hs]
  · rw [if_neg c, if_pos (by rw [hd]; omega)]; omega
theorem tmod_eq (a b : Int) (hb : 0 < b) : Int.tmod a b = if a < 0 ∧ a % b ≠ 0 then a % b - b else a % b := by
  have h1 := Int.tmod_add_mul_tdiv a b
  have h2 := Int.emod_add_mul_ediv a b
  rw [tdiv_eq a b hb] at h1
  split at h1
  · rename_i c
    rw [if_pos c]
    rw [Int.mul_add, Int.mul_one] at h1
    omega
  · rename_i c
    rw [if_neg c]
    omega
theorem pw16 : (2 : Int) ^ pw 16 = 65536 := by decide
theorem rfloor_eq (a b : Int) (h0 : -9223372036854775808 ≤ a) (h1 : a ≤ 9223372036854775807) (hb : 0 < b) : credenzaref01_Floor.f a b = some (a / b) := by
  have e1 := Int.emod_add_mul_ediv a b
  have e2 := Int.emod_nonneg a (by omega : b ≠ 0)
  have e3 := Int.emod_lt_of_pos a hb
  have hq := div_bound a b (by omega)
  have hn : a < 0 → (a / b + 1) * b ≤ 0 := fun h => Int.mul_nonpos_of_nonpos_of_nonneg (by omega) (by omega)
  have hz : 0 ≤ a → 0 ≤ b * (a / b) := fun h => Int.mul_nonneg (by omega) (hq.1 h).1
  have ep : (a / b + 1) * b = b * (a / b) + b := by rw [Int.add_mul, Int.one_mul, Int.mul_comm]
  have eq' : a / b * b = b * (a / b) := Int.mul_comm _ _
  unfold credenzaref01_Floor.f
  rw [if_neg (by omega), tdiv_eq a b hb]
  by_cases c : a < 0 ∧ a % b ≠ 0
  · have := hn c.1
    rw [if_pos c, w64 (a / b + 1) (by omega) (by omega), ep, w64 (b * (a / b) + b) (by omega) (by omega), if_pos (by omega), show a / b + 1 - 1 = a / b from by omega, w64 _ (by omega) (by omega)]
  · rw [if_neg c, w64 (a / b) (by omega) (by omega), eq', w64 (b * (a / b)) (by omega) (by omega), if_neg (by omega)]
theorem rratio_eq (a b : Int) (h0 : -9223372036854775808 ≤ a) (h1 : a ≤ 9223372036854775807) (hb : 0 < b) (hb1 : b ≤ 9223372036854775807) : credenzaref01_Ratio.f a b = some (rnd a b) := by
  have e1 := Int.emod_add_mul_ediv a b
  have e2 := Int.emod_nonneg a (by omega : b ≠ 0)
  have e3 := Int.emod_lt_of_pos a hb
  have hq := div_bound a b (by omega)
  have hq2 := fun h => div_half a b h h0 h1
  have e4 : a - (a / b) * b = a % b := by rw [Int.mul_comm]; omega
  unfold credenzaref01_Ratio.f rnd
  rw [rfloor_eq a b h0 h1 hb]
  simp only [Option.bind_some]
  rw [w64_sub, e4, w64 (a % b) (by omega) (by omega), w64 (b - a % b) (by omega) (by omega), tmod_eq _ 2 (by omega)]
  generalize a % b = r at *
  generalize a / b = q at *
  by_cases c1 : 2 ≤ b
  · rw [w64 (q + 1) (by omega) (by omega)]
    repeat' split
    all_goals first | rfl | (exfalso; omega)
  · repeat' split
    all_goals first | rfl | (exfalso; omega)
theorem rcut_eq (v lo hi : Int) : credenzaref01_Cut.f v lo hi = some (cutI v lo hi) := by
  unfold credenzaref01_Cut.f cutI
  split
  · rfl
  · split <;> rfl
theorem rnarrow_eq (v : Int) : credenzaref01_Narrow.f v = some (narrow v) := by
  have := narrow_range v
  unfold credenzaref01_Narrow.f
  rw [rcut_eq]
  show some (wrap32 (narrow v)) = some (narrow v)
  rw [w32 _ (by omega) (by omega)]
theorem rd_drop (l : List Int) (i : Nat) (h : i < l.length) : l.drop i = rd l (i : Int) :: l.drop (i + 1) := by
  rw [List.drop_eq_getElem_cons h]
  congr 1
  unfold rd
  rw [Int.toNat_natCast, List.getD_eq_getElem?_getD, List.getElem?_eq_getElem h]
  rfl
theorem rd_mem (l : List Int) (i : Nat) (h : i < l.length) : rd l (i : Int) ∈ l := by
  have := rd_drop l i h
  exact List.mem_of_mem_drop (this ▸ List.mem_cons_self : rd l (i : Int) ∈ l.drop i)
theorem w64_succ (i n : Nat) (h : i < n) (hn : n ≤ 140737488351232) : wrap64 ((i : Int) + 1) = ((i + 1 : Nat) : Int) := by
  rw [w64 _ (by omega) (by omega)]; omega
/-- All numbers are of 32 bits. -/
def I32 (l : List Int) : Prop := ∀ x ∈ l, -2147483648 ≤ x ∧ x ≤ 2147483647
theorem i32_of {l : List Int} (h : ∀ x ∈ l, (Lit.int .i32 x).wf = true) : I32 l := fun x hx => wf32 (h x hx)
theorem same_loop (a b : List Int) (hab : a.length = b.length) (hn : a.length ≤ 140737488351232) (d : Nat) : ∀ (k i : Nat), i + d = a.length → d < k →
    credenzaref03_Same.l0 k a b (i : Int) = some (decide (a.drop i = b.drop i)) := by
  induction d with
  | zero =>
    intro k i h hk
    obtain ⟨k, rfl⟩ : ∃ m, k = m + 1 := ⟨k - 1, by omega⟩
    simp only [credenzaref03_Same.l0]
    rw [if_neg (by omega), List.drop_of_length_le (by omega : a.length ≤ i), List.drop_of_length_le (by omega : b.length ≤ i)]
    simp
  | succ d ih =>
    intro k i h hk
    obtain ⟨k, rfl⟩ : ∃ m, k = m + 1 := ⟨k - 1, by omega⟩
    simp only [credenzaref03_Same.l0]
    rw [if_pos (by omega), if_pos (by omega), if_pos (by omega), w64_succ i a.length (by omega) hn, ih k (i + 1) (by omega) (by omega), rd_drop a i (by omega), rd_drop b i (by omega)]
    by_cases c : rd a (i : Int) = rd b (i : Int)
    · rw [if_pos c, c]; simp
    · rw [if_neg c]; simp [c]
theorem same_eq (a b : List Int) (hn : a.length ≤ 140737488351232) (k : Nat) (hk : a.length < k) : credenzaref03_Same.f k a b = some (decide (a = b)) := by
  unfold credenzaref03_Same.f
  by_cases h : (a.length : Int) = (b.length : Int)
  · rw [if_pos h]
    have := same_loop a b (by omega) hn a.length k 0 (by omega) hk
    rwa [List.drop_zero, List.drop_zero] at this
  · rw [if_neg h, decide_eq_false (fun e => h (by rw [e]))]
theorem same_self (a : List Int) (hn : a.length ≤ 140737488351232) (k : Nat) (hk : a.length < k) : credenzaref03_Same.f k a a = some true := by
  rw [same_eq a a hn k hk]; simp
def narrowL (l : List Int) : List Int := l.map narrow
theorem rnarrowl_loop (l : List Int) (hn : l.length ≤ 1000000) (hl : I32 l) (d : Nat) : ∀ (k i : Nat) (acc : List Int), i + d = l.length → d < k → acc.length = i →
    credenzaref14_Narrow.l0 k l acc (i : Int) = some (acc ++ narrowL (l.drop i)) := by
  induction d with
  | zero =>
    intro k i acc h hk ho
    obtain ⟨k, rfl⟩ : ∃ m, k = m + 1 := ⟨k - 1, by omega⟩
    simp only [credenzaref14_Narrow.l0]
    rw [if_neg (by omega), List.drop_of_length_le (by omega : l.length ≤ i)]
    simp [narrowL]
  | succ d ih =>
    intro k i acc h hk ho
    obtain ⟨k, rfl⟩ : ∃ m, k = m + 1 := ⟨k - 1, by omega⟩
    have hx := hl _ (rd_mem l i (by omega))
    simp only [credenzaref14_Narrow.l0]
    rw [if_pos (by omega), if_pos (by omega), w64 (rd l (i : Int)) (by omega) (by omega), rnarrow_eq]
    simp only [Option.bind_some]
    rw [if_pos (by omega), w64_succ i l.length (by omega) (by omega), ih k (i + 1) _ (by omega) (by omega) (by rw [List.length_append]; simp; omega), rd_drop l i (by omega), List.append_assoc]
    rfl
theorem rnarrowl_eq (l : List Int) (hn : l.length ≤ 1000000) (hl : I32 l) (k : Nat) (hk : l.length < k) : credenzaref14_Narrow.f k l = some (narrowL l) := by
  unfold credenzaref14_Narrow.f
  have := rnarrowl_loop l hn hl l.length k 0 [] (by omega) (by omega) rfl
  rw [List.drop_zero, List.nil_append] at this
  exact this
def unitI (v : Int) : Int := cutI v (-65536) 65536
theorem unit_range (v : Int) : -65536 ≤ unitI v ∧ unitI v ≤ 65536 := by unfold unitI cutI; omega
theorem unit_eq (v : Int) : rope_unit.f v = some (unitI v) := by
  unfold rope_unit.f unitI cutI mn mx
  congr 1
  split <;> split <;> (try split) <;> (try split) <;> omega
def IsUnit (t : S54) : Prop := -65536 ≤ t.f0 ∧ t.f0 ≤ 65536 ∧ -65536 ≤ t.f1 ∧ t.f1 ≤ 65536
/-- A pair of numbers, turned. -/
def byI (x y : Int) (t : S54) : Int × Int := (rnd (x * t.f0 - y * t.f1) 65536, rnd (x * t.f1 + y * t.f0) 65536)
theorem times_range (a b : Int) (ha : -2147483648 ≤ a ∧ a ≤ 2147483648) (hb : -65536 ≤ b ∧ b ≤ 65536) : -140737488355328 ≤ a * b ∧ a * b ≤ 140737488355328 :=
  mul_bound (A := 2147483648) (B := 65536) ha.1 ha.2 hb.1 hb.2
theorem by_eq (x y c s : Int) (hx : -2147483648 ≤ x ∧ x ≤ 2147483648) (hy : -2147483648 ≤ y ∧ y ≤ 2147483648) (ht : IsUnit ⟨c, s⟩) : rope_by.f x y c s = some (byI x y ⟨c, s⟩) := by
  obtain ⟨h1, h2, h3, h4⟩ := ht
  have a1 := times_range x c hx ⟨h1, h2⟩
  have a2 := times_range y s hy ⟨h3, h4⟩
  have a3 := times_range x s hx ⟨h3, h4⟩
  have a4 := times_range y c hy ⟨h1, h2⟩
  simp only at h1 h2 h3 h4
  unfold rope_by.f
  rw [w64 x (by omega) (by omega), w64 y (by omega) (by omega), w64 c (by omega) (by omega), w64 s (by omega) (by omega), w64 (x * c) (by omega) (by omega), w64 (y * s) (by omega) (by omega), w64 (x * s) (by omega) (by omega), w64 (y * c) (by omega) (by omega),
    w64 (x * c - y * s) (by omega) (by omega), w64 (x * s + y * c) (by omega) (by omega), half_eq _ _ (by omega) (by omega), half_eq _ _ (by omega) (by omega), pw16]
  rfl
theorem both_less (a b c d : Int) (ha : -2147483648 ≤ a ∧ a ≤ 2147483648) (hc : -2147483648 ≤ c ∧ c ≤ 2147483648) (hb : -65536 ≤ b ∧ b ≤ 65536) (hd : -65536 ≤ d ∧ d ≤ 65536) : credenzaref16_both.f a b c d (-1) = some (rnd (a * b - c * d) 65536) := by
  have a1 := times_range a b ha hb
  have a2 := times_range c d hc hd
  have e : -1 * c * d = -(c * d) := by rw [Int.neg_mul, Int.one_mul, Int.neg_mul]
  unfold credenzaref16_both.f
  rw [w64 a (by omega) (by omega), w64 b (by omega) (by omega), w64 c (by omega) (by omega), w64 d (by omega) (by omega), w64 (-1 * c) (by omega) (by omega), e, w64 (a * b) (by omega) (by omega), w64 (-(c * d)) (by omega) (by omega), w64 (a * b + -(c * d)) (by omega) (by omega),
    rratio_eq _ _ (by omega) (by omega) (by omega) (by omega)]
  rfl
theorem both_more (a b c d : Int) (ha : -2147483648 ≤ a ∧ a ≤ 2147483648) (hc : -2147483648 ≤ c ∧ c ≤ 2147483648) (hb : -65536 ≤ b ∧ b ≤ 65536) (hd : -65536 ≤ d ∧ d ≤ 65536) : credenzaref16_both.f a b c d 1 = some (rnd (a * b + c * d) 65536) := by
  have a1 := times_range a b ha hb
  have a2 := times_range c d hc hd
  unfold credenzaref16_both.f
  rw [w64 a (by omega) (by omega), w64 b (by omega) (by omega), w64 c (by omega) (by omega), w64 d (by omega) (by omega), w64 (1 * c) (by omega) (by omega), Int.one_mul, w64 (a * b) (by omega) (by omega), w64 (c * d) (by omega) (by omega), w64 (a * b + c * d) (by omega) (by omega),
    rratio_eq _ _ (by omega) (by omega) (by omega) (by omega)]
  rfl
/-- One step further. -/
def stepT (t o : S54) : S54 := ⟨unitI (byI o.f0 o.f1 t).1, unitI (byI o.f0 o.f1 t).2⟩
/-- A turn at a position. -/
def atT (t : S54) : Nat → S54
  | 0 => ⟨65536, 0⟩
  | n + 1 => stepT t (atT t n)
theorem at_unit (t : S54) : ∀ n, IsUnit (atT t n)
  | 0 => by unfold IsUnit atT; decide
  | n + 1 => by
    have h1 := unit_range (byI (atT t n).f0 (atT t n).f1 t).1
    have h2 := unit_range (byI (atT t n).f0 (atT t n).f1 t).2
    exact ⟨h1.1, h1.2, h2.1, h2.2⟩
theorem rat_loop (t : S54) (ht : IsUnit t) (n : Nat) (hn : n ≤ 1024) (d : Nat) : ∀ (k i : Nat), i + d = n → d < k → credenzaref16_At.l0 k (n : Int) (i : Int) t.f0 t.f1 (atT t i).f0 (atT t i).f1 = some ((atT t n).f0, (atT t n).f1) := by
  induction d with
  | zero =>
    intro k i h hk
    obtain ⟨k, rfl⟩ : ∃ m, k = m + 1 := ⟨k - 1, by omega⟩
    obtain rfl : i = n := by omega
    simp only [credenzaref16_At.l0]
    rw [if_neg (by omega)]
  | succ d ih =>
    intro k i h hk
    obtain ⟨k, rfl⟩ : ∃ m, k = m + 1 := ⟨k - 1, by omega⟩
    obtain ⟨u1, u2, u3, u4⟩ := at_unit t i
    obtain ⟨t1, t2, t3, t4⟩ := ht
    simp only [credenzaref16_At.l0]
    rw [if_pos (by omega), both_less _ _ _ _ (by omega) (by omega) ⟨t1, t2⟩ ⟨t3, t4⟩, Option.bind_some, rcut_eq, Option.bind_some, both_more _ _ _ _ (by omega) (by omega) ⟨t1, t2⟩ ⟨t3, t4⟩, Option.bind_some, rcut_eq, Option.bind_some]
    have r1 := unit_range (rnd ((atT t i).f0 * t.f0 - (atT t i).f1 * t.f1) 65536)
    have r2 := unit_range (rnd ((atT t i).f1 * t.f0 + (atT t i).f0 * t.f1) 65536)
    unfold unitI at r1 r2
    rw [w32 _ (by omega) (by omega), w32 _ (by omega) (by omega), w64 _ (by omega) (by omega), show (i : Int) + 1 = ((i + 1 : Nat) : Int) from by omega]
    have := ih k (i + 1) (by omega) (by omega)
    rw [show (atT t (i + 1)).f0 = cutI (rnd ((atT t i).f0 * t.f0 - (atT t i).f1 * t.f1) 65536) (-65536) 65536 from rfl,
      show (atT t (i + 1)).f1 = cutI (rnd ((atT t i).f1 * t.f0 + (atT t i).f0 * t.f1) 65536) (-65536) 65536 from by rw [Int.add_comm]; rfl] at this
    exact this
theorem rat_eq (t : S54) (ht : IsUnit t) (n : Nat) (hn : n ≤ 1024) (k : Nat) (hk : 1025 ≤ k) : credenzaref16_At.f k t.f0 t.f1 (n : Int) = some ((atT t n).f0, (atT t n).f1) := by
  unfold credenzaref16_At.f
  exact rat_loop t ht n hn n k 0 (by omega) (by omega)
/-- All are turns. -/
def Units (l : List S54) : Prop := ∀ t ∈ l, IsUnit t
theorem rdT_at (l : List S54) (i : Nat) (h : i < l.length) : rd_T54 l (i : Int) = l[i] := by
  unfold rd_T54
  rw [Int.toNat_natCast, List.getD_eq_getElem?_getD, List.getElem?_eq_getElem h]
  rfl
theorem build_step (l : List S54) (hl : l.length ≤ 8) (hu : Units l) (x1 : List (List S54)) (p : Nat) (hp : p < 1024) (k : Nat) (d : Nat) : ∀ (i : Nat) (x2 : List S54), i + d = l.length → x2 = (l.take i).map (fun t => atT t (p + 1)) ++ (l.drop i).map (fun t => atT t p) →
    rope_Table_build.l2 (k + d + 1) l x1 x2 (p : Int) l (l.length : Int) (i : Int) = rope_Table_build.l1 k l x1 (l.map (fun t => atT t (p + 1))) ((p + 1 : Nat) : Int) := by
  induction d with
  | zero =>
    intro i x2 h hx
    obtain rfl : i = l.length := by omega
    rw [List.take_length, List.drop_length] at hx
    simp only [List.map_nil, List.append_nil] at hx
    rw [show k + 0 + 1 = k + 1 from rfl]
    simp only [rope_Table_build.l2]
    rw [if_neg (by omega), w64 _ (by omega) (by omega), hx, show (p : Int) + 1 = ((p + 1 : Nat) : Int) from by omega]
  | succ d ih =>
    intro i x2 h hx
    have hlen : x2.length = l.length := by rw [hx, List.length_append, List.length_map, List.length_map, List.length_take, List.length_drop]; omega
    have hi : i < l.length := by omega
    have hxi : rd_T54 x2 (i : Int) = atT l[i] p := by
      rw [rdT_at x2 i (by omega)]
      simp only [hx]
      rw [List.getElem_append_right (by rw [List.length_map, List.length_take]; omega)]
      simp only [List.length_map, List.length_take, List.getElem_map, List.getElem_drop]
      congr 2
      omega
    have hui := hu _ (List.getElem_mem hi)
    obtain ⟨u1, u2, u3, u4⟩ := at_unit l[i] p
    have ih := ih (i + 1)
    rw [show k + (d + 1) + 1 = (k + d + 1) + 1 from by omega]
    generalize k + d + 1 = m at ih ⊢
    simp only [rope_Table_build.l2]
    rw [if_pos (by omega), if_pos (by omega), if_pos (by omega), if_pos (by omega), hxi, rdT_at l i hi, by_eq _ _ l[i].f0 l[i].f1 (by omega) (by omega) hui, Option.bind_some, unit_eq, Option.bind_some, unit_eq, Option.bind_some, w64 _ (by omega) (by omega), show (i : Int) + 1 = ((i + 1 : Nat) : Int) from by omega]
    refine ih _ (by omega) ?_
    rw [hx, Int.toNat_natCast, List.drop_eq_getElem_cons hi, List.map_cons, List.set_append_right _ _ (by rw [List.length_map, List.length_take]; omega)]
    rw [List.length_map, List.length_take, show i - min i l.length = 0 from by omega, List.set_cons_zero, List.take_succ_eq_append_getElem hi, List.map_append, List.append_assoc]
    rfl
/-- The rows up to position n. -/
def rowsI (l : List S54) (n : Nat) : List (List S54) := (List.range n).map fun p => l.map fun t => atT t p
theorem rows_len (l : List S54) (n : Nat) : (rowsI l n).length = n := by unfold rowsI; rw [List.length_map, List.length_range]
theorem rows_at (l : List S54) (n p : Nat) (h : p < n) : (rowsI l n).getD p [] = l.map fun t => atT t p := by
  unfold rowsI
  rw [List.getD_eq_getElem?_getD, List.getElem?_map, List.getElem?_range h]
  rfl
theorem build_rows (l : List S54) (hl : l.length ≤ 8) (hu : Units l) (d : Nat) : ∀ (k p : Nat), p + d = 1024 → 10 * d < k → rope_Table_build.l1 k l (rowsI l p) (l.map fun t => atT t p) (p : Int) = some (rowsI l 1024) := by
  induction d with
  | zero =>
    intro k p h hk
    obtain ⟨k, rfl⟩ : ∃ m, k = m + 1 := ⟨k - 1, by omega⟩
    obtain rfl : p = 1024 := by omega
    simp only [rope_Table_build.l1]
    rw [if_neg (by omega)]
  | succ d ih =>
    intro k p h hk
    obtain ⟨k, rfl⟩ : ∃ m, k = m + l.length + 1 + 1 := ⟨k - l.length - 2, by omega⟩
    have hlm : (l.map fun t => atT t p).length = l.length := List.length_map _
    simp only [rope_Table_build.l1]
    rw [if_pos (by omega), clone_f _ (by omega), Option.bind_some, if_pos (by rw [rows_len]; omega)]
    have := build_step l hl hu (rowsI l p ++ [l.map fun t => atT t p]) p (by omega) k l.length 0 _ (by omega) rfl
    rw [List.take_zero, List.drop_zero, List.map_nil, List.nil_append] at this
    rw [show ((0 : Nat) : Int) = 0 from rfl] at this
    rw [this, show rowsI l p ++ [l.map fun t => atT t p] = rowsI l (p + 1) from by unfold rowsI; rw [List.range_succ, List.map_append]; rfl]
    exact ih k (p + 1) (by omega) (by omega)
theorem build_fill (l : List S54) (hl : l.length ≤ 8) (hu : Units l) (d : Nat) : ∀ (k i : Nat) (x2 : List S54), i + d = l.length → 10241 + d < k → x2 = List.replicate i (⟨65536, 0⟩ : S54) ++ List.replicate d z54 →
    rope_Table_build.l0 k l x2 (l.length : Int) (i : Int) = some (rowsI l 1024) := by
  induction d with
  | zero =>
    intro k i x2 h hk hx
    obtain ⟨k, rfl⟩ : ∃ m, k = m + 1 := ⟨k - 1, by omega⟩
    simp only [rope_Table_build.l0]
    rw [if_neg (by omega)]
    have e : x2 = l.map fun t => atT t 0 := by
      rw [hx, List.replicate_zero, List.append_nil]
      refine (List.eq_replicate_iff.mpr ⟨by rw [List.length_map]; omega, fun b hb => ?_⟩).symm
      obtain ⟨t, _, rfl⟩ := List.mem_map.mp hb
      rfl
    have := build_rows l hl hu 1024 k 0 (by omega) (by omega)
    rw [← e] at this
    exact this
  | succ d ih =>
    intro k i x2 h hk hx
    obtain ⟨k, rfl⟩ : ∃ m, k = m + 1 := ⟨k - 1, by omega⟩
    have hlen : x2.length = l.length := by rw [hx, List.length_append, List.length_replicate, List.length_replicate]; omega
    simp only [rope_Table_build.l0]
    rw [if_pos (by omega), if_pos (by omega), if_pos (by omega), w64 _ (by omega) (by omega), show (i : Int) + 1 = ((i + 1 : Nat) : Int) from by omega]
    refine ih k (i + 1) _ (by omega) (by omega) ?_
    rw [hx, Int.toNat_natCast, List.set_append_right _ _ (by rw [List.length_replicate]; omega), List.length_replicate, Nat.sub_self, List.replicate_succ, List.set_cons_zero, List.replicate_succ', List.append_assoc]
    rfl
theorem build_eq (l : List S54) (hl : l.length ≤ 8) (hu : Units l) (k : Nat) (hk : 10260 ≤ k) : rope_Table_build.f k l = some (rowsI l 1024) := by
  unfold rope_Table_build.f
  rw [if_pos (by omega), if_pos (by omega), Option.bind_some, List.length_replicate, Int.toNat_natCast]
  exact build_fill l hl hu l.length k 0 _ (by omega) (by omega) (by rw [List.replicate_zero, List.nil_append])
def isU (t : S54) : Bool := decide (-65536 ≤ t.f0) && decide (t.f0 ≤ 65536) && decide (-65536 ≤ t.f1) && decide (t.f1 ≤ 65536)
theorem isU_iff (t : S54) : isU t = true ↔ IsUnit t := by unfold isU IsUnit; simp [and_assoc]
theorem tright_eq (t : S54) : rope_right.f t.f0 t.f1 = some (isU t) := by
  unfold rope_right.f isU
  by_cases h1 : t.f0 ≥ -65536
  · rw [if_pos h1, decide_eq_true (show -65536 ≤ t.f0 from h1)]
    by_cases h2 : t.f0 ≤ 65536
    · rw [if_pos h2, decide_eq_true h2]
      by_cases h3 : t.f1 ≥ -65536
      · rw [if_pos h3, decide_eq_true (show -65536 ≤ t.f1 from h3)]; rfl
      · rw [if_neg h3, decide_eq_false (show ¬ -65536 ≤ t.f1 from h3)]; rfl
    · rw [if_neg h2, decide_eq_false h2]; rfl
  · rw [if_neg h1, decide_eq_false (show ¬ -65536 ≤ t.f0 from h1)]; rfl
theorem trright_eq (t : S54) : credenzaref16_Right.f t.f0 t.f1 = some (isU t) := tright_eq t
theorem all_loop (l : List S54) (hn : l.length ≤ 1000) (d : Nat) : ∀ (k i : Nat), i + d = l.length → d < k → rope_allRight.l0 k l (l.length : Int) (i : Int) = some ((l.drop i).all isU) := by
  induction d with
  | zero =>
    intro k i h hk
    obtain ⟨k, rfl⟩ : ∃ m, k = m + 1 := ⟨k - 1, by omega⟩
    simp only [rope_allRight.l0]
    rw [if_neg (by omega), List.drop_of_length_le (by omega)]
    rfl
  | succ d ih =>
    intro k i h hk
    obtain ⟨k, rfl⟩ : ∃ m, k = m + 1 := ⟨k - 1, by omega⟩
    have hi : i < l.length := by omega
    simp only [rope_allRight.l0]
    rw [if_pos (by omega), if_pos (by omega), if_pos (by omega), rdT_at l i hi, tright_eq, Option.bind_some, List.drop_eq_getElem_cons hi, List.all_cons, w64 _ (by omega) (by omega), show (i : Int) + 1 = ((i + 1 : Nat) : Int) from by omega, ih k (i + 1) (by omega) (by omega)]
    cases isU l[i] <;> simp
theorem all_eq (l : List S54) (hn : l.length ≤ 1000) (k : Nat) (hk : l.length < k) : rope_allRight.f k l = some (l.all isU) := by
  unfold rope_allRight.f
  have := all_loop l hn l.length k 0 (by omega) (by omega)
  rw [List.drop_zero] at this
  exact this
theorem all_units (l : List S54) : l.all isU = true ↔ Units l := by
  unfold Units
  rw [List.all_eq_true]
  exact ⟨fun h t ht => (isU_iff t).mp (h t ht), fun h t ht => (isU_iff t).mpr (h t ht)⟩
def toR (l : List S54) : List S52 := l.map fun t => ⟨t.f0, t.f1⟩
theorem toR_len (l : List S54) : (toR l).length = l.length := List.length_map _
theorem rd52_at (l : List S54) (i : Nat) (h : i < l.length) : rd_T52 (toR l) (i : Int) = ⟨l[i].f0, l[i].f1⟩ := by
  unfold rd_T52 toR
  rw [Int.toNat_natCast, List.getD_eq_getElem?_getD, List.getElem?_map, List.getElem?_eq_getElem h]
  rfl
theorem refs_loop (l : List S54) (hn : l.length ≤ 1000) (d : Nat) : ∀ (k i : Nat), i + d = l.length → d < k → credenzalaw16_refs.l0 k (toR (l.take i)) l (l.length : Int) (i : Int) = some (toR l) := by
  induction d with
  | zero =>
    intro k i h hk
    obtain ⟨k, rfl⟩ : ∃ m, k = m + 1 := ⟨k - 1, by omega⟩
    simp only [credenzalaw16_refs.l0]
    rw [if_neg (by omega), List.take_of_length_le (by omega)]
  | succ d ih =>
    intro k i h hk
    obtain ⟨k, rfl⟩ : ∃ m, k = m + 1 := ⟨k - 1, by omega⟩
    have hi : i < l.length := by omega
    simp only [credenzalaw16_refs.l0]
    rw [if_pos (by omega), if_pos (by omega), if_pos (by omega), if_pos (by rw [toR_len, List.length_take]; omega), rdT_at l i hi, w64 _ (by omega) (by omega), show (i : Int) + 1 = ((i + 1 : Nat) : Int) from by omega]
    have := ih k (i + 1) (by omega) (by omega)
    rw [List.take_succ_eq_append_getElem hi] at this
    unfold toR at this ⊢
    rw [List.map_append] at this
    exact this
theorem refs_eq (l : List S54) (hn : l.length ≤ 1000) (k : Nat) (hk : l.length < k) : credenzalaw16_refs.f k l = some (toR l) := by
  unfold credenzalaw16_refs.f
  exact refs_loop l hn l.length k 0 (by omega) (by omega)
/-- A list, turned pair by pair. -/
def rotR : List S54 → List Int → List Int
  | t :: l, a :: b :: x => narrow (byI a b t).1 :: narrow (byI a b t).2 :: rotR l x
  | _, _ => []
theorem drop_two (x : List Int) (i : Nat) (h : i + 1 < x.length) : x.drop i = rd x (i : Int) :: rd x ((i + 1 : Nat) : Int) :: x.drop (i + 2) := by
  rw [rd_drop x i (by omega), rd_drop x (i + 1) (by omega)]
theorem rotate_loop (row : List S54) (x : List Int) (hn : row.length ≤ 1000) (hx : x.length = 2 * row.length) (hu : Units row) (hi32 : I32 x) (d : Nat) : ∀ (k i : Nat) (done : List Int), i + d = row.length → d < k → done.length = 2 * i →
    rope_Table_Rotate.l0 k x (done ++ List.replicate (2 * d) 0) row (row.length : Int) (i : Int) = some (done ++ rotR (row.drop i) (x.drop (2 * i)), 0) := by
  induction d with
  | zero =>
    intro k i done h hk hd
    obtain ⟨k, rfl⟩ : ∃ m, k = m + 1 := ⟨k - 1, by omega⟩
    simp only [rope_Table_Rotate.l0]
    rw [if_neg (by omega), List.drop_of_length_le (by omega : row.length ≤ i)]
    rfl
  | succ d ih =>
    intro k i done h hk hd
    obtain ⟨k, rfl⟩ : ∃ m, k = m + 1 := ⟨k - 1, by omega⟩
    have hi : i < row.length := by omega
    have hut := hu _ (List.getElem_mem hi)
    have e0 : wrap64 (2 * (i : Int)) = ((2 * i : Nat) : Int) := by rw [w64 _ (by omega) (by omega)]; omega
    have e1 : wrap64 (((2 * i : Nat) : Int) + 1) = ((2 * i + 1 : Nat) : Int) := by rw [w64 _ (by omega) (by omega)]; omega
    have h1 := hi32 _ (rd_mem x (2 * i) (by omega))
    have h2 := hi32 _ (rd_mem x (2 * i + 1) (by omega))
    have hl : (done ++ List.replicate (2 * (d + 1)) (0 : Int)).length = x.length := by rw [List.length_append, List.length_replicate]; omega
    simp only [rope_Table_Rotate.l0]
    rw [e0, e1, if_pos (by omega), if_pos (by omega), if_pos (by omega), if_pos (by omega), if_pos (by omega), if_pos (by omega), if_pos (by omega), rdT_at row i hi, by_eq _ _ row[i].f0 row[i].f1 (by omega) (by omega) hut, Option.bind_some, narrow_eq, Option.bind_some, narrow_eq, Option.bind_some,
      if_pos (by omega), if_pos (by omega), w64 ((i : Int) + 1) (by omega) (by omega), show (i : Int) + 1 = ((i + 1 : Nat) : Int) from by omega]
    have hset : ((done ++ List.replicate (2 * (d + 1)) (0 : Int)).set ((2 * i : Nat) : Int).toNat (narrow (byI (rd x ((2 * i : Nat) : Int)) (rd x ((2 * i + 1 : Nat) : Int)) ⟨row[i].f0, row[i].f1⟩).1)).set ((2 * i + 1 : Nat) : Int).toNat (narrow (byI (rd x ((2 * i : Nat) : Int)) (rd x ((2 * i + 1 : Nat) : Int)) ⟨row[i].f0, row[i].f1⟩).2) =
        (done ++ [narrow (byI (rd x ((2 * i : Nat) : Int)) (rd x ((2 * i + 1 : Nat) : Int)) row[i]).1, narrow (byI (rd x ((2 * i : Nat) : Int)) (rd x ((2 * i + 1 : Nat) : Int)) row[i]).2]) ++ List.replicate (2 * d) 0 := by
      rw [Int.toNat_natCast, Int.toNat_natCast, show 2 * (d + 1) = 2 * d + 1 + 1 from by omega, List.replicate_succ, List.replicate_succ, List.set_append_right _ _ (by omega), hd, Nat.sub_self, List.set_cons_zero, List.set_append_right _ _ (by omega), hd, show 2 * i + 1 - 2 * i = 1 from by omega,
        List.set_cons_succ, List.set_cons_zero, List.append_assoc]
      rfl
    rw [hset, ih k (i + 1) _ (by omega) (by omega) (by rw [List.length_append]; simp; omega), List.drop_eq_getElem_cons hi, drop_two x (2 * i) (by omega), show 2 * (i + 1) = 2 * i + 2 from by omega, List.append_assoc]
    rfl
theorem rotate_eq (row : List S54) (x : List Int) (hn : row.length ≤ 1000) (hx : x.length = 2 * row.length) (hu : Units row) (hi32 : I32 x) (k : Nat) (hk : row.length < k) :
    rope_Table_Rotate.l0 k x (List.replicate x.length 0) row (row.length : Int) 0 = some (rotR row x, 0) := by
  have := rotate_loop row x hn hx hu hi32 row.length k 0 [] (by omega) (by omega) rfl
  rw [List.nil_append, ← hx, List.drop_zero, List.drop_zero, List.nil_append] at this
  exact this
theorem rrot_loop (l : List S54) (x : List Int) (p : Nat) (hp : p ≤ 1024) (hn : l.length ≤ 1000) (hx : x.length = 2 * l.length) (hu : Units l) (hi32 : I32 x) (d : Nat) : ∀ (k i : Nat) (done : List Int), i + d = l.length → d + 1025 < k → done.length = 2 * i →
    credenzaref16_Rotate.l0 k (toR l) x (p : Int) done (i : Int) = some (done ++ rotR ((l.drop i).map fun t => atT t p) (x.drop (2 * i))) := by
  induction d with
  | zero =>
    intro k i done h hk hd
    obtain ⟨k, rfl⟩ : ∃ m, k = m + 1 := ⟨k - 1, by omega⟩
    simp only [credenzaref16_Rotate.l0]
    rw [if_neg (by rw [toR_len]; omega), List.drop_of_length_le (by omega : l.length ≤ i)]
    simp [rotR]
  | succ d ih =>
    intro k i done h hk hd
    obtain ⟨k, rfl⟩ : ∃ m, k = m + 1 := ⟨k - 1, by omega⟩
    have hi : i < l.length := by omega
    have hut := hu _ (List.getElem_mem hi)
    obtain ⟨u1, u2, u3, u4⟩ := at_unit l[i] p
    have e0 : wrap64 (2 * (i : Int)) = ((2 * i : Nat) : Int) := by rw [w64 _ (by omega) (by omega)]; omega
    have e1 : wrap64 (((2 * i : Nat) : Int) + 1) = ((2 * i + 1 : Nat) : Int) := by rw [w64 _ (by omega) (by omega)]; omega
    have h1 := hi32 _ (rd_mem x (2 * i) (by omega))
    have h2 := hi32 _ (rd_mem x (2 * i + 1) (by omega))
    simp only [credenzaref16_Rotate.l0]
    rw [e0, e1, if_pos (by rw [toR_len]; omega), if_pos (by omega), rd52_at l i hi, rat_eq l[i] hut p hp k (by omega), Option.bind_some, if_pos (by omega), if_pos (by omega), if_pos (by omega), if_pos (by omega)]
    simp only []
    rw [both_less _ _ _ _ (by omega) (by omega) ⟨u1, u2⟩ ⟨u3, u4⟩, Option.bind_some, rnarrow_eq, Option.bind_some, if_pos (by omega), Option.bind_some,
      both_more _ _ _ _ (by omega) (by omega) ⟨u3, u4⟩ ⟨u1, u2⟩, Option.bind_some, rnarrow_eq, Option.bind_some, if_pos (by rw [List.length_append]; simp; omega), w64 ((i : Int) + 1) (by omega) (by omega), show (i : Int) + 1 = ((i + 1 : Nat) : Int) from by omega,
      ih k (i + 1) _ (by omega) (by omega) (by rw [List.length_append, List.length_append]; simp; omega), List.drop_eq_getElem_cons hi, drop_two x (2 * i) (by omega), show 2 * (i + 1) = 2 * i + 2 from by omega, List.append_assoc, List.append_assoc]
    rfl
theorem rrot_eq (l : List S54) (x : List Int) (p : Nat) (hp : p ≤ 1024) (hn : l.length ≤ 1000) (hx : x.length = 2 * l.length) (hu : Units l) (hi32 : I32 x) (k : Nat) (hk : l.length + 1025 < k) :
    credenzaref16_Rotate.f k (toR l) x (p : Int) = some (rotR (l.map fun t => atT t p) x) := by
  unfold credenzaref16_Rotate.f
  exact rrot_loop l x p hp hn hx hu hi32 l.length k 0 [] (by omega) (by omega) rfl
theorem units_at (l : List S54) (p : Nat) : Units (l.map fun t => atT t p) := by
  intro u hu
  obtain ⟨t, _, rfl⟩ := List.mem_map.mp hu
  exact at_unit t p
theorem tnarrow_neg (v : Int) : narrow (-v) = -narrow v := by unfold narrow cutI; omega
theorem by_zero (a b : Int) : byI a b (atT ⟨0, 65536⟩ 0) = (a, b) := by
  show (rnd (a * 65536 - b * 0) 65536, rnd (a * 0 + b * 65536) 65536) = (a, b)
  rw [Int.mul_zero, Int.sub_zero, Int.mul_zero, Int.zero_add, rnd_mul _ _ (by omega), rnd_mul _ _ (by omega)]
theorem by_half (a b : Int) : byI a b ⟨-65536, 0⟩ = (-a, -b) := by
  show (rnd (a * (-65536) - b * 0) 65536, rnd (a * 0 + b * (-65536)) 65536) = (-a, -b)
  rw [Int.mul_zero, Int.sub_zero, Int.mul_zero, Int.zero_add, show a * (-65536) = (-a) * 65536 from by omega, show b * (-65536) = (-b) * 65536 from by omega, rnd_mul _ _ (by omega), rnd_mul _ _ (by omega)]
theorem quarter_four (n : Nat) : atT ⟨0, 65536⟩ (4 * n) = ⟨65536, 0⟩ := by
  induction n with
  | zero => rfl
  | succ n ih =>
    rw [show 4 * (n + 1) = 4 * n + 1 + 1 + 1 + 1 from by omega]
    simp only [atT]
    rw [ih]
    rfl
theorem quarter_two (n : Nat) : atT ⟨0, 65536⟩ (4 * n + 2) = ⟨-65536, 0⟩ := by
  rw [show 4 * n + 2 = 4 * n + 1 + 1 from by omega]
  simp only [atT]
  rw [quarter_four]
  rfl
theorem rot_quarters (n : Nat) : ∀ (m : Nat) (x : List Int), x.length = 2 * m → rotR (List.replicate m ⟨65536, 0⟩) x = narrowL x
  | 0, x, h => by
    obtain rfl : x = [] := List.eq_nil_of_length_eq_zero (by omega)
    rfl
  | m + 1, a :: b :: x, h => by
    rw [List.replicate_succ]
    show narrow (byI a b (atT ⟨0, 65536⟩ 0)).1 :: narrow (byI a b (atT ⟨0, 65536⟩ 0)).2 :: rotR (List.replicate m ⟨65536, 0⟩) x = _
    rw [by_zero, rot_quarters n m x (by simp only [List.length_cons] at h; omega)]
    rfl
  | m + 1, [a], h => by simp at h; omega
  | m + 1, [], h => by simp at h
theorem rot_halves : ∀ (m : Nat) (x : List Int), x.length = 2 * m → rotR (List.replicate m ⟨-65536, 0⟩) x = (narrowL x).map fun v => -v
  | 0, x, h => by
    obtain rfl : x = [] := List.eq_nil_of_length_eq_zero (by omega)
    rfl
  | m + 1, a :: b :: x, h => by
    rw [List.replicate_succ]
    show narrow (byI a b ⟨-65536, 0⟩).1 :: narrow (byI a b ⟨-65536, 0⟩).2 :: rotR (List.replicate m ⟨-65536, 0⟩) x = _
    rw [by_half, rot_halves m x (by simp only [List.length_cons] at h; omega), tnarrow_neg, tnarrow_neg]
    rfl
  | m + 1, [a], h => by simp at h; omega
  | m + 1, [], h => by simp at h
theorem rot_len : ∀ (l : List S54) (x : List Int), x.length = 2 * l.length → (rotR l x).length = x.length
  | [], x, h => by
    obtain rfl : x = [] := List.eq_nil_of_length_eq_zero (by simpa using h)
    rfl
  | t :: l, a :: b :: x, h => by
    show (rotR l x).length + 1 + 1 = x.length + 1 + 1
    rw [rot_len l x (by simp only [List.length_cons] at h; omega)]
  | t :: l, [a], h => by simp at h; omega
  | t :: l, [], h => by simp at h
theorem rot_noughts : ∀ (l : List S54), rotR l (List.replicate (2 * l.length) 0) = List.replicate (2 * l.length) 0
  | [] => rfl
  | t :: l => by
    rw [show 2 * (t :: l).length = 2 * l.length + 1 + 1 from by rw [List.length_cons]; omega, List.replicate_succ, List.replicate_succ]
    show narrow (byI 0 0 t).1 :: narrow (byI 0 0 t).2 :: rotR l (List.replicate (2 * l.length) 0) = _
    rw [rot_noughts l]
    have : byI 0 0 t = (0, 0) := by
      show (rnd (0 * t.f0 - 0 * t.f1) 65536, rnd (0 * t.f1 + 0 * t.f0) 65536) = (0, 0)
      rw [Int.zero_mul, Int.zero_mul]
      decide
    rw [this]
    rfl
theorem rot_one : ∀ (l : List S54) (x : List Int) (i : Nat) (hi : i < l.length), x.length = 2 * l.length → rotR [l[i]] ((x.drop (2 * i)).take 2) = ((rotR l x).drop (2 * i)).take 2
  | [], x, i, hi, h => absurd hi (by simp)
  | t :: l, a :: b :: x, 0, hi, h => by
    show rotR [t] [a, b] = [narrow (byI a b t).1, narrow (byI a b t).2]
    rfl
  | t :: l, a :: b :: x, i + 1, hi, h => by
    have := rot_one l x i (by simpa using hi) (by simp only [List.length_cons] at h; omega)
    rw [show 2 * (i + 1) = 2 * i + 1 + 1 from by omega]
    simpa [rotR] using this
  | t :: l, [a], i, hi, h => by simp at h; omega
  | t :: l, [], i, hi, h => by simp at h
end Cz

/- build_eq rat_eq all_eq all_units trright_eq refs_eq rotate_eq rrot_eq rrot_loop units_at quarter_four quarter_two rot_quarters rot_halves rot_len rot_noughts rot_one same_eq same_self rnarrowl_eq rows_at rows_len i32_of isU_iff -/

end Go.Proofs.Ytmndomlpdajjmac.Pure
