/- Any number has the power that the document says, from 0 to 1. No condition: for every input. -/
import Derived.Test.YtmndomlpdajjmaaQx1
import Derived.Test.YtmndomlpdajjmaaQx2
set_option linter.unusedVariables false
set_option linter.unusedSimpArgs false
namespace Go.Proofs.Ytmndomlpdajjmaa.Pure
open Go.RowKit Go.Proofs.Ytmndomlpdajjmaa.Q Go.Proofs.YtmndomlpdajjmaaW.PrintWords Go.Proofs.YtmndomlpdajjmaaW.PrintLast
namespace Cz

/-- Divided by d, rounded, a half to the even one. -/
def rnd (a d : Int) : Int :=
  if a % d > d - a % d then a / d + 1 else if a % d = d - a % d ∧ (a / d) % 2 = 1 then a / d + 1 else a / d
/-- What is promised of a rounded fraction. -/
def Near (a d r : Int) : Prop := 2 * (a - r * d) ≤ d ∧ -d ≤ 2 * (a - r * d) ∧ ((2 * (a - r * d) = d ∨ 2 * (a - r * d) = -d) → r % 2 = 0)
theorem rnd_near (a d : Int) (hd : 0 < d) : Near a d (rnd a d) := by
  have h1 := Int.emod_add_mul_ediv a d
  have h2 := Int.emod_nonneg a (by omega : d ≠ 0)
  have h3 := Int.emod_lt_of_pos a hd
  unfold Near rnd
  generalize a % d = m at *
  generalize a / d = q at *
  have e1 : (q + 1) * d = d * q + d := by rw [Int.add_mul, Int.one_mul, Int.mul_comm]
  have e2 : q * d = d * q := Int.mul_comm _ _
  generalize hk : d * q = k at *
  split
  · rw [e1]; omega
  · split
    · rw [e1]; omega
    · rw [e2]; omega
theorem near_le {a b d r s : Int} (hd : 0 < d) (ha : Near a d r) (hb : Near b d s) (h : a ≤ b) : r ≤ s := by
  obtain ⟨a1, a2, a3⟩ := ha
  obtain ⟨b1, b2, b3⟩ := hb
  by_cases hlt : s < r
  · exfalso
    obtain ⟨k, rfl⟩ : ∃ k : Int, r = s + 1 + k := ⟨r - s - 1, by omega⟩
    have hk : 0 ≤ k := by omega
    have e1 : (s + 1 + k) * d = s * d + d + k * d := by rw [Int.add_mul, Int.add_mul, Int.one_mul]
    rw [e1] at a1 a2 a3
    have hkd : 0 ≤ k * d := Int.mul_nonneg hk (by omega)
    generalize s * d = sd at *
    by_cases h0 : k = 0
    · subst h0
      rw [Int.zero_mul] at *
      have := a3 (by omega)
      have := b3 (by omega)
      omega
    · have : d ≤ k * d := by
        have := Int.mul_le_mul_of_nonneg_right (show (1 : Int) ≤ k by omega) (show 0 ≤ d by omega)
        omega
      generalize k * d = kd at *
      omega
  · omega
theorem near_unique {a d r s : Int} (hd : 0 < d) (ha : Near a d r) (hb : Near a d s) : r = s :=
  Int.le_antisymm (near_le hd ha hb (Int.le_refl a)) (near_le hd hb ha (Int.le_refl a))
theorem rnd_unique {a d r : Int} (hd : 0 < d) (h : Near a d r) : rnd a d = r := near_unique hd (rnd_near a d hd) h
theorem rnd_mono {a b d : Int} (hd : 0 < d) (h : a ≤ b) : rnd a d ≤ rnd b d := near_le hd (rnd_near a d hd) (rnd_near b d hd) h
theorem rnd_mul (q d : Int) (hd : 0 < d) : rnd (q * d) d = q := by
  apply rnd_unique hd
  unfold Near
  rw [Int.sub_self]
  omega
theorem rnd_ge {a d q : Int} (hd : 0 < d) (h : q * d ≤ a) : q ≤ rnd a d := by
  have := rnd_mono hd h
  rwa [rnd_mul q d hd] at this
theorem rnd_le {a d q : Int} (hd : 0 < d) (h : a ≤ q * d) : rnd a d ≤ q := by
  have := rnd_mono hd h
  rwa [rnd_mul q d hd] at this
theorem rnd_one (a : Int) : rnd a 1 = a := by
  have := rnd_mul a 1 (by omega)
  rwa [Int.mul_one] at this
theorem rnd_two (a d : Int) (hd : 0 < d) : rnd (2 * a) (2 * d) = rnd a d := by
  apply rnd_unique (by omega)
  obtain ⟨h1, h2, h3⟩ := rnd_near a d hd
  unfold Near
  have e : rnd a d * (2 * d) = 2 * (rnd a d * d) := by rw [← Int.mul_assoc, Int.mul_comm (rnd a d) 2, Int.mul_assoc]
  rw [e]
  generalize rnd a d * d = k at *
  omega
theorem two_pow_pos (n : Nat) : (0 : Int) < 2 ^ n := Int.pow_pos (by omega)
theorem two_pow_le (m : Nat) (d : Nat) : (2 : Int) ^ m ≤ 2 ^ (m + d) := by
  induction d with
  | zero => exact Int.le_refl _
  | succ d ih =>
    have h := two_pow_pos (m + d)
    have e : (2 : Int) ^ (m + (d + 1)) = 2 * 2 ^ (m + d) := by rw [← Nat.add_assoc, Int.pow_succ, Int.mul_comm]
    omega
theorem two_pow_max {m n : Nat} (h : m ≤ n) : (2 : Int) ^ m ≤ 2 ^ n := by
  obtain ⟨d, rfl⟩ : ∃ d, n = m + d := ⟨n - m, by omega⟩
  exact two_pow_le m d
theorem two_pow_62 {m : Nat} (h : m ≤ 62) : (2 : Int) ^ m ≤ 4611686018427387904 := two_pow_max h
theorem two_pow_61 {m : Nat} (h : m ≤ 61) : (2 : Int) ^ m ≤ 2305843009213693952 := two_pow_max h
theorem two_pow_succ (n : Nat) : (2 : Int) ^ (n + 1) = 2 * 2 ^ n := by rw [Int.pow_succ, Int.mul_comm]
/-- 2 to a fraction. -/
def of2 (f : Int) : Int := 65536 + f * (45613 + f * (14743 + f * 5180 / 65536) / 65536) / 65536
theorem of2_parts (f : Int) (h0 : 0 ≤ f) (h1 : f ≤ 65536) :
    14743 ≤ 14743 + f * 5180 / 65536 ∧ 14743 + f * 5180 / 65536 ≤ 19923 ∧
    45613 ≤ 45613 + f * (14743 + f * 5180 / 65536) / 65536 ∧ 45613 + f * (14743 + f * 5180 / 65536) / 65536 ≤ 65536 ∧
    0 ≤ f * (14743 + f * 5180 / 65536) ∧ f * (14743 + f * 5180 / 65536) ≤ 65536 * 19923 ∧
    0 ≤ f * (45613 + f * (14743 + f * 5180 / 65536) / 65536) ∧ f * (45613 + f * (14743 + f * 5180 / 65536) / 65536) ≤ f * 65536 := by
  have b1 : 14743 ≤ 14743 + f * 5180 / 65536 := by omega
  have b2 : 14743 + f * 5180 / 65536 ≤ 19923 := by omega
  generalize 14743 + f * 5180 / 65536 = B at *
  have c1 : 0 ≤ f * B := Int.mul_nonneg h0 (by omega)
  have c2 : f * B ≤ 65536 * 19923 := Int.mul_le_mul h1 b2 (by omega) (by omega)
  have c3 : 45613 + f * B / 65536 ≤ 65536 := by omega
  have c4 : 45613 ≤ 45613 + f * B / 65536 := by omega
  refine ⟨b1, b2, c4, c3, c1, c2, Int.mul_nonneg h0 (by omega), Int.mul_le_mul_of_nonneg_left c3 h0⟩
theorem of2_range (f : Int) (h0 : 0 ≤ f) (h1 : f ≤ 65536) : 65536 ≤ of2 f ∧ of2 f ≤ 65536 + f := by
  have := of2_parts f h0 h1
  unfold of2
  omega
theorem of2_mono {f g : Int} (h0 : 0 ≤ f) (h : f ≤ g) (h1 : g ≤ 65536) : of2 f ≤ of2 g := by
  have pf := of2_parts f h0 (by omega)
  have pg := of2_parts g (by omega) h1
  unfold of2
  have b : 14743 + f * 5180 / 65536 ≤ 14743 + g * 5180 / 65536 := by omega
  have c : f * (14743 + f * 5180 / 65536) ≤ g * (14743 + g * 5180 / 65536) := Int.mul_le_mul h b (by omega) (by omega)
  have c' : 45613 + f * (14743 + f * 5180 / 65536) / 65536 ≤ 45613 + g * (14743 + g * 5180 / 65536) / 65536 := by omega
  have d : f * (45613 + f * (14743 + f * 5180 / 65536) / 65536) ≤ g * (45613 + g * (14743 + g * 5180 / 65536) / 65536) := Int.mul_le_mul h c' (by omega) (by omega)
  omega
/-- The power of a t (n: how far down). -/
def powT (t : Int) : Int := rnd (of2 (t % 65536)) (2 ^ (-(t / 65536)).toNat)
/-- .. with what is too far down cut off. -/
def powC (t : Int) : Int := if -(t / 65536) > 62 then 0 else powT t
theorem rnd_halves (a : Int) (ha : 0 ≤ a) (n k : Nat) : rnd a (2 ^ (n + k)) ≤ rnd a (2 ^ n) := by
  induction k with
  | zero => exact Int.le_refl _
  | succ k ih =>
    refine Int.le_trans ?_ ih
    rw [← Nat.add_assoc, two_pow_succ, ← rnd_two a (2 ^ (n + k)) (two_pow_pos _)]
    exact rnd_mono (by have := two_pow_pos (n + k); omega) (by omega)
theorem powT_mono {t s : Int} (h : t ≤ s) (hs : s ≤ 0) : powT t ≤ powT s := by
  unfold powT
  by_cases he : t / 65536 = s / 65536
  · rw [he]
    exact rnd_mono (two_pow_pos _) (of2_mono (by omega) (by omega) (by omega))
  · obtain ⟨m, hm⟩ : ∃ m : Nat, (-(t / 65536)).toNat = (-(s / 65536)).toNat + m + 1 := ⟨(-(t / 65536)).toNat - (-(s / 65536)).toNat - 1, by omega⟩
    generalize (-(s / 65536)).toNat = n at *
    rw [hm]
    have r1 := of2_range (t % 65536) (by omega) (by omega)
    have r2 := of2_range (s % 65536) (by omega) (by omega)
    calc rnd (of2 (t % 65536)) (2 ^ (n + m + 1)) ≤ rnd (2 * 65536) (2 ^ (n + m + 1)) := rnd_mono (two_pow_pos _) (by omega)
      _ = rnd 65536 (2 ^ (n + m)) := by rw [two_pow_succ, rnd_two _ _ (two_pow_pos _)]
      _ ≤ rnd 65536 (2 ^ n) := rnd_halves _ (by omega) _ _
      _ ≤ rnd (of2 (s % 65536)) (2 ^ n) := rnd_mono (two_pow_pos _) r2.1
theorem powT_range (t : Int) (ht : t ≤ 0) : 0 ≤ powT t ∧ powT t ≤ 65536 := by
  constructor
  · unfold powT
    exact rnd_ge (two_pow_pos _) (by have := of2_range (t % 65536) (by omega) (by omega); omega)
  · have h := powT_mono ht (Int.le_refl 0)
    have : powT 0 = 65536 := by decide +kernel
    omega
theorem powC_range (t : Int) (ht : t ≤ 0) : 0 ≤ powC t ∧ powC t ≤ 65536 := by
  have := powT_range t ht
  unfold powC
  split <;> omega
theorem w64 (x : Int) (h0 : -9223372036854775808 ≤ x) (h1 : x ≤ 9223372036854775807) : wrap64 x = x := by unfold wrap64; omega
theorem w64_sub (a b : Int) : wrap64 (a - wrap64 b) = wrap64 (a - b) := by unfold wrap64; omega
theorem wf32 {x : Int} (h : (Lit.int .i32 x).wf = true) : -2147483648 ≤ x ∧ x ≤ 2147483647 := by
  simp only [Lit.wf, IntKind.min, IntKind.max, IntKind.signed, IntKind.bits, Bool.and_eq_true, decide_eq_true_eq, if_true] at h
  omega
theorem and1 (x : Int) : Go.bits .and .i64 x 1 = x % 2 := by
  have h : (BitVec.ofInt 64 x &&& BitVec.ofInt 64 1).toNat = ((x % 2).toNat) := by
    have e : (BitVec.ofInt 64 1).toNat = 2 ^ 1 - 1 := by decide
    rw [BitVec.toNat_and, e, Nat.and_two_pow_sub_one_eq_mod, BitVec.toNat_ofInt]
    omega
  show IntKind.i64.wrap (((BitVec.ofInt 64 x &&& BitVec.ofInt 64 1).toNat : Nat) : Int) = _
  rw [h, IntKind.wrap_i64]
  omega
theorem div_bound (v D : Int) (hD : 1 ≤ D) : (0 ≤ v → 0 ≤ v / D ∧ v / D ≤ v) ∧ (v < 0 → v ≤ v / D ∧ v / D < 0) := by
  have h1 := Int.emod_add_mul_ediv v D
  have h2 := Int.emod_nonneg v (by omega : D ≠ 0)
  have h3 := Int.emod_lt_of_pos v (by omega : 0 < D)
  constructor
  · intro h
    exact ⟨Int.ediv_nonneg h (by omega), Int.ediv_le_self D h⟩
  · intro h
    have hn : v / D < 0 := Int.ediv_neg_of_neg_of_pos h (by omega)
    have : (v / D + 1) * (D - 1) ≤ 0 := Int.mul_nonpos_of_nonpos_of_nonneg (by omega) (by omega)
    rw [Int.mul_sub, Int.mul_one, Int.add_mul, Int.one_mul, Int.mul_comm (v / D)] at this
    omega
theorem div_half (v D : Int) (hD : 2 ≤ D) (h0 : -9223372036854775808 ≤ v) (h1 : v ≤ 9223372036854775807) : -4611686018427387904 ≤ v / D ∧ v / D ≤ 4611686018427387903 := by
  constructor
  · exact Int.le_ediv_of_mul_le (by omega) (by omega)
  · have : v / D < 4611686018427387904 := Int.ediv_lt_of_lt_mul (by omega) (by omega)
    omega
/-- Cut to a range. -/
def cutI (v lo hi : Int) : Int := if v < lo then lo else if v > hi then hi else v
theorem half_core (v : Int) (m : Nat) (hm : m ≤ 62) (h0 : -9223372036854775808 ≤ v) (h1 : v ≤ 9223372036854775807) :
    (if (wrap64 (v - (wrap64 ((v / 2 ^ m) * 2 ^ m)))) > ((wrap64 (2 ^ m)) / 2) then (some (wrap64 ((v / 2 ^ m) + 1))) else (if (wrap64 (v - (wrap64 ((v / 2 ^ m) * 2 ^ m)))) = ((wrap64 (2 ^ m)) / 2) then (if (m : Int) > 0 then (if (v / 2 ^ m) % 2 = 1 then (some (wrap64 ((v / 2 ^ m) + 1))) else (some (v / 2 ^ m))) else (some (v / 2 ^ m))) else (some (v / 2 ^ m)))) = some (rnd v (2 ^ m)) := by
  have hD : (2 : Int) ^ m ≤ 4611686018427387904 := two_pow_62 hm
  have hp := two_pow_pos m
  have e1 := Int.emod_add_mul_ediv v (2 ^ m)
  have e2 := Int.emod_nonneg v (by omega : (2 : Int) ^ m ≠ 0)
  have e3 := Int.emod_lt_of_pos v hp
  have e4 : v - (v / 2 ^ m) * 2 ^ m = v % 2 ^ m := by rw [Int.mul_comm]; omega
  rw [w64_sub, e4, w64 (v % 2 ^ m) (by omega) (by omega), w64 (2 ^ m) (by omega) (by omega)]
  rcases Nat.eq_zero_or_pos m with rfl | hpos
  · have e5 : v % 2 ^ 0 = 0 := by rw [Int.pow_zero]; omega
    rw [e5, Int.pow_zero, Int.ediv_one, rnd_one, if_neg (by decide), if_pos (by decide), if_neg (by decide)]
  · obtain ⟨n, rfl⟩ : ∃ n, m = n + 1 := ⟨m - 1, by omega⟩
    have hq := div_half v (2 ^ (n + 1)) (by have := two_pow_pos n; rw [two_pow_succ]; omega) h0 h1
    rw [w64 (v / 2 ^ (n + 1) + 1) (by omega) (by omega)]
    unfold rnd
    have e6 : (2 : Int) ^ (n + 1) / 2 = 2 ^ n := by rw [two_pow_succ]; omega
    have e7 := two_pow_succ n
    rw [e6]
    generalize v % 2 ^ (n + 1) = r at *
    generalize v / 2 ^ (n + 1) = q at *
    rw [e7]
    generalize (2 : Int) ^ n = d at *
    clear e1 e4 e6
    repeat' split
    all_goals first | rfl | (exfalso; omega)
/-- Half's power. -/
def pw (n : Int) : Nat := (mn (mx n 0) 62).toNat
theorem half_eq (v n : Int) (h0 : -9223372036854775808 ≤ v) (h1 : v ≤ 9223372036854775807) : fix_Half.f v n = some (rnd v (2 ^ pw n)) := by
  have hm : pw n ≤ 62 := by unfold pw mn mx; omega
  have := half_core v (pw n) hm h0 h1
  unfold fix_Half.f
  simp only [and1]
  rw [show (mn (mx n 0) 62 : Int) = (pw n : Int) from by unfold pw mn mx; omega]
  exact this
theorem tdiv_eq (a b : Int) (hb : 0 < b) : Int.tdiv a b = if a < 0 ∧ a % b ≠ 0 then a / b + 1 else a / b := by
  rw [Int.tdiv_eq_ediv]
  have hs : b.sign = 1 := Int.sign_eq_one_of_pos hb
  have hd : b ∣ a ↔ a % b = 0 := ⟨Int.emod_eq_zero_of_dvd, Int.dvd_of_emod_eq_zero⟩
  by_cases c : a < 0 ∧ a % b ≠ 0
  · rw [if_pos c, if_neg (by rw [hd]; omega), hs]
  · rw [if_neg c, if_pos (by rw [hd]; omega)]; omega
theorem tmod_eq (a b : Int) (hb : 0 < b) : Int.tmod a b = if a < 0 ∧ a % b ≠ 0 then a % b - b else a % b := by
  have h1 := Int.tmod_add_mul_tdiv a b
  have h2 := Int.emod_add_mul_ediv a b
  rw [tdiv_eq a b hb] at h1
  split at h1
  · rename_i c
    rw [if_pos c]
    rw [Int.mul_add, Int.mul_one] at h1
    omega
  · rename_i c
    rw [if_neg c]
    omega
theorem pw16 : (2 : Int) ^ pw 16 = 65536 := by decide
theorem rfloor_eq (a b : Int) (h0 : -9223372036854775808 ≤ a) (h1 : a ≤ 9223372036854775807) (hb : 0 < b) : credenzaref01_Floor.f a b = some (a / b) := by
  have e1 := Int.emod_add_mul_ediv a b
  have e2 := Int.emod_nonneg a (by omega : b ≠ 0)
  have e3 := Int.emod_lt_of_pos a hb
  have hq := div_bound a b (by omega)
  have hn : a < 0 → (a / b + 1) * b ≤ 0 := fun h => Int.mul_nonpos_of_nonpos_of_nonneg (by omega) (by omega)
  have hz : 0 ≤ a → 0 ≤ b * (a / b) := fun h => Int.mul_nonneg (by omega) (hq.1 h).1
  have ep : (a / b + 1) * b = b * (a / b) + b := by rw [Int.add_mul, Int.one_mul, Int.mul_comm]
  have eq' : a / b * b = b * (a / b) := Int.mul_comm _ _
  unfold credenzaref01_Floor.f
  rw [if_neg (by omega), tdiv_eq a b hb]
  by_cases c : a < 0 ∧ a % b ≠ 0
  · have := hn c.1
    rw [if_pos c, w64 (a / b + 1) (by omega) (by omega), ep, w64 (b * (a / b) + b) (by omega) (by omega), if_pos (by omega), show a / b + 1 - 1 = a / b from by omega, w64 _ (by omega) (by omega)]
  · rw [if_neg c, w64 (a / b) (by omega) (by omega), eq', w64 (b * (a / b)) (by omega) (by omega), if_neg (by omega)]
theorem rratio_eq (a b : Int) (h0 : -9223372036854775808 ≤ a) (h1 : a ≤ 9223372036854775807) (hb : 0 < b) (hb1 : b ≤ 9223372036854775807) : credenzaref01_Ratio.f a b = some (rnd a b) := by
  have e1 := Int.emod_add_mul_ediv a b
  have e2 := Int.emod_nonneg a (by omega : b ≠ 0)
  have e3 := Int.emod_lt_of_pos a hb
  have hq := div_bound a b (by omega)
  have hq2 := fun h => div_half a b h h0 h1
  have e4 : a - (a / b) * b = a % b := by rw [Int.mul_comm]; omega
  unfold credenzaref01_Ratio.f rnd
  rw [rfloor_eq a b h0 h1 hb]
  simp only [Option.bind_some]
  rw [w64_sub, e4, w64 (a % b) (by omega) (by omega), w64 (b - a % b) (by omega) (by omega), tmod_eq _ 2 (by omega)]
  generalize a % b = r at *
  generalize a / b = q at *
  by_cases c1 : 2 ≤ b
  · rw [w64 (q + 1) (by omega) (by omega)]
    repeat' split
    all_goals first | rfl | (exfalso; omega)
  · repeat' split
    all_goals first | rfl | (exfalso; omega)
theorem rcut_eq (v lo hi : Int) : credenzaref01_Cut.f v lo hi = some (cutI v lo hi) := by
  unfold credenzaref01_Cut.f cutI
  split
  · rfl
  · split <;> rfl
theorem rpower_loop (n : Nat) (hn : n ≤ 62) (d : Nat) : ∀ (k i : Nat), i + d = n → d < k → credenzaref01_Power.l0 k (n : Int) (2 ^ i) (i : Int) = some (2 ^ n) := by
  induction d with
  | zero =>
    intro k i h hk
    obtain ⟨k, rfl⟩ : ∃ m, k = m + 1 := ⟨k - 1, by omega⟩
    obtain rfl : i = n := by omega
    simp only [credenzaref01_Power.l0]; rw [if_neg (by omega)]
  | succ d ih =>
    intro k i h hk
    obtain ⟨k, rfl⟩ : ∃ m, k = m + 1 := ⟨k - 1, by omega⟩
    have hD : (2 : Int) ^ i ≤ 2305843009213693952 := two_pow_61 (by omega)
    have hp := two_pow_pos i
    simp only [credenzaref01_Power.l0]
    rw [if_pos (by omega), w64 (2 ^ i * 2) (by omega) (by omega), w64 ((i : Int) + 1) (by omega) (by omega), show (2 : Int) ^ i * 2 = 2 ^ (i + 1) from by rw [two_pow_succ, Int.mul_comm], show (i : Int) + 1 = ((i + 1 : Nat) : Int) from by omega]
    exact ih k (i + 1) (by omega) (by omega)
theorem rpower_eq (n : Nat) (hn : n ≤ 62) (k : Nat) (hk : 63 ≤ k) : credenzaref01_Power.f k (n : Int) = some (2 ^ n) := by
  unfold credenzaref01_Power.f
  exact rpower_loop n hn n k 0 (by omega) (by omega)
theorem rhalf_eq (v n : Int) (h0 : -9223372036854775808 ≤ v) (h1 : v ≤ 9223372036854775807) (k : Nat) (hk : 63 ≤ k) : credenzaref01_Half.f k v n = some (rnd v (2 ^ pw n)) := by
  have hm : pw n ≤ 62 := by unfold pw mn mx; omega
  have hD : (2 : Int) ^ pw n ≤ 4611686018427387904 := two_pow_62 hm
  have hc : cutI n 0 62 = (pw n : Int) := by unfold pw mn mx cutI; omega
  unfold credenzaref01_Half.f
  rw [rcut_eq, hc]
  simp only [Option.bind_some]
  rw [rpower_eq _ hm k hk]
  simp only [Option.bind_some]
  rw [rratio_eq v _ h0 h1 (two_pow_pos _) (by omega)]
  rfl
/-- How many powers of two, with 16 bits behind the point. -/
def tOf (x : Int) : Int := rnd (mn x 0 * 94548) 65536
theorem tOf_range (x : Int) (hx : -2147483648 ≤ x ∧ x ≤ 2147483647) : -3098148864 ≤ tOf x ∧ tOf x ≤ 0 := by
  have h : -2147483648 ≤ mn x 0 ∧ mn x 0 ≤ 0 := by unfold mn; split <;> omega
  unfold tOf
  exact ⟨rnd_ge (by omega) (by omega), rnd_le (by omega) (by omega)⟩
def expI (x : Int) : Int := powC (tOf x)
theorem of2_eq (f : Int) (h0 : 0 ≤ f) (h1 : f ≤ 65536) : expo_of2.f f = some (of2 f) := by
  have p := of2_parts f h0 h1
  unfold expo_of2.f of2
  rw [w64 (f * 5180) (by omega) (by omega), w64 (14743 + f * 5180 / 65536) (by omega) (by omega), w64 (f * (14743 + f * 5180 / 65536)) (by omega) (by omega), w64 (45613 + f * (14743 + f * 5180 / 65536) / 65536) (by omega) (by omega), w64 (f * (45613 + f * (14743 + f * 5180 / 65536) / 65536)) (by omega) (by omega), w64 _ (by omega) (by omega)]
theorem exp_eq (x : Int) (hx : -2147483648 ≤ x ∧ x ≤ 2147483647) : expo_Exp.f x = some (expI x) := by
  have h : -2147483648 ≤ mn x 0 ∧ mn x 0 ≤ 0 := by unfold mn; split <;> omega
  have ht := tOf_range x hx
  unfold expo_Exp.f expI powC powT
  rw [w64 (mn x 0) (by omega) (by omega), w64 (mn x 0 * 94548) (by omega) (by omega), half_eq _ _ (by omega) (by omega), pw16]
  simp only [Option.bind_some]
  rw [show rnd (mn x 0 * 94548) 65536 = tOf x from rfl]
  generalize tOf x = t at *
  rw [w64 (-(t / 65536)) (by omega) (by omega), w64 (t / 65536 * 65536) (by omega) (by omega), show t - t / 65536 * 65536 = t % 65536 from by omega, w64 (t % 65536) (by omega) (by omega)]
  by_cases c : -(t / 65536) > 62
  · rw [if_pos c, if_pos c]
  · rw [if_neg c, if_neg c, of2_eq _ (by omega) (by omega)]
    simp only [Option.bind_some]
    have r := of2_range (t % 65536) (by omega) (by omega)
    rw [half_eq _ _ (by omega) (by omega), show pw (-(t / 65536)) = (-(t / 65536)).toNat from by unfold pw mn mx; (repeat' split) <;> omega]
    rfl
theorem expI_range (x : Int) (hx : -2147483648 ≤ x ∧ x ≤ 2147483647) : 0 ≤ expI x ∧ expI x ≤ 65536 := powC_range _ (tOf_range x hx).2
theorem tdiv_pos (a : Int) (h : 0 ≤ a) : Int.tdiv a 65536 = a / 65536 := Int.tdiv_eq_ediv_of_nonneg h
theorem rexp_j0 (x : Int) (hx : -2147483648 ≤ x ∧ x ≤ 0) (k : Nat) (hk : 64 ≤ k) : credenzaref02_Exp.j0 k x = some (powC (rnd (x * 94548) 65536)) := by
  obtain ⟨k, rfl⟩ : ∃ m, k = m + 1 := ⟨k - 1, by omega⟩
  have ht : -3098148864 ≤ rnd (x * 94548) 65536 ∧ rnd (x * 94548) 65536 ≤ 0 := ⟨rnd_ge (by omega) (by omega), rnd_le (by omega) (by omega)⟩
  simp only [credenzaref02_Exp.j0]
  unfold powC powT
  rw [w64 x (by omega) (by omega), w64 (x * 94548) (by omega) (by omega), rratio_eq _ _ (by omega) (by omega) (by omega) (by omega)]
  simp only [Option.bind_some]
  generalize rnd (x * 94548) 65536 = t at *
  rw [rfloor_eq t 65536 (by omega) (by omega) (by omega)]
  simp only [Option.bind_some]
  rw [w64 (-(t / 65536)) (by omega) (by omega), w64 (t / 65536 * 65536) (by omega) (by omega), show t - t / 65536 * 65536 = t % 65536 from by omega, w64 (t % 65536) (by omega) (by omega)]
  by_cases c : -(t / 65536) > 62
  · rw [if_pos c, if_pos c]
  · rw [if_neg c, if_neg c]
    have p := of2_parts (t % 65536) (by omega) (by omega)
    have r := of2_range (t % 65536) (by omega) (by omega)
    generalize hf : t % 65536 = f at *
    have h0 : 0 ≤ f := by omega
    have h1 : f < 65536 := by omega
    rw [w64 (f * 5180) (by omega) (by omega), tdiv_pos (f * 5180) (by omega), w64 (f * 5180 / 65536) (by omega) (by omega), w64 (14743 + f * 5180 / 65536) (by omega) (by omega), w64 (f * (14743 + f * 5180 / 65536)) (by omega) (by omega), tdiv_pos (f * (14743 + f * 5180 / 65536)) (by omega), w64 (f * (14743 + f * 5180 / 65536) / 65536) (by omega) (by omega), w64 (45613 + f * (14743 + f * 5180 / 65536) / 65536) (by omega) (by omega), w64 (f * (45613 + f * (14743 + f * 5180 / 65536) / 65536)) (by omega) (by omega), tdiv_pos (f * (45613 + f * (14743 + f * 5180 / 65536) / 65536)) (by omega), w64 (f * (45613 + f * (14743 + f * 5180 / 65536) / 65536) / 65536) (by omega) (by omega), w64 (65536 + f * (45613 + f * (14743 + f * 5180 / 65536) / 65536) / 65536) (by omega) (by omega)]
    rw [show 65536 + f * (45613 + f * (14743 + f * 5180 / 65536) / 65536) / 65536 = of2 f from rfl, rhalf_eq _ _ (by omega) (by omega) k (by omega), show pw (-(t / 65536)) = (-(t / 65536)).toNat from by unfold pw mn mx; (repeat' split) <;> omega]
    rfl
theorem rexp_eq (x : Int) (hx : -2147483648 ≤ x ∧ x ≤ 2147483647) (k : Nat) (hk : 64 ≤ k) : credenzaref02_Exp.f k x = some (expI x) := by
  unfold credenzaref02_Exp.f expI tOf
  by_cases c : x > 0
  · rw [if_pos c, rexp_j0 0 (by omega) k hk, show mn x 0 = 0 from by unfold mn; rw [if_pos (by omega)]]
  · rw [if_neg c, rexp_j0 x (by omega) k hk, show mn x 0 = x from by unfold mn; split <;> omega]
end Cz

theorem ExpoPowers : credenzalaw02_ExpoPowers.Pure := by
  intro x hx
  have hx := Cz.wf32 hx
  refine ⟨100, ?_⟩
  have aw : credenzalaw02_awake.f 100 = some true := by decide +kernel
  have r := Cz.expI_range x hx
  unfold credenzalaw02_ExpoPowers.f
  rw [Cz.exp_eq x hx, Cz.rexp_eq x hx 100 (by omega), aw]
  simp only [Option.bind_some, if_true]
  rw [if_pos r.1, if_pos r.2]

end Go.Proofs.Ytmndomlpdajjmaa.Pure
