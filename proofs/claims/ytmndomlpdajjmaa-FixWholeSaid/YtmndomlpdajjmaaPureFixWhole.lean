/- Any whole number is told, cut to the wide range; within it sums are those of the whole numbers. No condition: for every input. -/
import Derived.Test.YtmndomlpdajjmaaPFixWholex2
set_option linter.unusedVariables false
set_option linter.unusedSimpArgs false
namespace Go.Proofs.Ytmndomlpdajjmaa.Pure
open Go.RowKit Go.Proofs.Ytmndomlpdajjmaa.PFixWhole Go.Proofs.YtmndomlpdajjmaaW.PrintWords Go.Proofs.YtmndomlpdajjmaaW.PrintLast
namespace Cz

/-- Divided by d, rounded, a half to the even one. -/
def rnd (a d : Int) : Int :=
  if a % d > d - a % d then a / d + 1 else if a % d = d - a % d ∧ (a / d) % 2 = 1 then a / d + 1 else a / d

/-- What is promised of a rounded fraction. -/
def Near (a d r : Int) : Prop := 2 * (a - r * d) ≤ d ∧ -d ≤ 2 * (a - r * d) ∧ ((2 * (a - r * d) = d ∨ 2 * (a - r * d) = -d) → r % 2 = 0)

theorem rnd_near (a d : Int) (hd : 0 < d) : Near a d (rnd a d) := by
  have h1 := Int.emod_add_mul_ediv a d
  have h2 := Int.emod_nonneg a (by omega : d ≠ 0)
  have h3 := Int.emod_lt_of_pos a hd
  unfold Near rnd
  generalize a % d = m at *
  generalize a / d = q at *
  have e1 : (q + 1) * d = d * q + d := by rw [Int.add_mul, Int.one_mul, Int.mul_comm]
  have e2 : q * d = d * q := Int.mul_comm _ _
  generalize hk : d * q = k at *
  split
  · rw [e1]; omega
  · split
    · rw [e1]; omega
    · rw [e2]; omega

theorem near_le {a b d r s : Int} (hd : 0 < d) (ha : Near a d r) (hb : Near b d s) (h : a ≤ b) : r ≤ s := by
  obtain ⟨a1, a2, a3⟩ := ha
  obtain ⟨b1, b2, b3⟩ := hb
  by_cases hlt : s < r
  · exfalso
    obtain ⟨k, rfl⟩ : ∃ k : Int, r = s + 1 + k := ⟨r - s - 1, by omega⟩
    have hk : 0 ≤ k := by omega
    have e1 : (s + 1 + k) * d = s * d + d + k * d := by rw [Int.add_mul, Int.add_mul, Int.one_mul]
    rw [e1] at a1 a2 a3
    have hkd : 0 ≤ k * d := Int.mul_nonneg hk (by omega)
    generalize s * d = sd at *
    by_cases h0 : k = 0
    · subst h0
      rw [Int.zero_mul] at *
      have := a3 (by omega)
      have := b3 (by omega)
      omega
    · have : d ≤ k * d := by
        have := Int.mul_le_mul_of_nonneg_right (show (1 : Int) ≤ k by omega) (show 0 ≤ d by omega)
        omega
      generalize k * d = kd at *
      omega
  · omega

theorem near_unique {a d r s : Int} (hd : 0 < d) (ha : Near a d r) (hb : Near a d s) : r = s :=
  Int.le_antisymm (near_le hd ha hb (Int.le_refl a)) (near_le hd hb ha (Int.le_refl a))

theorem rnd_unique {a d r : Int} (hd : 0 < d) (h : Near a d r) : rnd a d = r := near_unique hd (rnd_near a d hd) h

theorem rnd_mono {a b d : Int} (hd : 0 < d) (h : a ≤ b) : rnd a d ≤ rnd b d := near_le hd (rnd_near a d hd) (rnd_near b d hd) h

theorem near_neg {a d r : Int} (h : Near a d r) : Near (-a) d (-r) := by
  obtain ⟨h1, h2, h3⟩ := h
  unfold Near
  rw [Int.neg_mul]
  generalize r * d = k at *
  omega

theorem rnd_neg (a d : Int) (hd : 0 < d) : rnd (-a) d = -rnd a d := rnd_unique hd (near_neg (rnd_near a d hd))

theorem rnd_mul (q d : Int) (hd : 0 < d) : rnd (q * d) d = q := by
  apply rnd_unique hd
  unfold Near
  rw [Int.sub_self]
  omega

theorem rnd_ge {a d q : Int} (hd : 0 < d) (h : q * d ≤ a) : q ≤ rnd a d := by
  have := rnd_mono hd h
  rwa [rnd_mul q d hd] at this

theorem rnd_le {a d q : Int} (hd : 0 < d) (h : a ≤ q * d) : rnd a d ≤ q := by
  have := rnd_mono hd h
  rwa [rnd_mul q d hd] at this

theorem rnd_one (a : Int) : rnd a 1 = a := by
  have := rnd_mul a 1 (by omega)
  rwa [Int.mul_one] at this



theorem rnd_two (a d : Int) (hd : 0 < d) : rnd (2 * a) (2 * d) = rnd a d := by
  apply rnd_unique (by omega)
  obtain ⟨h1, h2, h3⟩ := rnd_near a d hd
  unfold Near
  have e : rnd a d * (2 * d) = 2 * (rnd a d * d) := by rw [← Int.mul_assoc, Int.mul_comm (rnd a d) 2, Int.mul_assoc]
  rw [e]
  generalize rnd a d * d = k at *
  omega

theorem two_pow_pos (n : Nat) : (0 : Int) < 2 ^ n := Int.pow_pos (by omega)
theorem two_pow_le (m : Nat) (d : Nat) : (2 : Int) ^ m ≤ 2 ^ (m + d) := by
  induction d with
  | zero => exact Int.le_refl _
  | succ d ih =>
    have h := two_pow_pos (m + d)
    have e : (2 : Int) ^ (m + (d + 1)) = 2 * 2 ^ (m + d) := by rw [← Nat.add_assoc, Int.pow_succ, Int.mul_comm]
    omega
theorem two_pow_max {m n : Nat} (h : m ≤ n) : (2 : Int) ^ m ≤ 2 ^ n := by
  obtain ⟨d, rfl⟩ : ∃ d, n = m + d := ⟨n - m, by omega⟩
  exact two_pow_le m d
theorem two_pow_62 {m : Nat} (h : m ≤ 62) : (2 : Int) ^ m ≤ 4611686018427387904 := two_pow_max h
theorem two_pow_61 {m : Nat} (h : m ≤ 61) : (2 : Int) ^ m ≤ 2305843009213693952 := two_pow_max h
theorem two_pow_succ (n : Nat) : (2 : Int) ^ (n + 1) = 2 * 2 ^ n := by rw [Int.pow_succ, Int.mul_comm]

/-- 2 to a fraction. -/
def of2 (f : Int) : Int := 65536 + f * (45613 + f * (14743 + f * 5180 / 65536) / 65536) / 65536

theorem div_mono {a b : Int} (h : a ≤ b) : a / 65536 ≤ b / 65536 := by omega

theorem of2_parts (f : Int) (h0 : 0 ≤ f) (h1 : f ≤ 65536) :
    14743 ≤ 14743 + f * 5180 / 65536 ∧ 14743 + f * 5180 / 65536 ≤ 19923 ∧
    45613 ≤ 45613 + f * (14743 + f * 5180 / 65536) / 65536 ∧ 45613 + f * (14743 + f * 5180 / 65536) / 65536 ≤ 65536 ∧
    0 ≤ f * (14743 + f * 5180 / 65536) ∧ f * (14743 + f * 5180 / 65536) ≤ 65536 * 19923 ∧
    0 ≤ f * (45613 + f * (14743 + f * 5180 / 65536) / 65536) ∧ f * (45613 + f * (14743 + f * 5180 / 65536) / 65536) ≤ f * 65536 := by
  have b1 : 14743 ≤ 14743 + f * 5180 / 65536 := by omega
  have b2 : 14743 + f * 5180 / 65536 ≤ 19923 := by omega
  generalize 14743 + f * 5180 / 65536 = B at *
  have c1 : 0 ≤ f * B := Int.mul_nonneg h0 (by omega)
  have c2 : f * B ≤ 65536 * 19923 := Int.mul_le_mul h1 b2 (by omega) (by omega)
  have c3 : 45613 + f * B / 65536 ≤ 65536 := by omega
  have c4 : 45613 ≤ 45613 + f * B / 65536 := by omega
  refine ⟨b1, b2, c4, c3, c1, c2, Int.mul_nonneg h0 (by omega), Int.mul_le_mul_of_nonneg_left c3 h0⟩

theorem of2_range (f : Int) (h0 : 0 ≤ f) (h1 : f ≤ 65536) : 65536 ≤ of2 f ∧ of2 f ≤ 65536 + f := by
  have := of2_parts f h0 h1
  unfold of2
  omega

theorem of2_mono {f g : Int} (h0 : 0 ≤ f) (h : f ≤ g) (h1 : g ≤ 65536) : of2 f ≤ of2 g := by
  have pf := of2_parts f h0 (by omega)
  have pg := of2_parts g (by omega) h1
  unfold of2
  have b : 14743 + f * 5180 / 65536 ≤ 14743 + g * 5180 / 65536 := by omega
  have c : f * (14743 + f * 5180 / 65536) ≤ g * (14743 + g * 5180 / 65536) := Int.mul_le_mul h b (by omega) (by omega)
  have c' : 45613 + f * (14743 + f * 5180 / 65536) / 65536 ≤ 45613 + g * (14743 + g * 5180 / 65536) / 65536 := by omega
  have d : f * (45613 + f * (14743 + f * 5180 / 65536) / 65536) ≤ g * (45613 + g * (14743 + g * 5180 / 65536) / 65536) := Int.mul_le_mul h c' (by omega) (by omega)
  omega

theorem of2_next (f : Int) (h0 : 0 ≤ f) (h1 : f + 1 ≤ 65536) : of2 (f + 1) ≤ of2 f + 5 := by
  have pf := of2_parts f h0 (by omega)
  have pg := of2_parts (f + 1) (by omega) h1
  unfold of2
  have e1 : 14743 + (f + 1) * 5180 / 65536 ≤ 14743 + f * 5180 / 65536 + 1 := by omega
  generalize 14743 + f * 5180 / 65536 = B at *
  generalize 14743 + (f + 1) * 5180 / 65536 = B' at *
  have e2 : (f + 1) * B' ≤ f * B + f + B' := by
    have : (f + 1) * B' = f * B' + B' := by rw [Int.add_mul, Int.one_mul]
    have : f * B' ≤ f * (B + 1) := Int.mul_le_mul_of_nonneg_left e1 h0
    have : f * (B + 1) = f * B + f := by rw [Int.mul_add, Int.mul_one]
    omega
  have e3 : 45613 + (f + 1) * B' / 65536 ≤ 45613 + f * B / 65536 + 2 := by omega
  generalize 45613 + f * B / 65536 = A at *
  generalize 45613 + (f + 1) * B' / 65536 = A' at *
  have e4 : (f + 1) * A' ≤ f * A + 2 * f + A' := by
    have : (f + 1) * A' = f * A' + A' := by rw [Int.add_mul, Int.one_mul]
    have : f * A' ≤ f * (A + 2) := Int.mul_le_mul_of_nonneg_left e3 h0
    have : f * (A + 2) = f * A + 2 * f := by rw [Int.mul_add, Int.mul_comm f 2]
    omega
  omega

/-- The power of a t (n: how far down). -/
def powT (t : Int) : Int := rnd (of2 (t % 65536)) (2 ^ (-(t / 65536)).toNat)
/-- .. with what is too far down cut off. -/
def powC (t : Int) : Int := if -(t / 65536) > 62 then 0 else powT t

theorem rnd_halves (a : Int) (ha : 0 ≤ a) (n k : Nat) : rnd a (2 ^ (n + k)) ≤ rnd a (2 ^ n) := by
  induction k with
  | zero => exact Int.le_refl _
  | succ k ih =>
    refine Int.le_trans ?_ ih
    rw [← Nat.add_assoc, two_pow_succ, ← rnd_two a (2 ^ (n + k)) (two_pow_pos _)]
    exact rnd_mono (by have := two_pow_pos (n + k); omega) (by omega)

theorem powT_mono {t s : Int} (h : t ≤ s) (hs : s ≤ 0) : powT t ≤ powT s := by
  unfold powT
  by_cases he : t / 65536 = s / 65536
  · rw [he]
    exact rnd_mono (two_pow_pos _) (of2_mono (by omega) (by omega) (by omega))
  · obtain ⟨m, hm⟩ : ∃ m : Nat, (-(t / 65536)).toNat = (-(s / 65536)).toNat + m + 1 := ⟨(-(t / 65536)).toNat - (-(s / 65536)).toNat - 1, by omega⟩
    generalize (-(s / 65536)).toNat = n at *
    rw [hm]
    have r1 := of2_range (t % 65536) (by omega) (by omega)
    have r2 := of2_range (s % 65536) (by omega) (by omega)
    calc rnd (of2 (t % 65536)) (2 ^ (n + m + 1)) ≤ rnd (2 * 65536) (2 ^ (n + m + 1)) := rnd_mono (two_pow_pos _) (by omega)
      _ = rnd 65536 (2 ^ (n + m)) := by rw [two_pow_succ, rnd_two _ _ (two_pow_pos _)]
      _ ≤ rnd 65536 (2 ^ n) := rnd_halves _ (by omega) _ _
      _ ≤ rnd (of2 (s % 65536)) (2 ^ n) := rnd_mono (two_pow_pos _) r2.1

theorem powT_range (t : Int) (ht : t ≤ 0) : 0 ≤ powT t ∧ powT t ≤ 65536 := by
  constructor
  · unfold powT
    exact rnd_ge (two_pow_pos _) (by have := of2_range (t % 65536) (by omega) (by omega); omega)
  · have h := powT_mono ht (Int.le_refl 0)
    have : powT 0 = 65536 := by decide +kernel
    omega

theorem powC_mono {t s : Int} (h : t ≤ s) (hs : s ≤ 0) : powC t ≤ powC s := by
  have := powT_mono h hs
  have := powT_range s hs
  unfold powC
  split <;> split <;> omega

theorem powC_range (t : Int) (ht : t ≤ 0) : 0 ≤ powC t ∧ powC t ≤ 65536 := by
  have := powT_range t ht
  unfold powC
  split <;> omega

theorem powT_near (t : Int) : Near (of2 (t % 65536)) (2 ^ (-(t / 65536)).toNat) (powT t) := rnd_near _ _ (two_pow_pos _)

/-- Half as much, one power of two down. -/
theorem halves {p q D a b : Int} (hD : 1 ≤ D) (hpq : p ≤ q) (hq : q ≤ p + 5) (h2 : p = q ∨ 2 ≤ D) (ha : Near p D a) (hb : Near q (2 * D) b) : 2 * b - a ≤ 4 ∧ a - 2 * b ≤ 4 := by
  obtain ⟨a1, a2, -⟩ := ha
  obtain ⟨b1, b2, -⟩ := hb
  have e : b * (2 * D) = 2 * (b * D) := by rw [← Int.mul_assoc, Int.mul_comm b 2, Int.mul_assoc]
  rw [e] at b1 b2
  constructor
  · by_cases h : 2 * b - a ≤ 4
    · exact h
    · exfalso
      have := Int.mul_le_mul_of_nonneg_right (show 5 ≤ 2 * b - a by omega) (show 0 ≤ D by omega)
      rw [Int.sub_mul, Int.mul_assoc] at this
      generalize b * D = x at *
      generalize a * D = y at *
      omega
  · by_cases h : a - 2 * b ≤ 4
    · exact h
    · exfalso
      have := Int.mul_le_mul_of_nonneg_right (show 5 ≤ a - 2 * b by omega) (show 0 ≤ D by omega)
      rw [Int.sub_mul, Int.mul_assoc] at this
      generalize b * D = x at *
      generalize a * D = y at *
      omega

theorem powT_half {t s : Int} (ht : t ≤ -1) (hs : s = t - 65536 ∨ s = t - 65535) : 2 * powT s - powT t ≤ 4 ∧ powT t - 2 * powT s ≤ 4 := by
  have hD : ∃ m : Nat, (-(t / 65536)).toNat = m + 1 := ⟨(-(t / 65536)).toNat - 1, by omega⟩
  obtain ⟨m, hm⟩ := hD
  have hp := two_pow_pos m
  have na := powT_near t
  have nb := powT_near s
  rw [hm, two_pow_succ] at na
  rcases hs with rfl | rfl
  · have e1 : (t - 65536) % 65536 = t % 65536 := by omega
    have e2 : (-((t - 65536) / 65536)).toNat = m + 1 + 1 := by omega
    rw [e1, e2, two_pow_succ, two_pow_succ] at nb
    exact halves (by omega) (Int.le_refl _) (by omega) (Or.inl rfl) na nb
  · by_cases hw : t % 65536 = 65535
    · have e1 : (t - 65535) % 65536 = 0 := by omega
      have e2 : (-((t - 65535) / 65536)).toNat = m + 1 := by omega
      rw [e1, e2, two_pow_succ] at nb
      rw [hw] at na
      have v0 : of2 0 = 65536 := by decide +kernel
      have v1 : of2 65535 = 131069 ∨ of2 65535 = 131070 ∨ of2 65535 = 131071 := by decide +kernel
      rw [v0] at nb
      have nb' : Near 131072 (2 * (2 * 2 ^ m)) (powT (t - 65535)) := by
        obtain ⟨b1, b2, b3⟩ := nb
        unfold Near
        have e : powT (t - 65535) * (2 * (2 * 2 ^ m)) = 2 * (powT (t - 65535) * (2 * 2 ^ m)) := by rw [← Int.mul_assoc, Int.mul_comm _ 2, Int.mul_assoc]
        rw [e]
        generalize powT (t - 65535) * (2 * 2 ^ m) = k at *
        omega
      exact halves (by omega) (by omega) (by omega) (Or.inr (by omega)) na nb'
    · have e1 : (t - 65535) % 65536 = t % 65536 + 1 := by omega
      have e2 : (-((t - 65535) / 65536)).toNat = m + 1 + 1 := by omega
      rw [e1, e2, two_pow_succ, two_pow_succ] at nb
      exact halves (by omega) (of2_mono (by omega) (by omega) (by omega)) (of2_next _ (by omega) (by omega)) (Or.inr (by omega)) na nb



/-- r is the root of v. -/
def IsRoot (v r : Int) : Prop := 0 ≤ r ∧ r * r ≤ v ∧ v < (r + 1) * (r + 1)

theorem sq_le {a b : Int} (h0 : 0 ≤ a) (h : a ≤ b) : a * a ≤ b * b := Int.mul_le_mul h h h0 (by omega)

theorem root_le {v w r s : Int} (hr : IsRoot v r) (hs : IsRoot w s) (h : v ≤ w) : r ≤ s := by
  obtain ⟨r0, r1, r2⟩ := hr
  obtain ⟨s0, s1, s2⟩ := hs
  by_cases hlt : s < r
  · have := sq_le (by omega : 0 ≤ s + 1) (by omega : s + 1 ≤ r)
    omega
  · omega

theorem root_unique {v r s : Int} (hr : IsRoot v r) (hs : IsRoot v s) : r = s :=
  Int.le_antisymm (root_le hr hs (Int.le_refl v)) (root_le hs hr (Int.le_refl v))

theorem root_small {v r b : Int} (hr : IsRoot v r) (hb : 0 ≤ b) (h : v < (b + 1) * (b + 1)) : r ≤ b := by
  obtain ⟨r0, r1, r2⟩ := hr
  by_cases hlt : b < r
  · have := sq_le (by omega : 0 ≤ b + 1) (by omega : b + 1 ≤ r)
    omega
  · omega

/-- One bit of the root. -/
theorem root_bit {v x D : Int} (h : v < (x + 2 * D) * (x + 2 * D)) : v < (x + D + D) * (x + D + D) := by
  have : x + D + D = x + 2 * D := by omega
  rw [this]; exact h

theorem or_bit (x i : Nat) (h : x % 2 ^ (i + 1) = 0) : x ||| 2 ^ i = x + 2 ^ i := by
  obtain ⟨k, hk⟩ : ∃ k, x = 2 ^ (i + 1) * k := ⟨x / 2 ^ (i + 1), by have := Nat.div_add_mod x (2 ^ (i + 1)); omega⟩
  rw [hk, ← Nat.two_pow_add_eq_or_of_lt (by rw [Nat.pow_succ]; have := Nat.two_pow_pos i; omega)]



/-! ### The machine's words -/
theorem w64 (x : Int) (h0 : -9223372036854775808 ≤ x) (h1 : x ≤ 9223372036854775807) : wrap64 x = x := by unfold wrap64; omega
theorem w32 (x : Int) (h0 : -2147483648 ≤ x) (h1 : x ≤ 2147483647) : wrap32 x = x := by unfold wrap32; omega
theorem w64_sub (a b : Int) : wrap64 (a - wrap64 b) = wrap64 (a - b) := by unfold wrap64; omega
theorem wf64 {x : Int} (h : (Lit.int .i64 x).wf = true) : -9223372036854775808 ≤ x ∧ x ≤ 9223372036854775807 := by
  simp only [Lit.wf, IntKind.min, IntKind.max, IntKind.signed, IntKind.bits, Bool.and_eq_true, decide_eq_true_eq, if_true] at h
  omega
theorem wf32 {x : Int} (h : (Lit.int .i32 x).wf = true) : -2147483648 ≤ x ∧ x ≤ 2147483647 := by
  simp only [Lit.wf, IntKind.min, IntKind.max, IntKind.signed, IntKind.bits, Bool.and_eq_true, decide_eq_true_eq, if_true] at h
  omega
theorem and1 (x : Int) : Go.bits .and .i64 x 1 = x % 2 := by
  have h : (BitVec.ofInt 64 x &&& BitVec.ofInt 64 1).toNat = ((x % 2).toNat) := by
    have e : (BitVec.ofInt 64 1).toNat = 2 ^ 1 - 1 := by decide
    rw [BitVec.toNat_and, e, Nat.and_two_pow_sub_one_eq_mod, BitVec.toNat_ofInt]
    omega
  show IntKind.i64.wrap (((BitVec.ofInt 64 x &&& BitVec.ofInt 64 1).toNat : Nat) : Int) = _
  rw [h, IntKind.wrap_i64]
  omega
theorem up {α : Type} {f : Nat → Option α} (hm : ∀ k, LeO (f k) (f (k + 1))) {k0 : Nat} {r : α} (h : f k0 = some r) {k : Nat} (hk : k0 ≤ k) : f k = some r := by
  obtain ⟨d, rfl⟩ : ∃ d, k = k0 + d := ⟨k - k0, by omega⟩
  clear hk
  induction d with
  | zero => exact h
  | succ d ih => exact hm _ _ ih
theorem mul_bound {a b A B : Int} (ha : -A ≤ a) (ha' : a ≤ A) (hb : -B ≤ b) (hb' : b ≤ B) : -(A * B) ≤ a * b ∧ a * b ≤ A * B := by
  have h1 : 0 ≤ (A - a) * (B + b) := Int.mul_nonneg (by omega) (by omega)
  have h2 : 0 ≤ (A + a) * (B - b) := Int.mul_nonneg (by omega) (by omega)
  have h3 : 0 ≤ (A - a) * (B - b) := Int.mul_nonneg (by omega) (by omega)
  have h4 : 0 ≤ (A + a) * (B + b) := Int.mul_nonneg (by omega) (by omega)
  simp only [Int.sub_mul, Int.mul_sub, Int.add_mul, Int.mul_add] at h1 h2 h3 h4
  generalize A * B = p at *
  generalize a * b = q at *
  generalize A * b = r at *
  generalize a * B = s at *
  omega
theorem div_bound (v D : Int) (hD : 1 ≤ D) : (0 ≤ v → 0 ≤ v / D ∧ v / D ≤ v) ∧ (v < 0 → v ≤ v / D ∧ v / D < 0) := by
  have h1 := Int.emod_add_mul_ediv v D
  have h2 := Int.emod_nonneg v (by omega : D ≠ 0)
  have h3 := Int.emod_lt_of_pos v (by omega : 0 < D)
  constructor
  · intro h
    exact ⟨Int.ediv_nonneg h (by omega), Int.ediv_le_self D h⟩
  · intro h
    have hn : v / D < 0 := Int.ediv_neg_of_neg_of_pos h (by omega)
    have : (v / D + 1) * (D - 1) ≤ 0 := Int.mul_nonpos_of_nonpos_of_nonneg (by omega) (by omega)
    rw [Int.mul_sub, Int.mul_one, Int.add_mul, Int.one_mul, Int.mul_comm (v / D)] at this
    omega
theorem div_half (v D : Int) (hD : 2 ≤ D) (h0 : -9223372036854775808 ≤ v) (h1 : v ≤ 9223372036854775807) : -4611686018427387904 ≤ v / D ∧ v / D ≤ 4611686018427387903 := by
  constructor
  · exact Int.le_ediv_of_mul_le (by omega) (by omega)
  · have : v / D < 4611686018427387904 := Int.ediv_lt_of_lt_mul (by omega) (by omega)
    omega
/-- Cut to a range. -/
def cutI (v lo hi : Int) : Int := if v < lo then lo else if v > hi then hi else v
def wide (v : Int) : Int := cutI v (-2147483648) 2147483647
def narrow (v : Int) : Int := cutI v (-8388608) 8388608
theorem wide_range (v : Int) : -2147483648 ≤ wide v ∧ wide v ≤ 2147483647 := by unfold wide cutI; omega
theorem narrow_range (v : Int) : -8388608 ≤ narrow v ∧ narrow v ≤ 8388608 := by unfold narrow cutI; omega

/-! ### What the program's functions tell -/
theorem cut_eq (v lo hi : Int) (h0 : -2147483648 ≤ lo) (h1 : lo ≤ hi) (h2 : hi ≤ 2147483647) : fix_cut.f v lo hi = some (cutI v lo hi) := by
  unfold fix_cut.f cutI mn mx wrap32
  congr 1
  split <;> split <;> (try split) <;> (try split) <;> omega
theorem wide_eq (v : Int) : fix_Wide.f v = some (wide v) := by
  unfold fix_Wide.f
  rw [cut_eq _ _ _ (by omega) (by omega) (by omega)]; rfl
theorem narrow_eq (v : Int) : fix_Narrow.f v = some (narrow v) := by
  unfold fix_Narrow.f
  rw [cut_eq _ _ _ (by omega) (by omega) (by omega)]; rfl
theorem half_core (v : Int) (m : Nat) (hm : m ≤ 62) (h0 : -9223372036854775808 ≤ v) (h1 : v ≤ 9223372036854775807) :
    (if (wrap64 (v - (wrap64 ((v / 2 ^ m) * 2 ^ m)))) > ((wrap64 (2 ^ m)) / 2) then (some (wrap64 ((v / 2 ^ m) + 1))) else (if (wrap64 (v - (wrap64 ((v / 2 ^ m) * 2 ^ m)))) = ((wrap64 (2 ^ m)) / 2) then (if (m : Int) > 0 then (if (v / 2 ^ m) % 2 = 1 then (some (wrap64 ((v / 2 ^ m) + 1))) else (some (v / 2 ^ m))) else (some (v / 2 ^ m))) else (some (v / 2 ^ m)))) = some (rnd v (2 ^ m)) := by
  have hD : (2 : Int) ^ m ≤ 4611686018427387904 := two_pow_62 hm
  have hp := two_pow_pos m
  have e1 := Int.emod_add_mul_ediv v (2 ^ m)
  have e2 := Int.emod_nonneg v (by omega : (2 : Int) ^ m ≠ 0)
  have e3 := Int.emod_lt_of_pos v hp
  have e4 : v - (v / 2 ^ m) * 2 ^ m = v % 2 ^ m := by rw [Int.mul_comm]; omega
  rw [w64_sub, e4, w64 (v % 2 ^ m) (by omega) (by omega), w64 (2 ^ m) (by omega) (by omega)]
  rcases Nat.eq_zero_or_pos m with rfl | hpos
  · have e5 : v % 2 ^ 0 = 0 := by rw [Int.pow_zero]; omega
    rw [e5, Int.pow_zero, Int.ediv_one, rnd_one, if_neg (by decide), if_pos (by decide), if_neg (by decide)]
  · obtain ⟨n, rfl⟩ : ∃ n, m = n + 1 := ⟨m - 1, by omega⟩
    have hq := div_half v (2 ^ (n + 1)) (by have := two_pow_pos n; rw [two_pow_succ]; omega) h0 h1
    rw [w64 (v / 2 ^ (n + 1) + 1) (by omega) (by omega)]
    unfold rnd
    have e6 : (2 : Int) ^ (n + 1) / 2 = 2 ^ n := by rw [two_pow_succ]; omega
    have e7 := two_pow_succ n
    rw [e6]
    generalize v % 2 ^ (n + 1) = r at *
    generalize v / 2 ^ (n + 1) = q at *
    rw [e7]
    generalize (2 : Int) ^ n = d at *
    clear e1 e4 e6
    repeat' split
    all_goals first | rfl | (exfalso; omega)
/-- Half's power. -/
def pw (n : Int) : Nat := (mn (mx n 0) 62).toNat
theorem half_eq (v n : Int) (h0 : -9223372036854775808 ≤ v) (h1 : v ≤ 9223372036854775807) : fix_Half.f v n = some (rnd v (2 ^ pw n)) := by
  have hm : pw n ≤ 62 := by unfold pw mn mx; omega
  have := half_core v (pw n) hm h0 h1
  unfold fix_Half.f
  simp only [and1]
  rw [show (mn (mx n 0) 62 : Int) = (pw n : Int) from by unfold pw mn mx; omega]
  exact this
theorem pw_of (n : Nat) (h : n ≤ 62) : pw (n : Int) = n := by unfold pw mn mx; omega
theorem tdiv_eq (a b : Int) (hb : 0 < b) : Int.tdiv a b = if a < 0 ∧ a % b ≠ 0 then a / b + 1 else a / b := by
  rw [Int.tdiv_eq_ediv]
  have hs : b.sign = 1 := Int.sign_eq_one_of_pos hb
  have hd : b ∣ a ↔ a % b = 0 := ⟨Int.emod_eq_zero_of_dvd, Int.dvd_of_emod_eq_zero⟩
  by_cases c : a < 0 ∧ a % b ≠ 0
  · rw [if_pos c, if_neg (by rw [hd]; omega), hs]
  · rw [if_neg c, if_pos (by rw [hd]; omega)]; omega
theorem tmod_eq (a b : Int) (hb : 0 < b) : Int.tmod a b = if a < 0 ∧ a % b ≠ 0 then a % b - b else a % b := by
  have h1 := Int.tmod_add_mul_tdiv a b
  have h2 := Int.emod_add_mul_ediv a b
  rw [tdiv_eq a b hb] at h1
  split at h1
  · rename_i c
    rw [if_pos c]
    rw [Int.mul_add, Int.mul_one] at h1
    omega
  · rename_i c
    rw [if_neg c]
    omega
theorem ratio_eq (a b : Int) (h0 : -9223372036854775808 ≤ a) (h1 : a ≤ 9223372036854775807) (hb : 0 < b) (hb1 : b ≤ 9223372036854775807) : fix_Ratio.f a b = some (rnd a b) := by
  have e2 := Int.emod_nonneg a (by omega : b ≠ 0)
  have e3 := Int.emod_lt_of_pos a hb
  have hq := div_bound a b (by omega)
  have hq2 := fun h => div_half a b h h0 h1
  unfold fix_Ratio.f rnd
  rw [if_neg (by omega), if_neg (by omega), tdiv_eq a b hb, tmod_eq a b hb]
  simp only [and1]
  generalize a % b = r at *
  generalize a / b = q at *
  by_cases c : a < 0 ∧ r ≠ 0
  · rw [if_pos c, if_pos c, if_pos (by omega), w64 (q + 1) (by omega) (by omega), show q + 1 - 1 = q from by omega, w64 q (by omega) (by omega), show r - b + b = r from by omega, w64 r (by omega) (by omega), w64 (b - r) (by omega) (by omega), w64 (q + 1) (by omega) (by omega)]
    repeat' split
    all_goals first | rfl | (exfalso; omega)
  · rw [if_neg c, if_neg c, if_neg (by omega), w64 q (by omega) (by omega), w64 (b - r) (by omega) (by omega)]
    by_cases c1 : 2 ≤ b
    · rw [w64 (q + 1) (by omega) (by omega)]
      repeat' split
      all_goals first | rfl | (exfalso; omega)
    · repeat' split
      all_goals first | rfl | (exfalso; omega)
theorem ratio_none (a b : Int) (hb : b ≤ 0) : fix_Ratio.f a b = some 0 := by
  unfold fix_Ratio.f; rw [if_pos hb]

theorem add_eq (a b : Int) (ha : -2147483648 ≤ a ∧ a ≤ 2147483647) (hb : -2147483648 ≤ b ∧ b ≤ 2147483647) : fix_Add.f a b = some (wide (a + b)) := by
  unfold fix_Add.f
  rw [w64 a (by omega) (by omega), w64 b (by omega) (by omega), w64 (a + b) (by omega) (by omega), wide_eq]; rfl
theorem sub_eq (a b : Int) (ha : -2147483648 ≤ a ∧ a ≤ 2147483647) (hb : -2147483648 ≤ b ∧ b ≤ 2147483647) : fix_Sub.f a b = some (wide (a - b)) := by
  unfold fix_Sub.f
  rw [w64 a (by omega) (by omega), w64 b (by omega) (by omega), w64 (a - b) (by omega) (by omega), wide_eq]; rfl
theorem pw16 : (2 : Int) ^ pw 16 = 65536 := by decide
def mulI (a b : Int) : Int := wide (rnd (a * b) 65536)
theorem mul_range (a b : Int) (ha : -2147483648 ≤ a ∧ a ≤ 2147483647) (hb : -2147483648 ≤ b ∧ b ≤ 2147483647) : -4611686018427387904 ≤ a * b ∧ a * b ≤ 4611686018427387904 :=
  mul_bound (A := 2147483648) (B := 2147483648) (by omega) (by omega) (by omega) (by omega)
theorem mul_eq (a b : Int) (ha : -2147483648 ≤ a ∧ a ≤ 2147483647) (hb : -2147483648 ≤ b ∧ b ≤ 2147483647) : fix_Mul.f a b = some (mulI a b) := by
  have h := mul_range a b ha hb
  unfold fix_Mul.f
  rw [w64 a (by omega) (by omega), w64 b (by omega) (by omega), w64 (a * b) (by omega) (by omega), half_eq _ _ (by omega) (by omega), pw16]
  simp only [Option.bind_some]
  rw [wide_eq]; rfl
def divI (a b : Int) : Int := if b = 0 then wide (a * 4294967296) else if b < 0 then wide (rnd (a * (-65536)) (-b)) else wide (rnd (a * 65536) b)
theorem div_eq (a b : Int) (ha : -2147483648 ≤ a ∧ a ≤ 2147483647) (hb : -2147483648 ≤ b ∧ b ≤ 2147483647) (k : Nat) (hk : 3 ≤ k) : fix_Div.f k a b = some (divI a b) := by
  obtain ⟨k, rfl⟩ : ∃ m, k = m + 3 := ⟨k - 3, by omega⟩
  unfold fix_Div.f divI
  rw [w64 a (by omega) (by omega), w64 b (by omega) (by omega), w64 (a * 65536) (by omega) (by omega), w64 (-(a * 65536)) (by omega) (by omega), w64 (-b) (by omega) (by omega)]
  by_cases c0 : b = 0
  · subst c0
    rw [if_neg (by omega), if_pos rfl, if_pos rfl]
    simp only [fix_Div.j0]
    by_cases c1 : a > 0
    · rw [if_pos (by simpa using c1)]
      unfold wide cutI; rw [if_neg (by omega), if_pos (by omega)]
    · rw [if_neg (by simpa using c1), if_pos trivial]
      simp only [fix_Div.j1]
      by_cases c2 : a < 0
      · rw [if_pos (by simpa using c2)]
        unfold wide cutI; rw [if_pos (by omega)]
      · rw [if_neg (by simpa using c2), ratio_none _ _ (by omega)]
        simp only [Option.bind_some]
        rw [wide_eq, show a * 4294967296 = 0 from by omega]; rfl
  · rw [if_neg c0, if_neg c0]
    by_cases c1 : b < 0
    · rw [if_pos c1, if_pos c1, ratio_eq _ _ (by omega) (by omega) (by omega) (by omega), show -(a * 65536) = a * (-65536) from by omega]
      simp only [Option.bind_some]
      rw [wide_eq]; rfl
    · rw [if_neg c1, if_neg c1]
      simp only [fix_Div.j0]
      rw [if_neg (by decide), if_neg c0]
      simp only [fix_Div.j1]
      rw [if_neg (by decide), ratio_eq _ _ (by omega) (by omega) (by omega) (by omega)]
      simp only [Option.bind_some]
      rw [wide_eq]; rfl

def ofI (n : Int) : Int := if n > 32767 then 2147483647 else if n < -32768 then -2147483648 else n * 65536
theorem of_eq (n : Int) : fix_Of.f n = some (ofI n) := by
  unfold fix_Of.f
  rw [wide_eq]
  show some (wide _) = some (ofI n)
  congr 1
  unfold wide cutI ofI mn mx
  repeat' split
  all_goals omega

end Cz

theorem FixWhole : credenzalaw01_FixWhole.Pure := by
  intro n m hn hm
  have hn := Cz.wf64 hn
  have hm := Cz.wf64 hm
  refine ⟨102, ?_⟩
  have aw : credenzalaw01_awake.f 100 = some true := by decide +kernel
  have J1 : credenzalaw01_FixWhole.j1 101 n m true = some true := by
    simp only [credenzalaw01_FixWhole.j1]
    rw [if_pos trivial, aw]; rfl
  have J0 : credenzalaw01_FixWhole.j0 102 n m false = some true := by
    simp only [credenzalaw01_FixWhole.j0]
    rw [if_neg (by decide)]
    by_cases c0 : n > 8000
    · rw [if_pos c0]; exact J1
    rw [if_neg c0]
    by_cases c1 : n < (-8000)
    · rw [if_pos c1]; exact J1
    rw [if_neg c1]
    by_cases c2 : m > 8000
    · rw [if_pos c2]; exact J1
    rw [if_neg c2]
    by_cases c3 : m < (-8000)
    · rw [show decide (m < (-8000)) = true from by simpa using c3]; exact J1
    rw [show decide (m < (-8000)) = false from by simpa using c3]
    have on : Cz.ofI n = n * 65536 := by unfold Cz.ofI; rw [if_neg (by omega), if_neg (by omega)]
    have om : Cz.ofI m = m * 65536 := by unfold Cz.ofI; rw [if_neg (by omega), if_neg (by omega)]
    have onm : Cz.ofI (n + m) = (n + m) * 65536 := by unfold Cz.ofI; rw [if_neg (by omega), if_neg (by omega)]
    have wnm : Cz.wide (n * 65536 + m * 65536) = (n + m) * 65536 := by unfold Cz.wide Cz.cutI; rw [if_neg (by omega), if_neg (by omega)]; omega
    simp only [credenzalaw01_FixWhole.j1]
    rw [if_neg (by decide), Cz.of_eq, Cz.of_eq, Cz.w64 (n + m) (by omega) (by omega), Cz.of_eq, on, om, onm]
    simp only [Option.bind_some]
    rw [Cz.add_eq _ _ (by omega) (by omega), wnm]
    simp only [Option.bind_some, if_true]
    rw [aw]
    by_cases d0 : n > 100
    · rw [if_pos d0]; rfl
    rw [if_neg d0]
    by_cases d1 : n < (-100)
    · rw [if_pos d1]; rfl
    rw [if_neg d1]
    by_cases d2 : m > 100
    · rw [if_pos d2]; rfl
    rw [if_neg d2]
    by_cases d3 : m < (-100)
    · rw [if_pos d3]; rfl
    rw [if_neg d3]
    have hp := Cz.mul_bound (a := n) (b := m) (A := 100) (B := 100) (by omega) (by omega) (by omega) (by omega)
    have ep : n * 65536 * (m * 65536) = n * m * 65536 * 65536 := by
      rw [Int.mul_assoc, ← Int.mul_assoc 65536 m, Int.mul_comm 65536 m, ← Int.mul_assoc, ← Int.mul_assoc]
    have onm : Cz.ofI (n * m) = n * m * 65536 := by unfold Cz.ofI; rw [if_neg (by omega), if_neg (by omega)]
    have mnm : Cz.mulI (n * 65536) (m * 65536) = n * m * 65536 := by
      unfold Cz.mulI
      rw [ep, Cz.rnd_mul _ _ (by omega)]
      unfold Cz.wide Cz.cutI; rw [if_neg (by omega), if_neg (by omega)]
    rw [Cz.mul_eq _ _ (by omega) (by omega), Cz.w64 (n * m) (by omega) (by omega), Cz.of_eq, onm, mnm]
    simp only [Option.bind_some, if_true]
  have h1 : n > 32767 → Cz.ofI n = 2147483647 := by intro h; unfold Cz.ofI; rw [if_pos h]
  have h2 : n < -32768 → Cz.ofI n = -2147483648 := by intro h; unfold Cz.ofI; rw [if_neg (by omega), if_pos h]
  have h3 : n ≤ 32767 → n ≥ -32768 → (wrap64 (Cz.ofI n) != wrap64 (n * 65536)) = false := by
    intro a b
    have : Cz.ofI n = n * 65536 := by unfold Cz.ofI; rw [if_neg (by omega), if_neg (by omega)]
    rw [this]; simp
  unfold credenzalaw01_FixWhole.f
  rw [Cz.of_eq]
  simp only [Option.bind_some]
  repeat' split
  all_goals first | exact J0 | (rw [h3 (by assumption) (by assumption)]; exact J0) | (exfalso; omega) | (exfalso; have := h1 (by assumption); contradiction) | (exfalso; have := h2 (by assumption); contradiction)

end Go.Proofs.Ytmndomlpdajjmaa.Pure
