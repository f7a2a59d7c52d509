/- Any whole number has the root that the document says: its square isn't above it, that of the next one is; a square's is the number. No condition: for every input. -/
import Derived.Test.YtmndomlpdajjmaaQx1
import Derived.Test.YtmndomlpdajjmaaQx2
import Derived.Test.YtmndomlpdajjmaaQx3
set_option linter.unusedVariables false
set_option linter.unusedSimpArgs false
namespace Go.Proofs.Ytmndomlpdajjmaa.Pure
open Go.RowKit Go.Proofs.Ytmndomlpdajjmaa.Q Go.Proofs.YtmndomlpdajjmaaW.PrintWords Go.Proofs.YtmndomlpdajjmaaW.PrintLast
namespace Cz
theorem two_pow_pos (n : Nat) : (0 : Int) < 2 ^ n := Int.pow_pos (by omega)
theorem two_pow_le (m : Nat) (d : Nat) : (2 : Int) ^ m ≤ 2 ^ (m + d) := by
  induction d with
  | zero => exact Int.le_refl _
  | succ d ih =>
    have h := two_pow_pos (m + d)
    have e : (2 : Int) ^ (m + (d + 1)) = 2 * 2 ^ (m + d) := by rw [← Nat.add_assoc, Int.pow_succ, Int.mul_comm]
    omega
theorem two_pow_max {m n : Nat} (h : m ≤ n) : (2 : Int) ^ m ≤ 2 ^ n := by
  obtain ⟨d, rfl⟩ : ∃ d, n = m + d := ⟨n - m, by omega⟩
  exact two_pow_le m d
theorem two_pow_succ (n : Nat) : (2 : Int) ^ (n + 1) = 2 * 2 ^ n := by rw [Int.pow_succ, Int.mul_comm]
/-- r is the root of v. -/
def IsRoot (v r : Int) : Prop := 0 ≤ r ∧ r * r ≤ v ∧ v < (r + 1) * (r + 1)
theorem sq_le {a b : Int} (h0 : 0 ≤ a) (h : a ≤ b) : a * a ≤ b * b := Int.mul_le_mul h h h0 (by omega)
theorem root_le {v w r s : Int} (hr : IsRoot v r) (hs : IsRoot w s) (h : v ≤ w) : r ≤ s := by
  obtain ⟨r0, r1, r2⟩ := hr
  obtain ⟨s0, s1, s2⟩ := hs
  by_cases hlt : s < r
  · have := sq_le (by omega : 0 ≤ s + 1) (by omega : s + 1 ≤ r)
    omega
  · omega
theorem root_unique {v r s : Int} (hr : IsRoot v r) (hs : IsRoot v s) : r = s :=
  Int.le_antisymm (root_le hr hs (Int.le_refl v)) (root_le hs hr (Int.le_refl v))
/-- One bit of the root. -/
theorem root_bit {v x D : Int} (h : v < (x + 2 * D) * (x + 2 * D)) : v < (x + D + D) * (x + D + D) := by
  have : x + D + D = x + 2 * D := by omega
  rw [this]; exact h
theorem w64 (x : Int) (h0 : -9223372036854775808 ≤ x) (h1 : x ≤ 9223372036854775807) : wrap64 x = x := by unfold wrap64; omega
theorem u64w (n : Int) (h0 : 0 ≤ n) (h1 : n < 18446744073709551616) : IntKind.u64.wrap n = n := by
  have : IntKind.u64.wrap n = n % 18446744073709551616 := by simp [IntKind.wrap, IntKind.bits, IntKind.signed]
  rw [this]; omega
theorem wraps_u64 (n : Int) (h0 : 0 ≤ n) (h1 : n < 2 ^ 64) : IntKind.u64.wrap n = n := u64w n h0 h1
set_option maxRecDepth 100000 in
def tab : ByteArray := ⟨#[0, 1, 2, 2, 3, 3, 3, 3, 4, 4, 4, 4, 4, 4, 4, 4, 5, 5, 5, 5, 5, 5, 5, 5, 5, 5, 5, 5, 5, 5, 5, 5, 6, 6, 6, 6, 6, 6, 6, 6, 6, 6, 6, 6, 6, 6, 6, 6, 6, 6, 6, 6, 6, 6, 6, 6, 6, 6, 6, 6, 6, 6, 6, 6, 7, 7, 7, 7, 7, 7, 7, 7, 7, 7, 7, 7, 7, 7, 7, 7, 7, 7, 7, 7, 7, 7, 7, 7, 7, 7, 7, 7, 7, 7, 7, 7, 7, 7, 7, 7, 7, 7, 7, 7, 7, 7, 7, 7, 7, 7, 7, 7, 7, 7, 7, 7, 7, 7, 7, 7, 7, 7, 7, 7, 7, 7, 7, 7, 8, 8, 8, 8, 8, 8, 8, 8, 8, 8, 8, 8, 8, 8, 8, 8, 8, 8, 8, 8, 8, 8, 8, 8, 8, 8, 8, 8, 8, 8, 8, 8, 8, 8, 8, 8, 8, 8, 8, 8, 8, 8, 8, 8, 8, 8, 8, 8, 8, 8, 8, 8, 8, 8, 8, 8, 8, 8, 8, 8, 8, 8, 8, 8, 8, 8, 8, 8, 8, 8, 8, 8, 8, 8, 8, 8, 8, 8, 8, 8, 8, 8, 8, 8, 8, 8, 8, 8, 8, 8, 8, 8, 8, 8, 8, 8, 8, 8, 8, 8, 8, 8, 8, 8, 8, 8, 8, 8, 8, 8, 8, 8, 8, 8, 8, 8, 8, 8, 8, 8, 8, 8, 8, 8, 8, 8, 8, 8]⟩
set_option maxRecDepth 100000 in
theorem tab_all : ∀ i : Fin 256, 0 ≤ bt tab (i.val : Int) ∧ bt tab (i.val : Int) ≤ 8 ∧ i.val < 2 ^ (bt tab (i.val : Int)).toNat := by decide +kernel
theorem tab_ok (i : Int) (h0 : 0 ≤ i) (h1 : i < 256) : ∃ t : Nat, bt tab i = (t : Int) ∧ t ≤ 8 ∧ i + 1 ≤ 2 ^ t := by
  obtain ⟨n, rfl⟩ := Int.eq_ofNat_of_zero_le h0
  obtain ⟨a, b, c⟩ := tab_all ⟨n, by omega⟩
  simp only at a b c
  refine ⟨(bt tab (n : Int)).toNat, by omega, by omega, ?_⟩
  have : ((n + 1 : Nat) : Int) ≤ ((2 ^ (bt tab (n : Int)).toNat : Nat) : Int) := by exact Int.ofNat_le.mpr c
  rwa [Int.natCast_pow] at this
theorem two_pow_split (a b : Nat) : (2 : Int) ^ (a + b) = 2 ^ a * 2 ^ b := Int.pow_add 2 a b
set_option maxRecDepth 100000 in
theorem len_j0 (k : Nat) (x n : Int) (h0 : 0 ≤ x) (h1 : x < 4294967296) (hn : 0 ≤ n) (hn1 : n ≤ 32) : ∃ m : Nat, bits_Len64.j0 (k + 1) x n = some (n + m) ∧ m ≤ 32 ∧ x < 2 ^ m := by
  have hu : bits_Len64.j0 (k + 1) x n = if x ≥ 65536 then (if (x / 65536) ≥ 256 then (if 0 ≤ (((x / 65536) / 256) % 256) then (if (((x / 65536) / 256) % 256) < 256 then (some (wrap64 ((wrap64 ((wrap64 (n + 16)) + 8)) + (wrap64 (bt tab (((x / 65536) / 256) % 256)))))) else (none)) else (none)) else (if 0 ≤ ((x / 65536) % 256) then (if ((x / 65536) % 256) < 256 then (some (wrap64 ((wrap64 (n + 16)) + (wrap64 (bt tab ((x / 65536) % 256)))))) else (none)) else (none))) else (if x ≥ 256 then (if 0 ≤ ((x / 256) % 256) then (if ((x / 256) % 256) < 256 then (some (wrap64 ((wrap64 (n + 8)) + (wrap64 (bt tab ((x / 256) % 256)))))) else (none)) else (none)) else (if 0 ≤ (x % 256) then (if (x % 256) < 256 then (some (wrap64 (n + (wrap64 (bt tab (x % 256)))))) else (none)) else (none))) := rfl
  rw [hu]
  clear hu
  rw [w64 (n + 16) (by omega) (by omega), w64 (n + 16 + 8) (by omega) (by omega), w64 (n + 8) (by omega) (by omega)]
  by_cases c1 : x ≥ 65536
  · rw [if_pos c1]
    by_cases c2 : x / 65536 ≥ 256
    · obtain ⟨t, et, ht, hx⟩ := tab_ok (x / 65536 / 256 % 256) (by omega) (by omega)
      rw [if_pos c2, if_pos (by omega), if_pos (by omega), et, w64 (t : Int) (by omega) (by omega), w64 _ (by omega) (by omega)]
      refine ⟨24 + t, by congr 1; omega, by omega, ?_⟩
      rw [two_pow_split]
      generalize (2 : Int) ^ t = p at *
      have : (2 : Int) ^ 24 = 16777216 := rfl
      omega
    · obtain ⟨t, et, ht, hx⟩ := tab_ok (x / 65536 % 256) (by omega) (by omega)
      rw [if_neg c2, if_pos (by omega), if_pos (by omega), et, w64 (t : Int) (by omega) (by omega), w64 _ (by omega) (by omega)]
      refine ⟨16 + t, by congr 1; omega, by omega, ?_⟩
      rw [two_pow_split]
      generalize (2 : Int) ^ t = p at *
      have : (2 : Int) ^ 16 = 65536 := rfl
      omega
  · rw [if_neg c1]
    by_cases c2 : x ≥ 256
    · obtain ⟨t, et, ht, hx⟩ := tab_ok (x / 256 % 256) (by omega) (by omega)
      rw [if_pos c2, if_pos (by omega), if_pos (by omega), et, w64 (t : Int) (by omega) (by omega), w64 _ (by omega) (by omega)]
      refine ⟨8 + t, by congr 1; omega, by omega, ?_⟩
      rw [two_pow_split]
      generalize (2 : Int) ^ t = p at *
      have : (2 : Int) ^ 8 = 256 := rfl
      omega
    · obtain ⟨t, et, ht, hx⟩ := tab_ok (x % 256) (by omega) (by omega)
      rw [if_neg c2, if_pos (by omega), if_pos (by omega), et, w64 (t : Int) (by omega) (by omega), w64 _ (by omega) (by omega)]
      exact ⟨t, rfl, by omega, by omega⟩
theorem len_ok (k : Nat) (v : Int) (h0 : 0 ≤ v) (h1 : v < 18446744073709551616) : ∃ m : Nat, bits_Len64.f (k + 1) v = some (m : Int) ∧ m ≤ 64 ∧ v < 2 ^ m := by
  unfold bits_Len64.f
  by_cases c : v ≥ 4294967296
  · rw [if_pos c]
    obtain ⟨m, e, hm, hx⟩ := len_j0 k (v / 4294967296) 32 (by omega) (by omega) (by omega) (by omega)
    refine ⟨32 + m, by rw [e]; congr 1, by omega, ?_⟩
    rw [two_pow_split]
    generalize (2 : Int) ^ m = p at *
    have : (2 : Int) ^ 32 = 4294967296 := rfl
    omega
  · rw [if_neg c]
    obtain ⟨m, e, hm, hx⟩ := len_j0 k v 0 (by omega) (by omega) (by omega) (by omega)
    exact ⟨m, by rw [e, Int.zero_add], by omega, hx⟩
theorem root_loop (v : Int) (hv : v < 18446744073709551616) (d : Nat) : ∀ (k : Nat) (x : Int), d < k → d ≤ 32 → 0 ≤ x → x % 2 ^ d = 0 → x + 2 ^ d ≤ 4294967296 → x * x ≤ v → v < (x + 2 ^ d) * (x + 2 ^ d) →
    ∃ r, expo_Root.l0 k v x ((d : Int) - 1) = some r ∧ IsRoot v r ∧ r ≤ 4294967295 := by
  induction d with
  | zero =>
    intro k x hk _ hx _ hb h1 h2
    obtain ⟨k, rfl⟩ : ∃ m, k = m + 1 := ⟨k - 1, by omega⟩
    rw [Int.pow_zero] at hb h2
    refine ⟨x, ?_, ⟨hx, h1, h2⟩, by omega⟩
    simp only [expo_Root.l0]
    rw [if_neg (by omega)]
  | succ d ih =>
    intro k x hk hd hx hm hb h1 h2
    obtain ⟨k, rfl⟩ : ∃ m, k = m + 1 := ⟨k - 1, by omega⟩
    have hp := two_pow_pos d
    have e2 := two_pow_succ d
    have hl : (2 : Int) ^ d ≤ 2147483648 := two_pow_max (n := 31) (by omega)
    have hs : shl .u64 1 (d : Int) = 2 ^ d := by
      unfold shl
      rw [Int.one_mul, show min (d : Int).toNat IntKind.u64.bits = d from by simp only [IntKind.bits]; omega]
      exact u64w _ (by omega) (by omega)
    have ho : Go.bits .or .u64 x (2 ^ d) = x + 2 ^ d :=
      bits_join .u64 64 (by decide) wraps_u64 (d + 1) x (2 ^ d) hx hm (by have : (2 : Int) ^ 64 = 18446744073709551616 := rfl; omega) (by omega) (by omega) (by have : (2 : Int) ^ 64 = 18446744073709551616 := rfl; omega)
    have hsq := sq_le (by omega : 0 ≤ x + 2 ^ d) (by omega : x + 2 ^ d ≤ 4294967295)
    have hsq0 := Int.mul_nonneg (by omega : 0 ≤ x + 2 ^ d) (by omega : 0 ≤ x + 2 ^ d)
    have hm' : x % 2 ^ d = 0 := by
      obtain ⟨c, hc⟩ := Int.dvd_of_emod_eq_zero hm
      rw [e2] at hc
      rw [hc, Int.mul_comm 2, Int.mul_assoc]
      exact Int.mul_emod_right _ _
    have hi : ((d + 1 : Nat) : Int) - 1 = (d : Int) := by omega
    rw [hi]
    simp only [expo_Root.l0]
    rw [if_pos (by omega), if_pos (by omega), hs, ho, u64w _ hsq0 (by omega), w64 ((d : Int) - 1) (by omega) (by omega)]
    by_cases c : (x + 2 ^ d) * (x + 2 ^ d) ≤ v
    · rw [if_pos c]
      refine ih k (x + 2 ^ d) (by omega) (by omega) (by omega) ?_ (by omega) c ?_
      · rw [Int.add_emod_right]; exact hm'
      · rw [e2] at h2; exact root_bit h2
    · rw [if_neg c]
      exact ih k x (by omega) (by omega) hx hm' (by omega) h1 (by omega)
theorem root_eq (v : Int) (h0 : 0 ≤ v) (h1 : v < 18446744073709551616) (k : Nat) (hk : 34 ≤ k) : ∃ r, expo_Root.f k v = some r ∧ IsRoot v r ∧ r ≤ 4294967295 := by
  obtain ⟨k, rfl⟩ : ∃ m, k = m + 1 := ⟨k - 1, by omega⟩
  obtain ⟨m, e, hm, hv⟩ := len_ok k v h0 h1
  unfold expo_Root.f
  rw [e]
  simp only [Option.bind_some]
  rw [w64 ((m : Int) - 1) (by omega) (by omega)]
  have key : ∃ d : Nat, Int.tdiv ((m : Int) - 1) 2 = (d : Int) - 1 ∧ d ≤ 32 ∧ 1 ≤ d ∧ m ≤ d + d := by
    rcases Nat.eq_zero_or_pos m with rfl | hp
    · exact ⟨1, by decide, by omega, by omega, by omega⟩
    · refine ⟨(m - 1) / 2 + 1, ?_, by omega, by omega, by omega⟩
      rw [Int.tdiv_eq_ediv_of_nonneg (by omega)]; omega
  obtain ⟨d, ed, hd, hd1, hmd⟩ := key
  rw [ed, w64 ((d : Int) - 1) (by omega) (by omega)]
  have hpd : (2 : Int) ^ d ≤ 4294967296 := two_pow_max (n := 32) hd
  refine root_loop v h1 d (k + 1) 0 (by omega) hd (by omega) (Int.zero_emod _) (by omega) (by omega) ?_
  rw [Int.zero_add, ← two_pow_split]
  exact Int.lt_of_lt_of_le hv (two_pow_max hmd)
theorem rroot_loop (v : Int) (j : Nat) : ∀ (k : Nat) (lo hi : Int), j < k → 0 ≤ lo → lo ≤ hi → hi ≤ 4294967295 → hi - lo < 2 ^ j → lo * lo ≤ v → v < (hi + 1) * (hi + 1) →
    ∃ r, credenzaref02_Root.l0 k v lo hi = some r ∧ IsRoot v r := by
  induction j with
  | zero =>
    intro k lo hi hk h0 h1 h2 hj hl hh
    obtain ⟨k, rfl⟩ : ∃ m, k = m + 1 := ⟨k - 1, by omega⟩
    rw [Int.pow_zero] at hj
    obtain rfl : lo = hi := by omega
    refine ⟨lo, ?_, h0, hl, hh⟩
    simp only [credenzaref02_Root.l0]
    rw [if_neg (by omega)]
  | succ j ih =>
    intro k lo hi hk h0 h1 h2 hj hl hh
    obtain ⟨k, rfl⟩ : ∃ m, k = m + 1 := ⟨k - 1, by omega⟩
    rw [two_pow_succ] at hj
    generalize (2 : Int) ^ j = p at *
    simp only [credenzaref02_Root.l0]
    by_cases c : lo < hi
    · have hm : Int.tdiv (hi - lo + 1) 2 = (hi - lo + 1) / 2 := Int.tdiv_eq_ediv_of_nonneg (by omega)
      rw [if_pos c, u64w (hi - lo) (by omega) (by omega), u64w (hi - lo + 1) (by omega) (by omega), hm, u64w ((hi - lo + 1) / 2) (by omega) (by omega), u64w (lo + (hi - lo + 1) / 2) (by omega) (by omega), u64w (lo + (hi - lo + 1) / 2 - 1) (by omega) (by omega)]
      generalize hM : lo + (hi - lo + 1) / 2 = M at *
      have hsq := sq_le (by omega : 0 ≤ M) (by omega : M ≤ 4294967295)
      have hsq0 := Int.mul_nonneg (by omega : 0 ≤ M) (by omega : 0 ≤ M)
      rw [u64w (M * M) hsq0 (by omega)]
      by_cases c1 : M * M ≤ v
      · rw [if_pos c1]
        exact ih k M hi (by omega) (by omega) (by omega) h2 (by omega) c1 hh
      · rw [if_neg c1]
        refine ih k lo (M - 1) (by omega) h0 (by omega) (by omega) (by omega) hl ?_
        rw [show M - 1 + 1 = M from by omega]; omega
    · rw [if_neg c]
      obtain rfl : lo = hi := by omega
      exact ⟨lo, rfl, h0, hl, hh⟩
theorem rroot_eq (v : Int) (h0 : 0 ≤ v) (h1 : v < 18446744073709551616) (k : Nat) (hk : 34 ≤ k) : ∃ r, credenzaref02_Root.f k v = some r ∧ IsRoot v r := by
  unfold credenzaref02_Root.f
  exact rroot_loop v 32 k 0 4294967295 (by omega) (by omega) (by omega) (by omega) (by have : (2 : Int) ^ 32 = 4294967296 := rfl; omega) (by omega) (by omega)
end Cz

theorem ExpoRoots : credenzalaw02_ExpoRoots.Pure := by
  intro v n hv hn
  have hv : 0 ≤ v ∧ v < 18446744073709551616 := by
    simp only [Lit.wf, IntKind.min, IntKind.max, IntKind.signed, IntKind.bits, Bool.and_eq_true, decide_eq_true_eq, if_true] at hv
    simp at hv
    omega
  have hn : 0 ≤ n ∧ n ≤ 4294967295 := by
    simp only [Lit.wf, IntKind.min, IntKind.max, IntKind.signed, IntKind.bits, Bool.and_eq_true, decide_eq_true_eq, if_true] at hn
    simp at hn
    omega
  refine ⟨101, ?_⟩
  have aw : credenzalaw02_awake.f 100 = some true := by decide +kernel
  obtain ⟨r, er, hr, hb⟩ := Cz.root_eq v hv.1 hv.2 101 (by omega)
  obtain ⟨s, es, hs⟩ := Cz.rroot_eq v hv.1 hv.2 100 (by omega)
  have hnn := Cz.sq_le hn.1 hn.2
  have hnn0 := Int.mul_nonneg hn.1 hn.1
  obtain ⟨q, eq', hq, -⟩ := Cz.root_eq (n * n) hnn0 (by omega) 100 (by omega)
  obtain rfl : r = s := Cz.root_unique hr hs
  obtain rfl : q = n := Cz.root_unique hq ⟨hn.1, Int.le_refl _, by rw [Int.add_mul, Int.mul_add, Int.mul_one, Int.one_mul]; omega⟩
  have J : credenzalaw02_ExpoRoots.j0 101 v q r false = some true := by
    simp only [credenzalaw02_ExpoRoots.j0]
    rw [if_neg (by decide), es]
    simp only [Option.bind_some, if_true]
    rw [Cz.u64w q (by omega) (by omega), Cz.u64w (q * q) hnn0 (by omega), eq', aw]
    simp only [Option.bind_some, if_true]
  obtain ⟨r0, r1, r2⟩ := hr
  have hrr := Cz.sq_le r0 hb
  have hrr0 := Int.mul_nonneg r0 r0
  unfold credenzalaw02_ExpoRoots.f
  rw [er]
  simp only [Option.bind_some]
  rw [if_neg (by omega), Cz.u64w (r * r) hrr0 (by omega), if_neg (by omega)]
  by_cases c : r < 4294967295
  · have h1 := Cz.sq_le (by omega : 0 ≤ r + 1) (by omega : r + 1 ≤ 4294967295)
    have h2 := Int.mul_nonneg (by omega : 0 ≤ r + 1) (by omega : 0 ≤ r + 1)
    rw [if_pos c, Cz.u64w (r + 1) (by omega) (by omega), Cz.u64w _ h2 (by omega), show decide ((r + 1) * (r + 1) ≤ v) = false from decide_eq_false (by omega)]
    exact J
  · rw [if_neg c]; exact J

end Go.Proofs.Ytmndomlpdajjmaa.Pure
