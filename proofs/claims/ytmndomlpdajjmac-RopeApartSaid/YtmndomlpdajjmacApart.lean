/- Each pair of a list is turned by its own turn alone; a list of noughts stays: the statement's walk. -/
import Derived.Test.YtmndomlpdajjmacAwake
namespace Go.Proofs.Ytmndomlpdajjmac.Rt
open Go.RowKit Go.Proofs.YtmndomlpdajjmacW.PrintWords Go.Proofs.YtmndomlpdajjmacW.PrintLast Go.Proofs.YtmndomlpdajjmacW.PrintMore Go.Proofs.Ytmndomlpdajjmac.Pure
set_option linter.unusedVariables false
set_option linter.unusedSimpArgs false
theorem cut_one (l : List S54) (i : Nat) (hi : i < l.length) (A : Option Addr) (c : Nat) (hc : l.length ≤ c) (J : Int) (hJ : J = ((i + 1 : Nat) : Int)) :
    ∃ A1 : Option Addr, (∀ W, (Instr.slice 42 (.slice A l.length c) (some (.int .i64 (i : Int))) (some (.int .i64 J)) none).run Try.prog W = .ok (.slice A1 1 (c - i)) W) ∧ (∀ w, Kd.C k54 w A l.length l → Kd.C k54 w A1 1 [l[i]]) ∧ 1 ≤ c - i := by
  subst hJ
  obtain ⟨i0, hi0, _, hz1, _⟩ := info_parts info54
  refine ⟨if c = i then A else A.map (·.add (i * 2)), fun W => ?_, fun w h => ?_, by omega⟩
  · have h := cut_mid (P := Try.prog) 42 54 .i64 .i64 Try.underlying42 hi0 2 hz1 A l.length c (i : Int) ((i + 1 : Nat) : Int) (by omega) (by omega) (by omega) hc W
    rw [Int.toNat_natCast, Int.toNat_natCast, show i + 1 - i = 1 from by omega] at h
    exact h
  · have h2 := Kd.C_mid (lo := i) (hi := i + 1) h (by omega) (by omega) hc
    have e : (l.take (i + 1)).drop i = [l[i]] := by
      rw [List.take_succ_eq_append_getElem hi, List.drop_append_of_le_length (by rw [List.length_take]; omega), List.drop_of_length_le (by rw [List.length_take]; omega)]
      rfl
    rw [e] at h2
    exact h2
theorem cut_pair (x : List Int) (i : Nat) (hi : 2 * i + 2 ≤ x.length) (A : Option Addr) (c : Nat) (hc : x.length ≤ c) (K0 K2 : Int) (h0 : K0 = ((2 * i : Nat) : Int)) (h2 : K2 = ((2 * i + 2 : Nat) : Int)) :
    ∃ A1 : Option Addr, (∀ W, (Instr.slice 22 (.slice A x.length c) (some (.int .i64 K0)) (some (.int .i64 K2)) none).run Try.prog W = .ok (.slice A1 2 (c - 2 * i)) W) ∧ (∀ w, Kd.C (Kd.int .i32) w A x.length x → Kd.C (Kd.int .i32) w A1 2 ((x.drop (2 * i)).take 2)) ∧ 2 ≤ c - 2 * i := by
  subst h0 h2
  obtain ⟨i0, hi0, _, hz1, _⟩ := info_parts info21
  refine ⟨if c = 2 * i then A else A.map (·.add (2 * i * 1)), fun W => ?_, fun w h => ?_, by omega⟩
  · have h := cut_mid (P := Try.prog) 22 21 .i64 .i64 Try.underlying22 hi0 1 hz1 A x.length c ((2 * i : Nat) : Int) ((2 * i + 2 : Nat) : Int) (by omega) (by omega) (by omega) hc W
    rw [Int.toNat_natCast, Int.toNat_natCast, show 2 * i + 2 - 2 * i = 2 from by omega] at h
    exact h
  · have h2 := Kd.C_mid (lo := 2 * i) (hi := 2 * i + 2) h (by omega) (by omega) hc
    have e : (x.take (2 * i + 2)).drop (2 * i) = (x.drop (2 * i)).take 2 := by rw [List.drop_take, show 2 * i + 2 - 2 * i = 2 from by omega]
    have el : ((x.drop (2 * i)).take 2).length = 2 := by rw [List.length_take, List.length_drop]; omega
    rw [e, el] at h2
    exact h2
theorem C_int_lt {k : IntKind} {w : World} {A : Option Addr} {n : Nat} {xs : List Int} (h : Kd.C (Kd.int k) w A n xs) (hn : 0 < n) : ∀ ad, A = some ad → ad.block < w.heap.size := by
  intro ad e
  subst e
  obtain ⟨ad', e, hc⟩ := Kd.at_int h 0 (by omega) (by omega)
  injection e with e
  subst e
  rw [show (0 : Int).toNat = 0 from rfl, Addr.add_zero'] at hc
  exact World.block_lt_of_cell? w _ hc
set_option maxRecDepth 100000 in
set_option maxHeartbeats 4000000 in
/-- Too many. -/
theorem apart_many (A B : Option Addr) (m n c d : Nat) (p : Int) (w : World) (h : 8 < m) : Calls Try.prog 14 #[.slice A m c, .slice B n d, .int .i64 p] w (Awake w) := by
  have HA := Aside0.mk (awake_calls w)
  have c0 : decide ((m : Int) > 8) = true := decide_eq_true (by omega)
  have c1 : decide (8 < (m : Int)) = true := decide_eq_true (by omega)
  have c2 : decide (8 < m) = true := decide_eq_true (by omega)
  clear h
  generalize hQ : Awake w = Q
  have HQ := Aside0.mk hQ
  clear hQ
  go_enter Try.func14, Try.ntmps14
  go_wp2_with (go_at_call 30; refine HA.out.mono ?_; rintro e w1 ⟨rfl, hB⟩; have HB := Aside0.mk hB; clear hB)
  rw [← HQ.out]
  exact ⟨rfl, HB.out⟩
set_option maxRecDepth 100000 in
set_option maxHeartbeats 4000000 in
/-- Of another size. -/
theorem apart_shape (A B : Option Addr) (m n c d : Nat) (p : Int) (w : World) (h : m ≤ 8 ∧ n ≠ 2 * m) : Calls Try.prog 14 #[.slice A m c, .slice B n d, .int .i64 p] w (Awake w) := by
  have HA := Aside0.mk (awake_calls w)
  have c0 : decide ((m : Int) > 8) = false := decide_eq_false (by omega)
  have c1 : decide (8 < (m : Int)) = false := decide_eq_false (by omega)
  have c2 : decide (8 < m) = false := decide_eq_false (by omega)
  have hw : wrap64 (2 * (m : Int)) = 2 * (m : Int) := by unfold wrap64; omega
  have e0 : ((n : Int) == (wrap64 (2 * (m : Int)))) = false := by rw [hw]; exact beq_eq_false_iff_ne.mpr (by omega)
  have e1 : ((n : Int) != (wrap64 (2 * (m : Int)))) = true := by rw [hw]; exact bne_iff_ne.mpr (by omega)
  clear hw
  clear h
  generalize hQ : Awake w = Q
  have HQ := Aside0.mk hQ
  clear hQ
  go_enter Try.func14, Try.ntmps14
  go_wp2_with (go_at_call 30; refine HA.out.mono ?_; rintro e w1 ⟨rfl, hB⟩; have HB := Aside0.mk hB; clear hB)
  rw [← HQ.out]
  exact ⟨rfl, HB.out⟩
set_option maxRecDepth 100000 in
set_option maxHeartbeats 4000000 in
/-- No position. -/
theorem apart_below (A B : Option Addr) (m n c d : Nat) (p : Int) (w : World) (h : m ≤ 8 ∧ n = 2 * m ∧ p < 0) : Calls Try.prog 14 #[.slice A m c, .slice B n d, .int .i64 p] w (Awake w) := by
  have HA := Aside0.mk (awake_calls w)
  have c0 : decide ((m : Int) > 8) = false := decide_eq_false (by omega)
  have c1 : decide (8 < (m : Int)) = false := decide_eq_false (by omega)
  have c2 : decide (8 < m) = false := decide_eq_false (by omega)
  have hw : wrap64 (2 * (m : Int)) = 2 * (m : Int) := by unfold wrap64; omega
  have e0 : ((n : Int) == (wrap64 (2 * (m : Int)))) = true := by rw [hw]; exact beq_iff_eq.mpr (by omega)
  have e1 : ((n : Int) != (wrap64 (2 * (m : Int)))) = false := by rw [hw]; exact bne_eq_false_iff_eq.mpr (by omega)
  clear hw
  have f0 : decide (p < 0) = true := decide_eq_true (by omega)
  clear h
  generalize hQ : Awake w = Q
  have HQ := Aside0.mk hQ
  clear hQ
  go_enter Try.func14, Try.ntmps14
  go_wp2_with (go_at_call 30; refine HA.out.mono ?_; rintro e w1 ⟨rfl, hB⟩; have HB := Aside0.mk hB; clear hB)
  rw [← HQ.out]
  exact ⟨rfl, HB.out⟩
set_option maxRecDepth 100000 in
set_option maxHeartbeats 4000000 in
/-- No such position. -/
theorem apart_above (A B : Option Addr) (m n c d : Nat) (p : Int) (w : World) (h : m ≤ 8 ∧ n = 2 * m ∧ 0 ≤ p ∧ 1024 ≤ p) : Calls Try.prog 14 #[.slice A m c, .slice B n d, .int .i64 p] w (Awake w) := by
  have HA := Aside0.mk (awake_calls w)
  have c0 : decide ((m : Int) > 8) = false := decide_eq_false (by omega)
  have c1 : decide (8 < (m : Int)) = false := decide_eq_false (by omega)
  have c2 : decide (8 < m) = false := decide_eq_false (by omega)
  have hw : wrap64 (2 * (m : Int)) = 2 * (m : Int) := by unfold wrap64; omega
  have e0 : ((n : Int) == (wrap64 (2 * (m : Int)))) = true := by rw [hw]; exact beq_iff_eq.mpr (by omega)
  have e1 : ((n : Int) != (wrap64 (2 * (m : Int)))) = false := by rw [hw]; exact bne_eq_false_iff_eq.mpr (by omega)
  clear hw
  have f0 : decide (p < 0) = false := decide_eq_false (by omega)
  have f1 : decide (p ≥ 1024) = true := decide_eq_true (by omega)
  have f2 : decide (1024 ≤ p) = true := decide_eq_true (by omega)
  clear h
  generalize hQ : Awake w = Q
  have HQ := Aside0.mk hQ
  clear hQ
  go_enter Try.func14, Try.ntmps14
  go_wp2_with (go_at_call 30; refine HA.out.mono ?_; rintro e w1 ⟨rfl, hB⟩; have HB := Aside0.mk hB; clear hB)
  rw [← HQ.out]
  exact ⟨rfl, HB.out⟩
set_option maxRecDepth 100000 in
set_option maxHeartbeats 4000000 in
/-- They are no turns. -/
theorem apart_no (A : Option Addr) (c : Nat) (l : List S54) (B : Option Addr) (d : Nat) (x : List Int) (p : Int) (w : World) (hr : Kd.C k54 w A l.length l) (hc : l.length ≤ c) (h8 : l.length ≤ 8) (hx : x.length = 2 * l.length) (h0 : 0 ≤ p) (h1 : p < 1024) (hu : ¬ Cz.Units l) : Calls Try.prog 14 #[.slice A l.length c, .slice B x.length d, .int .i64 p] w (Awake w) := by
  have HM := Aside0.mk (made_no A c l w hr hc (by omega) (.inr hu))
  have c0 : decide ((l.length : Int) > 8) = false := decide_eq_false (by omega)
  have c1 : decide (8 < (l.length : Int)) = false := decide_eq_false (by omega)
  have c2 : decide (8 < l.length) = false := decide_eq_false (by omega)
  have hw : wrap64 (2 * (l.length : Int)) = 2 * (l.length : Int) := by unfold wrap64; omega
  have e0 : ((x.length : Int) == (wrap64 (2 * (l.length : Int)))) = true := by rw [hw]; exact beq_iff_eq.mpr (by omega)
  have e1 : ((x.length : Int) != (wrap64 (2 * (l.length : Int)))) = false := by rw [hw]; exact bne_eq_false_iff_eq.mpr (by omega)
  clear hw
  have f0 : decide (p < 0) = false := decide_eq_false (by omega)
  have f1 : decide (p ≥ 1024) = false := decide_eq_false (by omega)
  have f2 : decide (1024 ≤ p) = false := decide_eq_false (by omega)
  clear hr hc h8 hx h0 h1 hu
  generalize hQ : Awake w = Q
  have HQ := Aside0.mk hQ
  clear hQ
  go_enter Try.func14, Try.ntmps14
  go_wp2_with fail
  ((with_reducible refine HM.out.mono ?_); rintro e w1 ⟨n, hn, rfl, hB⟩)
  have HA := Aside0.mk (awake_then hB)
  clear hB HM
  rcases hn with rfl | rfl
  all_goals
    go_wp2_with (go_at_call 30; refine HA.out.mono ?_; rintro e w2 ⟨rfl, hB⟩; have HB := Aside0.mk hB; clear hB)
    rw [← HQ.out]
    exact ⟨rfl, HB.out⟩
set_option maxRecDepth 100000 in
set_option maxHeartbeats 4000000 in
/-- Each pair by itself. -/
theorem apart_ok (A : Option Addr) (c : Nat) (l : List S54) (B : Option Addr) (d : Nat) (x : List Int) (p : Int) (w : World) (hr : Kd.C k54 w A l.length l) (hc : l.length ≤ c) (h8 : l.length ≤ 8) (hx : x.length = 2 * l.length) (h0 : 0 ≤ p) (h1 : p < 1024) (hu : Cz.Units l) (hb : Kd.C (Kd.int .i32) w B x.length x) (hd : x.length ≤ d) (hi : Cz.I32 x) (hlt : 0 < x.length → ∀ ad, B = some ad → ad.block < w.heap.size) : Calls Try.prog 14 #[.slice A l.length c, .slice B x.length d, .int .i64 p] w (Awake w) := by
  have hu54 := Try.underlying54
  have HM := Aside0.mk (made_yes A c l w hr hc h8 hu)
  have c0 : decide ((l.length : Int) > 8) = false := decide_eq_false (by omega)
  have c1 : decide (8 < (l.length : Int)) = false := decide_eq_false (by omega)
  have c2 : decide (8 < l.length) = false := decide_eq_false (by omega)
  have hw : wrap64 (2 * (l.length : Int)) = 2 * (l.length : Int) := by unfold wrap64; omega
  have e0 : ((x.length : Int) == (wrap64 (2 * (l.length : Int)))) = true := by rw [hw]; exact beq_iff_eq.mpr (by omega)
  have e1 : ((x.length : Int) != (wrap64 (2 * (l.length : Int)))) = false := by rw [hw]; exact bne_eq_false_iff_eq.mpr (by omega)
  clear hw
  have f0 : decide (p < 0) = false := decide_eq_false (by omega)
  have f1 : decide (p ≥ 1024) = false := decide_eq_false (by omega)
  have f2 : decide (1024 ≤ p) = false := decide_eq_false (by omega)
  have HMX : Aside0 ((x.length : Int).toNat * 4 ≤ 281474976710656) := ⟨by omega⟩
  have HX := Aside0.mk hx
  have HU := Aside0.mk hu
  have H8 := Aside0.mk h8
  have HP := Aside0.mk (And.intro h0 h1)
  have HC := Aside0.mk hr
  have HL := Aside0.mk hc
  have HX1 := Aside0.mk hb
  have HX2 := Aside0.mk hd
  have HX3 := Aside0.mk hi
  have HX4 := Aside0.mk hlt
  have hl1 : (Cz.rotR (atL l p) x).length = x.length := Cz.rot_len _ _ (by rw [atL_len]; exact hx)
  have hl2 : (List.replicate x.length (0 : Int)).length = x.length := List.length_replicate
  have HZ : Aside0 (Cz.rotR (atL l p) (List.replicate x.length 0) = List.replicate x.length 0) := by
    have := Cz.rot_noughts (atL l p)
    rw [atL_len, ← hx] at this
    exact ⟨this⟩
  have HZ3 : Aside0 (Cz.I32 (List.replicate x.length 0)) := ⟨fun y hy => by rw [List.eq_of_mem_replicate hy]; decide⟩
  have HS1 := Aside0.mk (Cz.same_self (List.replicate x.length (0 : Int)) (by omega) 1001 (by omega))
  have hnn : ((x.length : Int) != (x.length : Int)) = false := by simp
  have hnot : ∀ (x : Bool) (w : World), (Op.unary .not (.bool x)).run Try.prog w = .ok (.bool (!x)) w := fun _ _ => rfl
  clear hr hc h8 hx h0 h1 hu hb hd hi hlt
  generalize hQ : Awake w = Q
  have HQ := Aside0.mk hQ
  clear hQ
  go_enter Try.func14, Try.ntmps14
  go_wp2_with fail
  ((with_reducible refine HM.out.mono ?_); rintro e w1 ⟨b, rfl, hT, hB⟩)
  have HS := Aside0.mk (show St w w1 b l from ⟨hB, hT, H8.out, HU.out⟩)
  have HNE : Aside0 (0 < x.length → ∀ ad, B = some ad → ad.block ≠ b) := ⟨fun hp ad e he => by have := HX4.out hp ad e; have := hT.1; omega⟩
  have HY1 := Aside0.mk (Kd.C_below HX1.out hB)
  clear hB HM hT
  go_wp2_with fail
  ((with_reducible refine (rotate_yes w.heap.size b _ l x B d p w1 HS.out.tab (st_base HS.out) HP.out.1 HP.out.2 HY1.out HX2.out HNE.out HX.out HX3.out).mono ?_); rintro e w2 ⟨v2, rfl, hR, hT, hg⟩)
  obtain ⟨A2, c2', ev⟩ := Kd.R_slice hR
  subst ev
  rw [hl1] at hR ⊢
  have HO2 := Aside0.mk hR
  have HS2 := Aside0.mk (st_ask HS.out hT hg)
  have HY2 := Aside0.mk (C_int_grown HY1.out hg HNE.out)
  clear hR hT hg HS HY1
  go_wp2_with ((with_reducible refine gate_dst (N := 61) rfl ?_); refine Kd.R_make (Kd.int .i32) _ 21 rfl (N := 61) rfl 22 _ _ rfl (x.length : Int) rfl rfl Try.underlying22 (.int .i32 0) 4 info21 rfl (by decide) (by omega) 0 (ok := fun _ => True) (okp := fun _ => True) rfl (fun _ hk => hk) trivial (by omega) HMX.out (Below.refl _ _) (Nat.le_refl _) ?_; intro v3 w3 ho hb hg hnew; rw [Int.toNat_natCast] at ho; obtain ⟨Av3, cv3, ev⟩ := Kd.R_slice ho; subst ev; have HOv3 := Aside0.mk ho; have HGv3 := Aside0.mk hg; clear hg hnew ho hb)
  have HS3 := Aside0.mk (st_lit HS2.out HGv3.out)
  have HO2' := Aside0.mk (R_over_lit HO2.out HGv3.out)
  have HY3 := Aside0.mk (Kd.C_below HY2.out (below_of_grown HGv3.out))
  have h36 := rotate_yes w.heap.size b _ l (List.replicate x.length 0) Av3 cv3 p w3 HS3.out.tab (st_base HS3.out) HP.out.1 HP.out.2 (Kd.R_reads' HOv3.out).2.2 (Kd.R_reads' HOv3.out).2.1 (R_off HOv3.out HS3.out.tab (by decide)) (by rw [hl2]; exact HX.out) HZ3.out
  rw [hl2] at h36
  have H36 := Aside0.mk h36
  clear h36
  go_wp2_with fail
  ((with_reducible refine H36.out.mono ?_); rintro e w4 ⟨v4, rfl, hR, hT, hg⟩)
  rw [HZ.out] at hR
  obtain ⟨A4, c4', ev⟩ := Kd.R_slice hR
  subst ev
  rw [hl2] at hR ⊢
  have HO4 := Aside0.mk hR
  have HO2 := Aside0.mk (R_ask HO2'.out HS3.out.tab hg neI)
  have HS4 := Aside0.mk (st_ask HS3.out hT hg)
  have HY4 := Aside0.mk (C_int_grown HY3.out hg HNE.out)
  clear hR hT hg HS3 HY3 HO2' H36 HOv3 HGv3 HS2 HY2
  go_wp2_with ((with_reducible refine gate_dst (N := 76) rfl ?_); (try (refine gate_guard (by rfl) ?_; dsimp only)); refine Kd.R_make (Kd.int .i32) _ 21 rfl (N := 76) rfl 22 _ _ rfl (x.length : Int) rfl rfl Try.underlying22 (.int .i32 0) 4 info21 rfl (by decide) (by omega) 0 (ok := fun _ => True) (okp := fun _ => True) rfl (fun _ hk => hk) trivial (by omega) HMX.out (Below.refl _ _) (Nat.le_refl _) ?_; intro v5 w5 ho hb hg hnew; rw [Int.toNat_natCast] at ho; obtain ⟨Av5, cv5, ev⟩ := Kd.R_slice ho; subst ev; have HOv5 := Aside0.mk ho; have HGv5 := Aside0.mk hg; clear hg hnew ho hb)
  have HS5 := Aside0.mk (st_lit HS4.out HGv5.out)
  have HO2' := Aside0.mk (R_over_lit HO2.out HGv5.out)
  have HO4' := Aside0.mk (R_over_lit HO4.out HGv5.out)
  have HY5 := Aside0.mk (Kd.C_below HY4.out (below_of_grown HGv5.out))
  have h21 := credenzaref03_Same.calls 1001 A4 c4' _ Av5 cv5 _ true w5 (Kd.R_reads' HO4'.out).2.2 (by rw [hl2]; exact (Kd.R_reads' HO4'.out).2.1) (Kd.R_reads' HOv5.out).2.2 (by rw [hl2]; have := (Kd.R_reads' HOv5.out).2.1; simpa using this) HS1.out
  rw [hl2] at h21
  have H21 := Aside0.mk h21
  clear h21
  go_wp2_with fail
  ((with_reducible refine H21.out.mono ?_); rintro e w8 ⟨rfl, hB⟩)
  replace hB := hB.below
  have HS8 := Aside0.mk (st_below HS5.out hB)
  have HO2 := Aside0.mk (Kd.R_reads' (Kd.R_below HO2'.out hB))
  have HY8 := Aside0.mk (Kd.C_below HY5.out hB)
  clear hB HS5 HO2' HO4' HY5 H21 HOv5 HGv5 HS4 HY4 HO4
  go_wp2_with fail
  clear hl2 HZ HZ3 HS1 HMX e0 e1 c0 c1 c2 f0 f1 f2
  go_loopg [89] l.length (fun kq v89 w' => ∃ (j : Nat), v89 = .int .i64 (j : Int) ∧ Aside0 (j + kq = l.length) ∧ Aside0 (Below w8.heap.size w8 w'))
  case atStart => exact ⟨0, rfl, ⟨by omega⟩, ⟨Below.refl _ _⟩⟩
  case round =>
    obtain ⟨j, rfl, HI, HB2⟩ := hrel
    cases gk with
    | zero =>
      have hi := HI.out
      obtain rfl : j = l.length := by omega
      have e5 : decide ((l.length : Int) < (l.length : Int)) = false := decide_eq_false (by omega)
      have HA := Aside0.mk (awake_then (st_below HS8.out HB2.out).bel)
      clear hi
      go_wp2_with (go_at_call 30; refine HA.out.mono ?_; rintro e w9 ⟨rfl, hB⟩; have HB := Aside0.mk hB; clear hB)
      rw [← HQ.out]
      exact ⟨rfl, HB.out⟩
    | succ k1 =>
      have hi := HI.out
      have h8 := H8.out
      have hx := HX.out
      have hlt : j < l.length := by omega
      have e5 : decide ((j : Int) < (l.length : Int)) = true := decide_eq_true (by omega)
      have e6 : decide (j < l.length) = true := decide_eq_true hlt
      obtain ⟨J, hJ⟩ : ∃ J : Int, J = ((j + 1 : Nat) : Int) := ⟨_, rfl⟩
      obtain ⟨K0, hK0⟩ : ∃ K : Int, K = ((2 * j : Nat) : Int) := ⟨_, rfl⟩
      obtain ⟨K2, hK2⟩ : ∃ K : Int, K = ((2 * j + 2 : Nat) : Int) := ⟨_, rfl⟩
      have wj : wrap64 ((j : Int) + 1) = J := by rw [hJ]; exact Cz.w64_succ j l.length hlt (by omega)
      have wk0 : wrap64 (2 * (j : Int)) = K0 := by rw [hK0, Cz.w64 _ (by omega) (by omega)]; omega
      have wk2 : wrap64 (K0 + 2) = K2 := by rw [hK2, hK0, Cz.w64 _ (by omega) (by omega)]; omega
      obtain ⟨Ac, hcut, hcC, hcl⟩ := cut_one l j hlt A c HL.out J hJ
      obtain ⟨Bx, hxcut, hxC, hxl⟩ := cut_pair x j (by omega) B d HX2.out K0 K2 hK0 hK2
      obtain ⟨By, hycut, hyC, hyl⟩ := cut_pair (Cz.rotR (atL l p) x) j (by omega) A2 c2' (by rw [hl1]; exact HO2.out.2.1) K0 K2 hK0 hK2
      rw [hl1] at hycut
      have hx2 : ((x.drop (2 * j)).take 2).length = 2 := by rw [List.length_take, List.length_drop]; omega
      have hy2 : (((Cz.rotR (atL l p) x).drop (2 * j)).take 2).length = 2 := by rw [List.length_take, List.length_drop]; omega
      have hone := Cz.rot_one (atL l p) x j (by rw [atL_len]; exact hlt) (by rw [atL_len]; exact hx)
      have hat : [(atL l p)[j]'(by rw [atL_len]; exact hlt)] = atL [l[j]] p := by
        have h3 : (atL l p)[j]'(by rw [atL_len]; exact hlt) = Cz.atT l[j] p.toNat := by unfold atL; rw [List.getElem_map]
        rw [h3]
        rfl
      rw [hat] at hone
      have HONE := Aside0.mk hone
      have hbel := st_below HS8.out HB2.out
      have hU1 : Cz.Units [l[j]] := fun t ht => by
        obtain rfl := List.mem_singleton.mp ht
        exact HU.out _ (List.getElem_mem hlt)
      have HM : Aside0 (Calls Try.prog 31 #[.slice Ac 1 (c - j)] wr (MadeYes wr [l[j]])) := ⟨made_yes Ac (c - j) [l[j]] wr (hcC wr (Kd.C_below HC.out hbel.bel)) hcl (Nat.le_trans (Nat.le_of_eq List.length_singleton) (by decide)) hU1⟩
      have HXC := Aside0.mk (hxC w HX1.out)
      have HXC1 := Aside0.mk (hxC wr (Kd.C_below HY8.out HB2.out))
      have HYC1 := Aside0.mk (hyC wr (by rw [hl1]; have h4 := HO2.out.2.2; rw [hl1] at h4; exact Kd.C_below h4 HB2.out))
      have HXL := Aside0.mk hxl
      have HYL := Aside0.mk hyl
      have HU1 := Aside0.mk hU1
      have HSB := Aside0.mk hbel
      have HI2 : Aside0 (Cz.I32 ((x.drop (2 * j)).take 2)) := ⟨fun y hy => HX3.out y (List.mem_of_mem_drop (List.mem_of_mem_take hy))⟩
      have HS2 := Aside0.mk (Cz.same_self (((Cz.rotR (atL l p) x).drop (2 * j)).take 2) (by omega) 1001 (by omega))
      have HX22 := Aside0.mk hx2
      have HY22 := Aside0.mk hy2
      have HJ := Aside0.mk hJ
      clear hi h8 hx hJ hK0 hK2 hcC hcl hxC hxl hyC hyl hx2 hy2 hone hat hbel hU1
      go_wp2_with fail
      ((with_reducible refine HM.out.mono ?_); rintro e w1 ⟨b2, rfl, hT, hB⟩)
      have HT2 := Aside0.mk (show TabI w1 wr.heap.size (fun _ => True) b2 [l[j]] from ⟨hT, Nat.le_trans (Nat.le_of_eq List.length_singleton) (by decide), HU1.out⟩)
      have HB3 := Aside0.mk hB
      have hne : 0 < ((x.drop (2 * j)).take 2).length → ∀ ad, Bx = some ad → ad.block ≠ b2 := fun _ ad e he => by
        have h3 := C_int_lt HXC.out (by omega) ad e
        have h4 := hT.1
        have h5 := st_base HSB.out
        omega
      have hney : 0 < 2 → ∀ ad, By = some ad → ad.block ≠ b2 := fun _ ad e he => by
        have h3 := C_int_lt HYC1.out (by omega) ad e
        have h4 := hT.1
        omega
      have h36 := rotate_yes wr.heap.size b2 _ [l[j]] ((x.drop (2 * j)).take 2) Bx (d - 2 * j) p w1 HT2.out hB.size HP.out.1 HP.out.2 (by rw [HX22.out]; exact Kd.C_below HXC1.out hB) (by rw [HX22.out]; exact HXL.out) hne (by rw [HX22.out]; rfl) HI2.out
      rw [HX22.out] at h36
      have H36 := Aside0.mk h36
      have HNY := Aside0.mk hney
      clear hT hB hne hney h36 HM HXC HXC1
      go_wp2_with fail
      ((with_reducible refine H36.out.mono ?_); rintro e w2 ⟨v2, rfl, hR, hT, hg⟩)
      rw [HONE.out] at hR
      obtain ⟨A3, c3', ev⟩ := Kd.R_slice hR
      subst ev
      rw [HY22.out] at hR ⊢
      have hb5 := below_ask (w := w8) (below_step HB2.out HB3.out) HT2.out (HB2.out.size) hg
      have HYC2 := Aside0.mk (C_int_grown (Kd.C_below HYC1.out HB3.out) hg HNY.out)
      have HO3 := Aside0.mk (Kd.R_reads' hR)
      have HB5 := Aside0.mk hb5
      have h21 := credenzaref03_Same.calls 1001 A3 c3' _ By (c2' - 2 * j) _ true w2 HO3.out.2.2 (by rw [HY22.out]; exact HO3.out.2.1) (by rw [HY22.out]; exact HYC2.out) (by rw [HY22.out]; exact HYL.out) HS2.out
      rw [HY22.out] at h21
      have H21 := Aside0.mk h21
      clear hR hT hg hb5 h21 H36 HYC1 HYC2 HO3
      go_wp2_with fail
      ((with_reducible refine H21.out.mono ?_); rintro e w3 ⟨rfl, hB⟩)
      have HB6 := Aside0.mk (below_step HB5.out hB.below)
      clear hB H21
      go_wp2_with fail
      go_roundg k1
      case measure => exact Nat.lt_succ_self _
      case rel => exact ⟨j + 1, by first | rw [wj, HJ.out] | rw [HJ.out], ⟨by have := HI.out; omega⟩, HB6⟩
/-- For every input. -/
theorem RopeApart_all (A : Option Addr) (c : Nat) (l : List S54) (B : Option Addr) (d : Nat) (x : List Int) (p : Int) (w : World) (hr : Kd.C k54 w A l.length l) (hc : l.length ≤ c) (hb : Kd.C (Kd.int .i32) w B x.length x) (hd : x.length ≤ d) (hi : Cz.I32 x) (hlt : 0 < x.length → ∀ ad, B = some ad → ad.block < w.heap.size) : Calls Try.prog 14 #[.slice A l.length c, .slice B x.length d, .int .i64 p] w (Awake w) := by
  by_cases h : 8 < l.length
  · exact apart_many A B l.length x.length c d p w h
  · by_cases h2 : x.length ≠ 2 * l.length
    · exact apart_shape A B l.length x.length c d p w ⟨by omega, h2⟩
    · by_cases h3 : p < 0
      · exact apart_below A B l.length x.length c d p w ⟨by omega, by omega, h3⟩
      · by_cases h4 : 1024 ≤ p
        · exact apart_above A B l.length x.length c d p w ⟨by omega, by omega, by omega, h4⟩
        · by_cases hu : Cz.Units l
          · exact apart_ok A c l B d x p w hr hc (by omega) (by omega) (by omega) (by omega) hu hb hd hi hlt
          · exact apart_no A c l B d x p w hr hc (by omega) (by omega) (by omega) (by omega) hu
end Go.Proofs.Ytmndomlpdajjmac.Rt
