/- Any list is turned at any position as the document says, or refused: the statement's walk. -/
import Derived.Test.YtmndomlpdajjmacAwake
namespace Go.Proofs.Ytmndomlpdajjmac.Rt
open Go.RowKit Go.Proofs.YtmndomlpdajjmacW.PrintWords Go.Proofs.YtmndomlpdajjmacW.PrintLast Go.Proofs.YtmndomlpdajjmacW.PrintMore Go.Proofs.Ytmndomlpdajjmac.Pure
set_option linter.unusedVariables false
set_option linter.unusedSimpArgs false
set_option maxRecDepth 100000 in
set_option maxHeartbeats 4000000 in
/-- The sizes are too great: nothing is asked. -/
theorem rotates_wide (A B : Option Addr) (m n c d : Nat) (p : Int) (w : World) (h : 8 < m ∨ 100 < n) : Calls Try.prog 11 #[.slice A m c, .slice B n d, .int .i64 p] w (Awake w) := by
  have HA := Aside0.mk (awake_calls w)
  generalize hQ : Awake w = Q
  have HQ := Aside0.mk hQ
  clear hQ
  by_cases h1 : 8 < m
  · have c0 : decide ((m : Int) > 8) = true := decide_eq_true (by omega)
    have c1 : decide (8 < (m : Int)) = true := decide_eq_true (by omega)
    have c2 : decide (8 < m) = true := decide_eq_true h1
    clear h h1
    go_enter Try.func11, Try.ntmps11
    go_wp2_with (go_at_call 30; refine HA.out.mono ?_; rintro e w1 ⟨rfl, hB⟩; have HB := Aside0.mk hB; clear hB)
    rw [← HQ.out]
    exact ⟨rfl, HB.out⟩
  · have c0 : decide ((m : Int) > 8) = false := decide_eq_false (by omega)
    have c1 : decide (8 < (m : Int)) = false := decide_eq_false (by omega)
    have c2 : decide (8 < m) = false := decide_eq_false h1
    have d0 : decide ((n : Int) > 100) = true := decide_eq_true (by omega)
    have d1 : decide (100 < (n : Int)) = true := decide_eq_true (by omega)
    have d2 : decide (100 < n) = true := decide_eq_true (by omega)
    clear h h1
    go_enter Try.func11, Try.ntmps11
    go_wp2_with (go_at_call 30; refine HA.out.mono ?_; rintro e w1 ⟨rfl, hB⟩; have HB := Aside0.mk hB; clear hB)
    rw [← HQ.out]
    exact ⟨rfl, HB.out⟩
set_option maxRecDepth 100000 in
set_option maxHeartbeats 4000000 in
/-- They are no turns. -/
theorem rotates_no (A : Option Addr) (c : Nat) (l : List S54) (B : Option Addr) (d : Nat) (x : List Int) (p : Int) (w : World) (hr : Kd.C k54 w A l.length l) (hc : l.length ≤ c) (h8 : l.length ≤ 8) (h100 : x.length ≤ 100) (hu : ¬ Cz.Units l) : Calls Try.prog 11 #[.slice A l.length c, .slice B x.length d, .int .i64 p] w (Awake w) := by
  have HM := Aside0.mk (made_no A c l w hr hc (by omega) (.inr hu))
  have c0 : decide ((l.length : Int) > 8) = false := decide_eq_false (by omega)
  have c1 : decide (8 < (l.length : Int)) = false := decide_eq_false (by omega)
  have c2 : decide (8 < l.length) = false := decide_eq_false (by omega)
  have d0 : decide ((x.length : Int) > 100) = false := decide_eq_false (by omega)
  have d1 : decide (100 < (x.length : Int)) = false := decide_eq_false (by omega)
  have d2 : decide (100 < x.length) = false := decide_eq_false (by omega)
  clear hr hc h8 h100 hu
  generalize hQ : Awake w = Q
  have HQ := Aside0.mk hQ
  clear hQ
  go_enter Try.func11, Try.ntmps11
  go_wp2_with fail
  refine HM.out.mono ?_
  rintro e w1 ⟨n, hn, rfl, hB⟩
  have HA := Aside0.mk (awake_then hB)
  clear hB HM
  rcases hn with rfl | rfl
  all_goals
    go_wp2_with (go_at_call 30; refine HA.out.mono ?_; rintro e w2 ⟨rfl, hB⟩; have HB := Aside0.mk hB; clear hB)
    rw [← HQ.out]
    exact ⟨rfl, HB.out⟩
set_option maxRecDepth 100000 in
set_option maxHeartbeats 4000000 in
/-- The list is of another size. -/
theorem rotates_shape (A : Option Addr) (c : Nat) (l : List S54) (B : Option Addr) (d : Nat) (x : List Int) (p : Int) (w : World) (hr : Kd.C k54 w A l.length l) (hc : l.length ≤ c) (h8 : l.length ≤ 8) (h100 : x.length ≤ 100) (hu : Cz.Units l) (hx : x.length ≠ 2 * l.length) : Calls Try.prog 11 #[.slice A l.length c, .slice B x.length d, .int .i64 p] w (Awake w) := by
  have HM := Aside0.mk (made_yes A c l w hr hc h8 hu)
  have c0 : decide ((l.length : Int) > 8) = false := decide_eq_false (by omega)
  have c1 : decide (8 < (l.length : Int)) = false := decide_eq_false (by omega)
  have c2 : decide (8 < l.length) = false := decide_eq_false (by omega)
  have d0 : decide ((x.length : Int) > 100) = false := decide_eq_false (by omega)
  have d1 : decide (100 < (x.length : Int)) = false := decide_eq_false (by omega)
  have d2 : decide (100 < x.length) = false := decide_eq_false (by omega)
  have hw : wrap64 (2 * (l.length : Int)) = 2 * (l.length : Int) := by unfold wrap64; omega
  have e0 : ((x.length : Int) == (wrap64 (2 * (l.length : Int)))) = false := by rw [hw]; exact beq_eq_false_iff_ne.mpr (by omega)
  have e1 : ((x.length : Int) != (wrap64 (2 * (l.length : Int)))) = true := by rw [hw]; exact bne_iff_ne.mpr (by omega)
  have HX := Aside0.mk hx
  have HU := Aside0.mk hu
  have H8 := Aside0.mk h8
  clear hr hc h8 h100 hu hx hw
  generalize hQ : Awake w = Q
  have HQ := Aside0.mk hQ
  clear hQ
  go_enter Try.func11, Try.ntmps11
  go_wp2_with fail
  refine HM.out.mono ?_
  rintro e w1 ⟨b, rfl, hT, hB⟩
  have HT := Aside0.mk (show TabI w1 w.heap.size (fun _ => True) b l from ⟨hT, H8.out, HU.out⟩)
  have HA := Aside0.mk (awake_then hB)
  clear hB HM hT
  go_wp2_with (first | (go_at_call 36; refine (rotate_shape w.heap.size b _ l x.length B d p w1 HT.out HX.out).mono ?_; rintro e w2 ⟨rfl, rfl⟩) | (go_at_call 30; refine HA.out.mono ?_; rintro e w2 ⟨rfl, hB⟩; have HB := Aside0.mk hB; clear hB))
  rw [← HQ.out]
  exact ⟨rfl, HB.out⟩
set_option maxRecDepth 100000 in
set_option maxHeartbeats 4000000 in
/-- There is no such position. -/
theorem rotates_out (A : Option Addr) (c : Nat) (l : List S54) (B : Option Addr) (d : Nat) (x : List Int) (p : Int) (w : World) (hr : Kd.C k54 w A l.length l) (hc : l.length ≤ c) (h8 : l.length ≤ 8) (h100 : x.length ≤ 100) (hu : Cz.Units l) (hx : x.length = 2 * l.length) (hp : p < 0 ∨ 1024 ≤ p) : Calls Try.prog 11 #[.slice A l.length c, .slice B x.length d, .int .i64 p] w (Awake w) := by
  have HM := Aside0.mk (made_yes A c l w hr hc h8 hu)
  have c0 : decide ((l.length : Int) > 8) = false := decide_eq_false (by omega)
  have c1 : decide (8 < (l.length : Int)) = false := decide_eq_false (by omega)
  have c2 : decide (8 < l.length) = false := decide_eq_false (by omega)
  have d0 : decide ((x.length : Int) > 100) = false := decide_eq_false (by omega)
  have d1 : decide (100 < (x.length : Int)) = false := decide_eq_false (by omega)
  have d2 : decide (100 < x.length) = false := decide_eq_false (by omega)
  have hw : wrap64 (2 * (l.length : Int)) = 2 * (l.length : Int) := by unfold wrap64; omega
  have e0 : ((x.length : Int) == (wrap64 (2 * (l.length : Int)))) = true := by rw [hw]; exact beq_iff_eq.mpr (by omega)
  have e1 : ((x.length : Int) != (wrap64 (2 * (l.length : Int)))) = false := by rw [hw]; exact bne_eq_false_iff_eq.mpr (by omega)
  have HX := Aside0.mk hx
  have HU := Aside0.mk hu
  have H8 := Aside0.mk h8
  have HP := Aside0.mk hp
  clear hr hc h8 h100 hu hx hw
  generalize hQ : Awake w = Q
  have HQ := Aside0.mk hQ
  clear hQ
  by_cases hp0 : p < 0
  all_goals
    first | (have f0 : decide (p < 0) = true := decide_eq_true hp0) | (have f0 : decide (p < 0) = false := decide_eq_false hp0; have f1 : decide (p ≥ 1024) = true := decide_eq_true (by omega); have f2 : decide (1024 ≤ p) = true := decide_eq_true (by omega))
    clear hp hp0
    go_enter Try.func11, Try.ntmps11
    go_wp2_with fail
    refine HM.out.mono ?_
    rintro e w1 ⟨b, rfl, hT, hB⟩
    have HT := Aside0.mk (show TabI w1 w.heap.size (fun _ => True) b l from ⟨hT, H8.out, HU.out⟩)
    have HA := Aside0.mk (awake_then hB)
    clear hB HM hT
    go_wp2_with (first | (go_at_call 36; refine (rotate_out w.heap.size b _ l x.length B d p w1 HT.out HX.out HP.out).mono ?_; rintro e w2 ⟨rfl, rfl⟩) | (go_at_call 30; refine HA.out.mono ?_; rintro e w2 ⟨rfl, hB⟩; have HB := Aside0.mk hB; clear hB))
    rw [← HQ.out]
    exact ⟨rfl, HB.out⟩
set_option maxRecDepth 100000 in
set_option maxHeartbeats 8000000 in
/-- The list is turned. -/
theorem rotates_ok (A : Option Addr) (c : Nat) (l : List S54) (B : Option Addr) (d : Nat) (x : List Int) (p : Int) (w : World) (hr : Kd.C k54 w A l.length l) (hc : l.length ≤ c) (h8 : l.length ≤ 8) (h100 : x.length ≤ 100) (hu : Cz.Units l) (hx : x.length = 2 * l.length) (h0 : 0 ≤ p) (h1 : p < 1024) (hb : Kd.C (Kd.int .i32) w B x.length x) (hd : x.length ≤ d) (hi : Cz.I32 x) (hlt : 0 < x.length → ∀ ad, B = some ad → ad.block < w.heap.size) : Calls Try.prog 11 #[.slice A l.length c, .slice B x.length d, .int .i64 p] w (Awake w) := by
  have HM := Aside0.mk (made_yes A c l w hr hc h8 hu)
  have c0 : decide ((l.length : Int) > 8) = false := decide_eq_false (by omega)
  have c1 : decide (8 < (l.length : Int)) = false := decide_eq_false (by omega)
  have c2 : decide (8 < l.length) = false := decide_eq_false (by omega)
  have d0 : decide ((x.length : Int) > 100) = false := decide_eq_false (by omega)
  have d1 : decide (100 < (x.length : Int)) = false := decide_eq_false (by omega)
  have d2 : decide (100 < x.length) = false := decide_eq_false (by omega)
  have hw : wrap64 (2 * (l.length : Int)) = 2 * (l.length : Int) := by unfold wrap64; omega
  have e0 : ((x.length : Int) == (wrap64 (2 * (l.length : Int)))) = true := by rw [hw]; exact beq_iff_eq.mpr (by omega)
  have e1 : ((x.length : Int) != (wrap64 (2 * (l.length : Int)))) = false := by rw [hw]; exact bne_eq_false_iff_eq.mpr (by omega)
  have f0 : decide (p < 0) = false := decide_eq_false (by omega)
  have f1 : decide (p ≥ 1024) = false := decide_eq_false (by omega)
  have f2 : decide (1024 ≤ p) = false := decide_eq_false (by omega)
  have HX := Aside0.mk hx
  have HU := Aside0.mk hu
  have H8 := Aside0.mk h8
  have HP := Aside0.mk (And.intro h0 h1)
  have HC := Aside0.mk hr
  have HL := Aside0.mk hc
  have HX1 := Aside0.mk hb
  have HX2 := Aside0.mk hd
  have HX3 := Aside0.mk hi
  have HX4 := Aside0.mk hlt
  have HF := Aside0.mk (Cz.refs_eq l (by omega) 1001 (by omega))
  have HN := Aside0.mk (Cz.rnarrowl_eq x (by omega) hi 1001 (by omega))
  have HRR : Aside0 (credenzaref16_Rotate.f 3001 (Cz.toR l) x p = some (Cz.rotR (atL l p) x)) := by
    have h3 := Cz.rrot_eq l x p.toNat (by omega) (by omega) hx hu hi 3001 (by omega)
    rw [show ((p.toNat : Nat) : Int) = p from by omega] at h3
    exact ⟨h3⟩
  have hl1 : (Cz.rotR (atL l p) x).length = x.length := Cz.rot_len _ _ (by rw [atL_len]; exact hx)
  have HS1 := Aside0.mk (Cz.same_self (Cz.rotR (atL l p) x) (by omega) 1001 (by omega))
  have hl2 : (Cz.narrowL x).length = x.length := List.length_map _
  have HS2 := Aside0.mk (Cz.same_self (Cz.narrowL x) (by omega) 1001 (by omega))
  have HZ : Aside0 (Cz.rotR (atL l 0) x = Cz.narrowL x) := by
    refine ⟨?_⟩
    have := Cz.rot_quarters 0 l.length x hx
    rw [← this]
    congr 1
    exact List.eq_replicate_iff.mpr ⟨atL_len l 0, fun b hb => by
      obtain ⟨t, _, rfl⟩ := List.mem_map.mp hb
      rfl⟩
  clear hr hc h8 h100 hu hx hw h0 h1 hb hd hi hlt hl1 hl2
  generalize hQ : Awake w = Q
  have HQ := Aside0.mk hQ
  clear hQ
  go_enter Try.func11, Try.ntmps11
  go_wp2_with fail
  refine HM.out.mono ?_
  rintro e w1 ⟨b, rfl, hT, hB⟩
  have HS := Aside0.mk (show St w w1 b l from ⟨hB, hT, H8.out, HU.out⟩)
  have HNE : Aside0 (0 < x.length → ∀ ad, B = some ad → ad.block ≠ b) := ⟨fun hp ad e he => by have := HX4.out hp ad e; have := hT.1; omega⟩
  have HY1 := Aside0.mk (Kd.C_below HX1.out hB)
  clear hB HM hT
  go_wp2_with fail
  refine (rotate_yes w.heap.size b _ l x B d p w1 HS.out.tab (st_base HS.out) HP.out.1 HP.out.2 HY1.out HX2.out HNE.out HX.out HX3.out).mono ?_
  rintro e w2 ⟨v2, rfl, hR, hT, hg⟩
  obtain ⟨A2, c2', ev⟩ := Kd.R_slice hR
  subst ev
  have HO2 := Aside0.mk hR
  have HS2' := Aside0.mk (st_ask HS.out hT hg)
  have HY2 := Aside0.mk (C_int_grown HY1.out hg HNE.out)
  clear hR hT hg HS HY1
  go_wp2_with fail
  refine (rotate_yes w.heap.size b _ l x B d 0 w2 HS2'.out.tab (st_base HS2'.out) (by decide) (by decide) HY2.out HX2.out HNE.out HX.out HX3.out).mono ?_
  rintro e w3 ⟨v3, rfl, hR, hT, hg⟩
  rw [HZ.out] at hR
  obtain ⟨A3, c3', ev⟩ := Kd.R_slice hR
  subst ev
  have HO3 := Aside0.mk hR
  have HO2' := Aside0.mk (R_ask HO2.out HS2'.out.tab hg neI)
  have HS3 := Aside0.mk (st_ask HS2'.out hT hg)
  have HY3 := Aside0.mk (C_int_grown HY2.out hg HNE.out)
  clear hR hT hg HS2' HY2 HO2
  go_wp2_with fail
  refine (credenzalaw16_refs.calls _ _ _ _ _ w3 (Kd.C_below HC.out HS3.out.bel) HL.out HF.out).mono ?_
  rintro e w4 ⟨v4, rfl, hR, hB⟩
  obtain ⟨A4, c4, ev⟩ := Kd.R_slice hR
  subst ev
  have HO4 := Aside0.mk hR
  have HS4 := Aside0.mk (st_below HS3.out hB)
  have HO2 := Aside0.mk (Kd.R_below HO2'.out hB)
  have HO3' := Aside0.mk (Kd.R_below HO3.out hB)
  have HY4 := Aside0.mk (Kd.C_below HY3.out hB)
  clear hR hB HO2' HO3 HS3 HY3
  go_wp2_with fail
  refine (credenzaref16_Rotate.calls 3001 A4 c4 (Cz.toR l) B d x p _ w4 (Kd.R_reads' HO4.out).2.2 (Kd.R_reads' HO4.out).2.1 HY4.out HX2.out HRR.out).mono ?_
  rintro e w5 ⟨v5, rfl, hR, hB⟩
  obtain ⟨A5, c5, ev⟩ := Kd.R_slice hR
  subst ev
  have HO5 := Aside0.mk hR
  have HS5 := Aside0.mk (st_below HS4.out hB)
  have HO2' := Aside0.mk (Kd.R_below HO2.out hB)
  have HO3 := Aside0.mk (Kd.R_below HO3'.out hB)
  have HY5 := Aside0.mk (Kd.C_below HY4.out hB)
  clear hR hB HO2 HO3' HS4 HY4 HO4
  go_wp2_with fail
  refine (credenzaref03_Same.calls 1001 _ _ _ _ _ _ true w5 (Kd.R_reads' HO2'.out).2.2 (Kd.R_reads' HO2'.out).2.1 (Kd.R_reads' HO5.out).2.2 (Kd.R_reads' HO5.out).2.1 HS1.out).mono ?_
  rintro e w6 ⟨rfl, hB⟩
  replace hB := hB.below
  have HS6 := Aside0.mk (st_below HS5.out hB)
  have HO3' := Aside0.mk (Kd.R_below HO3.out hB)
  have HY6 := Aside0.mk (Kd.C_below HY5.out hB)
  clear hB HS5 HO3 HY5 HO2' HO5
  go_wp2_with fail
  refine (credenzaref14_Narrow.calls 1001 B d x _ w6 HY6.out HX2.out HN.out).mono ?_
  rintro e w7 ⟨v7, rfl, hR, hB⟩
  obtain ⟨A7, c7, ev⟩ := Kd.R_slice hR
  subst ev
  have HO7 := Aside0.mk hR
  have HS7 := Aside0.mk (st_below HS6.out hB)
  have HO3 := Aside0.mk (Kd.R_below HO3'.out hB)
  clear hR hB HO3' HS6 HY6
  go_wp2_with fail
  refine (credenzaref03_Same.calls 1001 _ _ _ _ _ _ true w7 (Kd.R_reads' HO3.out).2.2 (Kd.R_reads' HO3.out).2.1 (Kd.R_reads' HO7.out).2.2 (Kd.R_reads' HO7.out).2.1 HS2.out).mono ?_
  rintro e w8 ⟨rfl, hB⟩
  replace hB := hB.below
  have HA := Aside0.mk (awake_then (st_below HS7.out hB).bel)
  clear hB HS7 HO3 HO7
  go_wp2_with (go_at_call 30; refine HA.out.mono ?_; rintro e w9 ⟨rfl, hB⟩; have HB := Aside0.mk hB; clear hB)
  rw [← HQ.out]
  exact ⟨rfl, HB.out⟩
/-- The whole walk. -/
theorem RopeRotates_calls (A : Option Addr) (c : Nat) (l : List S54) (B : Option Addr) (d : Nat) (x : List Int) (p : Int) (w : World) (hr : Kd.C k54 w A l.length l) (hc : l.length ≤ c) (h8 : l.length ≤ 8) (h100 : x.length ≤ 100) (hb : Kd.C (Kd.int .i32) w B x.length x) (hd : x.length ≤ d) (hi : Cz.I32 x) (hlt : 0 < x.length → ∀ ad, B = some ad → ad.block < w.heap.size) : Calls Try.prog 11 #[.slice A l.length c, .slice B x.length d, .int .i64 p] w (Awake w) := by
  by_cases hu : Cz.Units l
  · by_cases hx : x.length = 2 * l.length
    · by_cases hp : p < 0 ∨ 1024 ≤ p
      · exact rotates_out A c l B d x p w hr hc h8 h100 hu hx hp
      · exact rotates_ok A c l B d x p w hr hc h8 h100 hu hx (by omega) (by omega) hb hd hi hlt
    · exact rotates_shape A c l B d x p w hr hc h8 h100 hu hx
  · exact rotates_no A c l B d x p w hr hc h8 h100 hu
/-- For every input. -/
theorem RopeRotates_all (A : Option Addr) (c : Nat) (l : List S54) (B : Option Addr) (d : Nat) (x : List Int) (p : Int) (w : World) (hr : Kd.C k54 w A l.length l) (hc : l.length ≤ c) (hb : Kd.C (Kd.int .i32) w B x.length x) (hd : x.length ≤ d) (hi : Cz.I32 x) (hlt : 0 < x.length → ∀ ad, B = some ad → ad.block < w.heap.size) : Calls Try.prog 11 #[.slice A l.length c, .slice B x.length d, .int .i64 p] w (Awake w) := by
  by_cases h : 8 < l.length ∨ 100 < x.length
  · exact rotates_wide A B l.length x.length c d p w h
  · exact RopeRotates_calls A c l B d x p w hr hc (by omega) (by omega) hb hd hi hlt
end Go.Proofs.Ytmndomlpdajjmac.Rt
