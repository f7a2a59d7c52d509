/- Any turns make a table, or are refused, as the document says; at any position they are the document's: the statement's walk. -/
import Derived.Test.YtmndomlpdajjmacAwake
import Derived.Deep.QuietTactic
import Derived.BigQuiet
namespace Go.Proofs.Ytmndomlpdajjmac.Rt
open Go.RowKit Go.Proofs.YtmndomlpdajjmacW.PrintWords Go.Proofs.YtmndomlpdajjmacW.PrintLast Go.Proofs.YtmndomlpdajjmacW.PrintMore Go.Proofs.Ytmndomlpdajjmac.Pure
set_option linter.unusedVariables false
set_option linter.unusedSimpArgs false
set_option maxRecDepth 100000 in
set_option maxHeartbeats 4000000 in
/-- Too many: nothing is asked. -/
theorem turns_wide (A : Option Addr) (m c : Nat) (p : Int) (w : World) (h1 : 100 < m) : Calls Try.prog 10 #[.slice A m c, .int .i64 p] w (Awake w) := by
  have HA := Aside0.mk (awake_calls w)
  generalize hQ : Awake w = Q
  have HQ := Aside0.mk hQ
  clear hQ
  have c0 : decide ((m : Int) > 100) = true := decide_eq_true (by omega)
  have c1 : decide (100 < (m : Int)) = true := decide_eq_true (by omega)
  have c2 : decide (100 < m) = true := decide_eq_true h1
  clear h1
  go_enter Try.func10, Try.ntmps10
  go_wp2_with (go_at_call 30; refine HA.out.mono ?_; rintro e w1 ⟨rfl, hB⟩; have HB := Aside0.mk hB; clear hB)
  rw [← HQ.out]
  exact ⟨rfl, HB.out⟩
set_option maxRecDepth 100000 in
set_option maxHeartbeats 4000000 in
/-- No table. -/
theorem turns_no (A : Option Addr) (c : Nat) (l : List S54) (p : Int) (w : World) (hr : Kd.C k54 w A l.length l) (hc : l.length ≤ c) (h100 : l.length ≤ 100) (hu : 8 < l.length ∨ ¬ Cz.Units l) : Calls Try.prog 10 #[.slice A l.length c, .int .i64 p] w (Awake w) := by
  have HM := Aside0.mk (made_no A c l w hr hc (by omega) hu)
  have c0 : decide ((l.length : Int) > 100) = false := decide_eq_false (by omega)
  have c1 : decide (100 < (l.length : Int)) = false := decide_eq_false (by omega)
  have c2 : decide (100 < l.length) = false := decide_eq_false (by omega)
  clear hr hc h100 hu
  generalize hQ : Awake w = Q
  have HQ := Aside0.mk hQ
  clear hQ
  go_enter Try.func10, Try.ntmps10
  go_wp2_with fail
  refine HM.out.mono ?_
  rintro e w1 ⟨n, hn, rfl, hB⟩
  have HA := Aside0.mk (awake_then hB)
  clear hB HM
  rcases hn with rfl | rfl
  all_goals
    go_wp2_with (go_at_call 30; refine HA.out.mono ?_; rintro e w2 ⟨rfl, hB⟩; have HB := Aside0.mk hB; clear hB)
    rw [← HQ.out]
    exact ⟨rfl, HB.out⟩
set_option maxRecDepth 100000 in
set_option maxHeartbeats 4000000 in
/-- There is no such position. -/
theorem turns_out (A : Option Addr) (c : Nat) (l : List S54) (p : Int) (w : World) (hr : Kd.C k54 w A l.length l) (hc : l.length ≤ c) (h8 : l.length ≤ 8) (hu : Cz.Units l) (hp : p < 0 ∨ 1024 ≤ p) : Calls Try.prog 10 #[.slice A l.length c, .int .i64 p] w (Awake w) := by
  have HM := Aside0.mk (made_yes A c l w hr hc h8 hu)
  have c0 : decide ((l.length : Int) > 100) = false := decide_eq_false (by omega)
  have c1 : decide (100 < (l.length : Int)) = false := decide_eq_false (by omega)
  have c2 : decide (100 < l.length) = false := decide_eq_false (by omega)
  have HP := Aside0.mk hp
  clear hr hc h8 hu
  generalize hQ : Awake w = Q
  have HQ := Aside0.mk hQ
  clear hQ
  by_cases hp0 : p < 0
  all_goals
    first | (have f0 : decide (p < 0) = true := decide_eq_true hp0) | (have f0 : decide (p < 0) = false := decide_eq_false hp0; have f1 : decide (p ≥ 1024) = true := decide_eq_true (by omega); have f2 : decide (1024 ≤ p) = true := decide_eq_true (by omega))
    clear hp hp0
    go_enter Try.func10, Try.ntmps10
    go_wp2_with fail
    refine HM.out.mono ?_
    rintro e w1 ⟨b, rfl, hT, hB⟩
    have HB1 := Aside0.mk hB
    clear hB HM hT
    go_wp2_with fail
    refine (row_out b p w1 HP.out).mono ?_
    rintro e w2 ⟨v, rfl, hR, hB⟩
    obtain ⟨A2, c2, ev⟩ := Kd.R_slice hR
    subst ev
    have HA := Aside0.mk (awake_then (below_step HB1.out hB))
    clear hR hB
    go_wp2_with (go_at_call 30; refine HA.out.mono ?_; rintro e w2 ⟨rfl, hB⟩; have HB := Aside0.mk hB; clear hB)
    rw [← HQ.out]
    exact ⟨rfl, HB.out⟩
set_option maxRecDepth 100000 in
set_option maxHeartbeats 8000000 in
/-- Each turn is the document's. -/
theorem turns_ok (A : Option Addr) (c : Nat) (l : List S54) (p : Int) (w : World) (hr : Kd.C k54 w A l.length l) (hc : l.length ≤ c) (h8 : l.length ≤ 8) (hu : Cz.Units l) (h0 : 0 ≤ p) (h1 : p < 1024) : Calls Try.prog 10 #[.slice A l.length c, .int .i64 p] w (Awake w) := by
  have hu52 := Try.underlying52
  have hu54 := Try.underlying54
  have HM := Aside0.mk (made_yes A c l w hr hc h8 hu)
  have c0 : decide ((l.length : Int) > 100) = false := decide_eq_false (by omega)
  have c1 : decide (100 < (l.length : Int)) = false := decide_eq_false (by omega)
  have c2 : decide (100 < l.length) = false := decide_eq_false (by omega)
  have f0 : decide (p < 0) = false := decide_eq_false (by omega)
  have f1 : decide (p ≥ 1024) = false := decide_eq_false (by omega)
  have f2 : decide (1024 ≤ p) = false := decide_eq_false (by omega)
  have HU := Aside0.mk hu
  have H8 := Aside0.mk h8
  have HP := Aside0.mk (And.intro h0 h1)
  have HC := Aside0.mk hr
  have HL := Aside0.mk hc
  have HF := Aside0.mk (Cz.refs_eq l (by omega) 1001 (by omega))
  have g0 : ((l.length : Int) != (l.length : Int)) = false := by simp
  clear hr hc h8 hu h0 h1
  generalize hQ : Awake w = Q
  have HQ := Aside0.mk hQ
  clear hQ
  go_enter Try.func10, Try.ntmps10
  go_wp2_with fail
  refine HM.out.mono ?_
  rintro e w1 ⟨b, rfl, hT, hB⟩
  have HS := Aside0.mk (show St w w1 b l from ⟨hB, hT, H8.out, HU.out⟩)
  clear hB HM hT
  go_wp2_with fail
  refine (row_yes w.heap.size b _ l p w1 HS.out.tab (st_base HS.out) HP.out.1 HP.out.2).mono ?_
  rintro e w2 ⟨v2, rfl, hR, hT, hg⟩
  obtain ⟨A2, c2', ev⟩ := Kd.R_slice hR
  subst ev
  rw [atL_len] at hR ⊢
  have HO2 := Aside0.mk hR
  have HS2 := Aside0.mk (st_ask HS.out hT hg)
  clear hR hT hg HS
  have HT := Aside0.mk (turns_calls w.heap.size b _ l _ w2 HS2.out.tab.1)
  go_wp2_with (first | (go_at_call 33; refine HT.out.mono ?_; rintro e w3 ⟨rfl, rfl⟩) | (go_at_call 34; refine (credenzalaw16_refs.calls _ _ _ _ _ w2 (Kd.C_below HC.out HS2.out.bel) HL.out HF.out).mono ?_; rintro e w4 ⟨v4, rfl, hR, hB⟩; obtain ⟨A4, c4, ev⟩ := Kd.R_slice hR; subst ev; rw [Cz.toR_len] at hR ⊢; have HX := Aside0.mk (And.intro hR hB); clear hR hB))
  have HO4 := Aside0.mk (Kd.R_reads' HX.out.1)
  have HS4 := Aside0.mk (st_below HS2.out HX.out.2)
  have HO2' := Aside0.mk (Kd.R_reads' (Kd.R_below HO2.out HX.out.2))
  clear HS2 HO2 HT HX
  go_loopg [69] l.length (fun kq v69 w' => ∃ (i : Nat), v69 = .int .i64 (i : Int) ∧ Aside0 (i + kq = l.length) ∧ Aside0 (Below w4.heap.size w4 w'))
  case atStart => exact ⟨0, rfl, ⟨by omega⟩, ⟨Below.refl _ _⟩⟩
  case round =>
    obtain ⟨i, rfl, HI, HB2⟩ := hrel
    cases gk with
    | zero =>
      have hi := HI.out
      obtain rfl : i = l.length := by omega
      have e0 : decide ((l.length : Int) < (l.length : Int)) = false := decide_eq_false (by omega)
      have HA := Aside0.mk (awake_then (st_below HS4.out HB2.out).bel)
      clear hi
      go_wp2_with (go_at_call 30; refine HA.out.mono ?_; rintro e w9 ⟨rfl, hB⟩; have HB := Aside0.mk hB; clear hB)
      rw [← HQ.out]
      exact ⟨rfl, HB.out⟩
    | succ k1 =>
      have hi := HI.out
      have h8 := H8.out
      have hlt : i < l.length := by omega
      have e0 : decide ((i : Int) < (l.length : Int)) = true := decide_eq_true (by omega)
      have e1 : (i : Int) < (l.length : Int) := by omega
      have p0 : (0 : Int) ≤ (i : Int) := by omega
      have hw : wrap64 ((i : Int) + 1) = ((i + 1 : Nat) : Int) := by rw [Cz.w64 _ (by omega) (by omega)]; omega
      have hrd := Cz.rd52_at l i hlt
      have hl2 := Cz.toR_len l
      have hl3 := atL_len l p
      obtain ⟨ad, ea, hx0, hx1⟩ := at_T52 (Kd.C_below HO4.out.2.2 HB2.out) (i : Int) p0 (by rw [hl2]; omega)
      rw [hrd] at hx0 hx1
      subst ea
      have hrd2 := Cz.rdT_at (atL l p) i (by omega)
      obtain ⟨ad2, ea2, hy0, hy1⟩ := at_T54 (Kd.C_below HO2'.out.2.2 HB2.out) (i : Int) p0 (by rw [hl3]; omega)
      rw [hrd2] at hy0 hy1
      subst ea2
      have hat : (atL l p)[i] = Cz.atT l[i] p.toNat := by unfold atL; rw [List.getElem_map]
      rw [hat] at hy0 hy1
      simp only [Int.toNat_natCast] at hx0 hx1 hy0 hy1
      have hAT := Cz.rat_eq l[i] (HU.out _ (List.getElem_mem hlt)) p.toNat (by have := HP.out.2; omega) 3001 (by omega)
      rw [show ((p.toNat : Nat) : Int) = p from by have := HP.out.1; omega] at hAT
      obtain ⟨u, hu⟩ : ∃ u, u = Cz.atT l[i] p.toNat := ⟨_, rfl⟩
      rw [← hu] at hy0 hy1 hAT
      have HAT := Aside0.mk hAT
      have n0 : (u.f0 != u.f0) = false := by simp
      have n1 : (u.f1 != u.f1) = false := by simp
      have hp0 := eq_true p0
      have hc1 := eq_true e1
      clear hi hrd p0 e1 hat hu hrd2 hl2 hl3 h8 hAT
      go_wp2_with (go_at_call 35; refine (credenzaref16_At.calls 3001 _ _ _ _ _ _ HAT.out).mono ?_; rintro e w5 ⟨rfl, hB3⟩; have HB3 := Aside0.mk hB3; clear hB3)
      have HBr := Aside0.mk (show Below wr.heap.size wr (w5.alloc (Obj.cells #[.int .i32 u.f0, .int .i32 u.f1] 52)) from below_alloc (below_step (below_alloc (Below.refl _ _) _) HB3.out) _)
      have HBK := Aside0.mk (blk_new w5 (Obj.cells #[.int .i32 u.f0, .int .i32 u.f1] 52))
      generalize w5.alloc (Obj.cells #[.int .i32 u.f0, .int .i32 u.f1] 52) = W at HBr HBK ⊢
      generalize w5.heap.size = gb at HBK ⊢
      have hz0 : W.cell? ⟨gb, 0, none⟩ = some (.int .i32 u.f0) := (blk_cell HBK.out 0).trans rfl
      have hz1 : W.cell? ⟨gb, 1, none⟩ = some (.int .i32 u.f1) := (blk_cell HBK.out 1).trans rfl
      replace hy0 := pw_cell_below HBr.out hy0
      replace hy1 := pw_cell_below HBr.out hy1
      clear hx0 hx1
      go_quiet (fail)
      go_wp2
      go_roundg k1
      case measure => exact Nat.lt_succ_self _
      case rel => exact ⟨i + 1, by rw [hw], ⟨by have := HI.out; omega⟩, ⟨below_step HB2.out (by repeat (first | (with_reducible first | exact HBr.out | apply below_alloc | apply pw_below_drewN | apply below_drew1) | exact HBr.out))⟩⟩
/-- For every input. -/
theorem RopeTurns_all (A : Option Addr) (c : Nat) (l : List S54) (p : Int) (w : World) (hr : Kd.C k54 w A l.length l) (hc : l.length ≤ c) : Calls Try.prog 10 #[.slice A l.length c, .int .i64 p] w (Awake w) := by
  by_cases h : 100 < l.length
  · exact turns_wide A l.length c p w h
  · by_cases hu : 8 < l.length ∨ ¬ Cz.Units l
    · exact turns_no A c l p w hr hc (by omega) hu
    · have h8 : l.length ≤ 8 := Nat.not_lt.mp (fun h => hu (.inl h))
      have hu' : Cz.Units l := Classical.byContradiction (fun h => hu (.inr h))
      by_cases hp : p < 0 ∨ 1024 ≤ p
      · exact turns_out A c l p w hr hc h8 hu' hp
      · exact turns_ok A c l p w hr hc h8 hu' (by omega) (by omega)
end Go.Proofs.Ytmndomlpdajjmac.Rt
