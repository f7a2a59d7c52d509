/- Four quarter turns are none; two are the opposite: the statement's walk. -/
import Derived.Test.YtmndomlpdajjmacAwake
import Derived.Deep.QuietTactic
import Derived.BigQuiet
namespace Go.Proofs.Ytmndomlpdajjmac.Rt
open Go.RowKit Go.Proofs.YtmndomlpdajjmacW.PrintWords Go.Proofs.YtmndomlpdajjmacW.PrintLast Go.Proofs.YtmndomlpdajjmacW.PrintMore Go.Proofs.Ytmndomlpdajjmac.Pure
set_option linter.unusedVariables false
set_option linter.unusedSimpArgs false
set_option maxRecDepth 100000 in
set_option maxHeartbeats 4000000 in
/-- Too long. -/
theorem quarters_long (A : Option Addr) (c n : Nat) (p : Int) (w : World) (h : 16 < n) : Calls Try.prog 13 #[.slice A n c, .int .i64 p] w (Awake w) := by
  have HA := Aside0.mk (awake_calls w)
  have c0 : decide ((n : Int) > 16) = true := decide_eq_true (by omega)
  have c1 : decide (16 < (n : Int)) = true := decide_eq_true (by omega)
  have c2 : decide (16 < n) = true := decide_eq_true (by omega)
  clear h
  generalize hQ : Awake w = Q
  have HQ := Aside0.mk hQ
  clear hQ
  go_enter Try.func13, Try.ntmps13
  go_wp2_with (go_at_call 30; refine HA.out.mono ?_; rintro e w1 ⟨rfl, hB⟩; have HB := Aside0.mk hB; clear hB)
  rw [← HQ.out]
  exact ⟨rfl, HB.out⟩
set_option maxRecDepth 100000 in
set_option maxHeartbeats 4000000 in
/-- Of an odd size. -/
theorem quarters_odd (A : Option Addr) (c n : Nat) (p : Int) (w : World) (h : n ≤ 16 ∧ n % 2 ≠ 0) : Calls Try.prog 13 #[.slice A n c, .int .i64 p] w (Awake w) := by
  have HA := Aside0.mk (awake_calls w)
  have c0 : decide ((n : Int) > 16) = false := decide_eq_false (by omega)
  have c1 : decide (16 < (n : Int)) = false := decide_eq_false (by omega)
  have c2 : decide (16 < n) = false := decide_eq_false (by omega)
  obtain ⟨q, hq⟩ : ∃ q : Int, Int.tmod (n : Int) 2 = q := ⟨_, rfl⟩
  have hq2 : (n : Int) % 2 = q := by rw [← hq, Int.tmod_eq_emod_of_nonneg (by omega)]
  have e0 : (q == 0) = false := beq_eq_false_iff_ne.mpr (by omega)
  have e1 : (q != 0) = true := bne_iff_ne.mpr (by omega)
  clear h
  generalize hQ : Awake w = Q
  have HQ := Aside0.mk hQ
  clear hQ
  go_enter Try.func13, Try.ntmps13
  go_wp2_with (go_at_call 30; refine HA.out.mono ?_; rintro e w1 ⟨rfl, hB⟩; have HB := Aside0.mk hB; clear hB)
  rw [← HQ.out]
  exact ⟨rfl, HB.out⟩
set_option maxRecDepth 100000 in
set_option maxHeartbeats 4000000 in
/-- No position. -/
theorem quarters_below (A : Option Addr) (c n : Nat) (p : Int) (w : World) (h : n ≤ 16 ∧ n % 2 = 0 ∧ p < 0) : Calls Try.prog 13 #[.slice A n c, .int .i64 p] w (Awake w) := by
  have HA := Aside0.mk (awake_calls w)
  have c0 : decide ((n : Int) > 16) = false := decide_eq_false (by omega)
  have c1 : decide (16 < (n : Int)) = false := decide_eq_false (by omega)
  have c2 : decide (16 < n) = false := decide_eq_false (by omega)
  obtain ⟨q, hq⟩ : ∃ q : Int, Int.tmod (n : Int) 2 = q := ⟨_, rfl⟩
  have hq2 : (n : Int) % 2 = q := by rw [← hq, Int.tmod_eq_emod_of_nonneg (by omega)]
  have e0 : (q == 0) = true := beq_iff_eq.mpr (by omega)
  have e1 : (q != 0) = false := bne_eq_false_iff_eq.mpr (by omega)
  have f0 : decide (p < 0) = true := decide_eq_true (by omega)
  clear h
  generalize hQ : Awake w = Q
  have HQ := Aside0.mk hQ
  clear hQ
  go_enter Try.func13, Try.ntmps13
  go_wp2_with (go_at_call 30; refine HA.out.mono ?_; rintro e w1 ⟨rfl, hB⟩; have HB := Aside0.mk hB; clear hB)
  rw [← HQ.out]
  exact ⟨rfl, HB.out⟩
set_option maxRecDepth 100000 in
set_option maxHeartbeats 4000000 in
/-- No such position. -/
theorem quarters_above (A : Option Addr) (c n : Nat) (p : Int) (w : World) (h : n ≤ 16 ∧ n % 2 = 0 ∧ 0 ≤ p ∧ 255 < p) : Calls Try.prog 13 #[.slice A n c, .int .i64 p] w (Awake w) := by
  have HA := Aside0.mk (awake_calls w)
  have c0 : decide ((n : Int) > 16) = false := decide_eq_false (by omega)
  have c1 : decide (16 < (n : Int)) = false := decide_eq_false (by omega)
  have c2 : decide (16 < n) = false := decide_eq_false (by omega)
  obtain ⟨q, hq⟩ : ∃ q : Int, Int.tmod (n : Int) 2 = q := ⟨_, rfl⟩
  have hq2 : (n : Int) % 2 = q := by rw [← hq, Int.tmod_eq_emod_of_nonneg (by omega)]
  have e0 : (q == 0) = true := beq_iff_eq.mpr (by omega)
  have e1 : (q != 0) = false := bne_eq_false_iff_eq.mpr (by omega)
  have f0 : decide (p < 0) = false := decide_eq_false (by omega)
  have f1 : decide (p > 255) = true := decide_eq_true (by omega)
  have f2 : decide (255 < p) = true := decide_eq_true (by omega)
  clear h
  generalize hQ : Awake w = Q
  have HQ := Aside0.mk hQ
  clear hQ
  go_enter Try.func13, Try.ntmps13
  go_wp2_with (go_at_call 30; refine HA.out.mono ?_; rintro e w1 ⟨rfl, hB⟩; have HB := Aside0.mk hB; clear hB)
  rw [← HQ.out]
  exact ⟨rfl, HB.out⟩
set_option maxRecDepth 100000 in
set_option maxHeartbeats 4000000 in
/-- The list is turned. -/
theorem quarters_ok (A : Option Addr) (c m : Nat) (x : List Int) (p : Int) (w : World) (hx : x.length = 2 * m) (h8 : m ≤ 8) (h0 : 0 ≤ p) (h1 : p ≤ 255) (hb : Kd.C (Kd.int .i32) w A x.length x) (hd : x.length ≤ c) (hi : Cz.I32 x) (hlt : 0 < x.length → ∀ ad, A = some ad → ad.block < w.heap.size) :
    Calls Try.prog 13 #[.slice A x.length c, .int .i64 p] w (Awake w) := by
  have hu54 := Try.underlying54
  obtain ⟨n, hn⟩ : ∃ n, n = x.length := ⟨_, rfl⟩
  rw [← hn] at hb ⊢
  have c0 : decide ((n : Int) > 16) = false := decide_eq_false (by omega)
  have c1 : decide (16 < (n : Int)) = false := decide_eq_false (by omega)
  have c2 : decide (16 < n) = false := decide_eq_false (by omega)
  obtain ⟨q, hq⟩ : ∃ q : Int, Int.tmod (n : Int) 2 = q := ⟨_, rfl⟩
  have hq2 : (n : Int) % 2 = q := by rw [← hq, Int.tmod_eq_emod_of_nonneg (by omega)]
  have e0 : (q == 0) = true := beq_iff_eq.mpr (by omega)
  have e1 : (q != 0) = false := bne_eq_false_iff_eq.mpr (by omega)
  have f0 : decide (p < 0) = false := decide_eq_false (by omega)
  have f1 : decide (p > 255) = false := decide_eq_false (by omega)
  have f2 : decide (255 < p) = false := decide_eq_false (by omega)
  have g0 : Int.tdiv (n : Int) 2 = (m : Int) := by rw [Int.tdiv_eq_ediv_of_nonneg (by omega)]; omega
  have g1 : (n : Int) / 2 = (m : Int) := by omega
  have g2 : wrap64 (m : Int) = (m : Int) := Cz.w64 _ (by omega) (by omega)
  obtain ⟨P4, hP4⟩ : ∃ P4 : Int, P4 = 4 * p := ⟨_, rfl⟩
  have w4 : wrap64 (4 * p) = P4 := by rw [Cz.w64 _ (by omega) (by omega), hP4]
  obtain ⟨P6, hP6⟩ : ∃ P6 : Int, P6 = P4 + 2 := ⟨_, rfl⟩
  have w6 : wrap64 (P4 + 2) = P6 := by rw [Cz.w64 _ (by omega) (by omega), hP6]
  have HP4 : Aside0 (0 ≤ P4 ∧ P4 < 1024 ∧ P4.toNat = 4 * p.toNat) := ⟨by omega⟩
  have HP6 : Aside0 (0 ≤ P6 ∧ P6 < 1024 ∧ P6.toNat = 4 * p.toNat + 2) := ⟨by omega⟩
  have HX1 := Aside0.mk hb
  have HX2 := Aside0.mk hd
  have HX3 := Aside0.mk hi
  have HX4 := Aside0.mk hlt
  have HX5 := Aside0.mk hx
  have HX6 := Aside0.mk hn
  have H8 := Aside0.mk h8
  have hl2 : (Cz.narrowL x).length = n := by rw [hn]; exact List.length_map _
  have HS2 := Aside0.mk (Cz.same_self (Cz.narrowL x) (by omega) 1001 (by omega))
  have HN := Aside0.mk (Cz.rnarrowl_eq x (by omega) hi 1001 (by omega))
  clear hx h8 h0 h1 hb hd hi hlt hn hP4 hP6
  generalize hQ : Awake w = Q
  have HQ := Aside0.mk hQ
  clear hQ
  go_enter Try.func13, Try.ntmps13
  go_wp2_with fail
  simp only [g2]
  have HB := Aside0.mk (Below.refl w.heap.size w)
  go_loopg [5, 34] m (fun kq v5 v34 w' => ∃ (i : Nat), v34 = .int .i64 (i : Int) ∧ Aside0 (i + kq = m) ∧ Aside0 (Kd.R k54 54 w' w.heap.size (fun _ => True) v5 (List.replicate i (⟨0, 65536⟩ : S54))) ∧ Aside0 (Below w.heap.size w w'))
  case atStart => exact ⟨0, rfl, ⟨by omega⟩, ⟨Kd.R_nil _ _ _ _ _⟩, ⟨HB.out⟩⟩
  case round =>
    clear HB
    obtain ⟨i, rfl, HI, HO, HB⟩ := hrel
    cases gk with
    | succ k1 =>
      have hi := HI.out
      have h8 := H8.out
      have e2 : decide ((i : Int) < (m : Int)) = true := decide_eq_true (by omega)
      have e3 : decide (i < m) = true := decide_eq_true (by omega)
      have hw : wrap64 ((i : Int) + 1) = ((i + 1 : Nat) : Int) := by rw [Cz.w64 _ (by omega) (by omega)]; omega
      have hrp := Aside0.mk (show List.replicate i (⟨0, 65536⟩ : S54) ++ [⟨0, 65536⟩] = List.replicate (i + 1) ⟨0, 65536⟩ from List.replicate_succ'.symm)
      have hrl := Aside0.mk (show (List.replicate i (⟨0, 65536⟩ : S54)).length = i from List.length_replicate)
      clear hi h8
      go_wp2_with ((with_reducible refine gate_builtin (b := .append) (xs := #[.tmp 36, .tmp 38]) rfl ?_); at_builtin; refine Kd.R_append k54 (w0 := w) w.heap.size rfl (.tmp 36) (.tmp 38) 42 54 (.agg #[(.int .i32 0), (.int .i32 0)]) 8 rfl Try.underlying42 info54 rfl (by decide) (by omega) u5 (List.replicate i (⟨0, 65536⟩ : S54)) (⟨0, 65536⟩ : S54) [.int .i32 0, .int .i32 65536] (fun _ => True) (fun _ => False) rfl (by first | (go_simp; done) | (go_simp; rfl)) ?aP (fun _ hk => hk.elim) ?aF ?aO ?aB ?aS ?aL ?_; (case aP => exact k54_mkM _ _ _ (⟨0, 65536⟩ : S54)); (case aB => exact HB.out); (case aF => exact (fun _ _ => trivial)); (case aO => exact HO.out); (case aS => exact (below_size HB.out)); (case aL => have := hrl.out; have := HI.out; have := H8.out; omega); intro v1 w1 ho hb hg hat; rw [hrp.out] at ho; have HB1 := Aside0.mk hb; have HO1 := Aside0.mk ho; clear ho hb hg hat)
      go_roundg k1
      case measure => exact Nat.lt_succ_self _
      case rel => exact ⟨i + 1, by rw [hw], ⟨by have := HI.out; omega⟩, HO1, HB1⟩
    | zero =>
      have hi := HI.out
      obtain rfl : i = m := by omega
      have e2 : decide ((i : Int) < (i : Int)) = false := decide_eq_false (by omega)
      clear hi
      obtain ⟨A5, c5, ev⟩ := Kd.R_slice HO.out
      subst ev
      have hR5 := Kd.R_reads' HO.out
      have hlr : (List.replicate i (⟨0, 65536⟩ : S54)).length = i := List.length_replicate
      have hqu : Cz.Units (List.replicate i (⟨0, 65536⟩ : S54)) := fun t ht => by
        obtain rfl := List.eq_of_mem_replicate ht
        exact ⟨by decide, by decide, by decide, by decide⟩
      have HU := Aside0.mk hqu
      have HLR := Aside0.mk hlr
      have hM := (made_yes A5 c5 (List.replicate i (⟨0, 65536⟩ : S54)) wr hR5.2.2 hR5.2.1 (by rw [hlr]; exact H8.out) hqu)
      rw [hlr] at hM
      have HM := Aside0.mk hM
      clear hM
      clear hR5 hlr hqu
      go_wp2_with fail
      ((with_reducible refine HM.out.mono ?_); rintro e w1 ⟨b, rfl, hT, hB⟩)
      have HS := Aside0.mk (show St w w1 b (List.replicate i (⟨0, 65536⟩ : S54)) from ⟨below_step HB.out hB, tab_low hT HB.out.size, by rw [HLR.out]; exact H8.out, HU.out⟩)
      have HXL : Aside0 (x.length = 2 * (List.replicate i (⟨0, 65536⟩ : S54)).length) := ⟨by rw [HLR.out]; exact HX5.out⟩
      have HNE : Aside0 (0 < x.length → ∀ ad, A = some ad → ad.block ≠ b) := ⟨fun hp ad e he => by have := HX4.out hp ad e; have := HS.out.tab.1.1; omega⟩
      have HY1 := Aside0.mk (show Kd.C (Kd.int .i32) w1 A x.length x from by rw [← HX6.out]; exact Kd.C_below HX1.out HS.out.bel)
      have HX2' := Aside0.mk (show x.length ≤ c from HX2.out)
      clear hB HM hT HB HO HI
      have h36 := rotate_yes w.heap.size b _ _ x A c P4 w1 HS.out.tab (st_base HS.out) HP4.out.1 HP4.out.2.1 HY1.out HX2'.out HNE.out HXL.out HX3.out
      rw [← HX6.out] at h36
      have H36 := Aside0.mk h36
      clear h36
      go_wp2_with fail
      ((with_reducible refine H36.out.mono ?_); rintro e w2 ⟨v2, rfl, hR, hT, hg⟩)
      have e4 : Cz.rotR (atL (List.replicate i (⟨0, 65536⟩ : S54)) P4) x = Cz.narrowL x := by
        rw [← Cz.rot_quarters 0 i x HX5.out]
        congr 1
        unfold atL
        rw [List.map_replicate, HP4.out.2.2, Cz.quarter_four]
      rw [e4] at hR
      obtain ⟨A2, c2', ev⟩ := Kd.R_slice hR
      subst ev
      rw [hl2] at hR ⊢
      have HO2 := Aside0.mk hR
      have HS2' := Aside0.mk (st_ask HS.out hT hg)
      have HY2 := Aside0.mk (C_int_grown HY1.out hg HNE.out)
      clear hR hT hg HS HY1 e4 H36
      have h36 := rotate_yes w.heap.size b _ _ x A c P6 w2 HS2'.out.tab (st_base HS2'.out) HP6.out.1 HP6.out.2.1 HY2.out HX2'.out HNE.out HXL.out HX3.out
      rw [← HX6.out] at h36
      have H36 := Aside0.mk h36
      clear h36
      go_wp2_with fail
      ((with_reducible refine H36.out.mono ?_); rintro e w3 ⟨v3, rfl, hR, hT, hg⟩)
      have e4 : Cz.rotR (atL (List.replicate i (⟨0, 65536⟩ : S54)) P6) x = (Cz.narrowL x).map fun v => -v := by
        rw [← Cz.rot_halves i x HX5.out]
        congr 1
        unfold atL
        rw [List.map_replicate, HP6.out.2.2, Cz.quarter_two]
      rw [e4] at hR
      have hl3 : ((Cz.narrowL x).map fun v => -v).length = n := by rw [List.length_map, hl2]
      obtain ⟨A3, c3', ev⟩ := Kd.R_slice hR
      subst ev
      rw [hl3] at hR ⊢
      have HO3 := Aside0.mk hR
      have HO2' := Aside0.mk (R_ask HO2.out HS2'.out.tab hg neI)
      have HS3 := Aside0.mk (st_ask HS2'.out hT hg)
      have HY3 := Aside0.mk (C_int_grown HY2.out hg HNE.out)
      have hnn : ((n : Int) != (n : Int)) = false := by simp
      clear hR hT hg HS2' HY2 HO2 e4 H36
      have h38 := credenzaref14_Narrow.calls 1001 A c x _ w3 HY3.out HX2'.out HN.out
      rw [← HX6.out] at h38
      have H38 := Aside0.mk h38
      clear h38
      have hnot : ∀ (x : Bool) (w : World), (Op.unary .not (.bool x)).run Try.prog w = .ok (.bool (!x)) w := fun _ _ => rfl
      go_wp2_with fail
      ((with_reducible refine H38.out.mono ?_); rintro e w7 ⟨v7, rfl, hR, hB⟩)
      obtain ⟨A7, c7, ev⟩ := Kd.R_slice hR
      subst ev
      rw [hl2] at hR ⊢
      have HO7 := Aside0.mk hR
      have HS7 := Aside0.mk (st_below HS3.out hB)
      have HO3' := Aside0.mk (Kd.R_below HO3.out hB)
      have HO2 := Aside0.mk (Kd.R_below HO2'.out hB)
      clear hR hB HO3 HS3 HY3 HO2' H38
      have h21 := credenzaref03_Same.calls 1001 A2 c2' _ A7 c7 _ true w7 (Kd.R_reads' HO2.out).2.2 (by rw [hl2]; exact (Kd.R_reads' HO2.out).2.1) (Kd.R_reads' HO7.out).2.2 (by rw [hl2]; exact (Kd.R_reads' HO7.out).2.1) HS2.out
      rw [hl2] at h21
      have H21 := Aside0.mk h21
      clear h21
      go_wp2_with fail
      ((with_reducible refine H21.out.mono ?_); rintro e w8 ⟨rfl, hB⟩)
      replace hB := hB.below
      have HS8 := Aside0.mk (st_below HS7.out hB)
      have HO3 := Aside0.mk (Kd.R_reads' (Kd.R_below HO3'.out hB)).2.2
      have HO2' := Aside0.mk (Kd.R_reads' (Kd.R_below HO2.out hB)).2.2
      clear hB HS7 HO3' HO7 HO2 H21
      go_wp2_with fail
      clear hq hq2 e0 e1 g0 g1 g2 w4 w6
      go_loopg [87] n (fun kq v87 w' => ∃ (j : Nat), v87 = .int .i64 (j : Int) ∧ Aside0 (j + kq = n) ∧ Aside0 (Below w8.heap.size w8 w'))
      case atStart => exact ⟨0, rfl, ⟨by omega⟩, ⟨Below.refl _ _⟩⟩
      case round =>
        obtain ⟨j, rfl, HI, HB2⟩ := hrel
        cases gk with
        | zero =>
          have hi := HI.out
          obtain rfl : j = n := by omega
          have e5 : decide ((j : Int) < (j : Int)) = false := decide_eq_false (by omega)
          have HA := Aside0.mk (awake_then (st_below HS8.out HB2.out).bel)
          clear hi
          go_wp2_with (go_at_call 30; refine HA.out.mono ?_; rintro e w9 ⟨rfl, hB⟩; have HB := Aside0.mk hB; clear hB)
          rw [← HQ.out]
          exact ⟨rfl, HB.out⟩
        | succ k1 =>
          have hi := HI.out
          have hlt : j < n := by omega
          have hm := HX5.out
          have hn := HX6.out
          have h8 := H8.out
          have e5 : decide ((j : Int) < (n : Int)) = true := decide_eq_true (by omega)
          have e6 : decide (j < n) = true := decide_eq_true (by omega)
          have e7 : (j : Int) < (n : Int) := by omega
          have p0 : (0 : Int) ≤ (j : Int) := by omega
          have hw : wrap64 ((j : Int) + 1) = ((j + 1 : Nat) : Int) := Cz.w64_succ j n hlt (by omega)
          obtain ⟨ad, ea, hx0⟩ := Kd.at_int (Kd.C_below HO2'.out HB2.out) (j : Int) p0 (by rw [hl2]; omega)
          subst ea
          obtain ⟨ad2, ea2, hy0⟩ := Kd.at_int (Kd.C_below HO3.out HB2.out) (j : Int) p0 (by rw [hl3]; omega)
          subst ea2
          have hneg : rd ((Cz.narrowL x).map fun v => -v) (j : Int) = -(rd (Cz.narrowL x) (j : Int)) := by
            unfold rd
            rw [Int.toNat_natCast, List.getD_eq_getElem?_getD, List.getD_eq_getElem?_getD, List.getElem?_map, List.getElem?_eq_getElem (by omega : j < (Cz.narrowL x).length)]
            rfl
          have hyr : -8388608 ≤ rd (Cz.narrowL x) (j : Int) ∧ rd (Cz.narrowL x) (j : Int) ≤ 8388608 := by
            have hmem := Cz.rd_mem (Cz.narrowL x) j (by omega)
            obtain ⟨v, _, hv⟩ := List.mem_map.mp hmem
            rw [← hv]
            exact Cz.narrow_range v
          rw [hneg] at hy0
          obtain ⟨Y, hY⟩ : ∃ Y, Y = rd (Cz.narrowL x) (j : Int) := ⟨_, rfl⟩
          rw [← hY] at hx0 hy0 hyr
          have m0 : wrap32 (-Y) = -Y := Cz.w32 _ (by omega) (by omega)
          have m1 : IntKind.i32.wrap (-Y) = -Y := (i32_w _).trans m0
          have m2 : (-Y != -Y) = false := by simp
          simp only [Int.toNat_natCast] at hx0 hy0
          have hp0 := eq_true p0
          have hc1 := eq_true e7
          clear hi p0 e7 hneg hyr hY hm hn h8
          go_wp2
          go_quiet (fail)
          go_wp2
          go_roundg k1
          case measure => exact Nat.lt_succ_self _
          case rel => exact ⟨j + 1, by rw [hw], ⟨by have := HI.out; omega⟩, ⟨by repeat (first | (with_reducible first | exact HB2.out | apply below_alloc | apply pw_below_drewN | apply below_drew1) | exact HB2.out)⟩⟩
/-- For every input. -/
theorem RopeQuarters_all (A : Option Addr) (c : Nat) (x : List Int) (p : Int) (w : World) (hb : Kd.C (Kd.int .i32) w A x.length x) (hd : x.length ≤ c) (hi : Cz.I32 x) (hlt : 0 < x.length → ∀ ad, A = some ad → ad.block < w.heap.size) :
    Calls Try.prog 13 #[.slice A x.length c, .int .i64 p] w (Awake w) := by
  by_cases h : 16 < x.length
  · exact quarters_long A c x.length p w h
  · by_cases h2 : x.length % 2 ≠ 0
    · exact quarters_odd A c x.length p w ⟨by omega, h2⟩
    · by_cases h3 : p < 0
      · exact quarters_below A c x.length p w ⟨by omega, by omega, h3⟩
      · by_cases h4 : 255 < p
        · exact quarters_above A c x.length p w ⟨by omega, by omega, by omega, h4⟩
        · exact quarters_ok A c (x.length / 2) x p w (by omega) (by omega) (by omega) (by omega) hb hd hi hlt
end Go.Proofs.Ytmndomlpdajjmac.Rt
