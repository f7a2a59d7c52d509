/- Whatever was asked of a table ahead it tells the same; what it told, spoilt, plays no part: the statement's walk. -/
import Derived.Test.YtmndomlpdajjmacAwake
import Derived.Deep.QuietTactic
import Derived.BigQuiet
namespace Go.Proofs.Ytmndomlpdajjmac.Rt
open Go.RowKit Go.Proofs.YtmndomlpdajjmacW.PrintWords Go.Proofs.YtmndomlpdajjmacW.PrintLast Go.Proofs.YtmndomlpdajjmacW.PrintMore Go.Proofs.Ytmndomlpdajjmac.Pure
set_option linter.unusedVariables false
set_option linter.unusedSimpArgs false
theorem eqA54 (d : Nat) (w : World) (x0 y0 : Int) (x1 y1 : Int) :
    (Op.equalIn (d + 2) 54 (.agg #[.int .i32 x0, .int .i32 x1]) (.agg #[.int .i32 y0, .int .i32 y1])).run Try.prog w = .ok (x0 == y0 && (x1 == y1)) w := by
  refine eqA_of Try.underlying54 (by kernel_rfl) ?_
  refine eqf_cons (by rfl) (by go_simp; rfl) (by go_simp; rfl) (by go_simp) ?_
  exact eqf_last (by rfl) (by go_simp; rfl) (by go_simp; rfl) (by go_simp)
attribute [local go_sem high] eqA54
/-- What is told of any position. -/
def rowX (l : List S54) (p : Int) : List S54 := if 0 ≤ p ∧ p < 1024 then atL l p else []
def errX (p : Int) : Int := if 0 ≤ p ∧ p < 1024 then 0 else 11
theorem rowX_len (l : List S54) (p : Int) : (rowX l p).length ≤ l.length := by
  unfold rowX
  split
  · rw [atL_len]; exact Nat.le_refl _
  · exact Nat.zero_le _
def RowAny (w : World) (base : Nat) (ok : Nat → Prop) (b : Nat) (l : List S54) (p : Int) (e : Ending) (w' : World) : Prop :=
  ∃ v : Value, e = .returned (.tuple #[v, .int .i64 (errX p)]) ∧ Kd.R k54 54 w' w.heap.size (fun _ => True) v (rowX l p) ∧ TabI w' base (fun k => (ok k ∨ w.heap.size ≤ k) ∧ some k ≠ v.ownBlock) b l ∧ w.grownBy w' (some b)
theorem row_any (base b : Nat) (ok : Nat → Prop) (l : List S54) (p : Int) (w : World) (hT : TabI w base ok b l) (hbase : base ≤ w.heap.size) : Calls Try.prog 32 #[.pointer (some ⟨b, 0, none⟩), .int .i64 p] w (RowAny w base ok b l p) := by
  by_cases hp : 0 ≤ p ∧ p < 1024
  · refine (row_yes base b ok l p w hT hbase hp.1 hp.2).mono ?_
    rintro e w' ⟨v, rfl, hR, hT, hg⟩
    refine ⟨v, ?_, ?_, hT, hg⟩
    · unfold errX; rw [if_pos hp]
    · unfold rowX; rw [if_pos hp]; exact hR
  · refine (row_out b p w (by omega)).mono ?_
    rintro e w' ⟨v, rfl, hR, hB⟩
    refine ⟨v, ?_, ?_, ⟨tab_mono (tab_elder hT.1 (Kd.R_base hR) hB) (fun k hk => ⟨.inl hk.1, hk.2⟩), hT.2⟩, ⟨hB.os, hB.tape, hB.output, hB.size, fun k hk _ => hB.block k hk⟩⟩
    · unfold errX; rw [if_neg hp]
    · unfold rowX; rw [if_neg hp]; exact hR
/-- The first i numbers put up by one. -/
def incL (r : List S54) (i : Nat) : List S54 := (r.take i).map (fun t => ⟨wrap32 (t.f0 + 1), t.f1⟩) ++ r.drop i
theorem incL_len (r : List S54) (i : Nat) : (incL r i).length = r.length := by unfold incL; rw [List.length_append, List.length_map, List.length_take, List.length_drop]; omega
theorem incL_at (r : List S54) (i : Nat) (h : i < r.length) : rd_T54 (incL r i) (i : Int) = r[i] := by
  rw [Cz.rdT_at _ i (by rw [incL_len]; exact h)]
  unfold incL
  rw [List.getElem_append_right (by rw [List.length_map, List.length_take]; omega)]
  simp only [List.length_map, List.length_take, List.getElem_drop]
  congr 1
  omega
theorem incL_set (r : List S54) (i : Nat) (h : i < r.length) : (incL r i).set i ⟨wrap32 (r[i].f0 + 1), r[i].f1⟩ = incL r (i + 1) := by
  unfold incL
  rw [List.set_append_right _ _ (by rw [List.length_map, List.length_take]; omega), List.length_map, List.length_take, show i - min i r.length = 0 from by omega, List.drop_eq_getElem_cons h, List.set_cons_zero, List.take_succ_eq_append_getElem h, List.map_append, List.append_assoc]
  rfl
/-- A turn's first number stored. -/
theorem turn_put {W : World} {base g n cap : Nat} {ok : Nat → Prop} {xs : List S54} (h : Kd.R k54 54 W base ok (.slice (some ⟨g, 0, none⟩) n cap) xs) (i : Nat) (hi : i < n) (v : Int) :
    Kd.R k54 54 (W.setCell ⟨g, i * 2, none⟩ (.int .i32 v)) base ok (.slice (some ⟨g, 0, none⟩) n cap) (xs.set i ⟨v, (rd_T54 xs (i : Int)).f1⟩) ∧ W.grownBy (W.setCell ⟨g, i * 2, none⟩ (.int .i32 v)) (some g) ∧
    W.cell? ⟨g, i * 2, none⟩ = some (.int .i32 (rd_T54 xs (i : Int)).f0) ∧ W.cell? ⟨g, i * 2 + 1, none⟩ = some (.int .i32 (rd_T54 xs (i : Int)).f1) ∧ W.frozen? ⟨g, i * 2, none⟩ = false := by
  obtain ⟨c, hcl, hM, hcc, hfr⟩ := Kd.R_elem h z54 (i : Int) (by omega) (by omega)
  obtain rfl := k54_openM hM
  have hseg := Kd.R_seg h (i : Int) (by omega) (by omega) (seg := [.int .i32 v]) (j := 0) (okp := fun _ => False) hcl hcc (show 1 ≤ 2 from by decide) (x' := (⟨v, (rd_T54 xs (i : Int)).f1⟩ : S54)) (k54_mkM _ _ _ (⟨v, (rd_T54 xs (i : Int)).f1⟩ : S54)) (fun _ hk => hk.elim)
  rw [Int.toNat_natCast] at hseg
  have h0 := hcc 0 _ rfl
  have h1 := hcc 1 _ rfl
  have hf := hfr 0
  rw [Int.toNat_natCast] at h0 h1 hf
  exact ⟨hseg.1, hseg.2, h0, h1, hf⟩
theorem guard54 (a b c d : Int) (x y : Operand) (w : World) : (eqGuard .neq 54 x y (.agg #[.int .i32 a, .int .i32 b]) (.agg #[.int .i32 c, .int .i32 d])).run Try.prog w = .ok () w := by kernel_rfl
set_option maxRecDepth 100000 in
set_option maxHeartbeats 4000000 in
/-- Too many turns. -/
theorem once_many (A B : Option Addr) (m n c d : Nat) (w : World) (h : 8 < m) : Calls Try.prog 12 #[.slice A m c, .slice B n d] w (Awake w) := by
  have HA := Aside0.mk (awake_calls w)
  have c0 : decide ((m : Int) > 8) = true := decide_eq_true (by omega)
  have c1 : decide (8 < (m : Int)) = true := decide_eq_true (by omega)
  have c2 : decide (8 < m) = true := decide_eq_true (by omega)
  clear h
  generalize hQ : Awake w = Q
  have HQ := Aside0.mk hQ
  clear hQ
  go_enter Try.func12, Try.ntmps12
  go_wp2_with (go_at_call 30; refine HA.out.mono ?_; rintro e w1 ⟨rfl, hB⟩; have HB := Aside0.mk hB; clear hB)
  rw [← HQ.out]
  exact ⟨rfl, HB.out⟩
set_option maxRecDepth 100000 in
set_option maxHeartbeats 4000000 in
/-- Too many positions. -/
theorem once_long (A B : Option Addr) (m n c d : Nat) (w : World) (h : m ≤ 8 ∧ 12 < n) : Calls Try.prog 12 #[.slice A m c, .slice B n d] w (Awake w) := by
  have HA := Aside0.mk (awake_calls w)
  have c0 : decide ((m : Int) > 8) = false := decide_eq_false (by omega)
  have c1 : decide (8 < (m : Int)) = false := decide_eq_false (by omega)
  have c2 : decide (8 < m) = false := decide_eq_false (by omega)
  have d0 : decide ((n : Int) > 12) = true := decide_eq_true (by omega)
  have d1 : decide (12 < (n : Int)) = true := decide_eq_true (by omega)
  have d2 : decide (12 < n) = true := decide_eq_true (by omega)
  clear h
  generalize hQ : Awake w = Q
  have HQ := Aside0.mk hQ
  clear hQ
  go_enter Try.func12, Try.ntmps12
  go_wp2_with (go_at_call 30; refine HA.out.mono ?_; rintro e w1 ⟨rfl, hB⟩; have HB := Aside0.mk hB; clear hB)
  rw [← HQ.out]
  exact ⟨rfl, HB.out⟩
set_option maxRecDepth 100000 in
set_option maxHeartbeats 4000000 in
/-- They are no turns. -/
theorem once_no (A : Option Addr) (c : Nat) (l : List S54) (B : Option Addr) (d : Nat) (ps : List Int) (w : World) (hr : Kd.C k54 w A l.length l) (hc : l.length ≤ c) (h8 : l.length ≤ 8) (h12 : ps.length ≤ 12) (hu : ¬ Cz.Units l) : Calls Try.prog 12 #[.slice A l.length c, .slice B ps.length d] w (Awake w) := by
  have HM := Aside0.mk (made_no A c l w hr hc (by omega) (.inr hu))
  have c0 : decide ((l.length : Int) > 8) = false := decide_eq_false (by omega)
  have c1 : decide (8 < (l.length : Int)) = false := decide_eq_false (by omega)
  have c2 : decide (8 < l.length) = false := decide_eq_false (by omega)
  have d0 : decide ((ps.length : Int) > 12) = false := decide_eq_false (by omega)
  have d1 : decide (12 < (ps.length : Int)) = false := decide_eq_false (by omega)
  have d2 : decide (12 < ps.length) = false := decide_eq_false (by omega)
  clear hr hc h8 h12 hu
  generalize hQ : Awake w = Q
  have HQ := Aside0.mk hQ
  clear hQ
  go_enter Try.func12, Try.ntmps12
  go_wp2_with fail
  ((with_reducible refine HM.out.mono ?_); rintro e w1 ⟨n, hn, rfl, hB⟩)
  have HA := Aside0.mk (awake_then hB)
  clear hB HM
  rcases hn with rfl | rfl
  all_goals
    go_wp2_with (go_at_call 30; refine HA.out.mono ?_; rintro e w2 ⟨rfl, hB⟩; have HB := Aside0.mk hB; clear hB)
    rw [← HQ.out]
    exact ⟨rfl, HB.out⟩
set_option maxRecDepth 100000 in
set_option maxHeartbeats 4000000 in
/-- Each position tells the same. -/
theorem once_ok (A : Option Addr) (c : Nat) (l : List S54) (B : Option Addr) (d : Nat) (ps : List Int) (w : World) (hr : Kd.C k54 w A l.length l) (hc : l.length ≤ c) (h8 : l.length ≤ 8) (h12 : ps.length ≤ 12) (hu : Cz.Units l) (hb : Kd.C (Kd.int .i64) w B ps.length ps) (hd : ps.length ≤ d) : Calls Try.prog 12 #[.slice A l.length c, .slice B ps.length d] w (Awake w) := by
  have hu54 := Try.underlying54
  have HM := Aside0.mk (made_yes A c l w hr hc h8 hu)
  have c0 : decide ((l.length : Int) > 8) = false := decide_eq_false (by omega)
  have c1 : decide (8 < (l.length : Int)) = false := decide_eq_false (by omega)
  have c2 : decide (8 < l.length) = false := decide_eq_false (by omega)
  have d0 : decide ((ps.length : Int) > 12) = false := decide_eq_false (by omega)
  have d1 : decide (12 < (ps.length : Int)) = false := decide_eq_false (by omega)
  have d2 : decide (12 < ps.length) = false := decide_eq_false (by omega)
  have HU := Aside0.mk hu
  have H8 := Aside0.mk h8
  have H12 := Aside0.mk h12
  have HC := Aside0.mk hr
  have HL := Aside0.mk hc
  have HX1 := Aside0.mk hb
  clear hr hc h8 h12 hu hb hd
  generalize hQ : Awake w = Q
  have HQ := Aside0.mk hQ
  clear hQ
  go_enter Try.func12, Try.ntmps12
  go_wp2_with fail
  ((with_reducible refine HM.out.mono ?_); rintro e w1 ⟨b, rfl, hT, hB⟩)
  have HS := Aside0.mk (show St w w1 b l from ⟨hB, hT, H8.out, HU.out⟩)
  clear hB HM hT c0 c1 c2 d0 d1 d2
  go_wp2_with fail
  go_loopg [39] ps.length (fun kq v39 w' => ∃ (j : Nat), v39 = .int .i64 (j : Int) ∧ Aside0 (j + kq = ps.length) ∧ Aside0 (St w w' b l))
  case atStart => exact ⟨0, rfl, ⟨by omega⟩, HS⟩
  case round =>
    clear HS
    obtain ⟨j, rfl, HI, HS⟩ := hrel
    cases gk with
    | zero =>
      have hi := HI.out
      obtain rfl : j = ps.length := by omega
      have e5 : decide ((ps.length : Int) < (ps.length : Int)) = false := decide_eq_false (by omega)
      have HA := Aside0.mk (awake_then HS.out.bel)
      clear hi
      go_wp2_with (go_at_call 30; refine HA.out.mono ?_; rintro e w9 ⟨rfl, hB⟩; have HB := Aside0.mk hB; clear hB)
      rw [← HQ.out]
      exact ⟨rfl, HB.out⟩
    | succ k1 =>
      have hi := HI.out
      have h12 := H12.out
      have hlt : j < ps.length := by omega
      have e5 : decide ((j : Int) < (ps.length : Int)) = true := decide_eq_true (by omega)
      have e6 : decide (j < ps.length) = true := decide_eq_true hlt
      have e7 : (j : Int) < (ps.length : Int) := by omega
      have p0 : (0 : Int) ≤ (j : Int) := by omega
      have HW := Aside0.mk (Cz.w64_succ j ps.length hlt (by omega))
      obtain ⟨ad, ea, hx0⟩ := Kd.at_int (Kd.C_below HX1.out HS.out.bel) (j : Int) p0 e7
      subst ea
      obtain ⟨p, hp⟩ : ∃ p, p = rd ps (j : Int) := ⟨_, rfl⟩
      rw [← hp] at hx0
      simp only [Int.toNat_natCast] at hx0
      have hp0 := eq_true p0
      have hc1 := eq_true e7
      have HM := Aside0.mk (made_yes A c l wr (Kd.C_below HC.out HS.out.bel) HL.out H8.out HU.out)
      clear hi h12 hp p0 e7
      go_wp2_with fail
      ((with_reducible refine HM.out.mono ?_); rintro e w1 ⟨b2, rfl, hT, hB⟩)
      have HS1 := Aside0.mk (st_below HS.out hB)
      have HT2 := Aside0.mk (show TabI w1 wr.heap.size (fun _ => True) b2 l from ⟨hT, H8.out, HU.out⟩)
      have HNE : Aside0 (b ≠ b2) := ⟨fun e => by have h3 := tab_lt HS.out.tab.1; have h4 := hT.1; omega⟩
      have HSZ := Aside0.mk hB.size
      clear HM hT hB hx0 hp0 hc1
      go_wp2_with fail
      ((with_reducible refine (row_any w.heap.size b _ l p w1 HS1.out.tab (st_base HS1.out)).mono ?_); rintro e w2 ⟨v2, rfl, hR, hT, hg⟩)
      obtain ⟨A2, c2, ev⟩ := Kd.R_slice hR
      subst ev
      have HT2' : Aside0 (TabI w2 wr.heap.size (fun _ => True) b2 l) := by
        obtain ⟨cs, hbk⟩ := tab_blk HS1.out.tab.1
        exact ⟨tab_other HT2.out.1 hbk (fun e => HNE.out e.symm) hg, HT2.out.2⟩
      have HB2 := Aside0.mk (below_ask HS1.out.bel HS1.out.tab (Nat.le_refl _) hg)
      have HSZ2 := Aside0.mk (Nat.le_trans HSZ.out hg.size)
      have HS1B := Aside0.mk (st_base HS1.out)
      have HO2 := Aside0.mk hR
      have HT1 := Aside0.mk hT
      clear hR hT hg HS1 HT2 HSZ
      go_wp2_with fail
      ((with_reducible refine (row_any wr.heap.size b2 _ l p w2 HT2'.out HSZ2.out).mono ?_); rintro e w3 ⟨v3, rfl, hR, hT, hg⟩)
      obtain ⟨A3, c3, ev⟩ := Kd.R_slice hR
      subst ev
      have HB3 := Aside0.mk (below_ask HB2.out HT2'.out (by have := HS.out.bel.size; exact this) hg)
      have HT3 : Aside0 (TabI w3 w.heap.size (fun k => some k ≠ (Value.slice A2 (rowX l p).length c2).ownBlock) b l) := by
        obtain ⟨cs, hbk⟩ := tab_blk HT2'.out.1
        exact ⟨tab_mono (tab_other HT1.out.1 hbk HNE.out hg) (fun k hk => hk.2), HT1.out.2⟩
      have HO2' := Aside0.mk (R_ask HO2.out HT2'.out hg ne54)
      have HO3 : Aside0 (Kd.R k54 54 w3 w2.heap.size (fun k => some k ≠ (Value.slice A2 (rowX l p).length c2).ownBlock) (.slice A3 (rowX l p).length c3) (rowX l p)) := by
        refine ⟨Kd.R_mono (Kd.R_bound hR) (fun k hk e => ?_)⟩
        have h3 := Kd.R_lt HO2.out k e.symm
        have h4 := hk.2.1
        omega
      have HLE := Aside0.mk (rowX_len l p)
      have n0 : (errX p != errX p) = false := by simp
      have n1 : (((rowX l p).length : Int) != ((rowX l p).length : Int)) = false := by simp
      clear hR hT hg HB2 HT1 HT2' HO2 HNE HSZ2
      generalize errX p = ex at n0 ⊢
      generalize rowX l p = r at *
      go_wp2_with fail
      go_loopg [74] r.length (fun kq v74 w' => ∃ (i : Nat), v74 = .int .i64 (i : Int) ∧ Aside0 (i + kq = r.length) ∧ Aside0 (Kd.R k54 54 w' w1.heap.size (fun _ => True) (.slice A2 r.length c2) (incL r i)) ∧
        Aside0 (Kd.R k54 54 w' w2.heap.size (fun k => some k ≠ (Value.slice A2 r.length c2).ownBlock) (.slice A3 r.length c3) r) ∧ Aside0 (TabI w' w.heap.size (fun k => some k ≠ (Value.slice A2 r.length c2).ownBlock) b l) ∧ Aside0 (Below w.heap.size w w'))
      case atStart => exact ⟨0, rfl, ⟨by omega⟩, HO2', HO3, HT3, HB3⟩
      case round =>
        clear HO2' HO3 HT3 HB3
        obtain ⟨i, rfl, HI2, HA2, HA3, HT3, HB3⟩ := hrel
        cases gk with
        | zero =>
          have hi := HI2.out
          obtain rfl : i = r.length := by omega
          have e8 : decide ((r.length : Int) < (r.length : Int)) = false := decide_eq_false (by omega)
          clear hi
          go_wp2_with fail
          go_roundg k1
          case measure => exact Nat.lt_succ_self _
          case rel => exact ⟨j + 1, by rw [HW.out], ⟨by have := HI.out; omega⟩, ⟨HB3.out, tabI_mono HT3.out (fun _ _ => trivial)⟩⟩
        | succ k2 =>
          have hi := HI2.out
          have hle := HLE.out
          have h8 := H8.out
          have hlt2 : i < r.length := by omega
          have e8 : decide ((i : Int) < (r.length : Int)) = true := decide_eq_true (by omega)
          have e9 : decide (i < r.length) = true := decide_eq_true hlt2
          have e10 : (i : Int) < (r.length : Int) := by omega
          have p0 : (0 : Int) ≤ (i : Int) := by omega
          have HW2 := Aside0.mk (Cz.w64_succ i r.length hlt2 (by omega))
          obtain ⟨g, cap, eg, hg0, hg1, _⟩ := Kd.R_form HA2.out (by rw [incL_len]; omega)
          rw [incL_len] at eg
          injection eg with ea en ec
          subst ea ec
          obtain ⟨_, _, hc0, hc1, _⟩ := turn_put HA2.out i hlt2 0
          rw [incL_at r i hlt2] at hc0 hc1
          obtain ⟨ad3, ea3, hy0, hy1⟩ := at_T54 (Kd.R_reads' HA3.out).2.2 (i : Int) p0 e10
          rw [Cz.rdT_at r i hlt2] at hy0 hy1
          subst ea3
          simp only [Int.toNat_natCast] at hy0 hy1
          have HGB := Aside0.mk (Nat.le_trans HS1B.out hg0)
          have HGN : Aside0 (g ≠ b) := by
            obtain ⟨cs, hbk⟩ := tab_blk HT3.out.1
            exact ⟨fun e => Kd.R_ne HA2.out hbk (by decide) (by rw [← e]; rfl)⟩
          obtain ⟨u, hu⟩ : ∃ u, u = r[i] := ⟨_, rfl⟩
          rw [← hu] at hc0 hc1 hy0 hy1
          have HUE := Aside0.mk hu
          have HLT := Aside0.mk hlt2
          have hgd := guard54 u.f0 u.f1 u.f0 u.f1
          have hp0 := eq_true p0
          have hc1' := eq_true e10
          clear hi hle h8 p0 e10 hg0 hg1 hu
          go_wp2_with fail
          go_quiet (fail)
          obtain ⟨hR1, hG1, hd0, hd1, hf0⟩ := turn_put (Kd.R_drewN HA2.out nq) i HLT.out (wrap32 (u.f0 + 1))
          rw [incL_at r i HLT.out, ← HUE.out] at hR1 hd0 hd1
          rw [show (incL r i).set i ⟨wrap32 (u.f0 + 1), u.f1⟩ = incL r (i + 1) from by rw [HUE.out]; exact incL_set r i HLT.out] at hR1
          have HR1 := Aside0.mk hR1
          have HR3 := Aside0.mk (Kd.R_far (p := ⟨g, i * 2, none⟩) (Kd.R_drewN HA3.out nq) (fun k hk e => hk (by rw [e]; rfl)) (.int .i32 (wrap32 (u.f0 + 1))))
          have HT4 : Aside0 (TabI ((wr.drewN nq).setCell ⟨g, i * 2, none⟩ (.int .i32 (wrap32 (u.f0 + 1)))) w.heap.size (fun k => some k ≠ (Value.slice (some ⟨g, 0, none⟩) r.length c2).ownBlock) b l) :=
            ⟨tab_set (p := ⟨g, i * 2, none⟩) (tab_drewN HT3.out.1 nq) (fun h => h rfl) HGN.out _, HT3.out.2⟩
          have HB4 := Aside0.mk (below_set (j := i * 2) (v := .int .i32 (wrap32 (u.f0 + 1))) (pw_below_drewN HB3.out nq) HGB.out)
          clear hc0 hc1 hy0 hy1 hR1 hG1 HA2 HA3 HT3 HB3
          go_wp2_with fail
          go_roundg k2
          case measure => exact Nat.lt_succ_self _
          case rel => exact ⟨i + 1, by rw [HW2.out], ⟨by have := HI2.out; omega⟩, HR1, ⟨Kd.R_mono HR3.out (fun _ h => h)⟩, HT4, HB4⟩
/-- For every input. -/
theorem RopeOnce_all (A : Option Addr) (c : Nat) (l : List S54) (B : Option Addr) (d : Nat) (ps : List Int) (w : World) (hr : Kd.C k54 w A l.length l) (hc : l.length ≤ c) (hb : Kd.C (Kd.int .i64) w B ps.length ps) (hd : ps.length ≤ d) (_hw : ∀ x ∈ ps, (Lit.int .i64 x).wf = true) (_hlt : 0 < ps.length → ∀ ad, B = some ad → ad.block < w.heap.size) : Calls Try.prog 12 #[.slice A l.length c, .slice B ps.length d] w (Awake w) := by
  by_cases h : 8 < l.length
  · exact once_many A B l.length ps.length c d w h
  · by_cases h2 : 12 < ps.length
    · exact once_long A B l.length ps.length c d w ⟨by omega, h2⟩
    · by_cases hu : Cz.Units l
      · exact once_ok A c l B d ps w hr hc (by omega) (by omega) hu hb hd
      · exact once_no A c l B d ps w hr hc (by omega) (by omega) hu
end Go.Proofs.Ytmndomlpdajjmac.Rt
