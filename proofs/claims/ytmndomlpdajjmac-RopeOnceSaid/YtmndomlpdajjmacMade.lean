/- The statements' own 'made': a table, or the number that tells why there is none. -/
import Derived.Test.YtmndomlpdajjmacRotate
import Derived.Test.YtmndomlpdajjmacPureRope
namespace Go.Proofs.Ytmndomlpdajjmac.Rt
open Go.RowKit Go.Proofs.YtmndomlpdajjmacW.PrintWords Go.Proofs.YtmndomlpdajjmacW.PrintLast Go.Proofs.YtmndomlpdajjmacW.PrintMore Go.Proofs.Ytmndomlpdajjmac.Pure
set_option linter.unusedVariables false
set_option linter.unusedSimpArgs false
/-- What is wrong with some turns, so far. -/
def wantL (l : List S54) : Int := if l.all Cz.isU then 0 else 11
def wantI (l : List S54) : Int := if 8 < l.length then 12 else wantL l
theorem wantL_snoc (l : List S54) (i : Nat) (h : i < l.length) : wantL (l.take (i + 1)) = if Cz.isU l[i] then wantL (l.take i) else 11 := by
  unfold wantL
  rw [List.take_succ_eq_append_getElem h, List.all_append]
  cases h1 : Cz.isU l[i] <;> cases h2 : (l.take i).all Cz.isU <;> simp only [List.all_cons, List.all_nil, h1, Bool.and_true, Bool.and_false, Bool.false_and, Bool.true_and] <;> rfl
def MadeQ (w : World) (n : Int) (R : Value → World → Prop) (e : Ending) (w' : World) : Prop := ∃ tp : Value, e = .returned (.tuple #[tp, .int .i64 n]) ∧ R tp w' ∧ Below w.heap.size w w'
set_option maxRecDepth 100000 in
set_option maxHeartbeats 4000000 in
theorem made_any (A : Option Addr) (c : Nat) (l : List S54) (w : World) (n : Int) (R : Value → World → Prop) (hRB : ∀ tp w1 w2, R tp w1 → Below w1.heap.size w1 w2 → R tp w2)
    (hq : ∀ tp w1, R tp w1 → ∀ w2, (Go.binOp .eql 43 tp (.pointer none)).run Try.prog w2 = .ok (.bool (n != 0)) w2 ∧ (eqGuard .eql 43 (.tmp 32) (.const (.pointer none)) tp (.pointer none)).run Try.prog w2 = .ok () w2) (HN : Calls Try.prog 62 #[.slice A l.length c] w (MadeQ w n R))
    (hr : Kd.C k54 w A l.length l) (hc : l.length ≤ c) (hlen : l.length ≤ 100) (hn : n = wantI l) : Calls Try.prog 31 #[.slice A l.length c] w (MadeQ w n R) := by
  have hu52 := Try.underlying52
  have HRB := Aside0.mk hRB
  have HQN := Aside0.mk hq
  have HN' := Aside0.mk HN
  have HC := Aside0.mk hr
  have HL := Aside0.mk hc
  have HN2 := Aside0.mk hn
  have HLEN := Aside0.mk hlen
  have HF := Aside0.mk (Cz.refs_eq l (by omega) 1001 (by omega))
  clear hRB hq HN hr hc hn hlen
  generalize hQ : MadeQ w n R = Q at HN' ⊢
  have HQ := Aside0.mk hQ
  clear hQ
  go_enter Try.func31, Try.ntmps31
  go_wp2_with (first | (go_at_call 62; refine HN'.out.mono ?_; rw [← HQ.out]; rintro e w1 ⟨tp, rfl, hR, hB⟩; have HR := Aside0.mk hR; have HB := Aside0.mk hB; clear hR hB) | (go_at_call 34; refine (credenzalaw16_refs.calls _ _ _ _ _ _ (Kd.C_below HC.out HB.out) HL.out HF.out).mono ?_; rintro e w2 ⟨v, rfl, hR2, hB2⟩; obtain ⟨A2, c2, ev⟩ := Kd.R_slice hR2; subst ev; rw [Cz.toR_len] at hR2 ⊢; have HX := Aside0.mk (And.intro hR2 hB2); clear hR2 hB2))
  have HG := Aside0.mk (show Go.RowKit.Below w.heap.size w w2 from below_step HB.out HX.out.2)
  have HC2 := Aside0.mk (Kd.R_reads' HX.out.1)
  have hl2 := Cz.toR_len l
  go_loopg [6, 17] l.length (fun kq v6 v17 w' => ∃ (i : Nat), v6 = .int .i64 (wantL (l.take i)) ∧ v17 = .int .i64 (i : Int) ∧ Aside0 (i + kq = l.length) ∧ Aside0 (Below w2.heap.size w2 w'))
  case atStart => exact ⟨0, rfl, rfl, ⟨by omega⟩, ⟨Below.refl _ _⟩⟩
  case round =>
    obtain ⟨i, rfl, rfl, HI, HB2⟩ := hrel
    have hnot : ∀ (x : Bool) (w : World), (Op.unary .not (.bool x)).run Try.prog w = .ok (.bool (!x)) w := fun _ _ => rfl
    cases gk with
    | zero =>
      have hi := HI.out
      obtain rfl : i = l.length := by omega
      have c0 : decide ((l.length : Int) < (l.length : Int)) = false := decide_eq_false (by omega)
      have HW := Aside0.mk (show wantL (l.take l.length) = wantL l from by rw [List.take_length])
      have hn := HN2.out
      have hlen := HLEN.out
      have hz : (n == n) = true := beq_self_eq_true n
      have hz2 : (n != n) = false := by simp
      have hqq := fun w2 => (HQN.out tp w1 HR.out w2).1
      have hqg := fun w2 => (HQN.out tp w1 HR.out w2).2
      have hzz : ((n != 0) != (n != 0)) = false := by cases (n != 0) <;> rfl
      by_cases c8 : 8 < l.length
      · have c8a : decide ((l.length : Int) > 8) = true := decide_eq_true (by omega)
        have c8b : decide (8 < (l.length : Int)) = true := decide_eq_true (by omega)
        have c8c : decide (8 < l.length) = true := decide_eq_true c8
        have hn12 : n = 12 := by rw [hn]; unfold wantI; rw [if_pos c8]
        subst hn12
        clear hn hlen hi c8
        go_wp2
        rw [← HQ.out]
        exact ⟨tp, rfl, HRB.out _ _ _ (HRB.out _ _ _ HR.out HX.out.2) HB2.out, below_step HG.out HB2.out⟩
      · have c8a : decide ((l.length : Int) > 8) = false := decide_eq_false (by omega)
        have c8b : decide (8 < (l.length : Int)) = false := decide_eq_false (by omega)
        have c8c : decide (8 < l.length) = false := decide_eq_false c8
        have hnw : wantL (l.take l.length) = n := by rw [HW.out, hn]; unfold wantI; rw [if_neg c8]
        rw [hnw]
        clear hn hlen hi c8 hnw
        go_wp2
        rw [← HQ.out]
        exact ⟨tp, rfl, HRB.out _ _ _ (HRB.out _ _ _ HR.out HX.out.2) HB2.out, below_step HG.out HB2.out⟩
    | succ k1 =>
      have hi := HI.out
      have hlt : i < l.length := by omega
      have hlen := HLEN.out
      have c0 : decide ((i : Int) < (l.length : Int)) = true := decide_eq_true (by omega)
      have c1 : (i : Int) < (l.length : Int) := by omega
      have p0 : (0 : Int) ≤ (i : Int) := by omega
      have hw : wrap64 ((i : Int) + 1) = ((i + 1 : Nat) : Int) := by rw [Cz.w64 _ (by omega) (by omega)]; omega
      have hrd := Cz.rd52_at l i hlt
      obtain ⟨ad, ea, hx0, hx1⟩ := at_T52 (Kd.C_below HC2.out.2.2 HB2.out) (i : Int) p0 (by rw [hl2]; omega)
      rw [hrd] at hx0 hx1
      subst ea
      simp only [Int.toNat_natCast] at hx0 hx1
      have HS := Aside0.mk (wantL_snoc l i hlt)
      have HRI := Aside0.mk (Cz.trright_eq l[i])
      have hp0 := eq_true p0
      have hc1 := eq_true c1
      clear hi hlen hrd p0 c1
      cases hu : Cz.isU l[i]
      all_goals
        rw [hu] at HS HRI
        clear hu
        go_wp2_with (go_at_call 63; refine (credenzaref16_Right.calls _ _ _ _ HRI.out).mono ?_; rintro e w3 ⟨rfl, hB3⟩; have HB3 := Aside0.mk hB3; clear hB3)
        go_roundg k1
        case measure => exact Nat.lt_succ_self _
        case rel => exact ⟨i + 1, by rw [HS.out]; rfl, by rw [hw], ⟨by have := HI.out; omega⟩, ⟨below_step (below_alloc HB2.out _) HB3.out⟩⟩
theorem ptr_nil (w : World) : (Go.binOp .eql 43 (.pointer none) (.pointer none)).run Try.prog w = .ok (.bool true) w := by kernel_rfl
theorem ptr_some (b : Nat) (w : World) : (Go.binOp .eql 43 (.pointer (some ⟨b, 0, none⟩)) (.pointer none)).run Try.prog w = .ok (.bool false) w := by kernel_rfl
theorem guard_nil (w : World) : (eqGuard .eql 43 (.tmp 32) (.const (.pointer none)) (.pointer none) (.pointer none)).run Try.prog w = .ok () w := by kernel_rfl
theorem guard_some (b : Nat) (w : World) : (eqGuard .eql 43 (.tmp 32) (.const (.pointer none)) (.pointer (some ⟨b, 0, none⟩)) (.pointer none)).run Try.prog w = .ok () w := by kernel_rfl
theorem wantL_of (l : List S54) (h : Cz.Units l) : wantL l = 0 := by
  unfold wantL
  rw [if_pos ((Cz.all_units l).mpr h)]
theorem wantL_no (l : List S54) (h : ¬ Cz.Units l) : wantL l = 11 := by
  unfold wantL
  rw [if_neg (fun e => h ((Cz.all_units l).mp e))]
/-- A new table, its rows those of the plain words. -/
def MadeYes (w : World) (l : List S54) (e : Ending) (w' : World) : Prop :=
  ∃ b : Nat, e = .returned (.tuple #[.pointer (some ⟨b, 0, none⟩), .int .i64 0]) ∧ Tab w' w.heap.size (fun _ => True) b l (Cz.rowsI l 1024) ∧ Below w.heap.size w w'
theorem made_yes (A : Option Addr) (c : Nat) (l : List S54) (w : World) (hr : Kd.C k54 w A l.length l) (hc : l.length ≤ c) (h8 : l.length ≤ 8) (hu : Cz.Units l) : Calls Try.prog 31 #[.slice A l.length c] w (MadeYes w l) := by
  have hall : rope_allRight.f 1001 l = some true := by rw [Cz.all_eq l (by omega) 1001 (by omega), (Cz.all_units l).mpr hu]
  have hN := new_yes 1001 A c l (Cz.rowsI l 1024) w hr hc h8 hall
  refine (made_any A c l w 0 (fun tp w1 => ∃ b : Nat, tp = .pointer (some ⟨b, 0, none⟩) ∧ Tab w1 w.heap.size (fun _ => True) b l (Cz.rowsI l 1024)) ?_ ?_ ?_ hr hc (by omega) ?_).mono ?_
  · rintro tp w1 w2 ⟨b, rfl, hT⟩ hB
    exact ⟨b, rfl, tab_below hT hB⟩
  · rintro tp w1 ⟨b, rfl, hT⟩ w2
    exact ⟨ptr_some b w2, guard_some b w2⟩
  · refine hN.mono ?_
    rintro e w1 ⟨b, rfl, hT, hB⟩
    exact ⟨_, rfl, ⟨b, rfl, hT⟩, hB⟩
  · unfold wantI
    rw [if_neg (by omega), wantL_of l hu]
  · rintro e w1 ⟨tp, rfl, ⟨b, rfl, hT⟩, hB⟩
    exact ⟨b, rfl, hT, hB⟩
/-- No table. -/
def MadeNo (w : World) (e : Ending) (w' : World) : Prop := ∃ n : Int, (n = 11 ∨ n = 12) ∧ e = .returned (.tuple #[.pointer none, .int .i64 n]) ∧ Below w.heap.size w w'
theorem made_no (A : Option Addr) (c : Nat) (l : List S54) (w : World) (hr : Kd.C k54 w A l.length l) (hc : l.length ≤ c) (hlen : l.length ≤ 100) (h : 8 < l.length ∨ ¬ Cz.Units l) : Calls Try.prog 31 #[.slice A l.length c] w (MadeNo w) := by
  by_cases h8 : 8 < l.length
  · refine (made_any A c l w 12 (fun tp w1 => tp = .pointer none) (fun _ _ _ h _ => h) ?_ ?_ hr hc hlen ?_).mono ?_
    · rintro tp w1 rfl w2
      exact ⟨ptr_nil w2, guard_nil w2⟩
    · refine (new_many A c l w h8).mono ?_
      rintro e w1 ⟨rfl, hB⟩
      exact ⟨_, rfl, rfl, hB⟩
    · unfold wantI
      rw [if_pos h8]
    · rintro e w1 ⟨tp, rfl, rfl, hB⟩
      exact ⟨12, .inr rfl, rfl, hB⟩
  · have hu : ¬ Cz.Units l := h.resolve_left h8
    have hall : rope_allRight.f 1001 l = some false := by rw [Cz.all_eq l (by omega) 1001 (by omega), Bool.eq_false_iff.mpr (fun e => hu ((Cz.all_units l).mp e))]
    refine (made_any A c l w 11 (fun tp w1 => tp = .pointer none) (fun _ _ _ h _ => h) ?_ ?_ hr hc hlen ?_).mono ?_
    · rintro tp w1 rfl w2
      exact ⟨ptr_nil w2, guard_nil w2⟩
    · refine (new_no 1001 A c l w hr hc (by omega) hall).mono ?_
      rintro e w1 ⟨rfl, hB⟩
      exact ⟨_, rfl, rfl, hB⟩
    · unfold wantI
      rw [if_neg h8, wantL_no l hu]
    · rintro e w1 ⟨tp, rfl, rfl, hB⟩
      exact ⟨11, .inl rfl, rfl, hB⟩
end Go.Proofs.Ytmndomlpdajjmac.Rt
