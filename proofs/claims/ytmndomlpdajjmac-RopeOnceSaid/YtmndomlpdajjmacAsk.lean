/- A table asked for a row, and to turn a list, its answers in plain words. -/
import Derived.Test.YtmndomlpdajjmacMade
namespace Go.Proofs.Ytmndomlpdajjmac.Rt
open Go.RowKit Go.Proofs.YtmndomlpdajjmacW.PrintWords Go.Proofs.YtmndomlpdajjmacW.PrintLast Go.Proofs.YtmndomlpdajjmacW.PrintMore Go.Proofs.Ytmndomlpdajjmac.Pure
set_option linter.unusedVariables false
set_option linter.unusedSimpArgs false
/-- A table whose rows are those of the plain words. -/
def TabI (w : World) (base : Nat) (ok : Nat → Prop) (b : Nat) (l : List S54) : Prop := Tab w base ok b l (Cz.rowsI l 1024) ∧ l.length ≤ 8 ∧ Cz.Units l
def atL (l : List S54) (p : Int) : List S54 := l.map fun t => Cz.atT t p.toNat
theorem atL_len (l : List S54) (p : Int) : (atL l p).length = l.length := List.length_map _
theorem rows_p (l : List S54) (p : Int) (h0 : 0 ≤ p) (h1 : p < 1024) : (Cz.rowsI l 1024).getD p.toNat [] = atL l p := Cz.rows_at l 1024 p.toNat (by omega)
/-- What 'Row' hands back. -/
def RowYes (w : World) (base : Nat) (ok : Nat → Prop) (b : Nat) (l : List S54) (p : Int) (e : Ending) (w' : World) : Prop :=
  ∃ v : Value, e = .returned (.tuple #[v, .int .i64 0]) ∧ Kd.R k54 54 w' w.heap.size (fun _ => True) v (atL l p) ∧ TabI w' base (fun k => (ok k ∨ w.heap.size ≤ k) ∧ some k ≠ v.ownBlock) b l ∧ w.grownBy w' (some b)
theorem row_yes (base b : Nat) (ok : Nat → Prop) (l : List S54) (p : Int) (w : World) (hT : TabI w base ok b l) (hbase : base ≤ w.heap.size) (h0 : 0 ≤ p) (h1 : p < 1024) :
    Calls Try.prog 32 #[.pointer (some ⟨b, 0, none⟩), .int .i64 p] w (RowYes w base ok b l p) := by
  obtain ⟨hT, h8, hu⟩ := hT
  refine (row_calls 10260 base b ok l (Cz.rowsI l 1024) p w hT hbase (Cz.build_eq l h8 hu 10260 (by omega)) (Cz.rows_len l 1024) h0 h1 ?_).mono ?_
  · rw [rows_p l p h0 h1, atL_len]; omega
  · rintro e w' ⟨v, rfl, hR, hT, hg⟩
    rw [rows_p l p h0 h1] at hR
    exact ⟨v, rfl, hR, ⟨hT, h8, hu⟩, hg⟩
/-- What 'Rotate' hands back. -/
def RotYes (w : World) (base : Nat) (ok : Nat → Prop) (b : Nat) (l : List S54) (x : List Int) (p : Int) (e : Ending) (w' : World) : Prop :=
  ∃ v : Value, e = .returned (.tuple #[v, .int .i64 0]) ∧ Kd.R (Kd.int .i32) 21 w' w.heap.size (fun _ => True) v (Cz.rotR (atL l p) x) ∧ TabI w' base (fun k => (ok k ∨ w.heap.size ≤ k) ∧ some k ≠ v.ownBlock) b l ∧ w.grownBy w' (some b)
theorem rotate_yes (base b : Nat) (ok : Nat → Prop) (l : List S54) (x : List Int) (A : Option Addr) (c : Nat) (p : Int) (w : World) (hT : TabI w base ok b l) (hbase : base ≤ w.heap.size) (h0 : 0 ≤ p) (h1 : p < 1024)
    (hr : Kd.C (Kd.int .i32) w A x.length x) (hc : x.length ≤ c) (hne : 0 < x.length → ∀ ad, A = some ad → ad.block ≠ b) (hx : x.length = 2 * l.length) (hi : Cz.I32 x) :
    Calls Try.prog 36 #[.pointer (some ⟨b, 0, none⟩), .slice A x.length c, .int .i64 p] w (RotYes w base ok b l x p) := by
  obtain ⟨hT, h8, hu⟩ := hT
  have hp := rows_p l p h0 h1
  have hl := atL_len l p
  refine (rotate_calls 10260 1001 base b ok l (Cz.rowsI l 1024) p A c x (Cz.rotR (atL l p) x) w hT hbase (Cz.build_eq l h8 hu 10260 (by omega)) (Cz.rows_len l 1024) h0 h1 (by rw [hp, hl]) h8 hr hc hne hx ?_).mono ?_
  · rw [hp, ← hl]
    exact Cz.rotate_eq (atL l p) x (by omega) (by omega) (Cz.units_at l p.toNat) hi 1001 (by omega)
  · rintro e w' ⟨v, rfl, hR, hT, hg⟩
    exact ⟨v, rfl, hR, ⟨hT, h8, hu⟩, hg⟩
theorem tab_turns {w : World} {base b : Nat} {ok : Nat → Prop} {l : List S54} (h : TabI w base ok b l) : ∃ (At : Option Addr) (ct : Nat), w.cell? ⟨b, 0, none⟩ = some (.slice At l.length ct) := by
  obtain ⟨⟨_, A, c, d, s, v, hb, _⟩, _⟩ := h
  exact ⟨A, c, (blk_cell hb 0).trans rfl⟩
set_option maxRecDepth 100000 in
theorem rotate_shape (base b : Nat) (ok : Nat → Prop) (l : List S54) (n : Nat) (A : Option Addr) (c : Nat) (p : Int) (w : World) (hT : TabI w base ok b l) (hx : n ≠ 2 * l.length) :
    Calls Try.prog 36 #[.pointer (some ⟨b, 0, none⟩), .slice A n c, .int .i64 p] w fun e w' => e = .returned (.tuple #[.slice none 0 0, .int .i64 25]) ∧ w = w' := by
  obtain ⟨At, ct, hct⟩ := tab_turns hT
  have h8 := hT.2.1
  have hw : wrap64 (2 * (l.length : Int)) = 2 * (l.length : Int) := by unfold wrap64; omega
  have c4b0 : ((n : Int) == (wrap64 (2 * (l.length : Int)))) = false := by rw [hw]; exact beq_eq_false_iff_ne.mpr (by omega)
  have c4b1 : ((n : Int) != (wrap64 (2 * (l.length : Int)))) = true := by rw [hw]; exact bne_iff_ne.mpr (by omega)
  clear hT h8 hw hx
  go_enter Try.func36, Try.ntmps36
  go_wp2
  go_ret2
  exact ⟨rfl, rfl⟩
set_option maxRecDepth 100000 in
theorem rotate_out (base b : Nat) (ok : Nat → Prop) (l : List S54) (n : Nat) (A : Option Addr) (c : Nat) (p : Int) (w : World) (hT : TabI w base ok b l) (hx : n = 2 * l.length) (hp : p < 0 ∨ 1024 ≤ p) :
    Calls Try.prog 36 #[.pointer (some ⟨b, 0, none⟩), .slice A n c, .int .i64 p] w fun e w' => e = .returned (.tuple #[.slice none 0 0, .int .i64 11]) ∧ w = w' := by
  obtain ⟨At, ct, hct⟩ := tab_turns hT
  have h8 := hT.2.1
  have HD := Aside0.mk (at_out b p w hp)
  have hw : wrap64 (2 * (l.length : Int)) = 2 * (l.length : Int) := by unfold wrap64; omega
  have c4b0 : ((n : Int) == (wrap64 (2 * (l.length : Int)))) = true := by rw [hw]; exact beq_iff_eq.mpr (by omega)
  have c4b1 : ((n : Int) != (wrap64 (2 * (l.length : Int)))) = false := by rw [hw]; exact bne_eq_false_iff_eq.mpr (by omega)
  clear hT h8 hw hx hp
  go_enter Try.func36, Try.ntmps36
  go_wp2_with (go_at_call 64; refine HD.out.mono ?_; rintro e w1 ⟨rfl, rfl⟩)
  go_ret2
  exact ⟨rfl, rfl⟩
end Go.Proofs.Ytmndomlpdajjmac.Rt
