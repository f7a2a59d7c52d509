/- A table in memory, and the methods that ask it for a row. -/
import Derived.Test.YtmndomlpdajjmacBuild
namespace Go.Proofs.Ytmndomlpdajjmac.Rt
open Go.RowKit Go.Proofs.YtmndomlpdajjmacW.PrintWords Go.Proofs.YtmndomlpdajjmacW.PrintLast Go.Proofs.YtmndomlpdajjmacW.PrintMore
set_option linter.unusedVariables false
set_option linter.unusedSimpArgs false
/-- A table at block b with turns l; rs: the rows that it makes. ok: the blocks beside b that it leads to. -/
def Tab (w : World) (base : Nat) (ok : Nat → Prop) (b : Nat) (l : List S54) (rs : List (List S54)) : Prop :=
  base ≤ b ∧ ∃ (A : Option Addr) (c : Nat) (d s : Int) (v : Value), w.heap[b]? = some (tabO A l.length c d 0 s v) ∧ Kd.R k54 54 w base ok (.slice A l.length c) l ∧
    ((d = 0 ∧ v = .slice none 0 0) ∨ (d = 1 ∧ Kd.S (Kd.slice 54 k54) 42 w base ok v rs))
section
variable {w w' : World} {base b : Nat} {ok ok' : Nat → Prop} {l : List S54} {rs : List (List S54)}
theorem tab_lt (h : Tab w base ok b l rs) : b < w.heap.size := by
  obtain ⟨_, A, c, d, s, v, hb, _⟩ := h
  exact blk_lt hb
theorem tab_mono (h : Tab w base ok b l rs) (hok : ∀ k, ok k → ok' k) : Tab w base ok' b l rs := by
  obtain ⟨h0, A, c, d, s, v, hb, hR, hv⟩ := h
  exact ⟨h0, A, c, d, s, v, hb, Kd.R_mono hR hok, hv.imp id (fun h => ⟨h.1, Kd.S_mono h.2 hok⟩)⟩
theorem tab_step (h : Tab w base ok b l rs) (hm : ∀ k, (ok k ∨ k = b) → k < w.heap.size → w'.heap[k]? = w.heap[k]?) : Tab w' base ok b l rs := by
  obtain ⟨h0, A, c, d, s, v, hb, hR, hv⟩ := h
  exact ⟨h0, A, c, d, s, v, (hm b (.inr rfl) (blk_lt hb)).trans hb, Kd.R_step hR (fun k hk => hm k (.inl hk)), hv.imp id (fun h => ⟨h.1, Kd.S_step h.2 (fun k hk => hm k (.inl hk))⟩)⟩
theorem tab_bound (h : Tab w base ok b l rs) : Tab w base (fun k => ok k ∧ k < w.heap.size ∧ ∃ q, (q = 54 ∨ q = 42) ∧ ∃ cells, w.heap[k]? = some (.cells cells q (0, 0))) b l rs := by
  obtain ⟨h0, A, c, d, s, v, hb, hR, hv⟩ := h
  refine ⟨h0, A, c, d, s, v, hb, Kd.R_mono (Kd.R_bound hR) ?_, hv.imp id (fun h => ⟨h.1, Kd.S_mono (Kd.S_bound h.2) ?_⟩)⟩
  · rintro k ⟨h1, _, h2, q, hq, hc⟩
    exact ⟨h1, h2, q, .inl (by simpa [k54, Kd.iso, Kd.pair, Kd.int, Kd.scalar] using hq), hc⟩
  · rintro k ⟨h1, _, h2, q, hq, hc⟩
    have : q = 42 ∨ q = 54 := by simpa [Kd.slice, k54, Kd.iso, Kd.pair, Kd.int, Kd.scalar] using hq
    exact ⟨h1, h2, q, this.symm, hc⟩
theorem tab_below (h : Tab w base ok b l rs) (hb : Below w.heap.size w w') : Tab w' base ok b l rs := tab_step h (fun k _ hk => hb.block k hk)
theorem tab_alloc (h : Tab w base ok b l rs) (o : Obj) : Tab (w.alloc o) base ok b l rs := tab_below h (below_alloc (Below.refl _ _) o)
theorem tab_drew (h : Tab w base ok b l rs) : Tab w.drew base ok b l rs := h
theorem tab_drewN (h : Tab w base ok b l rs) (n : Nat) : Tab (w.drewN n) base ok b l rs := h
/-- What is new since is none of its blocks. -/
theorem tab_elder (h : Tab w base ok b l rs) {v : Value} (hv : ∀ k, v.ownBlock = some k → w.heap.size ≤ k) (hb : Below w.heap.size w w') : Tab w' base (fun k => ok k ∧ some k ≠ v.ownBlock) b l rs :=
  tab_below (tab_mono (tab_bound h) (fun k hk => ⟨hk.1, fun e => by have := hv k e.symm; have := hk.2.1; omega⟩)) hb
/-- Another table has been asked. -/
theorem tab_other (h : Tab w base ok b l rs) {b2 : Nat} {cs : Array Value} (h2 : w.heap[b2]? = some (.cells cs 96 (0, 0))) (hne : b ≠ b2) (hg : w.grownBy w' (some b2)) : Tab w' base ok b l rs := by
  refine tab_mono (tab_step (tab_bound h) ?_) (fun k hk => hk.1)
  intro k hk hlt
  refine hg.block k hlt (fun e => ?_)
  have e : k = b2 := Option.some.inj e
  rcases hk with ⟨_, _, q, hq, cs', hc⟩ | hk
  · rw [e, h2] at hc
    injection hc with hc
    injection hc with _ hc
    rcases hq with rfl | rfl <;> cases hc
  · exact hne (hk.symm.trans e)
theorem tab_set (h : Tab w base ok b l rs) {p : Addr} (hp : ¬ ok p.block) (hne : p.block ≠ b) (u : Value) : Tab (w.setCell p u) base ok b l rs :=
  tab_step h (fun k hk _ => Below.heap_setCell w p u k (fun e => by rcases hk with hk | hk; exact hp (e ▸ hk); exact hne (e ▸ hk)))
theorem tab_blk (h : Tab w base ok b l rs) : ∃ cs : Array Value, w.heap[b]? = some (.cells cs 96 (0, 0)) := by
  obtain ⟨h0, A, c, d, s, v, hb, hR, hv⟩ := h
  exact ⟨_, hb⟩
end
theorem ne54 : ∀ q, q ∈ 54 :: k54.E → q ≠ 96 := by decide
theorem ne42 : ∀ q, q ∈ 42 :: (Kd.slice 54 k54).E → q ≠ 96 := by decide
/-- The rows are there. -/
def Made (w w' : World) (base : Nat) (ok : Nat → Prop) (b : Nat) (l : List S54) (rs : List (List S54)) : Prop :=
  ∃ (A : Option Addr) (c : Nat) (s : Int) (v : Value), w'.heap[b]? = some (tabO A l.length c 1 0 s v) ∧ Kd.R k54 54 w' base ok (.slice A l.length c) l ∧
    Kd.S (Kd.slice 54 k54) 42 w' base (fun k => ok k ∨ w.heap.size ≤ k) v rs ∧ w.grownBy w' (some b)
/-- '(*sync.Once).Do' of a table's build. -/
theorem do_any (k base b : Nat) (ok : Nat → Prop) (l : List S54) (rs : List (List S54)) (w : World) (hT : Tab w base ok b l rs) (hbase : base ≤ w.heap.size) (hk : rope_Table_build.f k l = some rs) :
    Calls Try.prog 91 #[.pointer (some ⟨b, 1, none⟩), .func (.func 92) #[.pointer (some ⟨b, 0, none⟩)] #[]] w fun e w' => e = .returned (.tuple #[]) ∧ Made w w' base ok b l rs := by
  obtain ⟨h0, A, c, d, s, v, hb, hR, hv⟩ := hT
  rcases hv with ⟨rfl, rfl⟩ | ⟨rfl, hS⟩
  · have hlk := blk_set hb 2 (.int .i32 1)
    have hR1 := Kd.R_set hR hb ne54 2 (.int .i32 1)
    have hr := Kd.R_reads' hR1
    have hne : ∀ ad, A = some ad → ad.block ≠ b := fun ad e he => Kd.R_ne hR hb (by decide) (by rw [e, ← he]; rfl)
    have hcall := build_calls k b s A c l rs (w.setCell ⟨b, 2, none⟩ (.int .i32 1)) hr.2.2 hr.2.1 hne hlk hk
    refine (do_first b 1 ⟨b, 0, none⟩ w (fun w2 => Built (w.setCell ⟨b, 2, none⟩ (.int .i32 1)) w2 b A l.length c s rs) ((blk_cell hb 1).trans rfl) ((blk_cell hb 2).trans rfl) (blk_frozen hb 1) (blk_frozen hb 2) hcall ?_ ?_ ?_ ?_).mono ?_
    · rintro w2 ⟨v, _, hB⟩
      exact kb_done hB
    · rintro w2 ⟨v, _, hB⟩
      exact kb_lock hB
    · rintro w2 ⟨v, _, hB⟩
      exact kb_frozen hB 1
    · rintro w2 ⟨v, _, hB⟩
      exact kb_frozen hB 2
    rintro e w' ⟨he, w2, ⟨v, hS, hB⟩, rfl⟩
    refine ⟨he, A, c, s, v, ?_⟩
    have hB1 := kb_putLock (u := 0) (kb_putDone (u := 1) (kb_drew1 hB))
    have hsz : (w.setCell ⟨b, 2, none⟩ (.int .i32 1)).heap.size = w.heap.size := by simp [World.setCell]
    have hg : w.grownBy ((w2.drew.setCell ⟨b, 1, none⟩ (.int .u32 1)).setCell ⟨b, 2, none⟩ (.int .i32 0)) (some b) :=
      ⟨hB1.1.os, hB1.1.tape, hB1.1.output, by have := hB1.1.size; omega, fun k hk hn => (hB1.1.block k (by omega) hn).trans (Below.heap_setCell _ _ _ _ (fun e => hn (by rw [e])))⟩
    refine ⟨hB1.2.1, ?_, ?_, hg⟩
    · exact Kd.R_mono (Kd.R_grown (Kd.R_types hR hb ne54) hg (fun k hk e => hk.2 (Option.some.inj e))) (fun _ hk => hk.1)
    · have hS1 : Kd.S (Kd.slice 54 k54) 42 w2.drew (w.setCell ⟨b, 2, none⟩ (.int .i32 1)).heap.size (fun _ => True) v rs := Kd.S_drew hS
      have hS2 := Kd.S_far (p := ⟨b, 1, none⟩) (Kd.S_types hS1 (kb_drew1 hB).2.1 ne42) (fun k hk => hk.2) (.int .u32 1)
      have hS3 := Kd.S_far (p := ⟨b, 2, none⟩) hS2 (fun k hk => hk.2) (.int .i32 0)
      rw [hsz] at hS3
      exact Kd.S_mono (Kd.S_lower (Kd.S_bound hS3) hbase) (fun k hk => .inr hk.2.1)
  · refine (do_done ⟨b, 1, none⟩ _ w ((blk_cell hb 1).trans rfl)).mono ?_
    rintro e w' ⟨he, rfl⟩
    exact ⟨he, A, c, s, v, hb, hR, Kd.S_mono hS (fun k hk => .inl hk), ⟨rfl, rfl, rfl, Nat.le_refl _, fun _ _ _ => rfl⟩⟩
theorem made_row {w w1 : World} {base b : Nat} {ok : Nat → Prop} {l : List S54} {rs : List (List S54)} {p : Int} (hlow : base ≤ b) (h : Made w w1 base ok b l rs) (hlen : rs.length = 1024) (h0 : 0 ≤ p) (h1 : p < 1024) :
    ∃ (ad : Addr) (cv : Nat) (Ar : Option Addr) (cr : Nat), w1.cell? ⟨b, 4, none⟩ = some (.slice (some ad) 1024 cv) ∧ w1.cell? (ad.add p.toNat) = some (.slice Ar (rs.getD p.toNat []).length cr) ∧
      Aside0 ((rs.getD p.toNat []).length ≤ cr ∧ Kd.C k54 w1 Ar (rs.getD p.toNat []).length (rs.getD p.toNat []) ∧ Tab w1 base (fun k => ok k ∨ w.heap.size ≤ k) b l rs ∧ w.grownBy w1 (some b)) := by
  obtain ⟨A, c, s, v, hb, hR, hS, hg⟩ := h
  have hT : Tab w1 base (fun k => ok k ∨ w.heap.size ≤ k) b l rs := ⟨hlow, A, c, 1, s, v, hb, Kd.R_mono hR (fun _ => .inl), .inr ⟨rfl, hS⟩⟩
  obtain ⟨g, cap, rfl, _⟩ := Kd.R_form (Kd.S_R hS) (by omega)
  obtain ⟨cs, _, ⟨vr, rfl, hRr⟩, hcc⟩ := Kd.R_getA (Kd.S_R hS) [] p h0 (by omega)
  have hc1 := hcc 0 vr rfl
  obtain ⟨Ar, cr, rfl, hle, hC⟩ := Kd.R_reads hRr
  have hz : p.toNat * (Kd.slice 54 k54).sz + 0 = p.toNat := by show p.toNat * 1 + 0 = _; omega
  rw [hz] at hc1
  exact ⟨⟨g, 0, none⟩, cap, Ar, cr, by rw [← hlen]; exact (blk_cell hb 4).trans rfl, hc1, ⟨hle, hC, hT, hg⟩⟩
/-- What 'at' hands back: row p, read; the table is asked again as ever. -/
def AtQ (w : World) (base : Nat) (ok : Nat → Prop) (b : Nat) (l : List S54) (rs : List (List S54)) (p : Int) (e : Ending) (w' : World) : Prop :=
  ∃ (A : Option Addr) (c : Nat), e = .returned (.tuple #[.slice A (rs.getD p.toNat []).length c, .int .i64 0]) ∧ (rs.getD p.toNat []).length ≤ c ∧ Kd.C k54 w' A (rs.getD p.toNat []).length (rs.getD p.toNat []) ∧
    Tab w' base (fun k => ok k ∨ w.heap.size ≤ k) b l rs ∧ w.grownBy w' (some b)
set_option maxRecDepth 100000 in
set_option maxHeartbeats 1600000 in
theorem at_calls (k base b : Nat) (ok : Nat → Prop) (l : List S54) (rs : List (List S54)) (p : Int) (w : World) (hT : Tab w base ok b l rs) (hbase : base ≤ w.heap.size) (hk : rope_Table_build.f k l = some rs)
    (hlen : rs.length = 1024) (h0 : 0 ≤ p) (h1 : p < 1024) :
    Calls Try.prog 64 #[.pointer (some ⟨b, 0, none⟩), .int .i64 p] w (AtQ w base ok b l rs p) := by
  have hlow := Aside0.mk hT.1
  have HD := Aside0.mk (do_any k base b ok l rs w hT hbase hk)
  have HL := Aside0.mk hlen
  clear hT hk hbase hlen
  have c0 : decide (p < 0) = false := decide_eq_false (by omega)
  have c1 : decide (p ≥ 1024) = false := decide_eq_false (by omega)
  have c2 : decide (1024 ≤ p) = false := decide_eq_false (by omega)
  have H0 := Aside0.mk h0
  have H1 := Aside0.mk h1
  have h0' := eq_true h0
  have h1' := eq_true h1
  clear h0 h1
  generalize hQ : AtQ w base ok b l rs p = Q
  have HQ := Aside0.mk hQ
  clear hQ
  go_enter Try.func64, Try.ntmps64
  go_wp2_with (go_at_call 91; refine HD.out.mono ?_; rintro e w1 ⟨rfl, HM⟩; obtain ⟨ad, cv, Ar, cr, hc4, hcp, HF⟩ := made_row hlow.out HM HL.out H0.out H1.out)
  rw [← HQ.out]
  exact ⟨Ar, cr, rfl, HF.out⟩
set_option maxRecDepth 100000 in
theorem at_out (b : Nat) (p : Int) (w : World) (h : p < 0 ∨ 1024 ≤ p) :
    Calls Try.prog 64 #[.pointer (some ⟨b, 0, none⟩), .int .i64 p] w fun e w' => e = .returned (.tuple #[.slice none 0 0, .int .i64 11]) ∧ w = w' := by
  by_cases c : p < 0
  · have c0 : decide (p < 0) = true := decide_eq_true c
    clear c h
    go_enter Try.func64, Try.ntmps64
    go_wp2
    go_ret2
    exact ⟨rfl, rfl⟩
  · have c0 : decide (p < 0) = false := decide_eq_false c
    have c1 : decide (p ≥ 1024) = true := decide_eq_true (by omega)
    have c2 : decide (1024 ≤ p) = true := decide_eq_true (by omega)
    clear c h
    go_enter Try.func64, Try.ntmps64
    go_wp2
    go_ret2
    exact ⟨rfl, rfl⟩
/-- What 'Row' hands back: row p, new. -/
def RowQ (w : World) (base : Nat) (ok : Nat → Prop) (b : Nat) (l : List S54) (rs : List (List S54)) (p : Int) (e : Ending) (w' : World) : Prop :=
  ∃ v : Value, e = .returned (.tuple #[v, .int .i64 0]) ∧ Kd.R k54 54 w' w.heap.size (fun _ => True) v (rs.getD p.toNat []) ∧
    Tab w' base (fun k => (ok k ∨ w.heap.size ≤ k) ∧ some k ≠ v.ownBlock) b l rs ∧ w.grownBy w' (some b)
theorem clone_f (l : List S54) (h : l.length < 17592186044416) : rope_Turn.f l = some l := by
  show (if ([] : List S54).length + l.length < 17592186044416 then some ([] ++ l) else none) = some l
  rw [if_pos (by simpa using h)]
  rfl
set_option maxRecDepth 100000 in
set_option maxHeartbeats 1600000 in
theorem row_calls (k base b : Nat) (ok : Nat → Prop) (l : List S54) (rs : List (List S54)) (p : Int) (w : World) (hT : Tab w base ok b l rs) (hbase : base ≤ w.heap.size) (hk : rope_Table_build.f k l = some rs)
    (hlen : rs.length = 1024) (h0 : 0 ≤ p) (h1 : p < 1024) (hr : (rs.getD p.toNat []).length < 17592186044416) :
    Calls Try.prog 32 #[.pointer (some ⟨b, 0, none⟩), .int .i64 p] w (RowQ w base ok b l rs p) := by
  have HD := Aside0.mk (at_calls k base b ok l rs p w hT hbase hk hlen h0 h1)
  have HC := Aside0.mk (clone_f _ hr)
  clear hT hk hbase hlen h0 h1 hr
  generalize hQ : RowQ w base ok b l rs p = Q
  have HQ := Aside0.mk hQ
  clear hQ
  go_enter Try.func32, Try.ntmps32
  go_wp2_with (first | (go_at_call 64; refine HD.out.mono ?_; rintro e w1 ⟨A, c, rfl, hc, hC, HT, hg⟩; have HG := Aside0.mk (And.intro hc (And.intro hC (And.intro HT hg))); clear hc hC HT hg) | (go_at_call 65; refine (rope_Turn.calls _ _ _ _ _ HG.out.2.1 HG.out.1 HC.out).mono ?_; rintro e w2 ⟨v, rfl, hR, hB⟩; have HR := Aside0.mk (And.intro hR hB); clear hR hB))
  rw [← HQ.out]
  obtain ⟨_, _, hT, hg⟩ := HG.out
  obtain ⟨hR, hB⟩ := HR.out
  refine ⟨v, rfl, Kd.R_lower hR hg.size, tab_elder hT (Kd.R_base hR) hB, ⟨hB.os.trans hg.os, hB.tape.trans hg.tape, hB.output.trans hg.output, Nat.le_trans hg.size hB.size, fun i hi hn => (hB.block i (Nat.lt_of_lt_of_le hi hg.size)).trans (hg.block i hi hn)⟩⟩
/-- What 'Row' hands back where there is no row. -/
def RowNo (w : World) (e : Ending) (w' : World) : Prop := ∃ v : Value, e = .returned (.tuple #[v, .int .i64 11]) ∧ Kd.R k54 54 w' w.heap.size (fun _ => True) v [] ∧ Below w.heap.size w w'
set_option maxRecDepth 100000 in
theorem row_out (b : Nat) (p : Int) (w : World) (h : p < 0 ∨ 1024 ≤ p) : Calls Try.prog 32 #[.pointer (some ⟨b, 0, none⟩), .int .i64 p] w (RowNo w) := by
  have HD := Aside0.mk (at_out b p w h)
  have HE := Aside0.mk (rope_Turn.calls none 0 [] [] w (Kd.C_nil _ _) (Nat.le_refl _) (clone_f [] (by decide)))
  clear h
  generalize hQ : RowNo w = Q
  have HQ := Aside0.mk hQ
  clear hQ
  go_enter Try.func32, Try.ntmps32
  go_wp2_with (first | (go_at_call 64; refine HD.out.mono ?_; rintro e w1 ⟨rfl, rfl⟩) | (go_at_call 65; refine HE.out.mono ?_; rintro e w2 ⟨v, rfl, hR, hB⟩; have HR := Aside0.mk (And.intro hR hB); clear hR hB))
  rw [← HQ.out]
  exact ⟨v, rfl, HR.out⟩
/-- 'Turns'. -/
theorem turns_calls (base b : Nat) (ok : Nat → Prop) (l : List S54) (rs : List (List S54)) (w : World) (hT : Tab w base ok b l rs) :
    Calls Try.prog 33 #[.pointer (some ⟨b, 0, none⟩)] w fun e w' => e = .returned (.int .i64 l.length) ∧ w = w' := by
  obtain ⟨_, A, c, d, s, v, hb, _⟩ := hT
  have hc : w.cell? ⟨b, 0, none⟩ = some (.slice A l.length c) := (blk_cell hb 0).trans rfl
  clear hb
  go_enter Try.func33, Try.ntmps33
  go_wp2
  go_ret
  exact ⟨rfl, rfl⟩
/-! ### New -/
/-- A new table. -/
def NewQ (w : World) (l : List S54) (rs : List (List S54)) (e : Ending) (w' : World) : Prop :=
  ∃ b : Nat, e = .returned (.tuple #[.pointer (some ⟨b, 0, none⟩), .int .i64 0]) ∧ Tab w' w.heap.size (fun _ => True) b l rs ∧ Below w.heap.size w w'
set_option maxRecDepth 100000 in
set_option maxHeartbeats 1600000 in
theorem new_yes (k : Nat) (A : Option Addr) (c : Nat) (l : List S54) (rs : List (List S54)) (w : World) (hr : Kd.C k54 w A l.length l) (hc : l.length ≤ c) (h8 : l.length ≤ 8) (ha : rope_allRight.f k l = some true) :
    Calls Try.prog 62 #[.slice A l.length c] w (NewQ w l rs) := by
  have HA := Aside0.mk (rope_allRight.calls k A c l true w hr hc ha)
  have HC := Aside0.mk hr
  have HL := Aside0.mk hc
  have HK := Aside0.mk (clone_f l (by omega))
  have c0 : decide ((l.length : Int) > 8) = false := decide_eq_false (by omega)
  have c1 : decide (8 < (l.length : Int)) = false := decide_eq_false (by omega)
  have c2 : decide (8 < l.length) = false := decide_eq_false (by omega)
  have hnot : ∀ (x : Bool) (w : World), (Op.unary .not (.bool x)).run Try.prog w = .ok (.bool (!x)) w := fun _ _ => rfl
  clear hr hc ha h8
  generalize hQ : NewQ w l rs = Q
  have HQ := Aside0.mk hQ
  clear hQ
  go_enter Try.func62, Try.ntmps62
  go_wp2_with (first | (go_at_call 90; refine HA.out.mono ?_; rintro e w1 ⟨rfl, hB⟩; have HB := Aside0.mk hB; clear hB) | (go_at_call 65; refine (rope_Turn.calls _ _ _ _ _ (Kd.C_below HC.out HB.out) HL.out HK.out).mono ?_; rintro e w2 ⟨v, rfl, hR, hB2⟩; obtain ⟨Av, cv, ev⟩ := Kd.R_slice hR; subst ev; have HR := Aside0.mk (And.intro hR hB2); clear hR hB2))
  rw [← HQ.out]
  obtain ⟨hR, hB2⟩ := HR.out
  have hB := HB.out
  refine ⟨w2.heap.size, rfl, ⟨Nat.le_trans hB.size hB2.size, Av, cv, 0, 0, _, heap_alloc_new w2 _, Kd.R_alloc (Kd.R_lower hR hB.size) _, .inl ⟨rfl, rfl⟩⟩, below_alloc (below_step hB hB2) _⟩
/-- No table: the error's number. -/
def NewNo (w : World) (n : Int) (e : Ending) (w' : World) : Prop := e = .returned (.tuple #[.pointer none, .int .i64 n]) ∧ Below w.heap.size w w'
set_option maxRecDepth 100000 in
theorem new_many (A : Option Addr) (c : Nat) (l : List S54) (w : World) (h8 : 8 < l.length) : Calls Try.prog 62 #[.slice A l.length c] w (NewNo w 12) := by
  have c0 : decide ((l.length : Int) > 8) = true := decide_eq_true (by omega)
  have c1 : decide (8 < (l.length : Int)) = true := decide_eq_true (by omega)
  have c2 : decide (8 < l.length) = true := decide_eq_true (by omega)
  clear h8
  generalize hQ : NewNo w 12 = Q
  have HQ := Aside0.mk hQ
  clear hQ
  go_enter Try.func62, Try.ntmps62
  go_wp2
  rw [← HQ.out]
  exact ⟨rfl, Below.refl _ _⟩
set_option maxRecDepth 100000 in
set_option maxHeartbeats 1600000 in
theorem new_no (k : Nat) (A : Option Addr) (c : Nat) (l : List S54) (w : World) (hr : Kd.C k54 w A l.length l) (hc : l.length ≤ c) (h8 : l.length ≤ 8) (ha : rope_allRight.f k l = some false) :
    Calls Try.prog 62 #[.slice A l.length c] w (NewNo w 11) := by
  have HA := Aside0.mk (rope_allRight.calls k A c l false w hr hc ha)
  have c0 : decide ((l.length : Int) > 8) = false := decide_eq_false (by omega)
  have c1 : decide (8 < (l.length : Int)) = false := decide_eq_false (by omega)
  have c2 : decide (8 < l.length) = false := decide_eq_false (by omega)
  have hnot : ∀ (x : Bool) (w : World), (Op.unary .not (.bool x)).run Try.prog w = .ok (.bool (!x)) w := fun _ _ => rfl
  clear hr hc ha h8
  generalize hQ : NewNo w 11 = Q
  have HQ := Aside0.mk hQ
  clear hQ
  go_enter Try.func62, Try.ntmps62
  go_wp2_with (go_at_call 90; refine HA.out.mono ?_; rintro e w1 ⟨rfl, hB⟩; have HB := Aside0.mk hB; clear hB)
  rw [← HQ.out]
  exact ⟨rfl, HB.out⟩
end Go.Proofs.Ytmndomlpdajjmac.Rt
