/- A table's block, and a world that keeps all else: what a call writes beside it is new, or that block alone. -/
import Derived.Test.YtmndomlpdajjmacSlow
namespace Go.Proofs.Ytmndomlpdajjmac.Rt
open Go.RowKit Go.Proofs.YtmndomlpdajjmacW.PrintWords Go.Proofs.YtmndomlpdajjmacW.PrintLast Go.Proofs.YtmndomlpdajjmacW.PrintMore
set_option linter.unusedVariables false
/-- The block of a table: its turns, the word and the lock of its Once, its rows. -/
def tabO (A : Option Addr) (n c : Nat) (d l s : Int) (v : Value) : Obj := .cells #[.slice A n c, .int .u32 d, .int .i32 l, .int .u32 s, v] 96 (0, 0)
/-- Block b aside, what stood in w stands; block b is o. -/
def KB (w w' : World) (b : Nat) (o : Obj) : Prop := w.grownBy w' (some b) ∧ w'.heap[b]? = some o ∧ b < w.heap.size
section
variable {w w' w2 : World} {b n c : Nat} {o : Obj} {A : Option Addr} {d l s : Int} {v : Value}
theorem kb_refl (h : w.heap[b]? = some o) : KB w w b o := ⟨⟨rfl, rfl, rfl, Nat.le_refl _, fun _ _ _ => rfl⟩, h, blk_lt h⟩
theorem kb_then (h : KB w w' b o) (hos : w2.os = w'.os) (ht : w2.tape = w'.tape) (ho : w2.output = w'.output) (hs : w'.heap.size ≤ w2.heap.size)
    (hb : ∀ k, k < w'.heap.size → (k < w.heap.size ∨ k = b) → w2.heap[k]? = w'.heap[k]?) : KB w w2 b o :=
  ⟨⟨hos.trans h.1.os, ht.trans h.1.tape, ho.trans h.1.output, Nat.le_trans h.1.size hs, fun k hk hne => (hb k (Nat.lt_of_lt_of_le hk h.1.size) (.inl hk)).trans (h.1.block k hk hne)⟩,
    (hb b (blk_lt h.2.1) (.inr rfl)).trans h.2.1, h.2.2⟩
theorem kb_size (h : KB w w' b o) : w.heap.size ≤ w'.heap.size := h.1.size
theorem kb_alloc (h : KB w w' b o) (x : Obj) : KB w (w'.alloc x) b o := kb_then h rfl rfl rfl (by simp) (fun k hk _ => Below.heap_alloc _ _ _ hk)
theorem kb_drew1 (h : KB w w' b o) : KB w w'.drew b o := kb_then h rfl rfl rfl (Nat.le_refl _) (fun _ _ _ => rfl)
theorem kb_drewN (h : KB w w' b o) (m : Nat) : KB w (w'.drewN m) b o := kb_then h rfl rfl rfl (Nat.le_refl _) (fun _ _ _ => rfl)
theorem kb_step (h : KB w w' b o) (hb : Below w'.heap.size w' w2) : KB w w2 b o := kb_then h hb.os hb.tape hb.output hb.size (fun k hk _ => hb.block k hk)
theorem kb_set (h : KB w w' b o) {p : Addr} (hp : w.heap.size ≤ p.block) (u : Value) : KB w (w'.setCell p u) b o :=
  kb_then h rfl rfl rfl (by simp [World.setCell]) (fun k _ hk => Below.heap_setCell _ _ _ _ (by have := h.2.2; rcases hk with hk | rfl <;> omega))
theorem kbt_set {g j : Nat} {u : Value} (h : KB w w' b o) (hg : w.heap.size ≤ g) : KB w (w'.setCell ⟨g, j, none⟩ u) b o := kb_set h (p := ⟨g, j, none⟩) hg u
theorem kb_grown {row : Option Nat} (h : KB w w' b o) (hg : w'.grownBy w2 row) (hr : ∀ k, row = some k → w.heap.size ≤ k) : KB w w2 b o :=
  kb_then h hg.os hg.tape hg.output hg.size (fun k hk hw => hg.block k hk (fun e => by have := hr k e.symm; have := h.2.2; rcases hw with hw | rfl <;> omega))
theorem kb_cell (h : KB w w' b o) {a : Addr} {u : Value} (hx : w.cell? a = some u) (hne : a.block ≠ b) : w'.cell? a = some u := h.1.cell hx (fun e => hne (Option.some.inj e))
theorem kb_turns (h : KB w w' b (tabO A n c d l s v)) : w'.cell? ⟨b, 0, none⟩ = some (.slice A n c) := (blk_cell h.2.1 0).trans rfl
theorem kb_done (h : KB w w' b (tabO A n c d l s v)) : w'.cell? ⟨b, 1, none⟩ = some (.int .u32 d) := (blk_cell h.2.1 1).trans rfl
theorem kb_lock (h : KB w w' b (tabO A n c d l s v)) : w'.cell? ⟨b, 2, none⟩ = some (.int .i32 l) := (blk_cell h.2.1 2).trans rfl
theorem kb_rows (h : KB w w' b (tabO A n c d l s v)) : w'.cell? ⟨b, 4, none⟩ = some v := (blk_cell h.2.1 4).trans rfl
theorem kb_frozen (h : KB w w' b (tabO A n c d l s v)) (i : Nat) : w'.frozen? ⟨b, i, none⟩ = false := blk_frozen h.2.1 i
theorem kb_into (h : KB w w' b o) {o2 : Obj} (i : Nat) (u : Value) (h2 : (w'.setCell ⟨b, i, none⟩ u).heap[b]? = some o2) : KB w (w'.setCell ⟨b, i, none⟩ u) b o2 :=
  ⟨⟨h.1.os, h.1.tape, h.1.output, by have := h.1.size; simpa [World.setCell] using this, fun k hk hne => (Below.heap_setCell _ _ _ _ (fun e => hne (by rw [e]))).trans (h.1.block k hk hne)⟩, h2, h.2.2⟩
theorem kb_put {u : Value} (h : KB w w' b (tabO A n c d l s v)) : KB w (w'.setCell ⟨b, 4, none⟩ u) b (tabO A n c d l s u) := kb_into h 4 u (blk_set h.2.1 4 u)
theorem kb_putDone {u : Int} (h : KB w w' b (tabO A n c d l s v)) : KB w (w'.setCell ⟨b, 1, none⟩ (.int .u32 u)) b (tabO A n c u l s v) := kb_into h 1 _ (blk_set h.2.1 1 _)
theorem kb_putLock {u : Int} (h : KB w w' b (tabO A n c d l s v)) : KB w (w'.setCell ⟨b, 2, none⟩ (.int .i32 u)) b (tabO A n c d u s v) := kb_into h 2 _ (blk_set h.2.1 2 _)
end
end Go.Proofs.Ytmndomlpdajjmac.Rt
