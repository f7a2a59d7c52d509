/- sync.Once.Do for a bound method whose contract is given. -/
import Derived.Test.YtmndomlpdajjmacOnce
namespace Go.Proofs.Ytmndomlpdajjmac.Rt
open Go.RowKit Go.Proofs.YtmndomlpdajjmacW.PrintWords Go.Proofs.YtmndomlpdajjmacW.PrintLast Go.Proofs.YtmndomlpdajjmacW.PrintMore
set_option linter.unusedVariables false
set_option linter.unusedSimpArgs false
theorem load_zero (a : Addr) (w : World) (h : w.cell? a = some (.int .u32 0)) : Calls Try.prog 100 #[.pointer (some a)] w fun e w' => e = .returned (.bool false) ∧ w' = w := by
  have hl := run_call_load (P := Try.prog) Try.func104 (by kernel_rfl) (by kernel_rfl) (by kernel_rfl) .u32 (by kernel_rfl) h
  go_enter Try.func100, Try.ntmps100
  go_wp2
  go_ret
  exact ⟨rfl, rfl⟩
theorem load_one (a : Addr) (w : World) (h : w.cell? a = some (.int .u32 1)) : Calls Try.prog 100 #[.pointer (some a)] w fun e w' => e = .returned (.bool true) ∧ w' = w := by
  have hl := run_call_load (P := Try.prog) Try.func104 (by kernel_rfl) (by kernel_rfl) (by kernel_rfl) .u32 (by kernel_rfl) h
  go_enter Try.func100, Try.ntmps100
  go_wp2
  go_ret
  exact ⟨rfl, rfl⟩
/-- The world behind the slow road, w2 the one in which the method has ended. -/
def Behind (Q : World → Prop) (b off : Nat) (w' : World) : Prop := ∃ w2, Q w2 ∧ w' = (w2.drew.setCell ⟨b, off, none⟩ (.int .u32 1)).setCell ⟨b, off + 1, none⟩ (.int .i32 0)
set_option maxRecDepth 100000 in
set_option maxHeartbeats 1600000 in
theorem slow_any (b off : Nat) (tb : Addr) (w : World) (Q : World → Prop)
    (h0 : w.cell? ⟨b, off, none⟩ = some (.int .u32 0)) (h1 : w.cell? ⟨b, off + 1, none⟩ = some (.int .i32 0))
    (f0 : w.frozen? ⟨b, off, none⟩ = false) (f1 : w.frozen? ⟨b, off + 1, none⟩ = false)
    (hb : Calls Try.prog 92 #[.pointer (some tb)] (w.setCell ⟨b, off + 1, none⟩ (.int .i32 1)) fun e w2 => e = .returned (.tuple #[]) ∧ Q w2)
    (q0 : ∀ w2, Q w2 → w2.cell? ⟨b, off, none⟩ = some (.int .u32 0)) (q1 : ∀ w2, Q w2 → w2.cell? ⟨b, off + 1, none⟩ = some (.int .i32 1))
    (z0 : ∀ w2, Q w2 → w2.frozen? ⟨b, off, none⟩ = false) (z1 : ∀ w2, Q w2 → w2.frozen? ⟨b, off + 1, none⟩ = false) :
    Calls Try.prog 101 #[.pointer (some ⟨b, off, none⟩), .func (.func 92) #[.pointer (some tb)] #[]] w fun e w' => e = .returned (.tuple #[]) ∧ Behind Q b off w' := by
  have HB := Aside0.mk hb
  have Q0 := Aside0.mk q0
  have Q1 := Aside0.mk q1
  have Z0 := Aside0.mk z0
  have Z1 := Aside0.mk z1
  clear hb q0 q1 z0 z1
  have c0 : (w.setCell ⟨b, off + 1, none⟩ (.int .i32 1)).cell? ⟨b, off, none⟩ = some (.int .u32 0) := (World.cell?_setCell_other _ ⟨b, off + 1, none⟩ ⟨b, off, none⟩ _ (by simp)).trans h0
  have hnot : ∀ (x : Bool) (w : World), (Op.unary .not (.bool x)).run Try.prog w = .ok (.bool (!x)) w := fun _ _ => rfl
  go_enter_defers Try.func101, Try.ntmps101
  go_wp2_with (first | (go_at_call 105; refine (lock_free ⟨b, off + 1, none⟩ _ (by go_simp) (by go_simp)).mono ?_; rintro e w' ⟨rfl, rfl⟩) | (go_at_call 100; refine (load_zero ⟨b, off, none⟩ _ c0).mono ?_; rintro e w' ⟨rfl, rfl⟩) | (go_at_call 92; refine HB.out.mono ?_; rintro e w2 ⟨rfl, hQ⟩))
  refine leaves_cons (f := 107) (args := #[.pointer (some ⟨b, off, none⟩), .bool true]) (by simp) (by simp [go_sem]) ?_
  refine (store_deferred ⟨b, off, none⟩ (.int .u32 0) .returning _ (Q0.out _ hQ) (Z0.out _ hQ)).mono ?_
  rintro e u' w'' ⟨rfl, rfl, rfl⟩
  refine leaves_cons (f := 106) (args := #[.pointer (some ⟨b, off + 1, none⟩)]) (by simp [settle]) (by simp [go_sem]) ?_
  refine (unlock_deferred ⟨b, off + 1, none⟩ _ _ ?_ ?_).mono ?_
  · refine (World.cell?_setCell_other _ ⟨b, off, none⟩ ⟨b, off + 1, none⟩ _ (by simp)).trans ?_
    rw [World.cell?_drew]
    exact Q1.out _ hQ
  · have := Z1.out _ hQ
    simp [this]
  rintro e u' w'' ⟨rfl, rfl, rfl⟩
  have hE : Behind Q b off ((w2.drew.setCell ⟨b, off, none⟩ (.int .u32 1)).setCell ⟨b, off + 1, none⟩ (.int .i32 0)) := ⟨w2, hQ, rfl⟩
  simp [Leaves, settle, results, Try.results101, hE]
set_option maxRecDepth 100000 in
set_option maxHeartbeats 1600000 in
/-- '(*sync.Once).Do', not yet done, the lock free. -/
theorem do_first (b off : Nat) (tb : Addr) (w : World) (Q : World → Prop)
    (h0 : w.cell? ⟨b, off, none⟩ = some (.int .u32 0)) (h1 : w.cell? ⟨b, off + 1, none⟩ = some (.int .i32 0))
    (f0 : w.frozen? ⟨b, off, none⟩ = false) (f1 : w.frozen? ⟨b, off + 1, none⟩ = false)
    (hb : Calls Try.prog 92 #[.pointer (some tb)] (w.setCell ⟨b, off + 1, none⟩ (.int .i32 1)) fun e w2 => e = .returned (.tuple #[]) ∧ Q w2)
    (q0 : ∀ w2, Q w2 → w2.cell? ⟨b, off, none⟩ = some (.int .u32 0)) (q1 : ∀ w2, Q w2 → w2.cell? ⟨b, off + 1, none⟩ = some (.int .i32 1))
    (z0 : ∀ w2, Q w2 → w2.frozen? ⟨b, off, none⟩ = false) (z1 : ∀ w2, Q w2 → w2.frozen? ⟨b, off + 1, none⟩ = false) :
    Calls Try.prog 91 #[.pointer (some ⟨b, off, none⟩), .func (.func 92) #[.pointer (some tb)] #[]] w fun e w' => e = .returned (.tuple #[]) ∧ Behind Q b off w' := by
  have HS := Aside0.mk (slow_any b off tb w Q h0 h1 f0 f1 hb q0 q1 z0 z1)
  clear hb q0 q1 z0 z1
  have hnot : ∀ (x : Bool) (w : World), (Op.unary .not (.bool x)).run Try.prog w = .ok (.bool (!x)) w := fun _ _ => rfl
  go_enter Try.func91, Try.ntmps91
  go_wp2_with (first | (go_at_call 100; refine (load_zero ⟨b, off, none⟩ _ h0).mono ?_; rintro e w' ⟨rfl, rfl⟩) | (go_at_call 101; refine HS.out.mono ?_; rintro e w2 ⟨rfl, hQ⟩))
  go_end0
  exact ⟨rfl, hQ⟩
/-- '(*sync.Once).Do', done already. -/
theorem do_done (a : Addr) (fv : Value) (w : World) (h0 : w.cell? a = some (.int .u32 1)) :
    Calls Try.prog 91 #[.pointer (some a), fv] w fun e w' => e = .returned (.tuple #[]) ∧ w' = w := by
  have hnot : ∀ (x : Bool) (w : World), (Op.unary .not (.bool x)).run Try.prog w = .ok (.bool (!x)) w := fun _ _ => rfl
  go_enter Try.func91, Try.ntmps91
  go_wp2_with (first | (go_at_call 100; refine (load_one a _ h0).mono ?_; rintro e w' ⟨rfl, rfl⟩))
  go_end0
  exact ⟨rfl, rfl⟩
end Go.Proofs.Ytmndomlpdajjmac.Rt
