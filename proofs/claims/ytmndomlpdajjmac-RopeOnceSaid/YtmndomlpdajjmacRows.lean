/-
  No cell of these rows narrows 'for every input' (looked for: loops, veiled, ifaces, maps, wideKeys, modest, calm, conditions, laid).
  DERIVED. THE GIVEN ROWS OF THIS SEAT. 12 by the template 'for every input the law returns true; each argument reads behind the call as it read before'; 0 by the template 'total and deterministic' (their statements: YtmndomlpdajjmacTotals.lean).
  GIVEN WITH THE SEED: the statements are not yours to turn. If you find one false, say at which input.
  Laid BY PROGRAM, IN A SANDBOX (cutbox-rows.mjs): the forced cells as the released guide's own fill.sh prints them over the translation 9efbdf430e54047c… (all of the seat's roots in one cut). By AI agents, Wed Nov 11 2026. No macro, syntax, notation, axiom, sorry.
-/
import Derived.Test.YtmndomlpdajjmacChecked
import GoSem.Claim
import GoSem.ClaimJoined
import GoSem.ClaimMapViews
import Derived.JoinedTies
import Derived.KernelRfl
namespace Go.Proofs.Ytmndomlpdajjmac
/- THE CELL 'sum', in the pinned program and in every row, IS THE sha256 OF THE DUMP (.gsa) THAT YtmndomlpdajjmacProg.lean LOADS. Nothing in Lean hashes anything: it is a label: what it is worth is what the hold of that sum in a sandbox is worth. -/
noncomputable def Try.pinned : Pinned := { name := "ytmndomlpdajjmac", sum := "9efbdf430e54047c0242b2b297654d508026fbe69ec0c77b53ebc55aac118cd3", checked := Try.checked }
namespace Rows
def none {H : Type} : Left H := { results := [], args := [] }

/-- 'credenzalaw04.SoftMoves': WHATEVER THE INPUT: true; the input reads as it did. -/
def softMovesSpec : ChangeSpec := { name := "softMoves", fn := fun _ => fun
  | [d1, d2] => { results := [.lit (.bool true)], args := [d1, d2] }
  | _ => none }
def softMovesRow : OpenClaim := { program := "ytmndomlpdajjmac", sum := "9efbdf430e54047c0242b2b297654d508026fbe69ec0c77b53ebc55aac118cd3", func := "credenza/credenzalaw04.SoftMoves", spec := "softMoves", unfollowed := true, recurses := true, apart := false }
def SoftMovesSaid : Prop := softMovesRow.holds Try.pinned (OpenSpec.ofChange softMovesSpec)

/-- ITS FALSE NEIGHBOUR: 'it returns false'. Refute it at one input. -/
def softMovesWrong : ChangeSpec := { name := "softMoves", fn := fun _ => fun
  | [d1, d2] => { results := [.lit (.bool false)], args := [d1, d2] }
  | _ => none }
def SoftMovesWrongFalsely : Prop := softMovesRow.holds Try.pinned (OpenSpec.ofChange softMovesWrong)

/-- 'credenzalaw04.SoftBetween': WHATEVER THE INPUT: true; the input reads as it did. -/
def softBetweenSpec : ChangeSpec := { name := "softBetween", fn := fun _ => fun
  | [d1, d2] => { results := [.lit (.bool true)], args := [d1, d2] }
  | _ => none }
def softBetweenRow : OpenClaim := { program := "ytmndomlpdajjmac", sum := "9efbdf430e54047c0242b2b297654d508026fbe69ec0c77b53ebc55aac118cd3", func := "credenza/credenzalaw04.SoftBetween", spec := "softBetween", unfollowed := true, recurses := true, apart := false }
def SoftBetweenSaid : Prop := softBetweenRow.holds Try.pinned (OpenSpec.ofChange softBetweenSpec)

/-- ITS FALSE NEIGHBOUR: 'it returns false'. Refute it at one input. -/
def softBetweenWrong : ChangeSpec := { name := "softBetween", fn := fun _ => fun
  | [d1, d2] => { results := [.lit (.bool false)], args := [d1, d2] }
  | _ => none }
def SoftBetweenWrongFalsely : Prop := softBetweenRow.holds Try.pinned (OpenSpec.ofChange softBetweenWrong)

/-- 'credenzalaw04.SoftOrder': WHATEVER THE INPUT: true; the input reads as it did. -/
def softOrderSpec : ChangeSpec := { name := "softOrder", fn := fun _ => fun
  | [d1, d2] => { results := [.lit (.bool true)], args := [d1, d2] }
  | _ => none }
def softOrderRow : OpenClaim := { program := "ytmndomlpdajjmac", sum := "9efbdf430e54047c0242b2b297654d508026fbe69ec0c77b53ebc55aac118cd3", func := "credenza/credenzalaw04.SoftOrder", spec := "softOrder", unfollowed := true, recurses := true, apart := false }
def SoftOrderSaid : Prop := softOrderRow.holds Try.pinned (OpenSpec.ofChange softOrderSpec)

/-- ITS FALSE NEIGHBOUR: 'it returns false'. Refute it at one input. -/
def softOrderWrong : ChangeSpec := { name := "softOrder", fn := fun _ => fun
  | [d1, d2] => { results := [.lit (.bool false)], args := [d1, d2] }
  | _ => none }
def SoftOrderWrongFalsely : Prop := softOrderRow.holds Try.pinned (OpenSpec.ofChange softOrderWrong)

/-- 'credenzalaw15.NormEvens': WHATEVER THE INPUT: true; the input reads as it did. -/
def normEvensSpec : ChangeSpec := { name := "normEvens", fn := fun _ => fun
  | [d1, d2] => { results := [.lit (.bool true)], args := [d1, d2] }
  | _ => none }
def normEvensRow : OpenClaim := { program := "ytmndomlpdajjmac", sum := "9efbdf430e54047c0242b2b297654d508026fbe69ec0c77b53ebc55aac118cd3", func := "credenza/credenzalaw15.NormEvens", spec := "normEvens", unfollowed := true, recurses := true, apart := false }
def NormEvensSaid : Prop := normEvensRow.holds Try.pinned (OpenSpec.ofChange normEvensSpec)

/-- ITS FALSE NEIGHBOUR: 'it returns false'. Refute it at one input. -/
def normEvensWrong : ChangeSpec := { name := "normEvens", fn := fun _ => fun
  | [d1, d2] => { results := [.lit (.bool false)], args := [d1, d2] }
  | _ => none }
def NormEvensWrongFalsely : Prop := normEvensRow.holds Try.pinned (OpenSpec.ofChange normEvensWrong)

/-- 'credenzalaw15.NormGates': WHATEVER THE INPUT: true; the input reads as it did. -/
def normGatesSpec : ChangeSpec := { name := "normGates", fn := fun _ => fun
  | [d1, d2] => { results := [.lit (.bool true)], args := [d1, d2] }
  | _ => none }
def normGatesRow : OpenClaim := { program := "ytmndomlpdajjmac", sum := "9efbdf430e54047c0242b2b297654d508026fbe69ec0c77b53ebc55aac118cd3", func := "credenza/credenzalaw15.NormGates", spec := "normGates", unfollowed := true, recurses := true, apart := false }
def NormGatesSaid : Prop := normGatesRow.holds Try.pinned (OpenSpec.ofChange normGatesSpec)

/-- ITS FALSE NEIGHBOUR: 'it returns false'. Refute it at one input. -/
def normGatesWrong : ChangeSpec := { name := "normGates", fn := fun _ => fun
  | [d1, d2] => { results := [.lit (.bool false)], args := [d1, d2] }
  | _ => none }
def NormGatesWrongFalsely : Prop := normGatesRow.holds Try.pinned (OpenSpec.ofChange normGatesWrong)

/-- 'credenzalaw15.NormOdd': WHATEVER THE INPUT: true; the input reads as it did. -/
def normOddSpec : ChangeSpec := { name := "normOdd", fn := fun _ => fun
  | [d1, d2] => { results := [.lit (.bool true)], args := [d1, d2] }
  | _ => none }
def normOddRow : OpenClaim := { program := "ytmndomlpdajjmac", sum := "9efbdf430e54047c0242b2b297654d508026fbe69ec0c77b53ebc55aac118cd3", func := "credenza/credenzalaw15.NormOdd", spec := "normOdd", unfollowed := true, recurses := true, apart := false }
def NormOddSaid : Prop := normOddRow.holds Try.pinned (OpenSpec.ofChange normOddSpec)

/-- ITS FALSE NEIGHBOUR: 'it returns false'. Refute it at one input. -/
def normOddWrong : ChangeSpec := { name := "normOdd", fn := fun _ => fun
  | [d1, d2] => { results := [.lit (.bool false)], args := [d1, d2] }
  | _ => none }
def NormOddWrongFalsely : Prop := normOddRow.holds Try.pinned (OpenSpec.ofChange normOddWrong)

/-- 'credenzalaw15.NormOnes': WHATEVER THE INPUT: true; the input reads as it did. -/
def normOnesSpec : ChangeSpec := { name := "normOnes", fn := fun _ => fun
  | [d1, d2] => { results := [.lit (.bool true)], args := [d1, d2] }
  | _ => none }
def normOnesRow : OpenClaim := { program := "ytmndomlpdajjmac", sum := "9efbdf430e54047c0242b2b297654d508026fbe69ec0c77b53ebc55aac118cd3", func := "credenza/credenzalaw15.NormOnes", spec := "normOnes", unfollowed := true, recurses := true, apart := false }
def NormOnesSaid : Prop := normOnesRow.holds Try.pinned (OpenSpec.ofChange normOnesSpec)

/-- ITS FALSE NEIGHBOUR: 'it returns false'. Refute it at one input. -/
def normOnesWrong : ChangeSpec := { name := "normOnes", fn := fun _ => fun
  | [d1, d2] => { results := [.lit (.bool false)], args := [d1, d2] }
  | _ => none }
def NormOnesWrongFalsely : Prop := normOnesRow.holds Try.pinned (OpenSpec.ofChange normOnesWrong)

/-- 'credenzalaw16.RopeTurns': WHATEVER THE INPUT: true; the input reads as it did. -/
def ropeTurnsSpec : ChangeSpec := { name := "ropeTurns", fn := fun _ => fun
  | [d1, d2] => { results := [.lit (.bool true)], args := [d1, d2] }
  | _ => none }
def ropeTurnsRow : OpenClaim := { program := "ytmndomlpdajjmac", sum := "9efbdf430e54047c0242b2b297654d508026fbe69ec0c77b53ebc55aac118cd3", func := "credenza/credenzalaw16.RopeTurns", spec := "ropeTurns", inPlace := ["sync/atomic.LoadUint32", "(*internal/sync.Mutex).Lock", "internal/race.Disable", "sync/atomic.CompareAndSwapInt32", "internal/race.Enable", "internal/race.Acquire", "(*internal/sync.Mutex).lockSlow", "internal/sync.runtime_canSpin", "internal/sync.runtime_doSpin", "internal/sync.throw", "internal/sync.runtime_nanotime", "internal/sync.runtime_SemacquireMutex", "sync/atomic.AddInt32", "(*internal/sync.Mutex).Unlock", "internal/race.ReleaseMerge", "(*internal/sync.Mutex).unlockSlow", "internal/sync.fatal", "internal/sync.runtime_Semrelease", "sync/atomic.StoreUint32"], unfollowed := true, recurses := true, apart := false }
def RopeTurnsSaid : Prop := ropeTurnsRow.holds Try.pinned (OpenSpec.ofChange ropeTurnsSpec)

/-- ITS FALSE NEIGHBOUR: 'it returns false'. Refute it at one input. -/
def ropeTurnsWrong : ChangeSpec := { name := "ropeTurns", fn := fun _ => fun
  | [d1, d2] => { results := [.lit (.bool false)], args := [d1, d2] }
  | _ => none }
def RopeTurnsWrongFalsely : Prop := ropeTurnsRow.holds Try.pinned (OpenSpec.ofChange ropeTurnsWrong)

/-- 'credenzalaw16.RopeRotates': WHATEVER THE INPUT: true; the input reads as it did. -/
def ropeRotatesSpec : ChangeSpec := { name := "ropeRotates", fn := fun _ => fun
  | [d1, d2, d3] => { results := [.lit (.bool true)], args := [d1, d2, d3] }
  | _ => none }
def ropeRotatesRow : OpenClaim := { program := "ytmndomlpdajjmac", sum := "9efbdf430e54047c0242b2b297654d508026fbe69ec0c77b53ebc55aac118cd3", func := "credenza/credenzalaw16.RopeRotates", spec := "ropeRotates", inPlace := ["sync/atomic.LoadUint32", "(*internal/sync.Mutex).Lock", "internal/race.Disable", "sync/atomic.CompareAndSwapInt32", "internal/race.Enable", "internal/race.Acquire", "(*internal/sync.Mutex).lockSlow", "internal/sync.runtime_canSpin", "internal/sync.runtime_doSpin", "internal/sync.throw", "internal/sync.runtime_nanotime", "internal/sync.runtime_SemacquireMutex", "sync/atomic.AddInt32", "(*internal/sync.Mutex).Unlock", "internal/race.ReleaseMerge", "(*internal/sync.Mutex).unlockSlow", "internal/sync.fatal", "internal/sync.runtime_Semrelease", "sync/atomic.StoreUint32"], unfollowed := true, recurses := true, apart := false }
def RopeRotatesSaid : Prop := ropeRotatesRow.holds Try.pinned (OpenSpec.ofChange ropeRotatesSpec)

/-- ITS FALSE NEIGHBOUR: 'it returns false'. Refute it at one input. -/
def ropeRotatesWrong : ChangeSpec := { name := "ropeRotates", fn := fun _ => fun
  | [d1, d2, d3] => { results := [.lit (.bool false)], args := [d1, d2, d3] }
  | _ => none }
def RopeRotatesWrongFalsely : Prop := ropeRotatesRow.holds Try.pinned (OpenSpec.ofChange ropeRotatesWrong)

/-- 'credenzalaw16.RopeOnce': WHATEVER THE INPUT: true; the input reads as it did. -/
def ropeOnceSpec : ChangeSpec := { name := "ropeOnce", fn := fun _ => fun
  | [d1, d2] => { results := [.lit (.bool true)], args := [d1, d2] }
  | _ => none }
def ropeOnceRow : OpenClaim := { program := "ytmndomlpdajjmac", sum := "9efbdf430e54047c0242b2b297654d508026fbe69ec0c77b53ebc55aac118cd3", func := "credenza/credenzalaw16.RopeOnce", spec := "ropeOnce", inPlace := ["sync/atomic.LoadUint32", "(*internal/sync.Mutex).Lock", "internal/race.Disable", "sync/atomic.CompareAndSwapInt32", "internal/race.Enable", "internal/race.Acquire", "(*internal/sync.Mutex).lockSlow", "internal/sync.runtime_canSpin", "internal/sync.runtime_doSpin", "internal/sync.throw", "internal/sync.runtime_nanotime", "internal/sync.runtime_SemacquireMutex", "sync/atomic.AddInt32", "(*internal/sync.Mutex).Unlock", "internal/race.ReleaseMerge", "(*internal/sync.Mutex).unlockSlow", "internal/sync.fatal", "internal/sync.runtime_Semrelease", "sync/atomic.StoreUint32"], unfollowed := true, recurses := true, apart := false }
def RopeOnceSaid : Prop := ropeOnceRow.holds Try.pinned (OpenSpec.ofChange ropeOnceSpec)

/-- ITS FALSE NEIGHBOUR: 'it returns false'. Refute it at one input. -/
def ropeOnceWrong : ChangeSpec := { name := "ropeOnce", fn := fun _ => fun
  | [d1, d2] => { results := [.lit (.bool false)], args := [d1, d2] }
  | _ => none }
def RopeOnceWrongFalsely : Prop := ropeOnceRow.holds Try.pinned (OpenSpec.ofChange ropeOnceWrong)

/-- 'credenzalaw16.RopeQuarters': WHATEVER THE INPUT: true; the input reads as it did. -/
def ropeQuartersSpec : ChangeSpec := { name := "ropeQuarters", fn := fun _ => fun
  | [d1, d2] => { results := [.lit (.bool true)], args := [d1, d2] }
  | _ => none }
def ropeQuartersRow : OpenClaim := { program := "ytmndomlpdajjmac", sum := "9efbdf430e54047c0242b2b297654d508026fbe69ec0c77b53ebc55aac118cd3", func := "credenza/credenzalaw16.RopeQuarters", spec := "ropeQuarters", inPlace := ["sync/atomic.LoadUint32", "(*internal/sync.Mutex).Lock", "internal/race.Disable", "sync/atomic.CompareAndSwapInt32", "internal/race.Enable", "internal/race.Acquire", "(*internal/sync.Mutex).lockSlow", "internal/sync.runtime_canSpin", "internal/sync.runtime_doSpin", "internal/sync.throw", "internal/sync.runtime_nanotime", "internal/sync.runtime_SemacquireMutex", "sync/atomic.AddInt32", "(*internal/sync.Mutex).Unlock", "internal/race.ReleaseMerge", "(*internal/sync.Mutex).unlockSlow", "internal/sync.fatal", "internal/sync.runtime_Semrelease", "sync/atomic.StoreUint32"], unfollowed := true, recurses := true, apart := false }
def RopeQuartersSaid : Prop := ropeQuartersRow.holds Try.pinned (OpenSpec.ofChange ropeQuartersSpec)

/-- ITS FALSE NEIGHBOUR: 'it returns false'. Refute it at one input. -/
def ropeQuartersWrong : ChangeSpec := { name := "ropeQuarters", fn := fun _ => fun
  | [d1, d2] => { results := [.lit (.bool false)], args := [d1, d2] }
  | _ => none }
def RopeQuartersWrongFalsely : Prop := ropeQuartersRow.holds Try.pinned (OpenSpec.ofChange ropeQuartersWrong)

/-- 'credenzalaw16.RopeApart': WHATEVER THE INPUT: true; the input reads as it did. -/
def ropeApartSpec : ChangeSpec := { name := "ropeApart", fn := fun _ => fun
  | [d1, d2, d3] => { results := [.lit (.bool true)], args := [d1, d2, d3] }
  | _ => none }
def ropeApartRow : OpenClaim := { program := "ytmndomlpdajjmac", sum := "9efbdf430e54047c0242b2b297654d508026fbe69ec0c77b53ebc55aac118cd3", func := "credenza/credenzalaw16.RopeApart", spec := "ropeApart", inPlace := ["sync/atomic.LoadUint32", "(*internal/sync.Mutex).Lock", "internal/race.Disable", "sync/atomic.CompareAndSwapInt32", "internal/race.Enable", "internal/race.Acquire", "(*internal/sync.Mutex).lockSlow", "internal/sync.runtime_canSpin", "internal/sync.runtime_doSpin", "internal/sync.throw", "internal/sync.runtime_nanotime", "internal/sync.runtime_SemacquireMutex", "sync/atomic.AddInt32", "(*internal/sync.Mutex).Unlock", "internal/race.ReleaseMerge", "(*internal/sync.Mutex).unlockSlow", "internal/sync.fatal", "internal/sync.runtime_Semrelease", "sync/atomic.StoreUint32"], unfollowed := true, recurses := true, apart := false }
def RopeApartSaid : Prop := ropeApartRow.holds Try.pinned (OpenSpec.ofChange ropeApartSpec)

/-- ITS FALSE NEIGHBOUR: 'it returns false'. Refute it at one input. -/
def ropeApartWrong : ChangeSpec := { name := "ropeApart", fn := fun _ => fun
  | [d1, d2, d3] => { results := [.lit (.bool false)], args := [d1, d2, d3] }
  | _ => none }
def RopeApartWrongFalsely : Prop := ropeApartRow.holds Try.pinned (OpenSpec.ofChange ropeApartWrong)

/- THE SECOND FORM. 'bulk': how many values and letters a reading holds, each counted each time it is reached (what is shared counts as often as it is met; a slice's spare places count too). A statement '..UptoSaid' is the law's where the arguments, and the package variables that the reading takes, are together of bulk at most 1048576: NARROWER than '..Said'. Prove '..Said' where nothing that the law and all that it calls make is longer than what came in: it says more and counts as full. Else prove '..UptoSaid'. A law counts once. -/
mutual
def uptoBulk {H : Type} : DataW H → Nat
  | .lit (.string bytes) => bytes.length + 1
  | .lit _ => 1
  | .nil => 1
  | .ptr d => uptoBulk d + 1
  | .slice elems spare => uptoBulkAll elems + uptoBulkAll spare + 1
  | .agg parts => uptoBulkAll parts + 1
  | .iface _ d => uptoBulk d + 1
  | .map entries => uptoBulkEntries entries + 1
  | .held _ => 1
def uptoBulkAll {H : Type} : List (DataW H) → Nat
  | [] => 0
  | d :: r => uptoBulk d + uptoBulkAll r
def uptoBulkEntries {H : Type} : List (Lit × DataW H) → Nat
  | [] => 0
  | x :: r => uptoBulkEntry x + uptoBulkEntries r
def uptoBulkEntry {H : Type} : Lit × DataW H → Nat
  | (.string bytes, d) => bytes.length + uptoBulk d + 1
  | (_, d) => uptoBulk d + 1
 end
def uptoSmall : (H : Type) → List (DataW H) → Bool := fun _ ds => decide (uptoBulkAll ds ≤ 1048576)
def OpenSpec.upto (s : _root_.Go.ChangeSpec) : _root_.Go.OpenSpec := { _root_.Go.OpenSpec.ofChange s with cond := some uptoSmall }

/-- 'credenzalaw04.SoftMoves', WHERE WHAT IT READS IS OF BULK AT MOST 1048576: true; the input reads as it did. -/
def softMovesUptoRow : OpenClaim := { program := "ytmndomlpdajjmac", sum := "9efbdf430e54047c0242b2b297654d508026fbe69ec0c77b53ebc55aac118cd3", func := "credenza/credenzalaw04.SoftMoves", spec := "softMoves", unfollowed := true, recurses := true, apart := false, narrowed := true }
def SoftMovesUptoSaid : Prop := softMovesUptoRow.holds Try.pinned (OpenSpec.upto softMovesSpec)

/-- 'credenzalaw04.SoftBetween', WHERE WHAT IT READS IS OF BULK AT MOST 1048576: true; the input reads as it did. -/
def softBetweenUptoRow : OpenClaim := { program := "ytmndomlpdajjmac", sum := "9efbdf430e54047c0242b2b297654d508026fbe69ec0c77b53ebc55aac118cd3", func := "credenza/credenzalaw04.SoftBetween", spec := "softBetween", unfollowed := true, recurses := true, apart := false, narrowed := true }
def SoftBetweenUptoSaid : Prop := softBetweenUptoRow.holds Try.pinned (OpenSpec.upto softBetweenSpec)

/-- 'credenzalaw04.SoftOrder', WHERE WHAT IT READS IS OF BULK AT MOST 1048576: true; the input reads as it did. -/
def softOrderUptoRow : OpenClaim := { program := "ytmndomlpdajjmac", sum := "9efbdf430e54047c0242b2b297654d508026fbe69ec0c77b53ebc55aac118cd3", func := "credenza/credenzalaw04.SoftOrder", spec := "softOrder", unfollowed := true, recurses := true, apart := false, narrowed := true }
def SoftOrderUptoSaid : Prop := softOrderUptoRow.holds Try.pinned (OpenSpec.upto softOrderSpec)

/-- 'credenzalaw15.NormEvens', WHERE WHAT IT READS IS OF BULK AT MOST 1048576: true; the input reads as it did. -/
def normEvensUptoRow : OpenClaim := { program := "ytmndomlpdajjmac", sum := "9efbdf430e54047c0242b2b297654d508026fbe69ec0c77b53ebc55aac118cd3", func := "credenza/credenzalaw15.NormEvens", spec := "normEvens", unfollowed := true, recurses := true, apart := false, narrowed := true }
def NormEvensUptoSaid : Prop := normEvensUptoRow.holds Try.pinned (OpenSpec.upto normEvensSpec)

/-- 'credenzalaw15.NormGates', WHERE WHAT IT READS IS OF BULK AT MOST 1048576: true; the input reads as it did. -/
def normGatesUptoRow : OpenClaim := { program := "ytmndomlpdajjmac", sum := "9efbdf430e54047c0242b2b297654d508026fbe69ec0c77b53ebc55aac118cd3", func := "credenza/credenzalaw15.NormGates", spec := "normGates", unfollowed := true, recurses := true, apart := false, narrowed := true }
def NormGatesUptoSaid : Prop := normGatesUptoRow.holds Try.pinned (OpenSpec.upto normGatesSpec)

/-- 'credenzalaw15.NormOdd', WHERE WHAT IT READS IS OF BULK AT MOST 1048576: true; the input reads as it did. -/
def normOddUptoRow : OpenClaim := { program := "ytmndomlpdajjmac", sum := "9efbdf430e54047c0242b2b297654d508026fbe69ec0c77b53ebc55aac118cd3", func := "credenza/credenzalaw15.NormOdd", spec := "normOdd", unfollowed := true, recurses := true, apart := false, narrowed := true }
def NormOddUptoSaid : Prop := normOddUptoRow.holds Try.pinned (OpenSpec.upto normOddSpec)

/-- 'credenzalaw15.NormOnes', WHERE WHAT IT READS IS OF BULK AT MOST 1048576: true; the input reads as it did. -/
def normOnesUptoRow : OpenClaim := { program := "ytmndomlpdajjmac", sum := "9efbdf430e54047c0242b2b297654d508026fbe69ec0c77b53ebc55aac118cd3", func := "credenza/credenzalaw15.NormOnes", spec := "normOnes", unfollowed := true, recurses := true, apart := false, narrowed := true }
def NormOnesUptoSaid : Prop := normOnesUptoRow.holds Try.pinned (OpenSpec.upto normOnesSpec)

/-- 'credenzalaw16.RopeTurns', WHERE WHAT IT READS IS OF BULK AT MOST 1048576: true; the input reads as it did. -/
def ropeTurnsUptoRow : OpenClaim := { program := "ytmndomlpdajjmac", sum := "9efbdf430e54047c0242b2b297654d508026fbe69ec0c77b53ebc55aac118cd3", func := "credenza/credenzalaw16.RopeTurns", spec := "ropeTurns", inPlace := ["sync/atomic.LoadUint32", "(*internal/sync.Mutex).Lock", "internal/race.Disable", "sync/atomic.CompareAndSwapInt32", "internal/race.Enable", "internal/race.Acquire", "(*internal/sync.Mutex).lockSlow", "internal/sync.runtime_canSpin", "internal/sync.runtime_doSpin", "internal/sync.throw", "internal/sync.runtime_nanotime", "internal/sync.runtime_SemacquireMutex", "sync/atomic.AddInt32", "(*internal/sync.Mutex).Unlock", "internal/race.ReleaseMerge", "(*internal/sync.Mutex).unlockSlow", "internal/sync.fatal", "internal/sync.runtime_Semrelease", "sync/atomic.StoreUint32"], unfollowed := true, recurses := true, apart := false, narrowed := true }
def RopeTurnsUptoSaid : Prop := ropeTurnsUptoRow.holds Try.pinned (OpenSpec.upto ropeTurnsSpec)

/-- 'credenzalaw16.RopeRotates', WHERE WHAT IT READS IS OF BULK AT MOST 1048576: true; the input reads as it did. -/
def ropeRotatesUptoRow : OpenClaim := { program := "ytmndomlpdajjmac", sum := "9efbdf430e54047c0242b2b297654d508026fbe69ec0c77b53ebc55aac118cd3", func := "credenza/credenzalaw16.RopeRotates", spec := "ropeRotates", inPlace := ["sync/atomic.LoadUint32", "(*internal/sync.Mutex).Lock", "internal/race.Disable", "sync/atomic.CompareAndSwapInt32", "internal/race.Enable", "internal/race.Acquire", "(*internal/sync.Mutex).lockSlow", "internal/sync.runtime_canSpin", "internal/sync.runtime_doSpin", "internal/sync.throw", "internal/sync.runtime_nanotime", "internal/sync.runtime_SemacquireMutex", "sync/atomic.AddInt32", "(*internal/sync.Mutex).Unlock", "internal/race.ReleaseMerge", "(*internal/sync.Mutex).unlockSlow", "internal/sync.fatal", "internal/sync.runtime_Semrelease", "sync/atomic.StoreUint32"], unfollowed := true, recurses := true, apart := false, narrowed := true }
def RopeRotatesUptoSaid : Prop := ropeRotatesUptoRow.holds Try.pinned (OpenSpec.upto ropeRotatesSpec)

/-- 'credenzalaw16.RopeOnce', WHERE WHAT IT READS IS OF BULK AT MOST 1048576: true; the input reads as it did. -/
def ropeOnceUptoRow : OpenClaim := { program := "ytmndomlpdajjmac", sum := "9efbdf430e54047c0242b2b297654d508026fbe69ec0c77b53ebc55aac118cd3", func := "credenza/credenzalaw16.RopeOnce", spec := "ropeOnce", inPlace := ["sync/atomic.LoadUint32", "(*internal/sync.Mutex).Lock", "internal/race.Disable", "sync/atomic.CompareAndSwapInt32", "internal/race.Enable", "internal/race.Acquire", "(*internal/sync.Mutex).lockSlow", "internal/sync.runtime_canSpin", "internal/sync.runtime_doSpin", "internal/sync.throw", "internal/sync.runtime_nanotime", "internal/sync.runtime_SemacquireMutex", "sync/atomic.AddInt32", "(*internal/sync.Mutex).Unlock", "internal/race.ReleaseMerge", "(*internal/sync.Mutex).unlockSlow", "internal/sync.fatal", "internal/sync.runtime_Semrelease", "sync/atomic.StoreUint32"], unfollowed := true, recurses := true, apart := false, narrowed := true }
def RopeOnceUptoSaid : Prop := ropeOnceUptoRow.holds Try.pinned (OpenSpec.upto ropeOnceSpec)

/-- 'credenzalaw16.RopeQuarters', WHERE WHAT IT READS IS OF BULK AT MOST 1048576: true; the input reads as it did. -/
def ropeQuartersUptoRow : OpenClaim := { program := "ytmndomlpdajjmac", sum := "9efbdf430e54047c0242b2b297654d508026fbe69ec0c77b53ebc55aac118cd3", func := "credenza/credenzalaw16.RopeQuarters", spec := "ropeQuarters", inPlace := ["sync/atomic.LoadUint32", "(*internal/sync.Mutex).Lock", "internal/race.Disable", "sync/atomic.CompareAndSwapInt32", "internal/race.Enable", "internal/race.Acquire", "(*internal/sync.Mutex).lockSlow", "internal/sync.runtime_canSpin", "internal/sync.runtime_doSpin", "internal/sync.throw", "internal/sync.runtime_nanotime", "internal/sync.runtime_SemacquireMutex", "sync/atomic.AddInt32", "(*internal/sync.Mutex).Unlock", "internal/race.ReleaseMerge", "(*internal/sync.Mutex).unlockSlow", "internal/sync.fatal", "internal/sync.runtime_Semrelease", "sync/atomic.StoreUint32"], unfollowed := true, recurses := true, apart := false, narrowed := true }
def RopeQuartersUptoSaid : Prop := ropeQuartersUptoRow.holds Try.pinned (OpenSpec.upto ropeQuartersSpec)

/-- 'credenzalaw16.RopeApart', WHERE WHAT IT READS IS OF BULK AT MOST 1048576: true; the input reads as it did. -/
def ropeApartUptoRow : OpenClaim := { program := "ytmndomlpdajjmac", sum := "9efbdf430e54047c0242b2b297654d508026fbe69ec0c77b53ebc55aac118cd3", func := "credenza/credenzalaw16.RopeApart", spec := "ropeApart", inPlace := ["sync/atomic.LoadUint32", "(*internal/sync.Mutex).Lock", "internal/race.Disable", "sync/atomic.CompareAndSwapInt32", "internal/race.Enable", "internal/race.Acquire", "(*internal/sync.Mutex).lockSlow", "internal/sync.runtime_canSpin", "internal/sync.runtime_doSpin", "internal/sync.throw", "internal/sync.runtime_nanotime", "internal/sync.runtime_SemacquireMutex", "sync/atomic.AddInt32", "(*internal/sync.Mutex).Unlock", "internal/race.ReleaseMerge", "(*internal/sync.Mutex).unlockSlow", "internal/sync.fatal", "internal/sync.runtime_Semrelease", "sync/atomic.StoreUint32"], unfollowed := true, recurses := true, apart := false, narrowed := true }
def RopeApartUptoSaid : Prop := ropeApartUptoRow.holds Try.pinned (OpenSpec.upto ropeApartSpec)

end Rows
end Go.Proofs.Ytmndomlpdajjmac
