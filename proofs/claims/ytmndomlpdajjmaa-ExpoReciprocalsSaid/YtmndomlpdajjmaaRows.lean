/-
  No cell of these rows narrows 'for every input' (looked for: loops, veiled, ifaces, maps, wideKeys, modest, calm, conditions, laid).
  DERIVED. THE GIVEN ROWS OF THIS SEAT. 12 by the template 'for every input the law returns true; each argument reads behind the call as it read before'; 0 by the template 'total and deterministic' (their statements: YtmndomlpdajjmaaTotals.lean).
  GIVEN WITH THE SEED: the statements are not yours to turn. If you find one false, say at which input.
  Laid BY PROGRAM, IN A SANDBOX (cutbox-rows.mjs): the forced cells as the released guide's own fill.sh prints them over the translation 3f8d3cf2221e0ed3… (all of the seat's roots in one cut). By AI agents, Wed Nov 11 2026. No macro, syntax, notation, axiom, sorry.
-/
import Derived.Test.YtmndomlpdajjmaaChecked
import GoSem.Claim
import GoSem.ClaimJoined
import GoSem.ClaimMapViews
import Derived.JoinedTies
import Derived.KernelRfl
namespace Go.Proofs.Ytmndomlpdajjmaa
/- THE CELL 'sum', in the pinned program and in every row, IS THE sha256 OF THE DUMP (.gsa) THAT YtmndomlpdajjmaaProg.lean LOADS. Nothing in Lean hashes anything: it is a label: what it is worth is what the hold of that sum in a sandbox is worth. -/
noncomputable def Try.pinned : Pinned := { name := "ytmndomlpdajjmaa", sum := "3f8d3cf2221e0ed38f8f2794c8fe7115e3e75d08a8d29a26e7cb49fdcf8b2f10", checked := Try.checked }
namespace Rows
def none {H : Type} : Left H := { results := [], args := [] }

/-- 'credenzalaw01.FixRounds': WHATEVER THE INPUT: true; the input reads as it did. -/
def fixRoundsSpec : ChangeSpec := { name := "fixRounds", fn := fun _ => fun
  | [d1, d2, d3] => { results := [.lit (.bool true)], args := [d1, d2, d3] }
  | _ => none }
def fixRoundsRow : OpenClaim := { program := "ytmndomlpdajjmaa", sum := "3f8d3cf2221e0ed38f8f2794c8fe7115e3e75d08a8d29a26e7cb49fdcf8b2f10", func := "credenza/credenzalaw01.FixRounds", spec := "fixRounds", apart := false }
def FixRoundsSaid : Prop := fixRoundsRow.holds Try.pinned (OpenSpec.ofChange fixRoundsSpec)

/-- ITS FALSE NEIGHBOUR: 'it returns false'. Refute it at one input. -/
def fixRoundsWrong : ChangeSpec := { name := "fixRounds", fn := fun _ => fun
  | [d1, d2, d3] => { results := [.lit (.bool false)], args := [d1, d2, d3] }
  | _ => none }
def FixRoundsWrongFalsely : Prop := fixRoundsRow.holds Try.pinned (OpenSpec.ofChange fixRoundsWrong)

/-- 'credenzalaw01.FixCuts': WHATEVER THE INPUT: true; the input reads as it did. -/
def fixCutsSpec : ChangeSpec := { name := "fixCuts", fn := fun _ => fun
  | [d] => { results := [.lit (.bool true)], args := [d] }
  | _ => none }
def fixCutsRow : OpenClaim := { program := "ytmndomlpdajjmaa", sum := "3f8d3cf2221e0ed38f8f2794c8fe7115e3e75d08a8d29a26e7cb49fdcf8b2f10", func := "credenza/credenzalaw01.FixCuts", spec := "fixCuts", apart := false }
def FixCutsSaid : Prop := fixCutsRow.holds Try.pinned (OpenSpec.ofChange fixCutsSpec)

/-- ITS FALSE NEIGHBOUR: 'it returns false'. Refute it at one input. -/
def fixCutsWrong : ChangeSpec := { name := "fixCuts", fn := fun _ => fun
  | [d] => { results := [.lit (.bool false)], args := [d] }
  | _ => none }
def FixCutsWrongFalsely : Prop := fixCutsRow.holds Try.pinned (OpenSpec.ofChange fixCutsWrong)

/-- 'credenzalaw01.FixReckons': WHATEVER THE INPUT: true; the input reads as it did. -/
def fixReckonsSpec : ChangeSpec := { name := "fixReckons", fn := fun _ => fun
  | [d1, d2] => { results := [.lit (.bool true)], args := [d1, d2] }
  | _ => none }
def fixReckonsRow : OpenClaim := { program := "ytmndomlpdajjmaa", sum := "3f8d3cf2221e0ed38f8f2794c8fe7115e3e75d08a8d29a26e7cb49fdcf8b2f10", func := "credenza/credenzalaw01.FixReckons", spec := "fixReckons", apart := false }
def FixReckonsSaid : Prop := fixReckonsRow.holds Try.pinned (OpenSpec.ofChange fixReckonsSpec)

/-- ITS FALSE NEIGHBOUR: 'it returns false'. Refute it at one input. -/
def fixReckonsWrong : ChangeSpec := { name := "fixReckons", fn := fun _ => fun
  | [d1, d2] => { results := [.lit (.bool false)], args := [d1, d2] }
  | _ => none }
def FixReckonsWrongFalsely : Prop := fixReckonsRow.holds Try.pinned (OpenSpec.ofChange fixReckonsWrong)

/-- 'credenzalaw01.FixRises': WHATEVER THE INPUT: true; the input reads as it did. -/
def fixRisesSpec : ChangeSpec := { name := "fixRises", fn := fun _ => fun
  | [d1, d2, d3] => { results := [.lit (.bool true)], args := [d1, d2, d3] }
  | _ => none }
def fixRisesRow : OpenClaim := { program := "ytmndomlpdajjmaa", sum := "3f8d3cf2221e0ed38f8f2794c8fe7115e3e75d08a8d29a26e7cb49fdcf8b2f10", func := "credenza/credenzalaw01.FixRises", spec := "fixRises", apart := false }
def FixRisesSaid : Prop := fixRisesRow.holds Try.pinned (OpenSpec.ofChange fixRisesSpec)

/-- ITS FALSE NEIGHBOUR: 'it returns false'. Refute it at one input. -/
def fixRisesWrong : ChangeSpec := { name := "fixRises", fn := fun _ => fun
  | [d1, d2, d3] => { results := [.lit (.bool false)], args := [d1, d2, d3] }
  | _ => none }
def FixRisesWrongFalsely : Prop := fixRisesRow.holds Try.pinned (OpenSpec.ofChange fixRisesWrong)

/-- 'credenzalaw01.FixNear': WHATEVER THE INPUT: true; the input reads as it did. -/
def fixNearSpec : ChangeSpec := { name := "fixNear", fn := fun _ => fun
  | [d1, d2] => { results := [.lit (.bool true)], args := [d1, d2] }
  | _ => none }
def fixNearRow : OpenClaim := { program := "ytmndomlpdajjmaa", sum := "3f8d3cf2221e0ed38f8f2794c8fe7115e3e75d08a8d29a26e7cb49fdcf8b2f10", func := "credenza/credenzalaw01.FixNear", spec := "fixNear", apart := false }
def FixNearSaid : Prop := fixNearRow.holds Try.pinned (OpenSpec.ofChange fixNearSpec)

/-- ITS FALSE NEIGHBOUR: 'it returns false'. Refute it at one input. -/
def fixNearWrong : ChangeSpec := { name := "fixNear", fn := fun _ => fun
  | [d1, d2] => { results := [.lit (.bool false)], args := [d1, d2] }
  | _ => none }
def FixNearWrongFalsely : Prop := fixNearRow.holds Try.pinned (OpenSpec.ofChange fixNearWrong)

/-- 'credenzalaw01.FixOnes': WHATEVER THE INPUT: true; the input reads as it did. -/
def fixOnesSpec : ChangeSpec := { name := "fixOnes", fn := fun _ => fun
  | [d1, d2] => { results := [.lit (.bool true)], args := [d1, d2] }
  | _ => none }
def fixOnesRow : OpenClaim := { program := "ytmndomlpdajjmaa", sum := "3f8d3cf2221e0ed38f8f2794c8fe7115e3e75d08a8d29a26e7cb49fdcf8b2f10", func := "credenza/credenzalaw01.FixOnes", spec := "fixOnes", apart := false }
def FixOnesSaid : Prop := fixOnesRow.holds Try.pinned (OpenSpec.ofChange fixOnesSpec)

/-- ITS FALSE NEIGHBOUR: 'it returns false'. Refute it at one input. -/
def fixOnesWrong : ChangeSpec := { name := "fixOnes", fn := fun _ => fun
  | [d1, d2] => { results := [.lit (.bool false)], args := [d1, d2] }
  | _ => none }
def FixOnesWrongFalsely : Prop := fixOnesRow.holds Try.pinned (OpenSpec.ofChange fixOnesWrong)

/-- 'credenzalaw01.FixWhole': WHATEVER THE INPUT: true; the input reads as it did. -/
def fixWholeSpec : ChangeSpec := { name := "fixWhole", fn := fun _ => fun
  | [d1, d2] => { results := [.lit (.bool true)], args := [d1, d2] }
  | _ => none }
def fixWholeRow : OpenClaim := { program := "ytmndomlpdajjmaa", sum := "3f8d3cf2221e0ed38f8f2794c8fe7115e3e75d08a8d29a26e7cb49fdcf8b2f10", func := "credenza/credenzalaw01.FixWhole", spec := "fixWhole", apart := false }
def FixWholeSaid : Prop := fixWholeRow.holds Try.pinned (OpenSpec.ofChange fixWholeSpec)

/-- ITS FALSE NEIGHBOUR: 'it returns false'. Refute it at one input. -/
def fixWholeWrong : ChangeSpec := { name := "fixWhole", fn := fun _ => fun
  | [d1, d2] => { results := [.lit (.bool false)], args := [d1, d2] }
  | _ => none }
def FixWholeWrongFalsely : Prop := fixWholeRow.holds Try.pinned (OpenSpec.ofChange fixWholeWrong)

/-- 'credenzalaw02.ExpoPowers': WHATEVER THE INPUT: true; the input reads as it did. -/
def expoPowersSpec : ChangeSpec := { name := "expoPowers", fn := fun _ => fun
  | [d] => { results := [.lit (.bool true)], args := [d] }
  | _ => none }
def expoPowersRow : OpenClaim := { program := "ytmndomlpdajjmaa", sum := "3f8d3cf2221e0ed38f8f2794c8fe7115e3e75d08a8d29a26e7cb49fdcf8b2f10", func := "credenza/credenzalaw02.ExpoPowers", spec := "expoPowers", apart := false }
def ExpoPowersSaid : Prop := expoPowersRow.holds Try.pinned (OpenSpec.ofChange expoPowersSpec)

/-- ITS FALSE NEIGHBOUR: 'it returns false'. Refute it at one input. -/
def expoPowersWrong : ChangeSpec := { name := "expoPowers", fn := fun _ => fun
  | [d] => { results := [.lit (.bool false)], args := [d] }
  | _ => none }
def ExpoPowersWrongFalsely : Prop := expoPowersRow.holds Try.pinned (OpenSpec.ofChange expoPowersWrong)

/-- 'credenzalaw02.ExpoRises': WHATEVER THE INPUT: true; the input reads as it did. -/
def expoRisesSpec : ChangeSpec := { name := "expoRises", fn := fun _ => fun
  | [d1, d2] => { results := [.lit (.bool true)], args := [d1, d2] }
  | _ => none }
def expoRisesRow : OpenClaim := { program := "ytmndomlpdajjmaa", sum := "3f8d3cf2221e0ed38f8f2794c8fe7115e3e75d08a8d29a26e7cb49fdcf8b2f10", func := "credenza/credenzalaw02.ExpoRises", spec := "expoRises", apart := false }
def ExpoRisesSaid : Prop := expoRisesRow.holds Try.pinned (OpenSpec.ofChange expoRisesSpec)

/-- ITS FALSE NEIGHBOUR: 'it returns false'. Refute it at one input. -/
def expoRisesWrong : ChangeSpec := { name := "expoRises", fn := fun _ => fun
  | [d1, d2] => { results := [.lit (.bool false)], args := [d1, d2] }
  | _ => none }
def ExpoRisesWrongFalsely : Prop := expoRisesRow.holds Try.pinned (OpenSpec.ofChange expoRisesWrong)

/-- 'credenzalaw02.ExpoRoots': WHATEVER THE INPUT: true; the input reads as it did. -/
def expoRootsSpec : ChangeSpec := { name := "expoRoots", fn := fun _ => fun
  | [d1, d2] => { results := [.lit (.bool true)], args := [d1, d2] }
  | _ => none }
def expoRootsRow : OpenClaim := { program := "ytmndomlpdajjmaa", sum := "3f8d3cf2221e0ed38f8f2794c8fe7115e3e75d08a8d29a26e7cb49fdcf8b2f10", func := "credenza/credenzalaw02.ExpoRoots", spec := "expoRoots", apart := false }
def ExpoRootsSaid : Prop := expoRootsRow.holds Try.pinned (OpenSpec.ofChange expoRootsSpec)

/-- ITS FALSE NEIGHBOUR: 'it returns false'. Refute it at one input. -/
def expoRootsWrong : ChangeSpec := { name := "expoRoots", fn := fun _ => fun
  | [d1, d2] => { results := [.lit (.bool false)], args := [d1, d2] }
  | _ => none }
def ExpoRootsWrongFalsely : Prop := expoRootsRow.holds Try.pinned (OpenSpec.ofChange expoRootsWrong)

/-- 'credenzalaw02.ExpoReciprocals': WHATEVER THE INPUT: true; the input reads as it did. -/
def expoReciprocalsSpec : ChangeSpec := { name := "expoReciprocals", fn := fun _ => fun
  | [d1, d2] => { results := [.lit (.bool true)], args := [d1, d2] }
  | _ => none }
def expoReciprocalsRow : OpenClaim := { program := "ytmndomlpdajjmaa", sum := "3f8d3cf2221e0ed38f8f2794c8fe7115e3e75d08a8d29a26e7cb49fdcf8b2f10", func := "credenza/credenzalaw02.ExpoReciprocals", spec := "expoReciprocals", apart := false }
def ExpoReciprocalsSaid : Prop := expoReciprocalsRow.holds Try.pinned (OpenSpec.ofChange expoReciprocalsSpec)

/-- ITS FALSE NEIGHBOUR: 'it returns false'. Refute it at one input. -/
def expoReciprocalsWrong : ChangeSpec := { name := "expoReciprocals", fn := fun _ => fun
  | [d1, d2] => { results := [.lit (.bool false)], args := [d1, d2] }
  | _ => none }
def ExpoReciprocalsWrongFalsely : Prop := expoReciprocalsRow.holds Try.pinned (OpenSpec.ofChange expoReciprocalsWrong)

/-- 'credenzalaw02.ExpoHalves': WHATEVER THE INPUT: true; the input reads as it did. -/
def expoHalvesSpec : ChangeSpec := { name := "expoHalves", fn := fun _ => fun
  | [d] => { results := [.lit (.bool true)], args := [d] }
  | _ => none }
def expoHalvesRow : OpenClaim := { program := "ytmndomlpdajjmaa", sum := "3f8d3cf2221e0ed38f8f2794c8fe7115e3e75d08a8d29a26e7cb49fdcf8b2f10", func := "credenza/credenzalaw02.ExpoHalves", spec := "expoHalves", apart := false }
def ExpoHalvesSaid : Prop := expoHalvesRow.holds Try.pinned (OpenSpec.ofChange expoHalvesSpec)

/-- ITS FALSE NEIGHBOUR: 'it returns false'. Refute it at one input. -/
def expoHalvesWrong : ChangeSpec := { name := "expoHalves", fn := fun _ => fun
  | [d] => { results := [.lit (.bool false)], args := [d] }
  | _ => none }
def ExpoHalvesWrongFalsely : Prop := expoHalvesRow.holds Try.pinned (OpenSpec.ofChange expoHalvesWrong)

/- THE SECOND FORM. 'bulk': how many values and letters a reading holds, each counted each time it is reached (what is shared counts as often as it is met; a slice's spare places count too). A statement '..UptoSaid' is the law's where the arguments, and the package variables that the reading takes, are together of bulk at most 1048576: NARROWER than '..Said'. Prove '..Said' where nothing that the law and all that it calls make is longer than what came in: it says more and counts as full. Else prove '..UptoSaid'. A law counts once. -/
mutual
def uptoBulk {H : Type} : DataW H → Nat
  | .lit (.string bytes) => bytes.length + 1
  | .lit _ => 1
  | .nil => 1
  | .ptr d => uptoBulk d + 1
  | .slice elems spare => uptoBulkAll elems + uptoBulkAll spare + 1
  | .agg parts => uptoBulkAll parts + 1
  | .iface _ d => uptoBulk d + 1
  | .map entries => uptoBulkEntries entries + 1
  | .held _ => 1
def uptoBulkAll {H : Type} : List (DataW H) → Nat
  | [] => 0
  | d :: r => uptoBulk d + uptoBulkAll r
def uptoBulkEntries {H : Type} : List (Lit × DataW H) → Nat
  | [] => 0
  | x :: r => uptoBulkEntry x + uptoBulkEntries r
def uptoBulkEntry {H : Type} : Lit × DataW H → Nat
  | (.string bytes, d) => bytes.length + uptoBulk d + 1
  | (_, d) => uptoBulk d + 1
 end
def uptoSmall : (H : Type) → List (DataW H) → Bool := fun _ ds => decide (uptoBulkAll ds ≤ 1048576)
def OpenSpec.upto (s : _root_.Go.ChangeSpec) : _root_.Go.OpenSpec := { _root_.Go.OpenSpec.ofChange s with cond := some uptoSmall }

/-- 'credenzalaw01.FixRounds', WHERE WHAT IT READS IS OF BULK AT MOST 1048576: true; the input reads as it did. -/
def fixRoundsUptoRow : OpenClaim := { program := "ytmndomlpdajjmaa", sum := "3f8d3cf2221e0ed38f8f2794c8fe7115e3e75d08a8d29a26e7cb49fdcf8b2f10", func := "credenza/credenzalaw01.FixRounds", spec := "fixRounds", apart := false, narrowed := true }
def FixRoundsUptoSaid : Prop := fixRoundsUptoRow.holds Try.pinned (OpenSpec.upto fixRoundsSpec)

/-- 'credenzalaw01.FixCuts', WHERE WHAT IT READS IS OF BULK AT MOST 1048576: true; the input reads as it did. -/
def fixCutsUptoRow : OpenClaim := { program := "ytmndomlpdajjmaa", sum := "3f8d3cf2221e0ed38f8f2794c8fe7115e3e75d08a8d29a26e7cb49fdcf8b2f10", func := "credenza/credenzalaw01.FixCuts", spec := "fixCuts", apart := false, narrowed := true }
def FixCutsUptoSaid : Prop := fixCutsUptoRow.holds Try.pinned (OpenSpec.upto fixCutsSpec)

/-- 'credenzalaw01.FixReckons', WHERE WHAT IT READS IS OF BULK AT MOST 1048576: true; the input reads as it did. -/
def fixReckonsUptoRow : OpenClaim := { program := "ytmndomlpdajjmaa", sum := "3f8d3cf2221e0ed38f8f2794c8fe7115e3e75d08a8d29a26e7cb49fdcf8b2f10", func := "credenza/credenzalaw01.FixReckons", spec := "fixReckons", apart := false, narrowed := true }
def FixReckonsUptoSaid : Prop := fixReckonsUptoRow.holds Try.pinned (OpenSpec.upto fixReckonsSpec)

/-- 'credenzalaw01.FixRises', WHERE WHAT IT READS IS OF BULK AT MOST 1048576: true; the input reads as it did. -/
def fixRisesUptoRow : OpenClaim := { program := "ytmndomlpdajjmaa", sum := "3f8d3cf2221e0ed38f8f2794c8fe7115e3e75d08a8d29a26e7cb49fdcf8b2f10", func := "credenza/credenzalaw01.FixRises", spec := "fixRises", apart := false, narrowed := true }
def FixRisesUptoSaid : Prop := fixRisesUptoRow.holds Try.pinned (OpenSpec.upto fixRisesSpec)

/-- 'credenzalaw01.FixNear', WHERE WHAT IT READS IS OF BULK AT MOST 1048576: true; the input reads as it did. -/
def fixNearUptoRow : OpenClaim := { program := "ytmndomlpdajjmaa", sum := "3f8d3cf2221e0ed38f8f2794c8fe7115e3e75d08a8d29a26e7cb49fdcf8b2f10", func := "credenza/credenzalaw01.FixNear", spec := "fixNear", apart := false, narrowed := true }
def FixNearUptoSaid : Prop := fixNearUptoRow.holds Try.pinned (OpenSpec.upto fixNearSpec)

/-- 'credenzalaw01.FixOnes', WHERE WHAT IT READS IS OF BULK AT MOST 1048576: true; the input reads as it did. -/
def fixOnesUptoRow : OpenClaim := { program := "ytmndomlpdajjmaa", sum := "3f8d3cf2221e0ed38f8f2794c8fe7115e3e75d08a8d29a26e7cb49fdcf8b2f10", func := "credenza/credenzalaw01.FixOnes", spec := "fixOnes", apart := false, narrowed := true }
def FixOnesUptoSaid : Prop := fixOnesUptoRow.holds Try.pinned (OpenSpec.upto fixOnesSpec)

/-- 'credenzalaw01.FixWhole', WHERE WHAT IT READS IS OF BULK AT MOST 1048576: true; the input reads as it did. -/
def fixWholeUptoRow : OpenClaim := { program := "ytmndomlpdajjmaa", sum := "3f8d3cf2221e0ed38f8f2794c8fe7115e3e75d08a8d29a26e7cb49fdcf8b2f10", func := "credenza/credenzalaw01.FixWhole", spec := "fixWhole", apart := false, narrowed := true }
def FixWholeUptoSaid : Prop := fixWholeUptoRow.holds Try.pinned (OpenSpec.upto fixWholeSpec)

/-- 'credenzalaw02.ExpoPowers', WHERE WHAT IT READS IS OF BULK AT MOST 1048576: true; the input reads as it did. -/
def expoPowersUptoRow : OpenClaim := { program := "ytmndomlpdajjmaa", sum := "3f8d3cf2221e0ed38f8f2794c8fe7115e3e75d08a8d29a26e7cb49fdcf8b2f10", func := "credenza/credenzalaw02.ExpoPowers", spec := "expoPowers", apart := false, narrowed := true }
def ExpoPowersUptoSaid : Prop := expoPowersUptoRow.holds Try.pinned (OpenSpec.upto expoPowersSpec)

/-- 'credenzalaw02.ExpoRises', WHERE WHAT IT READS IS OF BULK AT MOST 1048576: true; the input reads as it did. -/
def expoRisesUptoRow : OpenClaim := { program := "ytmndomlpdajjmaa", sum := "3f8d3cf2221e0ed38f8f2794c8fe7115e3e75d08a8d29a26e7cb49fdcf8b2f10", func := "credenza/credenzalaw02.ExpoRises", spec := "expoRises", apart := false, narrowed := true }
def ExpoRisesUptoSaid : Prop := expoRisesUptoRow.holds Try.pinned (OpenSpec.upto expoRisesSpec)

/-- 'credenzalaw02.ExpoRoots', WHERE WHAT IT READS IS OF BULK AT MOST 1048576: true; the input reads as it did. -/
def expoRootsUptoRow : OpenClaim := { program := "ytmndomlpdajjmaa", sum := "3f8d3cf2221e0ed38f8f2794c8fe7115e3e75d08a8d29a26e7cb49fdcf8b2f10", func := "credenza/credenzalaw02.ExpoRoots", spec := "expoRoots", apart := false, narrowed := true }
def ExpoRootsUptoSaid : Prop := expoRootsUptoRow.holds Try.pinned (OpenSpec.upto expoRootsSpec)

/-- 'credenzalaw02.ExpoReciprocals', WHERE WHAT IT READS IS OF BULK AT MOST 1048576: true; the input reads as it did. -/
def expoReciprocalsUptoRow : OpenClaim := { program := "ytmndomlpdajjmaa", sum := "3f8d3cf2221e0ed38f8f2794c8fe7115e3e75d08a8d29a26e7cb49fdcf8b2f10", func := "credenza/credenzalaw02.ExpoReciprocals", spec := "expoReciprocals", apart := false, narrowed := true }
def ExpoReciprocalsUptoSaid : Prop := expoReciprocalsUptoRow.holds Try.pinned (OpenSpec.upto expoReciprocalsSpec)

/-- 'credenzalaw02.ExpoHalves', WHERE WHAT IT READS IS OF BULK AT MOST 1048576: true; the input reads as it did. -/
def expoHalvesUptoRow : OpenClaim := { program := "ytmndomlpdajjmaa", sum := "3f8d3cf2221e0ed38f8f2794c8fe7115e3e75d08a8d29a26e7cb49fdcf8b2f10", func := "credenza/credenzalaw02.ExpoHalves", spec := "expoHalves", apart := false, narrowed := true }
def ExpoHalvesUptoSaid : Prop := expoHalvesUptoRow.holds Try.pinned (OpenSpec.upto expoHalvesSpec)

end Rows
end Go.Proofs.Ytmndomlpdajjmaa
