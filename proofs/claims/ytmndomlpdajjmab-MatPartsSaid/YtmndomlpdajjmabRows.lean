/-
  No cell of these rows narrows 'for every input' (looked for: loops, veiled, ifaces, maps, wideKeys, modest, calm, conditions, laid).
  DERIVED. THE GIVEN ROWS OF THIS SEAT. 12 by the template 'for every input the law returns true; each argument reads behind the call as it read before'; 0 by the template 'total and deterministic' (their statements: YtmndomlpdajjmabTotals.lean).
  GIVEN WITH THE SEED: the statements are not yours to turn. If you find one false, say at which input.
  Laid BY PROGRAM, IN A SANDBOX (cutbox-rows.mjs): the forced cells as the released guide's own fill.sh prints them over the translation 47e08695af42e72c… (all of the seat's roots in one cut). By AI agents, Wed Nov 11 2026. No macro, syntax, notation, axiom, sorry.
-/
import Derived.Test.YtmndomlpdajjmabChecked
import GoSem.Claim
import GoSem.ClaimJoined
import GoSem.ClaimMapViews
import Derived.JoinedTies
import Derived.KernelRfl
namespace Go.Proofs.Ytmndomlpdajjmab
/- THE CELL 'sum', in the pinned program and in every row, IS THE sha256 OF THE DUMP (.gsa) THAT YtmndomlpdajjmabProg.lean LOADS. Nothing in Lean hashes anything: it is a label: what it is worth is what the hold of that sum in a sandbox is worth. -/
noncomputable def Try.pinned : Pinned := { name := "ytmndomlpdajjmab", sum := "47e08695af42e72c6b61b3670d190a444dc7de024eb0444abac06eff55309b7e", checked := Try.checked }
namespace Rows
def none {H : Type} : Left H := { results := [], args := [] }

/-- 'credenzalaw03.DotSums': WHATEVER THE INPUT: true; the input reads as it did. -/
def dotSumsSpec : ChangeSpec := { name := "dotSums", fn := fun _ => fun
  | [d1, d2] => { results := [.lit (.bool true)], args := [d1, d2] }
  | _ => none }
def dotSumsRow : OpenClaim := { program := "ytmndomlpdajjmab", sum := "47e08695af42e72c6b61b3670d190a444dc7de024eb0444abac06eff55309b7e", func := "credenza/credenzalaw03.DotSums", spec := "dotSums", unfollowed := true, recurses := true, apart := false }
def DotSumsSaid : Prop := dotSumsRow.holds Try.pinned (OpenSpec.ofChange dotSumsSpec)

/-- ITS FALSE NEIGHBOUR: 'it returns false'. Refute it at one input. -/
def dotSumsWrong : ChangeSpec := { name := "dotSums", fn := fun _ => fun
  | [d1, d2] => { results := [.lit (.bool false)], args := [d1, d2] }
  | _ => none }
def DotSumsWrongFalsely : Prop := dotSumsRow.holds Try.pinned (OpenSpec.ofChange dotSumsWrong)

/-- 'credenzalaw03.DotEach': WHATEVER THE INPUT: true; the input reads as it did. -/
def dotEachSpec : ChangeSpec := { name := "dotEach", fn := fun _ => fun
  | [d1, d2, d3] => { results := [.lit (.bool true)], args := [d1, d2, d3] }
  | _ => none }
def dotEachRow : OpenClaim := { program := "ytmndomlpdajjmab", sum := "47e08695af42e72c6b61b3670d190a444dc7de024eb0444abac06eff55309b7e", func := "credenza/credenzalaw03.DotEach", spec := "dotEach", unfollowed := true, recurses := true, apart := false }
def DotEachSaid : Prop := dotEachRow.holds Try.pinned (OpenSpec.ofChange dotEachSpec)

/-- ITS FALSE NEIGHBOUR: 'it returns false'. Refute it at one input. -/
def dotEachWrong : ChangeSpec := { name := "dotEach", fn := fun _ => fun
  | [d1, d2, d3] => { results := [.lit (.bool false)], args := [d1, d2, d3] }
  | _ => none }
def DotEachWrongFalsely : Prop := dotEachRow.holds Try.pinned (OpenSpec.ofChange dotEachWrong)

/-- 'credenzalaw03.DotSplits': WHATEVER THE INPUT: true; the input reads as it did. -/
def dotSplitsSpec : ChangeSpec := { name := "dotSplits", fn := fun _ => fun
  | [d1, d2, d3] => { results := [.lit (.bool true)], args := [d1, d2, d3] }
  | _ => none }
def dotSplitsRow : OpenClaim := { program := "ytmndomlpdajjmab", sum := "47e08695af42e72c6b61b3670d190a444dc7de024eb0444abac06eff55309b7e", func := "credenza/credenzalaw03.DotSplits", spec := "dotSplits", unfollowed := true, recurses := true, apart := false }
def DotSplitsSaid : Prop := dotSplitsRow.holds Try.pinned (OpenSpec.ofChange dotSplitsSpec)

/-- ITS FALSE NEIGHBOUR: 'it returns false'. Refute it at one input. -/
def dotSplitsWrong : ChangeSpec := { name := "dotSplits", fn := fun _ => fun
  | [d1, d2, d3] => { results := [.lit (.bool false)], args := [d1, d2, d3] }
  | _ => none }
def DotSplitsWrongFalsely : Prop := dotSplitsRow.holds Try.pinned (OpenSpec.ofChange dotSplitsWrong)

/-- 'credenzalaw03.DotTops': WHATEVER THE INPUT: true; the input reads as it did. -/
def dotTopsSpec : ChangeSpec := { name := "dotTops", fn := fun _ => fun
  | [d] => { results := [.lit (.bool true)], args := [d] }
  | _ => none }
def dotTopsRow : OpenClaim := { program := "ytmndomlpdajjmab", sum := "47e08695af42e72c6b61b3670d190a444dc7de024eb0444abac06eff55309b7e", func := "credenza/credenzalaw03.DotTops", spec := "dotTops", unfollowed := true, recurses := true, apart := false }
def DotTopsSaid : Prop := dotTopsRow.holds Try.pinned (OpenSpec.ofChange dotTopsSpec)

/-- ITS FALSE NEIGHBOUR: 'it returns false'. Refute it at one input. -/
def dotTopsWrong : ChangeSpec := { name := "dotTops", fn := fun _ => fun
  | [d] => { results := [.lit (.bool false)], args := [d] }
  | _ => none }
def DotTopsWrongFalsely : Prop := dotTopsRow.holds Try.pinned (OpenSpec.ofChange dotTopsWrong)

/-- 'credenzalaw03.DotLinear': WHATEVER THE INPUT: true; the input reads as it did. -/
def dotLinearSpec : ChangeSpec := { name := "dotLinear", fn := fun _ => fun
  | [d1, d2, d3] => { results := [.lit (.bool true)], args := [d1, d2, d3] }
  | _ => none }
def dotLinearRow : OpenClaim := { program := "ytmndomlpdajjmab", sum := "47e08695af42e72c6b61b3670d190a444dc7de024eb0444abac06eff55309b7e", func := "credenza/credenzalaw03.DotLinear", spec := "dotLinear", unfollowed := true, recurses := true, apart := false }
def DotLinearSaid : Prop := dotLinearRow.holds Try.pinned (OpenSpec.ofChange dotLinearSpec)

/-- ITS FALSE NEIGHBOUR: 'it returns false'. Refute it at one input. -/
def dotLinearWrong : ChangeSpec := { name := "dotLinear", fn := fun _ => fun
  | [d1, d2, d3] => { results := [.lit (.bool false)], args := [d1, d2, d3] }
  | _ => none }
def DotLinearWrongFalsely : Prop := dotLinearRow.holds Try.pinned (OpenSpec.ofChange dotLinearWrong)

/-- 'credenzalaw17.MatTimes': WHATEVER THE INPUT: true; the input reads as it did. -/
def matTimesSpec : ChangeSpec := { name := "matTimes", fn := fun _ => fun
  | [d1, d2] => { results := [.lit (.bool true)], args := [d1, d2] }
  | _ => none }
def matTimesRow : OpenClaim := { program := "ytmndomlpdajjmab", sum := "47e08695af42e72c6b61b3670d190a444dc7de024eb0444abac06eff55309b7e", func := "credenza/credenzalaw17.MatTimes", spec := "matTimes", unfollowed := true, recurses := true, apart := false }
def MatTimesSaid : Prop := matTimesRow.holds Try.pinned (OpenSpec.ofChange matTimesSpec)

/-- ITS FALSE NEIGHBOUR: 'it returns false'. Refute it at one input. -/
def matTimesWrong : ChangeSpec := { name := "matTimes", fn := fun _ => fun
  | [d1, d2] => { results := [.lit (.bool false)], args := [d1, d2] }
  | _ => none }
def MatTimesWrongFalsely : Prop := matTimesRow.holds Try.pinned (OpenSpec.ofChange matTimesWrong)

/-- 'credenzalaw17.MatRows': WHATEVER THE INPUT: true; the input reads as it did. -/
def matRowsSpec : ChangeSpec := { name := "matRows", fn := fun _ => fun
  | [d1, d2] => { results := [.lit (.bool true)], args := [d1, d2] }
  | _ => none }
def matRowsRow : OpenClaim := { program := "ytmndomlpdajjmab", sum := "47e08695af42e72c6b61b3670d190a444dc7de024eb0444abac06eff55309b7e", func := "credenza/credenzalaw17.MatRows", spec := "matRows", unfollowed := true, recurses := true, apart := false }
def MatRowsSaid : Prop := matRowsRow.holds Try.pinned (OpenSpec.ofChange matRowsSpec)

/-- ITS FALSE NEIGHBOUR: 'it returns false'. Refute it at one input. -/
def matRowsWrong : ChangeSpec := { name := "matRows", fn := fun _ => fun
  | [d1, d2] => { results := [.lit (.bool false)], args := [d1, d2] }
  | _ => none }
def MatRowsWrongFalsely : Prop := matRowsRow.holds Try.pinned (OpenSpec.ofChange matRowsWrong)

/-- 'credenzalaw17.MatOnes': WHATEVER THE INPUT: true; the input reads as it did. -/
def matOnesSpec : ChangeSpec := { name := "matOnes", fn := fun _ => fun
  | [d] => { results := [.lit (.bool true)], args := [d] }
  | _ => none }
def matOnesRow : OpenClaim := { program := "ytmndomlpdajjmab", sum := "47e08695af42e72c6b61b3670d190a444dc7de024eb0444abac06eff55309b7e", func := "credenza/credenzalaw17.MatOnes", spec := "matOnes", unfollowed := true, recurses := true, apart := false }
def MatOnesSaid : Prop := matOnesRow.holds Try.pinned (OpenSpec.ofChange matOnesSpec)

/-- ITS FALSE NEIGHBOUR: 'it returns false'. Refute it at one input. -/
def matOnesWrong : ChangeSpec := { name := "matOnes", fn := fun _ => fun
  | [d] => { results := [.lit (.bool false)], args := [d] }
  | _ => none }
def MatOnesWrongFalsely : Prop := matOnesRow.holds Try.pinned (OpenSpec.ofChange matOnesWrong)

/-- 'credenzalaw17.MatParts': WHATEVER THE INPUT: true; the input reads as it did. -/
def matPartsSpec : ChangeSpec := { name := "matParts", fn := fun _ => fun
  | [d1, d2, d3] => { results := [.lit (.bool true)], args := [d1, d2, d3] }
  | _ => none }
def matPartsRow : OpenClaim := { program := "ytmndomlpdajjmab", sum := "47e08695af42e72c6b61b3670d190a444dc7de024eb0444abac06eff55309b7e", func := "credenza/credenzalaw17.MatParts", spec := "matParts", unfollowed := true, recurses := true, apart := false }
def MatPartsSaid : Prop := matPartsRow.holds Try.pinned (OpenSpec.ofChange matPartsSpec)

/-- ITS FALSE NEIGHBOUR: 'it returns false'. Refute it at one input. -/
def matPartsWrong : ChangeSpec := { name := "matParts", fn := fun _ => fun
  | [d1, d2, d3] => { results := [.lit (.bool false)], args := [d1, d2, d3] }
  | _ => none }
def MatPartsWrongFalsely : Prop := matPartsRow.holds Try.pinned (OpenSpec.ofChange matPartsWrong)

/-- 'credenzalaw17.MatEquals': WHATEVER THE INPUT: true; the input reads as it did. -/
def matEqualsSpec : ChangeSpec := { name := "matEquals", fn := fun _ => fun
  | [d1, d2] => { results := [.lit (.bool true)], args := [d1, d2] }
  | _ => none }
def matEqualsRow : OpenClaim := { program := "ytmndomlpdajjmab", sum := "47e08695af42e72c6b61b3670d190a444dc7de024eb0444abac06eff55309b7e", func := "credenza/credenzalaw17.MatEquals", spec := "matEquals", unfollowed := true, recurses := true, apart := false }
def MatEqualsSaid : Prop := matEqualsRow.holds Try.pinned (OpenSpec.ofChange matEqualsSpec)

/-- ITS FALSE NEIGHBOUR: 'it returns false'. Refute it at one input. -/
def matEqualsWrong : ChangeSpec := { name := "matEquals", fn := fun _ => fun
  | [d1, d2] => { results := [.lit (.bool false)], args := [d1, d2] }
  | _ => none }
def MatEqualsWrongFalsely : Prop := matEqualsRow.holds Try.pinned (OpenSpec.ofChange matEqualsWrong)

/-- 'credenzalaw04.SoftWeighs': WHATEVER THE INPUT: true; the input reads as it did. -/
def softWeighsSpec : ChangeSpec := { name := "softWeighs", fn := fun _ => fun
  | [d] => { results := [.lit (.bool true)], args := [d] }
  | _ => none }
def softWeighsRow : OpenClaim := { program := "ytmndomlpdajjmab", sum := "47e08695af42e72c6b61b3670d190a444dc7de024eb0444abac06eff55309b7e", func := "credenza/credenzalaw04.SoftWeighs", spec := "softWeighs", unfollowed := true, recurses := true, apart := false }
def SoftWeighsSaid : Prop := softWeighsRow.holds Try.pinned (OpenSpec.ofChange softWeighsSpec)

/-- ITS FALSE NEIGHBOUR: 'it returns false'. Refute it at one input. -/
def softWeighsWrong : ChangeSpec := { name := "softWeighs", fn := fun _ => fun
  | [d] => { results := [.lit (.bool false)], args := [d] }
  | _ => none }
def SoftWeighsWrongFalsely : Prop := softWeighsRow.holds Try.pinned (OpenSpec.ofChange softWeighsWrong)

/-- 'credenzalaw04.SoftMixes': WHATEVER THE INPUT: true; the input reads as it did. -/
def softMixesSpec : ChangeSpec := { name := "softMixes", fn := fun _ => fun
  | [d1, d2] => { results := [.lit (.bool true)], args := [d1, d2] }
  | _ => none }
def softMixesRow : OpenClaim := { program := "ytmndomlpdajjmab", sum := "47e08695af42e72c6b61b3670d190a444dc7de024eb0444abac06eff55309b7e", func := "credenza/credenzalaw04.SoftMixes", spec := "softMixes", unfollowed := true, recurses := true, apart := false }
def SoftMixesSaid : Prop := softMixesRow.holds Try.pinned (OpenSpec.ofChange softMixesSpec)

/-- ITS FALSE NEIGHBOUR: 'it returns false'. Refute it at one input. -/
def softMixesWrong : ChangeSpec := { name := "softMixes", fn := fun _ => fun
  | [d1, d2] => { results := [.lit (.bool false)], args := [d1, d2] }
  | _ => none }
def SoftMixesWrongFalsely : Prop := softMixesRow.holds Try.pinned (OpenSpec.ofChange softMixesWrong)

/- THE SECOND FORM. 'bulk': how many values and letters a reading holds, each counted each time it is reached (what is shared counts as often as it is met; a slice's spare places count too). A statement '..UptoSaid' is the law's where the arguments, and the package variables that the reading takes, are together of bulk at most 1048576: NARROWER than '..Said'. Prove '..Said' where nothing that the law and all that it calls make is longer than what came in: it says more and counts as full. Else prove '..UptoSaid'. A law counts once. -/
mutual
def uptoBulk {H : Type} : DataW H → Nat
  | .lit (.string bytes) => bytes.length + 1
  | .lit _ => 1
  | .nil => 1
  | .ptr d => uptoBulk d + 1
  | .slice elems spare => uptoBulkAll elems + uptoBulkAll spare + 1
  | .agg parts => uptoBulkAll parts + 1
  | .iface _ d => uptoBulk d + 1
  | .map entries => uptoBulkEntries entries + 1
  | .held _ => 1
def uptoBulkAll {H : Type} : List (DataW H) → Nat
  | [] => 0
  | d :: r => uptoBulk d + uptoBulkAll r
def uptoBulkEntries {H : Type} : List (Lit × DataW H) → Nat
  | [] => 0
  | x :: r => uptoBulkEntry x + uptoBulkEntries r
def uptoBulkEntry {H : Type} : Lit × DataW H → Nat
  | (.string bytes, d) => bytes.length + uptoBulk d + 1
  | (_, d) => uptoBulk d + 1
 end
def uptoSmall : (H : Type) → List (DataW H) → Bool := fun _ ds => decide (uptoBulkAll ds ≤ 1048576)
def OpenSpec.upto (s : _root_.Go.ChangeSpec) : _root_.Go.OpenSpec := { _root_.Go.OpenSpec.ofChange s with cond := some uptoSmall }

/-- 'credenzalaw03.DotSums', WHERE WHAT IT READS IS OF BULK AT MOST 1048576: true; the input reads as it did. -/
def dotSumsUptoRow : OpenClaim := { program := "ytmndomlpdajjmab", sum := "47e08695af42e72c6b61b3670d190a444dc7de024eb0444abac06eff55309b7e", func := "credenza/credenzalaw03.DotSums", spec := "dotSums", unfollowed := true, recurses := true, apart := false, narrowed := true }
def DotSumsUptoSaid : Prop := dotSumsUptoRow.holds Try.pinned (OpenSpec.upto dotSumsSpec)

/-- 'credenzalaw03.DotEach', WHERE WHAT IT READS IS OF BULK AT MOST 1048576: true; the input reads as it did. -/
def dotEachUptoRow : OpenClaim := { program := "ytmndomlpdajjmab", sum := "47e08695af42e72c6b61b3670d190a444dc7de024eb0444abac06eff55309b7e", func := "credenza/credenzalaw03.DotEach", spec := "dotEach", unfollowed := true, recurses := true, apart := false, narrowed := true }
def DotEachUptoSaid : Prop := dotEachUptoRow.holds Try.pinned (OpenSpec.upto dotEachSpec)

/-- 'credenzalaw03.DotSplits', WHERE WHAT IT READS IS OF BULK AT MOST 1048576: true; the input reads as it did. -/
def dotSplitsUptoRow : OpenClaim := { program := "ytmndomlpdajjmab", sum := "47e08695af42e72c6b61b3670d190a444dc7de024eb0444abac06eff55309b7e", func := "credenza/credenzalaw03.DotSplits", spec := "dotSplits", unfollowed := true, recurses := true, apart := false, narrowed := true }
def DotSplitsUptoSaid : Prop := dotSplitsUptoRow.holds Try.pinned (OpenSpec.upto dotSplitsSpec)

/-- 'credenzalaw03.DotTops', WHERE WHAT IT READS IS OF BULK AT MOST 1048576: true; the input reads as it did. -/
def dotTopsUptoRow : OpenClaim := { program := "ytmndomlpdajjmab", sum := "47e08695af42e72c6b61b3670d190a444dc7de024eb0444abac06eff55309b7e", func := "credenza/credenzalaw03.DotTops", spec := "dotTops", unfollowed := true, recurses := true, apart := false, narrowed := true }
def DotTopsUptoSaid : Prop := dotTopsUptoRow.holds Try.pinned (OpenSpec.upto dotTopsSpec)

/-- 'credenzalaw03.DotLinear', WHERE WHAT IT READS IS OF BULK AT MOST 1048576: true; the input reads as it did. -/
def dotLinearUptoRow : OpenClaim := { program := "ytmndomlpdajjmab", sum := "47e08695af42e72c6b61b3670d190a444dc7de024eb0444abac06eff55309b7e", func := "credenza/credenzalaw03.DotLinear", spec := "dotLinear", unfollowed := true, recurses := true, apart := false, narrowed := true }
def DotLinearUptoSaid : Prop := dotLinearUptoRow.holds Try.pinned (OpenSpec.upto dotLinearSpec)

/-- 'credenzalaw17.MatTimes', WHERE WHAT IT READS IS OF BULK AT MOST 1048576: true; the input reads as it did. -/
def matTimesUptoRow : OpenClaim := { program := "ytmndomlpdajjmab", sum := "47e08695af42e72c6b61b3670d190a444dc7de024eb0444abac06eff55309b7e", func := "credenza/credenzalaw17.MatTimes", spec := "matTimes", unfollowed := true, recurses := true, apart := false, narrowed := true }
def MatTimesUptoSaid : Prop := matTimesUptoRow.holds Try.pinned (OpenSpec.upto matTimesSpec)

/-- 'credenzalaw17.MatRows', WHERE WHAT IT READS IS OF BULK AT MOST 1048576: true; the input reads as it did. -/
def matRowsUptoRow : OpenClaim := { program := "ytmndomlpdajjmab", sum := "47e08695af42e72c6b61b3670d190a444dc7de024eb0444abac06eff55309b7e", func := "credenza/credenzalaw17.MatRows", spec := "matRows", unfollowed := true, recurses := true, apart := false, narrowed := true }
def MatRowsUptoSaid : Prop := matRowsUptoRow.holds Try.pinned (OpenSpec.upto matRowsSpec)

/-- 'credenzalaw17.MatOnes', WHERE WHAT IT READS IS OF BULK AT MOST 1048576: true; the input reads as it did. -/
def matOnesUptoRow : OpenClaim := { program := "ytmndomlpdajjmab", sum := "47e08695af42e72c6b61b3670d190a444dc7de024eb0444abac06eff55309b7e", func := "credenza/credenzalaw17.MatOnes", spec := "matOnes", unfollowed := true, recurses := true, apart := false, narrowed := true }
def MatOnesUptoSaid : Prop := matOnesUptoRow.holds Try.pinned (OpenSpec.upto matOnesSpec)

/-- 'credenzalaw17.MatParts', WHERE WHAT IT READS IS OF BULK AT MOST 1048576: true; the input reads as it did. -/
def matPartsUptoRow : OpenClaim := { program := "ytmndomlpdajjmab", sum := "47e08695af42e72c6b61b3670d190a444dc7de024eb0444abac06eff55309b7e", func := "credenza/credenzalaw17.MatParts", spec := "matParts", unfollowed := true, recurses := true, apart := false, narrowed := true }
def MatPartsUptoSaid : Prop := matPartsUptoRow.holds Try.pinned (OpenSpec.upto matPartsSpec)

/-- 'credenzalaw17.MatEquals', WHERE WHAT IT READS IS OF BULK AT MOST 1048576: true; the input reads as it did. -/
def matEqualsUptoRow : OpenClaim := { program := "ytmndomlpdajjmab", sum := "47e08695af42e72c6b61b3670d190a444dc7de024eb0444abac06eff55309b7e", func := "credenza/credenzalaw17.MatEquals", spec := "matEquals", unfollowed := true, recurses := true, apart := false, narrowed := true }
def MatEqualsUptoSaid : Prop := matEqualsUptoRow.holds Try.pinned (OpenSpec.upto matEqualsSpec)

/-- 'credenzalaw04.SoftWeighs', WHERE WHAT IT READS IS OF BULK AT MOST 1048576: true; the input reads as it did. -/
def softWeighsUptoRow : OpenClaim := { program := "ytmndomlpdajjmab", sum := "47e08695af42e72c6b61b3670d190a444dc7de024eb0444abac06eff55309b7e", func := "credenza/credenzalaw04.SoftWeighs", spec := "softWeighs", unfollowed := true, recurses := true, apart := false, narrowed := true }
def SoftWeighsUptoSaid : Prop := softWeighsUptoRow.holds Try.pinned (OpenSpec.upto softWeighsSpec)

/-- 'credenzalaw04.SoftMixes', WHERE WHAT IT READS IS OF BULK AT MOST 1048576: true; the input reads as it did. -/
def softMixesUptoRow : OpenClaim := { program := "ytmndomlpdajjmab", sum := "47e08695af42e72c6b61b3670d190a444dc7de024eb0444abac06eff55309b7e", func := "credenza/credenzalaw04.SoftMixes", spec := "softMixes", unfollowed := true, recurses := true, apart := false, narrowed := true }
def SoftMixesUptoSaid : Prop := softMixesUptoRow.holds Try.pinned (OpenSpec.upto softMixesSpec)

end Rows
end Go.Proofs.Ytmndomlpdajjmab
