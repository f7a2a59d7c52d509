-- Ytmndomlpdajjmac: the machine side of the statements, written by a program of the session.
import Derived.Test.YtmndomlpdajjmacProg
import Derived.Below
import Derived.Deep.Draws
import Derived.Deep.AppendLies
import Derived.Maps.AppendAt
import Derived.OwnWalk
import Derived.Laws.BytesArg
import Derived.Laws.MakeOwn
import Derived.Laws.OwnMore
import Derived.Deep.OwnRows
import Derived.Tactics
import Derived.Lib.ConvBytes
import Derived.Laws.Slices
import Derived.WalkKit
import Derived.KernelRfl
import Derived.RowKit3
import Derived.Deep.LoopGhost
import Derived.Deep.QuietTactic
import Derived.BigQuiet
import Derived.WideLaws
import Derived.Deep.DeepCutAuto
import Derived.Deep.CutBlock
import Derived.Deep.RegionHeld3
import Derived.Laws.Rows
import Derived.Lib.AppendStr
import Derived.ArgAppend
import Derived.Laws.IdiomCopy
import Derived.OrdersHeld
import Derived.Laws.BitsLemmas
import Derived.RowKit
import Derived.Lib.SliceRun
import Derived.Test.YtmndomlpdajjmacWWords
import Derived.Test.YtmndomlpdajjmacWLast
import Derived.Test.YtmndomlpdajjmacWTab
import Derived.Test.YtmndomlpdajjmacWFour
import Derived.Test.YtmndomlpdajjmacWQPut
import Derived.Test.YtmndomlpdajjmacWApart
import Derived.Test.YtmndomlpdajjmacWArr
import Derived.Test.YtmndomlpdajjmacWZeros
import Derived.Test.YtmndomlpdajjmacWFoot
import Derived.Test.YtmndomlpdajjmacWKept
import Derived.Test.YtmndomlpdajjmacWShare
import Derived.Test.YtmndomlpdajjmacWN
import Derived.Test.YtmndomlpdajjmacWFootNe
import Derived.Test.YtmndomlpdajjmacWAt
import Derived.Test.YtmndomlpdajjmacWEqStruct
import Derived.Test.YtmndomlpdajjmacWRepsOne
import Derived.Test.YtmndomlpdajjmacWInv
import Derived.Test.YtmndomlpdajjmacWInvWords
import Derived.Test.YtmndomlpdajjmacWGuard
import Derived.Test.YtmndomlpdajjmacWNEv
import Derived.Test.YtmndomlpdajjmacWMore
namespace Go.Proofs.Ytmndomlpdajjmac.No
open Go.RowKit Go.Proofs.YtmndomlpdajjmacW.PrintWords Go.Proofs.YtmndomlpdajjmacW.PrintLast Go.Proofs.YtmndomlpdajjmacW.PrintMore
attribute [local go_sem] max2_int min2_int max_two min_two max_three min_three max_four min_four   -- for this text's walks alone
set_option linter.unusedVariables false
set_option linter.unusedSimpArgs false



def errW : Option Int → Value
  | none => .nilIface
  | some c => .iface 0 (.int .i64 c)
theorem errW_none : errW none = .nilIface := rfl
theorem errW_some (c : Int) : errW (some c) = .iface 0 (.int .i64 c) := rfl

theorem info21 : (Try.prog.info? 21).map (fun i => (i.zero, i.size, i.bytes)) = some (some (.int .i32 0), 1, 4) := by kernel_rfl
-- the values' own types

end Go.Proofs.Ytmndomlpdajjmac.No
