-- Ytmndomlpdajjmaa: the machine side of the statements, written by a program of the session.
import Derived.Test.YtmndomlpdajjmaaProg
import Derived.Below
import Derived.Deep.Draws
import Derived.Deep.AppendLies
import Derived.Maps.AppendAt
import Derived.OwnWalk
import Derived.Laws.BytesArg
import Derived.Laws.MakeOwn
import Derived.Laws.OwnMore
import Derived.Deep.OwnRows
import Derived.Tactics
import Derived.Lib.ConvBytes
import Derived.Laws.Slices
import Derived.WalkKit
import Derived.KernelRfl
import Derived.RowKit3
import Derived.Deep.LoopGhost
import Derived.Deep.QuietTactic
import Derived.BigQuiet
import Derived.WideLaws
import Derived.Deep.DeepCutAuto
import Derived.Deep.CutBlock
import Derived.Deep.RegionHeld3
import Derived.Laws.Rows
import Derived.Lib.AppendStr
import Derived.ArgAppend
import Derived.Laws.IdiomCopy
import Derived.OrdersHeld
import Derived.Laws.BitsLemmas
import Derived.RowKit
import Derived.Test.YtmndomlpdajjmaaWWords
import Derived.Test.YtmndomlpdajjmaaWLast
import Derived.Test.YtmndomlpdajjmaaWTab
import Derived.Test.YtmndomlpdajjmaaWFour
import Derived.Test.YtmndomlpdajjmaaWQPut
import Derived.Test.YtmndomlpdajjmaaWApart
import Derived.Test.YtmndomlpdajjmaaWArr
import Derived.Test.YtmndomlpdajjmaaWZeros
import Derived.Test.YtmndomlpdajjmaaWFoot
import Derived.Test.YtmndomlpdajjmaaWKept
import Derived.Test.YtmndomlpdajjmaaWShare
import Derived.Test.YtmndomlpdajjmaaWN
import Derived.Test.YtmndomlpdajjmaaWFootNe
import Derived.Test.YtmndomlpdajjmaaWAt
import Derived.Test.YtmndomlpdajjmaaWEqStruct
import Derived.Test.YtmndomlpdajjmaaWRepsOne
import Derived.Test.YtmndomlpdajjmaaWInv
import Derived.Test.YtmndomlpdajjmaaWInvWords
import Derived.Test.YtmndomlpdajjmaaWGuard
import Derived.Test.YtmndomlpdajjmaaWNEv
import Derived.Test.YtmndomlpdajjmaaWMore
namespace Go.Proofs.Ytmndomlpdajjmaa.Q
open Go.RowKit Go.Proofs.YtmndomlpdajjmaaW.PrintWords Go.Proofs.YtmndomlpdajjmaaW.PrintLast Go.Proofs.YtmndomlpdajjmaaW.PrintMore
attribute [local go_sem] max2_int min2_int max_two min_two max_three min_three max_four min_four   -- for this text's walks alone
set_option linter.unusedVariables false
set_option linter.unusedSimpArgs false



def errW : Option Int → Value
  | none => .nilIface
  | some c => .iface 0 (.int .i64 c)
theorem errW_none : errW none = .nilIface := rfl
theorem errW_some (c : Int) : errW (some c) = .iface 0 (.int .i64 c) := rfl

-- the values' own types

end Go.Proofs.Ytmndomlpdajjmaa.Q
