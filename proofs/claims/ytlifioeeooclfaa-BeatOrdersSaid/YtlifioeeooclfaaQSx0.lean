/- Written by a program of this session over the kit's print: functions and their contracts. -/
import Derived.Test.YtlifioeeooclfaaProg
import Derived.Below
import Derived.Deep.Draws
import Derived.Deep.AppendLies
import Derived.Maps.AppendAt
import Derived.OwnWalk
import Derived.Laws.BytesArg
import Derived.Laws.MakeOwn
import Derived.Laws.OwnMore
import Derived.Deep.OwnRows
import Derived.Tactics
import Derived.Lib.ConvBytes
import Derived.Laws.Slices
import Derived.WalkKit
import Derived.KernelRfl
import Derived.RowKit3
import Derived.Deep.LoopGhost
import Derived.Deep.QuietTactic
import Derived.BigQuiet
import Derived.WideLaws
import Derived.Deep.DeepCutAuto
import Derived.Deep.CutBlock
import Derived.Deep.RegionHeld3
import Derived.Laws.Rows
import Derived.Lib.AppendStr
import Derived.ArgAppend
import Derived.Laws.IdiomCopy
import Derived.OrdersHeld
import Derived.Laws.BitsLemmas
import Derived.RowKit
import Derived.Test.YtlifioeeooclfaaWWords
import Derived.Test.YtlifioeeooclfaaWLast
import Derived.Test.YtlifioeeooclfaaWTab
import Derived.Test.YtlifioeeooclfaaWFour
import Derived.Test.YtlifioeeooclfaaWQPut
import Derived.Test.YtlifioeeooclfaaWApart
import Derived.Test.YtlifioeeooclfaaWArr
import Derived.Test.YtlifioeeooclfaaWZeros
import Derived.Test.YtlifioeeooclfaaWFoot
import Derived.Test.YtlifioeeooclfaaWKept
import Derived.Test.YtlifioeeooclfaaWShare
import Derived.Test.YtlifioeeooclfaaWN
import Derived.Test.YtlifioeeooclfaaWFootNe
import Derived.Test.YtlifioeeooclfaaWAt
import Derived.Test.YtlifioeeooclfaaWEqStruct
import Derived.Test.YtlifioeeooclfaaWRepsOne
import Derived.Test.YtlifioeeooclfaaWInv
import Derived.Test.YtlifioeeooclfaaWInvWords
import Derived.Test.YtlifioeeooclfaaWGuard
import Derived.Test.YtlifioeeooclfaaWNEv
import Derived.Test.YtlifioeeooclfaaWMore
namespace Go.Proofs.Ytlifioeeooclfaa.QS
open Go.RowKit Go.Proofs.YtlifioeeooclfaaW.PrintWords Go.Proofs.YtlifioeeooclfaaW.PrintLast Go.Proofs.YtlifioeeooclfaaW.PrintMore
attribute [local go_sem] max2_int min2_int max_two min_two max_three min_three max_four min_four   -- for this text's walks alone
set_option linter.unusedVariables false
set_option linter.unusedSimpArgs false



def errW : Option Int → Value
  | none => .nilIface
  | some c => .iface 0 (.int .i64 c)
theorem errW_none : errW none = .nilIface := rfl
theorem errW_some (c : Int) : errW (some c) = .iface 0 (.int .i64 c) := rfl

-- the values' own types

end Go.Proofs.Ytlifioeeooclfaa.QS
