/- Written by a program of this session over the kit's print: functions and their contracts. -/
import Derived.Test.YtbmbnkoggmeanaaProg
import Derived.Below
import Derived.Deep.Draws
import Derived.Deep.AppendLies
import Derived.Maps.AppendAt
import Derived.OwnWalk
import Derived.Laws.BytesArg
import Derived.Laws.MakeOwn
import Derived.Laws.OwnMore
import Derived.Deep.OwnRows
import Derived.Tactics
import Derived.Lib.ConvBytes
import Derived.Laws.Slices
import Derived.WalkKit
import Derived.KernelRfl
import Derived.RowKit3
import Derived.Deep.LoopGhost
import Derived.Deep.QuietTactic
import Derived.BigQuiet
import Derived.WideLaws
import Derived.Deep.DeepCutAuto
import Derived.Deep.CutBlock
import Derived.Deep.RegionHeld3
import Derived.Laws.Rows
import Derived.Lib.AppendStr
import Derived.ArgAppend
import Derived.Laws.IdiomCopy
import Derived.OrdersHeld
import Derived.Laws.BitsLemmas
import Derived.RowKit
import Derived.Test.YtbmbnkoggmeanaaZTagsNewer17
import Derived.Test.YtbmbnkoggmeanaaWWords
import Derived.Test.YtbmbnkoggmeanaaWLast
import Derived.Test.YtbmbnkoggmeanaaWTab
import Derived.Test.YtbmbnkoggmeanaaWFour
import Derived.Test.YtbmbnkoggmeanaaWQPut
import Derived.Test.YtbmbnkoggmeanaaWApart
import Derived.Test.YtbmbnkoggmeanaaWArr
import Derived.Test.YtbmbnkoggmeanaaWZeros
import Derived.Test.YtbmbnkoggmeanaaWFoot
import Derived.Test.YtbmbnkoggmeanaaWKept
import Derived.Test.YtbmbnkoggmeanaaWShare
import Derived.Test.YtbmbnkoggmeanaaWN
import Derived.Test.YtbmbnkoggmeanaaWFootNe
import Derived.Test.YtbmbnkoggmeanaaWAt
import Derived.Test.YtbmbnkoggmeanaaWEqStruct
import Derived.Test.YtbmbnkoggmeanaaWRepsOne
import Derived.Test.YtbmbnkoggmeanaaWInv
import Derived.Test.YtbmbnkoggmeanaaWInvWords
import Derived.Test.YtbmbnkoggmeanaaWGuard
import Derived.Test.YtbmbnkoggmeanaaWNEv
import Derived.Test.YtbmbnkoggmeanaaWMore
namespace Go.Proofs.Ytbmbnkoggmeanaa.QR
open Go.RowKit Go.Proofs.YtbmbnkoggmeanaaW.PrintWords Go.Proofs.YtbmbnkoggmeanaaW.PrintLast Go.Proofs.YtbmbnkoggmeanaaW.PrintMore
attribute [local go_sem] max2_int min2_int max_two min_two max_three min_three max_four min_four   -- for this text's walks alone
set_option linter.unusedVariables false
set_option linter.unusedSimpArgs false



def errW : Option Int → Value
  | none => .nilIface
  | some c => .iface 0 (.int .i64 c)
theorem errW_none : errW none = .nilIface := rfl
theorem errW_some (c : Int) : errW (some c) = .iface 0 (.int .i64 c) := rfl

theorem info3 : (Try.prog.info? 3).map (fun i => (i.zero, i.size, i.bytes)) = some (some (.int .i64 0), 1, 8) := by kernel_rfl
theorem info5 : (Try.prog.info? 5).map (fun i => (i.zero, i.size, i.bytes)) = some (some (.int .u8 0), 1, 1) := by kernel_rfl
-- the values' own types

end Go.Proofs.Ytbmbnkoggmeanaa.QR
