/- Written by a program of this session over the kit's print: functions and their contracts. -/
import Derived.Test.YteocngcojijnkaaProg
import Derived.Below
import Derived.Deep.Draws
import Derived.Deep.AppendLies
import Derived.Maps.AppendAt
import Derived.OwnWalk
import Derived.Laws.BytesArg
import Derived.Laws.MakeOwn
import Derived.Laws.OwnMore
import Derived.Deep.OwnRows
import Derived.Tactics
import Derived.Lib.ConvBytes
import Derived.Laws.Slices
import Derived.WalkKit
import Derived.KernelRfl
import Derived.RowKit3
import Derived.Deep.LoopGhost
import Derived.Deep.QuietTactic
import Derived.BigQuiet
import Derived.WideLaws
import Derived.Deep.DeepCutAuto
import Derived.Deep.CutBlock
import Derived.Deep.RegionHeld3
import Derived.Laws.Rows
import Derived.Lib.AppendStr
import Derived.ArgAppend
import Derived.Laws.IdiomCopy
import Derived.OrdersHeld
import Derived.Laws.BitsLemmas
import Derived.RowKit
import Derived.Test.YteocngcojijnkaaC4
import Derived.Test.YteocngcojijnkaaQOx
import Derived.Test.YteocngcojijnkaaWWords
import Derived.Test.YteocngcojijnkaaWLast
import Derived.Test.YteocngcojijnkaaWTab
import Derived.Test.YteocngcojijnkaaWFour
import Derived.Test.YteocngcojijnkaaWQPut
import Derived.Test.YteocngcojijnkaaWApart
import Derived.Test.YteocngcojijnkaaWArr
import Derived.Test.YteocngcojijnkaaWZeros
import Derived.Test.YteocngcojijnkaaWFoot
import Derived.Test.YteocngcojijnkaaWKept
import Derived.Test.YteocngcojijnkaaWShare
import Derived.Test.YteocngcojijnkaaWN
import Derived.Test.YteocngcojijnkaaWFootNe
import Derived.Test.YteocngcojijnkaaWAt
import Derived.Test.YteocngcojijnkaaWEqStruct
import Derived.Test.YteocngcojijnkaaWRepsOne
import Derived.Test.YteocngcojijnkaaWInv
import Derived.Test.YteocngcojijnkaaWInvWords
import Derived.Test.YteocngcojijnkaaWGuard
import Derived.Test.YteocngcojijnkaaWNEv
import Derived.Test.YteocngcojijnkaaWMore
namespace Go.Proofs.Yteocngcojijnkaa.QE
open Go.RowKit Go.Proofs.YteocngcojijnkaaW.PrintWords Go.Proofs.YteocngcojijnkaaW.PrintLast Go.Proofs.YteocngcojijnkaaW.PrintMore
attribute [local go_sem] max2_int min2_int max_two min_two max_three min_three max_four min_four   -- for this text's walks alone
set_option linter.unusedVariables false
set_option linter.unusedSimpArgs false



def errW : Option Int → Value
  | none => .nilIface
  | some c => .iface 0 (.int .i64 c)
theorem errW_none : errW none = .nilIface := rfl
theorem errW_some (c : Int) : errW (some c) = .iface 0 (.int .i64 c) := rfl

-- the values' own types

end Go.Proofs.Yteocngcojijnkaa.QE
