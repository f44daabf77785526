/- Written by a program of this session over the kit's print: functions and their contracts. · Written by a program of this session over the kit's print: functions and their contracts. -/
import Derived.Test.YtbmbnkoggmeanaaProg
import Derived.Below
import Derived.Deep.Draws
import Derived.Deep.AppendLies
import Derived.Maps.AppendAt
import Derived.OwnWalk
import Derived.Laws.BytesArg
import Derived.Laws.MakeOwn
import Derived.Laws.OwnMore
import Derived.Deep.OwnRows
import Derived.Tactics
import Derived.Lib.ConvBytes
import Derived.Laws.Slices
import Derived.WalkKit
import Derived.KernelRfl
import Derived.RowKit3
import Derived.Deep.LoopGhost
import Derived.Deep.QuietTactic
import Derived.BigQuiet
import Derived.WideLaws
import Derived.Deep.DeepCutAuto
import Derived.Deep.CutBlock
import Derived.Deep.RegionHeld3
import Derived.Laws.Rows
import Derived.Lib.AppendStr
import Derived.ArgAppend
import Derived.Laws.IdiomCopy
import Derived.OrdersHeld
import Derived.Laws.BitsLemmas
import Derived.RowKit
import Derived.Test.YtbmbnkoggmeanaaWWords
import Derived.Test.YtbmbnkoggmeanaaWLast
import Derived.Test.YtbmbnkoggmeanaaWTab
import Derived.Test.YtbmbnkoggmeanaaWFour
import Derived.Test.YtbmbnkoggmeanaaWQPut
import Derived.Test.YtbmbnkoggmeanaaWApart
import Derived.Test.YtbmbnkoggmeanaaWArr
import Derived.Test.YtbmbnkoggmeanaaWZeros
import Derived.Test.YtbmbnkoggmeanaaWFoot
import Derived.Test.YtbmbnkoggmeanaaWKept
import Derived.Test.YtbmbnkoggmeanaaWShare
import Derived.Test.YtbmbnkoggmeanaaWN
import Derived.Test.YtbmbnkoggmeanaaWFootNe
import Derived.Test.YtbmbnkoggmeanaaWAt
import Derived.Test.YtbmbnkoggmeanaaWEqStruct
import Derived.Test.YtbmbnkoggmeanaaWRepsOne
import Derived.Test.YtbmbnkoggmeanaaWInv
import Derived.Test.YtbmbnkoggmeanaaWInvWords
import Derived.Test.YtbmbnkoggmeanaaWGuard
import Derived.Test.YtbmbnkoggmeanaaWNEv
import Derived.Test.YtbmbnkoggmeanaaWMore
namespace Go.Proofs.Ytbmbnkoggmeanaa.QA
open Go.RowKit Go.Proofs.YtbmbnkoggmeanaaW.PrintWords Go.Proofs.YtbmbnkoggmeanaaW.PrintLast Go.Proofs.YtbmbnkoggmeanaaW.PrintMore
attribute [local go_sem] max2_int min2_int max_two min_two max_three min_three max_four min_four   -- for this text's walks alone
set_option linter.unusedVariables false
set_option linter.unusedSimpArgs false



def errW : Option Int → Value
  | none => .nilIface
  | some c => .iface 0 (.int .i64 c)
theorem errW_none : errW none = .nilIface := rfl
theorem errW_some (c : Int) : errW (some c) = .iface 0 (.int .i64 c) := rfl

theorem info3 : (Try.prog.info? 3).map (fun i => (i.zero, i.size, i.bytes)) = some (some (.int .i64 0), 1, 8) := by kernel_rfl
-- the values' own types

end Go.Proofs.Ytbmbnkoggmeanaa.QA

namespace Go.Proofs.Ytbmbnkoggmeanaa.QA
open Go.RowKit Go.Proofs.YtbmbnkoggmeanaaW.PrintWords Go.Proofs.YtbmbnkoggmeanaaW.PrintLast Go.Proofs.YtbmbnkoggmeanaaW.PrintMore
attribute [local go_sem] max2_int min2_int max_two min_two max_three min_three max_four min_four   -- for this text's walks alone
set_option linter.unusedVariables false
set_option linter.unusedSimpArgs false

theorem eqA23 (d : Nat) (w : World) (x0 y0 : Int) (x1 y1 : Int) (x2 y2 : Int) :
    (Op.equalIn (d + 2) 23 (.agg #[.int .i64 x0, .int .i64 x1, .int .i64 x2]) (.agg #[.int .i64 y0, .int .i64 y1, .int .i64 y2])).run Try.prog w = .ok (x0 == y0 && (x1 == y1 && (x2 == y2))) w := by
  refine eqA_of Try.underlying23 (by kernel_rfl) ?_
  refine eqf_cons (by rfl) (by go_simp; rfl) (by go_simp; rfl) (by go_simp) ?_
  refine eqf_cons (by rfl) (by go_simp; rfl) (by go_simp; rfl) (by go_simp) ?_
  exact eqf_last (by rfl) (by go_simp; rfl) (by go_simp; rfl) (by go_simp)
end Go.Proofs.Ytbmbnkoggmeanaa.QA
