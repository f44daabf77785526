/- The contracts of tags.Bytes and the reference's Bytes, for the print. Conditions: none. · Written by a program of this session over the kit's print: functions and their contracts. -/
import Derived.Test.YtbmbnkoggmeanaaZTagsWrites28
import Derived.Test.YtbmbnkoggmeanaaProg
import Derived.Below
import Derived.Deep.Draws
import Derived.Deep.AppendLies
import Derived.Maps.AppendAt
import Derived.OwnWalk
import Derived.Laws.BytesArg
import Derived.Laws.MakeOwn
import Derived.Laws.OwnMore
import Derived.Deep.OwnRows
import Derived.Tactics
import Derived.Lib.ConvBytes
import Derived.Laws.Slices
import Derived.WalkKit
import Derived.KernelRfl
import Derived.RowKit3
import Derived.Deep.LoopGhost
import Derived.Deep.QuietTactic
import Derived.BigQuiet
import Derived.WideLaws
import Derived.Deep.DeepCutAuto
import Derived.Deep.CutBlock
import Derived.Deep.RegionHeld3
import Derived.Laws.Rows
import Derived.Lib.AppendStr
import Derived.ArgAppend
import Derived.Laws.IdiomCopy
import Derived.OrdersHeld
import Derived.Laws.BitsLemmas
import Derived.RowKit
import Derived.Test.YtbmbnkoggmeanaaZTagsWrites12
import Derived.Test.YtbmbnkoggmeanaaZTagsWrites20
import Derived.Test.YtbmbnkoggmeanaaZTagsWrites9
import Derived.Test.YtbmbnkoggmeanaaWWords
import Derived.Test.YtbmbnkoggmeanaaWLast
import Derived.Test.YtbmbnkoggmeanaaWTab
import Derived.Test.YtbmbnkoggmeanaaWFour
import Derived.Test.YtbmbnkoggmeanaaWQPut
import Derived.Test.YtbmbnkoggmeanaaWApart
import Derived.Test.YtbmbnkoggmeanaaWArr
import Derived.Test.YtbmbnkoggmeanaaWZeros
import Derived.Test.YtbmbnkoggmeanaaWFoot
import Derived.Test.YtbmbnkoggmeanaaWKept
import Derived.Test.YtbmbnkoggmeanaaWShare
import Derived.Test.YtbmbnkoggmeanaaWN
import Derived.Test.YtbmbnkoggmeanaaWFootNe
import Derived.Test.YtbmbnkoggmeanaaWAt
import Derived.Test.YtbmbnkoggmeanaaWEqStruct
import Derived.Test.YtbmbnkoggmeanaaWRepsOne
import Derived.Test.YtbmbnkoggmeanaaWInv
import Derived.Test.YtbmbnkoggmeanaaWInvWords
import Derived.Test.YtbmbnkoggmeanaaWGuard
import Derived.Test.YtbmbnkoggmeanaaWNEv
import Derived.Test.YtbmbnkoggmeanaaWMore
namespace Go.Proofs.Ytbmbnkoggmeanaa.Fb
open Go.ChangeShapes Go.WideShapes Go.ChangeAt Go.RowKit Go.Proofs.Ytbmbnkoggmeanaa.Tg Go.Proofs.Ytbmbnkoggmeanaa.EncC
open Go.Proofs.YtbmbnkoggmeanaaW.PrintWords Go.Proofs.YtbmbnkoggmeanaaW.PrintLast Go.Proofs.YtbmbnkoggmeanaaW.PrintMore
def tags_Bytes.f (k : ByteArray) (a b c : Int) (h : Bool) (v : List Int) : Option (List Int × Int) := some (bytesV k a b c h v)
theorem tags_Bytes.calls (k : ByteArray) (a b c : Int) (h : Bool) (A : Option Addr) (d : Nat) (v : List Int) (r1 : List Int) (r2 : Int) (w : World) (hr : Kd.C (Kd.int .u8) w A v.length v) (hc : v.length ≤ d) (hf : tags_Bytes.f k a b c h v = some (r1, r2)) :
    Calls Try.prog 40 #[.agg #[.string k, .int .i64 a, .int .i64 b, .int .i64 c, .bool h, .slice A v.length d]] w fun e w' => ∃ v0_ : Value, e = .returned (.tuple #[v0_, .int .i64 r2]) ∧ Kd.R (Kd.int .u8) 5 w' w.heap.size (fun _ => True) v0_ r1 ∧ Below w.heap.size w w' := by
  have := bytes_ k a b c h hr hc
  rw [Option.some.inj hf] at this
  exact this
def icehouseref03_Bytes.f (k : ByteArray) (a b c : Int) (h : Bool) (v : List Int) : Option (List Int × Int) := some (bytesV k a b c h v)
theorem icehouseref03_Bytes.calls (k : ByteArray) (a b c : Int) (h : Bool) (A : Option Addr) (d : Nat) (v : List Int) (r1 : List Int) (r2 : Int) (w : World) (hr : Kd.C (Kd.int .u8) w A v.length v) (hc : v.length ≤ d) (hf : icehouseref03_Bytes.f k a b c h v = some (r1, r2)) :
    Calls Try.prog 41 #[.agg #[.string k, .int .i64 a, .int .i64 b, .int .i64 c, .bool h, .slice A v.length d]] w fun e w' => ∃ v0_ : Value, e = .returned (.tuple #[v0_, .int .i64 r2]) ∧ Kd.R (Kd.int .u8) 5 w' w.heap.size (fun _ => True) v0_ r1 ∧ Below w.heap.size w w' := by
  have := rbytes_ k a b c h hr hc
  rw [Option.some.inj hf] at this
  exact this
end Go.Proofs.Ytbmbnkoggmeanaa.Fb

namespace Go.Proofs.Ytbmbnkoggmeanaa.QWrites
open Go.RowKit Go.Proofs.YtbmbnkoggmeanaaW.PrintWords Go.Proofs.YtbmbnkoggmeanaaW.PrintLast Go.Proofs.YtbmbnkoggmeanaaW.PrintMore
attribute [local go_sem] max2_int min2_int max_two min_two max_three min_three max_four min_four   -- for this text's walks alone
set_option linter.unusedVariables false
set_option linter.unusedSimpArgs false



def errW : Option Int → Value
  | none => .nilIface
  | some c => .iface 0 (.int .i64 c)
theorem errW_none : errW none = .nilIface := rfl
theorem errW_some (c : Int) : errW (some c) = .iface 0 (.int .i64 c) := rfl

-- the values' own types

end Go.Proofs.Ytbmbnkoggmeanaa.QWrites
