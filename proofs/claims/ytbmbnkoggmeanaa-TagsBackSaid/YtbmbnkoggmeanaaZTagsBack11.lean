/- The contract of icehouselaw03.known: it returns true. Conditions: none. · Written by a program of this session over the kit's print: functions and their contracts. · Written by a program of this session over the kit's print: functions and their contracts. -/
import Derived.Test.YtbmbnkoggmeanaaZTagsBack9
import Derived.Deep.RegionWith
import Derived.Test.YtbmbnkoggmeanaaProg
import Derived.Below
import Derived.Deep.Draws
import Derived.Deep.AppendLies
import Derived.Maps.AppendAt
import Derived.OwnWalk
import Derived.Laws.BytesArg
import Derived.Laws.MakeOwn
import Derived.Laws.OwnMore
import Derived.Deep.OwnRows
import Derived.Tactics
import Derived.Lib.ConvBytes
import Derived.Laws.Slices
import Derived.WalkKit
import Derived.KernelRfl
import Derived.RowKit3
import Derived.Deep.LoopGhost
import Derived.Deep.QuietTactic
import Derived.BigQuiet
import Derived.WideLaws
import Derived.Deep.DeepCutAuto
import Derived.Deep.CutBlock
import Derived.Deep.RegionHeld3
import Derived.Laws.Rows
import Derived.Lib.AppendStr
import Derived.ArgAppend
import Derived.Laws.IdiomCopy
import Derived.OrdersHeld
import Derived.Laws.BitsLemmas
import Derived.RowKit
import Derived.Test.YtbmbnkoggmeanaaWWords
import Derived.Test.YtbmbnkoggmeanaaWLast
import Derived.Test.YtbmbnkoggmeanaaWTab
import Derived.Test.YtbmbnkoggmeanaaWFour
import Derived.Test.YtbmbnkoggmeanaaWQPut
import Derived.Test.YtbmbnkoggmeanaaWApart
import Derived.Test.YtbmbnkoggmeanaaWArr
import Derived.Test.YtbmbnkoggmeanaaWZeros
import Derived.Test.YtbmbnkoggmeanaaWFoot
import Derived.Test.YtbmbnkoggmeanaaWKept
import Derived.Test.YtbmbnkoggmeanaaWShare
import Derived.Test.YtbmbnkoggmeanaaWN
import Derived.Test.YtbmbnkoggmeanaaWFootNe
import Derived.Test.YtbmbnkoggmeanaaWAt
import Derived.Test.YtbmbnkoggmeanaaWEqStruct
import Derived.Test.YtbmbnkoggmeanaaWRepsOne
import Derived.Test.YtbmbnkoggmeanaaWInv
import Derived.Test.YtbmbnkoggmeanaaWInvWords
import Derived.Test.YtbmbnkoggmeanaaWGuard
import Derived.Test.YtbmbnkoggmeanaaWNEv
import Derived.Test.YtbmbnkoggmeanaaWMore
namespace Go.Proofs.Ytbmbnkoggmeanaa.Fk
open Go.ChangeShapes Go.WideShapes Go.ChangeAt Go.RowKit Go.Proofs.Ytbmbnkoggmeanaa.Pk Go.Proofs.Ytbmbnkoggmeanaa.Tg Go.Proofs.Ytbmbnkoggmeanaa.QA
open Go.Proofs.Ytbmbnkoggmeanaa.Hlp Go.Proofs.Ytbmbnkoggmeanaa.Wrd Go.Proofs.YtbmbnkoggmeanaaW.PrintWords Go.Proofs.YtbmbnkoggmeanaaW.PrintLast Go.Proofs.YtbmbnkoggmeanaaW.PrintMore
set_option linter.unusedVariables false
set_option linter.unusedSimpArgs false
theorem next_k : tags_Next.f 9 4 1 9 7 2 = some (5, 7, 2, 0) := by decide +kernel
theorem cmp_k : tags_Compare.f 9 4 1 9 4 2 0 = some (-1) := by decide +kernel
theorem none_k : tags_None.f 0 0 0 = some true := by decide +kernel
theorem read_k : readP [] = (En.zero, 12) := by kernel_rfl
set_option maxHeartbeats 4000000 in
set_option maxRecDepth 100000 in
theorem known_ (w : World) : Calls Try.prog 19 #[] w fun e w' => e = .returned (.bool true) ∧ Below w.heap.size w w' := by
  have hu23 := Try.underlying23
  have hu40 := Try.underlying40
  go_enter Try.func19, Try.ntmps19
  go_wp2_with fail
  (with_reducible refine (tags_Next.calls 9 4 1 9 7 2 _ _ _ _ _ next_k).mono ?_)
  rintro x w1 ⟨rfl, hb⟩
  have HB := Aside0.mk hb
  clear hb
  go_wp2_with fail
  have bT := Aside0.mk (blk_new w1 (.cells #[.int .i64 5, .int .i64 7, .int .i64 2] 23))
  have HB := Aside0.mk (below_alloc HB.out (.cells #[.int .i64 5, .int .i64 7, .int .i64 2] 23))
  generalize w1.heap.size = E at *
  generalize w1.alloc (.cells #[.int .i64 5, .int .i64 7, .int .i64 2] 23) = w2 at *
  have HNil : Kd.C (Kd.int .u8) w2 none 0 [] := C_empty
  (with_reducible refine (read_ (l := []) HNil (Nat.le_refl 0) (fun x hx => absurd hx List.not_mem_nil) (by decide)).mono ?_)
  rw [read_k]
  rintro x w3 ⟨A, c, rfl, _, hb⟩
  have bT := Aside0.mk (blk_below bT.out hb)
  have HB := Aside0.mk (below_step HB.out hb)
  clear hb
  have bT := Aside0.mk (blk_alloc bT.out (.cells #[.string (strOfNums En.zero.k), .int .i64 En.zero.a, .int .i64 En.zero.b, .int .i64 En.zero.c, .bool En.zero.h, .slice A En.zero.v.length c] 40))
  have HB := Aside0.mk (below_alloc HB.out (.cells #[.string (strOfNums En.zero.k), .int .i64 En.zero.a, .int .i64 En.zero.b, .int .i64 En.zero.c, .bool En.zero.h, .slice A En.zero.v.length c] 40))
  go_upto_region 3 with fail
  generalize (w3.alloc (.cells #[.string (strOfNums En.zero.k), .int .i64 En.zero.a, .int .i64 En.zero.b, .int .i64 En.zero.c, .bool En.zero.h, .slice A En.zero.v.length c] 40)) = w4 at *
  have e0 : w4.cell? ⟨E, 0, none⟩ = some (.int .i64 5) := (blk_cell bT.out 0).trans rfl
  have e1 : w4.cell? ⟨E, 1, none⟩ = some (.int .i64 7) := (blk_cell bT.out 1).trans rfl
  have e2 : w4.cell? ⟨E, 2, none⟩ = some (.int .i64 2) := (blk_cell bT.out 2).trans rfl
  go_wp2_with (first | (go_at_call 14; (with_reducible refine (tags_Compare.calls 9 4 1 9 4 2 0 _ _ cmp_k).mono ?_); rintro x w5 ⟨rfl, hb5⟩; have HB5 := Aside0.mk (below_step HB.out hb5); clear hb5) | (go_at_call 18; (with_reducible refine (tags_None.calls 0 0 0 _ _ none_k).mono ?_); rintro x w6 ⟨rfl, hb6⟩; have HB6 := Aside0.mk (below_step HB5.out hb6); clear hb6))
  go_ret
  exact ⟨rfl, HB6.out⟩
/-- for the print -/
def known.f : Option Bool := some true
theorem known.calls (r : Bool) (w : World) (h : known.f = some r) : Calls Try.prog 19 #[] w fun e w' => e = .returned (.bool r) ∧ Below w.heap.size w w' := by
  obtain rfl := Option.some.inj h
  exact known_ w
end Go.Proofs.Ytbmbnkoggmeanaa.Fk

namespace Go.Proofs.Ytbmbnkoggmeanaa.QR
open Go.RowKit Go.Proofs.YtbmbnkoggmeanaaW.PrintWords Go.Proofs.YtbmbnkoggmeanaaW.PrintLast Go.Proofs.YtbmbnkoggmeanaaW.PrintMore
attribute [local go_sem] max2_int min2_int max_two min_two max_three min_three max_four min_four   -- for this text's walks alone
set_option linter.unusedVariables false
set_option linter.unusedSimpArgs false



def errW : Option Int → Value
  | none => .nilIface
  | some c => .iface 0 (.int .i64 c)
theorem errW_none : errW none = .nilIface := rfl
theorem errW_some (c : Int) : errW (some c) = .iface 0 (.int .i64 c) := rfl

theorem info3 : (Try.prog.info? 3).map (fun i => (i.zero, i.size, i.bytes)) = some (some (.int .i64 0), 1, 8) := by kernel_rfl
theorem info5 : (Try.prog.info? 5).map (fun i => (i.zero, i.size, i.bytes)) = some (some (.int .u8 0), 1, 1) := by kernel_rfl
-- the values' own types

end Go.Proofs.Ytbmbnkoggmeanaa.QR

namespace Go.Proofs.Ytbmbnkoggmeanaa.QR
open Go.RowKit Go.Proofs.YtbmbnkoggmeanaaW.PrintWords Go.Proofs.YtbmbnkoggmeanaaW.PrintLast Go.Proofs.YtbmbnkoggmeanaaW.PrintMore
attribute [local go_sem] max2_int min2_int max_two min_two max_three min_three max_four min_four   -- for this text's walks alone
set_option linter.unusedVariables false
set_option linter.unusedSimpArgs false

theorem eqA23 (d : Nat) (w : World) (x0 y0 : Int) (x1 y1 : Int) (x2 y2 : Int) :
    (Op.equalIn (d + 2) 23 (.agg #[.int .i64 x0, .int .i64 x1, .int .i64 x2]) (.agg #[.int .i64 y0, .int .i64 y1, .int .i64 y2])).run Try.prog w = .ok (x0 == y0 && (x1 == y1 && (x2 == y2))) w := by
  refine eqA_of Try.underlying23 (by kernel_rfl) ?_
  refine eqf_cons (by rfl) (by go_simp; rfl) (by go_simp; rfl) (by go_simp) ?_
  refine eqf_cons (by rfl) (by go_simp; rfl) (by go_simp; rfl) (by go_simp) ?_
  exact eqf_last (by rfl) (by go_simp; rfl) (by go_simp; rfl) (by go_simp)
end Go.Proofs.Ytbmbnkoggmeanaa.QR
