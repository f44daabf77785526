/- The deferred closure of read, and read over a function. Conditions: bytes that fit in memory. -/
import Derived.Test.YtfhgclojfjiblaaZPackBack7
namespace Go.Proofs.Ytfhgclojfjiblaa.Pk
open Go.ChangeShapes Go.WideShapes Go.ChangeAt Go.RowKit
open Go.Proofs.Ytfhgclojfjiblaa.Hlp Go.Proofs.Ytfhgclojfjiblaa.Wrd Go.Proofs.YtfhgclojfjiblaaW.PrintWords Go.Proofs.YtfhgclojfjiblaaW.PrintLast Go.Proofs.YtfhgclojfjiblaaW.PrintMore
set_option linter.unusedVariables false
set_option linter.unusedSimpArgs false
theorem as_wrong (v : Value) (w : World) : (Instr.typeAssert (.iface 72 v) 20 72 true).run Try.prog w = .ok (.tuple #[v, .bool true]) w := by kernel_rfl
theorem catch_idle (p : Addr) (w : World) :
    CallsD Try.prog 39 #[.pointer (some p)] .returning w fun e u' w' => e = .returned (.tuple #[]) ∧ u' = .returning ∧ w' = w := by
  refine callsD_of_wpS Try.func39 rfl fun c₀ cs hu => ?_
  apply wpS_seq
  apply wpS_region
  simp [wpOpsS, go_sem, recoverD, hu, Try.ntmps39, Exit.thenS]
  refine wpS_of_wp ?_
  go_wp2
  cases c₀
  simp_all [bodyPostS, results, Try.results39]
set_option maxHeartbeats 1000000 in
theorem catch_pan (bp : Nat) (x e : Int) (w : World) {T : Nat} (hb : w.heap[bp]? = some (.cells #[.int .i64 x] T (0, 0))) :
    CallsD Try.prog 39 #[.pointer (some ⟨bp, 0, none⟩)] (.panicking (pan e)) w fun y u' w' => y = .returned (.tuple #[]) ∧ u' = .panicking [{ v := .iface 72 (.agg #[.int .i64 e]), recovered := true }] ∧ w' = (w.alloc (.cells #[.int .i64 e] 72)).setCell ⟨bp, 0, none⟩ (.int .i64 e) := by
  have hb2 := blk_alloc hb (.cells #[.int .i64 e] 72)
  have hc2 := (blk_cell hb2 0).trans (show _ = some (Value.int .i64 x) from rfl)
  have hz2 := blk_frozen hb2 0
  clear hb hb2
  refine callsD_of_wpS Try.func39 rfl fun c₀ cs hu => ?_
  apply wpS_seq
  apply wpS_region
  simp [wpOpsS, go_sem, recoverD, hu, Try.ntmps39, Exit.thenS, pan]
  have hta := as_wrong (.agg #[.int .i64 e])
  refine wpS_of_wp ?_
  go_wp2
  cases c₀
  simp_all [bodyPostS, results, Try.results39]
end Go.Proofs.Ytfhgclojfjiblaa.Pk
