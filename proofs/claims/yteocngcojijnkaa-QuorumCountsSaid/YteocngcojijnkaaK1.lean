/- The contract of icehouselaw10.known: it returns true. Conditions: none. -/
import Derived.Test.YteocngcojijnkaaQEx
namespace Go.Proofs.Yteocngcojijnkaa.Fk
open Go.ChangeShapes Go.WideShapes Go.ChangeAt Go.RowKit Go.Proofs.Yteocngcojijnkaa.QO Go.Proofs.Yteocngcojijnkaa.QE Go.Proofs.Yteocngcojijnkaa.Lex
open Go.Proofs.Yteocngcojijnkaa.Hlp Go.Proofs.YteocngcojijnkaaW.PrintWords Go.Proofs.YteocngcojijnkaaW.PrintLast Go.Proofs.YteocngcojijnkaaW.PrintMore
set_option linter.unusedVariables false
set_option linter.unusedSimpArgs false
theorem need3 : quorum_Need.f 3 = some 2 := by decide +kernel
theorem need4 : quorum_Need.f 4 = some 3 := by decide +kernel
theorem enough_k : quorum_Enough.f 9 [1, 2, 3] [3, 9, 1] = some true := by decide +kernel
theorem C_three {w : World} {g : Nat} {a b c : Int} (h : w.heap[g]? = some (.cells #[.int .i64 a, .int .i64 b, .int .i64 c] 3 (0, 0))) : Kd.C (Kd.int .i64) w (some ⟨g, 0, none⟩) [a, b, c].length [a, b, c] := C_blk (enc := Value.int .i64) (h1 := fun _ => rfl) (xs := [a, b, c]) (by simp) h rfl
theorem size_alloc (w : World) (o : Obj) : (w.alloc o).heap.size = w.heap.size + 1 := Array.size_push ..
theorem enough_call {w : World} {g g' : Nat} (h : w.heap[g]? = some (.cells #[.int .i64 1, .int .i64 2, .int .i64 3] 3 (0, 0))) (h' : w.heap[g']? = some (.cells #[.int .i64 3, .int .i64 9, .int .i64 1] 3 (0, 0))) :
    Calls Try.prog 13 #[.slice (some ⟨g, 0, none⟩) 3 3, .slice (some ⟨g', 0, none⟩) 3 3] w fun e w' => e = .returned (.bool true) ∧ Below w.heap.size w w' :=
  quorum_Enough.calls 9 _ 3 [1, 2, 3] _ 3 [3, 9, 1] _ _ (C_three h) (by decide) (C_three h') (by decide) enough_k
set_option maxHeartbeats 4000000 in
theorem add_nil (n : Int) (w : World) : Calls Try.prog 21 #[.pointer none, .int .i64 n] w fun e w' => e = .returned (.int .i64 1) ∧ w = w' := by
  go_enter Try.func21, Try.ntmps21
  go_wp2_with fail
  go_ret
  exact ⟨rfl, rfl⟩
set_option maxHeartbeats 4000000 in
set_option maxRecDepth 100000 in
theorem known_ (w : World) : Calls Try.prog 10 #[] w fun e w' => e = .returned (.bool true) ∧ Below w.heap.size w w' := by
  go_enter Try.func10, Try.ntmps10
  go_wp2_with fail
  (with_reducible refine (quorum_Need.calls 3 _ _ need3).mono ?_)
  rintro x w1 ⟨rfl, hb⟩
  have HB := Aside0.mk hb.below
  clear hb
  go_wp2_with fail
  (with_reducible refine (quorum_Need.calls 4 _ _ need4).mono ?_)
  rintro x w2 ⟨rfl, hb⟩
  have HB := Aside0.mk (below_then HB.out HB.out.size hb.below)
  clear hb
  go_wp2_with fail
  have HX := Aside0.mk (blk_alloc (blk_new w2 (.cells #[.int .i64 1, .int .i64 2, .int .i64 3] 3)) (.cells #[.int .i64 3, .int .i64 9, .int .i64 1] 3))
  have HY := Aside0.mk (blk_new (w2.alloc (.cells #[.int .i64 1, .int .i64 2, .int .i64 3] 3)) (.cells #[.int .i64 3, .int .i64 9, .int .i64 1] 3))
  rw [size_alloc] at HY
  have HB := Aside0.mk (below_alloc (below_alloc HB.out (.cells #[.int .i64 1, .int .i64 2, .int .i64 3] 3)) (.cells #[.int .i64 3, .int .i64 9, .int .i64 1] 3))
  (with_reducible refine (enough_call HX.out HY.out).mono ?_)
  rintro x w3 ⟨rfl, hb⟩
  have HB := Aside0.mk (below_then HB.out HB.out.size hb)
  clear hb
  go_wp2_with fail
  (with_reducible refine (add_nil 1 _).mono ?_)
  rintro x w4 ⟨rfl, rfl⟩
  go_wp2_with fail
  go_ret
  exact ⟨rfl, HB.out⟩
/-- for the print -/
def known.f : Option Bool := some true
theorem known.calls (r : Bool) (w : World) (h : known.f = some r) : Calls Try.prog 10 #[] w fun e w' => e = .returned (.bool r) ∧ Below w.heap.size w w' := by
  obtain rfl := Option.some.inj h
  exact known_ w
end Go.Proofs.Yteocngcojijnkaa.Fk
