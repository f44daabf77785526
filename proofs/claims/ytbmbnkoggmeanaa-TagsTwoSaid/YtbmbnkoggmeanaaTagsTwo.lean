/- The law TagsTwo returns true. Conditions: none. -/
import Derived.Test.YtbmbnkoggmeanaaRCmpQTwo
import Derived.Test.YtbmbnkoggmeanaaRNextQTwo
import Derived.Test.YtbmbnkoggmeanaaShapes
namespace Go.Proofs.Ytbmbnkoggmeanaa.TwoP
open Go.RowKit Go.Proofs.Ytbmbnkoggmeanaa.Lex Go.Proofs.Ytbmbnkoggmeanaa.Opn Go.Proofs.Ytbmbnkoggmeanaa.CmpQTwo Go.Proofs.Ytbmbnkoggmeanaa.QTwo Go.Proofs.YtbmbnkoggmeanaaW.PrintWords Go.Proofs.YtbmbnkoggmeanaaW.PrintLast Go.Proofs.YtbmbnkoggmeanaaW.PrintMore
set_option linter.unusedVariables false
set_option linter.unusedSimpArgs false
theorem law_f (a b c x y z who op : Int) : ∃ k, icehouselaw03_TagsTwo.f k a b c x y z who op = some true := by
  have up : ∀ r j, tags_Next.f 1 a b c who op = some r → tags_Next.f (1 + j) a b c who op = some r := by
    intro r j
    induction j with
    | zero => exact id
    | succ j ih => intro h; exact tags_Next.mono _ _ _ _ _ _ r (ih h)
  have up2 : ∀ r j, icehouseref03_Next.f 1 a b c who op = some r → icehouseref03_Next.f (1 + j) a b c who op = some r := by
    intro r j
    induction j with
    | zero => exact id
    | succ j ih => intro h; exact icehouseref03_Next.mono _ _ _ _ _ _ r (ih h)
  have up3 : ∀ r j, icehouseref03_Check.f 1 a b c = some r → icehouseref03_Check.f (1 + j) a b c = some r := by
    intro r j
    induction j with
    | zero => exact id
    | succ j ih => intro h; exact icehouseref03_Check.mono _ _ _ _ r (ih h)
  refine ⟨4, ?_⟩
  unfold icehouselaw03_TagsTwo.f
  rw [up _ 3 (next_f a b c who op), up2 _ 3 (rnext_f a b c who op), up3 _ 3 (rcheck_f a b c), compare_f 0, rcompare_f 0, check_f]
  unfold tags_None.f Fk.known.f
  simp only [Option.bind_some, if_true, beq_self_eq_true, Bool.and_self]
theorem tagsTwo (w : World) (cs0 : Array Value) (a0 : Int × Int × Int) (K0 : kTag.K w a0 cs0.toList) (wf0 : wTag a0) (cs1 : Array Value) (a1 : Int × Int × Int) (K1 : kTag.K w a1 cs1.toList) (wf1 : wTag a1)
    (who : Int) {p : Prop} (w2 : p) (op : Int) {p3 : Prop} (w3 : p3) :
    Calls Try.prog 3 #[.agg cs0, .agg cs1, .int .i64 who, .int .i64 op] w fun e w' => e = .returned (.bool true) ∧ Below w.heap.size w w' := by
  obtain ⟨k, h⟩ := law_f a0.1 a0.2.1 a0.2.2 a1.1 a1.2.1 a1.2.2 who op
  rw [show cs0 = #[.int .i64 a0.1, .int .i64 a0.2.1, .int .i64 a0.2.2] from by rw [← Array.toList_inj, tag_cells K0], show cs1 = #[.int .i64 a1.1, .int .i64 a1.2.1, .int .i64 a1.2.2] from by rw [← Array.toList_inj, tag_cells K1]]
  exact icehouselaw03_TagsTwo.calls k _ _ _ _ _ _ _ _ w h
end Go.Proofs.Ytbmbnkoggmeanaa.TwoP
