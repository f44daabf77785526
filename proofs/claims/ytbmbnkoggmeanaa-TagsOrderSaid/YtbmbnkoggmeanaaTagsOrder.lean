/- The law TagsOrder returns true. Conditions: none. -/
import Derived.Test.YtbmbnkoggmeanaaCmpQOrder
import Derived.Test.YtbmbnkoggmeanaaNextQOrder
import Derived.Test.YtbmbnkoggmeanaaShapes
namespace Go.Proofs.Ytbmbnkoggmeanaa.OrderP
open Go.RowKit Go.Proofs.Ytbmbnkoggmeanaa.Lex Go.Proofs.Ytbmbnkoggmeanaa.Opn Go.Proofs.Ytbmbnkoggmeanaa.CmpQOrder Go.Proofs.Ytbmbnkoggmeanaa.QOrder Go.Proofs.YtbmbnkoggmeanaaW.PrintWords Go.Proofs.YtbmbnkoggmeanaaW.PrintLast Go.Proofs.YtbmbnkoggmeanaaW.PrintMore
set_option linter.unusedVariables false
set_option linter.unusedSimpArgs false
theorem next_up (k : Nat) (a b c who op : Int) : tags_Next.f (k + 1) a b c who op = some (nextV a b c who op) := by
  induction k with
  | zero => exact next_f a b c who op
  | succ k ih => exact tags_Next.mono _ _ _ _ _ _ _ ih
theorem nextV_ok {a b c who op : Int} (h : (nextV a b c who op).2.2.2 = 0) : okTag a b c ∧ 0 ≤ who ∧ who ≤ 1048575 ∧ 0 ≤ op ∧ op ≤ 1048575 ∧ a ≠ 1099511627775 ∧ nextV a b c who op = (a + 1, who, op, 0) := by
  unfold nextV at h ⊢
  by_cases h1 : okTag a b c
  · rw [if_pos h1] at h ⊢
    by_cases h2 : 0 ≤ who ∧ who ≤ 1048575 ∧ 0 ≤ op ∧ op ≤ 1048575
    · rw [if_pos h2] at h ⊢
      by_cases h3 : a = 1099511627775
      · rw [if_pos h3] at h; simp at h
      · rw [if_neg h3]; exact ⟨h1, h2.1, h2.2.1, h2.2.2.1, h2.2.2.2, h3, rfl⟩
    · rw [if_neg h2] at h; simp at h
  · rw [if_neg h1] at h; simp at h
theorem nextV_bad {a b c who op : Int} (h : (nextV a b c who op).2.2.2 ≠ 0) : (nextV a b c who op).1 = 0 ∧ (nextV a b c who op).2.1 = 0 ∧ (nextV a b c who op).2.2.1 = 0 := by
  unfold nextV at h ⊢
  split
  · split
    · split
      · simp
      · rename_i h1 h2 h3; rw [if_pos h1, if_pos h2, if_neg h3] at h; simp at h
    · simp
  · simp
theorem law_j0 (a b c x y z who op : Int) : icehouselaw03_TagsOrder.j0 5 who op false a b c x y z = some true := by
  rw [icehouselaw03_TagsOrder.j0, if_neg Bool.false_ne_true, next_up 3, Option.bind_some]
  by_cases h : (nextV a b c who op).2.2.2 = 0
  · rw [if_pos h]
    obtain ⟨hok, h1, h2, h3, h4, h5, e⟩ := nextV_ok h
    have ok2 : okTag (a + 1) who op := by unfold okTag at hok ⊢; omega
    rw [e, check_f, Option.bind_some, show checkV (a + 1) who op = 0 from if_pos ok2, if_pos rfl, compare_f 0, Option.bind_some, if_pos (cmpV_gt.2 (by omega))]
    by_cases hx : x > a
    · rw [if_pos hx]; rfl
    · rw [if_neg hx, compare_f 0, Option.bind_some, if_pos (cmpV_gt.2 (by omega))]; rfl
  · obtain ⟨e1, e2, e3⟩ := nextV_bad h
    rw [if_neg h, e1, e2, e3, if_pos (by decide)]
    rfl
theorem cmpV_bd (a b c x y z : Int) : wrap64 (- cmpV x y z a b c) = - cmpV x y z a b c := by
  have : cmpV x y z a b c ≤ 1 ∧ -1 ≤ cmpV x y z a b c := by
    unfold cmpV cmp1
    repeat' split
    all_goals omega
  unfold wrap64; omega
theorem law_f (a b c x y z p q r who op : Int) : icehouselaw03_TagsOrder.f 5 a b c x y z p q r who op = some true := by
  have hq : ((cmpV a b c x y z == 0) != (a == x && (b == y && (c == z)))) = false := by
    rw [bne_eq_false_iff_eq, Bool.eq_iff_iff]
    simp only [beq_iff_eq, Bool.and_eq_true]
    exact cmpV_zero
  have hn : cmpV a b c x y z = wrap64 (- cmpV x y z a b c) := by rw [cmpV_bd]; exact cmpV_neg _ _ _ _ _ _
  unfold icehouselaw03_TagsOrder.f
  simp only [compare_f 1, Option.bind_some]
  rw [if_pos hn, hq, law_j0]
  by_cases h1 : cmpV a b c x y z ≥ 0
  · rw [if_pos h1]
    by_cases h2 : cmpV x y z p q r ≥ 0
    · have h3 : ¬ (cmpV a b c p q r < 0) := by
        have a1 := cmpV_ge.1 h1; have a2 := cmpV_ge.1 h2
        have a3 : cmpV a b c p q r ≥ 0 := cmpV_ge.2 (by omega)
        omega
      rw [if_pos h2, if_neg h3]
    · rw [if_neg h2]
  · rw [if_neg h1]
theorem tagsOrder (w : World) (cs0 : Array Value) (a0 : Int × Int × Int) (K0 : kTag.K w a0 cs0.toList) (wf0 : wTag a0) (cs1 : Array Value) (a1 : Int × Int × Int) (K1 : kTag.K w a1 cs1.toList) (wf1 : wTag a1) (cs2 : Array Value) (a2 : Int × Int × Int) (K2 : kTag.K w a2 cs2.toList) (wf2 : wTag a2)
    (who : Int) {p : Prop} (w2 : p) (op : Int) {p3 : Prop} (w3 : p3) :
    Calls Try.prog 4 #[.agg cs0, .agg cs1, .agg cs2, .int .i64 who, .int .i64 op] w fun e w' => e = .returned (.bool true) ∧ Below w.heap.size w w' := by
  have h := law_f a0.1 a0.2.1 a0.2.2 a1.1 a1.2.1 a1.2.2 a2.1 a2.2.1 a2.2.2 who op
  rw [show cs0 = #[.int .i64 a0.1, .int .i64 a0.2.1, .int .i64 a0.2.2] from by rw [← Array.toList_inj, tag_cells K0], show cs1 = #[.int .i64 a1.1, .int .i64 a1.2.1, .int .i64 a1.2.2] from by rw [← Array.toList_inj, tag_cells K1], show cs2 = #[.int .i64 a2.1, .int .i64 a2.2.1, .int .i64 a2.2.2] from by rw [← Array.toList_inj, tag_cells K2]]
  exact icehouselaw03_TagsOrder.calls 5 _ _ _ _ _ _ _ _ _ _ _ w h
end Go.Proofs.Ytbmbnkoggmeanaa.OrderP
