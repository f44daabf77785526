/- The law TagsMaxes returns true. Conditions: none. -/
import Derived.Test.YtbmbnkoggmeanaaMaxQMaxes
namespace Go.Proofs.Ytbmbnkoggmeanaa.CmpQMaxes
open Go.RowKit Go.Proofs.Ytbmbnkoggmeanaa.Lex Go.Proofs.Ytbmbnkoggmeanaa.QMaxes Go.Proofs.YtbmbnkoggmeanaaW.PrintWords Go.Proofs.YtbmbnkoggmeanaaW.PrintLast Go.Proofs.YtbmbnkoggmeanaaW.PrintMore
set_option linter.unusedVariables false
set_option linter.unusedSimpArgs false
theorem maxV_app {l m : List S23} (hl : l ≠ []) (hm : m ≠ []) : maxV (l ++ m) = maxV [maxV l, maxV m] := by
  have h1 := maxV_mem hl
  have h2 := maxV_mem hm
  refine (maxV_is ?_ ?_).symm
  · rcases List.mem_cons.1 (maxV_mem (l := [maxV l, maxV m]) (by simp)) with h | h
    · rw [h]; exact List.mem_append_left _ h1
    · rw [List.mem_singleton.1 h]; exact List.mem_append_right _ h2
  · intro y hy
    rcases List.mem_append.1 hy with hy | hy
    · exact cv_trans (maxV_ge (List.mem_cons_self ..)) (maxV_ge hy)
    · exact cv_trans (maxV_ge (List.mem_cons_of_mem _ (List.mem_cons_self ..))) (maxV_ge hy)
theorem law_j0 (l m : List S23) (b : Bool) (h : b = false → l ≠ [] ∧ m ≠ [] ∧ l.length ≤ 40 ∧ m.length ≤ 40) : Since (fun k => icehouselaw03_TagsMaxes.j0 k l m b) true := by
  cases b with
  | true => exact Since.none fun k => by simp [icehouselaw03_TagsMaxes.j0, Fk.known.f]
  | false =>
    obtain ⟨hl, hm, h1, h2⟩ := h rfl
    have ha := maxV_app hl hm
    obtain ⟨K1, e1⟩ := max_ev (l ++ m) (by rw [List.length_append]; omega)
    obtain ⟨K2, e2⟩ := max_ev l (by omega)
    obtain ⟨K3, e3⟩ := max_ev m (by omega)
    obtain ⟨K4, e4⟩ := max_ev [maxV l, maxV m] (by simp)
    obtain ⟨K5, e5⟩ := max_ev [maxV (l ++ m)] (by simp)
    refine ⟨K1 + K2 + K3 + K4 + K5 + 1, fun k hk => ?_⟩
    obtain ⟨k, rfl⟩ : ∃ j, k = j + 1 := ⟨k - 1, by omega⟩
    have e1 := e1 k (by omega)
    have e2 := e2 k (by omega)
    have e3 := e3 k (by omega)
    have e4 := e4 k (by omega)
    have e5 := e5 k (by omega)
    have b1 : (([] : List S23).length + l.length) < 5864062014805 := by simp; omega
    have b2 : l.length + m.length < 5864062014805 := by omega
    simp only [icehouselaw03_TagsMaxes.j0, Bool.false_eq_true, if_false, if_pos b1, List.nil_append, Option.bind_some, if_pos b2, e1, e2, e3]
    simp only [e4, Option.bind_some, ← ha]
    simp only [beq_self_eq_true, Bool.and_self, if_true, e5, Option.bind_some]
    simp [Fk.known.f, maxV, mx]
theorem law_ev (l m : List S23) : Since (fun k => icehouselaw03_TagsMaxes.f k l m) true := by
  by_cases h1 : (l.length : Int) > 40
  · exact (law_j0 l m true (by simp)).map fun k h => by simp only [icehouselaw03_TagsMaxes.f, if_pos h1]; exact h
  · by_cases h2 : (m.length : Int) > 40
    · exact (law_j0 l m true (by simp)).map fun k h => by simp only [icehouselaw03_TagsMaxes.f, if_neg h1, if_pos h2]; exact h
    · by_cases h3 : (l.length : Int) = 0
      · exact (law_j0 l m true (by simp)).map fun k h => by simp only [icehouselaw03_TagsMaxes.f, if_neg h1, if_neg h2, if_pos h3]; exact h
      · refine (law_j0 l m ((m.length : Int) == 0) (fun hb => ?_)).map fun k h => by simp only [icehouselaw03_TagsMaxes.f, if_neg h1, if_neg h2, if_neg h3]; exact h
        have hb' : ¬ ((m.length : Int) = 0) := by simpa using hb
        refine ⟨?_, ?_, by omega, by omega⟩
        · rintro rfl; exact h3 rfl
        · rintro rfl; exact hb' rfl
theorem tagsMaxes (w : World) (A : Option Addr) (c : Nat) (l : List S23) (C : Kd.C k23 w A l.length l) (hc : l.length ≤ c) {p : Prop} (wf : p) (A1 : Option Addr) (c1 : Nat) (l1 : List S23) (C1 : Kd.C k23 w A1 l1.length l1) (hc1 : l1.length ≤ c1) {p1 : Prop} (wf1 : p1) :
    Calls Try.prog 7 #[.slice A l.length c, .slice A1 l1.length c1] w fun e w' => e = .returned (.bool true) ∧ Below w.heap.size w w' := by
  obtain ⟨K, h⟩ := law_ev l l1
  exact icehouselaw03_TagsMaxes.calls K A c l A1 c1 l1 true w C hc C1 hc1 (h K (Nat.le_refl K))
end Go.Proofs.Ytbmbnkoggmeanaa.CmpQMaxes
