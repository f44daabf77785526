/- What the reference's functions of layer 10 come to (over the print QA). -/
import Derived.Test.YteocngcojijnkaaQL
import Derived.Test.YteocngcojijnkaaQAx
namespace Go.Proofs.Yteocngcojijnkaa.QlQA
open Go.RowKit Go.Proofs.Yteocngcojijnkaa.QA Go.Proofs.Yteocngcojijnkaa.Lex Go.Proofs.Yteocngcojijnkaa.Cm Go.Proofs.Yteocngcojijnkaa.Ql
open Go.Proofs.YteocngcojijnkaaW.PrintWords
set_option linter.unusedVariables false
theorem has_l0 (l : List Int) (x : Int) (hl : l.length ≤ 9223372036854775807) : ∀ (n i : Nat), l.length - i = n → i ≤ l.length →
    Since (fun k => icehouseref09_Has.l0 k l x (i : Int)) (decide (x ∈ l.drop i)) := by
  intro n
  induction n with
  | zero =>
    intro i hn hi
    have hf : ¬ ((i : Int) < (l.length : Int)) := by omega
    refine Since.none fun k => ?_
    simp only [icehouseref09_Has.l0, if_neg hf]
    rw [List.drop_eq_nil_of_le (by omega)]; simp
  | succ n ih =>
    intro i hn hi
    have h1 : i < l.length := by omega
    have f1 : (i : Int) < (l.length : Int) := by omega
    have f0 : (0 : Int) ≤ (i : Int) := by omega
    have r1 : rd l (i : Int) = l[i] := by simp [rd, h1]
    have d := List.drop_eq_getElem_cons h1
    by_cases he : l[i] = x
    · refine Since.none fun k => ?_
      simp only [icehouseref09_Has.l0, if_pos f1, if_pos f0, r1, if_pos he]
      rw [d]; simp [he]
    · refine Since.one (ih (i + 1) (by omega) (by omega)) fun k h => ?_
      simp only [icehouseref09_Has.l0, if_pos f1, if_pos f0, r1, if_neg he, w_succ i (by omega)]
      rw [h, d]
      congr 1
      exact decide_eq_decide.2 (by rw [List.mem_cons]; constructor; exact .inr; rintro (h | h); exact absurd h.symm he; exact h)
theorem has_ev (l : List Int) (x : Int) (hl : l.length ≤ 9223372036854775807) : Since (fun k => icehouseref09_Has.f k l x) (decide (x ∈ l)) := by
  have := has_l0 l x hl _ 0 rfl (Nat.zero_le _)
  rw [List.drop_zero] at this
  exact this
theorem since_three {α α' α'' β : Type} {f : Nat → Option α} {r : α} {g : Nat → Option α'} {r' : α'} {g' : Nat → Option α''} {r'' : α''} {F : Nat → Option β} {q : β} (h : Since f r) (h' : Since g r') (h'' : Since g' r'') (hF : ∀ k, f k = some r → g k = some r' → g' k = some r'' → F (k + 1) = some q) : Since F q := by
  obtain ⟨K, h⟩ := h
  obtain ⟨K', h'⟩ := h'
  obtain ⟨K'', h''⟩ := h''
  refine ⟨K + K' + K'' + 1, fun k hk => ?_⟩
  obtain ⟨k, rfl⟩ : ∃ j, k = j + 1 := ⟨k - 1, by omega⟩
  exact hF k (h k (by omega)) (h' k (by omega)) (h'' k (by omega))
theorem rcom_l0 (l b : List Int) (hl : l.length < 17592186044416) (hb : b.length < 17592186044416) : ∀ (n i : Nat) (out : List Int), l.length - i = n → i ≤ l.length → out.length ≤ i →
    Since (fun k => icehouseref10_Common.l0 k l b out (i : Int)) (cm b out (l.drop i)) := by
  intro n
  induction n with
  | zero =>
    intro i out hn hi ho
    have hf : ¬ ((i : Int) < (l.length : Int)) := by omega
    refine Since.none fun k => ?_
    simp only [icehouseref10_Common.l0, if_neg hf]
    rw [List.drop_eq_nil_of_le (by omega)]; rfl
  | succ n ih =>
    intro i out hn hi ho
    have h1 : i < l.length := by omega
    have f1 : (i : Int) < (l.length : Int) := by omega
    have f0 : (0 : Int) ≤ (i : Int) := by omega
    have r1 : rd l (i : Int) = l[i] := by simp [rd, h1]
    have d := List.drop_eq_getElem_cons h1
    have hc := has_ev b l[i] (by omega)
    have hc2 := has_ev out l[i] (by omega)
    have hr1 := ih (i + 1) out (by omega) (by omega) (by omega)
    have hr2 := ih (i + 1) (out ++ [l[i]]) (by omega) (by omega) (by simp; omega)
    rw [d, cm]
    by_cases hb : l[i] ∈ b
    · rw [if_pos hb]
      by_cases he : l[i] ∈ out
      · rw [if_pos he]
        refine since_three hc hc2 hr1 fun k h1 h2 h3 => ?_
        simp only [icehouseref10_Common.l0, if_pos f1, if_pos f0, r1]
        rw [h1, Option.bind_some, if_pos (decide_eq_true hb), h2, Option.bind_some, if_pos (decide_eq_true he), w_succ i (by omega)]
        exact h3
      · rw [if_neg he]
        refine since_three hc hc2 hr2 fun k h1 h2 h3 => ?_
        simp only [icehouseref10_Common.l0, if_pos f1, if_pos f0, r1]
        rw [h1, Option.bind_some, if_pos (decide_eq_true hb), h2, Option.bind_some, if_neg (by simp [he]), if_pos (by omega), w_succ i (by omega)]
        exact h3
    · rw [if_neg hb]
      refine Since.two hc hr1 fun k h1 h3 => ?_
      simp only [icehouseref10_Common.l0, if_pos f1, if_pos f0, r1]
      rw [h1, Option.bind_some, if_neg (by simp [hb]), w_succ i (by omega)]
      exact h3
theorem rcom_ev (l b : List Int) (hl : l.length < 17592186044416) (hb : b.length < 17592186044416) : Since (fun k => icehouseref10_Common.f k l b) (com l b) := rcom_l0 l b hl hb _ 0 [] rfl (Nat.zero_le _) (Nat.le_refl _)
end Go.Proofs.Yteocngcojijnkaa.QlQA
