/- tags.Max and the reference's, plain. -/
import Derived.Test.YtbmbnkoggmeanaaCmpQMaxes
namespace Go.Proofs.Ytbmbnkoggmeanaa.CmpQMaxes
open Go.RowKit Go.Proofs.Ytbmbnkoggmeanaa.Lex Go.Proofs.Ytbmbnkoggmeanaa.QMaxes Go.Proofs.YtbmbnkoggmeanaaW.PrintWords Go.Proofs.YtbmbnkoggmeanaaW.PrintLast Go.Proofs.YtbmbnkoggmeanaaW.PrintMore
set_option linter.unusedVariables false
set_option linter.unusedSimpArgs false
def cv (x y : S23) : Int := cmpV x.f0 x.f1 x.f2 y.f0 y.f1 y.f2
theorem cv_eq {x y : S23} (h : cv x y = 0) : x = y := by
  cases x; cases y
  have := cmpV_zero.1 h
  simp only at this
  simp [this]
theorem cv_self (x : S23) : cv x x = 0 := cmpV_zero.2 ⟨rfl, rfl, rfl⟩
theorem cv_neg (x y : S23) : cv x y = - cv y x := cmpV_neg _ _ _ _ _ _
theorem cv_trans {x y z : S23} (h : cv x y ≥ 0) (h' : cv y z ≥ 0) : cv x z ≥ 0 := by
  have a := cmpV_ge.1 h; have b := cmpV_ge.1 h'; refine cmpV_ge.2 ?_; omega
/-- the greatest, one behind the other -/
def mx : List S23 → S23 → S23
  | [], o => o
  | t :: r, o => mx r (if cv t o > 0 then t else o)
theorem mx_ge (l : List S23) : ∀ o, cv (mx l o) o ≥ 0 ∧ ∀ x ∈ l, cv (mx l o) x ≥ 0 := by
  induction l with
  | nil => intro o; exact ⟨by rw [mx, cv_self]; decide, fun x h => by cases h⟩
  | cons t r ih =>
    intro o
    rw [mx]
    obtain ⟨h1, h2⟩ := ih (if cv t o > 0 then t else o)
    split at h1
    · rename_i hg
      rw [if_pos hg] at h2 ⊢
      refine ⟨cv_trans h1 (by omega), fun x hx => ?_⟩
      rcases List.mem_cons.1 hx with rfl | hx
      · exact h1
      · exact h2 x hx
    · rename_i hg
      rw [if_neg hg] at h2 ⊢
      refine ⟨h1, fun x hx => ?_⟩
      rcases List.mem_cons.1 hx with rfl | hx
      · exact cv_trans h1 (by have := cv_neg o x; omega)
      · exact h2 x hx
theorem mx_mem (l : List S23) : ∀ o, mx l o = o ∨ mx l o ∈ l := by
  induction l with
  | nil => intro o; exact .inl rfl
  | cons t r ih =>
    intro o
    rw [mx]
    rcases ih (if cv t o > 0 then t else o) with h | h
    · rw [h]; split
      · exact .inr (List.mem_cons_self ..)
      · exact .inl rfl
    · exact .inr (List.mem_cons_of_mem _ h)
def maxV : List S23 → S23
  | [] => z23
  | t :: r => mx r t
theorem maxV_ge {l : List S23} {x : S23} (hx : x ∈ l) : cv (maxV l) x ≥ 0 := by
  cases l with
  | nil => cases hx
  | cons t r =>
    rcases List.mem_cons.1 hx with rfl | hx
    · exact (mx_ge r x).1
    · exact (mx_ge r t).2 x hx
theorem maxV_mem {l : List S23} (h : l ≠ []) : maxV l ∈ l := by
  cases l with
  | nil => exact absurd rfl h
  | cons t r =>
    rcases mx_mem r t with h | h
    · show mx r t ∈ _; rw [h]; exact List.mem_cons_self ..
    · exact List.mem_cons_of_mem _ h
/-- what is in it and below none of it is the greatest -/
theorem maxV_is {l : List S23} {x : S23} (hx : x ∈ l) (h : ∀ y ∈ l, cv x y ≥ 0) : x = maxV l := by
  have h1 := h _ (maxV_mem (List.ne_nil_of_mem hx))
  have h2 := maxV_ge hx
  have h3 := cv_neg x (maxV l)
  exact cv_eq (by omega)
theorem rdT (l : List S23) (i : Nat) (h : i < l.length) : rd_T23 l (i : Int) = l[i] := by simp [rd_T23, h]
theorem w_succ (i : Nat) (h : i < 9223372036854775807) : wrap64 ((i : Int) + 1) = ((i + 1 : Nat) : Int) := by unfold wrap64; omega
/-- the loop of Max -/
theorem max_l0 (l : List S23) (hl : l.length < 9223372036854775807) : ∀ (n i : Nat) (o : S23), l.length - i = n → 1 ≤ i → i ≤ l.length →
    Since (fun k => tags_Max.l0 k l (l.length : Int) (i : Int) o.f0 o.f1 o.f2) ((mx (l.drop i) o).f0, (mx (l.drop i) o).f1, (mx (l.drop i) o).f2) := by
  intro n
  induction n with
  | zero =>
    intro i o hn h1 h2
    have : l.drop i = [] := List.drop_eq_nil_of_le (by omega)
    rw [this]
    refine Since.none fun k => ?_
    have hf : ¬ ((i : Int) < (l.length : Int)) := by omega
    simp only [tags_Max.l0, if_neg hf, mx]
  | succ n ih =>
    intro i o hn h1 h2
    have hi : i < l.length := by omega
    rw [List.drop_eq_getElem_cons hi, mx]
    refine Since.two (compare_ev l[i].f0 l[i].f1 l[i].f2 o.f0 o.f1 o.f2) (ih (i + 1) (if cv l[i] o > 0 then l[i] else o) (by omega) (by omega) (by omega)) fun k hc hr => ?_
    have hf : (i : Int) < (l.length : Int) := by omega
    have h0 : (0 : Int) ≤ (i : Int) := by omega
    have hz : ¬ ((i : Int) = 0) := by omega
    simp only [tags_Max.l0, if_pos hf, if_pos h0, if_neg hz, rdT l i hi, w_succ i (by omega)]
    rw [hc]
    simp only [Option.bind_some]
    by_cases hg : cv l[i] o > 0
    · rw [if_pos hg] at hr ⊢
      rw [if_pos (show cmpV l[i].f0 l[i].f1 l[i].f2 o.f0 o.f1 o.f2 > 0 from hg)]
      exact hr
    · rw [if_neg hg] at hr ⊢
      rw [if_neg (show ¬ cmpV l[i].f0 l[i].f1 l[i].f2 o.f0 o.f1 o.f2 > 0 from hg)]
      exact hr
theorem max_ev (l : List S23) (hl : l.length < 9223372036854775807) : Since (fun k => tags_Max.f k l) ((maxV l).f0, (maxV l).f1, (maxV l).f2) := by
  cases l with
  | nil => exact Since.none fun k => by simp [tags_Max.f, tags_Max.l0, maxV, z23]
  | cons t r =>
    refine Since.one (max_l0 (t :: r) hl _ 1 t rfl (Nat.le_refl 1) (by simp)) fun k h => ?_
    have hf : (0 : Int) < (((t :: r).length : Nat) : Int) := by simp only [List.length_cons]; omega
    have hw : wrap64 (0 + 1) = ((1 : Nat) : Int) := by decide +kernel
    simp only [tags_Max.f, tags_Max.l0, if_pos hf, if_pos (Int.le_refl 0), if_true, hw]
    exact h
end Go.Proofs.Ytbmbnkoggmeanaa.CmpQMaxes
