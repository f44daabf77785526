/- The law TagsMax returns true. Conditions: none. -/
import Derived.Test.YtbmbnkoggmeanaaMaxQMax
import Derived.Test.YtbmbnkoggmeanaaRCmpQMax
namespace Go.Proofs.Ytbmbnkoggmeanaa.CmpQMax
open Go.RowKit Go.Proofs.Ytbmbnkoggmeanaa.Lex Go.Proofs.Ytbmbnkoggmeanaa.QMax Go.Proofs.YtbmbnkoggmeanaaW.PrintWords Go.Proofs.YtbmbnkoggmeanaaW.PrintLast Go.Proofs.YtbmbnkoggmeanaaW.PrintMore
set_option linter.unusedVariables false
set_option linter.unusedSimpArgs false
/-- the first that is below none -/
def fs (l : List S23) : List S23 → S23
  | [] => z23
  | t :: r => if ∀ y ∈ l, cv t y ≥ 0 then t else fs l r
theorem fs_is (l : List S23) (s : List S23) (hs : ∀ x ∈ s, x ∈ l) : (∃ x ∈ s, ∀ y ∈ l, cv x y ≥ 0) → fs l s = maxV l := by
  induction s with
  | nil => rintro ⟨x, hx, _⟩; cases hx
  | cons t r ih =>
    rintro ⟨x, hx, h⟩
    unfold fs
    split
    · rename_i ht
      exact maxV_is (hs t (List.mem_cons_self ..)) ht
    · rename_i ht
      refine ih (fun y hy => hs y (List.mem_cons_of_mem _ hy)) ?_
      rcases List.mem_cons.1 hx with rfl | hx
      · exact absurd h ht
      · exact ⟨x, hx, h⟩
theorem fs_all (l : List S23) : fs l l = maxV l := by
  by_cases h : l = []
  · subst h; rfl
  · exact fs_is l l (fun _ h => h) ⟨maxV l, maxV_mem h, fun y hy => maxV_ge hy⟩
theorem rmax_l1 (l : List S23) (hl : l.length < 9223372036854775807) (i : Nat) (hi : i < l.length) (q : Int × Int × Int) (hq : Since (fun k => icehouseref03_Max.l0 k l ((i + 1 : Nat) : Int)) q) :
    ∀ (n j : Nat) (b : Bool), l.length - j = n → j ≤ l.length → Since (fun k => icehouseref03_Max.l1 k l (i : Int) b (j : Int)) (if b = true ∧ ∀ y ∈ l.drop j, cv l[i] y ≥ 0 then (l[i].f0, l[i].f1, l[i].f2) else q) := by
  have hi0 : (0 : Int) ≤ (i : Int) := by omega
  have hi1 : (i : Int) < (l.length : Int) := by omega
  intro n
  induction n with
  | zero =>
    intro j b hn hj
    rw [List.drop_eq_nil_of_le (show l.length ≤ j by omega)]
    have hf : ¬ ((j : Int) < (l.length : Int)) := by omega
    cases b with
    | true => exact Since.none fun k => by simp only [icehouseref03_Max.l1, if_neg hf, if_pos hi0, if_pos hi1, rdT l i hi]; simp
    | false => exact Since.one hq fun k h => by simp only [icehouseref03_Max.l1, if_neg hf, w_succ i (by omega)]; simpa using h
  | succ n ih =>
    intro j b hn hj
    have hj1 : j < l.length := by omega
    have hf : (j : Int) < (l.length : Int) := by omega
    have hj0 : (0 : Int) ≤ (j : Int) := by omega
    cases b with
    | true =>
      refine Since.two (rcompare_ev l[i].f0 l[i].f1 l[i].f2 l[j].f0 l[j].f1 l[j].f2) (ih (j + 1) (decide (cv l[i] l[j] ≥ 0)) (by omega) (by omega)) fun k hc hr => ?_
      simp only [icehouseref03_Max.l1, if_pos hf, if_true, if_pos hi0, if_pos hi1, if_pos hj0, rdT l i hi, rdT l j hj1, w_succ j (by omega)]
      rw [hc]
      simp only [Option.bind_some]
      refine Eq.trans hr ?_
      rw [List.drop_eq_getElem_cons hj1]
      simp only [List.forall_mem_cons, decide_eq_true_eq, true_and]
    | false =>
      refine Since.one (ih (j + 1) false (by omega) (by omega)) fun k hr => ?_
      simp only [icehouseref03_Max.l1, if_pos hf, w_succ j (by omega)]
      simpa using hr
theorem rmax_l0 (l : List S23) (hl : l.length < 9223372036854775807) : ∀ (n i : Nat), l.length - i = n → i ≤ l.length → Since (fun k => icehouseref03_Max.l0 k l (i : Int)) ((fs l (l.drop i)).f0, (fs l (l.drop i)).f1, (fs l (l.drop i)).f2) := by
  intro n
  induction n with
  | zero =>
    intro i hn hi
    rw [List.drop_eq_nil_of_le (show l.length ≤ i by omega)]
    have hf : ¬ ((i : Int) < (l.length : Int)) := by omega
    exact Since.none fun k => by simp only [icehouseref03_Max.l0, if_neg hf, fs, z23]
  | succ n ih =>
    intro i hn hi
    have hi1 : i < l.length := by omega
    have hf : (i : Int) < (l.length : Int) := by omega
    rw [List.drop_eq_getElem_cons hi1]
    refine Since.one (rmax_l1 l hl i hi1 _ (ih (i + 1) (by omega) (by omega)) _ 0 true rfl (Nat.zero_le _)) fun k h => ?_
    simp only [icehouseref03_Max.l0, if_pos hf]
    refine Eq.trans h ?_
    rw [fs]
    simp only [List.drop_zero, true_and]
    split <;> rfl
theorem rmax_ev (l : List S23) (hl : l.length < 9223372036854775807) : Since (fun k => icehouseref03_Max.f k l) ((maxV l).f0, (maxV l).f1, (maxV l).f2) := by
  have h := rmax_l0 l hl _ 0 rfl (Nat.zero_le _)
  rw [List.drop_zero, fs_all] at h
  exact h
theorem law_l0 (l : List S23) (hl : l.length < 9223372036854775807) : ∀ (n i : Nat), l.length - i = n → i ≤ l.length →
    Since (fun k => icehouselaw03_TagsMax.l0 k l (i : Int) (maxV l).f0 (maxV l).f1 (maxV l).f2) true := by
  intro n
  induction n with
  | zero =>
    intro i hn hi
    have hf : ¬ ((i : Int) < (l.length : Int)) := by omega
    exact Since.one (rmax_ev l hl) fun k h => by simp only [icehouselaw03_TagsMax.l0, if_neg hf, h, Option.bind_some]; simp [Fk.known.f]
  | succ n ih =>
    intro i hn hi
    have hi1 : i < l.length := by omega
    have hf : (i : Int) < (l.length : Int) := by omega
    have h0 : (0 : Int) ≤ (i : Int) := by omega
    refine Since.two (compare_ev l[i].f0 l[i].f1 l[i].f2 (maxV l).f0 (maxV l).f1 (maxV l).f2) (ih (i + 1) (by omega) (by omega)) fun k hc hr => ?_
    have hg : ¬ (cmpV l[i].f0 l[i].f1 l[i].f2 (maxV l).f0 (maxV l).f1 (maxV l).f2 > 0) := by
      have a := maxV_ge (l := l) (List.getElem_mem hi1)
      have b := cv_neg (maxV l) l[i]
      have c : cv l[i] (maxV l) = cmpV l[i].f0 l[i].f1 l[i].f2 (maxV l).f0 (maxV l).f1 (maxV l).f2 := rfl
      omega
    simp only [icehouselaw03_TagsMax.l0, if_pos hf, if_pos h0, rdT l i hi1, hc, Option.bind_some, if_neg hg, w_succ i (by omega)]
    exact hr
theorem law_ev (l : List S23) : Since (fun k => icehouselaw03_TagsMax.f k l) true := by
  by_cases h : (l.length : Int) > 60
  · exact ⟨0, fun k _ => by simp only [icehouselaw03_TagsMax.f, if_pos h]; rfl⟩
  · refine Since.and (max_ev l (by omega)) (law_l0 l (by omega) _ 0 rfl (Nat.zero_le _)) fun k h1 h2 => ?_
    simp only [icehouselaw03_TagsMax.f, if_neg h, h1, Option.bind_some]
    exact h2
theorem tagsMax (w : World) (A : Option Addr) (c : Nat) (l : List S23) (C : Kd.C k23 w A l.length l) (hc : l.length ≤ c) {p : Prop} (wf : p) :
    Calls Try.prog 6 #[.slice A l.length c] w fun e w' => e = .returned (.bool true) ∧ Below w.heap.size w w' := by
  obtain ⟨K, h⟩ := law_ev l
  exact icehouselaw03_TagsMax.calls K A c l true w C hc (h K (Nat.le_refl K))
end Go.Proofs.Ytbmbnkoggmeanaa.CmpQMax
