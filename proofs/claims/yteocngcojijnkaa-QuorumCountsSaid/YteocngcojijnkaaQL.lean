/- Lists without repeats, what is in both of two, and majorities: plain. And what quorum's functions come to. -/
import Derived.Test.YteocngcojijnkaaQEx
namespace Go.Proofs.Yteocngcojijnkaa.Ql
open Go.RowKit Go.Proofs.Yteocngcojijnkaa.QO Go.Proofs.Yteocngcojijnkaa.QE Go.Proofs.Yteocngcojijnkaa.Lex Go.Proofs.Yteocngcojijnkaa.Cm
open Go.Proofs.YteocngcojijnkaaW.PrintWords
set_option linter.unusedVariables false
def dd : List Int → List Int → List Int
  | out, [] => out
  | out, x :: t => if x ∈ out then dd out t else dd (out ++ [x]) t
def cm (b : List Int) : List Int → List Int → List Int
  | out, [] => out
  | out, x :: t => if x ∈ b then (if x ∈ out then cm b out t else cm b (out ++ [x]) t) else cm b out t
def once (l : List Int) : List Int := dd [] l
def com (a b : List Int) : List Int := cm b [] a
theorem mem_dd {x : Int} : ∀ (l out : List Int), x ∈ dd out l ↔ x ∈ out ∨ x ∈ l
  | [], out => by simp [dd]
  | y :: t, out => by
    unfold dd
    split
    · rename_i h
      rw [mem_dd t out]
      constructor
      · rintro (h | h)
        · exact .inl h
        · exact .inr (List.mem_cons_of_mem _ h)
      · rintro (h1 | h1)
        · exact .inl h1
        · rcases List.mem_cons.1 h1 with rfl | h1
          · exact .inl h
          · exact .inr h1
    · rw [mem_dd t, List.mem_append, List.mem_singleton, List.mem_cons, or_assoc]
theorem mem_once {x : Int} {l : List Int} : x ∈ once l ↔ x ∈ l := by rw [once, mem_dd]; simp
theorem dd_len : ∀ (l out : List Int), (dd out l).length ≤ out.length + l.length ∧ out.length ≤ (dd out l).length
  | [], out => by simp [dd]
  | y :: t, out => by
    unfold dd
    split
    · have := dd_len t out; simp only [List.length_cons]; omega
    · have := dd_len t (out ++ [y]); simp only [List.length_cons, List.length_append, List.length_nil] at *; omega
theorem once_len (l : List Int) : (once l).length ≤ l.length := by have := (dd_len l []).1; simpa [once] using this
theorem once_pos {l : List Int} (h : 0 < l.length) : 0 < (once l).length := by
  obtain ⟨x, hx⟩ := List.exists_mem_of_length_pos h
  exact List.length_pos_of_mem (mem_once.2 hx)
theorem once_pos_iff {l : List Int} : 0 < (once l).length ↔ 0 < l.length := ⟨fun h => Nat.lt_of_lt_of_le h (once_len l), once_pos⟩
theorem dd_nodup : ∀ (l out : List Int), out.Nodup → (dd out l).Nodup
  | [], out, h => h
  | y :: t, out, h => by
    unfold dd
    split
    · exact dd_nodup t out h
    · rename_i hn
      refine dd_nodup t _ ?_
      rw [List.nodup_append]
      refine ⟨h, by simp, ?_⟩
      intro a ha b hb
      rw [List.mem_singleton.1 hb]
      rintro rfl
      exact hn ha
theorem once_nodup (l : List Int) : (once l).Nodup := dd_nodup l [] List.nodup_nil
theorem mem_keep {b m : List Int} {x : Int} : x ∈ keep b m ↔ x ∈ m ∧ x ∈ b := by unfold keep; rw [List.mem_filter, decide_eq_true_iff]
theorem keep_dd (b : List Int) : ∀ (l out : List Int), keep b (dd out l) = cm b (keep b out) l
  | [], out => rfl
  | x :: t, out => by
    unfold dd cm
    by_cases hb : x ∈ b
    · rw [if_pos hb]
      by_cases ho : x ∈ out
      · rw [if_pos ho, if_pos (mem_keep.2 ⟨ho, hb⟩)]; exact keep_dd b t out
      · rw [if_neg ho, if_neg (fun h => ho (mem_keep.1 h).1), keep_dd b t, keep_app]
        congr 1
        simp [keep, hb]
    · rw [if_neg hb]
      by_cases ho : x ∈ out
      · rw [if_pos ho]; exact keep_dd b t out
      · rw [if_neg ho, keep_dd b t, keep_app]
        congr 1
        simp [keep, hb]
theorem keep_once (a b : List Int) : keep b (once a) = com a b := keep_dd b a []
theorem mem_com {a b : List Int} {x : Int} : x ∈ com a b ↔ x ∈ a ∧ x ∈ b := by rw [← keep_once, mem_keep, mem_once]
theorem com_self (l : List Int) : com l l = once l := by
  rw [← keep_once]
  exact keep_all fun x hx => mem_once.1 hx
theorem com_more {l m : List Int} (h : ∀ x ∈ l, x ∈ m) : com l m = once l := by
  rw [← keep_once]
  exact keep_all fun x hx => h x (mem_once.1 hx)
theorem com_len (a b : List Int) : (com a b).length ≤ (once a).length := by rw [← keep_once]; exact List.length_filter_le _ _
theorem com_nil (l : List Int) : com l [] = [] := by
  apply List.eq_nil_iff_forall_not_mem.2
  intro x hx
  simpa using (mem_com.1 hx).2
/-- two that are more than half have one in common -/
theorem keep_meet (a b : List Int) : ∀ (d : List Int), d.length < (keep a d).length + (keep b d).length → ∃ x ∈ d, x ∈ a ∧ x ∈ b
  | [], h => by simp [keep] at h
  | x :: t, h => by
    by_cases hx : x ∈ a ∧ x ∈ b
    · exact ⟨x, List.mem_cons_self, hx⟩
    · have : t.length < (keep a t).length + (keep b t).length := by
        unfold keep at *
        rw [List.filter_cons, List.filter_cons] at h
        by_cases h1 : x ∈ a
        · have h2 : x ∉ b := fun h2 => hx ⟨h1, h2⟩
          simp only [h1, h2, decide_true, decide_false, if_true, List.length_cons] at h
          simp at h
          omega
        · by_cases h2 : x ∈ b
          · simp [h1, h2] at h
            omega
          · simp [h1, h2] at h
            omega
      obtain ⟨y, hy, h2⟩ := keep_meet a b t this
      exact ⟨y, List.mem_cons_of_mem _ hy, h2⟩
def need (n : Int) : Int := if n < 1 then 0 else n / 2 + 1
def enough (l g : List Int) : Bool := decide (0 < (once l).length) && decide ((once l).length < 2 * (com l g).length)
/-! #### the printed functions -/
theorem need_eq (n : Int) (h : n ≤ 9223372036854775807) : quorum_Need.f n = some (need n) := by
  unfold quorum_Need.f need
  by_cases h1 : n < 1
  · rw [if_pos h1, if_pos h1]
  · rw [if_neg h1, if_neg h1, Int.tdiv_eq_ediv_of_nonneg (by omega)]
    congr 1
    unfold wrap64; omega
theorem once_l0 (l : List Int) (hl : l.length < 17592186044416) : ∀ (n i : Nat) (out : List Int), l.length - i = n → i ≤ l.length → out.length ≤ i →
    Since (fun k => quorum_once.l0 k out l (l.length : Int) (i : Int)) (dd out (l.drop i)) := by
  intro n
  induction n with
  | zero =>
    intro i out hn hi ho
    have hf : ¬ ((i : Int) < (l.length : Int)) := by omega
    refine Since.none fun k => ?_
    simp only [quorum_once.l0, if_neg hf]
    rw [List.drop_eq_nil_of_le (by omega)]; rfl
  | succ n ih =>
    intro i out hn hi ho
    have h1 : i < l.length := by omega
    have f1 : (i : Int) < (l.length : Int) := by omega
    have f0 : (0 : Int) ≤ (i : Int) := by omega
    have r1 : rd l (i : Int) = l[i] := by simp [rd, h1]
    have d := List.drop_eq_getElem_cons h1
    have hc := contains_ev out l[i] (by omega)
    by_cases he : l[i] ∈ out
    · have hr := ih (i + 1) out (by omega) (by omega) (by omega)
      refine Since.two hc hr fun k h1 h2 => ?_
      simp only [quorum_once.l0, if_pos f1, if_pos f0, r1]
      rw [h1, Option.bind_some, if_pos (decide_eq_true he), w_succ i (by omega), d, dd, if_pos he]
      exact h2
    · have hr := ih (i + 1) (out ++ [l[i]]) (by omega) (by omega) (by simp; omega)
      refine Since.two hc hr fun k h1 h2 => ?_
      simp only [quorum_once.l0, if_pos f1, if_pos f0, r1]
      rw [h1, Option.bind_some, if_neg (by simp [he]), if_pos (by omega), w_succ i (by omega), d, dd, if_neg he]
      exact h2
theorem once_ev (l : List Int) (hl : l.length < 17592186044416) : Since (fun k => quorum_once.f k l) (once l) := once_l0 l hl _ 0 [] rfl (Nat.zero_le _) (Nat.le_refl _)
theorem com_ev (a b : List Int) (ha : a.length < 17592186044416) : Since (fun k => common.f k a b) (com a b) := by
  refine (once_ev a ha).map fun k h => ?_
  rw [common.f, h, Option.bind_some, keep_once]
theorem enough_ev (l g : List Int) (hl : l.length < 17592186044416) : Since (fun k => quorum_Enough.f k l g) (enough l g) := by
  refine (once_ev l hl).and (com_ev l g hl) fun k h1 h2 => ?_
  have hlen := once_len l
  rw [quorum_Enough.f, h1, Option.bind_some]
  by_cases h0 : 0 < (once l).length
  · rw [if_pos (by omega), h2, Option.bind_some, need_eq _ (by omega), Option.bind_some]
    congr 1
    unfold enough need
    rw [if_neg (by omega), decide_eq_true h0, Bool.true_and]
    exact decide_eq_decide.2 (by omega)
  · rw [if_neg (by omega)]
    unfold enough
    rw [decide_eq_false h0, Bool.false_and]
end Go.Proofs.Yteocngcojijnkaa.Ql
