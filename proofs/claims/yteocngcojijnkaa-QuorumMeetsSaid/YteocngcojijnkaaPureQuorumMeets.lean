/- For every three lists the law QuorumMeets comes to true, plain. No condition. -/
import Derived.Test.YteocngcojijnkaaQRQA
namespace Go.Proofs.Yteocngcojijnkaa.Pure
open Go.RowKit Go.Proofs.Yteocngcojijnkaa.QA Go.Proofs.Yteocngcojijnkaa.QE Go.Proofs.YteocngcojijnkaaW.PrintWords Go.Proofs.YteocngcojijnkaaW.PrintLast
open Go.Proofs.Yteocngcojijnkaa.Lex Go.Proofs.Yteocngcojijnkaa.Cm Go.Proofs.Yteocngcojijnkaa.Ql Go.Proofs.Yteocngcojijnkaa.QlQA
set_option linter.unusedVariables false
def meet (n a b : Int) : Bool := decide (0 ≤ a ∧ 0 ≤ b ∧ a ≤ n ∧ b ≤ n ∧ n < a + b)
theorem meet_eq (n a b : Int) (hn : 0 ≤ n ∧ n ≤ 1000) (ha : 0 ≤ a ∧ a ≤ 1000) (hb : 0 ≤ b ∧ b ≤ 1000) : quorum_Meet.f n a b = some (meet n a b) := by
  unfold quorum_Meet.f meet
  have e : wrap64 (n - b) = n - b := by unfold wrap64; omega
  rw [e]
  repeat' split
  all_goals (congr 1; first | (symm; rw [decide_eq_false_iff_not]; omega) | (exact decide_eq_decide.2 (by omega)) | (symm; rw [decide_eq_true_iff]; omega))
theorem rmeet_eq (n a b : Int) (hn : 0 ≤ n ∧ n ≤ 1000) (ha : 0 ≤ a ∧ a ≤ 1000) (hb : 0 ≤ b ∧ b ≤ 1000) : icehouseref10_Meet.f n a b = some (meet n a b) := by
  unfold icehouseref10_Meet.f meet
  have e : wrap64 (a + b) = a + b := by unfold wrap64; omega
  rw [e]
  repeat' split
  all_goals (congr 1; first | (symm; rw [decide_eq_false_iff_not]; omega) | (exact decide_eq_decide.2 (by omega)) | (symm; rw [decide_eq_true_iff]; omega))
theorem enough_iff {l g : List Int} : enough l g = true ↔ 0 < (once l).length ∧ (once l).length < 2 * (com l g).length := by
  unfold enough
  rw [Bool.and_eq_true, decide_eq_true_iff, decide_eq_true_iff]
theorem both_meet {l a b : List Int} (h : (enough l a && enough l b) = true) : 0 < (com (com l a) (com l b)).length ∧ (once l).length < (com l a).length + (com l b).length := by
  obtain ⟨h1, h2⟩ := Bool.and_eq_true_iff.1 h
  obtain ⟨_, h1⟩ := enough_iff.1 h1
  obtain ⟨_, h2⟩ := enough_iff.1 h2
  refine ⟨?_, by omega⟩
  obtain ⟨x, hx, ha, hb⟩ := keep_meet a b (once l) (by rw [keep_once, keep_once]; omega)
  rw [mem_once] at hx
  exact List.length_pos_of_mem (mem_com.2 ⟨mem_com.2 ⟨hx, ha⟩, mem_com.2 ⟨hx, hb⟩⟩)
theorem j2_meet (l a b : List Int) (hl : l.length ≤ 40) : ∀ k, icehouselaw10_QuorumMeets.j2 (k + 1) (com l a) (com l b) (enough l a && enough l b) (((com l l).length : Nat) : Int) false = some true := by
  intro k
  have h1 := com_len l a
  have h2 := com_len l b
  have h3 := once_len l
  simp only [icehouselaw10_QuorumMeets.j2]
  rw [if_neg (by decide), com_self, meet_eq _ _ _ (by omega) (by omega) (by omega), rmeet_eq _ _ _ (by omega) (by omega) (by omega)]
  simp only [Option.bind_some, beq_self_eq_true, if_true]
  by_cases h : (enough l a && enough l b) = true
  · have hm := (both_meet h).2
    have : meet ((once l).length : Int) ((com l a).length : Int) ((com l b).length : Int) = true := decide_eq_true (by omega)
    rw [if_pos h, this]
    rfl
  · rw [if_neg h]; rfl
theorem j2_ev' (l a b : List Int) (hl : l.length ≤ 40) : Since (fun k => icehouselaw10_QuorumMeets.j2 k (com l a) (com l b) (enough l a && enough l b) (((com l l).length : Nat) : Int) false) true := Since.none (j2_meet l a b hl)
theorem j1_meet (l a b : List Int) (hl : l.length ≤ 40) : Since (fun k => icehouselaw10_QuorumMeets.j1 k l (com l a) (com l b) (enough l a && enough l b)) true := by
  have h3 := once_len l
  have h1 := com_len l a
  refine Since.two (com_ev l l (by omega)) ((com_ev (com l a) (com l b) (by omega)).and (j2_ev' l a b hl) (F := fun k => (common.f k (com l a) (com l b)).bind fun t => icehouselaw10_QuorumMeets.j2 k (com l a) (com l b) (enough l a && enough l b) (((com l l).length : Nat) : Int) ((t.length : Int) == 0 && (enough l a && enough l b))) (q := true) fun k h h' => ?_) fun k h h' => ?_
  · rw [h, Option.bind_some]
    by_cases hb : (enough l a && enough l b) = true
    · have hp := (both_meet hb).1
      have : (((com (com l a) (com l b)).length : Int) == 0) = false := beq_eq_false_iff_ne.2 (by omega)
      rw [this]; exact h'
    · rw [Bool.eq_false_iff.2 hb] at h' ⊢
      rw [Bool.and_false]; exact h'
  · simp only [icehouselaw10_QuorumMeets.j1]
    rw [h, Option.bind_some]
    by_cases hb : (enough l a && enough l b) = true
    · rw [if_pos hb]
      rw [hb] at h' ⊢
      simpa using h'
    · rw [if_neg hb]
      obtain ⟨t, ht, h'⟩ := Option.bind_eq_some_iff.1 h'
      rw [Bool.eq_false_iff.2 hb] at h' ⊢
      rw [Bool.and_false] at h'
      exact h'
theorem QuorumMeets : icehouselaw10_QuorumMeets.Pure := by
  intro l a b _ _ _ _ _ _ _ _ _
  suffices h : Since (fun k => icehouselaw10_QuorumMeets.f k l a b) true by
    obtain ⟨K, hK⟩ := h
    exact ⟨K, hK K (Nat.le_refl K)⟩
  have known : ∀ k, icehouselaw10_QuorumMeets.j0 (k + 1) l a b true = some true := by
    intro k
    simp only [icehouselaw10_QuorumMeets.j0]
    rfl
  unfold icehouselaw10_QuorumMeets.f
  by_cases h1 : (l.length : Int) > 40
  · simp only [if_pos h1]
    exact Since.none known
  simp only [if_neg h1]
  by_cases h2 : (a.length : Int) > 40
  · simp only [if_pos h2]
    exact Since.none known
  simp only [if_neg h2]
  by_cases h3 : (b.length : Int) > 40
  · simp only [decide_eq_true h3]
    exact Since.none known
  simp only [decide_eq_false h3]
  have hl : l.length ≤ 40 := by omega
  refine since_three ((com_ev l a (by omega)).and (com_ev l b (by omega)) (F := fun k => (common.f k l a).bind fun x => (common.f k l b).bind fun y => some (x, y)) (q := (com l a, com l b)) fun k h h' => by rw [h, Option.bind_some, h', Option.bind_some]) ((enough_ev l a (by omega)).and (enough_ev l b (by omega)) (F := fun k => (quorum_Enough.f k l a).bind fun x => (quorum_Enough.f k l b).bind fun y => some (x, y)) (q := (enough l a, enough l b)) fun k h h' => by rw [h, Option.bind_some, h', Option.bind_some]) (j1_meet l a b hl) fun k h h' h'' => ?_
  obtain ⟨x, hx, h⟩ := Option.bind_eq_some_iff.1 h
  obtain ⟨y, hy, h⟩ := Option.bind_eq_some_iff.1 h
  obtain ⟨x', hx', h'⟩ := Option.bind_eq_some_iff.1 h'
  obtain ⟨y', hy', h'⟩ := Option.bind_eq_some_iff.1 h'
  injection h with h; injection h with e1 e2; subst e1 e2
  injection h' with h'; injection h' with e1 e2
  simp only [icehouselaw10_QuorumMeets.j0]
  rw [if_neg (by decide), hx, Option.bind_some, hy, Option.bind_some, hx', Option.bind_some, hy', Option.bind_some]
  subst e1 e2
  by_cases hb : enough l a = true
  · rw [if_pos hb]
    rw [hb, Bool.true_and] at h''
    exact h''
  · rw [if_neg hb]
    rw [Bool.eq_false_iff.2 hb, Bool.false_and] at h''
    exact h''
end Go.Proofs.Yteocngcojijnkaa.Pure
