/- For every list, nodes and number the law QuorumEnough comes to true, plain. No condition. -/
import Derived.Test.YteocngcojijnkaaQRQA
namespace Go.Proofs.Yteocngcojijnkaa.Pure
open Go.RowKit Go.Proofs.Yteocngcojijnkaa.QA Go.Proofs.YteocngcojijnkaaW.PrintWords Go.Proofs.YteocngcojijnkaaW.PrintLast
open Go.Proofs.Yteocngcojijnkaa.Lex Go.Proofs.Yteocngcojijnkaa.Cm Go.Proofs.Yteocngcojijnkaa.Ql Go.Proofs.Yteocngcojijnkaa.QlQA
set_option linter.unusedVariables false
theorem rneed_l0 (n : Int) (h0 : 1 ≤ n) (hn : n ≤ 100000) : ∀ (d : Nat) (i : Int), 0 ≤ i → i ≤ n / 2 + 1 → (n / 2 + 1 - i).toNat = d → Since (fun k => icehouseref10_Need.l0 k n i) (n / 2 + 1) := by
  intro d
  induction d with
  | zero =>
    intro i hi hi2 hd
    refine Since.none fun k => ?_
    obtain rfl : i = n / 2 + 1 := by omega
    have hw : wrap64 (2 * (n / 2 + 1)) = 2 * (n / 2 + 1) := by unfold wrap64; omega
    simp only [icehouseref10_Need.l0]
    rw [if_neg (by rw [hw]; omega)]
  | succ d ih =>
    intro i hi hi2 hd
    have hw : wrap64 (2 * i) = 2 * i := by unfold wrap64; omega
    have hw1 : wrap64 (i + 1) = i + 1 := by unfold wrap64; omega
    refine Since.one (ih (i + 1) (by omega) (by omega) (by omega)) fun k h => ?_
    simp only [icehouseref10_Need.l0]
    rw [if_pos (by rw [hw]; omega), hw1]
    exact h
theorem rneed_ev (n : Int) (h0 : 0 < n) (hn : n ≤ 100000) : Since (fun k => icehouseref10_Need.f k n) (need n) := by
  refine (rneed_l0 n (by omega) hn _ 0 (by omega) (by omega) rfl).map fun k h => ?_
  unfold icehouseref10_Need.f need
  rw [if_neg (by omega), if_neg (by omega)]
  exact h
theorem renough_ev (l g : List Int) (hl : l.length < 17592186044416) (hg : g.length < 17592186044416) : Since (fun k => icehouseref10_Enough.f k l g) (enough l g) := by
  refine (rcom_ev l l hl hl).and (rcom_ev l g hl hg) fun k h1 h2 => ?_
  have hlen := once_len l
  have hlen2 := com_len l g
  rw [icehouseref10_Enough.f, h1, Option.bind_some, h2, Option.bind_some, com_self]
  unfold enough
  by_cases h0 : 0 < (once l).length
  · rw [if_pos (by omega), decide_eq_true h0, Bool.true_and]
    have hw : wrap64 (2 * ((com l g).length : Int)) = 2 * ((com l g).length : Int) := by unfold wrap64; omega
    rw [hw]
    congr 1
    exact decide_eq_decide.2 (by omega)
  · rw [if_neg (by omega), decide_eq_false h0, Bool.false_and]
theorem same_l0 (l : List Int) (hl : l.length ≤ 9223372036854775807) : ∀ (n i : Nat), l.length - i = n → i ≤ l.length → Since (fun k => icehouseref00_SameInts.l0 k l l (i : Int)) true := by
  intro n
  induction n with
  | zero =>
    intro i hn hi
    have hf : ¬ ((i : Int) < (l.length : Int)) := by omega
    refine Since.none fun k => ?_
    simp only [icehouseref00_SameInts.l0, if_neg hf]
  | succ n ih =>
    intro i hn hi
    have f1 : (i : Int) < (l.length : Int) := by omega
    have f0 : (0 : Int) ≤ (i : Int) := by omega
    refine Since.one (ih (i + 1) (by omega) (by omega)) fun k h => ?_
    simp only [icehouseref00_SameInts.l0, if_pos f1, if_pos f0, if_true, w_succ i (by omega)]
    exact h
theorem same_ev (l : List Int) (hl : l.length ≤ 9223372036854775807) : Since (fun k => icehouseref00_SameInts.f k l l) true := by
  refine (same_l0 l hl _ 0 rfl (Nat.zero_le _)).map fun k h => ?_
  rw [icehouseref00_SameInts.f, if_pos rfl]
  exact h
theorem j3_ev (l g : List Int) (hl : l.length ≤ 60) (hg : g.length ≤ 60) : Since (fun k => icehouselaw10_QuorumEnough.j3 k l g false) true := by
  have hc := com_len l g
  have ho := once_len l
  refine since_three (enough_ev l g (by omega)) (renough_ev l g (by omega) (by omega)) ((com_ev l g (by omega)).and ((rcom_ev l g (by omega) (by omega)).and (same_ev (com l g) (by omega)) (F := fun k => (icehouseref10_Common.f k l g).bind fun x => (icehouseref00_SameInts.f k (com l g) x)) (fun k h1 h2 => by rw [h1, Option.bind_some, h2])) (F := fun k => (common.f k l g).bind fun y => (icehouseref10_Common.f k l g).bind fun x => (icehouseref00_SameInts.f k y x)) (fun k h1 h2 => by rw [h1, Option.bind_some, h2])) fun k h1 h2 h3 => ?_
  simp only [icehouselaw10_QuorumEnough.j3]
  rw [if_neg (by decide), h1, Option.bind_some, h2, Option.bind_some, if_pos (by simp)]
  obtain ⟨y, hy, h3⟩ := Option.bind_eq_some_iff.1 h3
  obtain ⟨x, hx, h3⟩ := Option.bind_eq_some_iff.1 h3
  rw [hy, Option.bind_some, hx, Option.bind_some, h3, Option.bind_some]
  rfl
theorem j2_ev (l g : List Int) (a x7 : Int) (hl : l.length ≤ 60) (hg : g.length ≤ 60) (h7 : a ≤ 100000 → x7 = need a) : Since (fun k => icehouselaw10_QuorumEnough.j2 k l g a x7) true := by
  refine Since.one (j3_ev l g hl hg) fun k h => ?_
  simp only [icehouselaw10_QuorumEnough.j2]
  by_cases ha : a ≤ 100000
  · rw [if_pos ha, need_eq a (by omega), Option.bind_some, h7 ha]
    simpa using h
  · rw [if_neg ha]; exact h
theorem QuorumEnough : icehouselaw10_QuorumEnough.Pure := by
  intro l g a _ _ _ _ _ _ ha
  suffices h : Since (fun k => icehouselaw10_QuorumEnough.f k l g a) true by
    obtain ⟨K, hK⟩ := h
    exact ⟨K, hK K (Nat.le_refl K)⟩
  have known : ∀ k, icehouselaw10_QuorumEnough.j0 (k + 1) l g a true = some true := by
    intro k
    simp only [icehouselaw10_QuorumEnough.j0]
    rfl
  unfold icehouselaw10_QuorumEnough.f
  by_cases h1 : (l.length : Int) > 60
  · simp only [if_pos h1]
    exact Since.none known
  · simp only [if_neg h1]
    by_cases h2 : (g.length : Int) > 60
    · simp only [decide_eq_true h2]
      exact Since.none known
    · simp only [decide_eq_false h2]
      have hl : l.length ≤ 60 := by omega
      have hg : g.length ≤ 60 := by omega
      by_cases h3 : a > 0
      · by_cases h4 : a ≤ 100000
        · refine Since.one (F := fun k => icehouselaw10_QuorumEnough.j0 k l g a false) (Since.two (F := fun k => icehouselaw10_QuorumEnough.j1 k l g a 0 true) (q := true) (rneed_ev a h3 h4) (j2_ev l g a (need a) hl hg (fun _ => rfl)) fun k h h' => ?_) fun k h => ?_
          · simp only [icehouselaw10_QuorumEnough.j1]
            rw [if_pos trivial, h, Option.bind_some]
            exact h'
          · simp only [icehouselaw10_QuorumEnough.j0]
            rw [if_neg (by decide), if_pos h3, decide_eq_true h4]
            exact h
        · refine Since.one (F := fun k => icehouselaw10_QuorumEnough.j0 k l g a false) (Since.one (F := fun k => icehouselaw10_QuorumEnough.j1 k l g a 0 false) (q := true) (j2_ev l g a 0 hl hg (fun h => absurd h h4)) fun k h' => ?_) fun k h => ?_
          · simp only [icehouselaw10_QuorumEnough.j1]
            rw [if_neg (by decide)]
            exact h'
          · simp only [icehouselaw10_QuorumEnough.j0]
            rw [if_neg (by decide), if_pos h3, decide_eq_false h4]
            exact h
      · refine Since.one (F := fun k => icehouselaw10_QuorumEnough.j0 k l g a false) (Since.one (F := fun k => icehouselaw10_QuorumEnough.j1 k l g a 0 false) (q := true) (j2_ev l g a 0 hl hg (fun h => by unfold need; rw [if_pos (by omega)])) fun k h' => ?_) fun k h => ?_
        · simp only [icehouselaw10_QuorumEnough.j1]
          rw [if_neg (by decide)]
          exact h'
        · simp only [icehouselaw10_QuorumEnough.j0]
          rw [if_neg (by decide), if_neg h3]
          exact h
end Go.Proofs.Yteocngcojijnkaa.Pure
