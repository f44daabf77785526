/- For every list and numbers the law QuorumNeeds comes to true, plain. No condition. -/
import Derived.Test.YteocngcojijnkaaQRQN
namespace Go.Proofs.Yteocngcojijnkaa.Pure
open Go.RowKit Go.Proofs.Yteocngcojijnkaa.QN Go.Proofs.Yteocngcojijnkaa.QE Go.Proofs.YteocngcojijnkaaW.PrintWords Go.Proofs.YteocngcojijnkaaW.PrintLast
open Go.Proofs.Yteocngcojijnkaa.Lex Go.Proofs.Yteocngcojijnkaa.Cm Go.Proofs.Yteocngcojijnkaa.Ql Go.Proofs.Yteocngcojijnkaa.QlQN
set_option linter.unusedVariables false
theorem enough_self (l : List Int) : enough l l = decide (0 < l.length) := by
  unfold enough
  rw [com_self, ← Bool.decide_and]
  exact decide_eq_decide.2 (by have := @once_pos_iff l; omega)
theorem enough_none (l : List Int) : enough l [] = false := by
  unfold enough
  rw [com_nil]
  simp
theorem enough_more (l : List Int) (x : Int) : enough l (l ++ [x]) = decide (0 < l.length) := by
  unfold enough
  rw [com_more (fun y hy => List.mem_append_left _ hy), ← Bool.decide_and]
  exact decide_eq_decide.2 (by have := @once_pos_iff l; omega)
theorem j0_need (l : List Int) (x : Int) (hl : l.length ≤ 40) : Since (fun k => icehouselaw10_QuorumNeeds.j0 k l x false) true := by
  refine since_three ((enough_ev l l (by omega)).and (enough_ev l [] (by omega)) (F := fun k => (quorum_Enough.f k l l).bind fun x => (quorum_Enough.f k l []).bind fun y => some (x, y)) (q := (enough l l, enough l [])) fun k h h' => by rw [h, Option.bind_some, h', Option.bind_some]) (enough_ev l (l ++ [x]) (by omega)) ((com_ev l (l ++ [x]) (by omega)).and (rcom_ev l l (by omega) (by omega)) (F := fun k => (common.f k l (l ++ [x])).bind fun y => (icehouseref10_Common.f k l l).bind fun z => some (y, z)) (q := (com l (l ++ [x]), com l l)) fun k h h' => by rw [h, Option.bind_some, h', Option.bind_some]) fun k h h' h'' => ?_
  obtain ⟨a, ha, h⟩ := Option.bind_eq_some_iff.1 h
  obtain ⟨b, hb, h⟩ := Option.bind_eq_some_iff.1 h
  obtain ⟨c, hc, h''⟩ := Option.bind_eq_some_iff.1 h''
  obtain ⟨d, hd, h''⟩ := Option.bind_eq_some_iff.1 h''
  injection h with h; injection h with e1 e2
  injection h'' with h''; injection h'' with e3 e4
  rw [enough_self] at e1
  rw [enough_none] at e2
  rw [enough_more] at h'
  rw [com_more (fun y hy => List.mem_append_left _ hy)] at e3
  rw [com_self] at e4
  simp only [icehouselaw10_QuorumNeeds.j0]
  rw [if_neg (by decide), ha, Option.bind_some, hb, Option.bind_some, if_pos (by simp; omega), Option.bind_some, List.nil_append, if_pos (by omega), Option.bind_some, h', Option.bind_some, hc, Option.bind_some, hd, Option.bind_some]
  subst e1 e2 e3 e4
  rw [if_pos (by simp), if_neg (by decide), if_pos (by simp), if_pos rfl]
  rfl
theorem QuorumNeeds : icehouselaw10_QuorumNeeds.Pure := by
  intro l n x _ _ _ hn _
  suffices h : Since (fun k => icehouselaw10_QuorumNeeds.f k l n x) true by
    obtain ⟨K, hK⟩ := h
    exact ⟨K, hK K (Nat.le_refl K)⟩
  have hb : 0 ≤ n ∧ n ≤ 65535 := by
    simp [Lit.wf, IntKind.max, IntKind.min, IntKind.bits, IntKind.signed] at hn
    omega
  have hw : wrap64 n = n := by unfold wrap64; omega
  unfold icehouselaw10_QuorumNeeds.f
  by_cases h1 : (l.length : Int) > 40
  · simp only [if_pos h1]
    exact Since.none fun k => rfl
  · simp only [if_neg h1, hw, need_eq n (by omega), Option.bind_some]
    have hj := j0_need l x (by omega)
    by_cases h0 : n > 0
    · have hk : need n = n / 2 + 1 := if_neg (by omega)
      have w1 : wrap64 (n - (n / 2 + 1)) = n - (n / 2 + 1) := by unfold wrap64; omega
      have w2 : wrap64 (n / 2 + 1 - 1) = n / 2 := by unfold wrap64; omega
      have w3 : wrap64 (n - n / 2) = n - n / 2 := by unfold wrap64; omega
      simp only [if_pos h0, hk, w1, w2, w3]
      simp only [if_neg (show ¬ n / 2 + 1 ≤ n - (n / 2 + 1) by omega), if_neg (show ¬ n / 2 > n - n / 2 by omega), if_neg (show ¬ n = 0 by omega)]
      exact hj
    · have hk : need n = 0 := if_pos (by omega)
      simp only [if_neg h0, hk]
      simp only [if_pos (show n = 0 by omega)]
      exact hj
end Go.Proofs.Yteocngcojijnkaa.Pure
