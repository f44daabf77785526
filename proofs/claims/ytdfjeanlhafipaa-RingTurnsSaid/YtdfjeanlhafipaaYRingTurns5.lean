/- The statement RingTurns: a ring with a node more, or less, or why there is none, is the reference's; one more, and less again, is as it was. Plain, over the printed law. Conditions: none. -/
import Derived.Test.YtdfjeanlhafipaaYRingTurns3
import Derived.Test.YtdfjeanlhafipaaYRingTurns4

namespace Go.Proofs.Ytdfjeanlhafipaa.Hs
open Go.RowKit Go.Proofs.Ytdfjeanlhafipaa.QH Go.Proofs.Ytdfjeanlhafipaa.Lex Go.Proofs.Ytdfjeanlhafipaa.Rg
open Go.Proofs.YtdfjeanlhafipaaW.PrintWords Go.Proofs.YtdfjeanlhafipaaW.PrintLast Go.Proofs.YtdfjeanlhafipaaW.PrintMore
set_option linter.unusedVariables false
set_option linter.unusedSimpArgs false
theorem ringV_f (m : List Int) (each keep : Int) (k : Nat) (h : icehouseref09_Check.f k m each keep = some (chk m each keep)) :
    (icehouseref09_Check.f k m each keep).bind (fun t => if t = 0 then some (m, each, keep, (0 : Int)) else some (([] : List Int), 0, 0, 2)) = some (flatV (ringV m each keep)) := by
  rw [h, Option.bind_some]
  unfold chk ringV flatV
  cases okB m each keep
  · simp
  · simp
theorem rwith_l0 (l : List Int) (hl : l.length ≤ 70) (each keep node : Int) : ∀ (n i : Nat), l.length - i = n → i ≤ l.length → (∀ m (hm : m < i) (h : m < l.length), l[m] < node) →
    Since (fun k => QT.icehouseref09_With.l0 k node (l.take i) (i : Int) l each keep) (flatV (ringV (insL l node) each keep)) := by
  have hlen : (insL l node).length = l.length + 1 := insL_len l node
  have hch := rcheck_ev (insL l node) each keep (by omega)
  intro n
  induction n with
  | zero =>
    intro i hn hi hlt
    obtain rfl : i = l.length := by omega
    have hf : ¬ ((l.length : Int) < (l.length : Int)) := by omega
    have e := tw_dw (Nat.le_refl l.length) hlt (fun h => absurd h (Nat.lt_irrefl _))
    refine Since.one hch fun k hk => ?_
    have e2 : l.take l.length ++ [node] ++ l.drop l.length = insL l node := by rw [← e, List.append_assoc]; rfl
    simp only [QT.icehouseref09_With.l0, if_neg hf, Option.bind_some, Int.toNat_natCast, if_pos (show (0 : Int) ≤ (l.length : Int) by omega), if_pos (Int.le_refl (l.length : Int))]
    rw [if_pos (by rw [List.length_take]; omega), if_pos (by simp; omega), e2]
    exact ringV_f _ _ _ k hk
  | succ n ih =>
    intro i hn hi hlt
    have h1 : i < l.length := by omega
    have f1 : (i : Int) < (l.length : Int) := by omega
    have f0 : (0 : Int) ≤ (i : Int) := by omega
    have r1 : rd l (i : Int) = l[i] := by simp [rd, h1]
    by_cases c1 : l[i] < node
    · refine Since.one (ih (i + 1) (by omega) (by omega) (fun m hm h => ?_)) fun k hk => ?_
      · by_cases hmi : m = i
        · subst hmi; exact c1
        · exact hlt m (by omega) h
      · simp only [QT.icehouseref09_With.l0, if_pos f1, if_pos f0, r1, if_pos c1, w_succ' i (by omega)]
        rw [if_pos (by rw [List.length_take]; omega)]
        rw [List.take_succ_eq_append_getElem h1] at hk
        exact hk
    · have e := tw_dw (Nat.le_of_lt h1) hlt (fun _ => c1)
      have e2 : l.take i ++ [node] ++ l.drop i = insL l node := by rw [← e, List.append_assoc]; rfl
      refine Since.one hch fun k hk => ?_
      simp only [QT.icehouseref09_With.l0, if_pos f1, if_pos f0, r1, if_neg c1, Option.bind_some, Int.toNat_natCast, if_pos (show (i : Int) ≤ (l.length : Int) by omega)]
      rw [if_pos (by rw [List.length_take]; omega), if_pos (by simp; omega), e2]
      exact ringV_f _ _ _ k hk
theorem rwith_ev (l : List Int) (hl : l.length ≤ 70) (each keep node : Int) : Since (fun k => QT.icehouseref09_With.f k l each keep node) (flatV (withV l each keep node)) := by
  have hbad : ∀ k, QT.icehouseref09_With.j0 (k + 1) node true l each keep = some (flatV (([], 0, 0), 2)) := fun k => by simp only [QT.icehouseref09_With.j0, if_true]; rfl
  unfold withV
  by_cases c1 : node < 0
  · rw [if_pos (.inl c1)]
    refine Since.none fun k => ?_
    simp only [QT.icehouseref09_With.f, if_pos c1, hbad]
  · by_cases c2 : node > 1048575
    · rw [if_pos (.inr (.inl c2))]
      refine Since.none fun k => ?_
      simp only [QT.icehouseref09_With.f, if_neg c1, if_pos c2, hbad]
    · have hh := has_ev l node (by omega)
      by_cases c3 : node ∈ l
      · rw [if_pos (.inr (.inr c3))]
        rw [decide_eq_true c3] at hh
        refine hh.and (Since.none (F := fun k => QT.icehouseref09_With.j0 k node true l each keep) hbad) fun k a b => ?_
        simp only [QT.icehouseref09_With.f, if_neg c1, if_neg c2]
        rw [a, Option.bind_some]
        exact b
      · have c4 : ¬ (node < 0 ∨ node > 1048575 ∨ node ∈ l) := fun h => h.elim c1 (fun h => h.elim c2 c3)
        rw [if_neg c4]
        rw [decide_eq_false c3] at hh
        have h0 := rwith_l0 l hl each keep node _ 0 rfl (Nat.zero_le _) (fun m hm => absurd hm (Nat.not_lt_zero m))
        rw [List.take_zero] at h0
        refine hh.and (h0.one (q := flatV (ringV (insL l node) each keep)) (F := fun k => QT.icehouseref09_With.j0 k node false l each keep) fun k hk => ?_) fun k a b => ?_
        · simp only [QT.icehouseref09_With.j0]
          rw [if_neg (by decide)]
          exact hk
        · simp only [QT.icehouseref09_With.f, if_neg c1, if_neg c2]
          rw [a, Option.bind_some]
          exact b
theorem rsame_ev (l : List Int) (hl : l.length ≤ 9223372036854775807) (each keep : Int) : Since (fun k => icehouseref09_Same.f k l each keep l each keep) true := by
  have h := same_ev l l hl
  rw [decide_eq_true rfl] at h
  refine h.map fun k hk => ?_
  simp only [icehouseref09_Same.f]
  rw [hk, Option.bind_some, if_pos rfl, if_pos trivial]
  simp
theorem equal_l0 (l : List Int) (hl : l.length ≤ 9223372036854775807) : ∀ (n i : Nat), l.length - i = n → i ≤ l.length →
    Since (fun k => slices_Equal_int_int.l0 k l l (l.length : Int) (i : Int)) true := by
  intro n
  induction n with
  | zero =>
    intro i hn hi
    have hf : ¬ ((i : Int) < (l.length : Int)) := by omega
    exact Since.none fun k => by simp only [slices_Equal_int_int.l0, if_neg hf]
  | succ n ih =>
    intro i hn hi
    have f1 : (i : Int) < (l.length : Int) := by omega
    have f0 : (0 : Int) ≤ (i : Int) := by omega
    refine Since.one (ih (i + 1) (by omega) (by omega)) fun k hk => ?_
    simp only [slices_Equal_int_int.l0, if_pos f1, if_pos f0, w_succ' i (by omega), if_true]
    exact hk
theorem psame_ev (l : List Int) (hl : l.length ≤ 9223372036854775807) (each keep : Int) : Since (fun k => ring_Same.f k l each keep l each keep) true := by
  have h := equal_l0 l hl _ 0 rfl (Nat.zero_le _)
  refine h.map fun k hk => ?_
  simp only [ring_Same.f, slices_Equal_int_int.f]
  rw [if_pos trivial, show slices_Equal_int_int.l0 k l l (l.length : Int) 0 = some true from hk, Option.bind_some, if_pos rfl, if_pos trivial]
  simp
theorem del_ins {l : List Int} {x : Int} (h : x ∉ l) : delL (insL l x) x = l := by
  have e : l.takeWhile (fun y => decide (y < x)) ++ l.dropWhile (fun y => decide (y < x)) = l := List.takeWhile_append_dropWhile
  have g : ∀ (a b : List Int), x ∉ a → delL (a ++ x :: b) x = a ++ b := by
    intro a
    induction a with
    | nil => intro b _; rw [List.nil_append, delL_cons, if_pos rfl]; rfl
    | cons y a ih =>
      intro b hn
      rw [List.cons_append, delL_cons, if_neg (fun e => hn (by rw [e]; exact List.mem_cons_self)), ih b (fun hm => hn (List.mem_cons_of_mem _ hm))]
      rfl
  unfold insL
  rw [g _ _ (fun hm => h (by rw [← e]; exact List.mem_append_left _ hm)), e]
theorem turns_j (l : List Int) (hl : l.length ≤ 70) (each keep node : Int) : Since (fun k => QT.icehouselaw09_RingTurns.j0 k node (withV l each keep node).2 false l each keep (withV l each keep node).1.1 (withV l each keep node).1.2.1 (withV l each keep node).1.2.2) true := by
  obtain ⟨K1, h1⟩ := known_ev
  obtain ⟨K2, h2⟩ := rcheck_ev l each keep (by omega)
  obtain ⟨K3, h3⟩ := rsame_ev l (by omega) each keep
  refine ⟨K1 + K2 + K3 + 2, fun k hk => ?_⟩
  obtain ⟨m, rfl⟩ : ∃ m, k = m + 2 := ⟨k - 2, by omega⟩
  have e1 := h1 m (by omega)
  have e2 := h2 (m + 1) (by omega)
  have e3 := h3 m (by omega)
  simp only at e1 e2 e3
  by_cases he : (withV l each keep node).2 = 0
  · have hbad : ¬ (node < 0 ∨ node > 1048575 ∨ node ∈ l) := fun h => by unfold withV at he; rw [if_pos h] at he; simp at he
    have hos : okB (insL l node) each keep = true := by
      unfold withV ringV at he
      rw [if_neg hbad] at he
      cases ho : okB (insL l node) each keep
      · rw [ho] at he; simp at he
      · rfl
    have hv : withV l each keep node = ((insL l node, each, keep), 0) := by unfold withV ringV; rw [if_neg hbad, if_pos hos]
    have hni : node ∉ l := fun h => hbad (.inr (.inr h))
    simp only [hv, QT.icehouselaw09_RingTurns.j0]
    rw [if_neg (by decide), if_pos trivial, e2, Option.bind_some]
    cases ho : okB l each keep
    · have hc : chk l each keep = 2 := by unfold chk; rw [ho]; rfl
      rw [hc]
      simp only [QT.icehouselaw09_RingTurns.j1]
      rw [if_neg (by decide), e1, Option.bind_some]
    · have hc : chk l each keep = 0 := by unfold chk; rw [ho]; rfl
      have hw : Hs.ring_Without.f (insL l node) each keep node = some (l, each, keep, 0) := by
        unfold Hs.ring_Without.f
        rw [if_pos (by rw [insL_len]; omega)]
        unfold withoutV ringV flatV
        rw [if_pos ((mem_insL l node node).2 (.inl rfl)), del_ins hni, ho]
        rfl
      rw [hc]
      simp only [QT.icehouselaw09_RingTurns.j1, hw, Option.bind_some]
      rw [if_pos (by decide), if_pos trivial, e3, Option.bind_some, if_pos rfl, e1, Option.bind_some]
  · simp only [QT.icehouselaw09_RingTurns.j0, if_neg he, QT.icehouselaw09_RingTurns.j1]
    rw [if_neg (by decide), if_neg (by decide), e1, Option.bind_some]
theorem len_withV (l : List Int) (each keep node : Int) : (withV l each keep node).1.1.length ≤ l.length + 1 := by
  unfold withV ringV
  split
  · simp
  · split
    · show (insL l node).length ≤ _
      rw [insL_len]; exact Nat.le_refl _
    · simp
theorem len_withoutV (l : List Int) (each keep node : Int) : (withoutV l each keep node).1.1.length ≤ l.length := by
  unfold withoutV ringV
  split
  · rename_i h
    split
    · show (delL l node).length ≤ _
      have := delL_len h; omega
    · simp
  · simp
theorem turns_ev (l : List Int) (hl : l.length ≤ 9223372036854775807) (each keep node : Int) : Since (fun k => QT.icehouselaw09_RingTurns.f k l each keep node) true := by
  by_cases hb : (l.length : Int) > 70
  · refine known_ev.map fun k hk => ?_
    simp only [QT.icehouselaw09_RingTurns.f, if_pos hb]
    rw [hk, Option.bind_some]
  · have hw : Hs.ring_With.f l each keep node = some (flatV (withV l each keep node)) := by unfold Hs.ring_With.f; rw [if_pos (by omega)]
    have ho : Hs.ring_Without.f l each keep node = some (flatV (withoutV l each keep node)) := by unfold Hs.ring_Without.f; rw [if_pos (by omega)]
    have hro : Hs.icehouseref09_Without.f l each keep node = some (flatV (withoutV l each keep node)) := by unfold Hs.icehouseref09_Without.f; rw [if_pos (by omega)]
    obtain ⟨K1, h1⟩ := rwith_ev l (by omega) each keep node
    obtain ⟨K2, h2⟩ := rsame_ev (withV l each keep node).1.1 (by have := len_withV l each keep node; omega) (withV l each keep node).1.2.1 (withV l each keep node).1.2.2
    obtain ⟨K3, h3⟩ := rsame_ev (withoutV l each keep node).1.1 (by have := len_withoutV l each keep node; omega) (withoutV l each keep node).1.2.1 (withoutV l each keep node).1.2.2
    obtain ⟨K4, h4⟩ := psame_ev l (by omega) each keep
    obtain ⟨K5, h5⟩ := turns_j l (by omega) each keep node
    refine ⟨K1 + K2 + K3 + K4 + K5, fun k hk => ?_⟩
    have e1 := h1 k (by omega)
    have e2 := h2 k (by omega)
    have e3 := h3 k (by omega)
    have e4 := h4 k (by omega)
    have e5 := h5 k (by omega)
    simp only [flatV] at e1 e2 e3 e4 e5
    simp only [QT.icehouselaw09_RingTurns.f, if_neg hb, hw, ho, hro, flatV, Option.bind_some]
    rw [e1, Option.bind_some, e2, Option.bind_some, if_pos rfl, if_pos rfl, e3, Option.bind_some, if_pos rfl, if_pos trivial, e4, Option.bind_some]
    exact e5
theorem ringTurns (w : World) (cs0 : Array Value) (a0 : List Int × Int × Int) (K0 : Opn.kRing.K w a0 cs0.toList) (wf0 : Opn.wRing a0) (a1 : Int) (w1 : (Lit.int .i64 a1).wf = true) :
    Calls Try.prog 9 #[.agg cs0, .int .i64 a1] w fun e w' => e = .returned (.bool true) ∧ Below w.heap.size w w' := by
  obtain ⟨A0, c0, e0, hc0, C0⟩ := Opn.ring_row K0
  rw [show cs0 = #[.slice A0 a0.1.length c0, .int .i64 a0.2.1, .int .i64 a0.2.2] from by rw [← Array.toList_inj, e0]]
  obtain ⟨K, hK⟩ := turns_ev a0.1 C0.2.1 a0.2.1 a0.2.2 a1
  exact QT.icehouselaw09_RingTurns.calls K A0 c0 a0.1 a0.2.1 a0.2.2 a1 true w C0 hc0 (hK K (Nat.le_refl K))
end Go.Proofs.Ytdfjeanlhafipaa.Hs
