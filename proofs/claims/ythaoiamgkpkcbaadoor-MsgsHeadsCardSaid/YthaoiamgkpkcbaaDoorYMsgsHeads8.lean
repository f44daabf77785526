/- Written by a program of this session over the kit's print: functions and their contracts. · The reference: the contracts of long, SameVal, Same and Size, and of the reference's, by what they tell. Conditions: bytes are bytes. · The reference's Same of two messages, by what it tells. Conditions: lists that fit in memory. · A message's bytes are read as it was; cut short something is missing. Plain. Conditions: a message that may be. · Two messages that may be are the same just if their bytes are; a message's bytes are bytes. Plain. Conditions: messages that may be. · The walk of the law MsgsHeads, for every two messages. Conditions: the table lies in its variable. · What the card's condition tells: the table of msgs lies in its variable; and the world in which the door lays it. Conditions: none. -/
import Derived.Test.YthaoiamgkpkcbaaDoorYMsgsHeads4
import Derived.Test.YthaoiamgkpkcbaaDoorYMsgsHeads5
import Derived.Test.YthaoiamgkpkcbaaDoorYMsgsHeads6
import Derived.Test.YthaoiamgkpkcbaaDoorYMsgsHeads7
import Derived.Test.YthaoiamgkpkcbaaDoorYMsgsHeads2
import Derived.Test.YthaoiamgkpkcbaaDoorYMsgsHeads3
import Derived.Deep.Light
import Derived.Deep.RegionHeld3
import Derived.Test.YthaoiamgkpkcbaaDoorRows
import Derived.ProofKit
import Derived.LaidMore
import Derived.OpenShut
import Derived.Stop.Joined

namespace Go.Proofs.YthaoiamgkpkcbaaDoor.QS
open Go.Proofs.YthaoiamgkpkcbaaDoor.QL
open Go.RowKit Go.Proofs.YthaoiamgkpkcbaaDoorW.PrintWords Go.Proofs.YthaoiamgkpkcbaaDoorW.PrintLast Go.Proofs.YthaoiamgkpkcbaaDoorW.PrintMore
attribute [local go_sem] max2_int min2_int max_two min_two max_three min_three max_four min_four   -- for this text's walks alone
set_option linter.unusedVariables false
set_option linter.unusedSimpArgs false
end Go.Proofs.YthaoiamgkpkcbaaDoor.QS
namespace Go.Proofs.YthaoiamgkpkcbaaDoor.Tg
open Go.ChangeShapes Go.WideShapes Go.ChangeAt Go.RowKit Go.Proofs.YthaoiamgkpkcbaaDoor.Pk Go.Proofs.YthaoiamgkpkcbaaDoor.EncC
open Go.Proofs.YthaoiamgkpkcbaaDoor.Hlp Go.Proofs.YthaoiamgkpkcbaaDoor.Wrd Go.Proofs.YthaoiamgkpkcbaaDoorW.PrintWords Go.Proofs.YthaoiamgkpkcbaaDoorW.PrintLast Go.Proofs.YthaoiamgkpkcbaaDoorW.PrintMore
set_option linter.unusedVariables false
set_option linter.unusedSimpArgs false
open Go.Proofs.YthaoiamgkpkcbaaDoor.Lex in
theorem rsame_l0 (h h' : Bool) (l m : List Int) (hlm : l.length = m.length) (hb : l.length < 9223372036854775807) : ∀ (n i : Nat), l.length - i = n → i ≤ l.length → Since (fun k => QS.icehouseref03_SameVal.l0 k (i : Int) h l h' m) (decide (l.drop i = m.drop i)) := by
  intro n
  induction n with
  | zero =>
    intro i hn hi
    rw [List.drop_eq_nil_of_le (show l.length ≤ i by omega), List.drop_eq_nil_of_le (show m.length ≤ i by omega)]
    have hf : ¬ ((i : Int) < (l.length : Int)) := by omega
    exact Since.none fun k => by simp only [QS.icehouseref03_SameVal.l0, if_neg hf]; simp
  | succ n ih =>
    intro i hn hi
    have h1 : i < l.length := by omega
    have h2 : i < m.length := by omega
    have f1 : (i : Int) < (l.length : Int) := by omega
    have f2 : (i : Int) < (m.length : Int) := by omega
    have f0 : (0 : Int) ≤ (i : Int) := by omega
    have r1 : rd l (i : Int) = l[i] := by simp [rd, h1]
    have r2 : rd m (i : Int) = m[i] := by simp [rd, h2]
    refine Since.one (ih (i + 1) (by omega) (by omega)) fun k hr => ?_
    simp only [QS.icehouseref03_SameVal.l0, if_pos f1, if_pos f0, if_pos f2, r1, r2, w_succ i (by omega)]
    have d1 := List.drop_eq_getElem_cons h1
    have d2 := List.drop_eq_getElem_cons h2
    by_cases he : l[i] = m[i]
    · rw [if_pos he, hr, d1, d2]
      congr 1
      rw [decide_eq_decide, List.cons.injEq]
      exact ⟨fun h => ⟨he, h⟩, fun h => h.2⟩
    · rw [if_neg he, d1, d2]
      congr 1
      exact (decide_eq_false (fun h => he (List.cons.inj h).1)).symm
open Go.Proofs.YthaoiamgkpkcbaaDoor.Lex in
theorem rsame_ev (h h' : Bool) (l m : List Int) (hb : l.length < 9223372036854775807) : Since (fun k => QS.icehouseref03_SameVal.f k h l h' m) (sameV h l h' m) := by
  by_cases hlm : l.length = m.length
  · refine (rsame_l0 h h' l m hlm hb _ 0 rfl (Nat.zero_le _)).map fun k hr => ?_
    rw [List.drop_zero, List.drop_zero] at hr
    unfold QS.icehouseref03_SameVal.f sameV
    have e : (l.length : Int) = (m.length : Int) := by omega
    cases h <;> cases h' <;> simp [e]
    exact hr
  · refine ⟨0, fun k _ => ?_⟩
    unfold QS.icehouseref03_SameVal.f sameV
    have e : ¬ ((l.length : Int) = (m.length : Int)) := by omega
    have e2 : l ≠ m := by rintro rfl; exact hlm rfl
    cases h <;> cases h' <;> simp [e, e2]
section
variable {w : World} {A A' : Option Addr} {n n' d d' : Nat} {v v' : List Int}
end
end Go.Proofs.YthaoiamgkpkcbaaDoor.Tg
namespace Go.Proofs.YthaoiamgkpkcbaaDoor.Ms
open Go.ChangeShapes Go.WideShapes Go.ChangeAt Go.RowKit Go.Proofs.YthaoiamgkpkcbaaDoor.Pk Go.Proofs.YthaoiamgkpkcbaaDoor.Tg Go.Proofs.YthaoiamgkpkcbaaDoor.Enc Go.Proofs.YthaoiamgkpkcbaaDoor.EncC Go.Proofs.YthaoiamgkpkcbaaDoor.EncP
open Go.Proofs.YthaoiamgkpkcbaaDoor.Hlp Go.Proofs.YthaoiamgkpkcbaaDoor.Wrd Go.Proofs.YthaoiamgkpkcbaaDoor.Lex Go.Proofs.YthaoiamgkpkcbaaDoorW.PrintWords Go.Proofs.YthaoiamgkpkcbaaDoorW.PrintLast Go.Proofs.YthaoiamgkpkcbaaDoorW.PrintMore
set_option linter.unusedVariables false
set_option linter.unusedSimpArgs false
def sameX (x y : E6) : Bool := sameE x.f0 x.f1.f0 x.f1.f1 x.f1.f2 x.f2.f0 x.f2.f1 y.f0 y.f1.f0 y.f1.f1 y.f1.f2 y.f2.f0 y.f2.f1
def sameLs : List E6 → List E6 → Bool
  | [], [] => true
  | x :: l, y :: m => sameX x y && sameLs l m
  | _, _ => false
def sameM (a b : Ms) : Bool := decide (a.kind = b.kind ∧ a.fr = b.fr ∧ a.dst = b.dst ∧ a.ep = b.ep ∧ a.op = b.op ∧ a.n = b.n ∧ a.f = b.f) && (sameX a.e b.e && (sameLs a.L b.L && (decide (a.R = b.R) && decide (a.each = b.each ∧ a.keep = b.keep))))
theorem same03_ev (x y : E6) (hb : x.f2.f1.length < 9223372036854775807) : Since (fun k => QS.icehouseref03_Same.f k x.f0 x.f1.f0 x.f1.f1 x.f1.f2 x.f2.f0 x.f2.f1 y.f0 y.f1.f0 y.f1.f1 y.f1.f2 y.f2.f0 y.f2.f1) (sameX x y) := by
  refine (rsame_ev x.f2.f0 y.f2.f0 x.f2.f1 y.f2.f1 hb).map fun k hk => ?_
  unfold QS.icehouseref03_Same.f sameX sameE
  by_cases h0 : x.f0.toList = y.f0.toList
  · rw [if_pos h0, if_pos h0]
    by_cases h1 : (x.f1.f0 == y.f1.f0 && (x.f1.f1 == y.f1.f1 && (x.f1.f2 == y.f1.f2))) = true
    · rw [if_pos h1, if_pos h1, hk]; rfl
    · rw [if_neg h1, if_neg h1]
  · rw [if_neg h0, if_neg h0]
theorem rdS {l : List E6} {i : Nat} (h : i < l.length) : QL.rd_T28 l (i : Int) = l[i] := rd_E h
theorem all_l0 (l m : List E6) (hlm : l.length = m.length) (hb : l.length < 9223372036854775807) (hx : ∀ x ∈ l, x.f2.f1.length < 9223372036854775807) : ∀ (d i : Nat), l.length - i = d → i ≤ l.length → Since (fun k => QS.icehouseref03_SameAll.l0 k l m (i : Int)) (sameLs (l.drop i) (m.drop i)) := by
  intro d
  induction d with
  | zero =>
    intro i hd hi
    rw [List.drop_eq_nil_of_le (show l.length ≤ i by omega), List.drop_eq_nil_of_le (show m.length ≤ i by omega)]
    refine Since.none fun k => ?_
    simp only [QS.icehouseref03_SameAll.l0]
    rw [if_neg (by omega)]
    rfl
  | succ d ih =>
    intro i hd hi
    have h1 : i < l.length := by omega
    have h2 : i < m.length := by omega
    have hw : wrap64 ((i : Int) + 1) = ((i + 1 : Nat) : Int) := by unfold wrap64; omega
    rw [List.drop_eq_getElem_cons h1, List.drop_eq_getElem_cons h2]
    show Since _ (sameX l[i] m[i] && sameLs (l.drop (i + 1)) (m.drop (i + 1)))
    refine Since.two (same03_ev l[i] m[i] (hx _ (List.getElem_mem h1))) (ih (i + 1) (by omega) (by omega)) fun k ha hb => ?_
    simp only [QS.icehouseref03_SameAll.l0]
    rw [if_pos (by omega), if_pos (by omega), if_pos (by omega), rdS h1, rdS h2, ha, Option.bind_some, hw]
    cases sameX l[i] m[i]
    · rfl
    · rw [if_pos rfl, hb]; rfl
theorem sameLs_ne : ∀ {l m : List E6}, l.length ≠ m.length → sameLs l m = false
  | [], [], h => absurd rfl h
  | x :: l, y :: m, h => by
    unfold sameLs
    rw [sameLs_ne (l := l) (m := m) (fun e => h (by rw [List.length_cons, List.length_cons, e])), Bool.and_false]
  | [], y :: m, _ => rfl
  | x :: l, [], _ => rfl
theorem all_ev (l m : List E6) (hb : l.length < 9223372036854775807) (hx : ∀ x ∈ l, x.f2.f1.length < 9223372036854775807) : Since (fun k => QS.icehouseref03_SameAll.f k l m) (sameLs l m) := by
  by_cases h : l.length = m.length
  · refine (all_l0 l m h hb hx _ 0 rfl (Nat.zero_le _)).map fun k hk => ?_
    unfold QS.icehouseref03_SameAll.f
    rw [if_pos (by omega)]
    exact hk
  · rw [sameLs_ne h]
    refine ⟨0, fun k _ => ?_⟩
    show QS.icehouseref03_SameAll.f k l m = some false
    unfold QS.icehouseref03_SameAll.f
    rw [if_neg (by omega)]
theorem ints_l0 (l m : List Int) (hlm : l.length = m.length) (hb : l.length < 9223372036854775807) : ∀ (d i : Nat), l.length - i = d → i ≤ l.length → Since (fun k => QS.icehouseref00_SameInts.l0 k l m (i : Int)) (decide (l.drop i = m.drop i)) := by
  intro d
  induction d with
  | zero =>
    intro i hd hi
    rw [List.drop_eq_nil_of_le (show l.length ≤ i by omega), List.drop_eq_nil_of_le (show m.length ≤ i by omega)]
    refine Since.none fun k => ?_
    simp only [QS.icehouseref00_SameInts.l0]
    rw [if_neg (by omega)]
    rfl
  | succ d ih =>
    intro i hd hi
    have h1 : i < l.length := by omega
    have h2 : i < m.length := by omega
    have hw : wrap64 ((i : Int) + 1) = ((i + 1 : Nat) : Int) := by unfold wrap64; omega
    have r1 : rd l (i : Int) = l[i] := by simp [rd, h1]
    have r2 : rd m (i : Int) = m[i] := by simp [rd, h2]
    rw [List.drop_eq_getElem_cons h1, List.drop_eq_getElem_cons h2]
    by_cases hx : l[i] = m[i]
    · have hd2 : decide (l[i] :: l.drop (i + 1) = m[i] :: m.drop (i + 1)) = decide (l.drop (i + 1) = m.drop (i + 1)) := by
        rw [hx]; exact decide_eq_decide.2 ⟨fun h => by injection h, fun h => by rw [h]⟩
      rw [hd2]
      refine Since.one (ih (i + 1) (by omega) (by omega)) fun k hk => ?_
      simp only [QS.icehouseref00_SameInts.l0]
      rw [if_pos (by omega), if_pos (by omega), if_pos (by omega), r1, r2, if_pos hx, hw]
      exact hk
    · rw [decide_eq_false (fun h => hx (by injection h))]
      refine Since.none fun k => ?_
      simp only [QS.icehouseref00_SameInts.l0]
      rw [if_pos (by omega), if_pos (by omega), if_pos (by omega), r1, r2, if_neg hx]
theorem ints_ev (l m : List Int) (hb : l.length < 9223372036854775807) : Since (fun k => QS.icehouseref00_SameInts.f k l m) (decide (l = m)) := by
  by_cases h : l.length = m.length
  · refine (ints_l0 l m h hb _ 0 rfl (Nat.zero_le _)).map fun k hk => ?_
    unfold QS.icehouseref00_SameInts.f
    rw [if_pos (by omega)]
    exact hk
  · rw [decide_eq_false (fun e => h (by rw [e]))]
    refine ⟨0, fun k _ => ?_⟩
    show QS.icehouseref00_SameInts.f k l m = some false
    unfold QS.icehouseref00_SameInts.f
    rw [if_neg (by omega)]
theorem ring_same_ev (a b : Ms) (hb : a.R.length < 9223372036854775807) : Since (fun k => QS.icehouseref09_Same.f k a.R a.each a.keep b.R b.each b.keep) (decide (a.R = b.R) && decide (a.each = b.each ∧ a.keep = b.keep)) := by
  refine (ints_ev a.R b.R hb).map fun k hk => ?_
  unfold QS.icehouseref09_Same.f
  rw [hk, Option.bind_some]
  by_cases h1 : a.R = b.R
  · rw [decide_eq_true h1, if_pos rfl, Bool.true_and]
    by_cases h2 : a.each = b.each
    · rw [if_pos h2]
      congr 1
      by_cases h3 : a.keep = b.keep <;> simp [h2, h3]
    · rw [if_neg h2, decide_eq_false (fun h => h2 h.1)]
  · rw [decide_eq_false h1, if_neg (by decide)]; rfl
theorem sameM_no {a b : Ms} (h : ¬ (a.kind = b.kind ∧ a.fr = b.fr ∧ a.dst = b.dst ∧ a.ep = b.ep ∧ a.op = b.op ∧ a.n = b.n ∧ a.f = b.f)) : sameM a b = false := by
  unfold sameM
  rw [decide_eq_false h]; rfl
theorem sameM_yes {a b : Ms} (h : a.kind = b.kind ∧ a.fr = b.fr ∧ a.dst = b.dst ∧ a.ep = b.ep ∧ a.op = b.op ∧ a.n = b.n ∧ a.f = b.f) : sameM a b = (sameX a.e b.e && (sameLs a.L b.L && (decide (a.R = b.R) && decide (a.each = b.each ∧ a.keep = b.keep)))) := by
  unfold sameM
  rw [decide_eq_true h]; rfl
theorem same_ev (a b : Ms) (hv : a.e.f2.f1.length < 9223372036854775807) (hl : a.L.length < 9223372036854775807) (hx : ∀ x ∈ a.L, x.f2.f1.length < 9223372036854775807) (hr : a.R.length < 9223372036854775807) :
    ∃ K, QS.icehouseref12_Same.f K a.kind a.fr a.dst a.ep a.op a.n a.f a.e.f0 a.e.f1.f0 a.e.f1.f1 a.e.f1.f2 a.e.f2.f0 a.e.f2.f1 a.L a.R a.each a.keep b.kind b.fr b.dst b.ep b.op b.n b.f b.e.f0 b.e.f1.f0 b.e.f1.f1 b.e.f1.f2 b.e.f2.f0 b.e.f2.f1 b.L b.R b.each b.keep = some (sameM a b) := by
  obtain ⟨K1, h1⟩ := same03_ev a.e b.e hv
  obtain ⟨K2, h2⟩ := all_ev a.L b.L hl hx
  obtain ⟨K3, h3⟩ := ring_same_ev a b hr
  have e1 := h1 (K1 + K2 + K3) (by omega)
  have e2 := h2 (K1 + K2 + K3) (by omega)
  have e3 := h3 (K1 + K2 + K3) (by omega)
  dsimp only at e1 e2 e3
  refine ⟨K1 + K2 + K3 + 1, ?_⟩
  have hj : ∀ c, QS.icehouseref12_Same.j0 (K1 + K2 + K3 + 1) c a.kind a.fr a.dst a.ep a.op a.n a.f a.e.f0 a.e.f1.f0 a.e.f1.f1 a.e.f1.f2 a.e.f2.f0 a.e.f2.f1 a.L a.R a.each a.keep b.kind b.fr b.dst b.ep b.op b.n b.f b.e.f0 b.e.f1.f0 b.e.f1.f1 b.e.f1.f2 b.e.f2.f0 b.e.f2.f1 b.L b.R b.each b.keep = some (!c && (sameX a.e b.e && (sameLs a.L b.L && (decide (a.R = b.R) && decide (a.each = b.each ∧ a.keep = b.keep))))) := by
    intro c
    cases c
    · simp only [QS.icehouseref12_Same.j0]
      rw [if_neg (by decide), e1, Option.bind_some]
      cases sameX a.e b.e
      · rfl
      · rw [if_pos rfl, e2, Option.bind_some]
        cases sameLs a.L b.L
        · rfl
        · rw [if_pos rfl, e3]; rfl
    · simp only [QS.icehouseref12_Same.j0]; rfl
  unfold QS.icehouseref12_Same.f
  by_cases g1 : a.kind = b.kind
  · by_cases g2 : a.fr = b.fr
    · by_cases g3 : a.dst = b.dst
      · by_cases g4 : a.ep = b.ep
        · by_cases g5 : a.op = b.op
          · by_cases g6 : a.n = b.n
            · rw [if_pos g1, if_pos g2, if_pos g3, if_pos g4, if_pos g5, if_pos g6, hj]
              by_cases g7 : a.f = b.f
              · rw [sameM_yes ⟨g1, g2, g3, g4, g5, g6, g7⟩]; simp [g7]
              · rw [sameM_no (fun h => g7 h.2.2.2.2.2.2)]; simp [g7]
            · rw [if_pos g1, if_pos g2, if_pos g3, if_pos g4, if_pos g5, if_neg g6, hj, sameM_no (fun h => g6 h.2.2.2.2.2.1)]; rfl
          · rw [if_pos g1, if_pos g2, if_pos g3, if_pos g4, if_neg g5, hj, sameM_no (fun h => g5 h.2.2.2.2.1)]; rfl
        · rw [if_pos g1, if_pos g2, if_pos g3, if_neg g4, hj, sameM_no (fun h => g4 h.2.2.2.1)]; rfl
      · rw [if_pos g1, if_pos g2, if_neg g3, hj, sameM_no (fun h => g3 h.2.2.1)]; rfl
    · rw [if_pos g1, if_neg g2, hj, sameM_no (fun h => g2 h.2.1)]; rfl
  · rw [if_neg g1, hj, sameM_no (fun h => g1 h.1)]; rfl
theorem rsame_c {w : World} {a b : Ms} {p q : Pl} {r : Bool} (hr : sameM a b = r) (ha : Lies w a p) (hb : Lies w b q) (hv : a.e.f2.f1.length < 9223372036854775807) (hl : a.L.length < 9223372036854775807) (hx : ∀ x ∈ a.L, x.f2.f1.length < 9223372036854775807) (hR : a.R.length < 9223372036854775807) :
    Calls Tryd.prog 19 #[.agg (a.val p), .agg (b.val q)] w fun e w' => e = .returned (.bool r) ∧ Below w.heap.size w w' := by
  obtain ⟨K, hK⟩ := same_ev a b hv hl hx hR
  subst hr
  exact QS.icehouseref12_Same.calls K a.kind a.fr a.dst a.ep a.op a.n a.f a.e.f0 a.e.f1.f0 a.e.f1.f1 a.e.f1.f2 a.e.f2.f0 p.vA p.vc a.e.f2.f1 p.lA p.lc a.L p.rA p.rc a.R a.each a.keep b.kind b.fr b.dst b.ep b.op b.n b.f b.e.f0 b.e.f1.f0 b.e.f1.f1 b.e.f1.f2 b.e.f2.f0 q.vA q.vc b.e.f2.f1 q.lA q.lc b.L q.rA q.rc b.R b.each b.keep _ w ha.v ha.vc ha.l ha.lc ha.r ha.rc hb.v hb.vc hb.l hb.lc hb.r hb.rc hK
end Go.Proofs.YthaoiamgkpkcbaaDoor.Ms
namespace Go.Proofs.YthaoiamgkpkcbaaDoor.Ms
open Go Go.RowKit Go.Proofs.YthaoiamgkpkcbaaDoor.Pk Go.Proofs.YthaoiamgkpkcbaaDoor.Tg Go.Proofs.YthaoiamgkpkcbaaDoor.Enc Go.Proofs.YthaoiamgkpkcbaaDoor.EncP Go.Proofs.YthaoiamgkpkcbaaDoor.Seg
set_option linter.unusedVariables false
set_option linter.unusedSimpArgs false
/-- a step that reads some bytes -/
structure Rdr (F : Ms × St → Ms × St) (m m' : Ms) (X : List Int) : Prop where
  whole : ∀ r, F (m, ⟨X ++ r, 0⟩) = (m', ⟨r, 0⟩)
  cut : ∀ q, q < X.length → (F (m, ⟨X.take q, 0⟩)).2.e = 12
def Dead (F : Ms × St → Ms × St) : Prop := ∀ x : Ms × St, x.2.e ≠ 0 → (F x).2.e = x.2.e
theorem Dead.comp {F G : Ms × St → Ms × St} (hF : Dead F) (hG : Dead G) : Dead (fun x => G (F x)) := fun x h => by
  have h1 := hF x h
  rw [hG (F x) (by rw [h1]; exact h), h1]
theorem Rdr.comp {F G : Ms × St → Ms × St} {m m' m'' : Ms} {X Y : List Int} (hF : Rdr F m m' X) (hG : Rdr G m' m'' Y) (hd : Dead G) : Rdr (fun x => G (F x)) m m'' (X ++ Y) := by
  constructor
  · intro r
    show G (F (m, ⟨X ++ Y ++ r, 0⟩)) = _
    rw [List.append_assoc, hF.whole, hG.whole]
  · intro q hq
    show (G (F (m, ⟨(X ++ Y).take q, 0⟩))).2.e = 12
    by_cases h : q < X.length
    · rw [List.take_append_of_le_length (Nat.le_of_lt h)]
      have h1 := hF.cut q h
      rw [hd _ (by rw [h1]; decide), h1]
    · obtain ⟨q', rfl⟩ : ∃ q', q = X.length + q' := ⟨q - X.length, by omega⟩
      rw [List.take_length_add_append, hF.whole]
      rw [List.length_append] at hq
      exact hG.cut q' (by omega)
theorem Rdr.nil {m : Ms} : Rdr (fun x => x) m m [] := ⟨fun r => rfl, fun q hq => by cases hq⟩
theorem i64_of {n m : Int} (h : 0 ≤ n ∧ n ≤ m) (hm : m ≤ 9223372036854775807) : -9223372036854775808 ≤ n ∧ n ≤ 9223372036854775807 := by omega
/-- one number -/
theorem num_rdr {F : Ms × St → Ms × St} {m m' : Ms} {n B : Int} (h : 0 ≤ n ∧ n ≤ B - 1) (hB : B ≤ 9223372036854775807) (hF : ∀ s, F (m, s) = ((F (m, s)).1, (belowS B s).2)) (h1 : ∀ s, (belowS B s).1 = n → (F (m, s)).1 = m') : Rdr F m m' (numB n) := by
  constructor
  · intro r
    have hw := below_whole (n := n) (m := B) ⟨h.1, by omega⟩ (i64_of ⟨h.1, h.2⟩ (by omega)) r
    rw [hF, h1 _ (by rw [hw]), hw]
  · intro q hq
    rw [hF, below_cut q hq]
theorem num_dead {F : Ms × St → Ms × St} {B : Int} (hF : ∀ x, (F x).2 = (belowS B x.2).2) : Dead F := fun x h => by rw [hF, belowS_dead h]
theorem iter_succ' (f : Ms × St → Ms × St) : ∀ (n : Nat) (x : Ms × St), iter f (n + 1) x = iter f n (f x)
  | 0, x => rfl
  | n + 1, x => congrArg f (iter_succ' f n x)
theorem iter_dead {f : Ms × St → Ms × St} (h : Dead f) : ∀ n, Dead (iter f n)
  | 0 => fun x _ => rfl
  | n + 1 => fun x hx => by
    show (f (iter f n x)).2.e = _
    have h1 := iter_dead h n x hx
    rw [h _ (by rw [h1]; exact hx), h1]
theorem getS_dead {s : St} (h : s.e ≠ 0) : (getS s).2.e = s.e := by
  have h1 : rowS s = ([], s) := rowS_dead h
  rw [get_dead1 h1 h]
theorem lstep_dead : Dead lstep := fun x h => getS_dead h
theorem rstep_dead : Dead rstep := num_dead (fun x => rfl)
theorem toE_ent (x : E6) : toE ⟨Tg.bytesOf x.f0, x.f1.f0, x.f1.f1, x.f1.f2, x.f2.f0, x.f2.f1⟩ = x := by
  unfold toE; rw [str_of_bytes]
theorem ent_whole {x : E6} (h : okE x) (r : List Int) : getS ⟨entX x ++ r, 0⟩ = (⟨Tg.bytesOf x.f0, x.f1.f0, x.f1.f1, x.f1.f2, x.f2.f0, x.f2.f1⟩, ⟨r, 0⟩) := get_whole h r
theorem ent_rdr {F : Ms × St → Ms × St} {m m' : Ms} {x : E6} (h : okE x) (hF : ∀ s, F (m, s) = ((F (m, s)).1, (getS s).2)) (h1 : ∀ s, toE (getS s).1 = x → (F (m, s)).1 = m') : Rdr F m m' (entX x) := by
  constructor
  · intro r
    have hw := ent_whole h r
    rw [hF, h1 _ (by rw [hw]; exact toE_ent x), hw]
  · intro q hq
    obtain ⟨s, hs, he⟩ := get_cut h q hq
    rw [hF]
    show (getS ⟨(entX x).take q, 0⟩).2.e = 12
    rw [show getS ⟨(entX x).take q, 0⟩ = (En.zero, s) from hs]; exact he
theorem list_rdr : ∀ (L : List E6) (m : Ms), (∀ x ∈ L, okE x) → Rdr (iter lstep L.length) m { m with L := m.L ++ L } (entL L)
  | [], m, _ => by
    have : ({ m with L := m.L ++ [] } : Ms) = m := by rw [List.append_nil]
    rw [this]
    exact Rdr.nil
  | x :: L, m, h => by
    have e1 : entL (x :: L) = entX x ++ entL L := rfl
    have hx := ent_rdr (F := lstep) (m := m) (m' := { m with L := m.L ++ [x] }) (h x List.mem_cons_self) (fun s => rfl) (fun s hs => by show ({ m with L := m.L ++ [toE (getS s).1] } : Ms) = _; rw [hs])
    have hl := list_rdr L { m with L := m.L ++ [x] } (fun y hy => h y (List.mem_cons_of_mem _ hy))
    have hc := hx.comp hl (iter_dead lstep_dead _)
    have e2 : ({ ({ m with L := m.L ++ [x] } : Ms) with L := ({ m with L := m.L ++ [x] } : Ms).L ++ L } : Ms) = { m with L := m.L ++ x :: L } := by simp
    rw [e1, ← e2]
    have e3 : (fun y => iter lstep L.length (lstep y)) = iter lstep (x :: L).length := by funext y; exact (iter_succ' lstep L.length y).symm
    rw [← e3]
    exact hc
theorem nodes_rdr : ∀ (R : List Int) (m : Ms), (∀ x ∈ R, 0 ≤ x ∧ x ≤ 1048575) → Rdr (iter rstep R.length) m { m with R := m.R ++ R } (catB R)
  | [], m, _ => by
    have : ({ m with R := m.R ++ [] } : Ms) = m := by rw [List.append_nil]
    rw [this]
    exact Rdr.nil
  | x :: R, m, h => by
    have e1 : catB (x :: R) = numB x ++ catB R := rfl
    have hx := num_rdr (F := rstep) (m := m) (m' := { m with R := m.R ++ [x] }) (n := x) (B := 1048576) (h x List.mem_cons_self) (by decide) (fun s => rfl) (fun s hs => by show ({ m with R := m.R ++ [(belowS 1048576 s).1] } : Ms) = _; rw [hs])
    have hl := nodes_rdr R { m with R := m.R ++ [x] } (fun y hy => h y (List.mem_cons_of_mem _ hy))
    have hc := hx.comp hl (iter_dead rstep_dead _)
    have e2 : ({ ({ m with R := m.R ++ [x] } : Ms) with R := ({ m with R := m.R ++ [x] } : Ms).R ++ R } : Ms) = { m with R := m.R ++ x :: R } := by simp
    rw [e1, ← e2]
    have e3 : (fun y => iter rstep R.length (rstep y)) = iter rstep (x :: R).length := by funext y; exact (iter_succ' rstep R.length y).symm
    rw [← e3]
    exact hc
/-! the steps -/
def tail (h : Hs) (x : Ms × St) : Ms × St := gr h (gl h (ge h (gf h (gn h (gep (gfr x))))))
theorem getM_tail (s : St) : getM s = tail (hasV (g0 s).1.kind) (g0 s) := rfl
theorem two_dead {F : Ms × St → Ms × St} {A B : Int} (hF : ∀ x, (F x).2 = (belowS B (belowS A x.2).2).2) : Dead F := fun x h => by
  rw [hF, belowS_dead h, belowS_dead h]
theorem gep_dead : Dead gep := two_dead (fun x => rfl)
theorem gn_dead (h : Hs) : Dead (gn h) := fun x hx => by
  unfold gn; split
  · show (belowS _ x.2).2.e = _; rw [belowS_dead hx]
  · rfl
theorem gf_dead (h : Hs) : Dead (gf h) := fun x hx => by
  unfold gf; split
  · show (truthS x.2).2.e = _; rw [truthS_dead hx]
  · rfl
theorem ge_dead (h : Hs) : Dead (ge h) := fun x hx => by
  unfold ge; split
  · exact getS_dead hx
  · rfl
theorem gl_dead (h : Hs) : Dead (gl h) := fun x hx => by
  unfold gl; split
  · rw [belowS_dead hx]; rfl
  · rfl
theorem gk_dead : Dead gk := two_dead (fun x => rfl)
theorem gr_dead (h : Hs) : Dead (gr h) := fun x hx => by
  unfold gr; split
  · have h1 := gk_dead x hx
    have h2 : (gk x).2.e ≠ 0 := by rw [h1]; exact hx
    rw [belowS_dead h2]
    exact h1
  · rfl
theorem cut2 {X Y : List Int} {F G : Ms × St → Ms × St} {m m' m'' : Ms} (hF : Rdr F m m' X) (hG : Rdr G m' m'' Y) (hd : Dead G) {H : Ms × St → Ms × St} (hH : ∀ x, H x = G (F x)) : Rdr H m m'' (X ++ Y) := by
  have : H = fun x => G (F x) := funext hH
  rw [this]; exact hF.comp hG hd
theorem gfr_rdr (m : Ms) {a b : Int} (ha : 0 ≤ a ∧ a ≤ 1048575) (hb : 0 ≤ b ∧ b ≤ 1048575) : Rdr gfr m { m with fr := a, dst := b } (numB a ++ numB b) :=
  cut2 (F := fun x => ({ x.1 with fr := (belowS 1048576 x.2).1 }, (belowS 1048576 x.2).2)) (G := fun x => ({ x.1 with dst := (belowS 1048576 x.2).1 }, (belowS 1048576 x.2).2)) (m' := { m with fr := a })
    (num_rdr (B := 1048576) (n := a) ha (by decide) (fun s => rfl) (fun s hs => by show ({ m with fr := (belowS 1048576 s).1 } : Ms) = _; rw [hs]))
    (num_rdr (B := 1048576) (n := b) hb (by decide) (fun s => rfl) (fun s hs => by show ({ ({ m with fr := a } : Ms) with dst := (belowS 1048576 s).1 } : Ms) = _; rw [hs]))
    (num_dead (B := 1048576) (fun x => rfl)) (fun x => rfl)
theorem gep_rdr (m : Ms) {a b : Int} (ha : 0 ≤ a ∧ a ≤ 1099511627775) (hb : 0 ≤ b ∧ b ≤ 1099511627775) : Rdr gep m { m with ep := a, op := b } (numB a ++ numB b) :=
  cut2 (F := fun x => ({ x.1 with ep := (belowS 1099511627776 x.2).1 }, (belowS 1099511627776 x.2).2)) (G := fun x => ({ x.1 with op := (belowS 1099511627776 x.2).1 }, (belowS 1099511627776 x.2).2)) (m' := { m with ep := a })
    (num_rdr (B := 1099511627776) (n := a) ha (by decide) (fun s => rfl) (fun s hs => by show ({ m with ep := (belowS 1099511627776 s).1 } : Ms) = _; rw [hs]))
    (num_rdr (B := 1099511627776) (n := b) hb (by decide) (fun s => rfl) (fun s hs => by show ({ ({ m with ep := a } : Ms) with op := (belowS 1099511627776 s).1 } : Ms) = _; rw [hs]))
    (num_dead (B := 1099511627776) (fun x => rfl)) (fun x => rfl)
theorem gk_rdr (m : Ms) {a b : Int} (ha : 0 ≤ a ∧ a ≤ 64) (hb : 0 ≤ b ∧ b ≤ 64) : Rdr gk m { m with each := a, keep := b } (numB a ++ numB b) :=
  cut2 (F := fun x => ({ x.1 with each := (belowS 65 x.2).1 }, (belowS 65 x.2).2)) (G := fun x => ({ x.1 with keep := (belowS 65 x.2).1 }, (belowS 65 x.2).2)) (m' := { m with each := a })
    (num_rdr (B := 65) (n := a) ha (by decide) (fun s => rfl) (fun s hs => by show ({ m with each := (belowS 65 s).1 } : Ms) = _; rw [hs]))
    (num_rdr (B := 65) (n := b) hb (by decide) (fun s => rfl) (fun s hs => by show ({ ({ m with each := a } : Ms) with keep := (belowS 65 s).1 } : Ms) = _; rw [hs]))
    (num_dead (B := 65) (fun x => rfl)) (fun x => rfl)
/-- a count, and so many of something -/
theorem many_rdr {f : Ms × St → Ms × St} {m m' : Ms} {N : Nat} {B : Int} {Y : List Int} (hd : Dead f) (hN : (N : Int) ≤ B - 1) (hB : B ≤ 9223372036854775807) (hY : Rdr (iter f N) m m' Y) :
    Rdr (fun x => iter f (belowS B x.2).1.toNat (x.1, (belowS B x.2).2)) m m' (numB (N : Int) ++ Y) := by
  have hw := fun r => below_whole (n := (N : Int)) (m := B) ⟨Int.natCast_nonneg N, by omega⟩ (i64_of ⟨Int.natCast_nonneg N, hN⟩ (by omega)) r
  constructor
  · intro r
    show iter f (belowS B ⟨numB (N : Int) ++ Y ++ r, 0⟩).1.toNat (m, (belowS B ⟨numB (N : Int) ++ Y ++ r, 0⟩).2) = _
    rw [List.append_assoc, hw, Int.toNat_natCast, hY.whole]
  · intro q hq
    show (iter f (belowS B ⟨(numB (N : Int) ++ Y).take q, 0⟩).1.toNat (m, (belowS B ⟨(numB (N : Int) ++ Y).take q, 0⟩).2)).2.e = 12
    by_cases h : q < (numB (N : Int)).length
    · rw [List.take_append_of_le_length (Nat.le_of_lt h), below_cut q h]; rfl
    · obtain ⟨q', rfl⟩ : ∃ q', q = (numB (N : Int)).length + q' := ⟨q - (numB (N : Int)).length, by omega⟩
      rw [List.take_length_add_append, hw, Int.toNat_natCast]
      rw [List.length_append] at hq
      exact hY.cut q' (by omega)
theorem opt_rdr {F : Ms × St → Ms × St} {c : Bool} {m m' : Ms} {X : List Int} {G : Ms × St → Ms × St} (hF : ∀ x, F x = if c = true then G x else x) (h1 : c = true → Rdr G m m' X) (h0 : c = false → m' = m) : Rdr F m m' (if c = true then X else []) := by
  have : F = if c = true then G else fun x => x := by funext x; rw [hF]; split <;> rfl
  cases c
  · rw [this, h0 rfl]; exact Rdr.nil
  · rw [this]; exact h1 rfl
theorem rise_rng : ∀ {l : List Int} {a : Int}, -1 ≤ a → riseB a l = true → ∀ x ∈ l, 0 ≤ x ∧ x ≤ 1048575
  | [], _, _, _, x, hx => by cases hx
  | y :: l, a, ha, h, x, hx => by
    unfold riseB at h
    simp only [Bool.and_eq_true, decide_eq_true_eq] at h
    rcases List.mem_cons.1 hx with rfl | hx
    · omega
    · exact rise_rng (by omega) h.2 x hx
theorem zero_e {x : E6} (h : zeroB x = true) (h2 : x.f2.f1.length = 0) : x = zE := by
  unfold zeroB at h
  obtain ⟨h0, h3, h4, h5, h6⟩ := of_decide_eq_true h
  obtain ⟨k, ⟨a, b, c⟩, ⟨f, v⟩⟩ := x
  simp only at h0 h2 h3 h4 h5 h6
  subst h3 h4 h5 h6
  obtain rfl := List.length_eq_zero_iff.1 h2
  have : k = ⟨#[]⟩ := by
    rw [EncC.toList_eq] at h0
    obtain ⟨⟨l⟩⟩ := k
    simp only at h0
    subst h0; rfl
  rw [this]; rfl
def restB (m : Ms) : List Int := (numB m.fr ++ numB m.dst) ++ ((numB m.ep ++ numB m.op) ++ ((if (hasV m.kind).n = true then numB m.n else []) ++ ((if (hasV m.kind).f = true then truthB m.f else []) ++ ((if (hasV m.kind).e = true then entX m.e else []) ++ ((if (hasV m.kind).l = true then numB (m.L.length : Int) ++ entL m.L else []) ++ (if (hasV m.kind).r = true then (numB m.each ++ numB m.keep) ++ (numB (m.R.length : Int) ++ catB m.R) else []))))))
theorem bytesM_eq (m : Ms) : bytesM m = numB m.kind ++ restB m := by
  unfold bytesM b5 b4 b3 b2 b1 restB catB
  simp only [List.map_cons, List.map_nil, List.flatten_cons, List.flatten_nil, List.append_nil, List.append_assoc]
theorem tail_rdr {m : Ms} (ok : Okm m) : Rdr (tail (hasV m.kind)) { zM with kind := m.kind } m (restB m) := by
  obtain ⟨kd, fr, dst, ep, op, n, f, e, L, R, each, keep⟩ := m
  obtain ⟨b, hb⟩ : ∃ b, hasV kd = b := ⟨_, rfl⟩
  have k1 := ok.fr; have k2 := ok.dst; have k3 := ok.ep; have k4 := ok.op; have k5 := ok.n
  have n0 := ok.n0; have f0 := ok.f0; have l0 := ok.l0; have len := ok.len; have all := ok.all; have e1 := ok.e1; have e0 := ok.e0; have r1 := ok.r1; have r0 := ok.r0
  simp only at k1 k2 k3 k4 k5 n0 f0 l0 len all e1 e0 r1 r0
  unfold restB
  simp only
  rw [hb] at n0 f0 l0 e1 e0 r1 r0 ⊢
  refine cut2 (F := gfr) (G := fun x => gr b (gl b (ge b (gf b (gn b (gep x)))))) (gfr_rdr _ k1 k2) ?_ (((((gep_dead.comp (gn_dead b)).comp (gf_dead b)).comp (ge_dead b)).comp (gl_dead b)).comp (gr_dead b)) (fun x => rfl)
  refine cut2 (F := gep) (G := fun x => gr b (gl b (ge b (gf b (gn b x))))) (gep_rdr _ k3 k4) ?_ ((((gn_dead b).comp (gf_dead b)).comp (ge_dead b)).comp (gl_dead b) |>.comp (gr_dead b)) (fun x => rfl)
  refine cut2 (F := gn b) (G := fun x => gr b (gl b (ge b (gf b x)))) (m' := ⟨kd, fr, dst, ep, op, n, false, zE, [], [], 0, 0⟩) (opt_rdr (G := fun x => ({ x.1 with n := (belowS 1099511627776 x.2).1 }, (belowS 1099511627776 x.2).2)) (fun x => rfl) (fun _ => ?_) (fun h => ?_)) ?_ (((gf_dead b).comp (ge_dead b)).comp (gl_dead b) |>.comp (gr_dead b)) (fun x => rfl)
  · exact num_rdr (B := 1099511627776) (n := n) k5 (by decide) (fun s => rfl) (fun s hs => by show (⟨kd, fr, dst, ep, op, (belowS 1099511627776 s).1, false, zE, [], [], 0, 0⟩ : Ms) = _; rw [hs])
  · rcases n0 with h2 | h2
    · rw [h] at h2; cases h2
    · rw [h2]; rfl
  refine cut2 (F := gf b) (G := fun x => gr b (gl b (ge b x))) (m' := ⟨kd, fr, dst, ep, op, n, f, zE, [], [], 0, 0⟩) (opt_rdr (G := fun x => ({ x.1 with f := (truthS x.2).1 }, (truthS x.2).2)) (fun x => rfl) (fun _ => ⟨fun r => ?_, fun q hq => ?_⟩) (fun h => ?_)) ?_ ((ge_dead b).comp (gl_dead b) |>.comp (gr_dead b)) (fun x => rfl)
  · show (({ (⟨kd, fr, dst, ep, op, n, false, zE, [], [], 0, 0⟩ : Ms) with f := (truthS ⟨truthB f ++ r, 0⟩).1 } : Ms), (truthS ⟨truthB f ++ r, 0⟩).2) = _
    rw [truth_whole]
  · have hq0 : q = 0 := by have : (truthB f).length = 1 := by unfold truthB; split <;> rfl
                           omega
    subst hq0
    rfl
  · rcases f0 with h2 | h2
    · rw [h] at h2; cases h2
    · rw [h2]
  refine cut2 (F := ge b) (G := fun x => gr b (gl b x)) (m' := ⟨kd, fr, dst, ep, op, n, f, e, [], [], 0, 0⟩) (opt_rdr (G := fun x => ({ x.1 with e := toE (getS x.2).1 }, (getS x.2).2)) (fun x => rfl) (fun h => ?_) (fun h => ?_)) ?_ ((gl_dead b).comp (gr_dead b)) (fun x => rfl)
  · exact ent_rdr (e1 h) (fun s => rfl) (fun s hs => by show (⟨kd, fr, dst, ep, op, n, f, toE (getS s).1, [], [], 0, 0⟩ : Ms) = _; rw [hs])
  · obtain ⟨h2, h3⟩ := e0 h
    rw [zero_e h2 h3]
  refine cut2 (F := gl b) (G := gr b) (m' := ⟨kd, fr, dst, ep, op, n, f, e, L, [], 0, 0⟩) (opt_rdr (G := fun x => iter lstep (belowS 1001 x.2).1.toNat (x.1, (belowS 1001 x.2).2)) (fun x => rfl) (fun h => ?_) (fun h => ?_)) ?_ (gr_dead b) (fun x => rfl)
  · refine many_rdr (B := 1001) lstep_dead (by omega) (by decide) ?_
    have := list_rdr L ⟨kd, fr, dst, ep, op, n, f, e, [], [], 0, 0⟩ all
    simpa using this
  · rcases l0 with h2 | h2
    · rw [h] at h2; cases h2
    · rw [List.length_eq_zero_iff.1 h2]
  refine opt_rdr (G := fun x => iter rstep (belowS 65 (gk x).2).1.toNat ((gk x).1, (belowS 65 (gk x).2).2)) (fun x => rfl) (fun h => ?_) (fun h => ?_)
  · have hr := r1 h
    have hlen := ring_len hr
    unfold ringB at hr
    simp only [Bool.and_eq_true, decide_eq_true_eq] at hr
    refine cut2 (F := gk) (G := fun x => iter rstep (belowS 65 x.2).1.toNat (x.1, (belowS 65 x.2).2)) (gk_rdr _ (a := each) (b := keep) (by omega) (by omega)) ?_ ?_ (fun x => rfl)
    · refine many_rdr (B := 65) rstep_dead (by omega) (by decide) ?_
      have := nodes_rdr R ⟨kd, fr, dst, ep, op, n, f, e, L, [], each, keep⟩ (rise_rng (by decide) hr.1.2)
      simpa using this
    · intro x hx
      show (iter rstep (belowS 65 x.2).1.toNat (x.1, (belowS 65 x.2).2)).2.e = _
      rw [belowS_dead hx]; rfl
  · have h2 := r0 h
    unfold noneB at h2
    obtain ⟨h3, h4, h5⟩ := of_decide_eq_true h2
    rw [List.length_eq_zero_iff.1 h3, h4, h5]
theorem getM_whole {m : Ms} (ok : Okm m) (r : List Int) : getM ⟨bytesM m ++ r, 0⟩ = (m, ⟨r, 0⟩) := by
  have hk := ok.kd
  have hw := below_whole (n := m.kind) (m := 18) ⟨by omega, by omega⟩ (by omega) (restB m ++ r)
  have h0 : g0 ⟨bytesM m ++ r, 0⟩ = ({ zM with kind := m.kind }, ⟨restB m ++ r, 0⟩) := by
    unfold g0
    rw [bytesM_eq, List.append_assoc, hw]
    simp only
    rw [if_neg (by omega)]
  rw [getM_tail, h0]
  exact (tail_rdr ok).whole r
/-! what Read tells of a message's bytes -/
theorem readM_whole {m : Ms} (ok : Okm m) : readM (bytesM m) = (m, 0) := by
  have h := getM_whole ok []
  rw [List.append_nil] at h
  unfold readM
  rw [h]
  simp only
  rw [if_pos (show endP [] 0 = 0 from rfl), if_pos ((okm_iff m).2 ok)]
theorem bytesM_inj {m m' : Ms} (ok : Okm m) (ok' : Okm m') (h : bytesM m = bytesM m') : m = m' := by
  have h1 := readM_whole ok
  rw [h, readM_whole ok'] at h1
  injection h1 with h1 _
  exact h1.symm
end Go.Proofs.YthaoiamgkpkcbaaDoor.Ms
namespace Go.Proofs.YthaoiamgkpkcbaaDoor.Ms
open Go.ChangeShapes Go.WideShapes Go.ChangeAt Go.RowKit Go.Proofs.YthaoiamgkpkcbaaDoor.Pk Go.Proofs.YthaoiamgkpkcbaaDoor.Tg Go.Proofs.YthaoiamgkpkcbaaDoor.Enc Go.Proofs.YthaoiamgkpkcbaaDoor.EncC Go.Proofs.YthaoiamgkpkcbaaDoor.EncP
open Go.Proofs.YthaoiamgkpkcbaaDoor.Hlp Go.Proofs.YthaoiamgkpkcbaaDoor.Wrd Go.Proofs.YthaoiamgkpkcbaaDoor.Lex Go.Proofs.YthaoiamgkpkcbaaDoorW.PrintWords Go.Proofs.YthaoiamgkpkcbaaDoorW.PrintLast Go.Proofs.YthaoiamgkpkcbaaDoorW.PrintMore
set_option linter.unusedVariables false
set_option linter.unusedSimpArgs false
theorem tl_inj {a b : ByteArray} (h : a.toList = b.toList) : a = b := by
  rw [EncC.toList_eq, EncC.toList_eq] at h
  exact ByteArray.ext (Array.toList_inj.1 h)
theorem sameX_self (x : E6) : sameX x x = true := sameE_self _ _ _ _ _ _
theorem sameLs_self : ∀ l : List E6, sameLs l l = true
  | [] => rfl
  | x :: l => by
    unfold sameLs
    rw [sameX_self, sameLs_self l]; rfl
theorem sameM_self (m : Ms) : sameM m m = true := by
  rw [sameM_yes ⟨rfl, rfl, rfl, rfl, rfl, rfl, rfl⟩, sameX_self, sameLs_self, decide_eq_true rfl, decide_eq_true ⟨rfl, rfl⟩]; rfl
theorem sameX_eq {x y : E6} (hx : okE x) (hy : okE y) (h : sameX x y = true) : x = y := by
  obtain ⟨k, ⟨a, b, c⟩, ⟨d, v⟩⟩ := x
  obtain ⟨k', ⟨a', b', c'⟩, ⟨d', v'⟩⟩ := y
  have h1 : d = false → v.length = 0 := hx.2.2.2.1
  have h2 : d' = false → v'.length = 0 := hy.2.2.2.1
  have h0 : sameE k a b c d v k' a' b' c' d' v' = true := h
  unfold sameE at h0
  by_cases e1 : k.toList = k'.toList
  · rw [if_pos e1] at h0
    by_cases e2 : (a == a' && (b == b' && (c == c'))) = true
    · rw [if_pos e2] at h0
      rw [Bool.and_eq_true, Bool.and_eq_true, beq_iff_eq, beq_iff_eq, beq_iff_eq] at e2
      obtain ⟨rfl, rfl, rfl⟩ := e2
      obtain rfl := tl_inj e1
      unfold sameV at h0
      cases d <;> cases d'
      · rw [List.eq_nil_of_length_eq_zero (h1 rfl), List.eq_nil_of_length_eq_zero (h2 rfl)]
      · cases h0
      · cases h0
      · rw [if_pos rfl, if_pos rfl] at h0
        rw [of_decide_eq_true h0]
    · rw [if_neg e2] at h0; cases h0
  · rw [if_neg e1] at h0; cases h0
theorem sameLs_eq : ∀ {l m : List E6}, (∀ x ∈ l, okE x) → (∀ x ∈ m, okE x) → sameLs l m = true → l = m
  | [], [], _, _, _ => rfl
  | x :: l, y :: m, hl, hm, h => by
    unfold sameLs at h
    rw [Bool.and_eq_true] at h
    rw [sameX_eq (hl _ List.mem_cons_self) (hm _ List.mem_cons_self) h.1, sameLs_eq (fun z hz => hl z (List.mem_cons_of_mem _ hz)) (fun z hz => hm z (List.mem_cons_of_mem _ hz)) h.2]
  | [], y :: m, _, _, h => by cases h
  | x :: l, [], _, _, h => by cases h
theorem sameM_eq {a b : Ms} (ok : Okm a) (ok' : Okm b) (h : sameM a b = true) : a = b := by
  by_cases g : a.kind = b.kind ∧ a.fr = b.fr ∧ a.dst = b.dst ∧ a.ep = b.ep ∧ a.op = b.op ∧ a.n = b.n ∧ a.f = b.f
  · rw [sameM_yes g, Bool.and_eq_true, Bool.and_eq_true, Bool.and_eq_true, decide_eq_true_eq, decide_eq_true_eq] at h
    obtain ⟨he, hL, hR, hE, hk⟩ := h
    obtain ⟨g1, g2, g3, g4, g5, g6, g7⟩ := g
    have hL' := sameLs_eq ok.all ok'.all hL
    have hee : a.e = b.e := by
      cases hh : (hasV a.kind).e
      · have z1 := ok.e0 hh
        have z2 := ok'.e0 (by rw [← g1]; exact hh)
        rw [zero_e z1.1 z1.2, zero_e z2.1 z2.2]
      · exact sameX_eq (ok.e1 hh) (ok'.e1 (by rw [← g1]; exact hh)) he
    cases a; cases b
    simp only at g1 g2 g3 g4 g5 g6 g7 hee hL' hR hE hk
    subst g1; subst g2; subst g3; subst g4; subst g5; subst g6; subst g7; subst hee; subst hL'; subst hR; subst hE; subst hk
    rfl
  · rw [sameM_no g] at h; cases h
theorem heads_eq {a b : Ms} (ok : Okm a) (ok' : Okm b) : sameM a b = decide (bytesM a = bytesM b) := by
  by_cases e : bytesM a = bytesM b
  · obtain rfl := bytesM_inj ok ok' e
    rw [sameM_self, decide_eq_true rfl]
  · rw [decide_eq_false e]
    cases h : sameM a b
    · rfl
    · exact absurd (by rw [sameM_eq ok ok' h]) e
theorem by_app {x y : List Int} (hx : Bytes x) (hy : Bytes y) : Bytes (x ++ y) := fun z hz => by
  rcases List.mem_append.1 hz with h | h
  · exact hx z h
  · exact hy z h
theorem by_nil0 : Bytes [] := fun z hz => by cases hz
theorem by_if {c : Prop} [Decidable c] {x : List Int} (hx : c → Bytes x) : Bytes (if c then x else []) := by
  split
  · next h => exact hx h
  · exact by_nil0
theorem by_cat : ∀ l : List Int, Bytes (catB l) := fun l z hz => by
  unfold catB at hz
  obtain ⟨y, hy, hz⟩ := List.mem_flatten.1 hz
  obtain ⟨n, hn, rfl⟩ := List.mem_map.1 hy
  exact numB_bytes n z hz
theorem by_ent {x : E6} (h : Bytes x.f2.f1) : Bytes (entX x) := entB_byte h
theorem by_entL {l : List E6} (h : ∀ x ∈ l, Bytes x.f2.f1) : Bytes (entL l) := fun z hz => by
  unfold entL at hz
  obtain ⟨y, hy, hz⟩ := List.mem_flatten.1 hz
  obtain ⟨n, hn, rfl⟩ := List.mem_map.1 hy
  exact by_ent (h n hn) z hz
theorem by_bytesM {m : Ms} (h : Bytes m.e.f2.f1) (hl : ∀ x ∈ m.L, Bytes x.f2.f1) : Bytes (bytesM m) := by
  unfold bytesM b5 b4 b3 b2 b1
  exact by_app (by_app (by_app (by_app (by_app (by_cat _) (by_if fun _ => by_cat _)) (by_if fun _ => Seg.truthB_byte _)) (by_if fun _ => by_ent h)) (by_if fun _ => by_app (by_cat _) (by_entL hl))) (by_if fun _ => by_app (by_cat _) (by_cat _))
theorem heads_str {a b : Ms} (ok : Okm a) (ok' : Okm b) (h1 : Bytes a.e.f2.f1) (h2 : ∀ x ∈ a.L, Bytes x.f2.f1) (h3 : Bytes b.e.f2.f1) (h4 : ∀ x ∈ b.L, Bytes x.f2.f1) : ((strOfNums (bytesM a)).toList == (strOfNums (bytesM b)).toList) = sameM a b := by
  rw [str_eq (by_bytesM h1 h2) (by_bytesM h3 h4), heads_eq ok ok']
end Go.Proofs.YthaoiamgkpkcbaaDoor.Ms
namespace Go.Proofs.YthaoiamgkpkcbaaDoor.Ms
open Go.ChangeShapes Go.WideShapes Go.ChangeAt Go.RowKit Go.Proofs.YthaoiamgkpkcbaaDoor.Pk Go.Proofs.YthaoiamgkpkcbaaDoor.Tg Go.Proofs.YthaoiamgkpkcbaaDoor.Enc Go.Proofs.YthaoiamgkpkcbaaDoor.EncC Go.Proofs.YthaoiamgkpkcbaaDoor.EncP
open Go.Proofs.YthaoiamgkpkcbaaDoor.Hlp Go.Proofs.YthaoiamgkpkcbaaDoor.Wrd Go.Proofs.YthaoiamgkpkcbaaDoor.Lex Go.Proofs.YthaoiamgkpkcbaaDoorW.PrintWords Go.Proofs.YthaoiamgkpkcbaaDoorW.PrintLast Go.Proofs.YthaoiamgkpkcbaaDoorW.PrintMore
set_option linter.unusedVariables false
set_option linter.unusedSimpArgs false
theorem ok_or_two (m : Ms) : Okm m ∨ checkM m = 2 := by
  unfold checkM
  by_cases h : a4 m = true
  · left; exact (okm_iff m).1 h
  · right; exact if_neg h
/-- what msgs.Bytes answers -/
def Bt (m : Ms) (w : World) (e : Ending) (w' : World) : Prop := ∃ A n c x xs, e = .returned (.tuple #[.slice A n c, .int .i64 x]) ∧ Kd.C (Kd.int .u8) w' A n xs ∧ (x = 0 ∧ xs = bytesM m ∧ Okm m ∨ x = 2) ∧ Below w.heap.size w w'
theorem bytes_any {w : World} {m : Ms} {p : Pl} (hK : Kin w) (hm : Lies w m p) (hv : Bytes m.e.f2.f1) (hR : m.R.length < 9223372036854775807) :
    Calls Tryd.prog 12 #[.agg (m.val p)] w (Bt m w) := by
  rcases ok_or_two m with ok | h2
  · refine (bytes_ok hK hm hv hR ok).mono ?_
    rintro e w' ⟨v, rfl, hR3, hb⟩
    obtain ⟨A3, k3, rfl, hc3, hC3⟩ := Kd.R_reads hR3
    exact ⟨A3, _, k3, 0, _, rfl, hC3, Or.inl ⟨rfl, rfl, ok⟩, hb⟩
  · refine (bytes_no hK hm hv hR h2).mono ?_
    rintro e w' ⟨rfl, hb⟩
    exact ⟨none, 0, 0, 2, [], rfl, Kd.C_nil _ _, Or.inr rfl, hb⟩
theorem heads_S {w : World} {X Y : Nat} {a b : Ms} {p q : Pl} {A1 A2 : Option Addr} {n1 n2 c1 c2 : Nat} {xs ys : List Int} (h1 : Kd.C (Kd.int .u8) w A1 n1 xs) (h2 : Kd.C (Kd.int .u8) w A2 n2 ys) (ba : w.heap[X]? = some (.cells (a.val p) 34 (0, 0))) (bb : w.heap[Y]? = some (.cells (b.val q) 34 (0, 0))) :
    (Go.convert 24 9 (.slice A1 n1 c1)).run Tryd.prog w = .ok (.string (strOfNums xs)) w ∧ (Go.convert 24 9 (.slice A2 n2 c2)).run Tryd.prog w = .ok (.string (strOfNums ys)) w ∧ w.cell? ⟨X, 0, none⟩ = some (.int .i64 a.kind) ∧ w.cell? ⟨X, 1, none⟩ = some (.int .i64 a.fr) ∧ w.cell? ⟨X, 2, none⟩ = some (.int .i64 a.dst) ∧ w.cell? ⟨X, 3, none⟩ = some (.int .i64 a.ep) ∧ w.cell? ⟨X, 4, none⟩ = some (.int .i64 a.op) ∧ w.cell? ⟨X, 5, none⟩ = some (.int .i64 a.n) ∧ w.cell? ⟨X, 6, none⟩ = some (.bool a.f) ∧ w.cell? ⟨X, 7, none⟩ = some (.string a.e.f0) ∧ w.cell? ⟨X, 8, none⟩ = some (.int .i64 a.e.f1.f0) ∧ w.cell? ⟨X, 9, none⟩ = some (.int .i64 a.e.f1.f1) ∧ w.cell? ⟨X, 10, none⟩ = some (.int .i64 a.e.f1.f2) ∧ w.cell? ⟨X, 11, none⟩ = some (.bool a.e.f2.f0) ∧ w.cell? ⟨X, 12, none⟩ = some (.slice p.vA a.e.f2.f1.length p.vc) ∧ w.cell? ⟨X, 13, none⟩ = some (.slice p.lA a.L.length p.lc) ∧ w.cell? ⟨X, 14, none⟩ = some (.slice p.rA a.R.length p.rc) ∧ w.cell? ⟨X, 15, none⟩ = some (.int .i64 a.each) ∧ w.cell? ⟨X, 16, none⟩ = some (.int .i64 a.keep) ∧ w.cell? ⟨Y, 0, none⟩ = some (.int .i64 b.kind) ∧ w.cell? ⟨Y, 1, none⟩ = some (.int .i64 b.fr) ∧ w.cell? ⟨Y, 2, none⟩ = some (.int .i64 b.dst) ∧ w.cell? ⟨Y, 3, none⟩ = some (.int .i64 b.ep) ∧ w.cell? ⟨Y, 4, none⟩ = some (.int .i64 b.op) ∧ w.cell? ⟨Y, 5, none⟩ = some (.int .i64 b.n) ∧ w.cell? ⟨Y, 6, none⟩ = some (.bool b.f) ∧ w.cell? ⟨Y, 7, none⟩ = some (.string b.e.f0) ∧ w.cell? ⟨Y, 8, none⟩ = some (.int .i64 b.e.f1.f0) ∧ w.cell? ⟨Y, 9, none⟩ = some (.int .i64 b.e.f1.f1) ∧ w.cell? ⟨Y, 10, none⟩ = some (.int .i64 b.e.f1.f2) ∧ w.cell? ⟨Y, 11, none⟩ = some (.bool b.e.f2.f0) ∧ w.cell? ⟨Y, 12, none⟩ = some (.slice q.vA b.e.f2.f1.length q.vc) ∧ w.cell? ⟨Y, 13, none⟩ = some (.slice q.lA b.L.length q.lc) ∧ w.cell? ⟨Y, 14, none⟩ = some (.slice q.rA b.R.length q.rc) ∧ w.cell? ⟨Y, 15, none⟩ = some (.int .i64 b.each) ∧ w.cell? ⟨Y, 16, none⟩ = some (.int .i64 b.keep) := by
  obtain ⟨e0, e1, e2, e3, e4, e5, e6, e7, e8, e9, ea, eb, ec, ed, ee, ef, eg⟩ := ms_cells ba
  obtain ⟨f0, f1, f2, f3, f4, f5, f6, f7, f8, f9, fa, fb, fc, fd, fe, ff, fg⟩ := ms_cells bb
  exact ⟨conv_str h1, conv_str h2, e0, e1, e2, e3, e4, e5, e6, e7, e8, e9, ea, eb, ec, ed, ee, ef, eg, f0, f1, f2, f3, f4, f5, f6, f7, f8, f9, fa, fb, fc, fd, fe, ff, fg⟩
set_option maxHeartbeats 8000000 in
set_option maxRecDepth 100000 in
theorem heads_law {w : World} {a b : Ms} {p q : Pl} (hK : Kin w) (ha : Lies w a p) (hb : Lies w b q) (wa : Opn.Wm a) (wb : Opn.Wm b) :
    Calls Tryd.prog 7 #[.agg (a.val p), .agg (b.val q)] w fun e w' => e = .returned (.bool true) ∧ Below w.heap.size w w' := by
  have HB0 := Aside0.mk (below_then (below_alloc (Below.refl w.heap.size w) (.cells (a.val p) 34)) (below_alloc (Below.refl w.heap.size w) (.cells (a.val p) 34)).size (below_alloc (Below.refl _ (w.alloc (.cells (a.val p) 34))) (.cells (b.val q) 34)))
  have BA := Aside0.mk (blk_alloc (blk_new w (.cells (a.val p) 34)) (.cells (b.val q) 34))
  have BB : Aside0 (((w.alloc (.cells (a.val p) 34)).alloc (.cells (b.val q) 34)).heap[w.heap.size + 1]? = some (.cells (b.val q) 34 (0, 0))) := ⟨by have h := blk_new (w.alloc (.cells (a.val p) 34)) (.cells (b.val q) 34); rwa [show (w.alloc (.cells (a.val p) 34)).heap.size = w.heap.size + 1 from Array.size_push ..] at h⟩
  have HK := Aside0.mk hK
  have HA := Aside0.mk ha
  have HB := Aside0.mk hb
  clear hK ha hb
  go_enter Tryd.func7, Tryd.ntmps7
  go_upto_region 1 with fail
  obtain ⟨Y, hY⟩ : ∃ Y, w.heap.size + 1 = Y := ⟨_, rfl⟩
  rw [hY] at BB ⊢
  clear hY
  have hla : a.L.length < 9223372036854775807 := by have := wa.ll; omega
  have hlb : b.L.length < 9223372036854775807 := by have := wb.ll; omega
  have hRa : a.R.length < 9223372036854775807 := by have := wa.rl; omega
  have hRb : b.R.length < 9223372036854775807 := by have := wb.rl; omega
  generalize (w.alloc (.cells (a.val p) 34)).alloc (.cells (b.val q) 34) = W at *
  go_upto_if 14 with (first
    | (refine wpList_load_row rfl 34 (.tmp 2) rfl w.heap.size rfl 34 (a.val p) (0, 0) _ BA.out Tryd.underlying34 rfl (by kernel_rfl) ?_)
    | (go_at_call 10; (with_reducible refine (long_c (HA.out.below HB0.out) hla).mono ?_); rintro x w1 ⟨⟨r, rfl⟩, hb⟩; have HB1 := Aside0.mk (HB0.out.trans (hb.mono HB0.out.size)); have BA1 := Aside0.mk ((hb.block _ (blk_lt BA.out)).trans BA.out); have BB1 := Aside0.mk ((hb.block _ (blk_lt BB.out)).trans BB.out); obtain ⟨d0, d1, d2, d3, d4, d5, d6, d7, d8, d9, d10, d11, d12, d13, d14, d15, d16⟩ := ms_cells BB1.out; clear hb; cases r)
    | (go_at_call 10; (with_reducible refine (long_c (HB.out.below HB1.out) hlb).mono ?_); rintro x w2 ⟨⟨r2, rfl⟩, hb⟩; have HB2 := Aside0.mk (HB1.out.trans (hb.mono HB1.out.size)); have BA2 := Aside0.mk ((hb.block _ (blk_lt BA1.out)).trans BA1.out); have BB2 := Aside0.mk ((hb.block _ (blk_lt BB1.out)).trans BB1.out); clear hb d0 d1 d2 d3 d4 d5 d6 d7 d8 d9 d10 d11 d12 d13 d14 d15 d16; cases r2))
  · as_aux_lemma =>
    go_upto_region 4 with (first
      | (refine wpList_load_row rfl 34 (.tmp 2) rfl w.heap.size rfl 34 (a.val p) (0, 0) _ BA2.out Tryd.underlying34 rfl (by kernel_rfl) ?_)
      | (go_at_call 12; (with_reducible refine (bytes_any (HK.out.below HB2.out) (HA.out.below HB2.out) wa.e hRa).mono ?_); rintro x w3 ⟨A1, n1, c1, x1, xs, rfl, hC, hx, hb⟩; have HC1 := Aside0.mk hC; have HX1 := Aside0.mk hx; have HB3 := Aside0.mk (HB2.out.trans (hb.mono HB2.out.size)); have BA3 := Aside0.mk ((hb.block _ (blk_lt BA2.out)).trans BA2.out); have BB3 := Aside0.mk ((hb.block _ (blk_lt BB2.out)).trans BB2.out); clear hb hC hx))
    go_upto_region 5 with (first
      | (refine wpList_load_row rfl 34 (.tmp 3) rfl Y rfl 34 (b.val q) (0, 0) _ BB3.out Tryd.underlying34 rfl (by kernel_rfl) ?_)
      | (go_at_call 12; (with_reducible refine (bytes_any (HK.out.below HB3.out) (HB.out.below HB3.out) wb.e hRb).mono ?_); rintro x w4 ⟨A2, n2, c2, x2, ys, rfl, hC, hx, hb⟩; have HC2 := Aside0.mk hC; have HX2 := Aside0.mk hx; have HC1 := Aside0.mk (Kd.C_below HC1.out hb); have HB4 := Aside0.mk (HB3.out.trans (hb.mono HB3.out.size)); have BA4 := Aside0.mk ((hb.block _ (blk_lt BA3.out)).trans BA3.out); have BB4 := Aside0.mk ((hb.block _ (blk_lt BB3.out)).trans BB3.out); clear hb hC hx))
    clear HB3 HB2 HB1 HB0 BA3 BB3 BA2 BB2 BA1 BB1 BA BB
    rcases HX1.out with ⟨rfl, hxs, oka⟩ | rfl
    · rcases HX2.out with ⟨rfl, hys, okb⟩ | rfl
      · go_upto_region 7 with fail
        have hstr := heads_str oka okb wa.e (fun x hx => (wa.l x hx).1) wb.e (fun x hx => (wb.l x hx).1)
        rw [← hxs, ← hys] at hstr
        have Hva : a.e.f2.f1.length < 9223372036854775807 := by have := wa.el; omega
        have Hxa : Aside0 (∀ x ∈ a.L, x.f2.f1.length < 9223372036854775807) := ⟨fun x hx => by have := (wa.l x hx).2; omega⟩
        obtain ⟨s1, hs1⟩ : ∃ s, strOfNums xs = s := ⟨_, rfl⟩
        obtain ⟨s2, hs2⟩ : ∃ s, strOfNums ys = s := ⟨_, rfl⟩
        obtain ⟨r, hr⟩ : ∃ r, sameM a b = r := ⟨_, rfl⟩
        rw [hs1, hs2, hr] at hstr
        have HR := Aside0.mk hr
        have HS1 := Aside0.mk hs1
        have HS2 := Aside0.mk hs2
        have hrr : (r == r) = true := by simp
        have HC1 := Aside0.mk (Kd.C_drew HC1.out)
        have HC2 := Aside0.mk (Kd.C_drew HC2.out)
        have HBd : Aside0 (Below w.heap.size w w4.drew) := ⟨⟨HB4.out.os, HB4.out.tape, HB4.out.output, HB4.out.size, HB4.out.block⟩⟩
        have BA5 : Aside0 (w4.drew.heap[w.heap.size]? = some (.cells (a.val p) 34 (0, 0))) := ⟨BA4.out⟩
        have BB5 : Aside0 (w4.drew.heap[Y]? = some (.cells (b.val q) 34 (0, 0))) := ⟨BB4.out⟩
        clear hr hs1 hs2 hxs hys HX1 HX2 HB4 BA4 BB4
        as_aux_lemma =>
        go_region_held3 (fun W => (Go.convert 24 9 (.slice A1 n1 c1)).run Tryd.prog W = .ok (.string s1) W ∧ (Go.convert 24 9 (.slice A2 n2 c2)).run Tryd.prog W = .ok (.string s2) W ∧ W.cell? ⟨w.heap.size, 0, none⟩ = some (.int .i64 a.kind) ∧ W.cell? ⟨w.heap.size, 1, none⟩ = some (.int .i64 a.fr) ∧ W.cell? ⟨w.heap.size, 2, none⟩ = some (.int .i64 a.dst) ∧ W.cell? ⟨w.heap.size, 3, none⟩ = some (.int .i64 a.ep) ∧ W.cell? ⟨w.heap.size, 4, none⟩ = some (.int .i64 a.op) ∧ W.cell? ⟨w.heap.size, 5, none⟩ = some (.int .i64 a.n) ∧ W.cell? ⟨w.heap.size, 6, none⟩ = some (.bool a.f) ∧ W.cell? ⟨w.heap.size, 7, none⟩ = some (.string a.e.f0) ∧ W.cell? ⟨w.heap.size, 8, none⟩ = some (.int .i64 a.e.f1.f0) ∧ W.cell? ⟨w.heap.size, 9, none⟩ = some (.int .i64 a.e.f1.f1) ∧ W.cell? ⟨w.heap.size, 10, none⟩ = some (.int .i64 a.e.f1.f2) ∧ W.cell? ⟨w.heap.size, 11, none⟩ = some (.bool a.e.f2.f0) ∧ W.cell? ⟨w.heap.size, 12, none⟩ = some (.slice p.vA a.e.f2.f1.length p.vc) ∧ W.cell? ⟨w.heap.size, 13, none⟩ = some (.slice p.lA a.L.length p.lc) ∧ W.cell? ⟨w.heap.size, 14, none⟩ = some (.slice p.rA a.R.length p.rc) ∧ W.cell? ⟨w.heap.size, 15, none⟩ = some (.int .i64 a.each) ∧ W.cell? ⟨w.heap.size, 16, none⟩ = some (.int .i64 a.keep) ∧ W.cell? ⟨Y, 0, none⟩ = some (.int .i64 b.kind) ∧ W.cell? ⟨Y, 1, none⟩ = some (.int .i64 b.fr) ∧ W.cell? ⟨Y, 2, none⟩ = some (.int .i64 b.dst) ∧ W.cell? ⟨Y, 3, none⟩ = some (.int .i64 b.ep) ∧ W.cell? ⟨Y, 4, none⟩ = some (.int .i64 b.op) ∧ W.cell? ⟨Y, 5, none⟩ = some (.int .i64 b.n) ∧ W.cell? ⟨Y, 6, none⟩ = some (.bool b.f) ∧ W.cell? ⟨Y, 7, none⟩ = some (.string b.e.f0) ∧ W.cell? ⟨Y, 8, none⟩ = some (.int .i64 b.e.f1.f0) ∧ W.cell? ⟨Y, 9, none⟩ = some (.int .i64 b.e.f1.f1) ∧ W.cell? ⟨Y, 10, none⟩ = some (.int .i64 b.e.f1.f2) ∧ W.cell? ⟨Y, 11, none⟩ = some (.bool b.e.f2.f0) ∧ W.cell? ⟨Y, 12, none⟩ = some (.slice q.vA b.e.f2.f1.length q.vc) ∧ W.cell? ⟨Y, 13, none⟩ = some (.slice q.lA b.L.length q.lc) ∧ W.cell? ⟨Y, 14, none⟩ = some (.slice q.rA b.R.length q.rc) ∧ W.cell? ⟨Y, 15, none⟩ = some (.int .i64 b.each) ∧ W.cell? ⟨Y, 16, none⟩ = some (.int .i64 b.keep)) (first | (rw [← HS1.out, ← HS2.out]; exact heads_S HC1.out HC2.out BA5.out BB5.out)) (first
          | (go_at_call 19; (with_reducible refine (rsame_c HR.out (HA.out.below HBd.out) (HB.out.below HBd.out) Hva hla Hxa.out hRa).mono ?_); rintro z w5 ⟨rfl, hb⟩; have HC1 := Aside0.mk (Kd.C_below HC1.out hb); have HC2 := Aside0.mk (Kd.C_below HC2.out hb); have BA5 := Aside0.mk ((hb.block _ (blk_lt BA5.out)).trans BA5.out); have BB5 := Aside0.mk ((hb.block _ (blk_lt BB5.out)).trans BB5.out); have HBd := Aside0.mk (HBd.out.trans (hb.mono HBd.out.size)); clear hb)
          | (go_at_call 11; (with_reducible refine (known_ _ (HK.out.below HBd.out)).mono ?_); rintro z w9 ⟨rfl, hb⟩; have HC1 := Aside0.mk (Kd.C_below HC1.out hb); have HC2 := Aside0.mk (Kd.C_below HC2.out hb); have BA5 := Aside0.mk ((hb.block _ (blk_lt BA5.out)).trans BA5.out); have BB5 := Aside0.mk ((hb.block _ (blk_lt BB5.out)).trans BB5.out); have HBd := Aside0.mk (HBd.out.trans (hb.mono HBd.out.size)); clear hb))
        all_goals
          go_wp2_with fail
          go_ret
          exact ⟨rfl, HBd.out⟩
      · clear HX1 HX2 hxs
        go_wp2_with (go_at_call 11; (with_reducible refine (known_ _ (HK.out.below HB4.out)).mono ?_); rintro z w9 ⟨rfl, hq⟩; have HB9 := Aside0.mk (HB4.out.trans (hq.mono HB4.out.size)); clear hq)
        go_ret
        exact ⟨rfl, HB9.out⟩
    · rcases HX2.out with ⟨rfl, hys, okb⟩ | rfl
      · clear HX1 HX2 hys
        go_wp2_with (go_at_call 11; (with_reducible refine (known_ _ (HK.out.below HB4.out)).mono ?_); rintro z w9 ⟨rfl, hq⟩; have HB9 := Aside0.mk (HB4.out.trans (hq.mono HB4.out.size)); clear hq)
        go_ret
        exact ⟨rfl, HB9.out⟩
      · clear HX1 HX2
        go_wp2_with (go_at_call 11; (with_reducible refine (known_ _ (HK.out.below HB4.out)).mono ?_); rintro z w9 ⟨rfl, hq⟩; have HB9 := Aside0.mk (HB4.out.trans (hq.mono HB4.out.size)); clear hq)
        go_ret
        exact ⟨rfl, HB9.out⟩
  · go_wp2_with (go_at_call 11; (with_reducible refine (known_ _ (HK.out.below HB2.out)).mono ?_); rintro z w9 ⟨rfl, hq⟩; have HB9 := Aside0.mk (HB2.out.trans (hq.mono HB2.out.size)); clear hq)
    go_ret
    exact ⟨rfl, HB9.out⟩
  · go_wp2_with (go_at_call 11; (with_reducible refine (known_ _ (HK.out.below HB1.out)).mono ?_); rintro z w9 ⟨rfl, hq⟩; have HB9 := Aside0.mk (HB1.out.trans (hq.mono HB1.out.size)); clear hq)
    go_ret
    exact ⟨rfl, HB9.out⟩
open Go.Proofs.YthaoiamgkpkcbaaDoor.Opn in
theorem msgsHeads (w : World) (hK : Kin w) (cs : Array Value) (t : TM) (K : kMsg.K w t cs.toList) (wf : wMsg t) (ds : Array Value) (u : TM) (L : kMsg.K w u ds.toList) (wg : wMsg u) :
    Calls Tryd.prog 7 #[.agg cs, .agg ds] w fun e w' => e = .returned (.bool true) ∧ Below w.heap.size w w' := by
  obtain ⟨p, hc, hl⟩ := msg_cells K
  obtain ⟨q, hd, hm⟩ := msg_cells L
  obtain rfl : cs = (toMs t).val p := Array.toList_inj.1 hc
  obtain rfl : ds = (toMs u).val q := Array.toList_inj.1 hd
  exact heads_law hK hl hm (wm_of wf) (wm_of wg)
end Go.Proofs.YthaoiamgkpkcbaaDoor.Ms
namespace Go.Proofs.YthaoiamgkpkcbaaDoor.Ms
open Go.ChangeShapes Go.WideShapes Go.ChangeAt Go.RowKit
abbrev laidK : List (String × DataW Unit) := [("icehouse/msgs.kinds", Rows.laid_icehouse_msgs_kinds)]
theorem gKinds : Tryd.prog.globalNamed "icehouse/msgs.kinds" = some 0 := by kernel_rfl
theorem tKinds : (Tryd.prog.globals[0]?).map (·.type) = some 98 := by kernel_rfl
theorem door_met (os : Os) (args : Array Value) : laidMetH Tryd.prog laidK ((World.doorLaid Tryd.prog 30 os).forCall (fun _ _ => 0) ⟨#[], args, []⟩).memory :=
  laidMetH_of_parts3 (fuel := 8) (laidMet_of_run' 8 (by kernel_rfl) (by kernel_rfl)) (by kernel_rfl) (by kernel_rfl)
theorem bool_trod {H : Type} {enc : TypeId × Value → H} {P : Program} {w : World} {base : Nat} {sp : Nat → Bool} {held : Bool} {fuel : Nat} {t : TypeId} {cs : List Value} {y : DataW H × List MemPlace}
    (ht : P.underlying t = some .bool) (hl : cs.length = 1) (h : DataW.trod enc P w base sp held fuel t cs = some y) : ∃ b, cs = [.bool b] ∧ y.1 = .lit (.bool b) := by
  match cs, hl with
  | [c], _ =>
    cases fuel with
    | zero => simp [DataW.trod] at h
    | succ fuel =>
      cases c with
      | bool b =>
        simp [DataW.trod, ht] at h
        exact ⟨b, rfl, by rw [← h]⟩
      | _ => simp [DataW.trod, ht] at h
set_option maxRecDepth 100000 in
theorem five_trod {H : Type} {enc : TypeId × Value → H} {w : World} {base : Nat} {sp : Nat → Bool} {held : Bool} {fuel : Nat} {cs : List Value} {y : DataW H × List MemPlace} {b0 b1 b2 b3 b4 : Bool}
    (h : DataW.trod enc Tryd.prog w base sp held fuel 97 cs = some y) (hy : y.1 = .agg [.lit (.bool b0), .lit (.bool b1), .lit (.bool b2), .lit (.bool b3), .lit (.bool b4)]) : cs = [.bool b0, .bool b1, .bool b2, .bool b3, .bool b4] := by
  obtain ⟨xs, m1, rfl, rfl, hlen, hn, hel⟩ := DataW.trod_array Tryd.underlying97 h
  have c5 : Tryd.prog.cellsOf 97 = 5 := by kernel_rfl
  have c1 : Tryd.prog.cellsOf 4 = 1 := by kernel_rfl
  rw [c5] at hlen
  match cs, hlen with
  | [v0, v1, v2, v3, v4], _ =>
    have e0 := hel 0 (by decide)
    have e1 := hel 1 (by decide)
    have e2 := hel 2 (by decide)
    have e3 := hel 3 (by decide)
    have e4 := hel 4 (by decide)
    rw [c1] at e0 e1 e2 e3 e4
    match xs, hn with
    | [x0, x1, x2, x3, x4], _ =>
      simp only [List.map_cons, List.map_nil, DataW.agg.injEq, List.cons.injEq, and_true] at hy
      obtain ⟨y0, y1, y2, y3, y4⟩ := hy
      obtain ⟨z0, h0, q0⟩ := bool_trod Tryd.underlying4 rfl (show DataW.trod enc Tryd.prog w base sp held m1 4 [v0] = some x0 from e0)
      obtain ⟨z1, h1, q1⟩ := bool_trod Tryd.underlying4 rfl (show DataW.trod enc Tryd.prog w base sp held m1 4 [v1] = some x1 from e1)
      obtain ⟨z2, h2, q2⟩ := bool_trod Tryd.underlying4 rfl (show DataW.trod enc Tryd.prog w base sp held m1 4 [v2] = some x2 from e2)
      obtain ⟨z3, h3, q3⟩ := bool_trod Tryd.underlying4 rfl (show DataW.trod enc Tryd.prog w base sp held m1 4 [v3] = some x3 from e3)
      obtain ⟨z4, h4, q4⟩ := bool_trod Tryd.underlying4 rfl (show DataW.trod enc Tryd.prog w base sp held m1 4 [v4] = some x4 from e4)
      rw [q0] at y0; rw [q1] at y1; rw [q2] at y2; rw [q3] at y3; rw [q4] at y4
      simp only [DataW.lit.injEq, Lit.bool.injEq] at y0 y1 y2 y3 y4
      subst y0 y1 y2 y3 y4
      simp only [List.cons.injEq, and_true] at h0 h1 h2 h3 h4
      rw [h0, h1, h2, h3, h4]
theorem chunks : ∀ (n : Nat) (l : List Value) (f : Nat → List Value), l.length = n * 5 → (∀ i, i < n → (l.drop (i * 5)).take 5 = f i) → l = (List.range n).flatMap f := by
  intro n
  induction n with
  | zero => intro l f hl _; simpa using hl
  | succ n ih =>
    intro l f hl h
    have h1 := ih (l.take (n * 5)) f (by rw [List.length_take]; omega) (fun i hi => by
      rw [← h i (by omega), List.drop_take, List.take_take]
      congr 1; omega)
    have h2 := h n (by omega)
    rw [List.range_succ, List.flatMap_append, ← h1]
    simp only [List.flatMap_cons, List.flatMap_nil, List.append_nil]
    rw [← h2, List.take_of_length_le (i := 5) (l := l.drop (n * 5)) (by rw [List.length_drop]; omega), List.take_append_drop]
def rowK (i : Nat) : List Value := match tab[i]? with
  | some h => [.bool h.n, .bool h.f, .bool h.e, .bool h.l, .bool h.r]
  | none => []
theorem kinds_chunks : kindsC.toList = (List.range 18).flatMap rowK := by kernel_rfl
set_option maxRecDepth 100000 in
theorem kin_of_laid {W : World} (h : laidMetH Tryd.prog laidK W) : Kin W := by
  rw [MakeChecks.laidMetH_plain _ _ _ (by kernel_rfl)] at h
  obtain ⟨ps, ⟨g0, t0, cs0, f0, p0, q0, hg0, ht0, hv0, hd0, _, _⟩, _⟩ := h
  obtain rfl := Option.some.inj (gKinds.symm.trans hg0)
  obtain rfl := Option.some.inj (tKinds.symm.trans ht0)
  obtain ⟨xs, m1, rfl, hx, hlen, hn, hel⟩ := DataW.trod_array Tryd.underlying98 hd0
  have c5 : Tryd.prog.cellsOf 97 = 5 := by kernel_rfl
  have c90 : Tryd.prog.cellsOf 98 = 90 := by kernel_rfl
  rw [c90] at hlen
  simp only [c5] at hel
  have hcs : cs0.toList = kindsC.toList := by
    rw [kinds_chunks]
    refine chunks 18 cs0.toList rowK hlen fun i hi => ?_
    have he := hel i hi
    have hxs : xs.map (·.1) = (tab.map fun h => (DataW.agg [.lit (.bool h.n), .lit (.bool h.f), .lit (.bool h.e), .lit (.bool h.l), .lit (.bool h.r)] : DataW Unit)) := by
      have := congrArg Prod.fst hx
      simp only at this
      injection this with this
      rw [← this]; rfl
    obtain ⟨x, hxi⟩ : ∃ x, xs[i]? = some x := ⟨xs[i]'(by omega), List.getElem?_eq_getElem (by omega)⟩
    rw [hxi] at he
    have ht : i < tab.length := hi
    have hm : (xs.map (·.1))[i]? = some x.1 := by rw [List.getElem?_map, hxi]; rfl
    rw [hxs, List.getElem?_map, List.getElem?_eq_getElem ht] at hm
    have hm2 := Option.some.inj hm
    unfold rowK
    rw [List.getElem?_eq_getElem ht]
    exact five_trod he hm2.symm
  have : cs0 = kindsC := Array.toList_inj.1 hcs
  subst this
  unfold World.var? at hv0
  rw [gKinds, Option.bind_some] at hv0
  split at hv0
  · rename_i c t fr hb
    obtain rfl := Option.some.inj hv0
    exact ⟨t, fr, hb⟩
  · cases hv0
end Go.Proofs.YthaoiamgkpkcbaaDoor.Ms
