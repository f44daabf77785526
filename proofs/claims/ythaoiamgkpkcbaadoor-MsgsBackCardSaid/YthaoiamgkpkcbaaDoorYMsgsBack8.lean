/- Written by a program of this session over the kit's print: functions and their contracts. · The reference: the contracts of long, SameVal, Same and Size, and of the reference's, by what they tell. Conditions: bytes are bytes. · The reference's Same of two messages, by what it tells. Conditions: lists that fit in memory. · A message's bytes are read as it was; cut short something is missing. Plain. Conditions: a message that may be. · Two messages that may be are the same just if their bytes are; a message's bytes are bytes. Plain. Conditions: messages that may be. · What a message is read from are its bytes. Plain. Conditions: bytes. · The walk of the law MsgsBack, for every message and all bytes. Conditions: the table lies in its variable. · What the card's condition tells: the table of msgs lies in its variable; and the world in which the door lays it. Conditions: none. -/
import Derived.Test.YthaoiamgkpkcbaaDoorYMsgsBack4
import Derived.Test.YthaoiamgkpkcbaaDoorYMsgsBack5
import Derived.Test.YthaoiamgkpkcbaaDoorYMsgsBack6
import Derived.Test.YthaoiamgkpkcbaaDoorYMsgsBack7
import Derived.Test.YthaoiamgkpkcbaaDoorYMsgsBack2
import Derived.Test.YthaoiamgkpkcbaaDoorYMsgsBack3
import Derived.Deep.Light
import Derived.Deep.RegionHeld3
import Derived.Deep.CutRange
import Derived.Test.YthaoiamgkpkcbaaDoorRows
import Derived.ProofKit
import Derived.LaidMore
import Derived.OpenShut
import Derived.Stop.Joined

namespace Go.Proofs.YthaoiamgkpkcbaaDoor.QS
open Go.Proofs.YthaoiamgkpkcbaaDoor.QL
open Go.RowKit Go.Proofs.YthaoiamgkpkcbaaDoorW.PrintWords Go.Proofs.YthaoiamgkpkcbaaDoorW.PrintLast Go.Proofs.YthaoiamgkpkcbaaDoorW.PrintMore
attribute [local go_sem] max2_int min2_int max_two min_two max_three min_three max_four min_four   -- for this text's walks alone
set_option linter.unusedVariables false
set_option linter.unusedSimpArgs false
end Go.Proofs.YthaoiamgkpkcbaaDoor.QS
namespace Go.Proofs.YthaoiamgkpkcbaaDoor.Tg
open Go.ChangeShapes Go.WideShapes Go.ChangeAt Go.RowKit Go.Proofs.YthaoiamgkpkcbaaDoor.Pk Go.Proofs.YthaoiamgkpkcbaaDoor.EncC
open Go.Proofs.YthaoiamgkpkcbaaDoor.Hlp Go.Proofs.YthaoiamgkpkcbaaDoor.Wrd Go.Proofs.YthaoiamgkpkcbaaDoorW.PrintWords Go.Proofs.YthaoiamgkpkcbaaDoorW.PrintLast Go.Proofs.YthaoiamgkpkcbaaDoorW.PrintMore
set_option linter.unusedVariables false
set_option linter.unusedSimpArgs false
open Go.Proofs.YthaoiamgkpkcbaaDoor.Lex in
theorem rsame_l0 (h h' : Bool) (l m : List Int) (hlm : l.length = m.length) (hb : l.length < 9223372036854775807) : ∀ (n i : Nat), l.length - i = n → i ≤ l.length → Since (fun k => QS.icehouseref03_SameVal.l0 k (i : Int) h l h' m) (decide (l.drop i = m.drop i)) := by
  intro n
  induction n with
  | zero =>
    intro i hn hi
    rw [List.drop_eq_nil_of_le (show l.length ≤ i by omega), List.drop_eq_nil_of_le (show m.length ≤ i by omega)]
    have hf : ¬ ((i : Int) < (l.length : Int)) := by omega
    exact Since.none fun k => by simp only [QS.icehouseref03_SameVal.l0, if_neg hf]; simp
  | succ n ih =>
    intro i hn hi
    have h1 : i < l.length := by omega
    have h2 : i < m.length := by omega
    have f1 : (i : Int) < (l.length : Int) := by omega
    have f2 : (i : Int) < (m.length : Int) := by omega
    have f0 : (0 : Int) ≤ (i : Int) := by omega
    have r1 : rd l (i : Int) = l[i] := by simp [rd, h1]
    have r2 : rd m (i : Int) = m[i] := by simp [rd, h2]
    refine Since.one (ih (i + 1) (by omega) (by omega)) fun k hr => ?_
    simp only [QS.icehouseref03_SameVal.l0, if_pos f1, if_pos f0, if_pos f2, r1, r2, w_succ i (by omega)]
    have d1 := List.drop_eq_getElem_cons h1
    have d2 := List.drop_eq_getElem_cons h2
    by_cases he : l[i] = m[i]
    · rw [if_pos he, hr, d1, d2]
      congr 1
      rw [decide_eq_decide, List.cons.injEq]
      exact ⟨fun h => ⟨he, h⟩, fun h => h.2⟩
    · rw [if_neg he, d1, d2]
      congr 1
      exact (decide_eq_false (fun h => he (List.cons.inj h).1)).symm
open Go.Proofs.YthaoiamgkpkcbaaDoor.Lex in
theorem rsame_ev (h h' : Bool) (l m : List Int) (hb : l.length < 9223372036854775807) : Since (fun k => QS.icehouseref03_SameVal.f k h l h' m) (sameV h l h' m) := by
  by_cases hlm : l.length = m.length
  · refine (rsame_l0 h h' l m hlm hb _ 0 rfl (Nat.zero_le _)).map fun k hr => ?_
    rw [List.drop_zero, List.drop_zero] at hr
    unfold QS.icehouseref03_SameVal.f sameV
    have e : (l.length : Int) = (m.length : Int) := by omega
    cases h <;> cases h' <;> simp [e]
    exact hr
  · refine ⟨0, fun k _ => ?_⟩
    unfold QS.icehouseref03_SameVal.f sameV
    have e : ¬ ((l.length : Int) = (m.length : Int)) := by omega
    have e2 : l ≠ m := by rintro rfl; exact hlm rfl
    cases h <;> cases h' <;> simp [e, e2]
section
variable {w : World} {A A' : Option Addr} {n n' d d' : Nat} {v v' : List Int}
end
end Go.Proofs.YthaoiamgkpkcbaaDoor.Tg
namespace Go.Proofs.YthaoiamgkpkcbaaDoor.Ms
open Go.ChangeShapes Go.WideShapes Go.ChangeAt Go.RowKit Go.Proofs.YthaoiamgkpkcbaaDoor.Pk Go.Proofs.YthaoiamgkpkcbaaDoor.Tg Go.Proofs.YthaoiamgkpkcbaaDoor.Enc Go.Proofs.YthaoiamgkpkcbaaDoor.EncC Go.Proofs.YthaoiamgkpkcbaaDoor.EncP
open Go.Proofs.YthaoiamgkpkcbaaDoor.Hlp Go.Proofs.YthaoiamgkpkcbaaDoor.Wrd Go.Proofs.YthaoiamgkpkcbaaDoor.Lex Go.Proofs.YthaoiamgkpkcbaaDoorW.PrintWords Go.Proofs.YthaoiamgkpkcbaaDoorW.PrintLast Go.Proofs.YthaoiamgkpkcbaaDoorW.PrintMore
set_option linter.unusedVariables false
set_option linter.unusedSimpArgs false
def sameX (x y : E6) : Bool := sameE x.f0 x.f1.f0 x.f1.f1 x.f1.f2 x.f2.f0 x.f2.f1 y.f0 y.f1.f0 y.f1.f1 y.f1.f2 y.f2.f0 y.f2.f1
def sameLs : List E6 → List E6 → Bool
  | [], [] => true
  | x :: l, y :: m => sameX x y && sameLs l m
  | _, _ => false
def sameM (a b : Ms) : Bool := decide (a.kind = b.kind ∧ a.fr = b.fr ∧ a.dst = b.dst ∧ a.ep = b.ep ∧ a.op = b.op ∧ a.n = b.n ∧ a.f = b.f) && (sameX a.e b.e && (sameLs a.L b.L && (decide (a.R = b.R) && decide (a.each = b.each ∧ a.keep = b.keep))))
theorem same03_ev (x y : E6) (hb : x.f2.f1.length < 9223372036854775807) : Since (fun k => QS.icehouseref03_Same.f k x.f0 x.f1.f0 x.f1.f1 x.f1.f2 x.f2.f0 x.f2.f1 y.f0 y.f1.f0 y.f1.f1 y.f1.f2 y.f2.f0 y.f2.f1) (sameX x y) := by
  refine (rsame_ev x.f2.f0 y.f2.f0 x.f2.f1 y.f2.f1 hb).map fun k hk => ?_
  unfold QS.icehouseref03_Same.f sameX sameE
  by_cases h0 : x.f0.toList = y.f0.toList
  · rw [if_pos h0, if_pos h0]
    by_cases h1 : (x.f1.f0 == y.f1.f0 && (x.f1.f1 == y.f1.f1 && (x.f1.f2 == y.f1.f2))) = true
    · rw [if_pos h1, if_pos h1, hk]; rfl
    · rw [if_neg h1, if_neg h1]
  · rw [if_neg h0, if_neg h0]
theorem rdS {l : List E6} {i : Nat} (h : i < l.length) : QL.rd_T28 l (i : Int) = l[i] := rd_E h
theorem all_l0 (l m : List E6) (hlm : l.length = m.length) (hb : l.length < 9223372036854775807) (hx : ∀ x ∈ l, x.f2.f1.length < 9223372036854775807) : ∀ (d i : Nat), l.length - i = d → i ≤ l.length → Since (fun k => QS.icehouseref03_SameAll.l0 k l m (i : Int)) (sameLs (l.drop i) (m.drop i)) := by
  intro d
  induction d with
  | zero =>
    intro i hd hi
    rw [List.drop_eq_nil_of_le (show l.length ≤ i by omega), List.drop_eq_nil_of_le (show m.length ≤ i by omega)]
    refine Since.none fun k => ?_
    simp only [QS.icehouseref03_SameAll.l0]
    rw [if_neg (by omega)]
    rfl
  | succ d ih =>
    intro i hd hi
    have h1 : i < l.length := by omega
    have h2 : i < m.length := by omega
    have hw : wrap64 ((i : Int) + 1) = ((i + 1 : Nat) : Int) := by unfold wrap64; omega
    rw [List.drop_eq_getElem_cons h1, List.drop_eq_getElem_cons h2]
    show Since _ (sameX l[i] m[i] && sameLs (l.drop (i + 1)) (m.drop (i + 1)))
    refine Since.two (same03_ev l[i] m[i] (hx _ (List.getElem_mem h1))) (ih (i + 1) (by omega) (by omega)) fun k ha hb => ?_
    simp only [QS.icehouseref03_SameAll.l0]
    rw [if_pos (by omega), if_pos (by omega), if_pos (by omega), rdS h1, rdS h2, ha, Option.bind_some, hw]
    cases sameX l[i] m[i]
    · rfl
    · rw [if_pos rfl, hb]; rfl
theorem sameLs_ne : ∀ {l m : List E6}, l.length ≠ m.length → sameLs l m = false
  | [], [], h => absurd rfl h
  | x :: l, y :: m, h => by
    unfold sameLs
    rw [sameLs_ne (l := l) (m := m) (fun e => h (by rw [List.length_cons, List.length_cons, e])), Bool.and_false]
  | [], y :: m, _ => rfl
  | x :: l, [], _ => rfl
theorem all_ev (l m : List E6) (hb : l.length < 9223372036854775807) (hx : ∀ x ∈ l, x.f2.f1.length < 9223372036854775807) : Since (fun k => QS.icehouseref03_SameAll.f k l m) (sameLs l m) := by
  by_cases h : l.length = m.length
  · refine (all_l0 l m h hb hx _ 0 rfl (Nat.zero_le _)).map fun k hk => ?_
    unfold QS.icehouseref03_SameAll.f
    rw [if_pos (by omega)]
    exact hk
  · rw [sameLs_ne h]
    refine ⟨0, fun k _ => ?_⟩
    show QS.icehouseref03_SameAll.f k l m = some false
    unfold QS.icehouseref03_SameAll.f
    rw [if_neg (by omega)]
theorem ints_l0 (l m : List Int) (hlm : l.length = m.length) (hb : l.length < 9223372036854775807) : ∀ (d i : Nat), l.length - i = d → i ≤ l.length → Since (fun k => QS.icehouseref00_SameInts.l0 k l m (i : Int)) (decide (l.drop i = m.drop i)) := by
  intro d
  induction d with
  | zero =>
    intro i hd hi
    rw [List.drop_eq_nil_of_le (show l.length ≤ i by omega), List.drop_eq_nil_of_le (show m.length ≤ i by omega)]
    refine Since.none fun k => ?_
    simp only [QS.icehouseref00_SameInts.l0]
    rw [if_neg (by omega)]
    rfl
  | succ d ih =>
    intro i hd hi
    have h1 : i < l.length := by omega
    have h2 : i < m.length := by omega
    have hw : wrap64 ((i : Int) + 1) = ((i + 1 : Nat) : Int) := by unfold wrap64; omega
    have r1 : rd l (i : Int) = l[i] := by simp [rd, h1]
    have r2 : rd m (i : Int) = m[i] := by simp [rd, h2]
    rw [List.drop_eq_getElem_cons h1, List.drop_eq_getElem_cons h2]
    by_cases hx : l[i] = m[i]
    · have hd2 : decide (l[i] :: l.drop (i + 1) = m[i] :: m.drop (i + 1)) = decide (l.drop (i + 1) = m.drop (i + 1)) := by
        rw [hx]; exact decide_eq_decide.2 ⟨fun h => by injection h, fun h => by rw [h]⟩
      rw [hd2]
      refine Since.one (ih (i + 1) (by omega) (by omega)) fun k hk => ?_
      simp only [QS.icehouseref00_SameInts.l0]
      rw [if_pos (by omega), if_pos (by omega), if_pos (by omega), r1, r2, if_pos hx, hw]
      exact hk
    · rw [decide_eq_false (fun h => hx (by injection h))]
      refine Since.none fun k => ?_
      simp only [QS.icehouseref00_SameInts.l0]
      rw [if_pos (by omega), if_pos (by omega), if_pos (by omega), r1, r2, if_neg hx]
theorem ints_ev (l m : List Int) (hb : l.length < 9223372036854775807) : Since (fun k => QS.icehouseref00_SameInts.f k l m) (decide (l = m)) := by
  by_cases h : l.length = m.length
  · refine (ints_l0 l m h hb _ 0 rfl (Nat.zero_le _)).map fun k hk => ?_
    unfold QS.icehouseref00_SameInts.f
    rw [if_pos (by omega)]
    exact hk
  · rw [decide_eq_false (fun e => h (by rw [e]))]
    refine ⟨0, fun k _ => ?_⟩
    show QS.icehouseref00_SameInts.f k l m = some false
    unfold QS.icehouseref00_SameInts.f
    rw [if_neg (by omega)]
theorem ring_same_ev (a b : Ms) (hb : a.R.length < 9223372036854775807) : Since (fun k => QS.icehouseref09_Same.f k a.R a.each a.keep b.R b.each b.keep) (decide (a.R = b.R) && decide (a.each = b.each ∧ a.keep = b.keep)) := by
  refine (ints_ev a.R b.R hb).map fun k hk => ?_
  unfold QS.icehouseref09_Same.f
  rw [hk, Option.bind_some]
  by_cases h1 : a.R = b.R
  · rw [decide_eq_true h1, if_pos rfl, Bool.true_and]
    by_cases h2 : a.each = b.each
    · rw [if_pos h2]
      congr 1
      by_cases h3 : a.keep = b.keep <;> simp [h2, h3]
    · rw [if_neg h2, decide_eq_false (fun h => h2 h.1)]
  · rw [decide_eq_false h1, if_neg (by decide)]; rfl
theorem sameM_no {a b : Ms} (h : ¬ (a.kind = b.kind ∧ a.fr = b.fr ∧ a.dst = b.dst ∧ a.ep = b.ep ∧ a.op = b.op ∧ a.n = b.n ∧ a.f = b.f)) : sameM a b = false := by
  unfold sameM
  rw [decide_eq_false h]; rfl
theorem sameM_yes {a b : Ms} (h : a.kind = b.kind ∧ a.fr = b.fr ∧ a.dst = b.dst ∧ a.ep = b.ep ∧ a.op = b.op ∧ a.n = b.n ∧ a.f = b.f) : sameM a b = (sameX a.e b.e && (sameLs a.L b.L && (decide (a.R = b.R) && decide (a.each = b.each ∧ a.keep = b.keep)))) := by
  unfold sameM
  rw [decide_eq_true h]; rfl
theorem same_ev (a b : Ms) (hv : a.e.f2.f1.length < 9223372036854775807) (hl : a.L.length < 9223372036854775807) (hx : ∀ x ∈ a.L, x.f2.f1.length < 9223372036854775807) (hr : a.R.length < 9223372036854775807) :
    ∃ K, QS.icehouseref12_Same.f K a.kind a.fr a.dst a.ep a.op a.n a.f a.e.f0 a.e.f1.f0 a.e.f1.f1 a.e.f1.f2 a.e.f2.f0 a.e.f2.f1 a.L a.R a.each a.keep b.kind b.fr b.dst b.ep b.op b.n b.f b.e.f0 b.e.f1.f0 b.e.f1.f1 b.e.f1.f2 b.e.f2.f0 b.e.f2.f1 b.L b.R b.each b.keep = some (sameM a b) := by
  obtain ⟨K1, h1⟩ := same03_ev a.e b.e hv
  obtain ⟨K2, h2⟩ := all_ev a.L b.L hl hx
  obtain ⟨K3, h3⟩ := ring_same_ev a b hr
  have e1 := h1 (K1 + K2 + K3) (by omega)
  have e2 := h2 (K1 + K2 + K3) (by omega)
  have e3 := h3 (K1 + K2 + K3) (by omega)
  dsimp only at e1 e2 e3
  refine ⟨K1 + K2 + K3 + 1, ?_⟩
  have hj : ∀ c, QS.icehouseref12_Same.j0 (K1 + K2 + K3 + 1) c a.kind a.fr a.dst a.ep a.op a.n a.f a.e.f0 a.e.f1.f0 a.e.f1.f1 a.e.f1.f2 a.e.f2.f0 a.e.f2.f1 a.L a.R a.each a.keep b.kind b.fr b.dst b.ep b.op b.n b.f b.e.f0 b.e.f1.f0 b.e.f1.f1 b.e.f1.f2 b.e.f2.f0 b.e.f2.f1 b.L b.R b.each b.keep = some (!c && (sameX a.e b.e && (sameLs a.L b.L && (decide (a.R = b.R) && decide (a.each = b.each ∧ a.keep = b.keep))))) := by
    intro c
    cases c
    · simp only [QS.icehouseref12_Same.j0]
      rw [if_neg (by decide), e1, Option.bind_some]
      cases sameX a.e b.e
      · rfl
      · rw [if_pos rfl, e2, Option.bind_some]
        cases sameLs a.L b.L
        · rfl
        · rw [if_pos rfl, e3]; rfl
    · simp only [QS.icehouseref12_Same.j0]; rfl
  unfold QS.icehouseref12_Same.f
  by_cases g1 : a.kind = b.kind
  · by_cases g2 : a.fr = b.fr
    · by_cases g3 : a.dst = b.dst
      · by_cases g4 : a.ep = b.ep
        · by_cases g5 : a.op = b.op
          · by_cases g6 : a.n = b.n
            · rw [if_pos g1, if_pos g2, if_pos g3, if_pos g4, if_pos g5, if_pos g6, hj]
              by_cases g7 : a.f = b.f
              · rw [sameM_yes ⟨g1, g2, g3, g4, g5, g6, g7⟩]; simp [g7]
              · rw [sameM_no (fun h => g7 h.2.2.2.2.2.2)]; simp [g7]
            · rw [if_pos g1, if_pos g2, if_pos g3, if_pos g4, if_pos g5, if_neg g6, hj, sameM_no (fun h => g6 h.2.2.2.2.2.1)]; rfl
          · rw [if_pos g1, if_pos g2, if_pos g3, if_pos g4, if_neg g5, hj, sameM_no (fun h => g5 h.2.2.2.2.1)]; rfl
        · rw [if_pos g1, if_pos g2, if_pos g3, if_neg g4, hj, sameM_no (fun h => g4 h.2.2.2.1)]; rfl
      · rw [if_pos g1, if_pos g2, if_neg g3, hj, sameM_no (fun h => g3 h.2.2.1)]; rfl
    · rw [if_pos g1, if_neg g2, hj, sameM_no (fun h => g2 h.2.1)]; rfl
  · rw [if_neg g1, hj, sameM_no (fun h => g1 h.1)]; rfl
theorem rsame_c {w : World} {a b : Ms} {p q : Pl} {r : Bool} (hr : sameM a b = r) (ha : Lies w a p) (hb : Lies w b q) (hv : a.e.f2.f1.length < 9223372036854775807) (hl : a.L.length < 9223372036854775807) (hx : ∀ x ∈ a.L, x.f2.f1.length < 9223372036854775807) (hR : a.R.length < 9223372036854775807) :
    Calls Tryd.prog 19 #[.agg (a.val p), .agg (b.val q)] w fun e w' => e = .returned (.bool r) ∧ Below w.heap.size w w' := by
  obtain ⟨K, hK⟩ := same_ev a b hv hl hx hR
  subst hr
  exact QS.icehouseref12_Same.calls K a.kind a.fr a.dst a.ep a.op a.n a.f a.e.f0 a.e.f1.f0 a.e.f1.f1 a.e.f1.f2 a.e.f2.f0 p.vA p.vc a.e.f2.f1 p.lA p.lc a.L p.rA p.rc a.R a.each a.keep b.kind b.fr b.dst b.ep b.op b.n b.f b.e.f0 b.e.f1.f0 b.e.f1.f1 b.e.f1.f2 b.e.f2.f0 q.vA q.vc b.e.f2.f1 q.lA q.lc b.L q.rA q.rc b.R b.each b.keep _ w ha.v ha.vc ha.l ha.lc ha.r ha.rc hb.v hb.vc hb.l hb.lc hb.r hb.rc hK
end Go.Proofs.YthaoiamgkpkcbaaDoor.Ms
namespace Go.Proofs.YthaoiamgkpkcbaaDoor.Ms
open Go Go.RowKit Go.Proofs.YthaoiamgkpkcbaaDoor.Pk Go.Proofs.YthaoiamgkpkcbaaDoor.Tg Go.Proofs.YthaoiamgkpkcbaaDoor.Enc Go.Proofs.YthaoiamgkpkcbaaDoor.EncP Go.Proofs.YthaoiamgkpkcbaaDoor.Seg
set_option linter.unusedVariables false
set_option linter.unusedSimpArgs false
/-- a step that reads some bytes -/
structure Rdr (F : Ms × St → Ms × St) (m m' : Ms) (X : List Int) : Prop where
  whole : ∀ r, F (m, ⟨X ++ r, 0⟩) = (m', ⟨r, 0⟩)
  cut : ∀ q, q < X.length → (F (m, ⟨X.take q, 0⟩)).2.e = 12
def Dead (F : Ms × St → Ms × St) : Prop := ∀ x : Ms × St, x.2.e ≠ 0 → (F x).2.e = x.2.e
theorem Dead.comp {F G : Ms × St → Ms × St} (hF : Dead F) (hG : Dead G) : Dead (fun x => G (F x)) := fun x h => by
  have h1 := hF x h
  rw [hG (F x) (by rw [h1]; exact h), h1]
theorem Rdr.comp {F G : Ms × St → Ms × St} {m m' m'' : Ms} {X Y : List Int} (hF : Rdr F m m' X) (hG : Rdr G m' m'' Y) (hd : Dead G) : Rdr (fun x => G (F x)) m m'' (X ++ Y) := by
  constructor
  · intro r
    show G (F (m, ⟨X ++ Y ++ r, 0⟩)) = _
    rw [List.append_assoc, hF.whole, hG.whole]
  · intro q hq
    show (G (F (m, ⟨(X ++ Y).take q, 0⟩))).2.e = 12
    by_cases h : q < X.length
    · rw [List.take_append_of_le_length (Nat.le_of_lt h)]
      have h1 := hF.cut q h
      rw [hd _ (by rw [h1]; decide), h1]
    · obtain ⟨q', rfl⟩ : ∃ q', q = X.length + q' := ⟨q - X.length, by omega⟩
      rw [List.take_length_add_append, hF.whole]
      rw [List.length_append] at hq
      exact hG.cut q' (by omega)
theorem Rdr.nil {m : Ms} : Rdr (fun x => x) m m [] := ⟨fun r => rfl, fun q hq => by cases hq⟩
theorem i64_of {n m : Int} (h : 0 ≤ n ∧ n ≤ m) (hm : m ≤ 9223372036854775807) : -9223372036854775808 ≤ n ∧ n ≤ 9223372036854775807 := by omega
/-- one number -/
theorem num_rdr {F : Ms × St → Ms × St} {m m' : Ms} {n B : Int} (h : 0 ≤ n ∧ n ≤ B - 1) (hB : B ≤ 9223372036854775807) (hF : ∀ s, F (m, s) = ((F (m, s)).1, (belowS B s).2)) (h1 : ∀ s, (belowS B s).1 = n → (F (m, s)).1 = m') : Rdr F m m' (numB n) := by
  constructor
  · intro r
    have hw := below_whole (n := n) (m := B) ⟨h.1, by omega⟩ (i64_of ⟨h.1, h.2⟩ (by omega)) r
    rw [hF, h1 _ (by rw [hw]), hw]
  · intro q hq
    rw [hF, below_cut q hq]
theorem num_dead {F : Ms × St → Ms × St} {B : Int} (hF : ∀ x, (F x).2 = (belowS B x.2).2) : Dead F := fun x h => by rw [hF, belowS_dead h]
theorem iter_succ' (f : Ms × St → Ms × St) : ∀ (n : Nat) (x : Ms × St), iter f (n + 1) x = iter f n (f x)
  | 0, x => rfl
  | n + 1, x => congrArg f (iter_succ' f n x)
theorem iter_dead {f : Ms × St → Ms × St} (h : Dead f) : ∀ n, Dead (iter f n)
  | 0 => fun x _ => rfl
  | n + 1 => fun x hx => by
    show (f (iter f n x)).2.e = _
    have h1 := iter_dead h n x hx
    rw [h _ (by rw [h1]; exact hx), h1]
theorem getS_dead {s : St} (h : s.e ≠ 0) : (getS s).2.e = s.e := by
  have h1 : rowS s = ([], s) := rowS_dead h
  rw [get_dead1 h1 h]
theorem lstep_dead : Dead lstep := fun x h => getS_dead h
theorem rstep_dead : Dead rstep := num_dead (fun x => rfl)
theorem toE_ent (x : E6) : toE ⟨Tg.bytesOf x.f0, x.f1.f0, x.f1.f1, x.f1.f2, x.f2.f0, x.f2.f1⟩ = x := by
  unfold toE; rw [str_of_bytes]
theorem ent_whole {x : E6} (h : okE x) (r : List Int) : getS ⟨entX x ++ r, 0⟩ = (⟨Tg.bytesOf x.f0, x.f1.f0, x.f1.f1, x.f1.f2, x.f2.f0, x.f2.f1⟩, ⟨r, 0⟩) := get_whole h r
theorem ent_rdr {F : Ms × St → Ms × St} {m m' : Ms} {x : E6} (h : okE x) (hF : ∀ s, F (m, s) = ((F (m, s)).1, (getS s).2)) (h1 : ∀ s, toE (getS s).1 = x → (F (m, s)).1 = m') : Rdr F m m' (entX x) := by
  constructor
  · intro r
    have hw := ent_whole h r
    rw [hF, h1 _ (by rw [hw]; exact toE_ent x), hw]
  · intro q hq
    obtain ⟨s, hs, he⟩ := get_cut h q hq
    rw [hF]
    show (getS ⟨(entX x).take q, 0⟩).2.e = 12
    rw [show getS ⟨(entX x).take q, 0⟩ = (En.zero, s) from hs]; exact he
theorem list_rdr : ∀ (L : List E6) (m : Ms), (∀ x ∈ L, okE x) → Rdr (iter lstep L.length) m { m with L := m.L ++ L } (entL L)
  | [], m, _ => by
    have : ({ m with L := m.L ++ [] } : Ms) = m := by rw [List.append_nil]
    rw [this]
    exact Rdr.nil
  | x :: L, m, h => by
    have e1 : entL (x :: L) = entX x ++ entL L := rfl
    have hx := ent_rdr (F := lstep) (m := m) (m' := { m with L := m.L ++ [x] }) (h x List.mem_cons_self) (fun s => rfl) (fun s hs => by show ({ m with L := m.L ++ [toE (getS s).1] } : Ms) = _; rw [hs])
    have hl := list_rdr L { m with L := m.L ++ [x] } (fun y hy => h y (List.mem_cons_of_mem _ hy))
    have hc := hx.comp hl (iter_dead lstep_dead _)
    have e2 : ({ ({ m with L := m.L ++ [x] } : Ms) with L := ({ m with L := m.L ++ [x] } : Ms).L ++ L } : Ms) = { m with L := m.L ++ x :: L } := by simp
    rw [e1, ← e2]
    have e3 : (fun y => iter lstep L.length (lstep y)) = iter lstep (x :: L).length := by funext y; exact (iter_succ' lstep L.length y).symm
    rw [← e3]
    exact hc
theorem nodes_rdr : ∀ (R : List Int) (m : Ms), (∀ x ∈ R, 0 ≤ x ∧ x ≤ 1048575) → Rdr (iter rstep R.length) m { m with R := m.R ++ R } (catB R)
  | [], m, _ => by
    have : ({ m with R := m.R ++ [] } : Ms) = m := by rw [List.append_nil]
    rw [this]
    exact Rdr.nil
  | x :: R, m, h => by
    have e1 : catB (x :: R) = numB x ++ catB R := rfl
    have hx := num_rdr (F := rstep) (m := m) (m' := { m with R := m.R ++ [x] }) (n := x) (B := 1048576) (h x List.mem_cons_self) (by decide) (fun s => rfl) (fun s hs => by show ({ m with R := m.R ++ [(belowS 1048576 s).1] } : Ms) = _; rw [hs])
    have hl := nodes_rdr R { m with R := m.R ++ [x] } (fun y hy => h y (List.mem_cons_of_mem _ hy))
    have hc := hx.comp hl (iter_dead rstep_dead _)
    have e2 : ({ ({ m with R := m.R ++ [x] } : Ms) with R := ({ m with R := m.R ++ [x] } : Ms).R ++ R } : Ms) = { m with R := m.R ++ x :: R } := by simp
    rw [e1, ← e2]
    have e3 : (fun y => iter rstep R.length (rstep y)) = iter rstep (x :: R).length := by funext y; exact (iter_succ' rstep R.length y).symm
    rw [← e3]
    exact hc
/-! the steps -/
def tail (h : Hs) (x : Ms × St) : Ms × St := gr h (gl h (ge h (gf h (gn h (gep (gfr x))))))
theorem getM_tail (s : St) : getM s = tail (hasV (g0 s).1.kind) (g0 s) := rfl
theorem two_dead {F : Ms × St → Ms × St} {A B : Int} (hF : ∀ x, (F x).2 = (belowS B (belowS A x.2).2).2) : Dead F := fun x h => by
  rw [hF, belowS_dead h, belowS_dead h]
theorem gfr_dead : Dead gfr := two_dead (fun x => rfl)
theorem gep_dead : Dead gep := two_dead (fun x => rfl)
theorem gn_dead (h : Hs) : Dead (gn h) := fun x hx => by
  unfold gn; split
  · show (belowS _ x.2).2.e = _; rw [belowS_dead hx]
  · rfl
theorem gf_dead (h : Hs) : Dead (gf h) := fun x hx => by
  unfold gf; split
  · show (truthS x.2).2.e = _; rw [truthS_dead hx]
  · rfl
theorem ge_dead (h : Hs) : Dead (ge h) := fun x hx => by
  unfold ge; split
  · exact getS_dead hx
  · rfl
theorem gl_dead (h : Hs) : Dead (gl h) := fun x hx => by
  unfold gl; split
  · rw [belowS_dead hx]; rfl
  · rfl
theorem gk_dead : Dead gk := two_dead (fun x => rfl)
theorem gr_dead (h : Hs) : Dead (gr h) := fun x hx => by
  unfold gr; split
  · have h1 := gk_dead x hx
    have h2 : (gk x).2.e ≠ 0 := by rw [h1]; exact hx
    rw [belowS_dead h2]
    exact h1
  · rfl
theorem tail_dead (h : Hs) : Dead (tail h) := ((((((gfr_dead.comp gep_dead).comp (gn_dead h)).comp (gf_dead h)).comp (ge_dead h)).comp (gl_dead h)).comp (gr_dead h))
theorem cut2 {X Y : List Int} {F G : Ms × St → Ms × St} {m m' m'' : Ms} (hF : Rdr F m m' X) (hG : Rdr G m' m'' Y) (hd : Dead G) {H : Ms × St → Ms × St} (hH : ∀ x, H x = G (F x)) : Rdr H m m'' (X ++ Y) := by
  have : H = fun x => G (F x) := funext hH
  rw [this]; exact hF.comp hG hd
theorem gfr_rdr (m : Ms) {a b : Int} (ha : 0 ≤ a ∧ a ≤ 1048575) (hb : 0 ≤ b ∧ b ≤ 1048575) : Rdr gfr m { m with fr := a, dst := b } (numB a ++ numB b) :=
  cut2 (F := fun x => ({ x.1 with fr := (belowS 1048576 x.2).1 }, (belowS 1048576 x.2).2)) (G := fun x => ({ x.1 with dst := (belowS 1048576 x.2).1 }, (belowS 1048576 x.2).2)) (m' := { m with fr := a })
    (num_rdr (B := 1048576) (n := a) ha (by decide) (fun s => rfl) (fun s hs => by show ({ m with fr := (belowS 1048576 s).1 } : Ms) = _; rw [hs]))
    (num_rdr (B := 1048576) (n := b) hb (by decide) (fun s => rfl) (fun s hs => by show ({ ({ m with fr := a } : Ms) with dst := (belowS 1048576 s).1 } : Ms) = _; rw [hs]))
    (num_dead (B := 1048576) (fun x => rfl)) (fun x => rfl)
theorem gep_rdr (m : Ms) {a b : Int} (ha : 0 ≤ a ∧ a ≤ 1099511627775) (hb : 0 ≤ b ∧ b ≤ 1099511627775) : Rdr gep m { m with ep := a, op := b } (numB a ++ numB b) :=
  cut2 (F := fun x => ({ x.1 with ep := (belowS 1099511627776 x.2).1 }, (belowS 1099511627776 x.2).2)) (G := fun x => ({ x.1 with op := (belowS 1099511627776 x.2).1 }, (belowS 1099511627776 x.2).2)) (m' := { m with ep := a })
    (num_rdr (B := 1099511627776) (n := a) ha (by decide) (fun s => rfl) (fun s hs => by show ({ m with ep := (belowS 1099511627776 s).1 } : Ms) = _; rw [hs]))
    (num_rdr (B := 1099511627776) (n := b) hb (by decide) (fun s => rfl) (fun s hs => by show ({ ({ m with ep := a } : Ms) with op := (belowS 1099511627776 s).1 } : Ms) = _; rw [hs]))
    (num_dead (B := 1099511627776) (fun x => rfl)) (fun x => rfl)
theorem gk_rdr (m : Ms) {a b : Int} (ha : 0 ≤ a ∧ a ≤ 64) (hb : 0 ≤ b ∧ b ≤ 64) : Rdr gk m { m with each := a, keep := b } (numB a ++ numB b) :=
  cut2 (F := fun x => ({ x.1 with each := (belowS 65 x.2).1 }, (belowS 65 x.2).2)) (G := fun x => ({ x.1 with keep := (belowS 65 x.2).1 }, (belowS 65 x.2).2)) (m' := { m with each := a })
    (num_rdr (B := 65) (n := a) ha (by decide) (fun s => rfl) (fun s hs => by show ({ m with each := (belowS 65 s).1 } : Ms) = _; rw [hs]))
    (num_rdr (B := 65) (n := b) hb (by decide) (fun s => rfl) (fun s hs => by show ({ ({ m with each := a } : Ms) with keep := (belowS 65 s).1 } : Ms) = _; rw [hs]))
    (num_dead (B := 65) (fun x => rfl)) (fun x => rfl)
/-- a count, and so many of something -/
theorem many_rdr {f : Ms × St → Ms × St} {m m' : Ms} {N : Nat} {B : Int} {Y : List Int} (hd : Dead f) (hN : (N : Int) ≤ B - 1) (hB : B ≤ 9223372036854775807) (hY : Rdr (iter f N) m m' Y) :
    Rdr (fun x => iter f (belowS B x.2).1.toNat (x.1, (belowS B x.2).2)) m m' (numB (N : Int) ++ Y) := by
  have hw := fun r => below_whole (n := (N : Int)) (m := B) ⟨Int.natCast_nonneg N, by omega⟩ (i64_of ⟨Int.natCast_nonneg N, hN⟩ (by omega)) r
  constructor
  · intro r
    show iter f (belowS B ⟨numB (N : Int) ++ Y ++ r, 0⟩).1.toNat (m, (belowS B ⟨numB (N : Int) ++ Y ++ r, 0⟩).2) = _
    rw [List.append_assoc, hw, Int.toNat_natCast, hY.whole]
  · intro q hq
    show (iter f (belowS B ⟨(numB (N : Int) ++ Y).take q, 0⟩).1.toNat (m, (belowS B ⟨(numB (N : Int) ++ Y).take q, 0⟩).2)).2.e = 12
    by_cases h : q < (numB (N : Int)).length
    · rw [List.take_append_of_le_length (Nat.le_of_lt h), below_cut q h]; rfl
    · obtain ⟨q', rfl⟩ : ∃ q', q = (numB (N : Int)).length + q' := ⟨q - (numB (N : Int)).length, by omega⟩
      rw [List.take_length_add_append, hw, Int.toNat_natCast]
      rw [List.length_append] at hq
      exact hY.cut q' (by omega)
theorem opt_rdr {F : Ms × St → Ms × St} {c : Bool} {m m' : Ms} {X : List Int} {G : Ms × St → Ms × St} (hF : ∀ x, F x = if c = true then G x else x) (h1 : c = true → Rdr G m m' X) (h0 : c = false → m' = m) : Rdr F m m' (if c = true then X else []) := by
  have : F = if c = true then G else fun x => x := by funext x; rw [hF]; split <;> rfl
  cases c
  · rw [this, h0 rfl]; exact Rdr.nil
  · rw [this]; exact h1 rfl
theorem rise_rng : ∀ {l : List Int} {a : Int}, -1 ≤ a → riseB a l = true → ∀ x ∈ l, 0 ≤ x ∧ x ≤ 1048575
  | [], _, _, _, x, hx => by cases hx
  | y :: l, a, ha, h, x, hx => by
    unfold riseB at h
    simp only [Bool.and_eq_true, decide_eq_true_eq] at h
    rcases List.mem_cons.1 hx with rfl | hx
    · omega
    · exact rise_rng (by omega) h.2 x hx
theorem zero_e {x : E6} (h : zeroB x = true) (h2 : x.f2.f1.length = 0) : x = zE := by
  unfold zeroB at h
  obtain ⟨h0, h3, h4, h5, h6⟩ := of_decide_eq_true h
  obtain ⟨k, ⟨a, b, c⟩, ⟨f, v⟩⟩ := x
  simp only at h0 h2 h3 h4 h5 h6
  subst h3 h4 h5 h6
  obtain rfl := List.length_eq_zero_iff.1 h2
  have : k = ⟨#[]⟩ := by
    rw [EncC.toList_eq] at h0
    obtain ⟨⟨l⟩⟩ := k
    simp only at h0
    subst h0; rfl
  rw [this]; rfl
def restB (m : Ms) : List Int := (numB m.fr ++ numB m.dst) ++ ((numB m.ep ++ numB m.op) ++ ((if (hasV m.kind).n = true then numB m.n else []) ++ ((if (hasV m.kind).f = true then truthB m.f else []) ++ ((if (hasV m.kind).e = true then entX m.e else []) ++ ((if (hasV m.kind).l = true then numB (m.L.length : Int) ++ entL m.L else []) ++ (if (hasV m.kind).r = true then (numB m.each ++ numB m.keep) ++ (numB (m.R.length : Int) ++ catB m.R) else []))))))
theorem bytesM_eq (m : Ms) : bytesM m = numB m.kind ++ restB m := by
  unfold bytesM b5 b4 b3 b2 b1 restB catB
  simp only [List.map_cons, List.map_nil, List.flatten_cons, List.flatten_nil, List.append_nil, List.append_assoc]
theorem tail_rdr {m : Ms} (ok : Okm m) : Rdr (tail (hasV m.kind)) { zM with kind := m.kind } m (restB m) := by
  obtain ⟨kd, fr, dst, ep, op, n, f, e, L, R, each, keep⟩ := m
  obtain ⟨b, hb⟩ : ∃ b, hasV kd = b := ⟨_, rfl⟩
  have k1 := ok.fr; have k2 := ok.dst; have k3 := ok.ep; have k4 := ok.op; have k5 := ok.n
  have n0 := ok.n0; have f0 := ok.f0; have l0 := ok.l0; have len := ok.len; have all := ok.all; have e1 := ok.e1; have e0 := ok.e0; have r1 := ok.r1; have r0 := ok.r0
  simp only at k1 k2 k3 k4 k5 n0 f0 l0 len all e1 e0 r1 r0
  unfold restB
  simp only
  rw [hb] at n0 f0 l0 e1 e0 r1 r0 ⊢
  refine cut2 (F := gfr) (G := fun x => gr b (gl b (ge b (gf b (gn b (gep x)))))) (gfr_rdr _ k1 k2) ?_ (((((gep_dead.comp (gn_dead b)).comp (gf_dead b)).comp (ge_dead b)).comp (gl_dead b)).comp (gr_dead b)) (fun x => rfl)
  refine cut2 (F := gep) (G := fun x => gr b (gl b (ge b (gf b (gn b x))))) (gep_rdr _ k3 k4) ?_ ((((gn_dead b).comp (gf_dead b)).comp (ge_dead b)).comp (gl_dead b) |>.comp (gr_dead b)) (fun x => rfl)
  refine cut2 (F := gn b) (G := fun x => gr b (gl b (ge b (gf b x)))) (m' := ⟨kd, fr, dst, ep, op, n, false, zE, [], [], 0, 0⟩) (opt_rdr (G := fun x => ({ x.1 with n := (belowS 1099511627776 x.2).1 }, (belowS 1099511627776 x.2).2)) (fun x => rfl) (fun _ => ?_) (fun h => ?_)) ?_ (((gf_dead b).comp (ge_dead b)).comp (gl_dead b) |>.comp (gr_dead b)) (fun x => rfl)
  · exact num_rdr (B := 1099511627776) (n := n) k5 (by decide) (fun s => rfl) (fun s hs => by show (⟨kd, fr, dst, ep, op, (belowS 1099511627776 s).1, false, zE, [], [], 0, 0⟩ : Ms) = _; rw [hs])
  · rcases n0 with h2 | h2
    · rw [h] at h2; cases h2
    · rw [h2]; rfl
  refine cut2 (F := gf b) (G := fun x => gr b (gl b (ge b x))) (m' := ⟨kd, fr, dst, ep, op, n, f, zE, [], [], 0, 0⟩) (opt_rdr (G := fun x => ({ x.1 with f := (truthS x.2).1 }, (truthS x.2).2)) (fun x => rfl) (fun _ => ⟨fun r => ?_, fun q hq => ?_⟩) (fun h => ?_)) ?_ ((ge_dead b).comp (gl_dead b) |>.comp (gr_dead b)) (fun x => rfl)
  · show (({ (⟨kd, fr, dst, ep, op, n, false, zE, [], [], 0, 0⟩ : Ms) with f := (truthS ⟨truthB f ++ r, 0⟩).1 } : Ms), (truthS ⟨truthB f ++ r, 0⟩).2) = _
    rw [truth_whole]
  · have hq0 : q = 0 := by have : (truthB f).length = 1 := by unfold truthB; split <;> rfl
                           omega
    subst hq0
    rfl
  · rcases f0 with h2 | h2
    · rw [h] at h2; cases h2
    · rw [h2]
  refine cut2 (F := ge b) (G := fun x => gr b (gl b x)) (m' := ⟨kd, fr, dst, ep, op, n, f, e, [], [], 0, 0⟩) (opt_rdr (G := fun x => ({ x.1 with e := toE (getS x.2).1 }, (getS x.2).2)) (fun x => rfl) (fun h => ?_) (fun h => ?_)) ?_ ((gl_dead b).comp (gr_dead b)) (fun x => rfl)
  · exact ent_rdr (e1 h) (fun s => rfl) (fun s hs => by show (⟨kd, fr, dst, ep, op, n, f, toE (getS s).1, [], [], 0, 0⟩ : Ms) = _; rw [hs])
  · obtain ⟨h2, h3⟩ := e0 h
    rw [zero_e h2 h3]
  refine cut2 (F := gl b) (G := gr b) (m' := ⟨kd, fr, dst, ep, op, n, f, e, L, [], 0, 0⟩) (opt_rdr (G := fun x => iter lstep (belowS 1001 x.2).1.toNat (x.1, (belowS 1001 x.2).2)) (fun x => rfl) (fun h => ?_) (fun h => ?_)) ?_ (gr_dead b) (fun x => rfl)
  · refine many_rdr (B := 1001) lstep_dead (by omega) (by decide) ?_
    have := list_rdr L ⟨kd, fr, dst, ep, op, n, f, e, [], [], 0, 0⟩ all
    simpa using this
  · rcases l0 with h2 | h2
    · rw [h] at h2; cases h2
    · rw [List.length_eq_zero_iff.1 h2]
  refine opt_rdr (G := fun x => iter rstep (belowS 65 (gk x).2).1.toNat ((gk x).1, (belowS 65 (gk x).2).2)) (fun x => rfl) (fun h => ?_) (fun h => ?_)
  · have hr := r1 h
    have hlen := ring_len hr
    unfold ringB at hr
    simp only [Bool.and_eq_true, decide_eq_true_eq] at hr
    refine cut2 (F := gk) (G := fun x => iter rstep (belowS 65 x.2).1.toNat (x.1, (belowS 65 x.2).2)) (gk_rdr _ (a := each) (b := keep) (by omega) (by omega)) ?_ ?_ (fun x => rfl)
    · refine many_rdr (B := 65) rstep_dead (by omega) (by decide) ?_
      have := nodes_rdr R ⟨kd, fr, dst, ep, op, n, f, e, L, [], each, keep⟩ (rise_rng (by decide) hr.1.2)
      simpa using this
    · intro x hx
      show (iter rstep (belowS 65 x.2).1.toNat (x.1, (belowS 65 x.2).2)).2.e = _
      rw [belowS_dead hx]; rfl
  · have h2 := r0 h
    unfold noneB at h2
    obtain ⟨h3, h4, h5⟩ := of_decide_eq_true h2
    rw [List.length_eq_zero_iff.1 h3, h4, h5]
theorem getM_whole {m : Ms} (ok : Okm m) (r : List Int) : getM ⟨bytesM m ++ r, 0⟩ = (m, ⟨r, 0⟩) := by
  have hk := ok.kd
  have hw := below_whole (n := m.kind) (m := 18) ⟨by omega, by omega⟩ (by omega) (restB m ++ r)
  have h0 : g0 ⟨bytesM m ++ r, 0⟩ = ({ zM with kind := m.kind }, ⟨restB m ++ r, 0⟩) := by
    unfold g0
    rw [bytesM_eq, List.append_assoc, hw]
    simp only
    rw [if_neg (by omega)]
  rw [getM_tail, h0]
  exact (tail_rdr ok).whole r
theorem getM_cut {m : Ms} (ok : Okm m) (q : Nat) (hq : q < (bytesM m).length) : (getM ⟨(bytesM m).take q, 0⟩).2.e = 12 := by
  have hk := ok.kd
  rw [getM_tail]
  rw [bytesM_eq] at hq ⊢
  by_cases h : q < (numB m.kind).length
  · rw [List.take_append_of_le_length (Nat.le_of_lt h)]
    have h0 : (g0 ⟨(numB m.kind).take q, 0⟩).2.e = 12 := by
      unfold g0
      rw [below_cut q h]
      rfl
    rw [tail_dead _ _ (by rw [h0]; decide), h0]
  · obtain ⟨q', rfl⟩ : ∃ q', q = (numB m.kind).length + q' := ⟨q - (numB m.kind).length, by omega⟩
    have hw := below_whole (n := m.kind) (m := 18) ⟨by omega, by omega⟩ (by omega) ((restB m).take q')
    have h0 : g0 ⟨(numB m.kind ++ restB m).take ((numB m.kind).length + q'), 0⟩ = ({ zM with kind := m.kind }, ⟨(restB m).take q', 0⟩) := by
      unfold g0
      rw [List.take_length_add_append, hw]
      simp only
      rw [if_neg (by omega)]
    rw [h0]
    rw [List.length_append] at hq
    exact (tail_rdr ok).cut q' (by omega)
/-! what Read tells of a message's bytes -/
theorem readM_whole {m : Ms} (ok : Okm m) : readM (bytesM m) = (m, 0) := by
  have h := getM_whole ok []
  rw [List.append_nil] at h
  unfold readM
  rw [h]
  simp only
  rw [if_pos (show endP [] 0 = 0 from rfl), if_pos ((okm_iff m).2 ok)]
theorem readM_more {m : Ms} (ok : Okm m) (x : Int) : (readM (bytesM m ++ [x])).2 = 11 := by
  have h := getM_whole ok [x]
  unfold readM
  rw [h]
  rfl
theorem readM_cut {m : Ms} (ok : Okm m) (q : Nat) (hq : q < (bytesM m).length) : (readM ((bytesM m).take q)).2 = 12 := by
  have h := getM_cut ok q hq
  have he : endP (getM ⟨(bytesM m).take q, 0⟩).2.l (getM ⟨(bytesM m).take q, 0⟩).2.e = 12 := by rw [h]; rfl
  unfold readM
  rw [he]
  rfl
end Go.Proofs.YthaoiamgkpkcbaaDoor.Ms
namespace Go.Proofs.YthaoiamgkpkcbaaDoor.Ms
open Go.ChangeShapes Go.WideShapes Go.ChangeAt Go.RowKit Go.Proofs.YthaoiamgkpkcbaaDoor.Pk Go.Proofs.YthaoiamgkpkcbaaDoor.Tg Go.Proofs.YthaoiamgkpkcbaaDoor.Enc Go.Proofs.YthaoiamgkpkcbaaDoor.EncC Go.Proofs.YthaoiamgkpkcbaaDoor.EncP
open Go.Proofs.YthaoiamgkpkcbaaDoor.Hlp Go.Proofs.YthaoiamgkpkcbaaDoor.Wrd Go.Proofs.YthaoiamgkpkcbaaDoor.Lex Go.Proofs.YthaoiamgkpkcbaaDoorW.PrintWords Go.Proofs.YthaoiamgkpkcbaaDoorW.PrintLast Go.Proofs.YthaoiamgkpkcbaaDoorW.PrintMore
set_option linter.unusedVariables false
set_option linter.unusedSimpArgs false
theorem sameX_self (x : E6) : sameX x x = true := sameE_self _ _ _ _ _ _
theorem sameLs_self : ∀ l : List E6, sameLs l l = true
  | [] => rfl
  | x :: l => by
    unfold sameLs
    rw [sameX_self, sameLs_self l]; rfl
theorem sameM_self (m : Ms) : sameM m m = true := by
  rw [sameM_yes ⟨rfl, rfl, rfl, rfl, rfl, rfl, rfl⟩, sameX_self, sameLs_self, decide_eq_true rfl, decide_eq_true ⟨rfl, rfl⟩]; rfl
theorem by_app {x y : List Int} (hx : Bytes x) (hy : Bytes y) : Bytes (x ++ y) := fun z hz => by
  rcases List.mem_append.1 hz with h | h
  · exact hx z h
  · exact hy z h
theorem by_nil0 : Bytes [] := fun z hz => by cases hz
theorem by_if {c : Prop} [Decidable c] {x : List Int} (hx : c → Bytes x) : Bytes (if c then x else []) := by
  split
  · next h => exact hx h
  · exact by_nil0
theorem by_cat : ∀ l : List Int, Bytes (catB l) := fun l z hz => by
  unfold catB at hz
  obtain ⟨y, hy, hz⟩ := List.mem_flatten.1 hz
  obtain ⟨n, hn, rfl⟩ := List.mem_map.1 hy
  exact numB_bytes n z hz
theorem by_ent {x : E6} (h : Bytes x.f2.f1) : Bytes (entX x) := entB_byte h
theorem by_entL {l : List E6} (h : ∀ x ∈ l, Bytes x.f2.f1) : Bytes (entL l) := fun z hz => by
  unfold entL at hz
  obtain ⟨y, hy, hz⟩ := List.mem_flatten.1 hz
  obtain ⟨n, hn, rfl⟩ := List.mem_map.1 hy
  exact by_ent (h n hn) z hz
theorem by_bytesM {m : Ms} (h : Bytes m.e.f2.f1) (hl : ∀ x ∈ m.L, Bytes x.f2.f1) : Bytes (bytesM m) := by
  unfold bytesM b5 b4 b3 b2 b1
  exact by_app (by_app (by_app (by_app (by_app (by_cat _) (by_if fun _ => by_cat _)) (by_if fun _ => Seg.truthB_byte _)) (by_if fun _ => by_ent h)) (by_if fun _ => by_app (by_cat _) (by_entL hl))) (by_if fun _ => by_app (by_cat _) (by_cat _))
end Go.Proofs.YthaoiamgkpkcbaaDoor.Ms
namespace Go.Proofs.YthaoiamgkpkcbaaDoor.Ms
open Go Go.RowKit Go.Proofs.YthaoiamgkpkcbaaDoor.Pk Go.Proofs.YthaoiamgkpkcbaaDoor.Tg Go.Proofs.YthaoiamgkpkcbaaDoor.Enc Go.Proofs.YthaoiamgkpkcbaaDoor.EncP Go.Proofs.YthaoiamgkpkcbaaDoor.Seg
set_option linter.unusedVariables false
set_option linter.unusedSimpArgs false
/-- a step that has read some bytes, and what they make of the message -/
def Bck (F : Ms × St → Ms × St) (R : Ms → Ms → List Int → Prop) : Prop := ∀ m l, Byte l → (F (m, ⟨l, 0⟩)).2.e = 0 → ∃ X, l = X ++ (F (m, ⟨l, 0⟩)).2.l ∧ R m (F (m, ⟨l, 0⟩)).1 X
theorem byte_right {X Y : List Int} (h : Byte (X ++ Y)) : Byte Y := fun x hx => h x (List.mem_append_right _ hx)
theorem Bck.comp {F G : Ms × St → Ms × St} {R S : Ms → Ms → List Int → Prop} (hF : Bck F R) (hG : Bck G S) (hd : Dead G) : Bck (fun x => G (F x)) (fun m m' X => ∃ n Y Z, X = Y ++ Z ∧ R m n Y ∧ S n m' Z) := by
  intro m l hl he
  have h0 : (F (m, ⟨l, 0⟩)).2.e = 0 := by
    by_cases h : (F (m, ⟨l, 0⟩)).2.e = 0
    · exact h
    · exact absurd ((hd _ h).symm.trans he) h
  obtain ⟨Y, hY, hR⟩ := hF m l hl h0
  obtain ⟨⟨n, l1, e1⟩, hx⟩ : ∃ r, F (m, ⟨l, 0⟩) = r := ⟨_, rfl⟩
  rw [hx] at h0 hY hR
  simp only at h0 hY hR
  subst h0
  simp only [hx] at he ⊢
  obtain ⟨Z, hZ, hS⟩ := hG n l1 (byte_right (hY ▸ hl)) he
  exact ⟨Y ++ Z, by rw [List.append_assoc, ← hZ]; exact hY, n, Y, Z, rfl, hR, hS⟩
theorem num_bck {F : Ms × St → Ms × St} {B : Int} {f : Ms → Int → Ms} (hF : ∀ x, F x = (f x.1 (belowS B x.2).1, (belowS B x.2).2)) : Bck F (fun m m' X => ∃ n, 0 ≤ n ∧ n < B ∧ m' = f m n ∧ X = numB n) := by
  intro m l hl he
  rw [hF] at he ⊢
  obtain ⟨⟨n, s⟩, hx⟩ : ∃ r, belowS B ⟨l, 0⟩ = r := ⟨_, rfl⟩
  rw [hx] at he ⊢
  obtain ⟨h1, h2, h3⟩ := below_back hl hx he
  exact ⟨numB n, h1, n, h2, h3, rfl, rfl⟩
theorem opt_bck {F G : Ms × St → Ms × St} {c : Bool} {R : Ms → Ms → List Int → Prop} (hF : ∀ x, F x = if c = true then G x else x) (hG : Bck G R) : Bck F (fun m m' X => if c = true then R m m' X else m' = m ∧ X = []) := by
  intro m l hl he
  rw [hF] at he ⊢
  cases c
  · exact ⟨[], rfl, rfl, rfl⟩
  · simp only [if_true] at he ⊢
    exact hG m l hl he
theorem truth_bck {F : Ms × St → Ms × St} {f : Ms → Bool → Ms} (hF : ∀ x, F x = (f x.1 (truthS x.2).1, (truthS x.2).2)) : Bck F (fun m m' X => ∃ t, m' = f m t ∧ X = truthB t) := by
  intro m l hl he
  rw [hF] at he ⊢
  obtain ⟨⟨n, s⟩, hx⟩ : ∃ r, truthS ⟨l, 0⟩ = r := ⟨_, rfl⟩
  rw [hx] at he ⊢
  exact ⟨truthB n, truth_back hl hx he, n, rfl, rfl⟩
theorem ent_bck {F : Ms × St → Ms × St} {f : Ms → E6 → Ms} (hF : ∀ x, F x = (f x.1 (toE (getS x.2).1), (getS x.2).2)) : Bck F (fun m m' X => ∃ e, okE e ∧ m' = f m e ∧ X = entX e) := by
  intro m l hl he
  rw [hF] at he ⊢
  obtain ⟨⟨n, s⟩, hx⟩ : ∃ r, getS ⟨l, 0⟩ = r := ⟨_, rfl⟩
  rw [hx] at he ⊢
  obtain ⟨h1, h2⟩ := get_back hl hx he
  exact ⟨entX (toE n), h1, toE n, h2, rfl, rfl⟩
theorem two_bck {F : Ms × St → Ms × St} {A B : Int} {f : Ms → Int → Int → Ms} (hF : ∀ x, F x = (f x.1 (belowS A x.2).1 (belowS B (belowS A x.2).2).1, (belowS B (belowS A x.2).2).2)) : Bck F (fun m m' X => ∃ a b, m' = f m a b ∧ X = numB a ++ numB b) := by
  intro m l hl he
  rw [hF] at he ⊢
  obtain ⟨⟨a, s⟩, hx⟩ : ∃ r, belowS A ⟨l, 0⟩ = r := ⟨_, rfl⟩
  rw [hx] at he ⊢
  have h0 : s.e = 0 := by
    by_cases h : s.e = 0
    · exact h
    · have := belowS_dead (m := B) h
      exact absurd (by rw [← he]; simp only [this]) h
  obtain ⟨h1, _, _⟩ := below_back hl hx h0
  obtain ⟨sl, se⟩ := s
  simp only at h0 h1 he ⊢
  subst h0
  obtain ⟨⟨b, t⟩, hy⟩ : ∃ r, belowS B ⟨sl, 0⟩ = r := ⟨_, rfl⟩
  rw [hy] at he ⊢
  obtain ⟨h2, _, _⟩ := below_back (byte_right (h1 ▸ hl)) hy he
  exact ⟨numB a ++ numB b, by rw [List.append_assoc, ← h2]; exact h1, a, b, rfl, rfl⟩
theorem lstep_bck : ∀ N, Bck (iter lstep N) (fun m m' X => ∃ L : List E6, L.length = N ∧ m' = { m with L := m.L ++ L } ∧ X = entL L)
  | 0 => fun m l hl he => ⟨[], rfl, [], rfl, by simp [iter], rfl⟩
  | N + 1 => fun m l hl he => by
    have h := ((lstep_bck N).comp (G := lstep) (S := fun m m' X => ∃ e, okE e ∧ m' = { m with L := m.L ++ [e] } ∧ X = entX e) (ent_bck (f := fun m e => { m with L := m.L ++ [e] }) (fun x => rfl)) lstep_dead) m l hl he
    obtain ⟨X, hX, n, Y, Z, rfl, ⟨L, hL, rfl, rfl⟩, ⟨e, he2, hm, rfl⟩⟩ := h
    refine ⟨_, hX, L ++ [e], by rw [List.length_append, hL]; rfl, ?_, by rw [entL_snoc]⟩
    show (lstep (iter lstep N (m, ⟨l, 0⟩))).1 = _
    rw [hm]
    simp only [List.append_assoc]
theorem rstep_bck : ∀ N, Bck (iter rstep N) (fun m m' X => ∃ L : List Int, L.length = N ∧ m' = { m with R := m.R ++ L } ∧ X = catB L)
  | 0 => fun m l hl he => ⟨[], rfl, [], rfl, by simp [iter], rfl⟩
  | N + 1 => fun m l hl he => by
    have h := ((rstep_bck N).comp (G := rstep) (S := fun m m' X => ∃ n, 0 ≤ n ∧ n < 1048576 ∧ m' = { m with R := m.R ++ [n] } ∧ X = numB n) (num_bck (f := fun m e => { m with R := m.R ++ [e] }) (fun x => rfl)) rstep_dead) m l hl he
    obtain ⟨X, hX, n, Y, Z, rfl, ⟨L, hL, rfl, rfl⟩, ⟨e, _, _, hm, rfl⟩⟩ := h
    refine ⟨_, hX, L ++ [e], by rw [List.length_append, hL]; rfl, ?_, by unfold catB; simp⟩
    show (rstep (iter rstep N (m, ⟨l, 0⟩))).1 = _
    rw [hm]
    simp only [List.append_assoc]
theorem many_bck {H f : Ms × St → Ms × St} {B : Int} {T : Nat → Ms → Ms → List Int → Prop} (hH : ∀ x, H x = iter f (belowS B x.2).1.toNat (x.1, (belowS B x.2).2)) (hf : ∀ N, Bck (iter f N) (T N)) (hd : Dead f) : Bck H (fun m m' X => ∃ n, 0 ≤ n ∧ ∃ Y, X = numB n ++ Y ∧ T n.toNat m m' Y) := by
  intro m l hl he
  rw [hH] at he ⊢
  obtain ⟨⟨n, s⟩, hx⟩ : ∃ r, belowS B ⟨l, 0⟩ = r := ⟨_, rfl⟩
  rw [hx] at he ⊢
  have h0 : s.e = 0 := by
    by_cases h : s.e = 0
    · exact h
    · have := iter_dead hd n.toNat (m, s) h
      exact absurd (this.symm.trans he) h
  obtain ⟨h1, h2, _⟩ := below_back hl hx h0
  obtain ⟨sl, se⟩ := s
  simp only at h0 h1
  subst h0
  obtain ⟨Y, hY, hT⟩ := hf n.toNat m sl (byte_right (h1 ▸ hl)) he
  exact ⟨numB n ++ Y, by rw [List.append_assoc, ← hY]; exact h1, n, h2, Y, rfl, hT⟩
theorem Bck.imp {F : Ms × St → Ms × St} {R S : Ms → Ms → List Int → Prop} (h : Bck F R) (hi : ∀ m m' X, R m m' X → S m m' X) : Bck F S := fun m l hl he => by
  obtain ⟨X, hX, hR⟩ := h m l hl he
  exact ⟨X, hX, hi _ _ _ hR⟩
theorem gfr_bck : Bck gfr (fun m m' X => ∃ a b, m' = { m with fr := a, dst := b } ∧ X = numB a ++ numB b) := two_bck (f := fun m a b => { m with fr := a, dst := b }) (fun x => rfl)
theorem gep_bck : Bck gep (fun m m' X => ∃ a b, m' = { m with ep := a, op := b } ∧ X = numB a ++ numB b) := two_bck (f := fun m a b => { m with ep := a, op := b }) (fun x => rfl)
theorem gk_bck : Bck gk (fun m m' X => ∃ a b, m' = { m with each := a, keep := b } ∧ X = numB a ++ numB b) := two_bck (f := fun m a b => { m with each := a, keep := b }) (fun x => rfl)
theorem gn_bck (h : Hs) : Bck (gn h) (fun m m' X => ∃ n, m' = { m with n := n } ∧ X = if h.n = true then numB n else []) :=
  (opt_bck (fun x => rfl) (num_bck (B := 1099511627776) (f := fun m n => { m with n := n }) (fun x => rfl))).imp fun m m' X hx => by
    cases hh : h.n
    · rw [hh] at hx; obtain ⟨rfl, rfl⟩ := hx; exact ⟨m'.n, rfl, rfl⟩
    · rw [hh] at hx; obtain ⟨n, _, _, rfl, rfl⟩ := hx; exact ⟨n, rfl, rfl⟩
theorem gf_bck (h : Hs) : Bck (gf h) (fun m m' X => ∃ n, m' = { m with f := n } ∧ X = if h.f = true then truthB n else []) :=
  (opt_bck (fun x => rfl) (truth_bck (f := fun m n => { m with f := n }) (fun x => rfl))).imp fun m m' X hx => by
    cases hh : h.f
    · rw [hh] at hx; obtain ⟨rfl, rfl⟩ := hx; exact ⟨m'.f, rfl, rfl⟩
    · rw [hh] at hx; obtain ⟨n, rfl, rfl⟩ := hx; exact ⟨n, rfl, rfl⟩
theorem ge_bck (h : Hs) : Bck (ge h) (fun m m' X => ∃ n, m' = { m with e := n } ∧ X = if h.e = true then entX n else []) :=
  (opt_bck (fun x => rfl) (ent_bck (f := fun m n => { m with e := n }) (fun x => rfl))).imp fun m m' X hx => by
    cases hh : h.e
    · rw [hh] at hx; obtain ⟨rfl, rfl⟩ := hx; exact ⟨m'.e, rfl, rfl⟩
    · rw [hh] at hx; obtain ⟨n, _, rfl, rfl⟩ := hx; exact ⟨n, rfl, rfl⟩
theorem gl_bck (h : Hs) : Bck (gl h) (fun m m' X => ∃ L, m' = { m with L := m.L ++ L } ∧ X = if h.l = true then numB (L.length : Int) ++ entL L else []) :=
  (opt_bck (G := fun x => iter lstep (belowS 1001 x.2).1.toNat (x.1, (belowS 1001 x.2).2)) (fun x => rfl) (many_bck (B := 1001) (fun x => rfl) lstep_bck lstep_dead)).imp fun m m' X hx => by
    cases hh : h.l
    · rw [hh] at hx; obtain ⟨rfl, rfl⟩ := hx; exact ⟨[], by simp, rfl⟩
    · rw [hh] at hx; obtain ⟨n, hn, Y, rfl, L, hL, rfl, rfl⟩ := hx
      exact ⟨L, rfl, by rw [hL, Int.toNat_of_nonneg hn]; rfl⟩
theorem gr_bck (h : Hs) : Bck (gr h) (fun m m' X => ∃ a b R, m' = { m with each := a, keep := b, R := m.R ++ R } ∧ X = if h.r = true then (numB a ++ numB b) ++ (numB (R.length : Int) ++ catB R) else []) :=
  (opt_bck (G := fun x => iter rstep (belowS 65 (gk x).2).1.toNat ((gk x).1, (belowS 65 (gk x).2).2)) (fun x => rfl) (gk_bck.comp (many_bck (H := fun x => iter rstep (belowS 65 x.2).1.toNat (x.1, (belowS 65 x.2).2)) (B := 65) (fun x => rfl) rstep_bck rstep_dead) (fun x hx => by
    have h1 : (belowS 65 x.2).2.e = x.2.e := by rw [belowS_dead hx]
    have h2 := iter_dead rstep_dead (belowS 65 x.2).1.toNat (x.1, (belowS 65 x.2).2) (by rw [h1]; exact hx)
    exact h2.trans h1))).imp fun m m' X hx => by
    cases hh : h.r
    · rw [hh] at hx; obtain ⟨rfl, rfl⟩ := hx; exact ⟨m'.each, m'.keep, [], by simp, rfl⟩
    · rw [hh] at hx; obtain ⟨n, Y, Z, rfl, ⟨a, b, rfl, rfl⟩, k, hk, W, rfl, R, hR, rfl, rfl⟩ := hx
      exact ⟨a, b, R, rfl, by rw [hR, Int.toNat_of_nonneg hk]; rfl⟩
/-- what a message is read from begins with its bytes -/
theorem getM_back {l : List Int} {m : Ms} {s : St} (hl : Byte l) (h : getM ⟨l, 0⟩ = (m, s)) (he : s.e = 0) : l = bytesM m ++ s.l := by
  rw [getM_tail] at h
  obtain ⟨⟨k, s1⟩, hk⟩ : ∃ r, belowS 18 ⟨l, 0⟩ = r := ⟨_, rfl⟩
  have hg : g0 ⟨l, 0⟩ = ({ zM with kind := k }, if k = 0 then failS s1 else s1) := by unfold g0; rw [hk]
  rw [hg] at h
  simp only at h
  have h0 : (if k = 0 then failS s1 else s1).e = 0 := by
    by_cases h0 : (if k = 0 then failS s1 else s1).e = 0
    · exact h0
    · have := tail_dead (hasV k) ({ zM with kind := k }, if k = 0 then failS s1 else s1) h0
      rw [h] at this
      exact absurd (this.symm.trans he) h0
  by_cases hk0 : k = 0
  · rw [if_pos hk0] at h0
    unfold failS at h0
    split at h0
    · cases h0
    · contradiction
  · rw [if_neg hk0] at h0 h
    obtain ⟨h1, _, _⟩ := below_back hl hk h0
    obtain ⟨sl, se⟩ := s1
    simp only at h0 h1
    subst h0
    obtain ⟨X, hX, n6, Y6, Z6, rfl, ⟨n5, Y5, Z5, rfl, ⟨n4, Y4, Z4, rfl, ⟨n3, Y3, Z3, rfl, ⟨n2, Y2, Z2, rfl, ⟨n1, Y1, Z1, rfl, ⟨a1, a2, rfl, rfl⟩, a3, a4, rfl, rfl⟩, a5, rfl, rfl⟩, a6, rfl, rfl⟩, a7, rfl, rfl⟩, a8, rfl, rfl⟩, a9, aa, ab, hm, rfl⟩ := ((((((gfr_bck.comp gep_bck gep_dead).comp (gn_bck (hasV k)) (gn_dead _)).comp (gf_bck (hasV k)) (gf_dead _)).comp (ge_bck (hasV k)) (ge_dead _)).comp (gl_bck (hasV k)) (gl_dead _)).comp (gr_bck (hasV k)) (gr_dead _)) { zM with kind := k } sl (byte_right (h1 ▸ hl)) (by show (tail (hasV k) ({ zM with kind := k }, ⟨sl, 0⟩)).2.e = 0; rw [h]; exact he)
    have hm2 : m = _ := (congrArg Prod.fst h).symm.trans hm
    have hX2 : sl = _ ++ s.l := hX.trans (congrArg (fun q : List Int => _ ++ q) (congrArg (fun q : Ms × St => q.2.l) h))
    subst hm2
    rw [bytesM_eq, h1]
    have hr : ∀ Z : List Int, sl = Z ++ s.l → numB k ++ sl = numB k ++ (Z ++ s.l) := fun Z hZ => by rw [← hZ]
    refine (hr _ hX2).trans ?_
    unfold restB
    simp only [List.append_assoc]
    rfl
theorem readM_back {l : List Int} {m : Ms} (hl : Byte l) (h : readM l = (m, 0)) : bytesM m = l ∧ Okm m := by
  unfold readM at h
  obtain ⟨⟨n, s⟩, hg⟩ : ∃ r, getM ⟨l, 0⟩ = r := ⟨_, rfl⟩
  rw [hg] at h
  simp only at h
  by_cases h0 : endP s.l s.e = 0
  · rw [if_pos h0] at h
    by_cases h4 : a4 n = true
    · rw [if_pos h4] at h
      obtain ⟨rfl, _⟩ := Prod.mk.inj h
      have he : s.e = 0 ∧ s.l = [] := by
        unfold endP at h0
        repeat' split at h0
        all_goals first | omega | (constructor <;> simp_all)
      have := getM_back hl hg he.1
      rw [he.2, List.append_nil] at this
      exact ⟨this.symm, (okm_iff n).1 h4⟩
    · rw [if_neg h4] at h; cases (Prod.mk.inj h).2
  · rw [if_neg h0] at h; exact absurd (Prod.mk.inj h).2 h0
end Go.Proofs.YthaoiamgkpkcbaaDoor.Ms
namespace Go.Proofs.YthaoiamgkpkcbaaDoor.Ms
open Go.ChangeShapes Go.WideShapes Go.ChangeAt Go.RowKit Go.Proofs.YthaoiamgkpkcbaaDoor.Pk Go.Proofs.YthaoiamgkpkcbaaDoor.Tg Go.Proofs.YthaoiamgkpkcbaaDoor.Enc Go.Proofs.YthaoiamgkpkcbaaDoor.EncC Go.Proofs.YthaoiamgkpkcbaaDoor.EncP
open Go.Proofs.YthaoiamgkpkcbaaDoor.Hlp Go.Proofs.YthaoiamgkpkcbaaDoor.Wrd Go.Proofs.YthaoiamgkpkcbaaDoor.Lex Go.Proofs.YthaoiamgkpkcbaaDoorW.PrintWords Go.Proofs.YthaoiamgkpkcbaaDoorW.PrintLast Go.Proofs.YthaoiamgkpkcbaaDoorW.PrintMore
set_option linter.unusedVariables false
set_option linter.unusedSimpArgs false
/-- what msgs.Bytes answers, with its room -/
def BtR (m : Ms) (w : World) (e : Ending) (w' : World) : Prop := ∃ A n c x xs, e = .returned (.tuple #[.slice A n c, .int .i64 x]) ∧ Kd.C (Kd.int .u8) w' A n xs ∧ n ≤ c ∧ (x = 0 ∧ xs = bytesM m ∧ Okm m ∨ x = 2) ∧ Below w.heap.size w w'
theorem ok_two (m : Ms) : Okm m ∨ checkM m = 2 := by
  unfold checkM
  by_cases h : a4 m = true
  · left; exact (okm_iff m).1 h
  · right; exact if_neg h
theorem bytes_room {w : World} {m : Ms} {p : Pl} (hK : Kin w) (hm : Lies w m p) (hv : Bytes m.e.f2.f1) (hR : m.R.length < 9223372036854775807) :
    Calls Tryd.prog 12 #[.agg (m.val p)] w (BtR m w) := by
  rcases ok_two m with ok | h2
  · refine (bytes_ok hK hm hv hR ok).mono ?_
    rintro e w' ⟨v, rfl, hR3, hb⟩
    obtain ⟨A3, k3, rfl, hc3, hC3⟩ := Kd.R_reads hR3
    exact ⟨A3, _, k3, 0, _, rfl, hC3, hc3, Or.inl ⟨rfl, rfl, ok⟩, hb⟩
  · refine (bytes_no hK hm hv hR h2).mono ?_
    rintro e w' ⟨rfl, hb⟩
    exact ⟨none, 0, 0, 2, [], rfl, Kd.C_nil _ _, Nat.le_refl _, Or.inr rfl, hb⟩
theorem C_takeM {w : World} {A : Option Addr} {n k : Nat} {xs : List Int} (h : Kd.C (Kd.int .u8) w A n xs) (hk : k ≤ n) : Kd.C (Kd.int .u8) w A k (xs.take k) := by
  obtain rfl : xs.length = n := h.1
  exact C_take h k hk
theorem bytesM_pos (m : Ms) : 0 < (bytesM m).length := by
  rw [bytesM_eq, List.length_append]
  have := Enc.numB_pos m.kind
  omega
theorem bytesM_len {m : Ms} (ok : Okm m) : (bytesM m).length ≤ 100000000 := by
  have h := (lens m ok).2.2.2.2
  unfold bytesM
  rw [List.length_append]
  split
  · rename_i hr
    have h1 := ring_len (ok.r1 hr)
    have h2 : (catB [m.each, m.keep, (m.R.length : Int)]).length ≤ 27 := catB_len [m.each, m.keep, (m.R.length : Int)]
    have h3 := catB_len m.R
    rw [List.length_append]; omega
  · rw [List.length_nil]; omega
theorem read_g {w : World} {A : Option Addr} {n c : Nat} {l : List Int} {m : Ms} {e : Int} (hq : readM l = (m, e)) (hK : Kin w) (hr : Kd.C (Kd.int .u8) w A n l) (hc : n ≤ c) (hb : Bytes l) (hl : n ≤ 140737488351232) :
    Calls Tryd.prog 17 #[.slice A n c] w fun x w' => ∃ p : Pl, x = .returned (.tuple #[.agg (m.val p), .int .i64 e]) ∧ Lies w' m p ∧ Below w.heap.size w w' := by
  refine (read_m hK hr hc hb hl).mono ?_
  rw [hq]
  rintro x w' ⟨p, rfl, ho, hb⟩
  exact ⟨p, rfl, ho.lies, hb⟩
theorem readM_by {l : List Int} {m : Ms} {e : Int} (hl : Bytes l) (h : readM l = (m, e)) : Bytes m.e.f2.f1 ∧ m.R.length ≤ 64 := by
  have hz : Bytes zM.e.f2.f1 ∧ zM.R.length ≤ 64 := ⟨by_nil, Nat.zero_le _⟩
  unfold readM at h
  split at h
  · split at h
    · obtain ⟨rfl, _⟩ := Prod.mk.inj h
      exact ⟨(getM_by ⟨l, 0⟩ hl).e, getM_R _⟩
    · obtain ⟨rfl, _⟩ := Prod.mk.inj h; exact hz
  · obtain ⟨rfl, _⟩ := Prod.mk.inj h; exact hz
theorem readM_no {l : List Int} {m : Ms} {e : Int} (h : readM l = (m, e)) (he : e ≠ 0) : m = zM := by
  unfold readM at h
  split at h
  · split at h
    · exact absurd (Prod.mk.inj h).2.symm he
    · exact (Prod.mk.inj h).1.symm
  · exact (Prod.mk.inj h).1.symm
theorem bytes_g {w : World} {m : Ms} {p : Pl} {l : List Int} (hl : bytesM m = l) (hK : Kin w) (hm : Lies w m p) (hv : Bytes m.e.f2.f1) (hR : m.R.length < 9223372036854775807) (ok : Okm m) :
    Calls Tryd.prog 12 #[.agg (m.val p)] w fun e w' => ∃ A c, e = .returned (.tuple #[.slice A l.length c, .int .i64 0]) ∧ Kd.C (Kd.int .u8) w' A l.length l ∧ l.length ≤ c ∧ Below w.heap.size w w' := by
  subst hl
  refine (bytes_ok hK hm hv hR ok).mono ?_
  rintro e w' ⟨v, rfl, hR3, hb⟩
  obtain ⟨A3, k3, rfl, hc3, hC3⟩ := Kd.R_reads hR3
  exact ⟨A3, k3, rfl, hC3, hc3, hb⟩
set_option maxHeartbeats 16000000 in
set_option maxRecDepth 100000 in
theorem back_law {w : World} {m : Ms} {p : Pl} {A : Option Addr} {c : Nat} {xs : List Int} (ct : Nat) (mo : Int) (hmo0 : 0 ≤ mo) (hmo1 : mo < 256) (hK : Kin w) (hm : Lies w m p) (wm : Opn.Wm m) (hr : Kd.C (Kd.int .u8) w A xs.length xs) (hc : xs.length ≤ c) (hct : ct < 65536) (hb : Bytes xs) :
    Calls Tryd.prog 5 #[.agg (m.val p), .slice A xs.length c, .int .u16 (ct : Int), .int .u8 mo] w fun e w' => e = .returned (.bool true) ∧ Below w.heap.size w w' := by
  have HB0 := Aside0.mk (below_alloc (Below.refl w.heap.size w) (.cells (m.val p) 34))
  have BM := Aside0.mk (blk_new w (.cells (m.val p) 34))
  have HK := Aside0.mk hK
  have HM := Aside0.mk hm
  have HX := Aside0.mk hr
  have HXB := Aside0.mk hb
  clear hK hm hr hb
  have hl : m.L.length < 9223372036854775807 := by have := wm.ll; omega
  have hR : m.R.length < 9223372036854775807 := by have := wm.rl; omega
  have hv : m.e.f2.f1.length < 9223372036854775807 := by have := wm.el; omega
  have WM := Aside0.mk wm
  clear wm
  go_enter Tryd.func5, Tryd.ntmps5
  go_upto_region 1 with fail
  generalize w.alloc (.cells (m.val p) 34) = W at *
  by_cases hlong : 1500 < xs.length
  · have t1 : decide (1500 < (xs.length : Int)) = true := decide_eq_true (by omega)
    as_aux_lemma =>
    go_upto_region 2 with (first
      | (refine wpList_load_row rfl 34 (.tmp 4) rfl w.heap.size rfl 34 (m.val p) (0, 0) _ BM.out Tryd.underlying34 rfl (by kernel_rfl) ?_)
      | (go_at_call 10; (with_reducible refine (long_c (HM.out.below HB0.out) hl).mono ?_); rintro x w1 ⟨⟨r, rfl⟩, hq⟩; have HB1 := Aside0.mk (HB0.out.trans (hq.mono HB0.out.size)); clear hq; cases r))
    all_goals
      go_wp2_with (go_at_call 11; (with_reducible refine (known_ _ (HK.out.below HB1.out)).mono ?_); rintro z w9 ⟨rfl, hq⟩; have HB9 := Aside0.mk (HB1.out.trans (hq.mono HB1.out.size)); clear hq)
      go_ret
      exact ⟨rfl, HB9.out⟩
  · have t1 : decide (1500 < (xs.length : Int)) = false := decide_eq_false (by omega)
    have hxl : xs.length ≤ 140737488351232 := by omega
    go_upto_if 28 with (first
      | (refine wpList_load_row rfl 34 (.tmp 4) rfl w.heap.size rfl 34 (m.val p) (0, 0) _ BM.out Tryd.underlying34 rfl (by kernel_rfl) ?_)
      | (go_at_call 10; (with_reducible refine (long_c (HM.out.below HB0.out) hl).mono ?_); rintro x w1 ⟨⟨r, rfl⟩, hq⟩; have HB1 := Aside0.mk (HB0.out.trans (hq.mono HB0.out.size)); have BM1 := Aside0.mk ((hq.block _ (blk_lt BM.out)).trans BM.out); clear hq; cases r))
    · as_aux_lemma =>
      go_upto_if 36 with (first
        | (refine wpList_load_row rfl 34 (.tmp 4) rfl w.heap.size rfl 34 (m.val p) (0, 0) _ BM1.out Tryd.underlying34 rfl (by kernel_rfl) ?_)
        | (go_at_call 12; (with_reducible refine (bytes_room (HK.out.below HB1.out) (HM.out.below HB1.out) WM.out.e hR).mono ?_); rintro x w2 ⟨As, n, cs, x1, s, rfl, hC, hcs, hx, hq⟩; have HS := Aside0.mk hC; have HX1 := Aside0.mk hx; have HB2 := Aside0.mk (HB1.out.trans (hq.mono HB1.out.size)); have BM2 := Aside0.mk ((hq.block _ (blk_lt BM1.out)).trans BM1.out); clear hq hC hx))
      go_cut [] (fun wc => Aside0 (Below w.heap.size w wc))
      case first =>
        clear HB0 BM HB1 BM1 hc hxl
        rcases HX1.out with ⟨rfl, hs, ok⟩ | rfl
        · as_aux_lemma =>
          have r1 := readM_whole ok
          have r2 := fun q hq => readM_cut ok q hq
          have r3 := readM_more ok mo
          have hs0 := bytesM_pos m
          have hs1 := bytesM_len ok
          have hby := by_bytesM WM.out.e (fun x hx => (WM.out.l x hx).1)
          rw [← hs] at r1 r2 r3 hs0 hs1 hby
          have R1 := Aside0.mk r1
          have R2 := Aside0.mk r2
          have R3 := Aside0.mk r3
          have HBy := Aside0.mk hby
          have hn : s.length = n := HS.out.1
          rw [hn] at hs0 hs1
          have HN := Aside0.mk hn
          clear hs ok r1 r2 r3 hby hn HX1
          have tn : (n == 0) = false := beq_eq_false_iff_ne.2 (by omega)
          go_wp2_with fail
          (with_reducible refine (read_g R1.out (HK.out.below HB2.out) HS.out hcs HBy.out (by omega)).mono ?_)
          rintro y w3 ⟨q, rfl, hL, hq⟩
          have HL := Aside0.mk (hL.below (below_alloc (Below.refl w3.heap.size w3) (.cells (m.val q) 34)))
          have HB3 := Aside0.mk (below_alloc (below_then HB2.out HB2.out.size hq) (.cells (m.val q) 34))
          have BN := Aside0.mk (blk_new w3 (.cells (m.val q) 34))
          have BM3 := Aside0.mk (blk_alloc (blk_below BM2.out hq) (.cells (m.val q) 34))
          have HS3 := Aside0.mk (Kd.C_alloc (Kd.C_below HS.out hq) (.cells (m.val q) 34))
          clear hL hq
          go_upto_region 8 with fail
          obtain ⟨g1, hg1⟩ : ∃ g, w3.heap.size = g := ⟨_, rfl⟩
          rw [hg1] at BN
          simp only [hg1]
          generalize w3.alloc (.cells (m.val q) 34) = w4 at *
          clear hg1
          obtain ⟨j, hj⟩ : ∃ j, ct % n = j := ⟨_, rfl⟩
          have hjn : j < n := by rw [← hj]; exact Nat.mod_lt _ (by omega)
          have hrem : (ct : Int) % (n : Int) = (j : Int) := by omega
          have p0 : (0 : Int) ≤ (j : Int) := by omega
          have p1 : (j : Int) ≤ (cs : Int) := by omega
          clear hj
          go_wp2_with fail
          obtain ⟨z, hz⟩ : ∃ z, readM (s.take j) = (z, 12) := ⟨_, Prod.ext rfl (R2.out j (by rw [HN.out]; exact hjn))⟩
          (with_reducible refine (read_g hz (HK.out.below HB3.out) (C_takeM HS3.out (Nat.le_of_lt hjn)) (by omega) (by_take HBy.out j) (by omega)).mono ?_)
          rintro y w5 ⟨q2, rfl, _, hq⟩
          have HL := Aside0.mk ((HL.out.below hq).below (below_alloc (Below.refl w5.heap.size w5) (.cells (z.val q2) 34)))
          have HB5 := Aside0.mk (below_alloc (below_then HB3.out HB3.out.size hq) (.cells (z.val q2) 34))
          have BN := Aside0.mk (blk_alloc (blk_below BN.out hq) (.cells (z.val q2) 34))
          have BM5 := Aside0.mk (blk_alloc (blk_below BM3.out hq) (.cells (z.val q2) 34))
          have HS5 := Aside0.mk (Kd.C_alloc (Kd.C_below HS3.out hq) (.cells (z.val q2) 34))
          clear hq hz
          go_upto_region 9 with fail
          generalize w5.alloc (.cells (z.val q2) 34) = w6 at *
          clear hrem p0 p1 HB2 HB3 BM2 BM3 HS HS3
          as_aux_lemma =>
          go_wp2_with fail
          (with_reducible refine (copyb_c HS5.out hcs (by omega)).mono ?_)
          rintro y w7 ⟨vt, rfl, ho, hq⟩
          have HT := Aside0.mk ho
          have HB7 := Aside0.mk hq
          obtain ⟨At, ca, rfl⟩ := Kd.R_slice HT.out
          rw [HN.out] at HT ⊢
          clear hq ho
          have hlen : (s ++ [mo]).length = n + 1 := by rw [List.length_append, HN.out]; rfl
          have HLn := Lib.hid hlen
          clear hlen
          go_wp2_with ((with_reducible refine gate_builtin (b := .append) (xs := #[.tmp 58, .tmp 60]) rfl ?_); at_builtin; refine Kd.R_append (Kd.int .u8) (w0 := w6) w6.heap.size rfl (.tmp 58) (.tmp 60) 24 5 (.int .u8 0) 1 rfl Tryd.underlying24 info8 rfl (by decide) (by omega) _ _ mo [.int .u8 mo] (fun _ => True) (fun _ => False) rfl rfl rfl (fun _ hk => hk.elim) (fun _ _ => trivial) HT.out HB7.out HB7.out.size ?aL ?_; (case aL => rw [HN.out]; omega); intro va w8 ho hb hg hat; obtain ⟨Au, cu, eu⟩ := Kd.R_slice ho; subst eu; have HU := Aside0.mk (Kd.R_reads' ho).2.2; have HcU := Aside0.mk (Kd.R_reads' ho).2.1; have HB8 := Aside0.mk hb; rw [HLn.out] at HU HcU ⊢; clear ho hb hg hat)
          have hm : Bytes (s ++ [mo]) := by
            intro y hy
            rcases List.mem_append.1 hy with h | h
            · exact HBy.out y h
            · rw [List.mem_singleton.1 h]; exact ⟨hmo0, hmo1⟩
          have HMo := Aside0.mk hm
          have hcu := HcU.out
          clear hm HcU
          have HB8w := Aside0.mk (below_then HB5.out HB5.out.size HB8.out)
          have BN := Aside0.mk (blk_below BN.out HB8.out)
          have BM8 := Aside0.mk (blk_below BM5.out HB8.out)
          have HL := Aside0.mk (HL.out.below HB8.out)
          obtain ⟨z3, hz3⟩ : ∃ z, readM (s ++ [mo]) = (z, 11) := ⟨_, Prod.ext rfl R3.out⟩
          (with_reducible refine (read_g hz3 (HK.out.below HB8w.out) HU.out hcu HMo.out (by omega)).mono ?_)
          rintro y w9 ⟨q3, rfl, _, hq⟩
          have HL := Aside0.mk ((HL.out.below hq).below (below_alloc (Below.refl w9.heap.size w9) (.cells (z3.val q3) 34)))
          have HB9 := Aside0.mk (below_alloc (below_then HB8w.out HB8w.out.size hq) (.cells (z3.val q3) 34))
          have BN := Aside0.mk (blk_alloc (blk_below BN.out hq) (.cells (z3.val q3) 34))
          have BM9 := Aside0.mk (blk_alloc (blk_below BM8.out hq) (.cells (z3.val q3) 34))
          clear hq hz3
          go_upto_region 12 with fail
          generalize w9.alloc (.cells (z3.val q3) 34) = w10 at *
          clear HB5 HB7 HB8 HB8w BM5 BM8 HS5 HT HU HMo HBy R1 R2 R3 HLn
          as_aux_lemma =>
          obtain ⟨d0, d1, d2, d3, d4, d5, d6, d7, d8, d9, d10, d11, d12, d13, d14, d15, d16⟩ := ms_cells BM9.out
          obtain ⟨f0, f1, f2, f3, f4, f5, f6, f7, f8, f9, f10, f11, f12, f13, f14, f15, f16⟩ := ms_cells BN.out
          have Hxa : Aside0 (∀ x ∈ m.L, x.f2.f1.length < 9223372036854775807) := ⟨fun x hx => by have := (WM.out.l x hx).2; omega⟩
          go_wp2_with (go_at_call 19; (with_reducible refine (rsame_c (sameM_self m) HL.out (HM.out.below HB9.out) hv hl Hxa.out hR).mono ?_); rintro y w11 ⟨rfl, hq⟩; have HBE := Aside0.mk (below_then HB9.out HB9.out.size hq); clear hq d0 d1 d2 d3 d4 d5 d6 d7 d8 d9 d10 d11 d12 d13 d14 d15 d16 f0 f1 f2 f3 f4 f5 f6 f7 f8 f9 f10 f11 f12 f13 f14 f15 f16)
          go_meet
          exact HBE
        · clear HX1
          go_wp2_with fail
          go_meet
          exact HB2
      case rest =>
        as_aux_lemma =>
        have HBc := hcut
        clear hcut HB2 BM2 HB1 BM1 HB0 BM HS HX1 hcs
        go_wp2_with fail
        obtain ⟨⟨z, er⟩, hrp⟩ : ∃ r, readM xs = r := ⟨_, rfl⟩
        (with_reducible refine (read_g hrp (HK.out.below HBc.out) (Kd.C_below HX.out HBc.out) hc HXB.out hxl).mono ?_)
        rintro y p1 ⟨q8, rfl, hL, hq⟩
        have HL := Aside0.mk (hL.below (below_alloc (Below.refl p1.heap.size p1) (.cells (z.val q8) 34)))
        have HB8 := Aside0.mk (below_alloc (below_then HBc.out HBc.out.size hq) (.cells (z.val q8) 34))
        have B8 := Aside0.mk (blk_new p1 (.cells (z.val q8) 34))
        clear hL hq
        go_upto_region 15 with fail
        obtain ⟨g8, hg8⟩ : ∃ g, p1.heap.size = g := ⟨_, rfl⟩
        rw [hg8] at B8
        simp only [hg8]
        generalize p1.alloc (.cells (z.val q8) 34) = p2 at *
        clear hg8
        by_cases he : er = 0
        · as_aux_lemma =>
          obtain rfl := he
          obtain ⟨hbm, ok⟩ := readM_back HXB.out hrp
          obtain ⟨hz1, hz2⟩ := readM_by HXB.out hrp
          have hz3 : z.R.length < 9223372036854775807 := by omega
          have HZ1 := Aside0.mk hz1
          have HBM := Aside0.mk hbm
          have HOK := Aside0.mk ok
          clear hrp hz1 hz2 hbm ok
          go_wp2_with (first
            | (refine wpList_load_row rfl 34 (.tmp 18) rfl g8 rfl 34 (z.val q8) (0, 0) _ B8.out Tryd.underlying34 rfl (by kernel_rfl) ?_)
            | (go_at_call 12; (with_reducible refine (bytes_g HBM.out (HK.out.below HB8.out) HL.out HZ1.out hz3 HOK.out).mono ?_); rintro y p3 ⟨At, ca, rfl, hT, hct2, hq⟩; have HT := Aside0.mk hT; have HB9 := Aside0.mk (below_then HB8.out HB8.out.size hq); clear hT hq)
            | (go_at_call 14; (with_reducible refine (same_c HT.out hct2 (Kd.C_below HX.out HB9.out) hc).mono ?_); rintro y p4 ⟨rfl, hd⟩; have HB10 := Aside0.mk (below_then HB9.out HB9.out.size hd.below); clear hd)
            | (go_at_call 11; (with_reducible refine (known_ _ (HK.out.below HB10.out)).mono ?_); rintro y p5 ⟨rfl, hq⟩; have HB11 := Aside0.mk (below_then HB10.out HB10.out.size hq); clear hq))
          go_ret
          exact ⟨rfl, HB11.out⟩
        · as_aux_lemma =>
          have he2 : (er != 0) = true := bne_iff_ne.2 he
          obtain rfl := readM_no hrp he
          clear hrp he
          obtain ⟨o0, o1, o2, o3, o4, o5, o6, o7, o8, o9, o10, o11, o12, o13, o14, o15, o16⟩ := ms_cells B8.out
          clear o1 o2 o3 o4 o5 o6 o7 o8 o9 o10 o11 o12 o13 o14 o15 o16
          have o0 : p2.cell? ⟨g8, 0, none⟩ = some (.int .i64 0) := o0
          go_wp2_with (go_at_call 11; (with_reducible refine (known_ _ (HK.out.below HB8.out)).mono ?_); rintro y p5 ⟨rfl, hq⟩; have HB11 := Aside0.mk (below_then HB8.out HB8.out.size hq); clear hq)
          go_ret
          exact ⟨rfl, HB11.out⟩
    · go_wp2_with (go_at_call 11; (with_reducible refine (known_ _ (HK.out.below HB1.out)).mono ?_); rintro z w9 ⟨rfl, hq⟩; have HB9 := Aside0.mk (HB1.out.trans (hq.mono HB1.out.size)); clear hq)
      go_ret
      exact ⟨rfl, HB9.out⟩
theorem u16_rangeM {x : Int} (h : (Lit.int .u16 x).wf = true) : 0 ≤ x ∧ x < 65536 := by
  have h2 : 0 ≤ x ∧ x ≤ 65535 := by simpa [Lit.wf, IntKind.min, IntKind.max, IntKind.bits, IntKind.signed] using h
  omega
open Go.Proofs.YthaoiamgkpkcbaaDoor.Opn in
theorem msgsBack (w : World) (hK : Kin w) (cs : Array Value) (t : TM) (K : kMsg.K w t cs.toList) (wf : wMsg t) (A : Option Addr) (c : Nat) (l : List Int) (hr : Kd.C (Kd.int .u8) w A l.length l) (hc : l.length ≤ c) (wl : l.length ≤ maxLen ∧ l.length * 1 ≤ 140737488351232 ∧ ∀ x ∈ l, (Lit.int .u8 x).wf = true) (x : Int) (wx : (Lit.int .u16 x).wf = true) (m : Int) (wm : (Lit.int .u8 m).wf = true) :
    Calls Tryd.prog 5 #[.agg cs, .slice A l.length c, .int .u16 x, .int .u8 m] w fun e w' => e = .returned (.bool true) ∧ Below w.heap.size w w' := by
  obtain ⟨p, hp, hl⟩ := msg_cells K
  obtain rfl : cs = (toMs t).val p := Array.toList_inj.1 hp
  obtain ⟨x0, x1⟩ := u16_rangeM wx
  obtain ⟨m0, m1⟩ := u8_rng wm
  obtain ⟨X, rfl⟩ := Int.eq_ofNat_of_zero_le x0
  exact back_law X m m0 m1 hK hl (wm_of wf) hr hc (by omega) (fun y hy => u8_rng (wl.2.2 y hy))
end Go.Proofs.YthaoiamgkpkcbaaDoor.Ms
namespace Go.Proofs.YthaoiamgkpkcbaaDoor.Ms
open Go.ChangeShapes Go.WideShapes Go.ChangeAt Go.RowKit
abbrev laidK : List (String × DataW Unit) := [("icehouse/msgs.kinds", Rows.laid_icehouse_msgs_kinds)]
theorem gKinds : Tryd.prog.globalNamed "icehouse/msgs.kinds" = some 0 := by kernel_rfl
theorem tKinds : (Tryd.prog.globals[0]?).map (·.type) = some 98 := by kernel_rfl
theorem door_met (os : Os) (args : Array Value) : laidMetH Tryd.prog laidK ((World.doorLaid Tryd.prog 30 os).forCall (fun _ _ => 0) ⟨#[], args, []⟩).memory :=
  laidMetH_of_parts3 (fuel := 8) (laidMet_of_run' 8 (by kernel_rfl) (by kernel_rfl)) (by kernel_rfl) (by kernel_rfl)
theorem bool_trod {H : Type} {enc : TypeId × Value → H} {P : Program} {w : World} {base : Nat} {sp : Nat → Bool} {held : Bool} {fuel : Nat} {t : TypeId} {cs : List Value} {y : DataW H × List MemPlace}
    (ht : P.underlying t = some .bool) (hl : cs.length = 1) (h : DataW.trod enc P w base sp held fuel t cs = some y) : ∃ b, cs = [.bool b] ∧ y.1 = .lit (.bool b) := by
  match cs, hl with
  | [c], _ =>
    cases fuel with
    | zero => simp [DataW.trod] at h
    | succ fuel =>
      cases c with
      | bool b =>
        simp [DataW.trod, ht] at h
        exact ⟨b, rfl, by rw [← h]⟩
      | _ => simp [DataW.trod, ht] at h
set_option maxRecDepth 100000 in
theorem five_trod {H : Type} {enc : TypeId × Value → H} {w : World} {base : Nat} {sp : Nat → Bool} {held : Bool} {fuel : Nat} {cs : List Value} {y : DataW H × List MemPlace} {b0 b1 b2 b3 b4 : Bool}
    (h : DataW.trod enc Tryd.prog w base sp held fuel 97 cs = some y) (hy : y.1 = .agg [.lit (.bool b0), .lit (.bool b1), .lit (.bool b2), .lit (.bool b3), .lit (.bool b4)]) : cs = [.bool b0, .bool b1, .bool b2, .bool b3, .bool b4] := by
  obtain ⟨xs, m1, rfl, rfl, hlen, hn, hel⟩ := DataW.trod_array Tryd.underlying97 h
  have c5 : Tryd.prog.cellsOf 97 = 5 := by kernel_rfl
  have c1 : Tryd.prog.cellsOf 4 = 1 := by kernel_rfl
  rw [c5] at hlen
  match cs, hlen with
  | [v0, v1, v2, v3, v4], _ =>
    have e0 := hel 0 (by decide)
    have e1 := hel 1 (by decide)
    have e2 := hel 2 (by decide)
    have e3 := hel 3 (by decide)
    have e4 := hel 4 (by decide)
    rw [c1] at e0 e1 e2 e3 e4
    match xs, hn with
    | [x0, x1, x2, x3, x4], _ =>
      simp only [List.map_cons, List.map_nil, DataW.agg.injEq, List.cons.injEq, and_true] at hy
      obtain ⟨y0, y1, y2, y3, y4⟩ := hy
      obtain ⟨z0, h0, q0⟩ := bool_trod Tryd.underlying4 rfl (show DataW.trod enc Tryd.prog w base sp held m1 4 [v0] = some x0 from e0)
      obtain ⟨z1, h1, q1⟩ := bool_trod Tryd.underlying4 rfl (show DataW.trod enc Tryd.prog w base sp held m1 4 [v1] = some x1 from e1)
      obtain ⟨z2, h2, q2⟩ := bool_trod Tryd.underlying4 rfl (show DataW.trod enc Tryd.prog w base sp held m1 4 [v2] = some x2 from e2)
      obtain ⟨z3, h3, q3⟩ := bool_trod Tryd.underlying4 rfl (show DataW.trod enc Tryd.prog w base sp held m1 4 [v3] = some x3 from e3)
      obtain ⟨z4, h4, q4⟩ := bool_trod Tryd.underlying4 rfl (show DataW.trod enc Tryd.prog w base sp held m1 4 [v4] = some x4 from e4)
      rw [q0] at y0; rw [q1] at y1; rw [q2] at y2; rw [q3] at y3; rw [q4] at y4
      simp only [DataW.lit.injEq, Lit.bool.injEq] at y0 y1 y2 y3 y4
      subst y0 y1 y2 y3 y4
      simp only [List.cons.injEq, and_true] at h0 h1 h2 h3 h4
      rw [h0, h1, h2, h3, h4]
theorem chunks : ∀ (n : Nat) (l : List Value) (f : Nat → List Value), l.length = n * 5 → (∀ i, i < n → (l.drop (i * 5)).take 5 = f i) → l = (List.range n).flatMap f := by
  intro n
  induction n with
  | zero => intro l f hl _; simpa using hl
  | succ n ih =>
    intro l f hl h
    have h1 := ih (l.take (n * 5)) f (by rw [List.length_take]; omega) (fun i hi => by
      rw [← h i (by omega), List.drop_take, List.take_take]
      congr 1; omega)
    have h2 := h n (by omega)
    rw [List.range_succ, List.flatMap_append, ← h1]
    simp only [List.flatMap_cons, List.flatMap_nil, List.append_nil]
    rw [← h2, List.take_of_length_le (i := 5) (l := l.drop (n * 5)) (by rw [List.length_drop]; omega), List.take_append_drop]
def rowK (i : Nat) : List Value := match tab[i]? with
  | some h => [.bool h.n, .bool h.f, .bool h.e, .bool h.l, .bool h.r]
  | none => []
theorem kinds_chunks : kindsC.toList = (List.range 18).flatMap rowK := by kernel_rfl
set_option maxRecDepth 100000 in
theorem kin_of_laid {W : World} (h : laidMetH Tryd.prog laidK W) : Kin W := by
  rw [MakeChecks.laidMetH_plain _ _ _ (by kernel_rfl)] at h
  obtain ⟨ps, ⟨g0, t0, cs0, f0, p0, q0, hg0, ht0, hv0, hd0, _, _⟩, _⟩ := h
  obtain rfl := Option.some.inj (gKinds.symm.trans hg0)
  obtain rfl := Option.some.inj (tKinds.symm.trans ht0)
  obtain ⟨xs, m1, rfl, hx, hlen, hn, hel⟩ := DataW.trod_array Tryd.underlying98 hd0
  have c5 : Tryd.prog.cellsOf 97 = 5 := by kernel_rfl
  have c90 : Tryd.prog.cellsOf 98 = 90 := by kernel_rfl
  rw [c90] at hlen
  simp only [c5] at hel
  have hcs : cs0.toList = kindsC.toList := by
    rw [kinds_chunks]
    refine chunks 18 cs0.toList rowK hlen fun i hi => ?_
    have he := hel i hi
    have hxs : xs.map (·.1) = (tab.map fun h => (DataW.agg [.lit (.bool h.n), .lit (.bool h.f), .lit (.bool h.e), .lit (.bool h.l), .lit (.bool h.r)] : DataW Unit)) := by
      have := congrArg Prod.fst hx
      simp only at this
      injection this with this
      rw [← this]; rfl
    obtain ⟨x, hxi⟩ : ∃ x, xs[i]? = some x := ⟨xs[i]'(by omega), List.getElem?_eq_getElem (by omega)⟩
    rw [hxi] at he
    have ht : i < tab.length := hi
    have hm : (xs.map (·.1))[i]? = some x.1 := by rw [List.getElem?_map, hxi]; rfl
    rw [hxs, List.getElem?_map, List.getElem?_eq_getElem ht] at hm
    have hm2 := Option.some.inj hm
    unfold rowK
    rw [List.getElem?_eq_getElem ht]
    exact five_trod he hm2.symm
  have : cs0 = kindsC := Array.toList_inj.1 hcs
  subst this
  unfold World.var? at hv0
  rw [gKinds, Option.bind_some] at hv0
  split at hv0
  · rename_i c t fr hb
    obtain rfl := Option.some.inj hv0
    exact ⟨t, fr, hb⟩
  · cases hv0
end Go.Proofs.YthaoiamgkpkcbaaDoor.Ms
