/- Written by a program of this session over the kit's print: functions and their contracts. · The reference: the contracts of long, SameVal, Same and Size, and of the reference's, by what they tell. Conditions: bytes are bytes. · The reference's Same of two messages, by what it tells. Conditions: lists that fit in memory. · A message's bytes are read as it was; cut short something is missing. Plain. Conditions: a message that may be. · Two messages that may be are the same just if their bytes are; a message's bytes are bytes. Plain. Conditions: messages that may be. · The contracts of the reference's Has, of long, and of msgs.Back. Conditions: the table lies in its variable. · Written by a program of this session over the kit's print: functions and their contracts. · Written by a program of this session over the kit's print: functions and their contracts. · Written by a program of this session over the kit's print: functions and their contracts. -/
import Derived.Test.YthaoiamgkpkcbaaDoorYMsgsSame13
import Derived.Test.YthaoiamgkpkcbaaDoorYMsgsSame14
import Derived.Test.YthaoiamgkpkcbaaDoorYMsgsSame15
import Derived.Test.YthaoiamgkpkcbaaDoorYMsgsSame16
import Derived.Test.YthaoiamgkpkcbaaDoorYMsgsSame10
import Derived.Test.YthaoiamgkpkcbaaDoorProg
import Derived.Below
import Derived.Deep.Draws
import Derived.Deep.AppendLies
import Derived.Maps.AppendAt
import Derived.OwnWalk
import Derived.Laws.BytesArg
import Derived.Laws.MakeOwn
import Derived.Laws.OwnMore
import Derived.Deep.OwnRows
import Derived.Tactics
import Derived.Lib.ConvBytes
import Derived.Laws.Slices
import Derived.WalkKit
import Derived.KernelRfl
import Derived.RowKit3
import Derived.Deep.LoopGhost
import Derived.Deep.QuietTactic
import Derived.BigQuiet
import Derived.WideLaws
import Derived.Deep.DeepCutAuto
import Derived.Deep.CutBlock
import Derived.Deep.RegionHeld3
import Derived.Laws.Rows
import Derived.Lib.AppendStr
import Derived.ArgAppend
import Derived.Laws.IdiomCopy
import Derived.OrdersHeld
import Derived.Laws.BitsLemmas
import Derived.RowKit
import Derived.Test.YthaoiamgkpkcbaaDoorYMsgsSame7
import Derived.Test.YthaoiamgkpkcbaaDoorYMsgsSame11
import Derived.Test.YthaoiamgkpkcbaaDoorYMsgsSame9
import Derived.Test.YthaoiamgkpkcbaaDoorYMsgsSame0
import Derived.Test.YthaoiamgkpkcbaaDoorYMsgsSame2
import Derived.Test.YthaoiamgkpkcbaaDoorYMsgsSame4

namespace Go.Proofs.YthaoiamgkpkcbaaDoor.QS
open Go.Proofs.YthaoiamgkpkcbaaDoor.QL
open Go.RowKit Go.Proofs.YthaoiamgkpkcbaaDoorW.PrintWords Go.Proofs.YthaoiamgkpkcbaaDoorW.PrintLast Go.Proofs.YthaoiamgkpkcbaaDoorW.PrintMore
attribute [local go_sem] max2_int min2_int max_two min_two max_three min_three max_four min_four   -- for this text's walks alone
set_option linter.unusedVariables false
set_option linter.unusedSimpArgs false
end Go.Proofs.YthaoiamgkpkcbaaDoor.QS
namespace Go.Proofs.YthaoiamgkpkcbaaDoor.Tg
open Go.ChangeShapes Go.WideShapes Go.ChangeAt Go.RowKit Go.Proofs.YthaoiamgkpkcbaaDoor.Pk Go.Proofs.YthaoiamgkpkcbaaDoor.EncC
open Go.Proofs.YthaoiamgkpkcbaaDoor.Hlp Go.Proofs.YthaoiamgkpkcbaaDoor.Wrd Go.Proofs.YthaoiamgkpkcbaaDoorW.PrintWords Go.Proofs.YthaoiamgkpkcbaaDoorW.PrintLast Go.Proofs.YthaoiamgkpkcbaaDoorW.PrintMore
set_option linter.unusedVariables false
set_option linter.unusedSimpArgs false
open Go.Proofs.YthaoiamgkpkcbaaDoor.Lex in
theorem rsame_l0 (h h' : Bool) (l m : List Int) (hlm : l.length = m.length) (hb : l.length < 9223372036854775807) : ∀ (n i : Nat), l.length - i = n → i ≤ l.length → Since (fun k => QS.icehouseref03_SameVal.l0 k (i : Int) h l h' m) (decide (l.drop i = m.drop i)) := by
  intro n
  induction n with
  | zero =>
    intro i hn hi
    rw [List.drop_eq_nil_of_le (show l.length ≤ i by omega), List.drop_eq_nil_of_le (show m.length ≤ i by omega)]
    have hf : ¬ ((i : Int) < (l.length : Int)) := by omega
    exact Since.none fun k => by simp only [QS.icehouseref03_SameVal.l0, if_neg hf]; simp
  | succ n ih =>
    intro i hn hi
    have h1 : i < l.length := by omega
    have h2 : i < m.length := by omega
    have f1 : (i : Int) < (l.length : Int) := by omega
    have f2 : (i : Int) < (m.length : Int) := by omega
    have f0 : (0 : Int) ≤ (i : Int) := by omega
    have r1 : rd l (i : Int) = l[i] := by simp [rd, h1]
    have r2 : rd m (i : Int) = m[i] := by simp [rd, h2]
    refine Since.one (ih (i + 1) (by omega) (by omega)) fun k hr => ?_
    simp only [QS.icehouseref03_SameVal.l0, if_pos f1, if_pos f0, if_pos f2, r1, r2, w_succ i (by omega)]
    have d1 := List.drop_eq_getElem_cons h1
    have d2 := List.drop_eq_getElem_cons h2
    by_cases he : l[i] = m[i]
    · rw [if_pos he, hr, d1, d2]
      congr 1
      rw [decide_eq_decide, List.cons.injEq]
      exact ⟨fun h => ⟨he, h⟩, fun h => h.2⟩
    · rw [if_neg he, d1, d2]
      congr 1
      exact (decide_eq_false (fun h => he (List.cons.inj h).1)).symm
open Go.Proofs.YthaoiamgkpkcbaaDoor.Lex in
theorem rsame_ev (h h' : Bool) (l m : List Int) (hb : l.length < 9223372036854775807) : Since (fun k => QS.icehouseref03_SameVal.f k h l h' m) (sameV h l h' m) := by
  by_cases hlm : l.length = m.length
  · refine (rsame_l0 h h' l m hlm hb _ 0 rfl (Nat.zero_le _)).map fun k hr => ?_
    rw [List.drop_zero, List.drop_zero] at hr
    unfold QS.icehouseref03_SameVal.f sameV
    have e : (l.length : Int) = (m.length : Int) := by omega
    cases h <;> cases h' <;> simp [e]
    exact hr
  · refine ⟨0, fun k _ => ?_⟩
    unfold QS.icehouseref03_SameVal.f sameV
    have e : ¬ ((l.length : Int) = (m.length : Int)) := by omega
    have e2 : l ≠ m := by rintro rfl; exact hlm rfl
    cases h <;> cases h' <;> simp [e, e2]
section
variable {w : World} {A A' : Option Addr} {n n' d d' : Nat} {v v' : List Int}
end
end Go.Proofs.YthaoiamgkpkcbaaDoor.Tg
namespace Go.Proofs.YthaoiamgkpkcbaaDoor.Ms
open Go.ChangeShapes Go.WideShapes Go.ChangeAt Go.RowKit Go.Proofs.YthaoiamgkpkcbaaDoor.Pk Go.Proofs.YthaoiamgkpkcbaaDoor.Tg Go.Proofs.YthaoiamgkpkcbaaDoor.Enc Go.Proofs.YthaoiamgkpkcbaaDoor.EncC Go.Proofs.YthaoiamgkpkcbaaDoor.EncP
open Go.Proofs.YthaoiamgkpkcbaaDoor.Hlp Go.Proofs.YthaoiamgkpkcbaaDoor.Wrd Go.Proofs.YthaoiamgkpkcbaaDoor.Lex Go.Proofs.YthaoiamgkpkcbaaDoorW.PrintWords Go.Proofs.YthaoiamgkpkcbaaDoorW.PrintLast Go.Proofs.YthaoiamgkpkcbaaDoorW.PrintMore
set_option linter.unusedVariables false
set_option linter.unusedSimpArgs false
def sameX (x y : E6) : Bool := sameE x.f0 x.f1.f0 x.f1.f1 x.f1.f2 x.f2.f0 x.f2.f1 y.f0 y.f1.f0 y.f1.f1 y.f1.f2 y.f2.f0 y.f2.f1
def sameLs : List E6 → List E6 → Bool
  | [], [] => true
  | x :: l, y :: m => sameX x y && sameLs l m
  | _, _ => false
def sameM (a b : Ms) : Bool := decide (a.kind = b.kind ∧ a.fr = b.fr ∧ a.dst = b.dst ∧ a.ep = b.ep ∧ a.op = b.op ∧ a.n = b.n ∧ a.f = b.f) && (sameX a.e b.e && (sameLs a.L b.L && (decide (a.R = b.R) && decide (a.each = b.each ∧ a.keep = b.keep))))
theorem same03_ev (x y : E6) (hb : x.f2.f1.length < 9223372036854775807) : Since (fun k => QS.icehouseref03_Same.f k x.f0 x.f1.f0 x.f1.f1 x.f1.f2 x.f2.f0 x.f2.f1 y.f0 y.f1.f0 y.f1.f1 y.f1.f2 y.f2.f0 y.f2.f1) (sameX x y) := by
  refine (rsame_ev x.f2.f0 y.f2.f0 x.f2.f1 y.f2.f1 hb).map fun k hk => ?_
  unfold QS.icehouseref03_Same.f sameX sameE
  by_cases h0 : x.f0.toList = y.f0.toList
  · rw [if_pos h0, if_pos h0]
    by_cases h1 : (x.f1.f0 == y.f1.f0 && (x.f1.f1 == y.f1.f1 && (x.f1.f2 == y.f1.f2))) = true
    · rw [if_pos h1, if_pos h1, hk]; rfl
    · rw [if_neg h1, if_neg h1]
  · rw [if_neg h0, if_neg h0]
theorem rdS {l : List E6} {i : Nat} (h : i < l.length) : QL.rd_T28 l (i : Int) = l[i] := rd_E h
theorem all_l0 (l m : List E6) (hlm : l.length = m.length) (hb : l.length < 9223372036854775807) (hx : ∀ x ∈ l, x.f2.f1.length < 9223372036854775807) : ∀ (d i : Nat), l.length - i = d → i ≤ l.length → Since (fun k => QS.icehouseref03_SameAll.l0 k l m (i : Int)) (sameLs (l.drop i) (m.drop i)) := by
  intro d
  induction d with
  | zero =>
    intro i hd hi
    rw [List.drop_eq_nil_of_le (show l.length ≤ i by omega), List.drop_eq_nil_of_le (show m.length ≤ i by omega)]
    refine Since.none fun k => ?_
    simp only [QS.icehouseref03_SameAll.l0]
    rw [if_neg (by omega)]
    rfl
  | succ d ih =>
    intro i hd hi
    have h1 : i < l.length := by omega
    have h2 : i < m.length := by omega
    have hw : wrap64 ((i : Int) + 1) = ((i + 1 : Nat) : Int) := by unfold wrap64; omega
    rw [List.drop_eq_getElem_cons h1, List.drop_eq_getElem_cons h2]
    show Since _ (sameX l[i] m[i] && sameLs (l.drop (i + 1)) (m.drop (i + 1)))
    refine Since.two (same03_ev l[i] m[i] (hx _ (List.getElem_mem h1))) (ih (i + 1) (by omega) (by omega)) fun k ha hb => ?_
    simp only [QS.icehouseref03_SameAll.l0]
    rw [if_pos (by omega), if_pos (by omega), if_pos (by omega), rdS h1, rdS h2, ha, Option.bind_some, hw]
    cases sameX l[i] m[i]
    · rfl
    · rw [if_pos rfl, hb]; rfl
theorem sameLs_ne : ∀ {l m : List E6}, l.length ≠ m.length → sameLs l m = false
  | [], [], h => absurd rfl h
  | x :: l, y :: m, h => by
    unfold sameLs
    rw [sameLs_ne (l := l) (m := m) (fun e => h (by rw [List.length_cons, List.length_cons, e])), Bool.and_false]
  | [], y :: m, _ => rfl
  | x :: l, [], _ => rfl
theorem all_ev (l m : List E6) (hb : l.length < 9223372036854775807) (hx : ∀ x ∈ l, x.f2.f1.length < 9223372036854775807) : Since (fun k => QS.icehouseref03_SameAll.f k l m) (sameLs l m) := by
  by_cases h : l.length = m.length
  · refine (all_l0 l m h hb hx _ 0 rfl (Nat.zero_le _)).map fun k hk => ?_
    unfold QS.icehouseref03_SameAll.f
    rw [if_pos (by omega)]
    exact hk
  · rw [sameLs_ne h]
    refine ⟨0, fun k _ => ?_⟩
    show QS.icehouseref03_SameAll.f k l m = some false
    unfold QS.icehouseref03_SameAll.f
    rw [if_neg (by omega)]
theorem ints_l0 (l m : List Int) (hlm : l.length = m.length) (hb : l.length < 9223372036854775807) : ∀ (d i : Nat), l.length - i = d → i ≤ l.length → Since (fun k => QS.icehouseref00_SameInts.l0 k l m (i : Int)) (decide (l.drop i = m.drop i)) := by
  intro d
  induction d with
  | zero =>
    intro i hd hi
    rw [List.drop_eq_nil_of_le (show l.length ≤ i by omega), List.drop_eq_nil_of_le (show m.length ≤ i by omega)]
    refine Since.none fun k => ?_
    simp only [QS.icehouseref00_SameInts.l0]
    rw [if_neg (by omega)]
    rfl
  | succ d ih =>
    intro i hd hi
    have h1 : i < l.length := by omega
    have h2 : i < m.length := by omega
    have hw : wrap64 ((i : Int) + 1) = ((i + 1 : Nat) : Int) := by unfold wrap64; omega
    have r1 : rd l (i : Int) = l[i] := by simp [rd, h1]
    have r2 : rd m (i : Int) = m[i] := by simp [rd, h2]
    rw [List.drop_eq_getElem_cons h1, List.drop_eq_getElem_cons h2]
    by_cases hx : l[i] = m[i]
    · have hd2 : decide (l[i] :: l.drop (i + 1) = m[i] :: m.drop (i + 1)) = decide (l.drop (i + 1) = m.drop (i + 1)) := by
        rw [hx]; exact decide_eq_decide.2 ⟨fun h => by injection h, fun h => by rw [h]⟩
      rw [hd2]
      refine Since.one (ih (i + 1) (by omega) (by omega)) fun k hk => ?_
      simp only [QS.icehouseref00_SameInts.l0]
      rw [if_pos (by omega), if_pos (by omega), if_pos (by omega), r1, r2, if_pos hx, hw]
      exact hk
    · rw [decide_eq_false (fun h => hx (by injection h))]
      refine Since.none fun k => ?_
      simp only [QS.icehouseref00_SameInts.l0]
      rw [if_pos (by omega), if_pos (by omega), if_pos (by omega), r1, r2, if_neg hx]
theorem ints_ev (l m : List Int) (hb : l.length < 9223372036854775807) : Since (fun k => QS.icehouseref00_SameInts.f k l m) (decide (l = m)) := by
  by_cases h : l.length = m.length
  · refine (ints_l0 l m h hb _ 0 rfl (Nat.zero_le _)).map fun k hk => ?_
    unfold QS.icehouseref00_SameInts.f
    rw [if_pos (by omega)]
    exact hk
  · rw [decide_eq_false (fun e => h (by rw [e]))]
    refine ⟨0, fun k _ => ?_⟩
    show QS.icehouseref00_SameInts.f k l m = some false
    unfold QS.icehouseref00_SameInts.f
    rw [if_neg (by omega)]
theorem ring_same_ev (a b : Ms) (hb : a.R.length < 9223372036854775807) : Since (fun k => QS.icehouseref09_Same.f k a.R a.each a.keep b.R b.each b.keep) (decide (a.R = b.R) && decide (a.each = b.each ∧ a.keep = b.keep)) := by
  refine (ints_ev a.R b.R hb).map fun k hk => ?_
  unfold QS.icehouseref09_Same.f
  rw [hk, Option.bind_some]
  by_cases h1 : a.R = b.R
  · rw [decide_eq_true h1, if_pos rfl, Bool.true_and]
    by_cases h2 : a.each = b.each
    · rw [if_pos h2]
      congr 1
      by_cases h3 : a.keep = b.keep <;> simp [h2, h3]
    · rw [if_neg h2, decide_eq_false (fun h => h2 h.1)]
  · rw [decide_eq_false h1, if_neg (by decide)]; rfl
theorem sameM_no {a b : Ms} (h : ¬ (a.kind = b.kind ∧ a.fr = b.fr ∧ a.dst = b.dst ∧ a.ep = b.ep ∧ a.op = b.op ∧ a.n = b.n ∧ a.f = b.f)) : sameM a b = false := by
  unfold sameM
  rw [decide_eq_false h]; rfl
theorem sameM_yes {a b : Ms} (h : a.kind = b.kind ∧ a.fr = b.fr ∧ a.dst = b.dst ∧ a.ep = b.ep ∧ a.op = b.op ∧ a.n = b.n ∧ a.f = b.f) : sameM a b = (sameX a.e b.e && (sameLs a.L b.L && (decide (a.R = b.R) && decide (a.each = b.each ∧ a.keep = b.keep)))) := by
  unfold sameM
  rw [decide_eq_true h]; rfl
theorem same_ev (a b : Ms) (hv : a.e.f2.f1.length < 9223372036854775807) (hl : a.L.length < 9223372036854775807) (hx : ∀ x ∈ a.L, x.f2.f1.length < 9223372036854775807) (hr : a.R.length < 9223372036854775807) :
    ∃ K, QS.icehouseref12_Same.f K a.kind a.fr a.dst a.ep a.op a.n a.f a.e.f0 a.e.f1.f0 a.e.f1.f1 a.e.f1.f2 a.e.f2.f0 a.e.f2.f1 a.L a.R a.each a.keep b.kind b.fr b.dst b.ep b.op b.n b.f b.e.f0 b.e.f1.f0 b.e.f1.f1 b.e.f1.f2 b.e.f2.f0 b.e.f2.f1 b.L b.R b.each b.keep = some (sameM a b) := by
  obtain ⟨K1, h1⟩ := same03_ev a.e b.e hv
  obtain ⟨K2, h2⟩ := all_ev a.L b.L hl hx
  obtain ⟨K3, h3⟩ := ring_same_ev a b hr
  have e1 := h1 (K1 + K2 + K3) (by omega)
  have e2 := h2 (K1 + K2 + K3) (by omega)
  have e3 := h3 (K1 + K2 + K3) (by omega)
  dsimp only at e1 e2 e3
  refine ⟨K1 + K2 + K3 + 1, ?_⟩
  have hj : ∀ c, QS.icehouseref12_Same.j0 (K1 + K2 + K3 + 1) c a.kind a.fr a.dst a.ep a.op a.n a.f a.e.f0 a.e.f1.f0 a.e.f1.f1 a.e.f1.f2 a.e.f2.f0 a.e.f2.f1 a.L a.R a.each a.keep b.kind b.fr b.dst b.ep b.op b.n b.f b.e.f0 b.e.f1.f0 b.e.f1.f1 b.e.f1.f2 b.e.f2.f0 b.e.f2.f1 b.L b.R b.each b.keep = some (!c && (sameX a.e b.e && (sameLs a.L b.L && (decide (a.R = b.R) && decide (a.each = b.each ∧ a.keep = b.keep))))) := by
    intro c
    cases c
    · simp only [QS.icehouseref12_Same.j0]
      rw [if_neg (by decide), e1, Option.bind_some]
      cases sameX a.e b.e
      · rfl
      · rw [if_pos rfl, e2, Option.bind_some]
        cases sameLs a.L b.L
        · rfl
        · rw [if_pos rfl, e3]; rfl
    · simp only [QS.icehouseref12_Same.j0]; rfl
  unfold QS.icehouseref12_Same.f
  by_cases g1 : a.kind = b.kind
  · by_cases g2 : a.fr = b.fr
    · by_cases g3 : a.dst = b.dst
      · by_cases g4 : a.ep = b.ep
        · by_cases g5 : a.op = b.op
          · by_cases g6 : a.n = b.n
            · rw [if_pos g1, if_pos g2, if_pos g3, if_pos g4, if_pos g5, if_pos g6, hj]
              by_cases g7 : a.f = b.f
              · rw [sameM_yes ⟨g1, g2, g3, g4, g5, g6, g7⟩]; simp [g7]
              · rw [sameM_no (fun h => g7 h.2.2.2.2.2.2)]; simp [g7]
            · rw [if_pos g1, if_pos g2, if_pos g3, if_pos g4, if_pos g5, if_neg g6, hj, sameM_no (fun h => g6 h.2.2.2.2.2.1)]; rfl
          · rw [if_pos g1, if_pos g2, if_pos g3, if_pos g4, if_neg g5, hj, sameM_no (fun h => g5 h.2.2.2.2.1)]; rfl
        · rw [if_pos g1, if_pos g2, if_pos g3, if_neg g4, hj, sameM_no (fun h => g4 h.2.2.2.1)]; rfl
      · rw [if_pos g1, if_pos g2, if_neg g3, hj, sameM_no (fun h => g3 h.2.2.1)]; rfl
    · rw [if_pos g1, if_neg g2, hj, sameM_no (fun h => g2 h.2.1)]; rfl
  · rw [if_neg g1, hj, sameM_no (fun h => g1 h.1)]; rfl
theorem rsame_c {w : World} {a b : Ms} {p q : Pl} {r : Bool} (hr : sameM a b = r) (ha : Lies w a p) (hb : Lies w b q) (hv : a.e.f2.f1.length < 9223372036854775807) (hl : a.L.length < 9223372036854775807) (hx : ∀ x ∈ a.L, x.f2.f1.length < 9223372036854775807) (hR : a.R.length < 9223372036854775807) :
    Calls Tryd.prog 19 #[.agg (a.val p), .agg (b.val q)] w fun e w' => e = .returned (.bool r) ∧ Below w.heap.size w w' := by
  obtain ⟨K, hK⟩ := same_ev a b hv hl hx hR
  subst hr
  exact QS.icehouseref12_Same.calls K a.kind a.fr a.dst a.ep a.op a.n a.f a.e.f0 a.e.f1.f0 a.e.f1.f1 a.e.f1.f2 a.e.f2.f0 p.vA p.vc a.e.f2.f1 p.lA p.lc a.L p.rA p.rc a.R a.each a.keep b.kind b.fr b.dst b.ep b.op b.n b.f b.e.f0 b.e.f1.f0 b.e.f1.f1 b.e.f1.f2 b.e.f2.f0 q.vA q.vc b.e.f2.f1 q.lA q.lc b.L q.rA q.rc b.R b.each b.keep _ w ha.v ha.vc ha.l ha.lc ha.r ha.rc hb.v hb.vc hb.l hb.lc hb.r hb.rc hK
end Go.Proofs.YthaoiamgkpkcbaaDoor.Ms
namespace Go.Proofs.YthaoiamgkpkcbaaDoor.Ms
open Go Go.RowKit Go.Proofs.YthaoiamgkpkcbaaDoor.Pk Go.Proofs.YthaoiamgkpkcbaaDoor.Tg Go.Proofs.YthaoiamgkpkcbaaDoor.Enc Go.Proofs.YthaoiamgkpkcbaaDoor.EncP Go.Proofs.YthaoiamgkpkcbaaDoor.Seg
set_option linter.unusedVariables false
set_option linter.unusedSimpArgs false
/-- a step that reads some bytes -/
structure Rdr (F : Ms × St → Ms × St) (m m' : Ms) (X : List Int) : Prop where
  whole : ∀ r, F (m, ⟨X ++ r, 0⟩) = (m', ⟨r, 0⟩)
  cut : ∀ q, q < X.length → (F (m, ⟨X.take q, 0⟩)).2.e = 12
theorem Rdr.nil {m : Ms} : Rdr (fun x => x) m m [] := ⟨fun r => rfl, fun q hq => by cases hq⟩
/-! the steps -/
/-! what Read tells of a message's bytes -/
end Go.Proofs.YthaoiamgkpkcbaaDoor.Ms
namespace Go.Proofs.YthaoiamgkpkcbaaDoor.Ms
open Go.ChangeShapes Go.WideShapes Go.ChangeAt Go.RowKit Go.Proofs.YthaoiamgkpkcbaaDoor.Pk Go.Proofs.YthaoiamgkpkcbaaDoor.Tg Go.Proofs.YthaoiamgkpkcbaaDoor.Enc Go.Proofs.YthaoiamgkpkcbaaDoor.EncC Go.Proofs.YthaoiamgkpkcbaaDoor.EncP
open Go.Proofs.YthaoiamgkpkcbaaDoor.Hlp Go.Proofs.YthaoiamgkpkcbaaDoor.Wrd Go.Proofs.YthaoiamgkpkcbaaDoor.Lex Go.Proofs.YthaoiamgkpkcbaaDoorW.PrintWords Go.Proofs.YthaoiamgkpkcbaaDoorW.PrintLast Go.Proofs.YthaoiamgkpkcbaaDoorW.PrintMore
set_option linter.unusedVariables false
set_option linter.unusedSimpArgs false
theorem sameX_self (x : E6) : sameX x x = true := sameE_self _ _ _ _ _ _
theorem sameLs_self : ∀ l : List E6, sameLs l l = true
  | [] => rfl
  | x :: l => by
    unfold sameLs
    rw [sameX_self, sameLs_self l]; rfl
theorem sameM_self (m : Ms) : sameM m m = true := by
  rw [sameM_yes ⟨rfl, rfl, rfl, rfl, rfl, rfl, rfl⟩, sameX_self, sameLs_self, decide_eq_true rfl, decide_eq_true ⟨rfl, rfl⟩]; rfl
end Go.Proofs.YthaoiamgkpkcbaaDoor.Ms
namespace Go.Proofs.YthaoiamgkpkcbaaDoor.Ms
open Go.ChangeShapes Go.WideShapes Go.ChangeAt Go.RowKit Go.Proofs.YthaoiamgkpkcbaaDoor.Pk Go.Proofs.YthaoiamgkpkcbaaDoor.Tg Go.Proofs.YthaoiamgkpkcbaaDoor.Enc Go.Proofs.YthaoiamgkpkcbaaDoor.EncC Go.Proofs.YthaoiamgkpkcbaaDoor.EncP
open Go.Proofs.YthaoiamgkpkcbaaDoor.Hlp Go.Proofs.YthaoiamgkpkcbaaDoor.Wrd Go.Proofs.YthaoiamgkpkcbaaDoor.Lex Go.Proofs.YthaoiamgkpkcbaaDoorW.PrintWords Go.Proofs.YthaoiamgkpkcbaaDoorW.PrintLast Go.Proofs.YthaoiamgkpkcbaaDoorW.PrintMore
set_option linter.unusedVariables false
set_option linter.unusedSimpArgs false
/-- what a kind has, by its letter -/
def hasL (h : Hs) (c : UInt8) : Bool := if c = 110 then h.n else if c = 102 then h.f else if c = 101 then h.e else if c = 108 then h.l else h.r
theorem has_tab : ∀ c ∈ ([110, 102, 101, 108, 114] : List UInt8), (List.range 18).map (fun i => QR.icehouseref12_Has.f 12 ((i : Nat) : Int) ⟨#[c]⟩) = (List.range 18).map (fun i => some (hasL (hasV ((i : Nat) : Int)) c)) := by
  intro c hc
  simp only [List.mem_cons, List.not_mem_nil, or_false] at hc
  rcases hc with rfl | rfl | rfl | rfl | rfl <;> kernel_rfl
theorem has_f (k : Int) (c : UInt8) (hc : c ∈ ([110, 102, 101, 108, 114] : List UInt8)) : QR.icehouseref12_Has.f 12 k ⟨#[c]⟩ = some (hasL (hasV k) c) := by
  by_cases hk : 1 ≤ k ∧ k ≤ 17
  · obtain ⟨n, rfl⟩ := Int.eq_ofNat_of_zero_le (show 0 ≤ k by omega)
    have := congrArg (fun l => l[n]?) (has_tab c hc)
    simp only [List.getElem?_map, List.getElem?_range (show n < 18 by omega), Option.map_some] at this
    exact Option.some.inj this
  · have hn : hasV k = Hs.none := by unfold hasV; rw [if_neg hk]
    have hl : hasL (hasV k) c = false := by rw [hn]; unfold hasL Hs.none; repeat' split
                                            all_goals rfl
    rw [hl]
    unfold QR.icehouseref12_Has.f
    by_cases h1 : k < 1
    · rw [if_pos h1]; simp only [QR.icehouseref12_Has.j0]; rfl
    · rw [if_neg h1, decide_eq_true (show k > 17 by omega)]; simp only [QR.icehouseref12_Has.j0]; rfl
theorem rhas_c (k : Int) (c : UInt8) (hc : c ∈ ([110, 102, 101, 108, 114] : List UInt8)) {r : Bool} (hr : hasL (hasV k) c = r) (w : World) : Calls Tryd.prog 21 #[.int .i64 k, .string ⟨#[c]⟩] w fun e w' => e = .returned (.bool r) ∧ Below w.heap.size w w' :=
  QR.icehouseref12_Has.calls 12 k ⟨#[c]⟩ r w (by rw [has_f k c hc, hr])
theorem rhas_n (k : Int) {r : Bool} (hr : (hasV k).n = r) (w : World) : Calls Tryd.prog 21 #[.int .i64 k, .string ⟨#[110]⟩] w fun e w' => e = .returned (.bool r) ∧ Below w.heap.size w w' := rhas_c k 110 (by decide) hr w
theorem rhas_f (k : Int) {r : Bool} (hr : (hasV k).f = r) (w : World) : Calls Tryd.prog 21 #[.int .i64 k, .string ⟨#[102]⟩] w fun e w' => e = .returned (.bool r) ∧ Below w.heap.size w w' := rhas_c k 102 (by decide) hr w
theorem rhas_e (k : Int) {r : Bool} (hr : (hasV k).e = r) (w : World) : Calls Tryd.prog 21 #[.int .i64 k, .string ⟨#[101]⟩] w fun e w' => e = .returned (.bool r) ∧ Below w.heap.size w w' := rhas_c k 101 (by decide) hr w
theorem rhas_l (k : Int) {r : Bool} (hr : (hasV k).l = r) (w : World) : Calls Tryd.prog 21 #[.int .i64 k, .string ⟨#[108]⟩] w fun e w' => e = .returned (.bool r) ∧ Below w.heap.size w w' := rhas_c k 108 (by decide) hr w
theorem rhas_r (k : Int) {r : Bool} (hr : (hasV k).r = r) (w : World) : Calls Tryd.prog 21 #[.int .i64 k, .string ⟨#[114]⟩] w fun e w' => e = .returned (.bool r) ∧ Below w.heap.size w w' := rhas_c k 114 (by decide) hr w
/-! long -/
theorem long_l0 (m : Ms) (hl : m.L.length < 9223372036854775807) : ∀ (d i : Nat) (a : Int), m.L.length - i = d → i ≤ m.L.length → ∃ r, Since (fun k => QL.icehouseref12_Long.l0 k a (i : Int) m.kind m.fr m.dst m.ep m.op m.n m.f m.e.f0 m.e.f1.f0 m.e.f1.f1 m.e.f1.f2 m.e.f2.f0 m.e.f2.f1 m.L m.R m.each m.keep) r := by
  intro d
  induction d with
  | zero =>
    intro i a hd hi
    obtain rfl : i = m.L.length := by omega
    refine ⟨wrap64 (a + ((([] : List Int).length : Nat) : Int)), Since.none fun k => ?_⟩
    simp only [QL.icehouseref12_Long.l0]
    rw [if_neg (Int.lt_irrefl _)]
    rfl
  | succ d ih =>
    intro i a hd hi
    have hw : wrap64 ((i : Int) + 1) = ((i + 1 : Nat) : Int) := by unfold wrap64; omega
    obtain ⟨r, hr⟩ := ih (i + 1) (wrap64 ((wrap64 (a + (((QL.rd_T28 m.L (i : Int)).f0).size : Int))) + (((QL.rd_T28 m.L (i : Int)).f2.f1).length : Int))) (by omega) (by omega)
    refine ⟨r, Since.one hr fun k hk => ?_⟩
    simp only [QL.icehouseref12_Long.l0]
    rw [if_pos (by omega), if_pos (by omega), hw]
    exact hk
theorem long_c {w : World} {m : Ms} {p : Pl} (hm : Lies w m p) (hl : m.L.length < 9223372036854775807) :
    Calls Tryd.prog 10 #[.agg (m.val p)] w fun e w' => (∃ r, e = .returned (.bool r)) ∧ Below w.heap.size w w' := by
  obtain ⟨r, K, hK⟩ := long_l0 m hl _ 0 (wrap64 ((wrap64 ((wrap64 ((m.e.f0.size : Int) + (m.e.f2.f1.length : Int))) + (m.R.length : Int))) + (m.L.length : Int))) rfl (Nat.zero_le _)
  refine (QL.icehouselaw12_long.calls K m.kind m.fr m.dst m.ep m.op m.n m.f m.e.f0 m.e.f1.f0 m.e.f1.f1 m.e.f1.f2 m.e.f2.f0 p.vA p.vc m.e.f2.f1 p.lA p.lc m.L p.rA p.rc m.R m.each m.keep (decide (r > 1000)) w hm.v hm.vc hm.l hm.lc hm.r hm.rc ?_).mono ?_
  · unfold QL.icehouselaw12_long.f QL.icehouseref12_Long.f
    rw [show QL.icehouseref12_Long.l0 K _ (0 : Int) _ _ _ _ _ _ _ _ _ _ _ _ _ _ _ _ _ = some r from hK K (Nat.le_refl _)]
    rfl
  · rintro e w' ⟨rfl, hb⟩
    exact ⟨⟨_, rfl⟩, hb⟩
/-! Back -/
def backE (h : Bool) (k : ByteArray) : E6 := ⟨if h = true then k else ⟨#[]⟩, ⟨0, 0, 0⟩, ⟨false, []⟩⟩
def backM (m : Ms) (k : Int) : Ms := ⟨k, m.dst, m.fr, m.ep, m.op, 0, false, backE (hasV k).e m.e.f0, [], [], 0, 0⟩
abbrev bkC (m : Ms) (k : Int) (s : ByteArray) : Array Value := #[.int .i64 k, .int .i64 m.dst, .int .i64 m.fr, .int .i64 m.ep, .int .i64 m.op, .int .i64 0, .bool false, .string s, .int .i64 0, .int .i64 0, .int .i64 0, .bool false, .slice none 0 0, .slice none 0 0, .slice none 0 0, .int .i64 0, .int .i64 0]
theorem bkC_one (m : Ms) (k : Int) (s : ByteArray) : (bkC m k s).all (·.oneCell') = true := by simp [Value.oneCell']
set_option maxHeartbeats 4000000 in
set_option maxRecDepth 100000 in
theorem back_c {w : World} {m : Ms} {p : Pl} (k : Int) (hK : Kin w) : Calls Tryd.prog 22 #[.agg (m.val p), .int .i64 k] w fun e w' => e = .returned (.agg ((backM m k).val nP)) ∧ Below w.heap.size w w' := by
  obtain ⟨b0, b1, b2⟩ := three_blks w (.cells (m.val p) 34) (.cells zMs 34) (.cells (bkC m k ⟨#[]⟩) 34)
  obtain ⟨d0, d1⟩ := two_blks w (.cells (m.val p) 34) (.cells zMs 34)
  have HB := Aside0.mk (below_alloc (below_allocs (Below.refl w.heap.size w) (.cells (m.val p) 34) (.cells zMs 34)) (.cells (bkC m k ⟨#[]⟩) 34))
  have HK := Aside0.mk (hK.below HB.out)
  have B0 := Aside0.mk b0
  have B1 := Aside0.mk b1
  have B2 := Aside0.mk b2
  have D0 := Aside0.mk d0
  have HZ : Aside0 (((w.alloc (.cells (m.val p) 34)).alloc (.cells zMs 34)).heap.size = w.heap.size + 1 + 1) := ⟨by rw [size1, size1]⟩
  clear hK b0 b1 b2 d0 d1
  obtain ⟨b, hb⟩ : ∃ b, hasV k = b := ⟨_, rfl⟩
  have HH := Aside0.mk hb
  have HM : Aside0 (backM m k = ⟨k, m.dst, m.fr, m.ep, m.op, 0, false, backE b.e m.e.f0, [], [], 0, 0⟩) := ⟨by unfold backM; rw [hb]⟩
  obtain ⟨bn, bf, be, bl, br⟩ := b
  clear hb
  go_enter Tryd.func22, Tryd.ntmps22
  go_upto_region 1 with fail
  have e1 := (blk_cell D0.out 1).trans (show _ = some (Value.int .i64 m.fr) from rfl)
  have e2 := (blk_cell D0.out 2).trans (show _ = some (Value.int .i64 m.dst) from rfl)
  have e3 := (blk_cell D0.out 3).trans (show _ = some (Value.int .i64 m.ep) from rfl)
  have e4 := (blk_cell D0.out 4).trans (show _ = some (Value.int .i64 m.op) from rfl)
  go_upto_region 2 with fail
  generalize ((w.alloc (.cells (m.val p) 34)).alloc (.cells zMs 34)).alloc (.cells (bkC m k ⟨#[]⟩) 34) = W at *
  clear e1 e2 e3 e4 D0 HZ
  go_upto_if 29 with (go_at_call 23; (with_reducible refine (has_ _ _ HK.out).mono ?_); rw [HH.out, show hasR ⟨bn, bf, be, bl, br⟩ = .tuple #[.bool bn, .bool bf, .bool be, .bool bl, .bool br] from rfl]; rintro x w1 ⟨rfl, hb⟩; have HB1 := Aside0.mk (HB.out.trans (hb.mono HB.out.size)); have C0 := Aside0.mk ((hb.block _ (blk_lt B0.out)).trans B0.out); have C1 := Aside0.mk ((hb.block _ (blk_lt B1.out)).trans B1.out); have C2 := Aside0.mk ((hb.block _ (blk_lt B2.out)).trans B2.out); clear hb)
  clear B0 B1 B2
  cases be
  · go_wp2_with (first
      | (refine wpList_load_row rfl 34 (.tmp 5) rfl (w.heap.size + 1 + 1) rfl 34 (bkC m k ⟨#[]⟩) (0, 0) _ C2.out Tryd.underlying34 rfl (by kernel_rfl) ?_)
      | (refine wpList_store_row rfl 34 (.tmp 4) (.tmp 35) rfl (w.heap.size + 1) (bkC m k ⟨#[]⟩) rfl rfl 34 zMs C1.out (by kernel_rfl) rfl (bkC_one m k ⟨#[]⟩) ?_))
    refine bodyPost_ret (results_cell_row rfl _ _ (w.heap.size + 1) 34 _ (0, 0) _ rfl (setRow_heap _ _ _ _ _ _ C1.out) Tryd.underlying34 rfl (by kernel_rfl)) rfl ?_
    rw [HM.out]
    exact ⟨rfl, below_setRow HB1.out (Nat.le_succ _) _⟩
  · have e7 := (blk_cell C0.out 7).trans (show _ = some (Value.string m.e.f0) from rfl)
    have g7 := (blk_cell C2.out 7).trans (show _ = some (Value.string ⟨#[]⟩) from rfl)
    have f7 := blk_frozen C2.out 7
    have C3 : Aside0 ((w1.setCell ⟨w.heap.size + 1 + 1, 7, none⟩ (.string m.e.f0)).heap[w.heap.size + 1 + 1]? = some (.cells (bkC m k m.e.f0) 34 (0, 0))) := ⟨blk_set C2.out 7 (.string m.e.f0)⟩
    have C4 : Aside0 ((w1.setCell ⟨w.heap.size + 1 + 1, 7, none⟩ (.string m.e.f0)).heap[w.heap.size + 1]? = some (.cells zMs 34 (0, 0))) := ⟨(Below.heap_setCell _ _ _ _ (by show w.heap.size + 1 ≠ w.heap.size + 1 + 1; omega)).trans C1.out⟩
    have HB2 : Aside0 (Below w.heap.size w (w1.setCell ⟨w.heap.size + 1 + 1, 7, none⟩ (.string m.e.f0))) := ⟨below_set HB1.out (by omega)⟩
    go_wp2_with (first
      | (refine wpList_load_row rfl 34 (.tmp 5) rfl (w.heap.size + 1 + 1) rfl 34 (bkC m k m.e.f0) (0, 0) _ C3.out Tryd.underlying34 rfl (by kernel_rfl) ?_)
      | (refine wpList_store_row rfl 34 (.tmp 4) (.tmp 35) rfl (w.heap.size + 1) (bkC m k m.e.f0) rfl rfl 34 zMs C4.out (by kernel_rfl) rfl (bkC_one m k m.e.f0) ?_))
    refine bodyPost_ret (results_cell_row rfl _ _ (w.heap.size + 1) 34 _ (0, 0) _ rfl (setRow_heap _ _ _ _ _ _ C4.out) Tryd.underlying34 rfl (by kernel_rfl)) rfl ?_
    rw [HM.out]
    exact ⟨rfl, below_setRow HB2.out (Nat.le_succ _) _⟩
end Go.Proofs.YthaoiamgkpkcbaaDoor.Ms
namespace Go.Proofs.YthaoiamgkpkcbaaDoor.QM
open Go.RowKit Go.Proofs.YthaoiamgkpkcbaaDoorW.PrintWords Go.Proofs.YthaoiamgkpkcbaaDoorW.PrintLast Go.Proofs.YthaoiamgkpkcbaaDoorW.PrintMore
attribute [local go_sem] max2_int min2_int max_two min_two max_three min_three max_four min_four   -- for this text's walks alone
set_option linter.unusedVariables false
set_option linter.unusedSimpArgs false
def errW : Option Int → Value
  | none => .nilIface
  | some c => .iface 0 (.int .i64 c)
theorem errW_none : errW none = .nilIface := rfl
theorem errW_some (c : Int) : errW (some c) = .iface 0 (.int .i64 c) := rfl

-- the values' own types
end Go.Proofs.YthaoiamgkpkcbaaDoor.QM
namespace Go.Proofs.YthaoiamgkpkcbaaDoor.QM
open Go.RowKit Go.Proofs.YthaoiamgkpkcbaaDoorW.PrintWords Go.Proofs.YthaoiamgkpkcbaaDoorW.PrintLast Go.Proofs.YthaoiamgkpkcbaaDoorW.PrintMore
attribute [local go_sem] max2_int min2_int max_two min_two max_three min_three max_four min_four   -- for this text's walks alone
set_option linter.unusedVariables false
set_option linter.unusedSimpArgs false
/-! ### slices_Equal_int_int: function 76 -/
def slices_Equal_int_int.l0 : Nat → List Int → List Int → Int → Int → Option (Bool)
  | 0, _, _, _, _ => none
  | k + 1, x0, x1, x12, x13 => if x13 < x12 then (if 0 ≤ x13 then (if x13 < (x0.length : Int) then (if x13 < (x1.length : Int) then (if (rd x0 x13) = (rd x1 x13) then (slices_Equal_int_int.l0 k x0 x1 x12 (wrap64 (x13 + 1))) else (some false)) else (none)) else (none)) else (none)) else (some true)
def slices_Equal_int_int.f (k : Nat) (l0 : List Int) (l1 : List Int) : Option (Bool) := if (l0.length : Int) = (l1.length : Int) then (slices_Equal_int_int.l0 k l0 l1 (l0.length : Int) 0) else (some false)
set_option maxHeartbeats 8000000 in
set_option maxRecDepth 100000 in
theorem slices_Equal_int_int.calls (k : Nat) (A0 : Option Addr) (c0 : Nat) (l0 : List Int) (A1 : Option Addr) (c1 : Nat) (l1 : List Int) (r : Bool) (w : World) (hr0 : Kd.C (Kd.int .i64) w A0 l0.length l0) (hc0 : l0.length ≤ c0) (hr1 : Kd.C (Kd.int .i64) w A1 l1.length l1) (hc1 : l1.length ≤ c1) (h : slices_Equal_int_int.f k l0 l1 = some r) :
    Calls Tryd.prog 76 #[.slice A0 l0.length c0, .slice A1 l1.length c1] w fun e w' => e = .returned (.bool r) ∧ Drawn0 w w' := by
  have HR0 := Aside0.mk hr0
  have HC0 := Aside0.mk hc0
  clear hr0 hc0
  have HR1 := Aside0.mk hr1
  have HC1 := Aside0.mk hc1
  clear hr1 hc1
  have H : (if (l0.length : Int) = (l1.length : Int) then (slices_Equal_int_int.l0 k l0 l1 (l0.length : Int) 0) else (some false)) = some r := h
  clear h
  by_cases c3 : (l0.length : Int) = (l1.length : Int)
  · rw [if_pos c3] at H
    have c3b0 : ((l0.length : Int) == (l1.length : Int)) = true := beq_iff_eq.mpr c3
    have c3b1 : ((l0.length : Int) != (l1.length : Int)) = false := bne_eq_false_iff_eq.mpr c3
    have c3b2 : (l0.length == l1.length) = true := by first | simpa using c3 | (simp at c3 ⊢; omega)
    clear c3
    have H' := Aside0.mk H
    clear H
    go_enter Tryd.func76, Tryd.ntmps76
    go_wp2
    repeat (go_quiet (fail); try go_wp2)
    go_loopg [13] k (fun kq v13 w' => ∃ (x13_1 : Int), v13 = .int .i64 x13_1 ∧ Aside0 (slices_Equal_int_int.l0 kq l0 l1 (l0.length : Int) x13_1 = some r) ∧ Aside0 (kq ≤ k) ∧ Drawn0 w w')
    case atStart => exact ⟨(0), (by first | rfl | (simp; done) | (simp [*]; done)), H', ⟨Nat.le_refl _⟩, by repeat (first | exact Drawn0.refl _ | apply Drawn0.step)⟩
    case round =>
      clear H'
      try clear c1
      try clear p2
      try clear c3
      try clear c3b0
      try clear c3b1
      try clear c3b2
      obtain ⟨x13_1, rfl, HA, HK1, ⟨m1, rfl⟩⟩ := hrel
      cases gk with
      | zero => exact absurd HA.out (by simp [slices_Equal_int_int.l0])
      | succ k1 =>
        have H := HA.out
        clear HA
        simp only [slices_Equal_int_int.l0] at H
        by_cases c4 : x13_1 < (l0.length : Int)
        · rw [if_pos c4] at H
          have c4b0 : decide (x13_1 < (l0.length : Int)) = true := decide_eq_true c4
          clear c4
          by_cases c5 : 0 ≤ x13_1
          · rw [if_pos c5] at H
            have c5b0 : decide (0 ≤ x13_1) = true := decide_eq_true c5
            clear c5
            by_cases c6 : x13_1 < (l0.length : Int)
            · rw [if_pos c6] at H
              have c6b0 : decide (x13_1 < (l0.length : Int)) = true := decide_eq_true c6
              clear c6
              by_cases c7 : x13_1 < (l1.length : Int)
              · rw [if_pos c7] at H
                have c7b0 : decide (x13_1 < (l1.length : Int)) = true := decide_eq_true c7
                clear c7
                by_cases c8 : (rd l0 x13_1) = (rd l1 x13_1)
                · rw [if_pos c8] at H
                  have c8b0 : ((rd l0 x13_1) == (rd l1 x13_1)) = true := beq_iff_eq.mpr c8
                  have c8b1 : ((rd l0 x13_1) != (rd l1 x13_1)) = false := bne_eq_false_iff_eq.mpr c8
                  clear c8
                  have H' := Aside0.mk H
                  clear H
                  have p101 : 0 ≤ (x13_1 : Int) := of_decide_eq_true (by first | (with_reducible assumption) | assumption)
                  have q101 : x13_1 < (l0.length : Int) := of_decide_eq_true (by first | (with_reducible assumption) | assumption)
                  obtain ⟨ad101, e101, hx101_0⟩ := Kd.at_int HR0.out x13_1 p101 q101
                  cases e101
                  replace p101 := eq_true p101
                  replace q101 := eq_true q101
                  have p102 : 0 ≤ (x13_1 : Int) := of_decide_eq_true (by first | (with_reducible assumption) | assumption)
                  have q102 : x13_1 < (l1.length : Int) := of_decide_eq_true (by first | (with_reducible assumption) | assumption)
                  obtain ⟨ad102, e102, hx102_0⟩ := Kd.at_int HR1.out x13_1 p102 q102
                  cases e102
                  replace p102 := eq_true p102
                  replace q102 := eq_true q102
                  go_wp2
                  repeat (go_quiet (fail); try go_wp2)
                  go_roundg k1
                  case measure => have := HK1.out; omega
                  case rel => exact ⟨(wrap64 (x13_1 + 1)), (by first | rfl | (simp; done) | (simp [*]; done)), H', ⟨by have := HK1.out; omega⟩, by repeat (first | exact Drawn0.refl _ | apply Drawn0.step)⟩
                · rw [if_neg c8] at H
                  have c8b0 : ((rd l0 x13_1) == (rd l1 x13_1)) = false := beq_eq_false_iff_ne.mpr c8
                  have c8b1 : ((rd l0 x13_1) != (rd l1 x13_1)) = true := bne_iff_ne.mpr c8
                  obtain rfl := Option.some.inj H
                  have p101 : 0 ≤ (x13_1 : Int) := of_decide_eq_true (by first | (with_reducible assumption) | assumption)
                  have q101 : x13_1 < (l0.length : Int) := of_decide_eq_true (by first | (with_reducible assumption) | assumption)
                  obtain ⟨ad101, e101, hx101_0⟩ := Kd.at_int HR0.out x13_1 p101 q101
                  cases e101
                  replace p101 := eq_true p101
                  replace q101 := eq_true q101
                  have p102 : 0 ≤ (x13_1 : Int) := of_decide_eq_true (by first | (with_reducible assumption) | assumption)
                  have q102 : x13_1 < (l1.length : Int) := of_decide_eq_true (by first | (with_reducible assumption) | assumption)
                  obtain ⟨ad102, e102, hx102_0⟩ := Kd.at_int HR1.out x13_1 p102 q102
                  cases e102
                  replace p102 := eq_true p102
                  replace q102 := eq_true q102
                  go_wp2
                  repeat (go_quiet (fail); try go_wp2)
                  go_ret
                  exact ⟨by first | rfl | (simp; done) | (simp [*]; done), by repeat (first | exact Drawn0.refl _ | apply Drawn0.step)⟩
              · rw [if_neg c7] at H
                exact absurd H (by simp)
            · rw [if_neg c6] at H
              exact absurd H (by simp)
          · rw [if_neg c5] at H
            exact absurd H (by simp)
        · rw [if_neg c4] at H
          have c4b0 : decide (x13_1 < (l0.length : Int)) = false := decide_eq_false c4
          clear c4
          obtain rfl := Option.some.inj H
          go_wp2
          repeat (go_quiet (fail); try go_wp2)
          go_ret
          exact ⟨by first | rfl | (simp; done) | (simp [*]; done), by repeat (first | exact Drawn0.refl _ | apply Drawn0.step)⟩
  · rw [if_neg c3] at H
    have c3b0 : ((l0.length : Int) == (l1.length : Int)) = false := beq_eq_false_iff_ne.mpr c3
    have c3b1 : ((l0.length : Int) != (l1.length : Int)) = true := bne_iff_ne.mpr c3
    have c3b2 : (l0.length == l1.length) = false := by first | simpa using c3 | (simp at c3 ⊢; omega)
    obtain rfl := Option.some.inj H
    go_enter Tryd.func76, Tryd.ntmps76
    go_wp2
    repeat (go_quiet (fail); try go_wp2)
    go_ret
    exact ⟨by first | rfl | (simp; done) | (simp [*]; done), by repeat (first | exact Drawn0.refl _ | apply Drawn0.step)⟩
/-! ### ring_Same: function 58 -/
def ring_Same.f (k : Nat) (l0_0 : List Int) (a0_1 : Int) (a0_2 : Int) (l1_0 : List Int) (a1_1 : Int) (a1_2 : Int) : Option (Bool) := (slices_Equal_int_int.f k l0_0 l1_0).bind fun t105 => (if t105 = true then (if a0_1 = a1_1 then (some (a0_2 == a1_2)) else (some false)) else (some false))
set_option maxHeartbeats 8000000 in
set_option maxRecDepth 100000 in
theorem ring_Same.calls (k : Nat) (A0_0 : Option Addr) (c0_0 : Nat) (l0_0 : List Int) (a0_1 : Int) (a0_2 : Int) (A1_0 : Option Addr) (c1_0 : Nat) (l1_0 : List Int) (a1_1 : Int) (a1_2 : Int) (r : Bool) (w : World) (hr0_0 : Kd.C (Kd.int .i64) w A0_0 l0_0.length l0_0) (hc0_0 : l0_0.length ≤ c0_0) (hr1_0 : Kd.C (Kd.int .i64) w A1_0 l1_0.length l1_0) (hc1_0 : l1_0.length ≤ c1_0) (h : ring_Same.f k l0_0 a0_1 a0_2 l1_0 a1_1 a1_2 = some r) :
    Calls Tryd.prog 58 #[.agg #[.slice A0_0 l0_0.length c0_0, .int .i64 a0_1, .int .i64 a0_2], .agg #[.slice A1_0 l1_0.length c1_0, .int .i64 a1_1, .int .i64 a1_2]] w fun e w' => e = .returned (.bool r) ∧ Below w.heap.size w w' := by
  have hu32 := Tryd.underlying32
  have HR0_0 := Aside0.mk hr0_0
  have HC0_0 := Aside0.mk hc0_0
  clear hr0_0 hc0_0
  have HR1_0 := Aside0.mk hr1_0
  have HC1_0 := Aside0.mk hc1_0
  clear hr1_0 hc1_0
  have HB := Aside0.mk (Below.refl w.heap.size w)
  have H : ((slices_Equal_int_int.f k l0_0 l1_0).bind fun t105 => (if t105 = true then (if a0_1 = a1_1 then (some (a0_2 == a1_2)) else (some false)) else (some false))) = some r := h
  clear h
  replace H := Option.bind_eq_some_iff.mp H
  obtain ⟨t105, A30, H⟩ := H
  replace H : (if t105 = true then (if a0_1 = a1_1 then (some (a0_2 == a1_2)) else (some false)) else (some false)) = some r := H
  have A3 := Aside0.mk A30
  clear A30
  by_cases c4 : t105 = true
  · subst c4
    have H1 : (if a0_1 = a1_1 then (some (a0_2 == a1_2)) else (some false)) = some r := by rw [if_pos rfl] at H; exact H
    clear H
    have H := H1
    clear H1
    by_cases c5 : a0_1 = a1_1
    · rw [if_pos c5] at H
      have c5b0 : (a0_1 == a1_1) = true := beq_iff_eq.mpr c5
      have c5b1 : (a0_1 != a1_1) = false := bne_eq_false_iff_eq.mpr c5
      clear c5
      obtain rfl := Option.some.inj H
      go_enter Tryd.func58, Tryd.ntmps58
      go_wp2_with (first | ((with_reducible refine gate_dst (N := 2) rfl ?_); refine box_event ?hg (N := 2) ?hd (cs := #[.slice A0_0 l0_0.length c0_0, .int .i64 a0_1, .int .i64 a0_2]) (t := 32) ?hr ?_; (case hd => rfl); (case hg => rfl); (case hr => first | (go_simp; done) | (go_simp; rfl)); intro gb103 hg w6 hbox hb; have n0_ := Aside0.mk (below_step (by repeat (first | (with_reducible first | exact HB.out | apply below_alloc | apply pw_below_drewN | apply below_drew1) | exact HB.out)) hb); have n1_ := Aside0.mk (hbox); have n2_ := Aside0.mk ((by rw [hg]; exact (below_size (by repeat (first | (with_reducible first | exact HB.out | apply below_alloc | apply pw_below_drewN | apply below_drew1) | exact HB.out))) : w.heap.size ≤ gb103)); have n3_ := Aside0.mk ((by rw [hg]; exact (below_size (by repeat (first | (with_reducible first | exact HB.out | apply below_alloc | apply pw_below_drewN | apply below_drew1) | exact HB.out))) : w.heap.size ≤ gb103)); clear HB; have HB := n0_; have BK103 := n1_; have GW103 := n2_; have GE103 := n3_; clear n0_ n1_ n2_ n3_; clear hb hbox hg) | ((with_reducible refine gate_dst (N := 3) rfl ?_); refine box_event ?hg (N := 3) ?hd (cs := #[.slice A1_0 l1_0.length c1_0, .int .i64 a1_1, .int .i64 a1_2]) (t := 32) ?hr ?_; (case hd => rfl); (case hg => rfl); (case hr => first | (go_simp; done) | (go_simp; rfl)); intro gb104 hg w7 hbox hb; have n0_ := Aside0.mk (blk_below (g := gb103) (o := .cells #[.slice A0_0 l0_0.length c0_0, .int .i64 a0_1, .int .i64 a0_2] 32 (0, 0)) (by (with_reducible repeat (first | refine blk_drewN ?_ _ | refine blk_drew ?_ | refine blk_alloc ?_ _)); exact BK103.out) hb); have n1_ := Aside0.mk (below_step (by repeat (first | (with_reducible first | exact HB.out | apply below_alloc | apply pw_below_drewN | apply below_drew1 | refine below_set ?_ GE103.out) | exact HB.out)) hb); have n2_ := Aside0.mk (hbox); have n3_ := Aside0.mk ((by rw [hg]; exact (below_size (by repeat (first | (with_reducible first | exact HB.out | apply below_alloc | apply pw_below_drewN | apply below_drew1 | refine below_set ?_ GE103.out) | exact HB.out))) : w.heap.size ≤ gb104)); have n4_ := Aside0.mk ((by rw [hg]; exact (below_size (by repeat (first | (with_reducible first | exact HB.out | apply below_alloc | apply pw_below_drewN | apply below_drew1 | refine below_set ?_ GE103.out) | exact HB.out))) : w.heap.size ≤ gb104)); have n5_ := Aside0.mk ((by rw [hg]; exact Nat.ne_of_lt (blk_lt (g := gb103) (o := .cells #[.slice A0_0 l0_0.length c0_0, .int .i64 a0_1, .int .i64 a0_2] 32 (0, 0)) (by (with_reducible repeat (first | refine blk_drewN ?_ _ | refine blk_drew ?_ | refine blk_alloc ?_ _)); exact BK103.out)) : gb103 ≠ gb104)); have n6_ := Aside0.mk ((by rw [hg]; exact Nat.ne_of_gt (blk_lt (g := gb103) (o := .cells #[.slice A0_0 l0_0.length c0_0, .int .i64 a0_1, .int .i64 a0_2] 32 (0, 0)) (by (with_reducible repeat (first | refine blk_drewN ?_ _ | refine blk_drew ?_ | refine blk_alloc ?_ _)); exact BK103.out)) : gb104 ≠ gb103)); clear BK103; clear HB; have BK103 := n0_; have HB := n1_; have BK104 := n2_; have GW104 := n3_; have GE104 := n4_; have NB103_104 := n5_; have NB104_103 := n6_; clear n0_ n1_ n2_ n3_ n4_ n5_ n6_; clear hb hbox hg; have hnb8 := NB103_104.out; have hnc8 := NB104_103.out; have hcz9_0 : w7.cell? ⟨gb103, 0, none⟩ = some (.slice A0_0 l0_0.length c0_0) := (blk_cell BK103.out 0).trans rfl; have hcz9_1 : w7.cell? ⟨gb103, 1, none⟩ = some (.int .i64 a0_1) := (blk_cell BK103.out 1).trans rfl; have hcz9_2 : w7.cell? ⟨gb103, 2, none⟩ = some (.int .i64 a0_2) := (blk_cell BK103.out 2).trans rfl; have hfz9_0 := blk_frozen BK103.out 0; have hfz9_1 := blk_frozen BK103.out 1; have hfz9_2 := blk_frozen BK103.out 2; have hcz10_0 : w7.cell? ⟨gb104, 0, none⟩ = some (.slice A1_0 l1_0.length c1_0) := (blk_cell BK104.out 0).trans rfl; have hcz10_1 : w7.cell? ⟨gb104, 1, none⟩ = some (.int .i64 a1_1) := (blk_cell BK104.out 1).trans rfl; have hcz10_2 : w7.cell? ⟨gb104, 2, none⟩ = some (.int .i64 a1_2) := (blk_cell BK104.out 2).trans rfl; have hfz10_0 := blk_frozen BK104.out 0; have hfz10_1 := blk_frozen BK104.out 1; have hfz10_2 := blk_frozen BK104.out 2) | ((with_reducible refine gate_callee (f := 76) rfl ?_); refine goesL_ (some 9) rfl rfl Tryd.func76 (by kernel_rfl) rfl #[.slice A0_0 l0_0.length c0_0, .slice A1_0 l1_0.length c1_0] rfl (by (try simp only [List.map_toArray, List.map_cons, List.map_nil]); first | done | rfl | (simp only [List.length_drop, List.length_take]; rfl)) ?_; (with_reducible refine (slices_Equal_int_int.calls k _ _ l0_0 _ _ l1_0 true _ ?side1 ?side2 ?side3 ?side4 A3.out).mono ?_); (case side1 => repeat (first | exact (Kd.C_below HR0_0.out HB.out) | (with_reducible refine Kd.C_alloc ?_ _) | (with_reducible refine Kd.C_drewN ?_ _) | (with_reducible refine Kd.C_drew ?_))); (case side2 => exact HC0_0.out); (case side3 => repeat (first | exact (Kd.C_below HR1_0.out HB.out) | (with_reducible refine Kd.C_alloc ?_ _) | (with_reducible refine Kd.C_drewN ?_ _) | (with_reducible refine Kd.C_drew ?_))); (case side4 => exact HC1_0.out); rintro e w' ⟨rfl, ⟨nd, rfl⟩⟩; refine ⟨_, rfl, ?_⟩))
      go_ret
      exact ⟨by first | rfl | (simp [errW_none, errW_some] <;> rfl) | (simp [*, errW_none, errW_some] <;> rfl), by repeat (first | (with_reducible first | exact HB.out | apply below_alloc | apply pw_below_drewN | apply below_drew1 | refine below_set ?_ GE103.out | refine below_set ?_ GE104.out) | exact HB.out)⟩
    · rw [if_neg c5] at H
      have c5b0 : (a0_1 == a1_1) = false := beq_eq_false_iff_ne.mpr c5
      have c5b1 : (a0_1 != a1_1) = true := bne_iff_ne.mpr c5
      obtain rfl := Option.some.inj H
      go_enter Tryd.func58, Tryd.ntmps58
      go_wp2_with (first | ((with_reducible refine gate_dst (N := 2) rfl ?_); refine box_event ?hg (N := 2) ?hd (cs := #[.slice A0_0 l0_0.length c0_0, .int .i64 a0_1, .int .i64 a0_2]) (t := 32) ?hr ?_; (case hd => rfl); (case hg => rfl); (case hr => first | (go_simp; done) | (go_simp; rfl)); intro gb103 hg w11 hbox hb; have n0_ := Aside0.mk (below_step (by repeat (first | (with_reducible first | exact HB.out | apply below_alloc | apply pw_below_drewN | apply below_drew1) | exact HB.out)) hb); have n1_ := Aside0.mk (hbox); have n2_ := Aside0.mk ((by rw [hg]; exact (below_size (by repeat (first | (with_reducible first | exact HB.out | apply below_alloc | apply pw_below_drewN | apply below_drew1) | exact HB.out))) : w.heap.size ≤ gb103)); have n3_ := Aside0.mk ((by rw [hg]; exact (below_size (by repeat (first | (with_reducible first | exact HB.out | apply below_alloc | apply pw_below_drewN | apply below_drew1) | exact HB.out))) : w.heap.size ≤ gb103)); clear HB; have HB := n0_; have BK103 := n1_; have GW103 := n2_; have GE103 := n3_; clear n0_ n1_ n2_ n3_; clear hb hbox hg) | ((with_reducible refine gate_dst (N := 3) rfl ?_); refine box_event ?hg (N := 3) ?hd (cs := #[.slice A1_0 l1_0.length c1_0, .int .i64 a1_1, .int .i64 a1_2]) (t := 32) ?hr ?_; (case hd => rfl); (case hg => rfl); (case hr => first | (go_simp; done) | (go_simp; rfl)); intro gb104 hg w12 hbox hb; have n0_ := Aside0.mk (blk_below (g := gb103) (o := .cells #[.slice A0_0 l0_0.length c0_0, .int .i64 a0_1, .int .i64 a0_2] 32 (0, 0)) (by (with_reducible repeat (first | refine blk_drewN ?_ _ | refine blk_drew ?_ | refine blk_alloc ?_ _)); exact BK103.out) hb); have n1_ := Aside0.mk (below_step (by repeat (first | (with_reducible first | exact HB.out | apply below_alloc | apply pw_below_drewN | apply below_drew1 | refine below_set ?_ GE103.out) | exact HB.out)) hb); have n2_ := Aside0.mk (hbox); have n3_ := Aside0.mk ((by rw [hg]; exact (below_size (by repeat (first | (with_reducible first | exact HB.out | apply below_alloc | apply pw_below_drewN | apply below_drew1 | refine below_set ?_ GE103.out) | exact HB.out))) : w.heap.size ≤ gb104)); have n4_ := Aside0.mk ((by rw [hg]; exact (below_size (by repeat (first | (with_reducible first | exact HB.out | apply below_alloc | apply pw_below_drewN | apply below_drew1 | refine below_set ?_ GE103.out) | exact HB.out))) : w.heap.size ≤ gb104)); have n5_ := Aside0.mk ((by rw [hg]; exact Nat.ne_of_lt (blk_lt (g := gb103) (o := .cells #[.slice A0_0 l0_0.length c0_0, .int .i64 a0_1, .int .i64 a0_2] 32 (0, 0)) (by (with_reducible repeat (first | refine blk_drewN ?_ _ | refine blk_drew ?_ | refine blk_alloc ?_ _)); exact BK103.out)) : gb103 ≠ gb104)); have n6_ := Aside0.mk ((by rw [hg]; exact Nat.ne_of_gt (blk_lt (g := gb103) (o := .cells #[.slice A0_0 l0_0.length c0_0, .int .i64 a0_1, .int .i64 a0_2] 32 (0, 0)) (by (with_reducible repeat (first | refine blk_drewN ?_ _ | refine blk_drew ?_ | refine blk_alloc ?_ _)); exact BK103.out)) : gb104 ≠ gb103)); clear BK103; clear HB; have BK103 := n0_; have HB := n1_; have BK104 := n2_; have GW104 := n3_; have GE104 := n4_; have NB103_104 := n5_; have NB104_103 := n6_; clear n0_ n1_ n2_ n3_ n4_ n5_ n6_; clear hb hbox hg; have hnb13 := NB103_104.out; have hnc13 := NB104_103.out; have hcz14_0 : w12.cell? ⟨gb103, 0, none⟩ = some (.slice A0_0 l0_0.length c0_0) := (blk_cell BK103.out 0).trans rfl; have hcz14_1 : w12.cell? ⟨gb103, 1, none⟩ = some (.int .i64 a0_1) := (blk_cell BK103.out 1).trans rfl; have hcz14_2 : w12.cell? ⟨gb103, 2, none⟩ = some (.int .i64 a0_2) := (blk_cell BK103.out 2).trans rfl; have hfz14_0 := blk_frozen BK103.out 0; have hfz14_1 := blk_frozen BK103.out 1; have hfz14_2 := blk_frozen BK103.out 2; have hcz15_0 : w12.cell? ⟨gb104, 0, none⟩ = some (.slice A1_0 l1_0.length c1_0) := (blk_cell BK104.out 0).trans rfl; have hcz15_1 : w12.cell? ⟨gb104, 1, none⟩ = some (.int .i64 a1_1) := (blk_cell BK104.out 1).trans rfl; have hcz15_2 : w12.cell? ⟨gb104, 2, none⟩ = some (.int .i64 a1_2) := (blk_cell BK104.out 2).trans rfl; have hfz15_0 := blk_frozen BK104.out 0; have hfz15_1 := blk_frozen BK104.out 1; have hfz15_2 := blk_frozen BK104.out 2) | ((with_reducible refine gate_callee (f := 76) rfl ?_); refine goesL_ (some 9) rfl rfl Tryd.func76 (by kernel_rfl) rfl #[.slice A0_0 l0_0.length c0_0, .slice A1_0 l1_0.length c1_0] rfl (by (try simp only [List.map_toArray, List.map_cons, List.map_nil]); first | done | rfl | (simp only [List.length_drop, List.length_take]; rfl)) ?_; (with_reducible refine (slices_Equal_int_int.calls k _ _ l0_0 _ _ l1_0 true _ ?side1 ?side2 ?side3 ?side4 A3.out).mono ?_); (case side1 => repeat (first | exact (Kd.C_below HR0_0.out HB.out) | (with_reducible refine Kd.C_alloc ?_ _) | (with_reducible refine Kd.C_drewN ?_ _) | (with_reducible refine Kd.C_drew ?_))); (case side2 => exact HC0_0.out); (case side3 => repeat (first | exact (Kd.C_below HR1_0.out HB.out) | (with_reducible refine Kd.C_alloc ?_ _) | (with_reducible refine Kd.C_drewN ?_ _) | (with_reducible refine Kd.C_drew ?_))); (case side4 => exact HC1_0.out); rintro e w' ⟨rfl, ⟨nd, rfl⟩⟩; refine ⟨_, rfl, ?_⟩))
      go_ret
      exact ⟨by first | rfl | (simp [errW_none, errW_some] <;> rfl) | (simp [*, errW_none, errW_some] <;> rfl), by repeat (first | (with_reducible first | exact HB.out | apply below_alloc | apply pw_below_drewN | apply below_drew1 | refine below_set ?_ GE103.out | refine below_set ?_ GE104.out) | exact HB.out)⟩
  · replace c4 := Bool.eq_false_iff.mpr c4
    subst c4
    have H1 : (some false) = some r := by rw [if_neg (show ¬ (false = true) by decide)] at H; exact H
    clear H
    have H := H1
    clear H1
    obtain rfl := Option.some.inj H
    go_enter Tryd.func58, Tryd.ntmps58
    go_wp2_with (first | ((with_reducible refine gate_dst (N := 2) rfl ?_); refine box_event ?hg (N := 2) ?hd (cs := #[.slice A0_0 l0_0.length c0_0, .int .i64 a0_1, .int .i64 a0_2]) (t := 32) ?hr ?_; (case hd => rfl); (case hg => rfl); (case hr => first | (go_simp; done) | (go_simp; rfl)); intro gb103 hg w16 hbox hb; have n0_ := Aside0.mk (below_step (by repeat (first | (with_reducible first | exact HB.out | apply below_alloc | apply pw_below_drewN | apply below_drew1) | exact HB.out)) hb); have n1_ := Aside0.mk (hbox); have n2_ := Aside0.mk ((by rw [hg]; exact (below_size (by repeat (first | (with_reducible first | exact HB.out | apply below_alloc | apply pw_below_drewN | apply below_drew1) | exact HB.out))) : w.heap.size ≤ gb103)); have n3_ := Aside0.mk ((by rw [hg]; exact (below_size (by repeat (first | (with_reducible first | exact HB.out | apply below_alloc | apply pw_below_drewN | apply below_drew1) | exact HB.out))) : w.heap.size ≤ gb103)); clear HB; have HB := n0_; have BK103 := n1_; have GW103 := n2_; have GE103 := n3_; clear n0_ n1_ n2_ n3_; clear hb hbox hg) | ((with_reducible refine gate_dst (N := 3) rfl ?_); refine box_event ?hg (N := 3) ?hd (cs := #[.slice A1_0 l1_0.length c1_0, .int .i64 a1_1, .int .i64 a1_2]) (t := 32) ?hr ?_; (case hd => rfl); (case hg => rfl); (case hr => first | (go_simp; done) | (go_simp; rfl)); intro gb104 hg w17 hbox hb; have n0_ := Aside0.mk (blk_below (g := gb103) (o := .cells #[.slice A0_0 l0_0.length c0_0, .int .i64 a0_1, .int .i64 a0_2] 32 (0, 0)) (by (with_reducible repeat (first | refine blk_drewN ?_ _ | refine blk_drew ?_ | refine blk_alloc ?_ _)); exact BK103.out) hb); have n1_ := Aside0.mk (below_step (by repeat (first | (with_reducible first | exact HB.out | apply below_alloc | apply pw_below_drewN | apply below_drew1 | refine below_set ?_ GE103.out) | exact HB.out)) hb); have n2_ := Aside0.mk (hbox); have n3_ := Aside0.mk ((by rw [hg]; exact (below_size (by repeat (first | (with_reducible first | exact HB.out | apply below_alloc | apply pw_below_drewN | apply below_drew1 | refine below_set ?_ GE103.out) | exact HB.out))) : w.heap.size ≤ gb104)); have n4_ := Aside0.mk ((by rw [hg]; exact (below_size (by repeat (first | (with_reducible first | exact HB.out | apply below_alloc | apply pw_below_drewN | apply below_drew1 | refine below_set ?_ GE103.out) | exact HB.out))) : w.heap.size ≤ gb104)); have n5_ := Aside0.mk ((by rw [hg]; exact Nat.ne_of_lt (blk_lt (g := gb103) (o := .cells #[.slice A0_0 l0_0.length c0_0, .int .i64 a0_1, .int .i64 a0_2] 32 (0, 0)) (by (with_reducible repeat (first | refine blk_drewN ?_ _ | refine blk_drew ?_ | refine blk_alloc ?_ _)); exact BK103.out)) : gb103 ≠ gb104)); have n6_ := Aside0.mk ((by rw [hg]; exact Nat.ne_of_gt (blk_lt (g := gb103) (o := .cells #[.slice A0_0 l0_0.length c0_0, .int .i64 a0_1, .int .i64 a0_2] 32 (0, 0)) (by (with_reducible repeat (first | refine blk_drewN ?_ _ | refine blk_drew ?_ | refine blk_alloc ?_ _)); exact BK103.out)) : gb104 ≠ gb103)); clear BK103; clear HB; have BK103 := n0_; have HB := n1_; have BK104 := n2_; have GW104 := n3_; have GE104 := n4_; have NB103_104 := n5_; have NB104_103 := n6_; clear n0_ n1_ n2_ n3_ n4_ n5_ n6_; clear hb hbox hg; have hnb18 := NB103_104.out; have hnc18 := NB104_103.out; have hcz19_0 : w17.cell? ⟨gb103, 0, none⟩ = some (.slice A0_0 l0_0.length c0_0) := (blk_cell BK103.out 0).trans rfl; have hcz19_1 : w17.cell? ⟨gb103, 1, none⟩ = some (.int .i64 a0_1) := (blk_cell BK103.out 1).trans rfl; have hcz19_2 : w17.cell? ⟨gb103, 2, none⟩ = some (.int .i64 a0_2) := (blk_cell BK103.out 2).trans rfl; have hfz19_0 := blk_frozen BK103.out 0; have hfz19_1 := blk_frozen BK103.out 1; have hfz19_2 := blk_frozen BK103.out 2; have hcz20_0 : w17.cell? ⟨gb104, 0, none⟩ = some (.slice A1_0 l1_0.length c1_0) := (blk_cell BK104.out 0).trans rfl; have hcz20_1 : w17.cell? ⟨gb104, 1, none⟩ = some (.int .i64 a1_1) := (blk_cell BK104.out 1).trans rfl; have hcz20_2 : w17.cell? ⟨gb104, 2, none⟩ = some (.int .i64 a1_2) := (blk_cell BK104.out 2).trans rfl; have hfz20_0 := blk_frozen BK104.out 0; have hfz20_1 := blk_frozen BK104.out 1; have hfz20_2 := blk_frozen BK104.out 2) | ((with_reducible refine gate_callee (f := 76) rfl ?_); refine goesL_ (some 9) rfl rfl Tryd.func76 (by kernel_rfl) rfl #[.slice A0_0 l0_0.length c0_0, .slice A1_0 l1_0.length c1_0] rfl (by (try simp only [List.map_toArray, List.map_cons, List.map_nil]); first | done | rfl | (simp only [List.length_drop, List.length_take]; rfl)) ?_; (with_reducible refine (slices_Equal_int_int.calls k _ _ l0_0 _ _ l1_0 false _ ?side1 ?side2 ?side3 ?side4 A3.out).mono ?_); (case side1 => repeat (first | exact (Kd.C_below HR0_0.out HB.out) | (with_reducible refine Kd.C_alloc ?_ _) | (with_reducible refine Kd.C_drewN ?_ _) | (with_reducible refine Kd.C_drew ?_))); (case side2 => exact HC0_0.out); (case side3 => repeat (first | exact (Kd.C_below HR1_0.out HB.out) | (with_reducible refine Kd.C_alloc ?_ _) | (with_reducible refine Kd.C_drewN ?_ _) | (with_reducible refine Kd.C_drew ?_))); (case side4 => exact HC1_0.out); rintro e w' ⟨rfl, ⟨nd, rfl⟩⟩; refine ⟨_, rfl, ?_⟩))
    go_ret
    exact ⟨by first | rfl | (simp [errW_none, errW_some] <;> rfl) | (simp [*, errW_none, errW_some] <;> rfl), by repeat (first | (with_reducible first | exact HB.out | apply below_alloc | apply pw_below_drewN | apply below_drew1 | refine below_set ?_ GE103.out | refine below_set ?_ GE104.out) | exact HB.out)⟩
end Go.Proofs.YthaoiamgkpkcbaaDoor.QM
namespace Go.Proofs.YthaoiamgkpkcbaaDoor.QM
open Go.RowKit Go.Proofs.YthaoiamgkpkcbaaDoorW.PrintWords Go.Proofs.YthaoiamgkpkcbaaDoorW.PrintLast Go.Proofs.YthaoiamgkpkcbaaDoorW.PrintMore
attribute [local go_sem] max2_int min2_int max_two min_two max_three min_three max_four min_four   -- for this text's walks alone
set_option linter.unusedVariables false
set_option linter.unusedSimpArgs false
end Go.Proofs.YthaoiamgkpkcbaaDoor.QM
