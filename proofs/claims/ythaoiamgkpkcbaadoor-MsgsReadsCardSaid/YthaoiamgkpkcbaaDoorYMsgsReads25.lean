/- Written by a program of this session over the kit's print: functions and their contracts. · The reference: the contracts of long, SameVal, Same and Size, and of the reference's, by what they tell. Conditions: bytes are bytes. · The reference's Same of two messages, by what it tells. Conditions: lists that fit in memory. · Written by a program of this session over the kit's print: functions and their contracts. -/
import Derived.Test.YthaoiamgkpkcbaaDoorYMsgsReads21
import Derived.Test.YthaoiamgkpkcbaaDoorYMsgsReads22
import Derived.Test.YthaoiamgkpkcbaaDoorYMsgsReads23
import Derived.Test.YthaoiamgkpkcbaaDoorYMsgsReads24
import Derived.Test.YthaoiamgkpkcbaaDoorYMsgsReads13
import Derived.Test.YthaoiamgkpkcbaaDoorYMsgsReads12
import Derived.Test.YthaoiamgkpkcbaaDoorYMsgsReads17
import Derived.Test.YthaoiamgkpkcbaaDoorProg
import Derived.Below
import Derived.Deep.Draws
import Derived.Deep.AppendLies
import Derived.Maps.AppendAt
import Derived.OwnWalk
import Derived.Laws.BytesArg
import Derived.Laws.MakeOwn
import Derived.Laws.OwnMore
import Derived.Deep.OwnRows
import Derived.Tactics
import Derived.Lib.ConvBytes
import Derived.Laws.Slices
import Derived.WalkKit
import Derived.KernelRfl
import Derived.RowKit3
import Derived.Deep.LoopGhost
import Derived.Deep.QuietTactic
import Derived.BigQuiet
import Derived.WideLaws
import Derived.Deep.DeepCutAuto
import Derived.Deep.CutBlock
import Derived.Deep.RegionHeld3
import Derived.Laws.Rows
import Derived.Lib.AppendStr
import Derived.ArgAppend
import Derived.Laws.IdiomCopy
import Derived.OrdersHeld
import Derived.Laws.BitsLemmas
import Derived.RowKit
import Derived.Test.YthaoiamgkpkcbaaDoorYMsgsReads9
import Derived.Test.YthaoiamgkpkcbaaDoorYMsgsReads0
import Derived.Test.YthaoiamgkpkcbaaDoorYMsgsReads2
import Derived.Test.YthaoiamgkpkcbaaDoorYMsgsReads5
import Derived.Test.YthaoiamgkpkcbaaDoorYMsgsReads3

namespace Go.Proofs.YthaoiamgkpkcbaaDoor.QS
open Go.Proofs.YthaoiamgkpkcbaaDoor.QL
open Go.RowKit Go.Proofs.YthaoiamgkpkcbaaDoorW.PrintWords Go.Proofs.YthaoiamgkpkcbaaDoorW.PrintLast Go.Proofs.YthaoiamgkpkcbaaDoorW.PrintMore
attribute [local go_sem] max2_int min2_int max_two min_two max_three min_three max_four min_four   -- for this text's walks alone
set_option linter.unusedVariables false
set_option linter.unusedSimpArgs false
end Go.Proofs.YthaoiamgkpkcbaaDoor.QS
namespace Go.Proofs.YthaoiamgkpkcbaaDoor.Tg
open Go.ChangeShapes Go.WideShapes Go.ChangeAt Go.RowKit Go.Proofs.YthaoiamgkpkcbaaDoor.Pk Go.Proofs.YthaoiamgkpkcbaaDoor.EncC
open Go.Proofs.YthaoiamgkpkcbaaDoor.Hlp Go.Proofs.YthaoiamgkpkcbaaDoor.Wrd Go.Proofs.YthaoiamgkpkcbaaDoorW.PrintWords Go.Proofs.YthaoiamgkpkcbaaDoorW.PrintLast Go.Proofs.YthaoiamgkpkcbaaDoorW.PrintMore
set_option linter.unusedVariables false
set_option linter.unusedSimpArgs false
open Go.Proofs.YthaoiamgkpkcbaaDoor.Lex in
theorem rsame_l0 (h h' : Bool) (l m : List Int) (hlm : l.length = m.length) (hb : l.length < 9223372036854775807) : ∀ (n i : Nat), l.length - i = n → i ≤ l.length → Since (fun k => QS.icehouseref03_SameVal.l0 k (i : Int) h l h' m) (decide (l.drop i = m.drop i)) := by
  intro n
  induction n with
  | zero =>
    intro i hn hi
    rw [List.drop_eq_nil_of_le (show l.length ≤ i by omega), List.drop_eq_nil_of_le (show m.length ≤ i by omega)]
    have hf : ¬ ((i : Int) < (l.length : Int)) := by omega
    exact Since.none fun k => by simp only [QS.icehouseref03_SameVal.l0, if_neg hf]; simp
  | succ n ih =>
    intro i hn hi
    have h1 : i < l.length := by omega
    have h2 : i < m.length := by omega
    have f1 : (i : Int) < (l.length : Int) := by omega
    have f2 : (i : Int) < (m.length : Int) := by omega
    have f0 : (0 : Int) ≤ (i : Int) := by omega
    have r1 : rd l (i : Int) = l[i] := by simp [rd, h1]
    have r2 : rd m (i : Int) = m[i] := by simp [rd, h2]
    refine Since.one (ih (i + 1) (by omega) (by omega)) fun k hr => ?_
    simp only [QS.icehouseref03_SameVal.l0, if_pos f1, if_pos f0, if_pos f2, r1, r2, w_succ i (by omega)]
    have d1 := List.drop_eq_getElem_cons h1
    have d2 := List.drop_eq_getElem_cons h2
    by_cases he : l[i] = m[i]
    · rw [if_pos he, hr, d1, d2]
      congr 1
      rw [decide_eq_decide, List.cons.injEq]
      exact ⟨fun h => ⟨he, h⟩, fun h => h.2⟩
    · rw [if_neg he, d1, d2]
      congr 1
      exact (decide_eq_false (fun h => he (List.cons.inj h).1)).symm
open Go.Proofs.YthaoiamgkpkcbaaDoor.Lex in
theorem rsame_ev (h h' : Bool) (l m : List Int) (hb : l.length < 9223372036854775807) : Since (fun k => QS.icehouseref03_SameVal.f k h l h' m) (sameV h l h' m) := by
  by_cases hlm : l.length = m.length
  · refine (rsame_l0 h h' l m hlm hb _ 0 rfl (Nat.zero_le _)).map fun k hr => ?_
    rw [List.drop_zero, List.drop_zero] at hr
    unfold QS.icehouseref03_SameVal.f sameV
    have e : (l.length : Int) = (m.length : Int) := by omega
    cases h <;> cases h' <;> simp [e]
    exact hr
  · refine ⟨0, fun k _ => ?_⟩
    unfold QS.icehouseref03_SameVal.f sameV
    have e : ¬ ((l.length : Int) = (m.length : Int)) := by omega
    have e2 : l ≠ m := by rintro rfl; exact hlm rfl
    cases h <;> cases h' <;> simp [e, e2]
section
variable {w : World} {A A' : Option Addr} {n n' d d' : Nat} {v v' : List Int}
end
end Go.Proofs.YthaoiamgkpkcbaaDoor.Tg
namespace Go.Proofs.YthaoiamgkpkcbaaDoor.Ms
open Go.ChangeShapes Go.WideShapes Go.ChangeAt Go.RowKit Go.Proofs.YthaoiamgkpkcbaaDoor.Pk Go.Proofs.YthaoiamgkpkcbaaDoor.Tg Go.Proofs.YthaoiamgkpkcbaaDoor.Enc Go.Proofs.YthaoiamgkpkcbaaDoor.EncC Go.Proofs.YthaoiamgkpkcbaaDoor.EncP
open Go.Proofs.YthaoiamgkpkcbaaDoor.Hlp Go.Proofs.YthaoiamgkpkcbaaDoor.Wrd Go.Proofs.YthaoiamgkpkcbaaDoor.Lex Go.Proofs.YthaoiamgkpkcbaaDoorW.PrintWords Go.Proofs.YthaoiamgkpkcbaaDoorW.PrintLast Go.Proofs.YthaoiamgkpkcbaaDoorW.PrintMore
set_option linter.unusedVariables false
set_option linter.unusedSimpArgs false
def sameX (x y : E6) : Bool := sameE x.f0 x.f1.f0 x.f1.f1 x.f1.f2 x.f2.f0 x.f2.f1 y.f0 y.f1.f0 y.f1.f1 y.f1.f2 y.f2.f0 y.f2.f1
def sameLs : List E6 → List E6 → Bool
  | [], [] => true
  | x :: l, y :: m => sameX x y && sameLs l m
  | _, _ => false
def sameM (a b : Ms) : Bool := decide (a.kind = b.kind ∧ a.fr = b.fr ∧ a.dst = b.dst ∧ a.ep = b.ep ∧ a.op = b.op ∧ a.n = b.n ∧ a.f = b.f) && (sameX a.e b.e && (sameLs a.L b.L && (decide (a.R = b.R) && decide (a.each = b.each ∧ a.keep = b.keep))))
theorem same03_ev (x y : E6) (hb : x.f2.f1.length < 9223372036854775807) : Since (fun k => QS.icehouseref03_Same.f k x.f0 x.f1.f0 x.f1.f1 x.f1.f2 x.f2.f0 x.f2.f1 y.f0 y.f1.f0 y.f1.f1 y.f1.f2 y.f2.f0 y.f2.f1) (sameX x y) := by
  refine (rsame_ev x.f2.f0 y.f2.f0 x.f2.f1 y.f2.f1 hb).map fun k hk => ?_
  unfold QS.icehouseref03_Same.f sameX sameE
  by_cases h0 : x.f0.toList = y.f0.toList
  · rw [if_pos h0, if_pos h0]
    by_cases h1 : (x.f1.f0 == y.f1.f0 && (x.f1.f1 == y.f1.f1 && (x.f1.f2 == y.f1.f2))) = true
    · rw [if_pos h1, if_pos h1, hk]; rfl
    · rw [if_neg h1, if_neg h1]
  · rw [if_neg h0, if_neg h0]
theorem rdS {l : List E6} {i : Nat} (h : i < l.length) : QL.rd_T28 l (i : Int) = l[i] := rd_E h
theorem all_l0 (l m : List E6) (hlm : l.length = m.length) (hb : l.length < 9223372036854775807) (hx : ∀ x ∈ l, x.f2.f1.length < 9223372036854775807) : ∀ (d i : Nat), l.length - i = d → i ≤ l.length → Since (fun k => QS.icehouseref03_SameAll.l0 k l m (i : Int)) (sameLs (l.drop i) (m.drop i)) := by
  intro d
  induction d with
  | zero =>
    intro i hd hi
    rw [List.drop_eq_nil_of_le (show l.length ≤ i by omega), List.drop_eq_nil_of_le (show m.length ≤ i by omega)]
    refine Since.none fun k => ?_
    simp only [QS.icehouseref03_SameAll.l0]
    rw [if_neg (by omega)]
    rfl
  | succ d ih =>
    intro i hd hi
    have h1 : i < l.length := by omega
    have h2 : i < m.length := by omega
    have hw : wrap64 ((i : Int) + 1) = ((i + 1 : Nat) : Int) := by unfold wrap64; omega
    rw [List.drop_eq_getElem_cons h1, List.drop_eq_getElem_cons h2]
    show Since _ (sameX l[i] m[i] && sameLs (l.drop (i + 1)) (m.drop (i + 1)))
    refine Since.two (same03_ev l[i] m[i] (hx _ (List.getElem_mem h1))) (ih (i + 1) (by omega) (by omega)) fun k ha hb => ?_
    simp only [QS.icehouseref03_SameAll.l0]
    rw [if_pos (by omega), if_pos (by omega), if_pos (by omega), rdS h1, rdS h2, ha, Option.bind_some, hw]
    cases sameX l[i] m[i]
    · rfl
    · rw [if_pos rfl, hb]; rfl
theorem sameLs_ne : ∀ {l m : List E6}, l.length ≠ m.length → sameLs l m = false
  | [], [], h => absurd rfl h
  | x :: l, y :: m, h => by
    unfold sameLs
    rw [sameLs_ne (l := l) (m := m) (fun e => h (by rw [List.length_cons, List.length_cons, e])), Bool.and_false]
  | [], y :: m, _ => rfl
  | x :: l, [], _ => rfl
theorem all_ev (l m : List E6) (hb : l.length < 9223372036854775807) (hx : ∀ x ∈ l, x.f2.f1.length < 9223372036854775807) : Since (fun k => QS.icehouseref03_SameAll.f k l m) (sameLs l m) := by
  by_cases h : l.length = m.length
  · refine (all_l0 l m h hb hx _ 0 rfl (Nat.zero_le _)).map fun k hk => ?_
    unfold QS.icehouseref03_SameAll.f
    rw [if_pos (by omega)]
    exact hk
  · rw [sameLs_ne h]
    refine ⟨0, fun k _ => ?_⟩
    show QS.icehouseref03_SameAll.f k l m = some false
    unfold QS.icehouseref03_SameAll.f
    rw [if_neg (by omega)]
theorem ints_l0 (l m : List Int) (hlm : l.length = m.length) (hb : l.length < 9223372036854775807) : ∀ (d i : Nat), l.length - i = d → i ≤ l.length → Since (fun k => QS.icehouseref00_SameInts.l0 k l m (i : Int)) (decide (l.drop i = m.drop i)) := by
  intro d
  induction d with
  | zero =>
    intro i hd hi
    rw [List.drop_eq_nil_of_le (show l.length ≤ i by omega), List.drop_eq_nil_of_le (show m.length ≤ i by omega)]
    refine Since.none fun k => ?_
    simp only [QS.icehouseref00_SameInts.l0]
    rw [if_neg (by omega)]
    rfl
  | succ d ih =>
    intro i hd hi
    have h1 : i < l.length := by omega
    have h2 : i < m.length := by omega
    have hw : wrap64 ((i : Int) + 1) = ((i + 1 : Nat) : Int) := by unfold wrap64; omega
    have r1 : rd l (i : Int) = l[i] := by simp [rd, h1]
    have r2 : rd m (i : Int) = m[i] := by simp [rd, h2]
    rw [List.drop_eq_getElem_cons h1, List.drop_eq_getElem_cons h2]
    by_cases hx : l[i] = m[i]
    · have hd2 : decide (l[i] :: l.drop (i + 1) = m[i] :: m.drop (i + 1)) = decide (l.drop (i + 1) = m.drop (i + 1)) := by
        rw [hx]; exact decide_eq_decide.2 ⟨fun h => by injection h, fun h => by rw [h]⟩
      rw [hd2]
      refine Since.one (ih (i + 1) (by omega) (by omega)) fun k hk => ?_
      simp only [QS.icehouseref00_SameInts.l0]
      rw [if_pos (by omega), if_pos (by omega), if_pos (by omega), r1, r2, if_pos hx, hw]
      exact hk
    · rw [decide_eq_false (fun h => hx (by injection h))]
      refine Since.none fun k => ?_
      simp only [QS.icehouseref00_SameInts.l0]
      rw [if_pos (by omega), if_pos (by omega), if_pos (by omega), r1, r2, if_neg hx]
theorem ints_ev (l m : List Int) (hb : l.length < 9223372036854775807) : Since (fun k => QS.icehouseref00_SameInts.f k l m) (decide (l = m)) := by
  by_cases h : l.length = m.length
  · refine (ints_l0 l m h hb _ 0 rfl (Nat.zero_le _)).map fun k hk => ?_
    unfold QS.icehouseref00_SameInts.f
    rw [if_pos (by omega)]
    exact hk
  · rw [decide_eq_false (fun e => h (by rw [e]))]
    refine ⟨0, fun k _ => ?_⟩
    show QS.icehouseref00_SameInts.f k l m = some false
    unfold QS.icehouseref00_SameInts.f
    rw [if_neg (by omega)]
theorem ring_same_ev (a b : Ms) (hb : a.R.length < 9223372036854775807) : Since (fun k => QS.icehouseref09_Same.f k a.R a.each a.keep b.R b.each b.keep) (decide (a.R = b.R) && decide (a.each = b.each ∧ a.keep = b.keep)) := by
  refine (ints_ev a.R b.R hb).map fun k hk => ?_
  unfold QS.icehouseref09_Same.f
  rw [hk, Option.bind_some]
  by_cases h1 : a.R = b.R
  · rw [decide_eq_true h1, if_pos rfl, Bool.true_and]
    by_cases h2 : a.each = b.each
    · rw [if_pos h2]
      congr 1
      by_cases h3 : a.keep = b.keep <;> simp [h2, h3]
    · rw [if_neg h2, decide_eq_false (fun h => h2 h.1)]
  · rw [decide_eq_false h1, if_neg (by decide)]; rfl
theorem sameM_no {a b : Ms} (h : ¬ (a.kind = b.kind ∧ a.fr = b.fr ∧ a.dst = b.dst ∧ a.ep = b.ep ∧ a.op = b.op ∧ a.n = b.n ∧ a.f = b.f)) : sameM a b = false := by
  unfold sameM
  rw [decide_eq_false h]; rfl
theorem sameM_yes {a b : Ms} (h : a.kind = b.kind ∧ a.fr = b.fr ∧ a.dst = b.dst ∧ a.ep = b.ep ∧ a.op = b.op ∧ a.n = b.n ∧ a.f = b.f) : sameM a b = (sameX a.e b.e && (sameLs a.L b.L && (decide (a.R = b.R) && decide (a.each = b.each ∧ a.keep = b.keep)))) := by
  unfold sameM
  rw [decide_eq_true h]; rfl
theorem same_ev (a b : Ms) (hv : a.e.f2.f1.length < 9223372036854775807) (hl : a.L.length < 9223372036854775807) (hx : ∀ x ∈ a.L, x.f2.f1.length < 9223372036854775807) (hr : a.R.length < 9223372036854775807) :
    ∃ K, QS.icehouseref12_Same.f K a.kind a.fr a.dst a.ep a.op a.n a.f a.e.f0 a.e.f1.f0 a.e.f1.f1 a.e.f1.f2 a.e.f2.f0 a.e.f2.f1 a.L a.R a.each a.keep b.kind b.fr b.dst b.ep b.op b.n b.f b.e.f0 b.e.f1.f0 b.e.f1.f1 b.e.f1.f2 b.e.f2.f0 b.e.f2.f1 b.L b.R b.each b.keep = some (sameM a b) := by
  obtain ⟨K1, h1⟩ := same03_ev a.e b.e hv
  obtain ⟨K2, h2⟩ := all_ev a.L b.L hl hx
  obtain ⟨K3, h3⟩ := ring_same_ev a b hr
  have e1 := h1 (K1 + K2 + K3) (by omega)
  have e2 := h2 (K1 + K2 + K3) (by omega)
  have e3 := h3 (K1 + K2 + K3) (by omega)
  dsimp only at e1 e2 e3
  refine ⟨K1 + K2 + K3 + 1, ?_⟩
  have hj : ∀ c, QS.icehouseref12_Same.j0 (K1 + K2 + K3 + 1) c a.kind a.fr a.dst a.ep a.op a.n a.f a.e.f0 a.e.f1.f0 a.e.f1.f1 a.e.f1.f2 a.e.f2.f0 a.e.f2.f1 a.L a.R a.each a.keep b.kind b.fr b.dst b.ep b.op b.n b.f b.e.f0 b.e.f1.f0 b.e.f1.f1 b.e.f1.f2 b.e.f2.f0 b.e.f2.f1 b.L b.R b.each b.keep = some (!c && (sameX a.e b.e && (sameLs a.L b.L && (decide (a.R = b.R) && decide (a.each = b.each ∧ a.keep = b.keep))))) := by
    intro c
    cases c
    · simp only [QS.icehouseref12_Same.j0]
      rw [if_neg (by decide), e1, Option.bind_some]
      cases sameX a.e b.e
      · rfl
      · rw [if_pos rfl, e2, Option.bind_some]
        cases sameLs a.L b.L
        · rfl
        · rw [if_pos rfl, e3]; rfl
    · simp only [QS.icehouseref12_Same.j0]; rfl
  unfold QS.icehouseref12_Same.f
  by_cases g1 : a.kind = b.kind
  · by_cases g2 : a.fr = b.fr
    · by_cases g3 : a.dst = b.dst
      · by_cases g4 : a.ep = b.ep
        · by_cases g5 : a.op = b.op
          · by_cases g6 : a.n = b.n
            · rw [if_pos g1, if_pos g2, if_pos g3, if_pos g4, if_pos g5, if_pos g6, hj]
              by_cases g7 : a.f = b.f
              · rw [sameM_yes ⟨g1, g2, g3, g4, g5, g6, g7⟩]; simp [g7]
              · rw [sameM_no (fun h => g7 h.2.2.2.2.2.2)]; simp [g7]
            · rw [if_pos g1, if_pos g2, if_pos g3, if_pos g4, if_pos g5, if_neg g6, hj, sameM_no (fun h => g6 h.2.2.2.2.2.1)]; rfl
          · rw [if_pos g1, if_pos g2, if_pos g3, if_pos g4, if_neg g5, hj, sameM_no (fun h => g5 h.2.2.2.2.1)]; rfl
        · rw [if_pos g1, if_pos g2, if_pos g3, if_neg g4, hj, sameM_no (fun h => g4 h.2.2.2.1)]; rfl
      · rw [if_pos g1, if_pos g2, if_neg g3, hj, sameM_no (fun h => g3 h.2.2.1)]; rfl
    · rw [if_pos g1, if_neg g2, hj, sameM_no (fun h => g2 h.2.1)]; rfl
  · rw [if_neg g1, hj, sameM_no (fun h => g1 h.1)]; rfl
theorem rsame_c {w : World} {a b : Ms} {p q : Pl} {r : Bool} (hr : sameM a b = r) (ha : Lies w a p) (hb : Lies w b q) (hv : a.e.f2.f1.length < 9223372036854775807) (hl : a.L.length < 9223372036854775807) (hx : ∀ x ∈ a.L, x.f2.f1.length < 9223372036854775807) (hR : a.R.length < 9223372036854775807) :
    Calls Tryd.prog 19 #[.agg (a.val p), .agg (b.val q)] w fun e w' => e = .returned (.bool r) ∧ Below w.heap.size w w' := by
  obtain ⟨K, hK⟩ := same_ev a b hv hl hx hR
  subst hr
  exact QS.icehouseref12_Same.calls K a.kind a.fr a.dst a.ep a.op a.n a.f a.e.f0 a.e.f1.f0 a.e.f1.f1 a.e.f1.f2 a.e.f2.f0 p.vA p.vc a.e.f2.f1 p.lA p.lc a.L p.rA p.rc a.R a.each a.keep b.kind b.fr b.dst b.ep b.op b.n b.f b.e.f0 b.e.f1.f0 b.e.f1.f1 b.e.f1.f2 b.e.f2.f0 q.vA q.vc b.e.f2.f1 q.lA q.lc b.L q.rA q.rc b.R b.each b.keep _ w ha.v ha.vc ha.l ha.lc ha.r ha.rc hb.v hb.vc hb.l hb.lc hb.r hb.rc hK
end Go.Proofs.YthaoiamgkpkcbaaDoor.Ms
namespace Go.Proofs.YthaoiamgkpkcbaaDoor.QK
open Go.RowKit Go.Proofs.YthaoiamgkpkcbaaDoorW.PrintWords Go.Proofs.YthaoiamgkpkcbaaDoorW.PrintLast Go.Proofs.YthaoiamgkpkcbaaDoorW.PrintMore
attribute [local go_sem] max2_int min2_int max_two min_two max_three min_three max_four min_four   -- for this text's walks alone
set_option linter.unusedVariables false
set_option linter.unusedSimpArgs false
def errW : Option Int → Value
  | none => .nilIface
  | some c => .iface 0 (.int .i64 c)
theorem errW_none : errW none = .nilIface := rfl
theorem errW_some (c : Int) : errW (some c) = .iface 0 (.int .i64 c) := rfl

-- the values' own types
end Go.Proofs.YthaoiamgkpkcbaaDoor.QK
