/- Written by a program of this session over the kit's print: functions and their contracts. · Written by a program of this session over the kit's print: functions and their contracts. · Written by a program of this session over the kit's print: functions and their contracts. · What the reference's functions of layer 10 come to (over the print QA). · For every list, nodes and number the law QuorumEnough comes to true, plain. No condition. · Plain: of a ring that may be, what quorum.Covers and quorum.Lost come to, and the reference's. Conditions: a ring that may be. · Written by a program of this session over the kit's print: functions and their contracts. · Written by a program of this session over the kit's print: functions and their contracts. · Written by a program of this session over the kit's print: functions and their contracts. · What a law's arguments read as: kinds (Kd) for every type that the laws take (numbers, bools, strings, slices, structs), with the sizes that the row's weights give. Conditions: none beyond the types' own. · What an argument that is a ring reads as. · The statement QuorumOne: of a ring one more that answers covers no less, one more that is dead loses no less; all nodes cover it, none does not. Plain, over the printed law. Conditions: none. -/
import Derived.Test.YteocngcojijnkaaProg
import Derived.Below
import Derived.Deep.Draws
import Derived.Deep.AppendLies
import Derived.Maps.AppendAt
import Derived.OwnWalk
import Derived.Laws.BytesArg
import Derived.Laws.MakeOwn
import Derived.Laws.OwnMore
import Derived.Deep.OwnRows
import Derived.Tactics
import Derived.Lib.ConvBytes
import Derived.Laws.Slices
import Derived.WalkKit
import Derived.KernelRfl
import Derived.RowKit3
import Derived.Deep.LoopGhost
import Derived.Deep.QuietTactic
import Derived.BigQuiet
import Derived.WideLaws
import Derived.Deep.DeepCutAuto
import Derived.Deep.CutBlock
import Derived.Deep.RegionHeld3
import Derived.Laws.Rows
import Derived.Lib.AppendStr
import Derived.ArgAppend
import Derived.Laws.IdiomCopy
import Derived.OrdersHeld
import Derived.Laws.BitsLemmas
import Derived.RowKit
import Derived.Test.YteocngcojijnkaaYQuorumOne1
import Derived.Test.YteocngcojijnkaaYQuorumOne2
import Derived.Test.YteocngcojijnkaaYQuorumOne0
import Derived.SizedLaws
import Derived.ChangeSlices
import Derived.ChangeArms
import Derived.WideShapes
import Derived.Test.YteocngcojijnkaaRows

namespace Go.Proofs.Yteocngcojijnkaa.QV
open Go.RowKit Go.Proofs.YteocngcojijnkaaW.PrintWords Go.Proofs.YteocngcojijnkaaW.PrintLast Go.Proofs.YteocngcojijnkaaW.PrintMore
attribute [local go_sem] max2_int min2_int max_two min_two max_three min_three max_four min_four   -- for this text's walks alone
set_option linter.unusedVariables false
set_option linter.unusedSimpArgs false
def errW : Option Int → Value
  | none => .nilIface
  | some c => .iface 0 (.int .i64 c)
theorem errW_none : errW none = .nilIface := rfl
theorem errW_some (c : Int) : errW (some c) = .iface 0 (.int .i64 c) := rfl
theorem info3 : (Try.prog.info? 3).map (fun i => (i.zero, i.size, i.bytes)) = some (some (.int .i64 0), 1, 8) := by kernel_rfl
-- the values' own types
def rd_L1 (xs : List (List Int)) (i : Int) : (List Int) := xs.getD i.toNat ([] : List Int)
end Go.Proofs.Yteocngcojijnkaa.QV
namespace Go.Proofs.Yteocngcojijnkaa.QV
open Go.RowKit Go.Proofs.YteocngcojijnkaaW.PrintWords Go.Proofs.YteocngcojijnkaaW.PrintLast Go.Proofs.YteocngcojijnkaaW.PrintMore
attribute [local go_sem] max2_int min2_int max_two min_two max_three min_three max_four min_four   -- for this text's walks alone
set_option linter.unusedVariables false
set_option linter.unusedSimpArgs false
/-! ### icehouseref10_Covers: function 29 -/
def icehouseref10_Covers.l0 : Nat → List Int → List (List Int) → Int → Option (Bool)
  | 0, _, _, _ => none
  | k + 1, x1, x5, x6 => if x6 < (x5.length : Int) then (if 0 ≤ x6 then ((QA.icehouseref10_Enough.f k (rd_L1 x5 x6) x1).bind fun t106 => (if t106 = true then (icehouseref10_Covers.l0 k x1 x5 (wrap64 (x6 + 1))) else (some false))) else (none)) else (some true)
theorem icehouseref10_Covers.mono_l : ∀ k, (∀ y0 y1 y2, LeO (icehouseref10_Covers.l0 k y0 y1 y2) (icehouseref10_Covers.l0 (k + 1) y0 y1 y2))
  | 0 => fun _ _ _ r h => by simp [icehouseref10_Covers.l0] at h
  | k + 1 => by
    have ih0 := icehouseref10_Covers.mono_l k
    · intro y0 y1 y2
      unfold icehouseref10_Covers.l0
      repeat' first
      | (with_reducible exact ih0 _ _ _)
      | (with_reducible exact QA.icehouseref10_Enough.mono _ _ _)
      | (with_reducible exact QH.icehouseref09_Lists.mono _ _ _ _)
      | (with_reducible exact LeO.refl _)
      | (with_reducible exact LeO.none _)
      | (with_reducible refine LeO.ite ?_ ?_)
      | (with_reducible refine LeO.bind ?_ (fun _ => ?_))
      | exact ih0 _ _ _
      | exact QA.icehouseref10_Enough.mono _ _ _
      | exact QH.icehouseref09_Lists.mono _ _ _ _
      | exact LeO.none _
      | refine LeO.ite ?_ ?_
      | refine LeO.bind ?_ (fun _ => ?_)
/-! ### icehouseref10_Lost: function 30 -/
mutual
def icehouseref10_Lost.l0 : Nat → List Int → List Int → Int → List Int → Int → Int → Option (List Int)
  | 0, _, _, _, _, _, _ => none
  | k + 1, x1, x5, x6, x108000, x108001, x108002 => if x6 < (x108000.length : Int) then (if 0 ≤ x6 then ((QA.icehouseref09_Has.f k x1 (rd x108000 x6)).bind fun t109 => (if t109 = true then (icehouseref10_Lost.l0 k x1 x5 (wrap64 (x6 + 1)) x108000 x108001 x108002) else (if x5.length < 17592186044416 then (icehouseref10_Lost.l0 k x1 (x5 ++ [rd x108000 x6]) (wrap64 (x6 + 1)) x108000 x108001 x108002) else (none)))) else (none)) else ((QH.icehouseref09_Lists.f k x108000 x108001 x108002).bind fun t114 => (icehouseref10_Lost.l1 k x5 t114 ([] : List Int) 0))
def icehouseref10_Lost.l1 : Nat → List Int → List (List Int) → List Int → Int → Option (List Int)
  | 0, _, _, _, _ => none
  | k + 1, x5, x7, x8, x9 => if x9 < (x7.length : Int) then (if 0 ≤ x9 then ((QA.icehouseref10_Enough.f k (rd_L1 x7 x9) x5).bind fun t118 => (if t118 = true then (icehouseref10_Lost.l1 k x5 x7 x8 (wrap64 (x9 + 1))) else (if x8.length < 17592186044416 then (icehouseref10_Lost.l1 k x5 x7 (x8 ++ [x9]) (wrap64 (x9 + 1))) else (none)))) else (none)) else (some x8)
end
theorem icehouseref10_Lost.mono_l : ∀ k, (∀ y0 y1 y2 y3 y4 y5, LeO (icehouseref10_Lost.l0 k y0 y1 y2 y3 y4 y5) (icehouseref10_Lost.l0 (k + 1) y0 y1 y2 y3 y4 y5)) ∧ (∀ y0 y1 y2 y3, LeO (icehouseref10_Lost.l1 k y0 y1 y2 y3) (icehouseref10_Lost.l1 (k + 1) y0 y1 y2 y3))
  | 0 => ⟨fun _ _ _ _ _ _ r h => by simp [icehouseref10_Lost.l0] at h, fun _ _ _ _ r h => by simp [icehouseref10_Lost.l1] at h⟩
  | k + 1 => by
    obtain ⟨ih0, ih1⟩ := icehouseref10_Lost.mono_l k
    refine ⟨?_, ?_⟩
    · intro y0 y1 y2 y3 y4 y5
      unfold icehouseref10_Lost.l0
      repeat' first
      | (with_reducible exact ih0 _ _ _ _ _ _)
      | (with_reducible exact ih1 _ _ _ _)
      | (with_reducible exact QA.icehouseref09_Has.mono _ _ _)
      | (with_reducible exact QA.icehouseref10_Enough.mono _ _ _)
      | (with_reducible exact QH.icehouseref09_Lists.mono _ _ _ _)
      | (with_reducible exact LeO.refl _)
      | (with_reducible exact LeO.none _)
      | (with_reducible refine LeO.ite ?_ ?_)
      | (with_reducible refine LeO.bind ?_ (fun _ => ?_))
      | exact ih0 _ _ _ _ _ _
      | exact ih1 _ _ _ _
      | exact QA.icehouseref09_Has.mono _ _ _
      | exact QA.icehouseref10_Enough.mono _ _ _
      | exact QH.icehouseref09_Lists.mono _ _ _ _
      | exact LeO.none _
      | refine LeO.ite ?_ ?_
      | refine LeO.bind ?_ (fun _ => ?_)
    · intro y0 y1 y2 y3
      unfold icehouseref10_Lost.l1
      repeat' first
      | (with_reducible exact ih0 _ _ _ _ _ _)
      | (with_reducible exact ih1 _ _ _ _)
      | (with_reducible exact QA.icehouseref09_Has.mono _ _ _)
      | (with_reducible exact QA.icehouseref10_Enough.mono _ _ _)
      | (with_reducible exact QH.icehouseref09_Lists.mono _ _ _ _)
      | (with_reducible exact LeO.refl _)
      | (with_reducible exact LeO.none _)
      | (with_reducible refine LeO.ite ?_ ?_)
      | (with_reducible refine LeO.bind ?_ (fun _ => ?_))
      | exact ih0 _ _ _ _ _ _
      | exact ih1 _ _ _ _
      | exact QA.icehouseref09_Has.mono _ _ _
      | exact QA.icehouseref10_Enough.mono _ _ _
      | exact QH.icehouseref09_Lists.mono _ _ _ _
      | exact LeO.none _
      | refine LeO.ite ?_ ?_
      | refine LeO.bind ?_ (fun _ => ?_)
end Go.Proofs.Yteocngcojijnkaa.QV
namespace Go.Proofs.Yteocngcojijnkaa.QV
open Go.RowKit Go.Proofs.YteocngcojijnkaaW.PrintWords Go.Proofs.YteocngcojijnkaaW.PrintLast Go.Proofs.YteocngcojijnkaaW.PrintMore
attribute [local go_sem] max2_int min2_int max_two min_two max_three min_three max_four min_four   -- for this text's walks alone
set_option linter.unusedVariables false
set_option linter.unusedSimpArgs false
end Go.Proofs.Yteocngcojijnkaa.QV
namespace Go.Proofs.Yteocngcojijnkaa.QlQA
open Go.RowKit Go.Proofs.Yteocngcojijnkaa.QA Go.Proofs.Yteocngcojijnkaa.Lex Go.Proofs.Yteocngcojijnkaa.Cm Go.Proofs.Yteocngcojijnkaa.Ql
open Go.Proofs.YteocngcojijnkaaW.PrintWords
set_option linter.unusedVariables false
theorem has_l0 (l : List Int) (x : Int) (hl : l.length ≤ 9223372036854775807) : ∀ (n i : Nat), l.length - i = n → i ≤ l.length →
    Since (fun k => icehouseref09_Has.l0 k l x (i : Int)) (decide (x ∈ l.drop i)) := by
  intro n
  induction n with
  | zero =>
    intro i hn hi
    have hf : ¬ ((i : Int) < (l.length : Int)) := by omega
    refine Since.none fun k => ?_
    simp only [icehouseref09_Has.l0, if_neg hf]
    rw [List.drop_eq_nil_of_le (by omega)]; simp
  | succ n ih =>
    intro i hn hi
    have h1 : i < l.length := by omega
    have f1 : (i : Int) < (l.length : Int) := by omega
    have f0 : (0 : Int) ≤ (i : Int) := by omega
    have r1 : rd l (i : Int) = l[i] := by simp [rd, h1]
    have d := List.drop_eq_getElem_cons h1
    by_cases he : l[i] = x
    · refine Since.none fun k => ?_
      simp only [icehouseref09_Has.l0, if_pos f1, if_pos f0, r1, if_pos he]
      rw [d]; simp [he]
    · refine Since.one (ih (i + 1) (by omega) (by omega)) fun k h => ?_
      simp only [icehouseref09_Has.l0, if_pos f1, if_pos f0, r1, if_neg he, w_succ i (by omega)]
      rw [h, d]
      congr 1
      exact decide_eq_decide.2 (by rw [List.mem_cons]; constructor; exact .inr; rintro (h | h); exact absurd h.symm he; exact h)
theorem has_ev (l : List Int) (x : Int) (hl : l.length ≤ 9223372036854775807) : Since (fun k => icehouseref09_Has.f k l x) (decide (x ∈ l)) := by
  have := has_l0 l x hl _ 0 rfl (Nat.zero_le _)
  rw [List.drop_zero] at this
  exact this
theorem since_three {α α' α'' β : Type} {f : Nat → Option α} {r : α} {g : Nat → Option α'} {r' : α'} {g' : Nat → Option α''} {r'' : α''} {F : Nat → Option β} {q : β} (h : Since f r) (h' : Since g r') (h'' : Since g' r'') (hF : ∀ k, f k = some r → g k = some r' → g' k = some r'' → F (k + 1) = some q) : Since F q := by
  obtain ⟨K, h⟩ := h
  obtain ⟨K', h'⟩ := h'
  obtain ⟨K'', h''⟩ := h''
  refine ⟨K + K' + K'' + 1, fun k hk => ?_⟩
  obtain ⟨k, rfl⟩ : ∃ j, k = j + 1 := ⟨k - 1, by omega⟩
  exact hF k (h k (by omega)) (h' k (by omega)) (h'' k (by omega))
theorem rcom_l0 (l b : List Int) (hl : l.length < 17592186044416) (hb : b.length < 17592186044416) : ∀ (n i : Nat) (out : List Int), l.length - i = n → i ≤ l.length → out.length ≤ i →
    Since (fun k => icehouseref10_Common.l0 k l b out (i : Int)) (cm b out (l.drop i)) := by
  intro n
  induction n with
  | zero =>
    intro i out hn hi ho
    have hf : ¬ ((i : Int) < (l.length : Int)) := by omega
    refine Since.none fun k => ?_
    simp only [icehouseref10_Common.l0, if_neg hf]
    rw [List.drop_eq_nil_of_le (by omega)]; rfl
  | succ n ih =>
    intro i out hn hi ho
    have h1 : i < l.length := by omega
    have f1 : (i : Int) < (l.length : Int) := by omega
    have f0 : (0 : Int) ≤ (i : Int) := by omega
    have r1 : rd l (i : Int) = l[i] := by simp [rd, h1]
    have d := List.drop_eq_getElem_cons h1
    have hc := has_ev b l[i] (by omega)
    have hc2 := has_ev out l[i] (by omega)
    have hr1 := ih (i + 1) out (by omega) (by omega) (by omega)
    have hr2 := ih (i + 1) (out ++ [l[i]]) (by omega) (by omega) (by simp; omega)
    rw [d, cm]
    by_cases hb : l[i] ∈ b
    · rw [if_pos hb]
      by_cases he : l[i] ∈ out
      · rw [if_pos he]
        refine since_three hc hc2 hr1 fun k h1 h2 h3 => ?_
        simp only [icehouseref10_Common.l0, if_pos f1, if_pos f0, r1]
        rw [h1, Option.bind_some, if_pos (decide_eq_true hb), h2, Option.bind_some, if_pos (decide_eq_true he), w_succ i (by omega)]
        exact h3
      · rw [if_neg he]
        refine since_three hc hc2 hr2 fun k h1 h2 h3 => ?_
        simp only [icehouseref10_Common.l0, if_pos f1, if_pos f0, r1]
        rw [h1, Option.bind_some, if_pos (decide_eq_true hb), h2, Option.bind_some, if_neg (by simp [he]), if_pos (by omega), w_succ i (by omega)]
        exact h3
    · rw [if_neg hb]
      refine Since.two hc hr1 fun k h1 h3 => ?_
      simp only [icehouseref10_Common.l0, if_pos f1, if_pos f0, r1]
      rw [h1, Option.bind_some, if_neg (by simp [hb]), w_succ i (by omega)]
      exact h3
theorem rcom_ev (l b : List Int) (hl : l.length < 17592186044416) (hb : b.length < 17592186044416) : Since (fun k => icehouseref10_Common.f k l b) (com l b) := rcom_l0 l b hl hb _ 0 [] rfl (Nat.zero_le _) (Nat.le_refl _)
end Go.Proofs.Yteocngcojijnkaa.QlQA
namespace Go.Proofs.Yteocngcojijnkaa.Pure
open Go.RowKit Go.Proofs.Yteocngcojijnkaa.QA Go.Proofs.YteocngcojijnkaaW.PrintWords Go.Proofs.YteocngcojijnkaaW.PrintLast
open Go.Proofs.Yteocngcojijnkaa.Lex Go.Proofs.Yteocngcojijnkaa.Cm Go.Proofs.Yteocngcojijnkaa.Ql Go.Proofs.Yteocngcojijnkaa.QlQA
set_option linter.unusedVariables false
theorem renough_ev (l g : List Int) (hl : l.length < 17592186044416) (hg : g.length < 17592186044416) : Since (fun k => icehouseref10_Enough.f k l g) (enough l g) := by
  refine (rcom_ev l l hl hl).and (rcom_ev l g hl hg) fun k h1 h2 => ?_
  have hlen := once_len l
  have hlen2 := com_len l g
  rw [icehouseref10_Enough.f, h1, Option.bind_some, h2, Option.bind_some, com_self]
  unfold enough
  by_cases h0 : 0 < (once l).length
  · rw [if_pos (by omega), decide_eq_true h0, Bool.true_and]
    have hw : wrap64 (2 * ((com l g).length : Int)) = 2 * ((com l g).length : Int) := by unfold wrap64; omega
    rw [hw]
    congr 1
    exact decide_eq_decide.2 (by omega)
  · rw [if_neg (by omega), decide_eq_false h0, Bool.false_and]
theorem same_l0 (l : List Int) (hl : l.length ≤ 9223372036854775807) : ∀ (n i : Nat), l.length - i = n → i ≤ l.length → Since (fun k => icehouseref00_SameInts.l0 k l l (i : Int)) true := by
  intro n
  induction n with
  | zero =>
    intro i hn hi
    have hf : ¬ ((i : Int) < (l.length : Int)) := by omega
    refine Since.none fun k => ?_
    simp only [icehouseref00_SameInts.l0, if_neg hf]
  | succ n ih =>
    intro i hn hi
    have f1 : (i : Int) < (l.length : Int) := by omega
    have f0 : (0 : Int) ≤ (i : Int) := by omega
    refine Since.one (ih (i + 1) (by omega) (by omega)) fun k h => ?_
    simp only [icehouseref00_SameInts.l0, if_pos f1, if_pos f0, if_true, w_succ i (by omega)]
    exact h
theorem same_ev (l : List Int) (hl : l.length ≤ 9223372036854775807) : Since (fun k => icehouseref00_SameInts.f k l l) true := by
  refine (same_l0 l hl _ 0 rfl (Nat.zero_le _)).map fun k h => ?_
  rw [icehouseref00_SameInts.f, if_pos rfl]
  exact h
end Go.Proofs.Yteocngcojijnkaa.Pure
namespace Go.Proofs.Yteocngcojijnkaa.Cv
open Go.RowKit Go.Proofs.Yteocngcojijnkaa.Lex Go.Proofs.Yteocngcojijnkaa.Ql
open Go.Proofs.Yteocngcojijnkaa.Cm (w_succ)
open Go.Proofs.Yteocngcojijnkaa.QlQA (has_ev)
open Go.Proofs.Yteocngcojijnkaa.Pure (renough_ev same_ev)
open Go.Proofs.Yteocngcojijnkaa.Hs (okB okB_len listsP lists_ok lists_out rlists_ev check_ev chk keepR keepR_len rawP_small)
open Go.Proofs.YteocngcojijnkaaW.PrintWords Go.Proofs.YteocngcojijnkaaW.PrintLast Go.Proofs.YteocngcojijnkaaW.PrintMore
set_option linter.unusedVariables false
set_option linter.unusedSimpArgs false
theorem lp_len {l : List Int} {each keep : Int} (ho : okB l each keep = true) : ∀ x ∈ listsP l each keep, x.length = keep.toNat := by
  obtain ⟨k0, k1, k2, k3, k4, k5, _⟩ := okB_len ho
  intro x hx
  unfold listsP at hx
  obtain ⟨p, _, rfl⟩ := List.mem_map.1 hx
  exact keepR_len ho _ _ (by omega)
theorem lp_lt {l : List Int} {each keep : Int} (ho : okB l each keep = true) : ∀ x ∈ listsP l each keep, x.length < 17592186044416 := by
  obtain ⟨k0, k1, k2, k3, k4, k5, _⟩ := okB_len ho
  intro x hx
  rw [lp_len ho x hx]
  omega
theorem lp_small {l : List Int} {each keep : Int} (ho : okB l each keep = true) : (listsP l each keep).length ≤ 4096 := by
  unfold listsP
  rw [List.length_map]
  exact rawP_small ho
theorem covers_ok {l : List Int} {each keep : Int} (ho : okB l each keep = true) (got : List Int) : Since (fun k => covers.f k l each keep got) (cov (listsP l each keep) got, 0) := by
  refine (lists_ok ho).map fun k hk => ?_
  unfold covers.f
  rw [hk]
  exact (if_pos (lp_lt ho)).trans rfl
theorem lost_ok {l : List Int} {each keep : Int} (ho : okB l each keep = true) (got : List Int) : Since (fun k => lost.f k l each keep got) (lost (listsP l each keep) (Ld.keep got l), 0) := by
  obtain ⟨k0, k1, k2, k3, k4, k5, _⟩ := okB_len ho
  have hs := lp_small ho
  refine (lists_ok ho).map fun k hk => ?_
  unfold lost.f
  rw [hk]
  exact (if_pos ⟨lp_lt ho, by show (listsP l each keep).length ≤ _; omega, by omega⟩).trans rfl
theorem mem_keep {got l : List Int} {x : Int} : x ∈ Ld.keep got l ↔ x ∈ l ∧ x ∉ got := by
  unfold Ld.keep
  rw [List.mem_filter, decide_eq_true_iff]
  rfl
/-! the reference's -/
end Go.Proofs.Yteocngcojijnkaa.Cv
namespace Go.Proofs.Yteocngcojijnkaa.QI
open Go.RowKit Go.Proofs.YteocngcojijnkaaW.PrintWords Go.Proofs.YteocngcojijnkaaW.PrintLast Go.Proofs.YteocngcojijnkaaW.PrintMore
attribute [local go_sem] max2_int min2_int max_two min_two max_three min_three max_four min_four   -- for this text's walks alone
set_option linter.unusedVariables false
set_option linter.unusedSimpArgs false
def errW : Option Int → Value
  | none => .nilIface
  | some c => .iface 0 (.int .i64 c)
theorem errW_none : errW none = .nilIface := rfl
theorem errW_some (c : Int) : errW (some c) = .iface 0 (.int .i64 c) := rfl
theorem info3 : (Try.prog.info? 3).map (fun i => (i.zero, i.size, i.bytes)) = some (some (.int .i64 0), 1, 8) := by kernel_rfl
-- the values' own types
end Go.Proofs.Yteocngcojijnkaa.QI
namespace Go.Proofs.Yteocngcojijnkaa.QI
open Go.RowKit Go.Proofs.YteocngcojijnkaaW.PrintWords Go.Proofs.YteocngcojijnkaaW.PrintLast Go.Proofs.YteocngcojijnkaaW.PrintMore
attribute [local go_sem] max2_int min2_int max_two min_two max_three min_three max_four min_four   -- for this text's walks alone
set_option linter.unusedVariables false
set_option linter.unusedSimpArgs false
/-! ### icehouselaw10_QuorumOne: function 9 -/
mutual
def icehouselaw10_QuorumOne.j0 : Nat → List Int → Int → Bool → List Int → Int → Int → Option (Bool)
  | 0, _, _, _, _, _, _ => none
  | k + 1, x1, x2, x39, x102000, x102001, x102002 => if x39 = true then ((Fk.known.f).bind fun t103 => (some t103)) else (if ([] : List Int).length + x1.length < 17592186044416 then ((some (([] : List Int) ++ x1 : List Int)).bind fun y104 => (if y104.length < 17592186044416 then ((some (y104 ++ [x2] : List Int)).bind fun y107 => ((Cv.covers.f k x102000 x102001 x102002 x1).bind fun bt110 => ((Cv.covers.f k x102000 x102001 x102002 y107).bind fun bt112 => ((Cv.lost.f k x102000 x102001 x102002 x1).bind fun bt114 => ((Cv.lost.f k x102000 x102001 x102002 y107).bind fun bt118 => (icehouselaw10_QuorumOne.l0 k bt110.1 bt112.1 bt114.1 bt118.1 0 x102000 x102001 x102002)))))) else (none))) else (none))
def icehouselaw10_QuorumOne.l0 : Nat → Bool → Bool → List Int → List Int → Int → List Int → Int → Int → Option (Bool)
  | 0, _, _, _, _, _, _, _, _ => none
  | k + 1, x8, x10, x12, x14, x16, x102000, x102001, x102002 => if x16 < (x12.length : Int) then (if 0 ≤ x16 then ((QA.icehouseref09_Has.f k x14 (rd x12 x16)).bind fun t123 => (if t123 = true then (icehouselaw10_QuorumOne.l0 k x8 x10 x12 x14 (wrap64 (x16 + 1)) x102000 x102001 x102002) else (some false))) else (none)) else ((Cv.covers.f k x102000 x102001 x102002 x102000).bind fun bt124 => ((Cv.covers.f k x102000 x102001 x102002 ([] : List Int)).bind fun bt126 => (if x8 = true then (if x10 = true then (if bt124.1 = true then (if bt124.2 = 0 then (if bt126.1 = true then (some false) else (if bt126.2 = 0 then ((Fk.known.f).bind fun t128 => (some t128)) else (some false))) else (some false)) else (some false)) else (some false)) else (if bt124.1 = true then (if bt124.2 = 0 then (if bt126.1 = true then (some false) else (if bt126.2 = 0 then ((Fk.known.f).bind fun t129 => (some t129)) else (some false))) else (some false)) else (some false)))))
end
def icehouselaw10_QuorumOne.f (k : Nat) (l0_0 : List Int) (a0_1 : Int) (a0_2 : Int) (l1 : List Int) (a2 : Int) : Option (Bool) := if (l1.length : Int) > 30 then (icehouselaw10_QuorumOne.j0 k l1 a2 true l0_0 a0_1 a0_2) else (if (l0_0.length : Int) > 8 then (icehouselaw10_QuorumOne.j0 k l1 a2 true l0_0 a0_1 a0_2) else (if a0_1 > 4 then (icehouselaw10_QuorumOne.j0 k l1 a2 true l0_0 a0_1 a0_2) else ((QH.icehouseref09_Check.f k l0_0 a0_1 a0_2).bind fun t102 => (icehouselaw10_QuorumOne.j0 k l1 a2 (t102 != 0) l0_0 a0_1 a0_2))))
theorem icehouselaw10_QuorumOne.mono_l : ∀ k, (∀ y0 y1 y2 y3 y4 y5, LeO (icehouselaw10_QuorumOne.j0 k y0 y1 y2 y3 y4 y5) (icehouselaw10_QuorumOne.j0 (k + 1) y0 y1 y2 y3 y4 y5)) ∧ (∀ y0 y1 y2 y3 y4 y5 y6 y7, LeO (icehouselaw10_QuorumOne.l0 k y0 y1 y2 y3 y4 y5 y6 y7) (icehouselaw10_QuorumOne.l0 (k + 1) y0 y1 y2 y3 y4 y5 y6 y7))
  | 0 => ⟨fun _ _ _ _ _ _ r h => by simp [icehouselaw10_QuorumOne.j0] at h, fun _ _ _ _ _ _ _ _ r h => by simp [icehouselaw10_QuorumOne.l0] at h⟩
  | k + 1 => by
    obtain ⟨ih0, ih1⟩ := icehouselaw10_QuorumOne.mono_l k
    refine ⟨?_, ?_⟩
    · intro y0 y1 y2 y3 y4 y5
      unfold icehouselaw10_QuorumOne.j0
      repeat' first
      | (with_reducible exact ih0 _ _ _ _ _ _)
      | (with_reducible exact ih1 _ _ _ _ _ _ _ _)
      | (with_reducible exact Cv.covers.mono _ _ _ _ _)
      | (with_reducible exact Cv.lost.mono _ _ _ _ _)
      | (with_reducible exact QA.icehouseref09_Has.mono _ _ _)
      | (with_reducible exact QH.icehouseref09_Check.mono _ _ _ _)
      | (with_reducible exact LeO.refl _)
      | (with_reducible exact LeO.none _)
      | (with_reducible refine LeO.ite ?_ ?_)
      | (with_reducible refine LeO.bind ?_ (fun _ => ?_))
      | exact ih0 _ _ _ _ _ _
      | exact ih1 _ _ _ _ _ _ _ _
      | exact Cv.covers.mono _ _ _ _ _
      | exact Cv.lost.mono _ _ _ _ _
      | exact QA.icehouseref09_Has.mono _ _ _
      | exact QH.icehouseref09_Check.mono _ _ _ _
      | exact LeO.none _
      | refine LeO.ite ?_ ?_
      | refine LeO.bind ?_ (fun _ => ?_)
    · intro y0 y1 y2 y3 y4 y5 y6 y7
      unfold icehouselaw10_QuorumOne.l0
      repeat' first
      | (with_reducible exact ih0 _ _ _ _ _ _)
      | (with_reducible exact ih1 _ _ _ _ _ _ _ _)
      | (with_reducible exact Cv.covers.mono _ _ _ _ _)
      | (with_reducible exact Cv.lost.mono _ _ _ _ _)
      | (with_reducible exact QA.icehouseref09_Has.mono _ _ _)
      | (with_reducible exact QH.icehouseref09_Check.mono _ _ _ _)
      | (with_reducible exact LeO.refl _)
      | (with_reducible exact LeO.none _)
      | (with_reducible refine LeO.ite ?_ ?_)
      | (with_reducible refine LeO.bind ?_ (fun _ => ?_))
      | exact ih0 _ _ _ _ _ _
      | exact ih1 _ _ _ _ _ _ _ _
      | exact Cv.covers.mono _ _ _ _ _
      | exact Cv.lost.mono _ _ _ _ _
      | exact QA.icehouseref09_Has.mono _ _ _
      | exact QH.icehouseref09_Check.mono _ _ _ _
      | exact LeO.none _
      | refine LeO.ite ?_ ?_
      | refine LeO.bind ?_ (fun _ => ?_)
set_option maxHeartbeats 8000000 in
set_option maxRecDepth 100000 in
theorem icehouselaw10_QuorumOne.calls (k : Nat) (A0_0 : Option Addr) (c0_0 : Nat) (l0_0 : List Int) (a0_1 : Int) (a0_2 : Int) (A1 : Option Addr) (c1 : Nat) (l1 : List Int) (a2 : Int) (r : Bool) (w : World) (hr0_0 : Kd.C (Kd.int .i64) w A0_0 l0_0.length l0_0) (hc0_0 : l0_0.length ≤ c0_0) (hr1 : Kd.C (Kd.int .i64) w A1 l1.length l1) (hc1 : l1.length ≤ c1) (h : icehouselaw10_QuorumOne.f k l0_0 a0_1 a0_2 l1 a2 = some r) :
    Calls Try.prog 9 #[.agg #[.slice A0_0 l0_0.length c0_0, .int .i64 a0_1, .int .i64 a0_2], .slice A1 l1.length c1, .int .i64 a2] w fun e w' => e = .returned (.bool r) ∧ Below w.heap.size w w' := by
  have hu42 := Try.underlying42
  have HR0_0 := Aside0.mk hr0_0
  have HC0_0 := Aside0.mk hc0_0
  clear hr0_0 hc0_0
  have HR1 := Aside0.mk hr1
  have HC1 := Aside0.mk hc1
  clear hr1 hc1
  have HB := Aside0.mk (Below.refl w.heap.size w)
  have H : (if (l1.length : Int) > 30 then (icehouselaw10_QuorumOne.j0 k l1 a2 true l0_0 a0_1 a0_2) else (if (l0_0.length : Int) > 8 then (icehouselaw10_QuorumOne.j0 k l1 a2 true l0_0 a0_1 a0_2) else (if a0_1 > 4 then (icehouselaw10_QuorumOne.j0 k l1 a2 true l0_0 a0_1 a0_2) else ((QH.icehouseref09_Check.f k l0_0 a0_1 a0_2).bind fun t102 => (icehouselaw10_QuorumOne.j0 k l1 a2 (t102 != 0) l0_0 a0_1 a0_2))))) = some r := h
  clear h
  have HC4 := Aside0.mk H
  clear H
  go_enter Try.func9, Try.ntmps9
  go_upto_region 1 with (first | ((with_reducible refine gate_dst (N := 3) rfl ?_); (try (refine gate_guard (by rfl) ?_; dsimp only)); refine box_event ?hg (N := 3) ?hd (cs := #[.slice A0_0 l0_0.length c0_0, .int .i64 a0_1, .int .i64 a0_2]) (t := 42) ?hr ?_; (case hd => rfl); (case hg => rfl); (case hr => first | (go_simp; done) | (go_simp; rfl)); intro gb101 hg w5 hbox hb; have n0_ := Aside0.mk (below_step (by repeat (first | (with_reducible first | exact HB.out | apply below_alloc | apply pw_below_drewN | apply below_drew1) | exact HB.out)) hb); have n1_ := Aside0.mk (hbox); have n2_ := Aside0.mk ((by rw [hg]; exact (below_size (by repeat (first | (with_reducible first | exact HB.out | apply below_alloc | apply pw_below_drewN | apply below_drew1) | exact HB.out))) : w.heap.size ≤ gb101)); have n3_ := Aside0.mk ((by rw [hg]; exact (below_size (by repeat (first | (with_reducible first | exact HB.out | apply below_alloc | apply pw_below_drewN | apply below_drew1) | exact HB.out))) : w.heap.size ≤ gb101)); clear HB; have HB := n0_; have BK101 := n1_; have GW101 := n2_; have GE101 := n3_; clear n0_ n1_ n2_ n3_; clear hb hbox hg))
  (try simp only [Act.put, List.setIfInBounds_toArray, List.set_cons_zero, List.set_cons_succ])
  go_cut [39] (fun v39 wc => ∃ (kq : Nat) (x39_3 : Bool), v39 = .bool x39_3 ∧ Aside0 (icehouselaw10_QuorumOne.j0 kq l1 a2 x39_3 l0_0 a0_1 a0_2 = some r) ∧ Aside0 (kq ≤ k) ∧ Aside0 (wc.heap[gb101]? = some (.cells #[(.slice A0_0 l0_0.length c0_0), .int .i64 a0_1, .int .i64 a0_2] 42 (0, 0))) ∧ Aside0 (Below w.heap.size w wc))
  case first =>
    have H := HC4.out
    clear HC4
    by_cases c6 : (l1.length : Int) > 30
    · rw [if_pos c6] at H
      have c6b0 : decide (30 < (l1.length : Int)) = true := decide_eq_true c6
      have c6b1 : decide (30 < l1.length) = true := decide_eq_true (by omega)
      clear c6
      (first | rw [c6b0] | (simp only [i64_w, i32_w]; rw [c6b0]) | skip)
      have H' := Aside0.mk H
      clear H
      go_wp2
      go_meet
      case rel => exact ⟨_, (true), (by first | rfl | (simp; done) | (simp [*]; done)), H', ⟨by first | omega | exact Nat.le_refl _⟩, ⟨by (with_reducible repeat (first | refine blk_drewN ?_ _ | refine blk_drew ?_ | refine blk_alloc ?_ _)); exact BK101.out⟩, ⟨by repeat (first | (with_reducible first | exact HB.out | apply below_alloc | apply pw_below_drewN | apply below_drew1 | refine below_set ?_ GE101.out) | exact HB.out)⟩⟩
    · rw [if_neg c6] at H
      have c6b0 : decide (30 < (l1.length : Int)) = false := decide_eq_false c6
      have c6b1 : decide (30 < l1.length) = false := decide_eq_false (by omega)
      clear c6
      (first | rw [c6b0] | (simp only [i64_w, i32_w]; rw [c6b0]) | skip)
      by_cases c7 : (l0_0.length : Int) > 8
      · rw [if_pos c7] at H
        have c7b0 : decide (8 < (l0_0.length : Int)) = true := decide_eq_true c7
        have c7b1 : decide (8 < l0_0.length) = true := decide_eq_true (by omega)
        clear c7
        have H' := Aside0.mk H
        clear H
        have hcz8_0 : w5.cell? ⟨gb101, 0, none⟩ = some (.slice A0_0 l0_0.length c0_0) := (blk_cell BK101.out 0).trans rfl
        have hcz8_1 : w5.cell? ⟨gb101, 1, none⟩ = some (.int .i64 a0_1) := (blk_cell BK101.out 1).trans rfl
        have hcz8_2 : w5.cell? ⟨gb101, 2, none⟩ = some (.int .i64 a0_2) := (blk_cell BK101.out 2).trans rfl
        have hfz8_0 := blk_frozen BK101.out 0
        have hfz8_1 := blk_frozen BK101.out 1
        have hfz8_2 := blk_frozen BK101.out 2
        go_wp2
        go_meet
        case rel => exact ⟨_, (true), (by first | rfl | (simp; done) | (simp [*]; done)), H', ⟨by first | omega | exact Nat.le_refl _⟩, ⟨by (with_reducible repeat (first | refine blk_drewN ?_ _ | refine blk_drew ?_ | refine blk_alloc ?_ _)); exact BK101.out⟩, ⟨by repeat (first | (with_reducible first | exact HB.out | apply below_alloc | apply pw_below_drewN | apply below_drew1 | refine below_set ?_ GE101.out) | exact HB.out)⟩⟩
      · rw [if_neg c7] at H
        have c7b0 : decide (8 < (l0_0.length : Int)) = false := decide_eq_false c7
        have c7b1 : decide (8 < l0_0.length) = false := decide_eq_false (by omega)
        clear c7
        by_cases c9 : a0_1 > 4
        · rw [if_pos c9] at H
          have c9b0 : decide (4 < a0_1) = true := decide_eq_true c9
          clear c9
          have H' := Aside0.mk H
          clear H
          have hcz10_0 : w5.cell? ⟨gb101, 0, none⟩ = some (.slice A0_0 l0_0.length c0_0) := (blk_cell BK101.out 0).trans rfl
          have hcz10_1 : w5.cell? ⟨gb101, 1, none⟩ = some (.int .i64 a0_1) := (blk_cell BK101.out 1).trans rfl
          have hcz10_2 : w5.cell? ⟨gb101, 2, none⟩ = some (.int .i64 a0_2) := (blk_cell BK101.out 2).trans rfl
          have hfz10_0 := blk_frozen BK101.out 0
          have hfz10_1 := blk_frozen BK101.out 1
          have hfz10_2 := blk_frozen BK101.out 2
          go_wp2
          go_meet
          case rel => exact ⟨_, (true), (by first | rfl | (simp; done) | (simp [*]; done)), H', ⟨by first | omega | exact Nat.le_refl _⟩, ⟨by (with_reducible repeat (first | refine blk_drewN ?_ _ | refine blk_drew ?_ | refine blk_alloc ?_ _)); exact BK101.out⟩, ⟨by repeat (first | (with_reducible first | exact HB.out | apply below_alloc | apply pw_below_drewN | apply below_drew1 | refine below_set ?_ GE101.out) | exact HB.out)⟩⟩
        · rw [if_neg c9] at H
          have c9b0 : decide (4 < a0_1) = false := decide_eq_false c9
          clear c9
          replace H := Option.bind_eq_some_iff.mp H
          obtain ⟨t102, A110, H⟩ := H
          replace H : (icehouselaw10_QuorumOne.j0 k l1 a2 (t102 != 0) l0_0 a0_1 a0_2) = some r := H
          have A11 := Aside0.mk A110
          clear A110
          have H' := Aside0.mk H
          clear H
          have hcz12_0 : w5.cell? ⟨gb101, 0, none⟩ = some (.slice A0_0 l0_0.length c0_0) := (blk_cell BK101.out 0).trans rfl
          have hcz12_1 : w5.cell? ⟨gb101, 1, none⟩ = some (.int .i64 a0_1) := (blk_cell BK101.out 1).trans rfl
          have hcz12_2 : w5.cell? ⟨gb101, 2, none⟩ = some (.int .i64 a0_2) := (blk_cell BK101.out 2).trans rfl
          have hfz12_0 := blk_frozen BK101.out 0
          have hfz12_1 := blk_frozen BK101.out 1
          have hfz12_2 := blk_frozen BK101.out 2
          go_wp2_with (first | (go_at_call 28; (with_reducible refine (QH.icehouseref09_Check.calls k _ _ l0_0 a0_1 a0_2 t102 _ ?side1 ?side2 A11.out).mono ?_); (case side1 => repeat (first | exact (Kd.C_below HR0_0.out HB.out) | (with_reducible refine Kd.C_alloc ?_ _) | (with_reducible refine Kd.C_drewN ?_ _) | (with_reducible refine Kd.C_drew ?_))); (case side2 => exact HC0_0.out); rintro e w13 ⟨rfl, hb⟩; have n0_ := Aside0.mk (blk_below (g := gb101) (o := .cells #[.slice A0_0 l0_0.length c0_0, .int .i64 a0_1, .int .i64 a0_2] 42 (0, 0)) (by (with_reducible repeat (first | refine blk_drewN ?_ _ | refine blk_drew ?_ | refine blk_alloc ?_ _)); exact BK101.out) hb); have n1_ := Aside0.mk (below_step (by repeat (first | (with_reducible first | exact HB.out | apply below_alloc | apply pw_below_drewN | apply below_drew1 | refine below_set ?_ GE101.out) | exact HB.out)) hb); clear BK101; clear HB; have BK101 := n0_; have HB := n1_; clear n0_ n1_; (try clear hb); (try clear hb2); (try clear hk); (try clear hi)))
          go_meet
          case rel => exact ⟨_, ((t102 != 0)), (by first | rfl | (simp; done) | (simp [*]; done)), H', ⟨by first | omega | exact Nat.le_refl _⟩, ⟨by (with_reducible repeat (first | refine blk_drewN ?_ _ | refine blk_drew ?_ | refine blk_alloc ?_ _)); exact BK101.out⟩, ⟨by repeat (first | (with_reducible first | exact HB.out | apply below_alloc | apply pw_below_drewN | apply below_drew1 | refine below_set ?_ GE101.out) | exact HB.out)⟩⟩
  case rest =>
    clear HC4
    try clear c1
    try clear p2
    try clear c6
    try clear c6b0
    try clear c6b1
    try clear c7
    try clear c7b0
    try clear c7b1
    try clear c9
    try clear c9b0
    try clear hcz10_0
    try clear hcz10_1
    try clear hcz10_2
    try clear hcz12_0
    try clear hcz12_1
    try clear hcz12_2
    try clear hcz8_0
    try clear hcz8_1
    try clear hcz8_2
    try clear hfz10_0
    try clear hfz10_1
    try clear hfz10_2
    try clear hfz12_0
    try clear hfz12_1
    try clear hfz12_2
    try clear hfz8_0
    try clear hfz8_1
    try clear hfz8_2
    obtain ⟨kq, x39_3, rfl, HA, HJ3, BK101, HB⟩ := hcut
    cases kq with
    | zero => exact absurd HA.out (by simp [icehouselaw10_QuorumOne.j0])
    | succ kj3 =>
      have H := HA.out
      clear HA
      simp only [icehouselaw10_QuorumOne.j0] at H
      by_cases c14 : x39_3 = true
      · subst c14
        have H1 : ((Fk.known.f).bind fun t103 => (some t103)) = some r := by rw [if_pos rfl] at H; exact H
        clear H
        have H := H1
        clear H1
        replace H := Option.bind_eq_some_iff.mp H
        obtain ⟨t103, A150, H⟩ := H
        replace H : (some t103) = some r := H
        have A15 := Aside0.mk A150
        clear A150
        obtain rfl := Option.some.inj H
        go_wp2_with (first | ((with_reducible refine gate_callee (f := 10) rfl ?_); refine goesL_ (some 40) rfl rfl Try.func10 (by kernel_rfl) rfl #[] rfl (by (try simp only [List.map_toArray, List.map_cons, List.map_nil]); first | done | rfl | (simp only [List.length_drop, List.length_take]; rfl)) ?_; (with_reducible refine (Fk.known.calls  t103 _ A15.out).mono ?_); rintro e w16 ⟨rfl, hb⟩; refine ⟨_, rfl, ?_⟩; have n0_ := Aside0.mk (blk_below (g := gb101) (o := .cells #[.slice A0_0 l0_0.length c0_0, .int .i64 a0_1, .int .i64 a0_2] 42 (0, 0)) (by (with_reducible repeat (first | refine blk_drewN ?_ _ | refine blk_drew ?_ | refine blk_alloc ?_ _)); exact BK101.out) hb); have n1_ := Aside0.mk (below_step (by repeat (first | (with_reducible first | exact HB.out | apply below_alloc | apply pw_below_drewN | apply below_drew1 | refine below_set ?_ GE101.out) | exact HB.out)) hb); clear BK101; clear HB; have BK101 := n0_; have HB := n1_; clear n0_ n1_; (try clear hb); (try clear hb2); (try clear hk); (try clear hi)))
        go_ret
        exact ⟨by first | rfl | (simp [errW_none, errW_some] <;> rfl) | (simp [*, errW_none, errW_some] <;> rfl), by repeat (first | (with_reducible first | exact HB.out | apply below_alloc | apply pw_below_drewN | apply below_drew1 | refine below_set ?_ GE101.out) | exact HB.out)⟩
      · replace c14 := Bool.eq_false_iff.mpr c14
        subst c14
        have H1 : (if ([] : List Int).length + l1.length < 17592186044416 then ((some (([] : List Int) ++ l1 : List Int)).bind fun y104 => (if y104.length < 17592186044416 then ((some (y104 ++ [a2] : List Int)).bind fun y107 => ((Cv.covers.f kj3 l0_0 a0_1 a0_2 l1).bind fun bt110 => ((Cv.covers.f kj3 l0_0 a0_1 a0_2 y107).bind fun bt112 => ((Cv.lost.f kj3 l0_0 a0_1 a0_2 l1).bind fun bt114 => ((Cv.lost.f kj3 l0_0 a0_1 a0_2 y107).bind fun bt118 => (icehouselaw10_QuorumOne.l0 kj3 bt110.1 bt112.1 bt114.1 bt118.1 0 l0_0 a0_1 a0_2)))))) else (none))) else (none)) = some r := by rw [if_neg (show ¬ (false = true) by decide)] at H; exact H
        clear H
        have H := H1
        clear H1
        by_cases c17 : ([] : List Int).length + l1.length < 17592186044416
        · rw [if_pos c17] at H
          have LMc17 := Aside0.mk c17
          clear c17
          obtain ⟨y104, hy104⟩ : ∃ y_ : List Int, y_ = (([] : List Int) ++ l1) := ⟨_, rfl⟩
          replace H : (if y104.length < 17592186044416 then ((some (y104 ++ [a2] : List Int)).bind fun y107 => ((Cv.covers.f kj3 l0_0 a0_1 a0_2 l1).bind fun bt110 => ((Cv.covers.f kj3 l0_0 a0_1 a0_2 y107).bind fun bt112 => ((Cv.lost.f kj3 l0_0 a0_1 a0_2 l1).bind fun bt114 => ((Cv.lost.f kj3 l0_0 a0_1 a0_2 y107).bind fun bt118 => (icehouselaw10_QuorumOne.l0 kj3 bt110.1 bt112.1 bt114.1 bt118.1 0 l0_0 a0_1 a0_2)))))) else (none)) = some r := by first | (rw [hy104]; with_reducible exact H) | (have H2_ := (Option.bind_some _ _).symm.trans H; rw [hy104]; with_reducible exact H2_) | (have H2_ := (Option.bind_some _ _).symm.trans H; with_reducible exact H2_) | with_reducible exact H | (rw [hy104]; exact H) | exact H
          have Ny104 := Aside0.mk hy104
          clear hy104
          by_cases c18 : y104.length < 17592186044416
          · rw [if_pos c18] at H
            have LMc18 := Aside0.mk c18
            clear c18
            obtain ⟨y107, hy107⟩ : ∃ y_ : List Int, y_ = (y104 ++ [a2]) := ⟨_, rfl⟩
            replace H : ((Cv.covers.f kj3 l0_0 a0_1 a0_2 l1).bind fun bt110 => ((Cv.covers.f kj3 l0_0 a0_1 a0_2 y107).bind fun bt112 => ((Cv.lost.f kj3 l0_0 a0_1 a0_2 l1).bind fun bt114 => ((Cv.lost.f kj3 l0_0 a0_1 a0_2 y107).bind fun bt118 => (icehouselaw10_QuorumOne.l0 kj3 bt110.1 bt112.1 bt114.1 bt118.1 0 l0_0 a0_1 a0_2))))) = some r := by first | (rw [hy107]; with_reducible exact H) | (have H2_ := (Option.bind_some _ _).symm.trans H; rw [hy107]; with_reducible exact H2_) | (have H2_ := (Option.bind_some _ _).symm.trans H; with_reducible exact H2_) | with_reducible exact H | (rw [hy107]; exact H) | exact H
            have Ny107 := Aside0.mk hy107
            clear hy107
            replace H := Option.bind_eq_some_iff.mp H
            obtain ⟨⟨t110, t111⟩, A190, H⟩ := H
            replace H : ((Cv.covers.f kj3 l0_0 a0_1 a0_2 y107).bind fun bt112 => ((Cv.lost.f kj3 l0_0 a0_1 a0_2 l1).bind fun bt114 => ((Cv.lost.f kj3 l0_0 a0_1 a0_2 y107).bind fun bt118 => (icehouselaw10_QuorumOne.l0 kj3 t110 bt112.1 bt114.1 bt118.1 0 l0_0 a0_1 a0_2)))) = some r := H
            have A19 := Aside0.mk A190
            clear A190
            replace H := Option.bind_eq_some_iff.mp H
            obtain ⟨⟨t112, t113⟩, A200, H⟩ := H
            replace H : ((Cv.lost.f kj3 l0_0 a0_1 a0_2 l1).bind fun bt114 => ((Cv.lost.f kj3 l0_0 a0_1 a0_2 y107).bind fun bt118 => (icehouselaw10_QuorumOne.l0 kj3 t110 t112 bt114.1 bt118.1 0 l0_0 a0_1 a0_2))) = some r := H
            have A20 := Aside0.mk A200
            clear A200
            replace H := Option.bind_eq_some_iff.mp H
            obtain ⟨⟨t114, t117⟩, A210, H⟩ := H
            replace H : ((Cv.lost.f kj3 l0_0 a0_1 a0_2 y107).bind fun bt118 => (icehouselaw10_QuorumOne.l0 kj3 t110 t112 t114 bt118.1 0 l0_0 a0_1 a0_2)) = some r := H
            have A21 := Aside0.mk A210
            clear A210
            replace H := Option.bind_eq_some_iff.mp H
            obtain ⟨⟨t118, t121⟩, A220, H⟩ := H
            replace H : (icehouselaw10_QuorumOne.l0 kj3 t110 t112 t114 t118 0 l0_0 a0_1 a0_2) = some r := H
            have A22 := Aside0.mk A220
            clear A220
            have H' := Aside0.mk H
            clear H
            go_wp2_with (first | ((with_reducible refine gate_builtin (b := .append) (xs := #[.tmp 41, .tmp 42]) rfl ?_); (try (refine gate_guard (by rfl) ?_; dsimp only)); at_builtin; refine Kd.R_append_rows (Kd.int .i64) (w0 := w) w.heap.size rfl (.tmp 41) (.tmp 42) 22 3 (.int .i64 0) 8 rfl Try.underlying22 info3 rfl (by decide) (by omega) (.slice none 0 0) ([] : List Int) l1 _ _ _ (fun _ => True) (fun _ => False) rfl rfl ?aO ?aR (fun _ _ h => h) (fun _ h => h.elim) ?aF ?aB ?aS ?aL ?_; (case aR => repeat (first | exact (Kd.C_below HR1.out HB.out) | (with_reducible refine Kd.C_alloc ?_ _) | (with_reducible refine Kd.C_drewN ?_ _) | (with_reducible refine Kd.C_drew ?_))); (case aB => exact (by repeat (first | (with_reducible first | exact HB.out | apply below_alloc | apply pw_below_drewN | apply below_drew1 | refine below_set ?_ GE101.out) | exact HB.out))); (case aF => exact (fun _ _ => trivial)); (case aO => exact ((Kd.R_nil _ _ _ _ (fun _ => True)))); (case aS => exact (below_size (by repeat (first | (with_reducible first | exact HB.out | apply below_alloc | apply pw_below_drewN | apply below_drew1 | refine below_set ?_ GE101.out) | exact HB.out)))); (case aL => have := LMc17.out; omega); intro v105 w23 ho hb hg hat; rw [← Ny104.out] at ho; have n0_ := Aside0.mk (blk_grown (g := gb101) (o := .cells #[.slice A0_0 l0_0.length c0_0, .int .i64 a0_1, .int .i64 a0_2] 42 (0, 0)) (by (with_reducible repeat (first | refine blk_drewN ?_ _ | refine blk_drew ?_ | refine blk_alloc ?_ _)); exact BK101.out) hg (by simp [Value.ownBlock])); have n1_ := Aside0.mk (hb); have n2_ := Aside0.mk (ho); clear BK101; clear HB; have BK101 := n0_; have HB := n1_; have HO106 := n2_; clear n0_ n1_ n2_; clear ho hb hg hat) | ((with_reducible refine gate_builtin (b := .append) (xs := #[.tmp 44, .tmp 46]) rfl ?_); (try (refine gate_guard (by rfl) ?_; dsimp only)); at_builtin; refine Kd.R_append (Kd.int .i64) (w0 := w) w.heap.size rfl (.tmp 44) (.tmp 46) 22 3 (.int .i64 0) 8 rfl Try.underlying22 info3 rfl (by decide) (by omega) v105 y104 a2 [.int .i64 a2] (fun _ => True) (fun _ => False) rfl rfl ?aP (fun _ hk => hk.elim) ?aF ?aO ?aB ?aS ?aL ?_; (case aP => exact rfl); (case aB => exact (by repeat (first | (with_reducible first | exact HB.out | apply below_alloc | apply pw_below_drewN | apply below_drew1 | refine below_set ?_ GE101.out) | exact HB.out))); (case aF => exact (fun _ _ => trivial)); (case aO => exact (by (with_reducible repeat (first | apply Kd.R_alloc | apply Kd.R_drewN | apply Kd.R_drew)); exact HO106.out)); (case aS => exact (below_size (by repeat (first | (with_reducible first | exact HB.out | apply below_alloc | apply pw_below_drewN | apply below_drew1 | refine below_set ?_ GE101.out) | exact HB.out)))); (case aL => have := LMc18.out; omega); intro v108 w24 ho hb hg hat; rw [← Ny107.out] at ho; have n0_ := Aside0.mk (blk_grown (g := gb101) (o := .cells #[.slice A0_0 l0_0.length c0_0, .int .i64 a0_1, .int .i64 a0_2] 42 (0, 0)) (by (with_reducible repeat (first | refine blk_drewN ?_ _ | refine blk_drew ?_ | refine blk_alloc ?_ _)); exact BK101.out) hg (Kd.R_ne HO106.out BK101.out (by decide))); have n1_ := Aside0.mk (hb); have n2_ := Aside0.mk (ho); clear BK101; clear HB; clear HO106; have BK101 := n0_; have HB := n1_; have HO109 := n2_; clear n0_ n1_ n2_; clear ho hb hg hat; have hcz25_0 : w24.cell? ⟨gb101, 0, none⟩ = some (.slice A0_0 l0_0.length c0_0) := (blk_cell BK101.out 0).trans rfl; have hcz25_1 : w24.cell? ⟨gb101, 1, none⟩ = some (.int .i64 a0_1) := (blk_cell BK101.out 1).trans rfl; have hcz25_2 : w24.cell? ⟨gb101, 2, none⟩ = some (.int .i64 a0_2) := (blk_cell BK101.out 2).trans rfl; have hfz25_0 := blk_frozen BK101.out 0; have hfz25_1 := blk_frozen BK101.out 1; have hfz25_2 := blk_frozen BK101.out 2) | ((with_reducible refine gate_callee (f := 26) rfl ?_); refine goesL_ (some 51) rfl rfl Try.func26 (by kernel_rfl) rfl #[.agg #[.slice A0_0 l0_0.length c0_0, .int .i64 a0_1, .int .i64 a0_2], .slice A1 l1.length c1] rfl (by (try simp only [List.map_toArray, List.map_cons, List.map_nil]); first | done | rfl | (simp only [List.length_drop, List.length_take]; rfl)) ?_; (with_reducible refine (Cv.covers.calls kj3 _ _ l0_0 a0_1 a0_2 _ _ l1 t110 t111 _ ?side1 ?side2 ?side3 ?side4 A19.out).mono ?_); (case side1 => repeat (first | exact (Kd.C_below HR0_0.out HB.out) | (with_reducible refine Kd.C_alloc ?_ _) | (with_reducible refine Kd.C_drewN ?_ _) | (with_reducible refine Kd.C_drew ?_))); (case side2 => exact HC0_0.out); (case side3 => repeat (first | exact (Kd.C_below HR1.out HB.out) | (with_reducible refine Kd.C_alloc ?_ _) | (with_reducible refine Kd.C_drewN ?_ _) | (with_reducible refine Kd.C_drew ?_))); (case side4 => exact HC1.out); rintro e w26 ⟨rfl, hb⟩; refine ⟨_, rfl, ?_⟩; have n0_ := Aside0.mk (Kd.R_below (by (with_reducible repeat (first | apply Kd.R_alloc | apply Kd.R_drewN | apply Kd.R_drew)); exact HO109.out) hb); have n1_ := Aside0.mk (blk_below (g := gb101) (o := .cells #[.slice A0_0 l0_0.length c0_0, .int .i64 a0_1, .int .i64 a0_2] 42 (0, 0)) (by (with_reducible repeat (first | refine blk_drewN ?_ _ | refine blk_drew ?_ | refine blk_alloc ?_ _)); exact BK101.out) hb); have n2_ := Aside0.mk (below_step (by repeat (first | (with_reducible first | exact HB.out | apply below_alloc | apply pw_below_drewN | apply below_drew1 | refine below_set ?_ GE101.out) | exact HB.out)) hb); clear HO109; clear BK101; clear HB; have HO109 := n0_; have BK101 := n1_; have HB := n2_; clear n0_ n1_ n2_; (try clear hb); (try clear hb2); (try clear hk); (try clear hi); have hcz27_0 : w26.cell? ⟨gb101, 0, none⟩ = some (.slice A0_0 l0_0.length c0_0) := (blk_cell BK101.out 0).trans rfl; have hcz27_1 : w26.cell? ⟨gb101, 1, none⟩ = some (.int .i64 a0_1) := (blk_cell BK101.out 1).trans rfl; have hcz27_2 : w26.cell? ⟨gb101, 2, none⟩ = some (.int .i64 a0_2) := (blk_cell BK101.out 2).trans rfl; have hfz27_0 := blk_frozen BK101.out 0; have hfz27_1 := blk_frozen BK101.out 1; have hfz27_2 := blk_frozen BK101.out 2; obtain ⟨Ao28, co28, eo28⟩ := Kd.R_slice HO109.out; subst eo28) | ((with_reducible refine gate_callee (f := 26) rfl ?_); refine goesL_ (some 57) rfl rfl Try.func26 (by kernel_rfl) rfl #[.agg #[.slice A0_0 l0_0.length c0_0, .int .i64 a0_1, .int .i64 a0_2], .slice Ao28 y107.length co28] rfl (by (try simp only [List.map_toArray, List.map_cons, List.map_nil]); first | done | rfl | (simp only [List.length_drop, List.length_take]; rfl)) ?_; (with_reducible refine (Cv.covers.calls kj3 _ _ l0_0 a0_1 a0_2 _ _ y107 t112 t113 _ ?side1 ?side2 ?side3 ?side4 A20.out).mono ?_); (case side1 => repeat (first | exact (Kd.C_below HR0_0.out HB.out) | (with_reducible refine Kd.C_alloc ?_ _) | (with_reducible refine Kd.C_drewN ?_ _) | (with_reducible refine Kd.C_drew ?_))); (case side2 => exact HC0_0.out); (case side3 => repeat (first | exact (Kd.R_reads' HO109.out).2.2 | (with_reducible refine Kd.C_alloc ?_ _) | (with_reducible refine Kd.C_drewN ?_ _) | (with_reducible refine Kd.C_drew ?_))); (case side4 => exact (Kd.R_reads' HO109.out).2.1); rintro e w29 ⟨rfl, hb⟩; refine ⟨_, rfl, ?_⟩; have n0_ := Aside0.mk (Kd.R_below (by (with_reducible repeat (first | apply Kd.R_alloc | apply Kd.R_drewN | apply Kd.R_drew)); exact HO109.out) hb); have n1_ := Aside0.mk (blk_below (g := gb101) (o := .cells #[.slice A0_0 l0_0.length c0_0, .int .i64 a0_1, .int .i64 a0_2] 42 (0, 0)) (by (with_reducible repeat (first | refine blk_drewN ?_ _ | refine blk_drew ?_ | refine blk_alloc ?_ _)); exact BK101.out) hb); have n2_ := Aside0.mk (below_step (by repeat (first | (with_reducible first | exact HB.out | apply below_alloc | apply pw_below_drewN | apply below_drew1 | refine below_set ?_ GE101.out) | exact HB.out)) hb); clear HO109; clear BK101; clear HB; have HO109 := n0_; have BK101 := n1_; have HB := n2_; clear n0_ n1_ n2_; (try clear hb); (try clear hb2); (try clear hk); (try clear hi); have hcz30_0 : w29.cell? ⟨gb101, 0, none⟩ = some (.slice A0_0 l0_0.length c0_0) := (blk_cell BK101.out 0).trans rfl; have hcz30_1 : w29.cell? ⟨gb101, 1, none⟩ = some (.int .i64 a0_1) := (blk_cell BK101.out 1).trans rfl; have hcz30_2 : w29.cell? ⟨gb101, 2, none⟩ = some (.int .i64 a0_2) := (blk_cell BK101.out 2).trans rfl; have hfz30_0 := blk_frozen BK101.out 0; have hfz30_1 := blk_frozen BK101.out 1; have hfz30_2 := blk_frozen BK101.out 2) | ((with_reducible refine gate_callee (f := 27) rfl ?_); refine goesL_ (some 63) rfl rfl Try.func27 (by kernel_rfl) rfl #[.agg #[.slice A0_0 l0_0.length c0_0, .int .i64 a0_1, .int .i64 a0_2], .slice A1 l1.length c1] rfl (by (try simp only [List.map_toArray, List.map_cons, List.map_nil]); first | done | rfl | (simp only [List.length_drop, List.length_take]; rfl)) ?_; (with_reducible refine (Cv.lost.calls kj3 _ _ l0_0 a0_1 a0_2 _ _ l1 t114 t117 _ ?side1 ?side2 ?side3 ?side4 A21.out).mono ?_); (case side1 => repeat (first | exact (Kd.C_below HR0_0.out HB.out) | (with_reducible refine Kd.C_alloc ?_ _) | (with_reducible refine Kd.C_drewN ?_ _) | (with_reducible refine Kd.C_drew ?_))); (case side2 => exact HC0_0.out); (case side3 => repeat (first | exact (Kd.C_below HR1.out HB.out) | (with_reducible refine Kd.C_alloc ?_ _) | (with_reducible refine Kd.C_drewN ?_ _) | (with_reducible refine Kd.C_drew ?_))); (case side4 => exact HC1.out); rintro e w31 ⟨v115, rfl, ho0, hb⟩; refine ⟨_, rfl, ?_⟩; have n0_ := Aside0.mk (Kd.R_elder' (by (with_reducible repeat (first | apply Kd.R_alloc | apply Kd.R_drewN | apply Kd.R_drew)); exact HO109.out) (Kd.R_base ho0) hb); have n1_ := Aside0.mk (Kd.R_lower (Kd.R_new' ho0 (Kd.R_lt (by (with_reducible repeat (first | apply Kd.R_alloc | apply Kd.R_drewN | apply Kd.R_drew)); exact HO109.out))) (below_size (by repeat (first | (with_reducible first | exact HB.out | apply below_alloc | apply pw_below_drewN | apply below_drew1 | refine below_set ?_ GE101.out) | exact HB.out)))); have n2_ := Aside0.mk (blk_below (g := gb101) (o := .cells #[.slice A0_0 l0_0.length c0_0, .int .i64 a0_1, .int .i64 a0_2] 42 (0, 0)) (by (with_reducible repeat (first | refine blk_drewN ?_ _ | refine blk_drew ?_ | refine blk_alloc ?_ _)); exact BK101.out) hb); have n3_ := Aside0.mk (below_step (by repeat (first | (with_reducible first | exact HB.out | apply below_alloc | apply pw_below_drewN | apply below_drew1 | refine below_set ?_ GE101.out) | exact HB.out)) hb); clear HO109; clear BK101; clear HB; have HO109 := n0_; have HO116 := n1_; have BK101 := n2_; have HB := n3_; clear n0_ n1_ n2_ n3_; (try clear hb); (try clear hb2); (try clear hk); (try clear hi); (try clear ho0); have hcz32_0 : w31.cell? ⟨gb101, 0, none⟩ = some (.slice A0_0 l0_0.length c0_0) := (blk_cell BK101.out 0).trans rfl; have hcz32_1 : w31.cell? ⟨gb101, 1, none⟩ = some (.int .i64 a0_1) := (blk_cell BK101.out 1).trans rfl; have hcz32_2 : w31.cell? ⟨gb101, 2, none⟩ = some (.int .i64 a0_2) := (blk_cell BK101.out 2).trans rfl; have hfz32_0 := blk_frozen BK101.out 0; have hfz32_1 := blk_frozen BK101.out 1; have hfz32_2 := blk_frozen BK101.out 2) | ((with_reducible refine gate_callee (f := 27) rfl ?_); refine goesL_ (some 69) rfl rfl Try.func27 (by kernel_rfl) rfl #[.agg #[.slice A0_0 l0_0.length c0_0, .int .i64 a0_1, .int .i64 a0_2], .slice Ao28 y107.length co28] rfl (by (try simp only [List.map_toArray, List.map_cons, List.map_nil]); first | done | rfl | (simp only [List.length_drop, List.length_take]; rfl)) ?_; (with_reducible refine (Cv.lost.calls kj3 _ _ l0_0 a0_1 a0_2 _ _ y107 t118 t121 _ ?side1 ?side2 ?side3 ?side4 A22.out).mono ?_); (case side1 => repeat (first | exact (Kd.C_below HR0_0.out HB.out) | (with_reducible refine Kd.C_alloc ?_ _) | (with_reducible refine Kd.C_drewN ?_ _) | (with_reducible refine Kd.C_drew ?_))); (case side2 => exact HC0_0.out); (case side3 => repeat (first | exact (Kd.R_reads' HO109.out).2.2 | (with_reducible refine Kd.C_alloc ?_ _) | (with_reducible refine Kd.C_drewN ?_ _) | (with_reducible refine Kd.C_drew ?_))); (case side4 => exact (Kd.R_reads' HO109.out).2.1); rintro e w33 ⟨v119, rfl, ho0, hb⟩; refine ⟨_, rfl, ?_⟩; have n0_ := Aside0.mk (Kd.R_elder' (by (with_reducible repeat (first | apply Kd.R_alloc | apply Kd.R_drewN | apply Kd.R_drew)); exact HO109.out) (Kd.R_base ho0) hb); have n1_ := Aside0.mk (Kd.R_elder' (by (with_reducible repeat (first | apply Kd.R_alloc | apply Kd.R_drewN | apply Kd.R_drew)); exact HO116.out) (Kd.R_base ho0) hb); have n2_ := Aside0.mk (Kd.R_lower (Kd.R_new' (Kd.R_new' ho0 (Kd.R_lt (by (with_reducible repeat (first | apply Kd.R_alloc | apply Kd.R_drewN | apply Kd.R_drew)); exact HO109.out))) (Kd.R_lt (by (with_reducible repeat (first | apply Kd.R_alloc | apply Kd.R_drewN | apply Kd.R_drew)); exact HO116.out))) (below_size (by repeat (first | (with_reducible first | exact HB.out | apply below_alloc | apply pw_below_drewN | apply below_drew1 | refine below_set ?_ GE101.out) | exact HB.out)))); have n3_ := Aside0.mk (blk_below (g := gb101) (o := .cells #[.slice A0_0 l0_0.length c0_0, .int .i64 a0_1, .int .i64 a0_2] 42 (0, 0)) (by (with_reducible repeat (first | refine blk_drewN ?_ _ | refine blk_drew ?_ | refine blk_alloc ?_ _)); exact BK101.out) hb); have n4_ := Aside0.mk (below_step (by repeat (first | (with_reducible first | exact HB.out | apply below_alloc | apply pw_below_drewN | apply below_drew1 | refine below_set ?_ GE101.out) | exact HB.out)) hb); clear HO109; clear HO116; clear BK101; clear HB; have HO109 := n0_; have HO116 := n1_; have HO120 := n2_; have BK101 := n3_; have HB := n4_; clear n0_ n1_ n2_ n3_ n4_; (try clear hb); (try clear hb2); (try clear hk); (try clear hi); (try clear ho0)))
            go_loopg [16] kj3 (fun kq v16 w' => ∃ (x16_2 : Int), v16 = .int .i64 x16_2 ∧ Aside0 (icehouselaw10_QuorumOne.l0 kq t110 t112 t114 t118 x16_2 l0_0 a0_1 a0_2 = some r) ∧ Aside0 (kq ≤ kj3) ∧ Aside0 (Kd.R (Kd.int .i64) 3 w' w.heap.size (fun k_ => some k_ ≠ (v119 : Value).ownBlock) v115 t114) ∧ Aside0 (Kd.R (Kd.int .i64) 3 w' w.heap.size (fun k_ => some k_ ≠ (v115 : Value).ownBlock) v119 t118) ∧ Aside0 (w'.heap[gb101]? = some (.cells #[(.slice A0_0 l0_0.length c0_0), .int .i64 a0_1, .int .i64 a0_2] 42 (0, 0))) ∧ Aside0 (Below w.heap.size w w'))
            case atStart => exact ⟨(0), (by first | rfl | (simp; done) | (simp [*]; done)), H', ⟨Nat.le_refl _⟩, ⟨by (with_reducible repeat (first | apply Kd.R_alloc | apply Kd.R_drewN | apply Kd.R_drew)); exact Kd.R_mono HO116.out (fun _ hk => hk.2)⟩, ⟨by (with_reducible repeat (first | apply Kd.R_alloc | apply Kd.R_drewN | apply Kd.R_drew)); exact Kd.R_mono HO120.out (fun _ hk => hk.2)⟩, ⟨by (with_reducible repeat (first | refine blk_drewN ?_ _ | refine blk_drew ?_ | refine blk_alloc ?_ _)); exact BK101.out⟩, ⟨by repeat (first | (with_reducible first | exact HB.out | apply below_alloc | apply pw_below_drewN | apply below_drew1 | refine below_set ?_ GE101.out) | exact HB.out)⟩⟩
            case round =>
              clear H'
              try clear c1
              try clear c2
              try clear p2
              try clear c6
              try clear c6b0
              try clear c6b1
              try clear c7
              try clear c7b0
              try clear c7b1
              try clear c9
              try clear c9b0
              try clear c10
              try clear c14
              try clear c17
              try clear c18
              try clear c26
              try clear c27
              try clear hcz10_0
              try clear hcz10_1
              try clear hcz10_2
              try clear hcz12_0
              try clear hcz12_1
              try clear hcz12_2
              try clear hcz25_0
              try clear hcz25_1
              try clear hcz25_2
              try clear hcz27_0
              try clear hcz27_1
              try clear hcz27_2
              try clear hcz30_0
              try clear hcz30_1
              try clear hcz30_2
              try clear hcz32_0
              try clear hcz32_1
              try clear hcz32_2
              try clear hcz8_0
              try clear hcz8_1
              try clear hcz8_2
              try clear hfz10_0
              try clear hfz10_1
              try clear hfz10_2
              try clear hfz12_0
              try clear hfz12_1
              try clear hfz12_2
              try clear hfz25_0
              try clear hfz25_1
              try clear hfz25_2
              try clear hfz27_0
              try clear hfz27_1
              try clear hfz27_2
              try clear hfz30_0
              try clear hfz30_1
              try clear hfz30_2
              try clear hfz32_0
              try clear hfz32_1
              try clear hfz32_2
              try clear hfz8_0
              try clear hfz8_1
              try clear hfz8_2
              try clear p2
              obtain ⟨x16_2, rfl, HA, HK2, HO_12, HO_14, BK101, HB⟩ := hrel
              cases gk with
              | zero => exact absurd HA.out (by simp [icehouselaw10_QuorumOne.l0])
              | succ k2 =>
                have H := HA.out
                clear HA
                simp only [icehouselaw10_QuorumOne.l0] at H
                by_cases c34 : x16_2 < (t114.length : Int)
                · rw [if_pos c34] at H
                  have c34b0 : decide (x16_2 < (t114.length : Int)) = true := decide_eq_true c34
                  clear c34
                  by_cases c35 : 0 ≤ x16_2
                  · rw [if_pos c35] at H
                    have c35b0 : decide (0 ≤ x16_2) = true := decide_eq_true c35
                    clear c35
                    replace H := Option.bind_eq_some_iff.mp H
                    obtain ⟨t123, A360, H⟩ := H
                    replace H : (if t123 = true then (icehouselaw10_QuorumOne.l0 k2 t110 t112 t114 t118 (wrap64 (x16_2 + 1)) l0_0 a0_1 a0_2) else (some false)) = some r := H
                    have A36 := Aside0.mk A360
                    clear A360
                    by_cases c37 : t123 = true
                    · subst c37
                      have H1 : (icehouselaw10_QuorumOne.l0 k2 t110 t112 t114 t118 (wrap64 (x16_2 + 1)) l0_0 a0_1 a0_2) = some r := by rw [if_pos rfl] at H; exact H
                      clear H
                      have H := H1
                      clear H1
                      have H' := Aside0.mk H
                      clear H
                      obtain ⟨Ao38, co38, eo38⟩ := Kd.R_slice HO_12.out
                      subst eo38
                      have p122 : 0 ≤ (x16_2 : Int) := of_decide_eq_true (by first | (with_reducible assumption) | assumption)
                      have q122 : x16_2 < (t114.length : Int) := of_decide_eq_true (by first | (with_reducible assumption) | assumption)
                      obtain ⟨ad122, e122, hx122_0⟩ := Kd.at_int (Kd.R_reads' HO_12.out).2.2 x16_2 p122 q122
                      cases e122
                      replace p122 := eq_true p122
                      replace q122 := eq_true q122
                      obtain ⟨Ao39, co39, eo39⟩ := Kd.R_slice HO_14.out
                      subst eo39
                      go_wp2_with (first | ((with_reducible refine gate_callee (f := 22) rfl ?_); refine goesL_ (some 83) rfl rfl Try.func22 (by kernel_rfl) rfl #[.slice Ao39 t118.length co39, .int .i64 (rd t114 x16_2)] rfl (by (try simp only [List.map_toArray, List.map_cons, List.map_nil]); first | done | rfl | (simp only [List.length_drop, List.length_take]; rfl)) ?_; (with_reducible refine (QA.icehouseref09_Has.calls k2 _ _ t118 (rd t114 x16_2) true _ ?side1 ?side2 A36.out).mono ?_); (case side1 => repeat (first | exact (Kd.R_reads' HO_14.out).2.2 | (with_reducible refine Kd.C_alloc ?_ _) | (with_reducible refine Kd.C_drewN ?_ _) | (with_reducible refine Kd.C_drew ?_))); (case side2 => exact (Kd.R_reads' HO_14.out).2.1); rintro e w' ⟨rfl, ⟨nd, rfl⟩⟩; refine ⟨_, rfl, ?_⟩))
                      go_roundg k2
                      case measure => have := HJ3.out; have := HK2.out; omega
                      case rel => exact ⟨(wrap64 (x16_2 + 1)), (by first | rfl | (simp; done) | (simp [*]; done)), H', ⟨by have := HJ3.out; have := HK2.out; omega⟩, ⟨by (with_reducible repeat (first | apply Kd.R_alloc | apply Kd.R_drewN | apply Kd.R_drew)); exact HO_12.out⟩, ⟨by (with_reducible repeat (first | apply Kd.R_alloc | apply Kd.R_drewN | apply Kd.R_drew)); exact HO_14.out⟩, ⟨by (with_reducible repeat (first | refine blk_drewN ?_ _ | refine blk_drew ?_ | refine blk_alloc ?_ _)); exact BK101.out⟩, ⟨by repeat (first | (with_reducible first | exact HB.out | apply below_alloc | apply pw_below_drewN | apply below_drew1 | refine below_set ?_ GE101.out) | exact HB.out)⟩⟩
                    · replace c37 := Bool.eq_false_iff.mpr c37
                      subst c37
                      have H1 : (some false) = some r := by rw [if_neg (show ¬ (false = true) by decide)] at H; exact H
                      clear H
                      have H := H1
                      clear H1
                      obtain rfl := Option.some.inj H
                      obtain ⟨Ao40, co40, eo40⟩ := Kd.R_slice HO_12.out
                      subst eo40
                      have p122 : 0 ≤ (x16_2 : Int) := of_decide_eq_true (by first | (with_reducible assumption) | assumption)
                      have q122 : x16_2 < (t114.length : Int) := of_decide_eq_true (by first | (with_reducible assumption) | assumption)
                      obtain ⟨ad122, e122, hx122_0⟩ := Kd.at_int (Kd.R_reads' HO_12.out).2.2 x16_2 p122 q122
                      cases e122
                      replace p122 := eq_true p122
                      replace q122 := eq_true q122
                      obtain ⟨Ao41, co41, eo41⟩ := Kd.R_slice HO_14.out
                      subst eo41
                      go_wp2_with (first | ((with_reducible refine gate_callee (f := 22) rfl ?_); refine goesL_ (some 83) rfl rfl Try.func22 (by kernel_rfl) rfl #[.slice Ao41 t118.length co41, .int .i64 (rd t114 x16_2)] rfl (by (try simp only [List.map_toArray, List.map_cons, List.map_nil]); first | done | rfl | (simp only [List.length_drop, List.length_take]; rfl)) ?_; (with_reducible refine (QA.icehouseref09_Has.calls k2 _ _ t118 (rd t114 x16_2) false _ ?side1 ?side2 A36.out).mono ?_); (case side1 => repeat (first | exact (Kd.R_reads' HO_14.out).2.2 | (with_reducible refine Kd.C_alloc ?_ _) | (with_reducible refine Kd.C_drewN ?_ _) | (with_reducible refine Kd.C_drew ?_))); (case side2 => exact (Kd.R_reads' HO_14.out).2.1); rintro e w' ⟨rfl, ⟨nd, rfl⟩⟩; refine ⟨_, rfl, ?_⟩))
                      go_ret
                      exact ⟨by first | rfl | (simp [errW_none, errW_some] <;> rfl) | (simp [*, errW_none, errW_some] <;> rfl), by repeat (first | (with_reducible first | exact HB.out | apply below_alloc | apply pw_below_drewN | apply below_drew1 | refine below_set ?_ GE101.out) | exact HB.out)⟩
                  · rw [if_neg c35] at H
                    exact absurd H (by simp)
                · rw [if_neg c34] at H
                  have c34b0 : decide (x16_2 < (t114.length : Int)) = false := decide_eq_false c34
                  clear c34
                  replace H := Option.bind_eq_some_iff.mp H
                  obtain ⟨⟨t124, t125⟩, A420, H⟩ := H
                  replace H : ((Cv.covers.f k2 l0_0 a0_1 a0_2 ([] : List Int)).bind fun bt126 => (if t110 = true then (if t112 = true then (if t124 = true then (if t125 = 0 then (if bt126.1 = true then (some false) else (if bt126.2 = 0 then ((Fk.known.f).bind fun t128 => (some t128)) else (some false))) else (some false)) else (some false)) else (some false)) else (if t124 = true then (if t125 = 0 then (if bt126.1 = true then (some false) else (if bt126.2 = 0 then ((Fk.known.f).bind fun t129 => (some t129)) else (some false))) else (some false)) else (some false)))) = some r := H
                  have A42 := Aside0.mk A420
                  clear A420
                  replace H := Option.bind_eq_some_iff.mp H
                  obtain ⟨⟨t126, t127⟩, A430, H⟩ := H
                  replace H : (if t110 = true then (if t112 = true then (if t124 = true then (if t125 = 0 then (if t126 = true then (some false) else (if t127 = 0 then ((Fk.known.f).bind fun t128 => (some t128)) else (some false))) else (some false)) else (some false)) else (some false)) else (if t124 = true then (if t125 = 0 then (if t126 = true then (some false) else (if t127 = 0 then ((Fk.known.f).bind fun t129 => (some t129)) else (some false))) else (some false)) else (some false))) = some r := H
                  have A43 := Aside0.mk A430
                  clear A430
                  by_cases c44 : t110 = true
                  · subst c44
                    have H1 : (if t112 = true then (if t124 = true then (if t125 = 0 then (if t126 = true then (some false) else (if t127 = 0 then ((Fk.known.f).bind fun t128 => (some t128)) else (some false))) else (some false)) else (some false)) else (some false)) = some r := by rw [if_pos rfl] at H; exact H
                    clear H
                    have H := H1
                    clear H1
                    by_cases c45 : t112 = true
                    · subst c45
                      have H1 : (if t124 = true then (if t125 = 0 then (if t126 = true then (some false) else (if t127 = 0 then ((Fk.known.f).bind fun t128 => (some t128)) else (some false))) else (some false)) else (some false)) = some r := by rw [if_pos rfl] at H; exact H
                      clear H
                      have H := H1
                      clear H1
                      by_cases c46 : t124 = true
                      · subst c46
                        have H1 : (if t125 = 0 then (if t126 = true then (some false) else (if t127 = 0 then ((Fk.known.f).bind fun t128 => (some t128)) else (some false))) else (some false)) = some r := by rw [if_pos rfl] at H; exact H
                        clear H
                        have H := H1
                        clear H1
                        by_cases c47 : t125 = 0
                        · rw [if_pos c47] at H
                          have c47b0 : (t125 == 0) = true := beq_iff_eq.mpr c47
                          have c47b1 : (t125 != 0) = false := bne_eq_false_iff_eq.mpr c47
                          clear c47
                          by_cases c48 : t126 = true
                          · subst c48
                            have H1 : (some false) = some r := by rw [if_pos rfl] at H; exact H
                            clear H
                            have H := H1
                            clear H1
                            obtain rfl := Option.some.inj H
                            obtain ⟨Ao49, co49, eo49⟩ := Kd.R_slice HO_12.out
                            subst eo49
                            have hcz50_0 : wr.cell? ⟨gb101, 0, none⟩ = some (.slice A0_0 l0_0.length c0_0) := (blk_cell BK101.out 0).trans rfl
                            have hcz50_1 : wr.cell? ⟨gb101, 1, none⟩ = some (.int .i64 a0_1) := (blk_cell BK101.out 1).trans rfl
                            have hcz50_2 : wr.cell? ⟨gb101, 2, none⟩ = some (.int .i64 a0_2) := (blk_cell BK101.out 2).trans rfl
                            have hfz50_0 := blk_frozen BK101.out 0
                            have hfz50_1 := blk_frozen BK101.out 1
                            have hfz50_2 := blk_frozen BK101.out 2
                            go_wp2_with (first | ((with_reducible refine gate_callee (f := 26) rfl ?_); refine goesL_ (some 89) rfl rfl Try.func26 (by kernel_rfl) rfl #[.agg #[.slice A0_0 l0_0.length c0_0, .int .i64 a0_1, .int .i64 a0_2], .slice A0_0 l0_0.length c0_0] rfl (by (try simp only [List.map_toArray, List.map_cons, List.map_nil]); first | done | rfl | (simp only [List.length_drop, List.length_take]; rfl)) ?_; (with_reducible refine (Cv.covers.calls k2 _ _ l0_0 a0_1 a0_2 _ _ l0_0 true t125 _ ?side1 ?side2 ?side3 ?side4 A42.out).mono ?_); (case side1 => repeat (first | exact (Kd.C_below HR0_0.out HB.out) | (with_reducible refine Kd.C_alloc ?_ _) | (with_reducible refine Kd.C_drewN ?_ _) | (with_reducible refine Kd.C_drew ?_))); (case side2 => exact HC0_0.out); (case side3 => repeat (first | exact (Kd.C_below HR0_0.out HB.out) | (with_reducible refine Kd.C_alloc ?_ _) | (with_reducible refine Kd.C_drewN ?_ _) | (with_reducible refine Kd.C_drew ?_))); (case side4 => exact HC0_0.out); rintro e w51 ⟨rfl, hb⟩; refine ⟨_, rfl, ?_⟩; have n0_ := Aside0.mk (Kd.R_below (by (with_reducible repeat (first | apply Kd.R_alloc | apply Kd.R_drewN | apply Kd.R_drew)); exact HO_12.out) hb); have n1_ := Aside0.mk (Kd.R_below (by (with_reducible repeat (first | apply Kd.R_alloc | apply Kd.R_drewN | apply Kd.R_drew)); exact HO_14.out) hb); have n2_ := Aside0.mk (blk_below (g := gb101) (o := .cells #[.slice A0_0 l0_0.length c0_0, .int .i64 a0_1, .int .i64 a0_2] 42 (0, 0)) (by (with_reducible repeat (first | refine blk_drewN ?_ _ | refine blk_drew ?_ | refine blk_alloc ?_ _)); exact BK101.out) hb); have n3_ := Aside0.mk (below_step (by repeat (first | (with_reducible first | exact HB.out | apply below_alloc | apply pw_below_drewN | apply below_drew1 | refine below_set ?_ GE101.out) | exact HB.out)) hb); clear HO_12; clear HO_14; clear BK101; clear HB; have HO_12 := n0_; have HO_14 := n1_; have BK101 := n2_; have HB := n3_; clear n0_ n1_ n2_ n3_; (try clear hb); (try clear hb2); (try clear hk); (try clear hi); have hcz52_0 : w51.cell? ⟨gb101, 0, none⟩ = some (.slice A0_0 l0_0.length c0_0) := (blk_cell BK101.out 0).trans rfl; have hcz52_1 : w51.cell? ⟨gb101, 1, none⟩ = some (.int .i64 a0_1) := (blk_cell BK101.out 1).trans rfl; have hcz52_2 : w51.cell? ⟨gb101, 2, none⟩ = some (.int .i64 a0_2) := (blk_cell BK101.out 2).trans rfl; have hfz52_0 := blk_frozen BK101.out 0; have hfz52_1 := blk_frozen BK101.out 1; have hfz52_2 := blk_frozen BK101.out 2) | ((with_reducible refine gate_callee (f := 26) rfl ?_); refine goesL_ (some 94) rfl rfl Try.func26 (by kernel_rfl) rfl #[.agg #[.slice A0_0 l0_0.length c0_0, .int .i64 a0_1, .int .i64 a0_2], .slice none 0 0] rfl (by (try simp only [List.map_toArray, List.map_cons, List.map_nil]); first | done | rfl | (simp only [List.length_drop, List.length_take]; rfl)) ?_; (refine (Cv.covers.calls k2 _ _ l0_0 a0_1 a0_2 _ _ ([] : List Int) true t127 _ ?side1 ?side2 ?side3 ?side4 A43.out).mono ?_); (case side1 => repeat (first | exact (Kd.C_below HR0_0.out HB.out) | (with_reducible refine Kd.C_alloc ?_ _) | (with_reducible refine Kd.C_drewN ?_ _) | (with_reducible refine Kd.C_drew ?_))); (case side2 => exact HC0_0.out); (case side3 => exact Kd.C_nil _ _); (case side4 => exact Nat.le_refl _); rintro e w53 ⟨rfl, hb⟩; refine ⟨_, rfl, ?_⟩; have n0_ := Aside0.mk (Kd.R_below (by (with_reducible repeat (first | apply Kd.R_alloc | apply Kd.R_drewN | apply Kd.R_drew)); exact HO_12.out) hb); have n1_ := Aside0.mk (Kd.R_below (by (with_reducible repeat (first | apply Kd.R_alloc | apply Kd.R_drewN | apply Kd.R_drew)); exact HO_14.out) hb); have n2_ := Aside0.mk (blk_below (g := gb101) (o := .cells #[.slice A0_0 l0_0.length c0_0, .int .i64 a0_1, .int .i64 a0_2] 42 (0, 0)) (by (with_reducible repeat (first | refine blk_drewN ?_ _ | refine blk_drew ?_ | refine blk_alloc ?_ _)); exact BK101.out) hb); have n3_ := Aside0.mk (below_step (by repeat (first | (with_reducible first | exact HB.out | apply below_alloc | apply pw_below_drewN | apply below_drew1 | refine below_set ?_ GE101.out) | exact HB.out)) hb); clear HO_12; clear HO_14; clear BK101; clear HB; have HO_12 := n0_; have HO_14 := n1_; have BK101 := n2_; have HB := n3_; clear n0_ n1_ n2_ n3_; (try clear hb); (try clear hb2); (try clear hk); (try clear hi)))
                            go_ret
                            exact ⟨by first | rfl | (simp [errW_none, errW_some] <;> rfl) | (simp [*, errW_none, errW_some] <;> rfl), by repeat (first | (with_reducible first | exact HB.out | apply below_alloc | apply pw_below_drewN | apply below_drew1 | refine below_set ?_ GE101.out) | exact HB.out)⟩
                          · replace c48 := Bool.eq_false_iff.mpr c48
                            subst c48
                            have H1 : (if t127 = 0 then ((Fk.known.f).bind fun t128 => (some t128)) else (some false)) = some r := by rw [if_neg (show ¬ (false = true) by decide)] at H; exact H
                            clear H
                            have H := H1
                            clear H1
                            by_cases c54 : t127 = 0
                            · rw [if_pos c54] at H
                              have c54b0 : (t127 == 0) = true := beq_iff_eq.mpr c54
                              have c54b1 : (t127 != 0) = false := bne_eq_false_iff_eq.mpr c54
                              clear c54
                              replace H := Option.bind_eq_some_iff.mp H
                              obtain ⟨t128, A550, H⟩ := H
                              replace H : (some t128) = some r := H
                              have A55 := Aside0.mk A550
                              clear A550
                              obtain rfl := Option.some.inj H
                              obtain ⟨Ao56, co56, eo56⟩ := Kd.R_slice HO_12.out
                              subst eo56
                              have hcz57_0 : wr.cell? ⟨gb101, 0, none⟩ = some (.slice A0_0 l0_0.length c0_0) := (blk_cell BK101.out 0).trans rfl
                              have hcz57_1 : wr.cell? ⟨gb101, 1, none⟩ = some (.int .i64 a0_1) := (blk_cell BK101.out 1).trans rfl
                              have hcz57_2 : wr.cell? ⟨gb101, 2, none⟩ = some (.int .i64 a0_2) := (blk_cell BK101.out 2).trans rfl
                              have hfz57_0 := blk_frozen BK101.out 0
                              have hfz57_1 := blk_frozen BK101.out 1
                              have hfz57_2 := blk_frozen BK101.out 2
                              go_wp2_with (first | ((with_reducible refine gate_callee (f := 26) rfl ?_); refine goesL_ (some 89) rfl rfl Try.func26 (by kernel_rfl) rfl #[.agg #[.slice A0_0 l0_0.length c0_0, .int .i64 a0_1, .int .i64 a0_2], .slice A0_0 l0_0.length c0_0] rfl (by (try simp only [List.map_toArray, List.map_cons, List.map_nil]); first | done | rfl | (simp only [List.length_drop, List.length_take]; rfl)) ?_; (with_reducible refine (Cv.covers.calls k2 _ _ l0_0 a0_1 a0_2 _ _ l0_0 true t125 _ ?side1 ?side2 ?side3 ?side4 A42.out).mono ?_); (case side1 => repeat (first | exact (Kd.C_below HR0_0.out HB.out) | (with_reducible refine Kd.C_alloc ?_ _) | (with_reducible refine Kd.C_drewN ?_ _) | (with_reducible refine Kd.C_drew ?_))); (case side2 => exact HC0_0.out); (case side3 => repeat (first | exact (Kd.C_below HR0_0.out HB.out) | (with_reducible refine Kd.C_alloc ?_ _) | (with_reducible refine Kd.C_drewN ?_ _) | (with_reducible refine Kd.C_drew ?_))); (case side4 => exact HC0_0.out); rintro e w58 ⟨rfl, hb⟩; refine ⟨_, rfl, ?_⟩; have n0_ := Aside0.mk (Kd.R_below (by (with_reducible repeat (first | apply Kd.R_alloc | apply Kd.R_drewN | apply Kd.R_drew)); exact HO_12.out) hb); have n1_ := Aside0.mk (Kd.R_below (by (with_reducible repeat (first | apply Kd.R_alloc | apply Kd.R_drewN | apply Kd.R_drew)); exact HO_14.out) hb); have n2_ := Aside0.mk (blk_below (g := gb101) (o := .cells #[.slice A0_0 l0_0.length c0_0, .int .i64 a0_1, .int .i64 a0_2] 42 (0, 0)) (by (with_reducible repeat (first | refine blk_drewN ?_ _ | refine blk_drew ?_ | refine blk_alloc ?_ _)); exact BK101.out) hb); have n3_ := Aside0.mk (below_step (by repeat (first | (with_reducible first | exact HB.out | apply below_alloc | apply pw_below_drewN | apply below_drew1 | refine below_set ?_ GE101.out) | exact HB.out)) hb); clear HO_12; clear HO_14; clear BK101; clear HB; have HO_12 := n0_; have HO_14 := n1_; have BK101 := n2_; have HB := n3_; clear n0_ n1_ n2_ n3_; (try clear hb); (try clear hb2); (try clear hk); (try clear hi); have hcz59_0 : w58.cell? ⟨gb101, 0, none⟩ = some (.slice A0_0 l0_0.length c0_0) := (blk_cell BK101.out 0).trans rfl; have hcz59_1 : w58.cell? ⟨gb101, 1, none⟩ = some (.int .i64 a0_1) := (blk_cell BK101.out 1).trans rfl; have hcz59_2 : w58.cell? ⟨gb101, 2, none⟩ = some (.int .i64 a0_2) := (blk_cell BK101.out 2).trans rfl; have hfz59_0 := blk_frozen BK101.out 0; have hfz59_1 := blk_frozen BK101.out 1; have hfz59_2 := blk_frozen BK101.out 2) | ((with_reducible refine gate_callee (f := 26) rfl ?_); refine goesL_ (some 94) rfl rfl Try.func26 (by kernel_rfl) rfl #[.agg #[.slice A0_0 l0_0.length c0_0, .int .i64 a0_1, .int .i64 a0_2], .slice none 0 0] rfl (by (try simp only [List.map_toArray, List.map_cons, List.map_nil]); first | done | rfl | (simp only [List.length_drop, List.length_take]; rfl)) ?_; (refine (Cv.covers.calls k2 _ _ l0_0 a0_1 a0_2 _ _ ([] : List Int) false t127 _ ?side1 ?side2 ?side3 ?side4 A43.out).mono ?_); (case side1 => repeat (first | exact (Kd.C_below HR0_0.out HB.out) | (with_reducible refine Kd.C_alloc ?_ _) | (with_reducible refine Kd.C_drewN ?_ _) | (with_reducible refine Kd.C_drew ?_))); (case side2 => exact HC0_0.out); (case side3 => exact Kd.C_nil _ _); (case side4 => exact Nat.le_refl _); rintro e w60 ⟨rfl, hb⟩; refine ⟨_, rfl, ?_⟩; have n0_ := Aside0.mk (Kd.R_below (by (with_reducible repeat (first | apply Kd.R_alloc | apply Kd.R_drewN | apply Kd.R_drew)); exact HO_12.out) hb); have n1_ := Aside0.mk (Kd.R_below (by (with_reducible repeat (first | apply Kd.R_alloc | apply Kd.R_drewN | apply Kd.R_drew)); exact HO_14.out) hb); have n2_ := Aside0.mk (blk_below (g := gb101) (o := .cells #[.slice A0_0 l0_0.length c0_0, .int .i64 a0_1, .int .i64 a0_2] 42 (0, 0)) (by (with_reducible repeat (first | refine blk_drewN ?_ _ | refine blk_drew ?_ | refine blk_alloc ?_ _)); exact BK101.out) hb); have n3_ := Aside0.mk (below_step (by repeat (first | (with_reducible first | exact HB.out | apply below_alloc | apply pw_below_drewN | apply below_drew1 | refine below_set ?_ GE101.out) | exact HB.out)) hb); clear HO_12; clear HO_14; clear BK101; clear HB; have HO_12 := n0_; have HO_14 := n1_; have BK101 := n2_; have HB := n3_; clear n0_ n1_ n2_ n3_; (try clear hb); (try clear hb2); (try clear hk); (try clear hi)) | (go_at_call 10; (with_reducible refine (Fk.known.calls  t128 _ A55.out).mono ?_); rintro e w61 ⟨rfl, hb⟩; have n0_ := Aside0.mk (Kd.R_below (by (with_reducible repeat (first | apply Kd.R_alloc | apply Kd.R_drewN | apply Kd.R_drew)); exact HO_12.out) hb); have n1_ := Aside0.mk (Kd.R_below (by (with_reducible repeat (first | apply Kd.R_alloc | apply Kd.R_drewN | apply Kd.R_drew)); exact HO_14.out) hb); have n2_ := Aside0.mk (blk_below (g := gb101) (o := .cells #[.slice A0_0 l0_0.length c0_0, .int .i64 a0_1, .int .i64 a0_2] 42 (0, 0)) (by (with_reducible repeat (first | refine blk_drewN ?_ _ | refine blk_drew ?_ | refine blk_alloc ?_ _)); exact BK101.out) hb); have n3_ := Aside0.mk (below_step (by repeat (first | (with_reducible first | exact HB.out | apply below_alloc | apply pw_below_drewN | apply below_drew1 | refine below_set ?_ GE101.out) | exact HB.out)) hb); clear HO_12; clear HO_14; clear BK101; clear HB; have HO_12 := n0_; have HO_14 := n1_; have BK101 := n2_; have HB := n3_; clear n0_ n1_ n2_ n3_; (try clear hb); (try clear hb2); (try clear hk); (try clear hi)))
                              go_ret
                              exact ⟨by first | rfl | (simp [errW_none, errW_some] <;> rfl) | (simp [*, errW_none, errW_some] <;> rfl), by repeat (first | (with_reducible first | exact HB.out | apply below_alloc | apply pw_below_drewN | apply below_drew1 | refine below_set ?_ GE101.out) | exact HB.out)⟩
                            · rw [if_neg c54] at H
                              have c54b0 : (t127 == 0) = false := beq_eq_false_iff_ne.mpr c54
                              have c54b1 : (t127 != 0) = true := bne_iff_ne.mpr c54
                              obtain rfl := Option.some.inj H
                              obtain ⟨Ao62, co62, eo62⟩ := Kd.R_slice HO_12.out
                              subst eo62
                              have hcz63_0 : wr.cell? ⟨gb101, 0, none⟩ = some (.slice A0_0 l0_0.length c0_0) := (blk_cell BK101.out 0).trans rfl
                              have hcz63_1 : wr.cell? ⟨gb101, 1, none⟩ = some (.int .i64 a0_1) := (blk_cell BK101.out 1).trans rfl
                              have hcz63_2 : wr.cell? ⟨gb101, 2, none⟩ = some (.int .i64 a0_2) := (blk_cell BK101.out 2).trans rfl
                              have hfz63_0 := blk_frozen BK101.out 0
                              have hfz63_1 := blk_frozen BK101.out 1
                              have hfz63_2 := blk_frozen BK101.out 2
                              go_wp2_with (first | ((with_reducible refine gate_callee (f := 26) rfl ?_); refine goesL_ (some 89) rfl rfl Try.func26 (by kernel_rfl) rfl #[.agg #[.slice A0_0 l0_0.length c0_0, .int .i64 a0_1, .int .i64 a0_2], .slice A0_0 l0_0.length c0_0] rfl (by (try simp only [List.map_toArray, List.map_cons, List.map_nil]); first | done | rfl | (simp only [List.length_drop, List.length_take]; rfl)) ?_; (with_reducible refine (Cv.covers.calls k2 _ _ l0_0 a0_1 a0_2 _ _ l0_0 true t125 _ ?side1 ?side2 ?side3 ?side4 A42.out).mono ?_); (case side1 => repeat (first | exact (Kd.C_below HR0_0.out HB.out) | (with_reducible refine Kd.C_alloc ?_ _) | (with_reducible refine Kd.C_drewN ?_ _) | (with_reducible refine Kd.C_drew ?_))); (case side2 => exact HC0_0.out); (case side3 => repeat (first | exact (Kd.C_below HR0_0.out HB.out) | (with_reducible refine Kd.C_alloc ?_ _) | (with_reducible refine Kd.C_drewN ?_ _) | (with_reducible refine Kd.C_drew ?_))); (case side4 => exact HC0_0.out); rintro e w64 ⟨rfl, hb⟩; refine ⟨_, rfl, ?_⟩; have n0_ := Aside0.mk (Kd.R_below (by (with_reducible repeat (first | apply Kd.R_alloc | apply Kd.R_drewN | apply Kd.R_drew)); exact HO_12.out) hb); have n1_ := Aside0.mk (Kd.R_below (by (with_reducible repeat (first | apply Kd.R_alloc | apply Kd.R_drewN | apply Kd.R_drew)); exact HO_14.out) hb); have n2_ := Aside0.mk (blk_below (g := gb101) (o := .cells #[.slice A0_0 l0_0.length c0_0, .int .i64 a0_1, .int .i64 a0_2] 42 (0, 0)) (by (with_reducible repeat (first | refine blk_drewN ?_ _ | refine blk_drew ?_ | refine blk_alloc ?_ _)); exact BK101.out) hb); have n3_ := Aside0.mk (below_step (by repeat (first | (with_reducible first | exact HB.out | apply below_alloc | apply pw_below_drewN | apply below_drew1 | refine below_set ?_ GE101.out) | exact HB.out)) hb); clear HO_12; clear HO_14; clear BK101; clear HB; have HO_12 := n0_; have HO_14 := n1_; have BK101 := n2_; have HB := n3_; clear n0_ n1_ n2_ n3_; (try clear hb); (try clear hb2); (try clear hk); (try clear hi); have hcz65_0 : w64.cell? ⟨gb101, 0, none⟩ = some (.slice A0_0 l0_0.length c0_0) := (blk_cell BK101.out 0).trans rfl; have hcz65_1 : w64.cell? ⟨gb101, 1, none⟩ = some (.int .i64 a0_1) := (blk_cell BK101.out 1).trans rfl; have hcz65_2 : w64.cell? ⟨gb101, 2, none⟩ = some (.int .i64 a0_2) := (blk_cell BK101.out 2).trans rfl; have hfz65_0 := blk_frozen BK101.out 0; have hfz65_1 := blk_frozen BK101.out 1; have hfz65_2 := blk_frozen BK101.out 2) | ((with_reducible refine gate_callee (f := 26) rfl ?_); refine goesL_ (some 94) rfl rfl Try.func26 (by kernel_rfl) rfl #[.agg #[.slice A0_0 l0_0.length c0_0, .int .i64 a0_1, .int .i64 a0_2], .slice none 0 0] rfl (by (try simp only [List.map_toArray, List.map_cons, List.map_nil]); first | done | rfl | (simp only [List.length_drop, List.length_take]; rfl)) ?_; (refine (Cv.covers.calls k2 _ _ l0_0 a0_1 a0_2 _ _ ([] : List Int) false t127 _ ?side1 ?side2 ?side3 ?side4 A43.out).mono ?_); (case side1 => repeat (first | exact (Kd.C_below HR0_0.out HB.out) | (with_reducible refine Kd.C_alloc ?_ _) | (with_reducible refine Kd.C_drewN ?_ _) | (with_reducible refine Kd.C_drew ?_))); (case side2 => exact HC0_0.out); (case side3 => exact Kd.C_nil _ _); (case side4 => exact Nat.le_refl _); rintro e w66 ⟨rfl, hb⟩; refine ⟨_, rfl, ?_⟩; have n0_ := Aside0.mk (Kd.R_below (by (with_reducible repeat (first | apply Kd.R_alloc | apply Kd.R_drewN | apply Kd.R_drew)); exact HO_12.out) hb); have n1_ := Aside0.mk (Kd.R_below (by (with_reducible repeat (first | apply Kd.R_alloc | apply Kd.R_drewN | apply Kd.R_drew)); exact HO_14.out) hb); have n2_ := Aside0.mk (blk_below (g := gb101) (o := .cells #[.slice A0_0 l0_0.length c0_0, .int .i64 a0_1, .int .i64 a0_2] 42 (0, 0)) (by (with_reducible repeat (first | refine blk_drewN ?_ _ | refine blk_drew ?_ | refine blk_alloc ?_ _)); exact BK101.out) hb); have n3_ := Aside0.mk (below_step (by repeat (first | (with_reducible first | exact HB.out | apply below_alloc | apply pw_below_drewN | apply below_drew1 | refine below_set ?_ GE101.out) | exact HB.out)) hb); clear HO_12; clear HO_14; clear BK101; clear HB; have HO_12 := n0_; have HO_14 := n1_; have BK101 := n2_; have HB := n3_; clear n0_ n1_ n2_ n3_; (try clear hb); (try clear hb2); (try clear hk); (try clear hi)))
                              go_ret
                              exact ⟨by first | rfl | (simp [errW_none, errW_some] <;> rfl) | (simp [*, errW_none, errW_some] <;> rfl), by repeat (first | (with_reducible first | exact HB.out | apply below_alloc | apply pw_below_drewN | apply below_drew1 | refine below_set ?_ GE101.out) | exact HB.out)⟩
                        · rw [if_neg c47] at H
                          have c47b0 : (t125 == 0) = false := beq_eq_false_iff_ne.mpr c47
                          have c47b1 : (t125 != 0) = true := bne_iff_ne.mpr c47
                          obtain rfl := Option.some.inj H
                          obtain ⟨Ao67, co67, eo67⟩ := Kd.R_slice HO_12.out
                          subst eo67
                          have hcz68_0 : wr.cell? ⟨gb101, 0, none⟩ = some (.slice A0_0 l0_0.length c0_0) := (blk_cell BK101.out 0).trans rfl
                          have hcz68_1 : wr.cell? ⟨gb101, 1, none⟩ = some (.int .i64 a0_1) := (blk_cell BK101.out 1).trans rfl
                          have hcz68_2 : wr.cell? ⟨gb101, 2, none⟩ = some (.int .i64 a0_2) := (blk_cell BK101.out 2).trans rfl
                          have hfz68_0 := blk_frozen BK101.out 0
                          have hfz68_1 := blk_frozen BK101.out 1
                          have hfz68_2 := blk_frozen BK101.out 2
                          go_wp2_with (first | ((with_reducible refine gate_callee (f := 26) rfl ?_); refine goesL_ (some 89) rfl rfl Try.func26 (by kernel_rfl) rfl #[.agg #[.slice A0_0 l0_0.length c0_0, .int .i64 a0_1, .int .i64 a0_2], .slice A0_0 l0_0.length c0_0] rfl (by (try simp only [List.map_toArray, List.map_cons, List.map_nil]); first | done | rfl | (simp only [List.length_drop, List.length_take]; rfl)) ?_; (with_reducible refine (Cv.covers.calls k2 _ _ l0_0 a0_1 a0_2 _ _ l0_0 true t125 _ ?side1 ?side2 ?side3 ?side4 A42.out).mono ?_); (case side1 => repeat (first | exact (Kd.C_below HR0_0.out HB.out) | (with_reducible refine Kd.C_alloc ?_ _) | (with_reducible refine Kd.C_drewN ?_ _) | (with_reducible refine Kd.C_drew ?_))); (case side2 => exact HC0_0.out); (case side3 => repeat (first | exact (Kd.C_below HR0_0.out HB.out) | (with_reducible refine Kd.C_alloc ?_ _) | (with_reducible refine Kd.C_drewN ?_ _) | (with_reducible refine Kd.C_drew ?_))); (case side4 => exact HC0_0.out); rintro e w69 ⟨rfl, hb⟩; refine ⟨_, rfl, ?_⟩; have n0_ := Aside0.mk (Kd.R_below (by (with_reducible repeat (first | apply Kd.R_alloc | apply Kd.R_drewN | apply Kd.R_drew)); exact HO_12.out) hb); have n1_ := Aside0.mk (Kd.R_below (by (with_reducible repeat (first | apply Kd.R_alloc | apply Kd.R_drewN | apply Kd.R_drew)); exact HO_14.out) hb); have n2_ := Aside0.mk (blk_below (g := gb101) (o := .cells #[.slice A0_0 l0_0.length c0_0, .int .i64 a0_1, .int .i64 a0_2] 42 (0, 0)) (by (with_reducible repeat (first | refine blk_drewN ?_ _ | refine blk_drew ?_ | refine blk_alloc ?_ _)); exact BK101.out) hb); have n3_ := Aside0.mk (below_step (by repeat (first | (with_reducible first | exact HB.out | apply below_alloc | apply pw_below_drewN | apply below_drew1 | refine below_set ?_ GE101.out) | exact HB.out)) hb); clear HO_12; clear HO_14; clear BK101; clear HB; have HO_12 := n0_; have HO_14 := n1_; have BK101 := n2_; have HB := n3_; clear n0_ n1_ n2_ n3_; (try clear hb); (try clear hb2); (try clear hk); (try clear hi); have hcz70_0 : w69.cell? ⟨gb101, 0, none⟩ = some (.slice A0_0 l0_0.length c0_0) := (blk_cell BK101.out 0).trans rfl; have hcz70_1 : w69.cell? ⟨gb101, 1, none⟩ = some (.int .i64 a0_1) := (blk_cell BK101.out 1).trans rfl; have hcz70_2 : w69.cell? ⟨gb101, 2, none⟩ = some (.int .i64 a0_2) := (blk_cell BK101.out 2).trans rfl; have hfz70_0 := blk_frozen BK101.out 0; have hfz70_1 := blk_frozen BK101.out 1; have hfz70_2 := blk_frozen BK101.out 2) | ((with_reducible refine gate_callee (f := 26) rfl ?_); refine goesL_ (some 94) rfl rfl Try.func26 (by kernel_rfl) rfl #[.agg #[.slice A0_0 l0_0.length c0_0, .int .i64 a0_1, .int .i64 a0_2], .slice none 0 0] rfl (by (try simp only [List.map_toArray, List.map_cons, List.map_nil]); first | done | rfl | (simp only [List.length_drop, List.length_take]; rfl)) ?_; (refine (Cv.covers.calls k2 _ _ l0_0 a0_1 a0_2 _ _ ([] : List Int) t126 t127 _ ?side1 ?side2 ?side3 ?side4 A43.out).mono ?_); (case side1 => repeat (first | exact (Kd.C_below HR0_0.out HB.out) | (with_reducible refine Kd.C_alloc ?_ _) | (with_reducible refine Kd.C_drewN ?_ _) | (with_reducible refine Kd.C_drew ?_))); (case side2 => exact HC0_0.out); (case side3 => exact Kd.C_nil _ _); (case side4 => exact Nat.le_refl _); rintro e w71 ⟨rfl, hb⟩; refine ⟨_, rfl, ?_⟩; have n0_ := Aside0.mk (Kd.R_below (by (with_reducible repeat (first | apply Kd.R_alloc | apply Kd.R_drewN | apply Kd.R_drew)); exact HO_12.out) hb); have n1_ := Aside0.mk (Kd.R_below (by (with_reducible repeat (first | apply Kd.R_alloc | apply Kd.R_drewN | apply Kd.R_drew)); exact HO_14.out) hb); have n2_ := Aside0.mk (blk_below (g := gb101) (o := .cells #[.slice A0_0 l0_0.length c0_0, .int .i64 a0_1, .int .i64 a0_2] 42 (0, 0)) (by (with_reducible repeat (first | refine blk_drewN ?_ _ | refine blk_drew ?_ | refine blk_alloc ?_ _)); exact BK101.out) hb); have n3_ := Aside0.mk (below_step (by repeat (first | (with_reducible first | exact HB.out | apply below_alloc | apply pw_below_drewN | apply below_drew1 | refine below_set ?_ GE101.out) | exact HB.out)) hb); clear HO_12; clear HO_14; clear BK101; clear HB; have HO_12 := n0_; have HO_14 := n1_; have BK101 := n2_; have HB := n3_; clear n0_ n1_ n2_ n3_; (try clear hb); (try clear hb2); (try clear hk); (try clear hi)))
                          go_ret
                          exact ⟨by first | rfl | (simp [errW_none, errW_some] <;> rfl) | (simp [*, errW_none, errW_some] <;> rfl), by repeat (first | (with_reducible first | exact HB.out | apply below_alloc | apply pw_below_drewN | apply below_drew1 | refine below_set ?_ GE101.out) | exact HB.out)⟩
                      · replace c46 := Bool.eq_false_iff.mpr c46
                        subst c46
                        have H1 : (some false) = some r := by rw [if_neg (show ¬ (false = true) by decide)] at H; exact H
                        clear H
                        have H := H1
                        clear H1
                        obtain rfl := Option.some.inj H
                        obtain ⟨Ao72, co72, eo72⟩ := Kd.R_slice HO_12.out
                        subst eo72
                        have hcz73_0 : wr.cell? ⟨gb101, 0, none⟩ = some (.slice A0_0 l0_0.length c0_0) := (blk_cell BK101.out 0).trans rfl
                        have hcz73_1 : wr.cell? ⟨gb101, 1, none⟩ = some (.int .i64 a0_1) := (blk_cell BK101.out 1).trans rfl
                        have hcz73_2 : wr.cell? ⟨gb101, 2, none⟩ = some (.int .i64 a0_2) := (blk_cell BK101.out 2).trans rfl
                        have hfz73_0 := blk_frozen BK101.out 0
                        have hfz73_1 := blk_frozen BK101.out 1
                        have hfz73_2 := blk_frozen BK101.out 2
                        go_wp2_with (first | ((with_reducible refine gate_callee (f := 26) rfl ?_); refine goesL_ (some 89) rfl rfl Try.func26 (by kernel_rfl) rfl #[.agg #[.slice A0_0 l0_0.length c0_0, .int .i64 a0_1, .int .i64 a0_2], .slice A0_0 l0_0.length c0_0] rfl (by (try simp only [List.map_toArray, List.map_cons, List.map_nil]); first | done | rfl | (simp only [List.length_drop, List.length_take]; rfl)) ?_; (with_reducible refine (Cv.covers.calls k2 _ _ l0_0 a0_1 a0_2 _ _ l0_0 false t125 _ ?side1 ?side2 ?side3 ?side4 A42.out).mono ?_); (case side1 => repeat (first | exact (Kd.C_below HR0_0.out HB.out) | (with_reducible refine Kd.C_alloc ?_ _) | (with_reducible refine Kd.C_drewN ?_ _) | (with_reducible refine Kd.C_drew ?_))); (case side2 => exact HC0_0.out); (case side3 => repeat (first | exact (Kd.C_below HR0_0.out HB.out) | (with_reducible refine Kd.C_alloc ?_ _) | (with_reducible refine Kd.C_drewN ?_ _) | (with_reducible refine Kd.C_drew ?_))); (case side4 => exact HC0_0.out); rintro e w74 ⟨rfl, hb⟩; refine ⟨_, rfl, ?_⟩; have n0_ := Aside0.mk (Kd.R_below (by (with_reducible repeat (first | apply Kd.R_alloc | apply Kd.R_drewN | apply Kd.R_drew)); exact HO_12.out) hb); have n1_ := Aside0.mk (Kd.R_below (by (with_reducible repeat (first | apply Kd.R_alloc | apply Kd.R_drewN | apply Kd.R_drew)); exact HO_14.out) hb); have n2_ := Aside0.mk (blk_below (g := gb101) (o := .cells #[.slice A0_0 l0_0.length c0_0, .int .i64 a0_1, .int .i64 a0_2] 42 (0, 0)) (by (with_reducible repeat (first | refine blk_drewN ?_ _ | refine blk_drew ?_ | refine blk_alloc ?_ _)); exact BK101.out) hb); have n3_ := Aside0.mk (below_step (by repeat (first | (with_reducible first | exact HB.out | apply below_alloc | apply pw_below_drewN | apply below_drew1 | refine below_set ?_ GE101.out) | exact HB.out)) hb); clear HO_12; clear HO_14; clear BK101; clear HB; have HO_12 := n0_; have HO_14 := n1_; have BK101 := n2_; have HB := n3_; clear n0_ n1_ n2_ n3_; (try clear hb); (try clear hb2); (try clear hk); (try clear hi); have hcz75_0 : w74.cell? ⟨gb101, 0, none⟩ = some (.slice A0_0 l0_0.length c0_0) := (blk_cell BK101.out 0).trans rfl; have hcz75_1 : w74.cell? ⟨gb101, 1, none⟩ = some (.int .i64 a0_1) := (blk_cell BK101.out 1).trans rfl; have hcz75_2 : w74.cell? ⟨gb101, 2, none⟩ = some (.int .i64 a0_2) := (blk_cell BK101.out 2).trans rfl; have hfz75_0 := blk_frozen BK101.out 0; have hfz75_1 := blk_frozen BK101.out 1; have hfz75_2 := blk_frozen BK101.out 2) | ((with_reducible refine gate_callee (f := 26) rfl ?_); refine goesL_ (some 94) rfl rfl Try.func26 (by kernel_rfl) rfl #[.agg #[.slice A0_0 l0_0.length c0_0, .int .i64 a0_1, .int .i64 a0_2], .slice none 0 0] rfl (by (try simp only [List.map_toArray, List.map_cons, List.map_nil]); first | done | rfl | (simp only [List.length_drop, List.length_take]; rfl)) ?_; (refine (Cv.covers.calls k2 _ _ l0_0 a0_1 a0_2 _ _ ([] : List Int) t126 t127 _ ?side1 ?side2 ?side3 ?side4 A43.out).mono ?_); (case side1 => repeat (first | exact (Kd.C_below HR0_0.out HB.out) | (with_reducible refine Kd.C_alloc ?_ _) | (with_reducible refine Kd.C_drewN ?_ _) | (with_reducible refine Kd.C_drew ?_))); (case side2 => exact HC0_0.out); (case side3 => exact Kd.C_nil _ _); (case side4 => exact Nat.le_refl _); rintro e w76 ⟨rfl, hb⟩; refine ⟨_, rfl, ?_⟩; have n0_ := Aside0.mk (Kd.R_below (by (with_reducible repeat (first | apply Kd.R_alloc | apply Kd.R_drewN | apply Kd.R_drew)); exact HO_12.out) hb); have n1_ := Aside0.mk (Kd.R_below (by (with_reducible repeat (first | apply Kd.R_alloc | apply Kd.R_drewN | apply Kd.R_drew)); exact HO_14.out) hb); have n2_ := Aside0.mk (blk_below (g := gb101) (o := .cells #[.slice A0_0 l0_0.length c0_0, .int .i64 a0_1, .int .i64 a0_2] 42 (0, 0)) (by (with_reducible repeat (first | refine blk_drewN ?_ _ | refine blk_drew ?_ | refine blk_alloc ?_ _)); exact BK101.out) hb); have n3_ := Aside0.mk (below_step (by repeat (first | (with_reducible first | exact HB.out | apply below_alloc | apply pw_below_drewN | apply below_drew1 | refine below_set ?_ GE101.out) | exact HB.out)) hb); clear HO_12; clear HO_14; clear BK101; clear HB; have HO_12 := n0_; have HO_14 := n1_; have BK101 := n2_; have HB := n3_; clear n0_ n1_ n2_ n3_; (try clear hb); (try clear hb2); (try clear hk); (try clear hi)))
                        go_ret
                        exact ⟨by first | rfl | (simp [errW_none, errW_some] <;> rfl) | (simp [*, errW_none, errW_some] <;> rfl), by repeat (first | (with_reducible first | exact HB.out | apply below_alloc | apply pw_below_drewN | apply below_drew1 | refine below_set ?_ GE101.out) | exact HB.out)⟩
                    · replace c45 := Bool.eq_false_iff.mpr c45
                      subst c45
                      have H1 : (some false) = some r := by rw [if_neg (show ¬ (false = true) by decide)] at H; exact H
                      clear H
                      have H := H1
                      clear H1
                      obtain rfl := Option.some.inj H
                      obtain ⟨Ao77, co77, eo77⟩ := Kd.R_slice HO_12.out
                      subst eo77
                      have hcz78_0 : wr.cell? ⟨gb101, 0, none⟩ = some (.slice A0_0 l0_0.length c0_0) := (blk_cell BK101.out 0).trans rfl
                      have hcz78_1 : wr.cell? ⟨gb101, 1, none⟩ = some (.int .i64 a0_1) := (blk_cell BK101.out 1).trans rfl
                      have hcz78_2 : wr.cell? ⟨gb101, 2, none⟩ = some (.int .i64 a0_2) := (blk_cell BK101.out 2).trans rfl
                      have hfz78_0 := blk_frozen BK101.out 0
                      have hfz78_1 := blk_frozen BK101.out 1
                      have hfz78_2 := blk_frozen BK101.out 2
                      go_wp2_with (first | ((with_reducible refine gate_callee (f := 26) rfl ?_); refine goesL_ (some 89) rfl rfl Try.func26 (by kernel_rfl) rfl #[.agg #[.slice A0_0 l0_0.length c0_0, .int .i64 a0_1, .int .i64 a0_2], .slice A0_0 l0_0.length c0_0] rfl (by (try simp only [List.map_toArray, List.map_cons, List.map_nil]); first | done | rfl | (simp only [List.length_drop, List.length_take]; rfl)) ?_; (with_reducible refine (Cv.covers.calls k2 _ _ l0_0 a0_1 a0_2 _ _ l0_0 t124 t125 _ ?side1 ?side2 ?side3 ?side4 A42.out).mono ?_); (case side1 => repeat (first | exact (Kd.C_below HR0_0.out HB.out) | (with_reducible refine Kd.C_alloc ?_ _) | (with_reducible refine Kd.C_drewN ?_ _) | (with_reducible refine Kd.C_drew ?_))); (case side2 => exact HC0_0.out); (case side3 => repeat (first | exact (Kd.C_below HR0_0.out HB.out) | (with_reducible refine Kd.C_alloc ?_ _) | (with_reducible refine Kd.C_drewN ?_ _) | (with_reducible refine Kd.C_drew ?_))); (case side4 => exact HC0_0.out); rintro e w79 ⟨rfl, hb⟩; refine ⟨_, rfl, ?_⟩; have n0_ := Aside0.mk (Kd.R_below (by (with_reducible repeat (first | apply Kd.R_alloc | apply Kd.R_drewN | apply Kd.R_drew)); exact HO_12.out) hb); have n1_ := Aside0.mk (Kd.R_below (by (with_reducible repeat (first | apply Kd.R_alloc | apply Kd.R_drewN | apply Kd.R_drew)); exact HO_14.out) hb); have n2_ := Aside0.mk (blk_below (g := gb101) (o := .cells #[.slice A0_0 l0_0.length c0_0, .int .i64 a0_1, .int .i64 a0_2] 42 (0, 0)) (by (with_reducible repeat (first | refine blk_drewN ?_ _ | refine blk_drew ?_ | refine blk_alloc ?_ _)); exact BK101.out) hb); have n3_ := Aside0.mk (below_step (by repeat (first | (with_reducible first | exact HB.out | apply below_alloc | apply pw_below_drewN | apply below_drew1 | refine below_set ?_ GE101.out) | exact HB.out)) hb); clear HO_12; clear HO_14; clear BK101; clear HB; have HO_12 := n0_; have HO_14 := n1_; have BK101 := n2_; have HB := n3_; clear n0_ n1_ n2_ n3_; (try clear hb); (try clear hb2); (try clear hk); (try clear hi); have hcz80_0 : w79.cell? ⟨gb101, 0, none⟩ = some (.slice A0_0 l0_0.length c0_0) := (blk_cell BK101.out 0).trans rfl; have hcz80_1 : w79.cell? ⟨gb101, 1, none⟩ = some (.int .i64 a0_1) := (blk_cell BK101.out 1).trans rfl; have hcz80_2 : w79.cell? ⟨gb101, 2, none⟩ = some (.int .i64 a0_2) := (blk_cell BK101.out 2).trans rfl; have hfz80_0 := blk_frozen BK101.out 0; have hfz80_1 := blk_frozen BK101.out 1; have hfz80_2 := blk_frozen BK101.out 2) | ((with_reducible refine gate_callee (f := 26) rfl ?_); refine goesL_ (some 94) rfl rfl Try.func26 (by kernel_rfl) rfl #[.agg #[.slice A0_0 l0_0.length c0_0, .int .i64 a0_1, .int .i64 a0_2], .slice none 0 0] rfl (by (try simp only [List.map_toArray, List.map_cons, List.map_nil]); first | done | rfl | (simp only [List.length_drop, List.length_take]; rfl)) ?_; (refine (Cv.covers.calls k2 _ _ l0_0 a0_1 a0_2 _ _ ([] : List Int) t126 t127 _ ?side1 ?side2 ?side3 ?side4 A43.out).mono ?_); (case side1 => repeat (first | exact (Kd.C_below HR0_0.out HB.out) | (with_reducible refine Kd.C_alloc ?_ _) | (with_reducible refine Kd.C_drewN ?_ _) | (with_reducible refine Kd.C_drew ?_))); (case side2 => exact HC0_0.out); (case side3 => exact Kd.C_nil _ _); (case side4 => exact Nat.le_refl _); rintro e w81 ⟨rfl, hb⟩; refine ⟨_, rfl, ?_⟩; have n0_ := Aside0.mk (Kd.R_below (by (with_reducible repeat (first | apply Kd.R_alloc | apply Kd.R_drewN | apply Kd.R_drew)); exact HO_12.out) hb); have n1_ := Aside0.mk (Kd.R_below (by (with_reducible repeat (first | apply Kd.R_alloc | apply Kd.R_drewN | apply Kd.R_drew)); exact HO_14.out) hb); have n2_ := Aside0.mk (blk_below (g := gb101) (o := .cells #[.slice A0_0 l0_0.length c0_0, .int .i64 a0_1, .int .i64 a0_2] 42 (0, 0)) (by (with_reducible repeat (first | refine blk_drewN ?_ _ | refine blk_drew ?_ | refine blk_alloc ?_ _)); exact BK101.out) hb); have n3_ := Aside0.mk (below_step (by repeat (first | (with_reducible first | exact HB.out | apply below_alloc | apply pw_below_drewN | apply below_drew1 | refine below_set ?_ GE101.out) | exact HB.out)) hb); clear HO_12; clear HO_14; clear BK101; clear HB; have HO_12 := n0_; have HO_14 := n1_; have BK101 := n2_; have HB := n3_; clear n0_ n1_ n2_ n3_; (try clear hb); (try clear hb2); (try clear hk); (try clear hi)))
                      go_ret
                      exact ⟨by first | rfl | (simp [errW_none, errW_some] <;> rfl) | (simp [*, errW_none, errW_some] <;> rfl), by repeat (first | (with_reducible first | exact HB.out | apply below_alloc | apply pw_below_drewN | apply below_drew1 | refine below_set ?_ GE101.out) | exact HB.out)⟩
                  · replace c44 := Bool.eq_false_iff.mpr c44
                    subst c44
                    have H1 : (if t124 = true then (if t125 = 0 then (if t126 = true then (some false) else (if t127 = 0 then ((Fk.known.f).bind fun t129 => (some t129)) else (some false))) else (some false)) else (some false)) = some r := by rw [if_neg (show ¬ (false = true) by decide)] at H; exact H
                    clear H
                    have H := H1
                    clear H1
                    by_cases c82 : t124 = true
                    · subst c82
                      have H1 : (if t125 = 0 then (if t126 = true then (some false) else (if t127 = 0 then ((Fk.known.f).bind fun t129 => (some t129)) else (some false))) else (some false)) = some r := by rw [if_pos rfl] at H; exact H
                      clear H
                      have H := H1
                      clear H1
                      by_cases c83 : t125 = 0
                      · rw [if_pos c83] at H
                        have c83b0 : (t125 == 0) = true := beq_iff_eq.mpr c83
                        have c83b1 : (t125 != 0) = false := bne_eq_false_iff_eq.mpr c83
                        clear c83
                        by_cases c84 : t126 = true
                        · subst c84
                          have H1 : (some false) = some r := by rw [if_pos rfl] at H; exact H
                          clear H
                          have H := H1
                          clear H1
                          obtain rfl := Option.some.inj H
                          obtain ⟨Ao85, co85, eo85⟩ := Kd.R_slice HO_12.out
                          subst eo85
                          have hcz86_0 : wr.cell? ⟨gb101, 0, none⟩ = some (.slice A0_0 l0_0.length c0_0) := (blk_cell BK101.out 0).trans rfl
                          have hcz86_1 : wr.cell? ⟨gb101, 1, none⟩ = some (.int .i64 a0_1) := (blk_cell BK101.out 1).trans rfl
                          have hcz86_2 : wr.cell? ⟨gb101, 2, none⟩ = some (.int .i64 a0_2) := (blk_cell BK101.out 2).trans rfl
                          have hfz86_0 := blk_frozen BK101.out 0
                          have hfz86_1 := blk_frozen BK101.out 1
                          have hfz86_2 := blk_frozen BK101.out 2
                          go_wp2_with (first | ((with_reducible refine gate_callee (f := 26) rfl ?_); refine goesL_ (some 89) rfl rfl Try.func26 (by kernel_rfl) rfl #[.agg #[.slice A0_0 l0_0.length c0_0, .int .i64 a0_1, .int .i64 a0_2], .slice A0_0 l0_0.length c0_0] rfl (by (try simp only [List.map_toArray, List.map_cons, List.map_nil]); first | done | rfl | (simp only [List.length_drop, List.length_take]; rfl)) ?_; (with_reducible refine (Cv.covers.calls k2 _ _ l0_0 a0_1 a0_2 _ _ l0_0 true t125 _ ?side1 ?side2 ?side3 ?side4 A42.out).mono ?_); (case side1 => repeat (first | exact (Kd.C_below HR0_0.out HB.out) | (with_reducible refine Kd.C_alloc ?_ _) | (with_reducible refine Kd.C_drewN ?_ _) | (with_reducible refine Kd.C_drew ?_))); (case side2 => exact HC0_0.out); (case side3 => repeat (first | exact (Kd.C_below HR0_0.out HB.out) | (with_reducible refine Kd.C_alloc ?_ _) | (with_reducible refine Kd.C_drewN ?_ _) | (with_reducible refine Kd.C_drew ?_))); (case side4 => exact HC0_0.out); rintro e w87 ⟨rfl, hb⟩; refine ⟨_, rfl, ?_⟩; have n0_ := Aside0.mk (Kd.R_below (by (with_reducible repeat (first | apply Kd.R_alloc | apply Kd.R_drewN | apply Kd.R_drew)); exact HO_12.out) hb); have n1_ := Aside0.mk (Kd.R_below (by (with_reducible repeat (first | apply Kd.R_alloc | apply Kd.R_drewN | apply Kd.R_drew)); exact HO_14.out) hb); have n2_ := Aside0.mk (blk_below (g := gb101) (o := .cells #[.slice A0_0 l0_0.length c0_0, .int .i64 a0_1, .int .i64 a0_2] 42 (0, 0)) (by (with_reducible repeat (first | refine blk_drewN ?_ _ | refine blk_drew ?_ | refine blk_alloc ?_ _)); exact BK101.out) hb); have n3_ := Aside0.mk (below_step (by repeat (first | (with_reducible first | exact HB.out | apply below_alloc | apply pw_below_drewN | apply below_drew1 | refine below_set ?_ GE101.out) | exact HB.out)) hb); clear HO_12; clear HO_14; clear BK101; clear HB; have HO_12 := n0_; have HO_14 := n1_; have BK101 := n2_; have HB := n3_; clear n0_ n1_ n2_ n3_; (try clear hb); (try clear hb2); (try clear hk); (try clear hi); have hcz88_0 : w87.cell? ⟨gb101, 0, none⟩ = some (.slice A0_0 l0_0.length c0_0) := (blk_cell BK101.out 0).trans rfl; have hcz88_1 : w87.cell? ⟨gb101, 1, none⟩ = some (.int .i64 a0_1) := (blk_cell BK101.out 1).trans rfl; have hcz88_2 : w87.cell? ⟨gb101, 2, none⟩ = some (.int .i64 a0_2) := (blk_cell BK101.out 2).trans rfl; have hfz88_0 := blk_frozen BK101.out 0; have hfz88_1 := blk_frozen BK101.out 1; have hfz88_2 := blk_frozen BK101.out 2) | ((with_reducible refine gate_callee (f := 26) rfl ?_); refine goesL_ (some 94) rfl rfl Try.func26 (by kernel_rfl) rfl #[.agg #[.slice A0_0 l0_0.length c0_0, .int .i64 a0_1, .int .i64 a0_2], .slice none 0 0] rfl (by (try simp only [List.map_toArray, List.map_cons, List.map_nil]); first | done | rfl | (simp only [List.length_drop, List.length_take]; rfl)) ?_; (refine (Cv.covers.calls k2 _ _ l0_0 a0_1 a0_2 _ _ ([] : List Int) true t127 _ ?side1 ?side2 ?side3 ?side4 A43.out).mono ?_); (case side1 => repeat (first | exact (Kd.C_below HR0_0.out HB.out) | (with_reducible refine Kd.C_alloc ?_ _) | (with_reducible refine Kd.C_drewN ?_ _) | (with_reducible refine Kd.C_drew ?_))); (case side2 => exact HC0_0.out); (case side3 => exact Kd.C_nil _ _); (case side4 => exact Nat.le_refl _); rintro e w89 ⟨rfl, hb⟩; refine ⟨_, rfl, ?_⟩; have n0_ := Aside0.mk (Kd.R_below (by (with_reducible repeat (first | apply Kd.R_alloc | apply Kd.R_drewN | apply Kd.R_drew)); exact HO_12.out) hb); have n1_ := Aside0.mk (Kd.R_below (by (with_reducible repeat (first | apply Kd.R_alloc | apply Kd.R_drewN | apply Kd.R_drew)); exact HO_14.out) hb); have n2_ := Aside0.mk (blk_below (g := gb101) (o := .cells #[.slice A0_0 l0_0.length c0_0, .int .i64 a0_1, .int .i64 a0_2] 42 (0, 0)) (by (with_reducible repeat (first | refine blk_drewN ?_ _ | refine blk_drew ?_ | refine blk_alloc ?_ _)); exact BK101.out) hb); have n3_ := Aside0.mk (below_step (by repeat (first | (with_reducible first | exact HB.out | apply below_alloc | apply pw_below_drewN | apply below_drew1 | refine below_set ?_ GE101.out) | exact HB.out)) hb); clear HO_12; clear HO_14; clear BK101; clear HB; have HO_12 := n0_; have HO_14 := n1_; have BK101 := n2_; have HB := n3_; clear n0_ n1_ n2_ n3_; (try clear hb); (try clear hb2); (try clear hk); (try clear hi)))
                          go_ret
                          exact ⟨by first | rfl | (simp [errW_none, errW_some] <;> rfl) | (simp [*, errW_none, errW_some] <;> rfl), by repeat (first | (with_reducible first | exact HB.out | apply below_alloc | apply pw_below_drewN | apply below_drew1 | refine below_set ?_ GE101.out) | exact HB.out)⟩
                        · replace c84 := Bool.eq_false_iff.mpr c84
                          subst c84
                          have H1 : (if t127 = 0 then ((Fk.known.f).bind fun t129 => (some t129)) else (some false)) = some r := by rw [if_neg (show ¬ (false = true) by decide)] at H; exact H
                          clear H
                          have H := H1
                          clear H1
                          by_cases c90 : t127 = 0
                          · rw [if_pos c90] at H
                            have c90b0 : (t127 == 0) = true := beq_iff_eq.mpr c90
                            have c90b1 : (t127 != 0) = false := bne_eq_false_iff_eq.mpr c90
                            clear c90
                            replace H := Option.bind_eq_some_iff.mp H
                            obtain ⟨t129, A910, H⟩ := H
                            replace H : (some t129) = some r := H
                            have A91 := Aside0.mk A910
                            clear A910
                            obtain rfl := Option.some.inj H
                            obtain ⟨Ao92, co92, eo92⟩ := Kd.R_slice HO_12.out
                            subst eo92
                            have hcz93_0 : wr.cell? ⟨gb101, 0, none⟩ = some (.slice A0_0 l0_0.length c0_0) := (blk_cell BK101.out 0).trans rfl
                            have hcz93_1 : wr.cell? ⟨gb101, 1, none⟩ = some (.int .i64 a0_1) := (blk_cell BK101.out 1).trans rfl
                            have hcz93_2 : wr.cell? ⟨gb101, 2, none⟩ = some (.int .i64 a0_2) := (blk_cell BK101.out 2).trans rfl
                            have hfz93_0 := blk_frozen BK101.out 0
                            have hfz93_1 := blk_frozen BK101.out 1
                            have hfz93_2 := blk_frozen BK101.out 2
                            go_wp2_with (first | ((with_reducible refine gate_callee (f := 26) rfl ?_); refine goesL_ (some 89) rfl rfl Try.func26 (by kernel_rfl) rfl #[.agg #[.slice A0_0 l0_0.length c0_0, .int .i64 a0_1, .int .i64 a0_2], .slice A0_0 l0_0.length c0_0] rfl (by (try simp only [List.map_toArray, List.map_cons, List.map_nil]); first | done | rfl | (simp only [List.length_drop, List.length_take]; rfl)) ?_; (with_reducible refine (Cv.covers.calls k2 _ _ l0_0 a0_1 a0_2 _ _ l0_0 true t125 _ ?side1 ?side2 ?side3 ?side4 A42.out).mono ?_); (case side1 => repeat (first | exact (Kd.C_below HR0_0.out HB.out) | (with_reducible refine Kd.C_alloc ?_ _) | (with_reducible refine Kd.C_drewN ?_ _) | (with_reducible refine Kd.C_drew ?_))); (case side2 => exact HC0_0.out); (case side3 => repeat (first | exact (Kd.C_below HR0_0.out HB.out) | (with_reducible refine Kd.C_alloc ?_ _) | (with_reducible refine Kd.C_drewN ?_ _) | (with_reducible refine Kd.C_drew ?_))); (case side4 => exact HC0_0.out); rintro e w94 ⟨rfl, hb⟩; refine ⟨_, rfl, ?_⟩; have n0_ := Aside0.mk (Kd.R_below (by (with_reducible repeat (first | apply Kd.R_alloc | apply Kd.R_drewN | apply Kd.R_drew)); exact HO_12.out) hb); have n1_ := Aside0.mk (Kd.R_below (by (with_reducible repeat (first | apply Kd.R_alloc | apply Kd.R_drewN | apply Kd.R_drew)); exact HO_14.out) hb); have n2_ := Aside0.mk (blk_below (g := gb101) (o := .cells #[.slice A0_0 l0_0.length c0_0, .int .i64 a0_1, .int .i64 a0_2] 42 (0, 0)) (by (with_reducible repeat (first | refine blk_drewN ?_ _ | refine blk_drew ?_ | refine blk_alloc ?_ _)); exact BK101.out) hb); have n3_ := Aside0.mk (below_step (by repeat (first | (with_reducible first | exact HB.out | apply below_alloc | apply pw_below_drewN | apply below_drew1 | refine below_set ?_ GE101.out) | exact HB.out)) hb); clear HO_12; clear HO_14; clear BK101; clear HB; have HO_12 := n0_; have HO_14 := n1_; have BK101 := n2_; have HB := n3_; clear n0_ n1_ n2_ n3_; (try clear hb); (try clear hb2); (try clear hk); (try clear hi); have hcz95_0 : w94.cell? ⟨gb101, 0, none⟩ = some (.slice A0_0 l0_0.length c0_0) := (blk_cell BK101.out 0).trans rfl; have hcz95_1 : w94.cell? ⟨gb101, 1, none⟩ = some (.int .i64 a0_1) := (blk_cell BK101.out 1).trans rfl; have hcz95_2 : w94.cell? ⟨gb101, 2, none⟩ = some (.int .i64 a0_2) := (blk_cell BK101.out 2).trans rfl; have hfz95_0 := blk_frozen BK101.out 0; have hfz95_1 := blk_frozen BK101.out 1; have hfz95_2 := blk_frozen BK101.out 2) | ((with_reducible refine gate_callee (f := 26) rfl ?_); refine goesL_ (some 94) rfl rfl Try.func26 (by kernel_rfl) rfl #[.agg #[.slice A0_0 l0_0.length c0_0, .int .i64 a0_1, .int .i64 a0_2], .slice none 0 0] rfl (by (try simp only [List.map_toArray, List.map_cons, List.map_nil]); first | done | rfl | (simp only [List.length_drop, List.length_take]; rfl)) ?_; (refine (Cv.covers.calls k2 _ _ l0_0 a0_1 a0_2 _ _ ([] : List Int) false t127 _ ?side1 ?side2 ?side3 ?side4 A43.out).mono ?_); (case side1 => repeat (first | exact (Kd.C_below HR0_0.out HB.out) | (with_reducible refine Kd.C_alloc ?_ _) | (with_reducible refine Kd.C_drewN ?_ _) | (with_reducible refine Kd.C_drew ?_))); (case side2 => exact HC0_0.out); (case side3 => exact Kd.C_nil _ _); (case side4 => exact Nat.le_refl _); rintro e w96 ⟨rfl, hb⟩; refine ⟨_, rfl, ?_⟩; have n0_ := Aside0.mk (Kd.R_below (by (with_reducible repeat (first | apply Kd.R_alloc | apply Kd.R_drewN | apply Kd.R_drew)); exact HO_12.out) hb); have n1_ := Aside0.mk (Kd.R_below (by (with_reducible repeat (first | apply Kd.R_alloc | apply Kd.R_drewN | apply Kd.R_drew)); exact HO_14.out) hb); have n2_ := Aside0.mk (blk_below (g := gb101) (o := .cells #[.slice A0_0 l0_0.length c0_0, .int .i64 a0_1, .int .i64 a0_2] 42 (0, 0)) (by (with_reducible repeat (first | refine blk_drewN ?_ _ | refine blk_drew ?_ | refine blk_alloc ?_ _)); exact BK101.out) hb); have n3_ := Aside0.mk (below_step (by repeat (first | (with_reducible first | exact HB.out | apply below_alloc | apply pw_below_drewN | apply below_drew1 | refine below_set ?_ GE101.out) | exact HB.out)) hb); clear HO_12; clear HO_14; clear BK101; clear HB; have HO_12 := n0_; have HO_14 := n1_; have BK101 := n2_; have HB := n3_; clear n0_ n1_ n2_ n3_; (try clear hb); (try clear hb2); (try clear hk); (try clear hi)) | (go_at_call 10; (with_reducible refine (Fk.known.calls  t129 _ A91.out).mono ?_); rintro e w97 ⟨rfl, hb⟩; have n0_ := Aside0.mk (Kd.R_below (by (with_reducible repeat (first | apply Kd.R_alloc | apply Kd.R_drewN | apply Kd.R_drew)); exact HO_12.out) hb); have n1_ := Aside0.mk (Kd.R_below (by (with_reducible repeat (first | apply Kd.R_alloc | apply Kd.R_drewN | apply Kd.R_drew)); exact HO_14.out) hb); have n2_ := Aside0.mk (blk_below (g := gb101) (o := .cells #[.slice A0_0 l0_0.length c0_0, .int .i64 a0_1, .int .i64 a0_2] 42 (0, 0)) (by (with_reducible repeat (first | refine blk_drewN ?_ _ | refine blk_drew ?_ | refine blk_alloc ?_ _)); exact BK101.out) hb); have n3_ := Aside0.mk (below_step (by repeat (first | (with_reducible first | exact HB.out | apply below_alloc | apply pw_below_drewN | apply below_drew1 | refine below_set ?_ GE101.out) | exact HB.out)) hb); clear HO_12; clear HO_14; clear BK101; clear HB; have HO_12 := n0_; have HO_14 := n1_; have BK101 := n2_; have HB := n3_; clear n0_ n1_ n2_ n3_; (try clear hb); (try clear hb2); (try clear hk); (try clear hi)))
                            go_ret
                            exact ⟨by first | rfl | (simp [errW_none, errW_some] <;> rfl) | (simp [*, errW_none, errW_some] <;> rfl), by repeat (first | (with_reducible first | exact HB.out | apply below_alloc | apply pw_below_drewN | apply below_drew1 | refine below_set ?_ GE101.out) | exact HB.out)⟩
                          · rw [if_neg c90] at H
                            have c90b0 : (t127 == 0) = false := beq_eq_false_iff_ne.mpr c90
                            have c90b1 : (t127 != 0) = true := bne_iff_ne.mpr c90
                            obtain rfl := Option.some.inj H
                            obtain ⟨Ao98, co98, eo98⟩ := Kd.R_slice HO_12.out
                            subst eo98
                            have hcz99_0 : wr.cell? ⟨gb101, 0, none⟩ = some (.slice A0_0 l0_0.length c0_0) := (blk_cell BK101.out 0).trans rfl
                            have hcz99_1 : wr.cell? ⟨gb101, 1, none⟩ = some (.int .i64 a0_1) := (blk_cell BK101.out 1).trans rfl
                            have hcz99_2 : wr.cell? ⟨gb101, 2, none⟩ = some (.int .i64 a0_2) := (blk_cell BK101.out 2).trans rfl
                            have hfz99_0 := blk_frozen BK101.out 0
                            have hfz99_1 := blk_frozen BK101.out 1
                            have hfz99_2 := blk_frozen BK101.out 2
                            go_wp2_with (first | ((with_reducible refine gate_callee (f := 26) rfl ?_); refine goesL_ (some 89) rfl rfl Try.func26 (by kernel_rfl) rfl #[.agg #[.slice A0_0 l0_0.length c0_0, .int .i64 a0_1, .int .i64 a0_2], .slice A0_0 l0_0.length c0_0] rfl (by (try simp only [List.map_toArray, List.map_cons, List.map_nil]); first | done | rfl | (simp only [List.length_drop, List.length_take]; rfl)) ?_; (with_reducible refine (Cv.covers.calls k2 _ _ l0_0 a0_1 a0_2 _ _ l0_0 true t125 _ ?side1 ?side2 ?side3 ?side4 A42.out).mono ?_); (case side1 => repeat (first | exact (Kd.C_below HR0_0.out HB.out) | (with_reducible refine Kd.C_alloc ?_ _) | (with_reducible refine Kd.C_drewN ?_ _) | (with_reducible refine Kd.C_drew ?_))); (case side2 => exact HC0_0.out); (case side3 => repeat (first | exact (Kd.C_below HR0_0.out HB.out) | (with_reducible refine Kd.C_alloc ?_ _) | (with_reducible refine Kd.C_drewN ?_ _) | (with_reducible refine Kd.C_drew ?_))); (case side4 => exact HC0_0.out); rintro e w100 ⟨rfl, hb⟩; refine ⟨_, rfl, ?_⟩; have n0_ := Aside0.mk (Kd.R_below (by (with_reducible repeat (first | apply Kd.R_alloc | apply Kd.R_drewN | apply Kd.R_drew)); exact HO_12.out) hb); have n1_ := Aside0.mk (Kd.R_below (by (with_reducible repeat (first | apply Kd.R_alloc | apply Kd.R_drewN | apply Kd.R_drew)); exact HO_14.out) hb); have n2_ := Aside0.mk (blk_below (g := gb101) (o := .cells #[.slice A0_0 l0_0.length c0_0, .int .i64 a0_1, .int .i64 a0_2] 42 (0, 0)) (by (with_reducible repeat (first | refine blk_drewN ?_ _ | refine blk_drew ?_ | refine blk_alloc ?_ _)); exact BK101.out) hb); have n3_ := Aside0.mk (below_step (by repeat (first | (with_reducible first | exact HB.out | apply below_alloc | apply pw_below_drewN | apply below_drew1 | refine below_set ?_ GE101.out) | exact HB.out)) hb); clear HO_12; clear HO_14; clear BK101; clear HB; have HO_12 := n0_; have HO_14 := n1_; have BK101 := n2_; have HB := n3_; clear n0_ n1_ n2_ n3_; (try clear hb); (try clear hb2); (try clear hk); (try clear hi); have hcz101_0 : w100.cell? ⟨gb101, 0, none⟩ = some (.slice A0_0 l0_0.length c0_0) := (blk_cell BK101.out 0).trans rfl; have hcz101_1 : w100.cell? ⟨gb101, 1, none⟩ = some (.int .i64 a0_1) := (blk_cell BK101.out 1).trans rfl; have hcz101_2 : w100.cell? ⟨gb101, 2, none⟩ = some (.int .i64 a0_2) := (blk_cell BK101.out 2).trans rfl; have hfz101_0 := blk_frozen BK101.out 0; have hfz101_1 := blk_frozen BK101.out 1; have hfz101_2 := blk_frozen BK101.out 2) | ((with_reducible refine gate_callee (f := 26) rfl ?_); refine goesL_ (some 94) rfl rfl Try.func26 (by kernel_rfl) rfl #[.agg #[.slice A0_0 l0_0.length c0_0, .int .i64 a0_1, .int .i64 a0_2], .slice none 0 0] rfl (by (try simp only [List.map_toArray, List.map_cons, List.map_nil]); first | done | rfl | (simp only [List.length_drop, List.length_take]; rfl)) ?_; (refine (Cv.covers.calls k2 _ _ l0_0 a0_1 a0_2 _ _ ([] : List Int) false t127 _ ?side1 ?side2 ?side3 ?side4 A43.out).mono ?_); (case side1 => repeat (first | exact (Kd.C_below HR0_0.out HB.out) | (with_reducible refine Kd.C_alloc ?_ _) | (with_reducible refine Kd.C_drewN ?_ _) | (with_reducible refine Kd.C_drew ?_))); (case side2 => exact HC0_0.out); (case side3 => exact Kd.C_nil _ _); (case side4 => exact Nat.le_refl _); rintro e w102 ⟨rfl, hb⟩; refine ⟨_, rfl, ?_⟩; have n0_ := Aside0.mk (Kd.R_below (by (with_reducible repeat (first | apply Kd.R_alloc | apply Kd.R_drewN | apply Kd.R_drew)); exact HO_12.out) hb); have n1_ := Aside0.mk (Kd.R_below (by (with_reducible repeat (first | apply Kd.R_alloc | apply Kd.R_drewN | apply Kd.R_drew)); exact HO_14.out) hb); have n2_ := Aside0.mk (blk_below (g := gb101) (o := .cells #[.slice A0_0 l0_0.length c0_0, .int .i64 a0_1, .int .i64 a0_2] 42 (0, 0)) (by (with_reducible repeat (first | refine blk_drewN ?_ _ | refine blk_drew ?_ | refine blk_alloc ?_ _)); exact BK101.out) hb); have n3_ := Aside0.mk (below_step (by repeat (first | (with_reducible first | exact HB.out | apply below_alloc | apply pw_below_drewN | apply below_drew1 | refine below_set ?_ GE101.out) | exact HB.out)) hb); clear HO_12; clear HO_14; clear BK101; clear HB; have HO_12 := n0_; have HO_14 := n1_; have BK101 := n2_; have HB := n3_; clear n0_ n1_ n2_ n3_; (try clear hb); (try clear hb2); (try clear hk); (try clear hi)))
                            go_ret
                            exact ⟨by first | rfl | (simp [errW_none, errW_some] <;> rfl) | (simp [*, errW_none, errW_some] <;> rfl), by repeat (first | (with_reducible first | exact HB.out | apply below_alloc | apply pw_below_drewN | apply below_drew1 | refine below_set ?_ GE101.out) | exact HB.out)⟩
                      · rw [if_neg c83] at H
                        have c83b0 : (t125 == 0) = false := beq_eq_false_iff_ne.mpr c83
                        have c83b1 : (t125 != 0) = true := bne_iff_ne.mpr c83
                        obtain rfl := Option.some.inj H
                        obtain ⟨Ao103, co103, eo103⟩ := Kd.R_slice HO_12.out
                        subst eo103
                        have hcz104_0 : wr.cell? ⟨gb101, 0, none⟩ = some (.slice A0_0 l0_0.length c0_0) := (blk_cell BK101.out 0).trans rfl
                        have hcz104_1 : wr.cell? ⟨gb101, 1, none⟩ = some (.int .i64 a0_1) := (blk_cell BK101.out 1).trans rfl
                        have hcz104_2 : wr.cell? ⟨gb101, 2, none⟩ = some (.int .i64 a0_2) := (blk_cell BK101.out 2).trans rfl
                        have hfz104_0 := blk_frozen BK101.out 0
                        have hfz104_1 := blk_frozen BK101.out 1
                        have hfz104_2 := blk_frozen BK101.out 2
                        go_wp2_with (first | ((with_reducible refine gate_callee (f := 26) rfl ?_); refine goesL_ (some 89) rfl rfl Try.func26 (by kernel_rfl) rfl #[.agg #[.slice A0_0 l0_0.length c0_0, .int .i64 a0_1, .int .i64 a0_2], .slice A0_0 l0_0.length c0_0] rfl (by (try simp only [List.map_toArray, List.map_cons, List.map_nil]); first | done | rfl | (simp only [List.length_drop, List.length_take]; rfl)) ?_; (with_reducible refine (Cv.covers.calls k2 _ _ l0_0 a0_1 a0_2 _ _ l0_0 true t125 _ ?side1 ?side2 ?side3 ?side4 A42.out).mono ?_); (case side1 => repeat (first | exact (Kd.C_below HR0_0.out HB.out) | (with_reducible refine Kd.C_alloc ?_ _) | (with_reducible refine Kd.C_drewN ?_ _) | (with_reducible refine Kd.C_drew ?_))); (case side2 => exact HC0_0.out); (case side3 => repeat (first | exact (Kd.C_below HR0_0.out HB.out) | (with_reducible refine Kd.C_alloc ?_ _) | (with_reducible refine Kd.C_drewN ?_ _) | (with_reducible refine Kd.C_drew ?_))); (case side4 => exact HC0_0.out); rintro e w105 ⟨rfl, hb⟩; refine ⟨_, rfl, ?_⟩; have n0_ := Aside0.mk (Kd.R_below (by (with_reducible repeat (first | apply Kd.R_alloc | apply Kd.R_drewN | apply Kd.R_drew)); exact HO_12.out) hb); have n1_ := Aside0.mk (Kd.R_below (by (with_reducible repeat (first | apply Kd.R_alloc | apply Kd.R_drewN | apply Kd.R_drew)); exact HO_14.out) hb); have n2_ := Aside0.mk (blk_below (g := gb101) (o := .cells #[.slice A0_0 l0_0.length c0_0, .int .i64 a0_1, .int .i64 a0_2] 42 (0, 0)) (by (with_reducible repeat (first | refine blk_drewN ?_ _ | refine blk_drew ?_ | refine blk_alloc ?_ _)); exact BK101.out) hb); have n3_ := Aside0.mk (below_step (by repeat (first | (with_reducible first | exact HB.out | apply below_alloc | apply pw_below_drewN | apply below_drew1 | refine below_set ?_ GE101.out) | exact HB.out)) hb); clear HO_12; clear HO_14; clear BK101; clear HB; have HO_12 := n0_; have HO_14 := n1_; have BK101 := n2_; have HB := n3_; clear n0_ n1_ n2_ n3_; (try clear hb); (try clear hb2); (try clear hk); (try clear hi); have hcz106_0 : w105.cell? ⟨gb101, 0, none⟩ = some (.slice A0_0 l0_0.length c0_0) := (blk_cell BK101.out 0).trans rfl; have hcz106_1 : w105.cell? ⟨gb101, 1, none⟩ = some (.int .i64 a0_1) := (blk_cell BK101.out 1).trans rfl; have hcz106_2 : w105.cell? ⟨gb101, 2, none⟩ = some (.int .i64 a0_2) := (blk_cell BK101.out 2).trans rfl; have hfz106_0 := blk_frozen BK101.out 0; have hfz106_1 := blk_frozen BK101.out 1; have hfz106_2 := blk_frozen BK101.out 2) | ((with_reducible refine gate_callee (f := 26) rfl ?_); refine goesL_ (some 94) rfl rfl Try.func26 (by kernel_rfl) rfl #[.agg #[.slice A0_0 l0_0.length c0_0, .int .i64 a0_1, .int .i64 a0_2], .slice none 0 0] rfl (by (try simp only [List.map_toArray, List.map_cons, List.map_nil]); first | done | rfl | (simp only [List.length_drop, List.length_take]; rfl)) ?_; (refine (Cv.covers.calls k2 _ _ l0_0 a0_1 a0_2 _ _ ([] : List Int) t126 t127 _ ?side1 ?side2 ?side3 ?side4 A43.out).mono ?_); (case side1 => repeat (first | exact (Kd.C_below HR0_0.out HB.out) | (with_reducible refine Kd.C_alloc ?_ _) | (with_reducible refine Kd.C_drewN ?_ _) | (with_reducible refine Kd.C_drew ?_))); (case side2 => exact HC0_0.out); (case side3 => exact Kd.C_nil _ _); (case side4 => exact Nat.le_refl _); rintro e w107 ⟨rfl, hb⟩; refine ⟨_, rfl, ?_⟩; have n0_ := Aside0.mk (Kd.R_below (by (with_reducible repeat (first | apply Kd.R_alloc | apply Kd.R_drewN | apply Kd.R_drew)); exact HO_12.out) hb); have n1_ := Aside0.mk (Kd.R_below (by (with_reducible repeat (first | apply Kd.R_alloc | apply Kd.R_drewN | apply Kd.R_drew)); exact HO_14.out) hb); have n2_ := Aside0.mk (blk_below (g := gb101) (o := .cells #[.slice A0_0 l0_0.length c0_0, .int .i64 a0_1, .int .i64 a0_2] 42 (0, 0)) (by (with_reducible repeat (first | refine blk_drewN ?_ _ | refine blk_drew ?_ | refine blk_alloc ?_ _)); exact BK101.out) hb); have n3_ := Aside0.mk (below_step (by repeat (first | (with_reducible first | exact HB.out | apply below_alloc | apply pw_below_drewN | apply below_drew1 | refine below_set ?_ GE101.out) | exact HB.out)) hb); clear HO_12; clear HO_14; clear BK101; clear HB; have HO_12 := n0_; have HO_14 := n1_; have BK101 := n2_; have HB := n3_; clear n0_ n1_ n2_ n3_; (try clear hb); (try clear hb2); (try clear hk); (try clear hi)))
                        go_ret
                        exact ⟨by first | rfl | (simp [errW_none, errW_some] <;> rfl) | (simp [*, errW_none, errW_some] <;> rfl), by repeat (first | (with_reducible first | exact HB.out | apply below_alloc | apply pw_below_drewN | apply below_drew1 | refine below_set ?_ GE101.out) | exact HB.out)⟩
                    · replace c82 := Bool.eq_false_iff.mpr c82
                      subst c82
                      have H1 : (some false) = some r := by rw [if_neg (show ¬ (false = true) by decide)] at H; exact H
                      clear H
                      have H := H1
                      clear H1
                      obtain rfl := Option.some.inj H
                      obtain ⟨Ao108, co108, eo108⟩ := Kd.R_slice HO_12.out
                      subst eo108
                      have hcz109_0 : wr.cell? ⟨gb101, 0, none⟩ = some (.slice A0_0 l0_0.length c0_0) := (blk_cell BK101.out 0).trans rfl
                      have hcz109_1 : wr.cell? ⟨gb101, 1, none⟩ = some (.int .i64 a0_1) := (blk_cell BK101.out 1).trans rfl
                      have hcz109_2 : wr.cell? ⟨gb101, 2, none⟩ = some (.int .i64 a0_2) := (blk_cell BK101.out 2).trans rfl
                      have hfz109_0 := blk_frozen BK101.out 0
                      have hfz109_1 := blk_frozen BK101.out 1
                      have hfz109_2 := blk_frozen BK101.out 2
                      go_wp2_with (first | ((with_reducible refine gate_callee (f := 26) rfl ?_); refine goesL_ (some 89) rfl rfl Try.func26 (by kernel_rfl) rfl #[.agg #[.slice A0_0 l0_0.length c0_0, .int .i64 a0_1, .int .i64 a0_2], .slice A0_0 l0_0.length c0_0] rfl (by (try simp only [List.map_toArray, List.map_cons, List.map_nil]); first | done | rfl | (simp only [List.length_drop, List.length_take]; rfl)) ?_; (with_reducible refine (Cv.covers.calls k2 _ _ l0_0 a0_1 a0_2 _ _ l0_0 false t125 _ ?side1 ?side2 ?side3 ?side4 A42.out).mono ?_); (case side1 => repeat (first | exact (Kd.C_below HR0_0.out HB.out) | (with_reducible refine Kd.C_alloc ?_ _) | (with_reducible refine Kd.C_drewN ?_ _) | (with_reducible refine Kd.C_drew ?_))); (case side2 => exact HC0_0.out); (case side3 => repeat (first | exact (Kd.C_below HR0_0.out HB.out) | (with_reducible refine Kd.C_alloc ?_ _) | (with_reducible refine Kd.C_drewN ?_ _) | (with_reducible refine Kd.C_drew ?_))); (case side4 => exact HC0_0.out); rintro e w110 ⟨rfl, hb⟩; refine ⟨_, rfl, ?_⟩; have n0_ := Aside0.mk (Kd.R_below (by (with_reducible repeat (first | apply Kd.R_alloc | apply Kd.R_drewN | apply Kd.R_drew)); exact HO_12.out) hb); have n1_ := Aside0.mk (Kd.R_below (by (with_reducible repeat (first | apply Kd.R_alloc | apply Kd.R_drewN | apply Kd.R_drew)); exact HO_14.out) hb); have n2_ := Aside0.mk (blk_below (g := gb101) (o := .cells #[.slice A0_0 l0_0.length c0_0, .int .i64 a0_1, .int .i64 a0_2] 42 (0, 0)) (by (with_reducible repeat (first | refine blk_drewN ?_ _ | refine blk_drew ?_ | refine blk_alloc ?_ _)); exact BK101.out) hb); have n3_ := Aside0.mk (below_step (by repeat (first | (with_reducible first | exact HB.out | apply below_alloc | apply pw_below_drewN | apply below_drew1 | refine below_set ?_ GE101.out) | exact HB.out)) hb); clear HO_12; clear HO_14; clear BK101; clear HB; have HO_12 := n0_; have HO_14 := n1_; have BK101 := n2_; have HB := n3_; clear n0_ n1_ n2_ n3_; (try clear hb); (try clear hb2); (try clear hk); (try clear hi); have hcz111_0 : w110.cell? ⟨gb101, 0, none⟩ = some (.slice A0_0 l0_0.length c0_0) := (blk_cell BK101.out 0).trans rfl; have hcz111_1 : w110.cell? ⟨gb101, 1, none⟩ = some (.int .i64 a0_1) := (blk_cell BK101.out 1).trans rfl; have hcz111_2 : w110.cell? ⟨gb101, 2, none⟩ = some (.int .i64 a0_2) := (blk_cell BK101.out 2).trans rfl; have hfz111_0 := blk_frozen BK101.out 0; have hfz111_1 := blk_frozen BK101.out 1; have hfz111_2 := blk_frozen BK101.out 2) | ((with_reducible refine gate_callee (f := 26) rfl ?_); refine goesL_ (some 94) rfl rfl Try.func26 (by kernel_rfl) rfl #[.agg #[.slice A0_0 l0_0.length c0_0, .int .i64 a0_1, .int .i64 a0_2], .slice none 0 0] rfl (by (try simp only [List.map_toArray, List.map_cons, List.map_nil]); first | done | rfl | (simp only [List.length_drop, List.length_take]; rfl)) ?_; (refine (Cv.covers.calls k2 _ _ l0_0 a0_1 a0_2 _ _ ([] : List Int) t126 t127 _ ?side1 ?side2 ?side3 ?side4 A43.out).mono ?_); (case side1 => repeat (first | exact (Kd.C_below HR0_0.out HB.out) | (with_reducible refine Kd.C_alloc ?_ _) | (with_reducible refine Kd.C_drewN ?_ _) | (with_reducible refine Kd.C_drew ?_))); (case side2 => exact HC0_0.out); (case side3 => exact Kd.C_nil _ _); (case side4 => exact Nat.le_refl _); rintro e w112 ⟨rfl, hb⟩; refine ⟨_, rfl, ?_⟩; have n0_ := Aside0.mk (Kd.R_below (by (with_reducible repeat (first | apply Kd.R_alloc | apply Kd.R_drewN | apply Kd.R_drew)); exact HO_12.out) hb); have n1_ := Aside0.mk (Kd.R_below (by (with_reducible repeat (first | apply Kd.R_alloc | apply Kd.R_drewN | apply Kd.R_drew)); exact HO_14.out) hb); have n2_ := Aside0.mk (blk_below (g := gb101) (o := .cells #[.slice A0_0 l0_0.length c0_0, .int .i64 a0_1, .int .i64 a0_2] 42 (0, 0)) (by (with_reducible repeat (first | refine blk_drewN ?_ _ | refine blk_drew ?_ | refine blk_alloc ?_ _)); exact BK101.out) hb); have n3_ := Aside0.mk (below_step (by repeat (first | (with_reducible first | exact HB.out | apply below_alloc | apply pw_below_drewN | apply below_drew1 | refine below_set ?_ GE101.out) | exact HB.out)) hb); clear HO_12; clear HO_14; clear BK101; clear HB; have HO_12 := n0_; have HO_14 := n1_; have BK101 := n2_; have HB := n3_; clear n0_ n1_ n2_ n3_; (try clear hb); (try clear hb2); (try clear hk); (try clear hi)))
                      go_ret
                      exact ⟨by first | rfl | (simp [errW_none, errW_some] <;> rfl) | (simp [*, errW_none, errW_some] <;> rfl), by repeat (first | (with_reducible first | exact HB.out | apply below_alloc | apply pw_below_drewN | apply below_drew1 | refine below_set ?_ GE101.out) | exact HB.out)⟩
          · rw [if_neg c18] at H
            exact absurd H (by simp)
        · rw [if_neg c17] at H
          exact absurd H (by simp)
end Go.Proofs.Yteocngcojijnkaa.QI
namespace Go.Proofs.Yteocngcojijnkaa.QI
open Go.RowKit Go.Proofs.YteocngcojijnkaaW.PrintWords Go.Proofs.YteocngcojijnkaaW.PrintLast Go.Proofs.YteocngcojijnkaaW.PrintMore
attribute [local go_sem] max2_int min2_int max_two min_two max_three min_three max_four min_four   -- for this text's walks alone
set_option linter.unusedVariables false
set_option linter.unusedSimpArgs false
end Go.Proofs.Yteocngcojijnkaa.QI
namespace Go.Proofs.Yteocngcojijnkaa.Opn
open Go.ChangeShapes Go.WideShapes Go.Proofs.YteocngcojijnkaaW.PrintWords
set_option linter.unusedVariables false
set_option linter.unusedSimpArgs false
/-- Whatever is read at type t is of the kind d, and wf. -/
def Opens (P : Program) (t : TypeId) {α : Type} (d : Kd α) (wf : α → Prop) : Prop :=
  ∀ {H : Type} {enc : TypeId × Value → H} {w : World} {base : Nat} {spare : Nat → Bool} {held : Bool} {fuel : Nat} {cs : List Value} {x : DataW H × List MemPlace},
    DataW.trod enc P w base spare held fuel t cs = some x → (∀ n ∈ x.1.weights P t, n ≤ reachBytes) → ∃ a, d.K w a cs ∧ wf a
theorem opens_int {P : Program} {t : TypeId} {k : IntKind} (ht : P.underlying t = some (.int k)) : Opens P t (Kd.int k) (fun n => (Lit.int k n).wf = true) := by
  intro H enc w base spare held fuel cs x h _
  obtain ⟨n, rfl, _, hw⟩ := DataW.trod_int ht h
  exact ⟨n, rfl, hw⟩
theorem weights_elem {H : Type} {P : Program} {e : TypeId} {d : DataW H} : ∀ {l : List (DataW H)}, d ∈ l → ∀ n ∈ d.weights P e, n ∈ DataW.weightsAll P e l
  | [], h, _, _ => by simp at h
  | d0 :: l, h, n, hn => by
    simp only [DataW.weightsAll, List.mem_append]
    rcases List.mem_cons.1 h with rfl | h
    · exact .inl hn
    · exact .inr (weights_elem h n hn)
theorem add_add (a : Addr) (m i : Nat) : (a.add m).add i = a.add (m + i) := by
  unfold Addr.add
  by_cases h1 : m = 0
  · subst h1; simp
  · by_cases h2 : i = 0
    · subst h2; simp
    · rw [if_neg h1, if_neg h2, if_neg (by omega)]; simp [Nat.add_assoc]
theorem opens_slice {P : Program} {t e : TypeId} {α : Type} {d : Kd α} {wf : α → Prop} {B : Nat} (ht : P.underlying t = some (.slice e)) (hc : P.cellsOf e = d.sz) (hB : P.bytesOf e = B) (hs : Opens P e d wf) :
    Opens P t (Kd.slice e d) (fun xs => xs.length ≤ maxLen ∧ xs.length * B ≤ 140737488351232 ∧ ∀ x ∈ xs, wf x) := by
  intro H enc w base spare held fuel cs x h hz
  rcases DataW.trod_slice ht h with ⟨rfl, rfl⟩ | ⟨a, len, cap, elems, rest, n, rfl, rfl, rfl, hb, hl, hm, hlen, hel, _, _⟩
  · exact ⟨[], ⟨none, 0, rfl, Nat.le_refl _, ⟨rfl, by simp, by simp⟩⟩, by simp [maxLen], by simp, by simp⟩
  · have each : ∀ i, i < len → ∃ p c, c.length = d.sz ∧ d.K w p c ∧ wf p ∧ ∀ j u, c[j]? = some u → w.cell? (a.add (i * d.sz + j)) = some u := by
      intro i hi
      have h1 := hel i hi
      obtain ⟨y, hy⟩ : ∃ y, elems[i]? = some y := ⟨_, List.getElem?_eq_getElem (by omega)⟩
      rw [hy] at h1
      obtain ⟨c, hc1, hc2⟩ := Option.bind_eq_some_iff.1 h1
      obtain ⟨_, hcl, hcell⟩ := World.cells?_some hc1
      obtain ⟨p, hp, hw⟩ := hs hc2 (fun q hq => hz q (by
        simp only [DataW.weights, ht, List.mem_cons, List.mem_append]
        exact .inr (.inl (weights_elem (List.mem_map.2 ⟨y, List.mem_of_getElem? hy, rfl⟩) q hq))))
      refine ⟨p, c, by rw [hcl, hc], hp, hw, fun j u hj => ?_⟩
      have hlt : j < c.length := (List.getElem?_eq_some_iff.1 hj).1
      have := hcell j (by omega)
      rw [hj, add_add, hc] at this
      exact this
    have mk : ∃ xs : List α, xs.length = len ∧ ∀ i p, xs[i]? = some p → ∃ c, c.length = d.sz ∧ d.K w p c ∧ wf p ∧ ∀ j u, c[j]? = some u → w.cell? (a.add (i * d.sz + j)) = some u := by
      refine ⟨(List.finRange len).map fun i => Classical.choose (each i.1 i.2), by simp, fun i p hp => ?_⟩
      have hi : i < len := by
        have := (List.getElem?_eq_some_iff.1 hp).1
        simpa using this
      have : p = Classical.choose (each i hi) := by
        rw [List.getElem?_map] at hp
        simp [hi] at hp
        exact hp.symm
      subst this
      exact Classical.choose_spec (each i hi)
    obtain ⟨xs, hxl, hx⟩ := mk
    refine ⟨xs, ⟨some a, cap, by rw [hxl], by omega, ⟨rfl, by unfold maxLen at hm; omega, fun _ => ⟨a, rfl, fun j p hj => ?_⟩⟩⟩, by unfold maxLen at *; omega, ?_, ?_⟩
    · obtain ⟨c, h1, h2, _, h4⟩ := hx j p hj
      exact ⟨c, h1, h2, h4⟩
    · have := hz ((elems.map (·.1)).length + (rest.map (·.1)).length |> (· * P.bytesOf e)) (by simp [DataW.weights, ht])
      simp only [List.length_map, hB] at this
      have h2 : xs.length * B ≤ (elems.length + rest.length) * B := Nat.mul_le_mul_right _ (by omega)
      unfold reachBytes at this
      omega
    · intro p hp
      obtain ⟨i, hi⟩ := List.getElem?_of_mem hp
      obtain ⟨_, _, _, h3, _⟩ := hx i p hi
      exact h3
/-- The fields from a place on, in line. -/
def FOpens (P : Program) (fs : List Field) (off : Nat) {α : Type} (d : Kd α) (wf : α → Prop) : Prop :=
  ∀ {H : Type} {enc : TypeId × Value → H} {w : World} {base : Nat} {spare : Nat → Bool} {held : Bool} {fuel : Nat} {cs : List Value} {xs : List (DataW H × List MemPlace)},
    cs.length = off + d.sz → xs.length = fs.length → (∀ (i : Nat) (f : Field), fs[i]? = some f → DataW.trod enc P w base spare held fuel f.type ((cs.drop f.offset).take (P.cellsOf f.type)) = xs[i]?) →
    (∀ n ∈ DataW.weightsEach P (fs.map (·.type)) (xs.map (·.1)), n ≤ reachBytes) → ∃ a, d.K w a (cs.drop off) ∧ wf a
theorem fopens_one {P : Program} {f : Field} {off : Nat} {α : Type} {d : Kd α} {wf : α → Prop} (ho : f.offset = off) (hc : P.cellsOf f.type = d.sz) (hs : Opens P f.type d wf) : FOpens P [f] off d wf := by
  intro H enc w base spare held fuel cs xs hl hx h hz
  obtain ⟨x, rfl⟩ : ∃ x, xs = [x] := by
    cases xs with
    | nil => simp at hx
    | cons x r => cases r with
      | nil => exact ⟨x, rfl⟩
      | cons _ _ => simp at hx
  have h0 := h 0 f rfl
  rw [ho, hc, List.take_of_length_le (by rw [List.length_drop]; omega)] at h0
  exact hs h0 (fun n hn => hz n (by simpa [DataW.weightsEach] using hn))
theorem fopens_cons {P : Program} {f : Field} {fs : List Field} {off : Nat} {α β : Type} {d : Kd α} {d' : Kd β} {wf : α → Prop} {wf' : β → Prop} (ho : f.offset = off) (hc : P.cellsOf f.type = d.sz) (hs : Opens P f.type d wf) (hr : FOpens P fs (off + d.sz) d' wf') :
    FOpens P (f :: fs) off (Kd.pair d d') (fun p => wf p.1 ∧ wf' p.2) := by
  intro H enc w base spare held fuel cs xs hl hx h hz
  cases xs with
  | nil => simp at hx
  | cons x xs =>
    have hl' : cs.length = off + (d.sz + d'.sz) := hl
    have h0 := h 0 f rfl
    rw [ho, hc] at h0
    obtain ⟨a, ha, hwa⟩ := hs h0 (fun n hn => hz n (by simp only [List.map_cons, DataW.weightsEach, List.mem_append]; exact .inl hn))
    obtain ⟨b, hb, hwb⟩ := hr (enc := enc) (base := base) (spare := spare) (held := held) (fuel := fuel) (cs := cs) (xs := xs) (w := w) (by omega) (by simpa using hx) (fun i g hg => h (i + 1) g (by simpa using hg))
      (fun n hn => hz n (by simp only [List.map_cons, DataW.weightsEach, List.mem_append]; exact .inr hn))
    refine ⟨(a, b), ⟨_, _, ?_, ha, hb⟩, hwa, hwb⟩
    rw [← List.drop_drop]
    exact (List.take_append_drop _ _).symm
theorem opens_struct {P : Program} {t : TypeId} {fs : Array Field} {α : Type} {d : Kd α} {wf : α → Prop} (ht : P.underlying t = some (.struct fs)) (hc : P.cellsOf t = d.sz) (hf : FOpens P fs.toList 0 d wf) : Opens P t d wf := by
  intro H enc w base spare held fuel cs x h hz
  obtain ⟨xs, n, rfl, rfl, hl, hx, hel⟩ := DataW.trod_struct ht h
  have := hf (cs := cs) (xs := xs) (by omega) (by simpa using hx) (fun i f hf => hel i f (by simpa using hf)) (fun q hq => hz q (by simp only [DataW.weights, ht]; exact hq))
  simpa using this
/-- A parameter: its value's cells are of the kind. -/
theorem open_arg {H : Type} {enc : TypeId × Value → H} {P : Program} {W : World} {base : Nat} {spare : Nat → Bool} {held : Bool} {t : TypeId} {α : Type} {d : Kd α} {wf : α → Prop} (ho : Opens P t d wf)
    {v : Value} {x : DataW H} {ps : List MemPlace} (h : DataW.Trod enc P W base spare held t v x ps) {ts : List TypeId} {ds : List (DataW H)} {j : Nat}
    (hsz : (DataW.weightsEach P ts ds).all (· ≤ reachBytes) = true) (ht : ts[j]? = some t) (hd : ds[j]? = some x) : ∃ a, d.K W a v.cells.toList ∧ wf a := by
  obtain ⟨fuel, hf⟩ := h
  refine ho hf (fun n hn => ?_)
  have := List.all_eq_true.1 hsz n (DataW.weights_mem_each ht hd n hn)
  simpa using this
end Go.Proofs.Yteocngcojijnkaa.Opn
namespace Go.Proofs.Yteocngcojijnkaa.Opn
open Go.RowKit Go.Proofs.YteocngcojijnkaaW.PrintWords
abbrev kRing : Kd (List Int × Int × Int) := Kd.pair (Kd.slice 3 (Kd.int .i64)) (Kd.pair (Kd.int .i64) (Kd.int .i64))
def wInt (n : Int) : Prop := (Lit.int .i64 n).wf = true
def wInts (l : List Int) : Prop := l.length ≤ maxLen ∧ l.length * 8 ≤ 140737488351232 ∧ ∀ x ∈ l, (Lit.int .i64 x).wf = true
def wRing (p : List Int × Int × Int) : Prop := wInts p.1 ∧ wInt p.2.1 ∧ wInt p.2.2
theorem opens_ring : Opens Try.prog 42 kRing wRing := by
  refine @opens_struct _ _ _ _ _ _ Try.underlying42 (by kernel_rfl) ?_
  refine @fopens_cons Try.prog _ _ 0 _ _ (Kd.slice 3 (Kd.int .i64)) (Kd.pair (Kd.int .i64) (Kd.int .i64)) (wInts) (fun q => wInt q.1 ∧ wInt q.2) rfl (by kernel_rfl) ?_ ?_
  · exact @opens_slice _ _ _ _ _ _ 8 Try.underlying22 (by kernel_rfl) (by kernel_rfl) (@opens_int _ _ _ Try.underlying3)
  refine @fopens_cons Try.prog _ _ 1 _ _ (Kd.int .i64) (Kd.int .i64) (wInt) (wInt) rfl (by kernel_rfl) ?_ ?_
  · exact @opens_int _ _ _ Try.underlying3
  exact @fopens_one Try.prog _ 2 _ (Kd.int .i64) (wInt) rfl (by kernel_rfl) (@opens_int _ _ _ Try.underlying3)
theorem ring_row {w : World} {cs : List Value} {p : List Int × Int × Int} (h : kRing.K w p cs) : ∃ A c, cs = [.slice A p.1.length c, .int .i64 p.2.1, .int .i64 p.2.2] ∧ p.1.length ≤ c ∧ Kd.C (Kd.int .i64) w A p.1.length p.1 := by
  obtain ⟨_, _, rfl, ⟨A, c, rfl, hc, hC⟩, _, _, rfl, rfl, rfl⟩ := h
  exact ⟨A, c, rfl, hc, hC⟩
end Go.Proofs.Yteocngcojijnkaa.Opn
namespace Go.Proofs.Yteocngcojijnkaa.Cv
open Go.RowKit Go.Proofs.Yteocngcojijnkaa.Lex Go.Proofs.Yteocngcojijnkaa.Ql
open Go.Proofs.Yteocngcojijnkaa.Cm (w_succ)
open Go.Proofs.Yteocngcojijnkaa.QlQA (has_ev)
open Go.Proofs.Yteocngcojijnkaa.Hs (okB okB_len listsP rcheck_ev chk keepR_mem ptsR_pos ptsP_len)
open Go.Proofs.YteocngcojijnkaaW.PrintWords Go.Proofs.YteocngcojijnkaaW.PrintLast Go.Proofs.YteocngcojijnkaaW.PrintMore
set_option linter.unusedVariables false
set_option linter.unusedSimpArgs false
theorem keepC_mono {g g' : List Int} (h : ∀ x ∈ g, x ∈ g') : ∀ d : List Int, (Cm.keep g d).length ≤ (Cm.keep g' d).length
  | [] => Nat.le_refl _
  | x :: d => by
    have ih := keepC_mono h d
    unfold Cm.keep at *
    rw [List.filter_cons, List.filter_cons]
    by_cases h1 : x ∈ g
    · rw [if_pos (decide_eq_true h1), if_pos (decide_eq_true (h x h1)), List.length_cons, List.length_cons]
      omega
    · rw [if_neg (by simpa using h1)]
      split
      · rw [List.length_cons]; omega
      · exact ih
theorem enough_mono {l g g' : List Int} (h : ∀ x ∈ g, x ∈ g') (he : enough l g = true) : enough l g' = true := by
  have hm := keepC_mono h (once l)
  rw [keep_once, keep_once] at hm
  unfold enough at *
  rw [Bool.and_eq_true, decide_eq_true_iff, decide_eq_true_iff] at *
  omega
theorem cov_mono {L : List (List Int)} {g g' : List Int} (h : ∀ x ∈ g, x ∈ g') (he : cov L g = true) : cov L g' = true := by
  unfold cov at *
  rw [List.all_eq_true] at *
  exact fun x hx => enough_mono h (he x hx)
theorem lostF_mono {a a' : List Int} (h : ∀ x ∈ a', x ∈ a) : ∀ (L : List (List Int)) (i : Nat), ∀ x ∈ lostF a i L, x ∈ lostF a' i L
  | [], i => fun x hx => hx
  | y :: L, i => by
    have ih := lostF_mono h L (i + 1)
    have e1 : ∀ b, lostF b i (y :: L) = if enough y b = true then lostF b (i + 1) L else (i : Int) :: lostF b (i + 1) L := fun _ => rfl
    intro x hx
    rw [e1] at hx ⊢
    by_cases h1 : enough y a = true
    · rw [if_pos h1] at hx
      split
      · exact ih x hx
      · exact List.mem_cons_of_mem _ (ih x hx)
    · rw [if_neg h1] at hx
      rw [if_neg (fun h2 => h1 (enough_mono h h2))]
      rcases List.mem_cons.1 hx with rfl | hx
      · exact List.mem_cons_self
      · exact List.mem_cons_of_mem _ (ih x hx)
theorem cov_all {l : List Int} {each keep : Int} (ho : okB l each keep = true) : cov (listsP l each keep) l = true := by
  obtain ⟨k0, k1, k2, k3, k4, k5, _⟩ := okB_len ho
  unfold cov
  rw [List.all_eq_true]
  intro x hx
  have hlen := lp_len ho x hx
  have hsub : ∀ y ∈ x, y ∈ l := by
    unfold listsP at hx
    obtain ⟨p, _, rfl⟩ := List.mem_map.1 hx
    exact fun y hy => keepR_mem k2 hy
  have h1 : 0 < (once x).length := once_pos (by omega)
  show enough x l = true
  unfold enough
  rw [com_more hsub, decide_eq_true h1, Bool.true_and, decide_eq_true_iff]
  omega
theorem cov_none {l : List Int} {each keep : Int} (ho : okB l each keep = true) : cov (listsP l each keep) [] = false := by
  obtain ⟨k0, k1, k2, k3, k4, k5, _⟩ := okB_len ho
  unfold cov
  rw [List.all_eq_false]
  have hp : 0 < (listsP l each keep).length := by
    unfold listsP
    rw [List.length_map, ptsP_len]
    exact ptsR_pos k0 k2
  obtain ⟨x, hx⟩ := List.exists_mem_of_length_pos hp
  refine ⟨x, hx, ?_⟩
  unfold enough
  rw [com_nil]
  simp
theorem known_f' : Fk.known.f = some true := rfl
theorem one_l0 {l : List Int} {each keep : Int} (ho : okB l each keep = true) (a b : Bool) (hab : a = true → b = true) (P Q : List Int) (hPQ : ∀ x ∈ P, x ∈ Q) (hP : P.length ≤ 4096) (hQ : Q.length ≤ 4096) : ∀ (n i : Nat), P.length - i = n → i ≤ P.length →
    Since (fun k => QI.icehouselaw10_QuorumOne.l0 k a b P Q (i : Int) l each keep) true := by
  intro n
  induction n with
  | zero =>
    intro i hn hi
    have hf : ¬ ((i : Int) < (P.length : Int)) := by omega
    have h1 := covers_ok ho l
    have h2 := covers_ok ho []
    rw [cov_all ho] at h1
    rw [cov_none ho] at h2
    refine Since.two h1 h2 fun k e1 e2 => ?_
    simp only [QI.icehouselaw10_QuorumOne.l0, if_neg hf]
    rw [e1, Option.bind_some, e2, Option.bind_some]
    cases ha : a
    · simp [known_f']
    · simp [known_f', hab ha]
  | succ n ih =>
    intro i hn hi
    have h1 : i < P.length := by omega
    have f1 : (i : Int) < (P.length : Int) := by omega
    have f0 : (0 : Int) ≤ (i : Int) := by omega
    have r1 : rd P (i : Int) = P[i] := by simp [rd, h1]
    refine Since.two (ih (i + 1) (by omega) (by omega)) (has_ev Q P[i] (by omega)) fun k hk hq => ?_
    simp only [QI.icehouselaw10_QuorumOne.l0, if_pos f1, if_pos f0, r1, w_succ i (by omega)]
    rw [hq, Option.bind_some, if_pos (decide_eq_true (hPQ _ (List.getElem_mem h1))), hk]
theorem one_long (l : List Int) (each keep : Int) (got : List Int) (node : Int) : Since (fun k => QI.icehouselaw10_QuorumOne.j0 k got node true l each keep) true := Since.none fun k => by simp only [QI.icehouselaw10_QuorumOne.j0, if_true, known_f', Option.bind_some]
theorem one_j0 {l : List Int} {each keep : Int} (ho : okB l each keep = true) (got : List Int) (node : Int) (hg : got.length ≤ 30) : Since (fun k => QI.icehouselaw10_QuorumOne.j0 k got node false l each keep) true := by
  have hs := lp_small ho
  have hm : ∀ x ∈ got, x ∈ got ++ [node] := fun x hx => List.mem_append_left _ hx
  have hk : ∀ x ∈ Ld.keep (got ++ [node]) l, x ∈ Ld.keep got l := fun x hx => mem_keep.2 ⟨(mem_keep.1 hx).1, fun h => (mem_keep.1 hx).2 (hm x h)⟩
  have hlen : ∀ a, (lost (listsP l each keep) a).length ≤ 4096 := fun a => Nat.le_trans (lostF_len a _ 0) hs
  obtain ⟨K1, h1⟩ := covers_ok ho got
  obtain ⟨K2, h2⟩ := covers_ok ho (got ++ [node])
  obtain ⟨K3, h3⟩ := lost_ok ho got
  obtain ⟨K4, h4⟩ := lost_ok ho (got ++ [node])
  obtain ⟨K5, h5⟩ := one_l0 ho (cov (listsP l each keep) got) (cov (listsP l each keep) (got ++ [node])) (cov_mono hm) (lost (listsP l each keep) (Ld.keep got l)) (lost (listsP l each keep) (Ld.keep (got ++ [node]) l)) (lostF_mono hk _ 0) (hlen _) (hlen _) _ 0 rfl (Nat.zero_le _)
  refine ⟨K1 + K2 + K3 + K4 + K5 + 1, fun k hk => ?_⟩
  obtain ⟨m, rfl⟩ : ∃ m, k = m + 1 := ⟨k - 1, by omega⟩
  have e1 := h1 m (by omega)
  have e2 := h2 m (by omega)
  have e3 := h3 m (by omega)
  have e4 := h4 m (by omega)
  have e5 := h5 m (by omega)
  simp only at e1 e2 e3 e4 e5
  simp only [QI.icehouselaw10_QuorumOne.j0]
  rw [if_neg (by decide), if_pos (by simp; omega), Option.bind_some, List.nil_append, if_pos (by omega), Option.bind_some, e1, Option.bind_some, e2, Option.bind_some, e3, Option.bind_some, e4, Option.bind_some]
  exact e5
theorem one_ev (l : List Int) (each keep : Int) (got : List Int) (node : Int) : Since (fun k => QI.icehouselaw10_QuorumOne.f k l each keep got node) true := by
  by_cases h1 : (got.length : Int) > 30
  · refine (one_long l each keep got node).map fun k hk => ?_
    simp only [QI.icehouselaw10_QuorumOne.f, if_pos h1]
    exact hk
  · by_cases h2 : (l.length : Int) > 8
    · refine (one_long l each keep got node).map fun k hk => ?_
      simp only [QI.icehouselaw10_QuorumOne.f, if_neg h1, if_pos h2]
      exact hk
    · by_cases h3 : each > 4
      · refine (one_long l each keep got node).map fun k hk => ?_
        simp only [QI.icehouselaw10_QuorumOne.f, if_neg h1, if_neg h2, if_pos h3]
        exact hk
      · have hc0 := rcheck_ev l each keep (by omega)
        cases ho : okB l each keep
        · have hc : chk l each keep = 2 := by unfold chk; rw [ho]; rfl
          rw [hc] at hc0
          refine hc0.and (one_long l each keep got node) fun k e1 hk => ?_
          simp only [QI.icehouselaw10_QuorumOne.f, if_neg h1, if_neg h2, if_neg h3]
          rw [e1, Option.bind_some]
          exact hk
        · have hc : chk l each keep = 0 := by unfold chk; rw [ho]; rfl
          rw [hc] at hc0
          refine hc0.and (one_j0 ho got node (by omega)) fun k e1 hk => ?_
          simp only [QI.icehouselaw10_QuorumOne.f, if_neg h1, if_neg h2, if_neg h3]
          rw [e1, Option.bind_some]
          exact hk
theorem quorumOne (w : World) (cs0 : Array Value) (a0 : List Int × Int × Int) (K0 : Opn.kRing.K w a0 cs0.toList) (wf0 : Opn.wRing a0) (A1 : Option Addr) (c1 : Nat) (l1 : List Int) (hr1 : Kd.C (Kd.int .i64) w A1 l1.length l1) (hc1 : l1.length ≤ c1) (wf1 : l1.length ≤ maxLen ∧ l1.length * 8 ≤ 140737488351232 ∧ ∀ x ∈ l1, (Lit.int .i64 x).wf = true) (a2 : Int) (wf2 : (Lit.int .i64 a2).wf = true) :
    Calls Try.prog 9 #[.agg cs0, .slice A1 l1.length c1, .int .i64 a2] w fun e w' => e = .returned (.bool true) ∧ Below w.heap.size w w' := by
  obtain ⟨A0, c0, e0, hc0, C0⟩ := Opn.ring_row K0
  rw [show cs0 = #[.slice A0 a0.1.length c0, .int .i64 a0.2.1, .int .i64 a0.2.2] from by rw [← Array.toList_inj, e0]]
  obtain ⟨K, hK⟩ := one_ev a0.1 a0.2.1 a0.2.2 l1 a2
  exact QI.icehouselaw10_QuorumOne.calls K A0 c0 a0.1 a0.2.1 a0.2.2 A1 c1 l1 a2 true w C0 hc0 hr1 hc1 (hK K (Nat.le_refl K))
end Go.Proofs.Yteocngcojijnkaa.Cv
