/- How tags stand, plain: by their numbers, one behind the other. And what holds from some count of rounds on. · tags.Compare, plain. · Written by a program of this session over the kit's print: functions and their contracts. · Written by a program of this session over the kit's print: functions and their contracts. -/
import Derived.Test.YtbmbnkoggmeanaaZTagsWrites9
import Derived.Test.YtbmbnkoggmeanaaProg
import Derived.Below
import Derived.Deep.Draws
import Derived.Deep.AppendLies
import Derived.Maps.AppendAt
import Derived.OwnWalk
import Derived.Laws.BytesArg
import Derived.Laws.MakeOwn
import Derived.Laws.OwnMore
import Derived.Deep.OwnRows
import Derived.Tactics
import Derived.Lib.ConvBytes
import Derived.Laws.Slices
import Derived.WalkKit
import Derived.KernelRfl
import Derived.RowKit3
import Derived.Deep.LoopGhost
import Derived.Deep.QuietTactic
import Derived.BigQuiet
import Derived.WideLaws
import Derived.Deep.DeepCutAuto
import Derived.Deep.CutBlock
import Derived.Deep.RegionHeld3
import Derived.Laws.Rows
import Derived.Lib.AppendStr
import Derived.ArgAppend
import Derived.Laws.IdiomCopy
import Derived.OrdersHeld
import Derived.Laws.BitsLemmas
import Derived.RowKit
import Derived.Test.YtbmbnkoggmeanaaZTagsWrites12
import Derived.Test.YtbmbnkoggmeanaaWWords
import Derived.Test.YtbmbnkoggmeanaaWLast
import Derived.Test.YtbmbnkoggmeanaaWTab
import Derived.Test.YtbmbnkoggmeanaaWFour
import Derived.Test.YtbmbnkoggmeanaaWQPut
import Derived.Test.YtbmbnkoggmeanaaWApart
import Derived.Test.YtbmbnkoggmeanaaWArr
import Derived.Test.YtbmbnkoggmeanaaWZeros
import Derived.Test.YtbmbnkoggmeanaaWFoot
import Derived.Test.YtbmbnkoggmeanaaWKept
import Derived.Test.YtbmbnkoggmeanaaWShare
import Derived.Test.YtbmbnkoggmeanaaWN
import Derived.Test.YtbmbnkoggmeanaaWFootNe
import Derived.Test.YtbmbnkoggmeanaaWAt
import Derived.Test.YtbmbnkoggmeanaaWEqStruct
import Derived.Test.YtbmbnkoggmeanaaWRepsOne
import Derived.Test.YtbmbnkoggmeanaaWInv
import Derived.Test.YtbmbnkoggmeanaaWInvWords
import Derived.Test.YtbmbnkoggmeanaaWGuard
import Derived.Test.YtbmbnkoggmeanaaWNEv
import Derived.Test.YtbmbnkoggmeanaaWMore
namespace Go.Proofs.Ytbmbnkoggmeanaa.Lex
def cmp1 (a b : Int) : Int := if a < b then -1 else if a > b then 1 else 0
def cmpV (a0 a1 a2 b0 b1 b2 : Int) : Int := if cmp1 a0 b0 ≠ 0 then cmp1 a0 b0 else if cmp1 a1 b1 ≠ 0 then cmp1 a1 b1 else cmp1 a2 b2
theorem cmpV_ge {a0 a1 a2 b0 b1 b2 : Int} : cmpV a0 a1 a2 b0 b1 b2 ≥ 0 ↔ (a0 > b0 ∨ a0 = b0 ∧ (a1 > b1 ∨ a1 = b1 ∧ a2 ≥ b2)) := by
  unfold cmpV cmp1
  repeat' split
  all_goals omega
theorem cmpV_gt {a0 a1 a2 b0 b1 b2 : Int} : cmpV a0 a1 a2 b0 b1 b2 > 0 ↔ (a0 > b0 ∨ a0 = b0 ∧ (a1 > b1 ∨ a1 = b1 ∧ a2 > b2)) := by
  unfold cmpV cmp1
  repeat' split
  all_goals omega
theorem cmpV_zero {a0 a1 a2 b0 b1 b2 : Int} : cmpV a0 a1 a2 b0 b1 b2 = 0 ↔ (a0 = b0 ∧ a1 = b1 ∧ a2 = b2) := by
  unfold cmpV cmp1
  repeat' split
  all_goals omega
theorem cmpV_neg (a0 a1 a2 b0 b1 b2 : Int) : cmpV a0 a1 a2 b0 b1 b2 = - cmpV b0 b1 b2 a0 a1 a2 := by
  unfold cmpV cmp1
  repeat' split
  all_goals omega
/-- from some count of rounds on -/
def Since {α : Type} (f : Nat → Option α) (r : α) : Prop := ∃ K, ∀ k, K ≤ k → f k = some r
theorem Since.one {α β : Type} {f : Nat → Option α} {r : α} {F : Nat → Option β} {q : β} (h : Since f r) (hF : ∀ k, f k = some r → F (k + 1) = some q) : Since F q := by
  obtain ⟨K, h⟩ := h
  refine ⟨K + 1, fun k hk => ?_⟩
  obtain ⟨k, rfl⟩ : ∃ j, k = j + 1 := ⟨k - 1, by omega⟩
  exact hF k (h k (by omega))
theorem Since.two {α α' β : Type} {f : Nat → Option α} {r : α} {g : Nat → Option α'} {r' : α'} {F : Nat → Option β} {q : β} (h : Since f r) (h' : Since g r') (hF : ∀ k, f k = some r → g k = some r' → F (k + 1) = some q) : Since F q := by
  obtain ⟨K, h⟩ := h
  obtain ⟨K', h'⟩ := h'
  refine ⟨K + K' + 1, fun k hk => ?_⟩
  obtain ⟨k, rfl⟩ : ∃ j, k = j + 1 := ⟨k - 1, by omega⟩
  exact hF k (h k (by omega)) (h' k (by omega))
theorem Since.none {β : Type} {F : Nat → Option β} {q : β} (hF : ∀ k, F (k + 1) = some q) : Since F q := by
  refine ⟨1, fun k hk => ?_⟩
  obtain ⟨k, rfl⟩ : ∃ j, k = j + 1 := ⟨k - 1, by omega⟩
  exact hF k
theorem Since.map {α β : Type} {f : Nat → Option α} {r : α} {F : Nat → Option β} {q : β} (h : Since f r) (hF : ∀ k, f k = some r → F k = some q) : Since F q := by
  obtain ⟨K, h⟩ := h
  exact ⟨K, fun k hk => hF k (h k hk)⟩
theorem Since.and {α α' β : Type} {f : Nat → Option α} {r : α} {g : Nat → Option α'} {r' : α'} {F : Nat → Option β} {q : β} (h : Since f r) (h' : Since g r') (hF : ∀ k, f k = some r → g k = some r' → F k = some q) : Since F q := by
  obtain ⟨K, h⟩ := h
  obtain ⟨K', h'⟩ := h'
  exact ⟨K + K', fun k hk => hF k (h k (by omega)) (h' k (by omega))⟩
end Go.Proofs.Ytbmbnkoggmeanaa.Lex

namespace Go.Proofs.Ytbmbnkoggmeanaa.CmpQA
open Go.RowKit Go.Proofs.Ytbmbnkoggmeanaa.Lex Go.Proofs.Ytbmbnkoggmeanaa.QA Go.Proofs.YtbmbnkoggmeanaaW.PrintWords Go.Proofs.YtbmbnkoggmeanaaW.PrintLast Go.Proofs.YtbmbnkoggmeanaaW.PrintMore
set_option linter.unusedVariables false
set_option linter.unusedSimpArgs false
theorem cmp_int (a b : Int) : cmp_Compare_int.f a b = some (cmp1 a b) := by
  unfold cmp_Compare_int.f cmp_isNaN_int.f cmp1
  have h1 : (a != a) = false := by simp
  have h2 : (b != b) = false := by simp
  simp only [h1, h2, Option.bind_some, Bool.false_eq_true, if_false]
  repeat' split
  all_goals first | rfl | omega
theorem or_f (k : Nat) (x y z : Int) : cmp_Or_int.f (k + 4) [x, y, z] = some (if x ≠ 0 then x else if y ≠ 0 then y else z) := by
  have w1 : wrap64 1 = 1 := by decide +kernel
  have w2 : wrap64 2 = 2 := by decide +kernel
  have w3 : wrap64 3 = 3 := by decide +kernel
  unfold cmp_Or_int.f
  simp only [cmp_Or_int.l0, rd, List.length_cons, List.length_nil]
  by_cases hx : x = 0
  · by_cases hy : y = 0
    · by_cases hz : z = 0
      · simp [hx, hy, hz, w1, w2, w3]
      · simp [hx, hy, hz, w1, w2, w3]
    · simp [hx, hy, w1, w2, w3]
  · simp [hx, w1, w2, w3]
theorem compare_f (k : Nat) (a0 a1 a2 b0 b1 b2 : Int) : tags_Compare.f (k + 4) a0 a1 a2 b0 b1 b2 = some (cmpV a0 a1 a2 b0 b1 b2) := by
  unfold tags_Compare.f cmpV
  simp only [cmp_int, Option.bind_some, or_f]
theorem compare_ev (a0 a1 a2 b0 b1 b2 : Int) : Since (fun k => tags_Compare.f k a0 a1 a2 b0 b1 b2) (cmpV a0 a1 a2 b0 b1 b2) :=
  ⟨4, fun k hk => by obtain ⟨j, rfl⟩ : ∃ j, k = j + 4 := ⟨k - 4, by omega⟩; exact compare_f j _ _ _ _ _ _⟩
end Go.Proofs.Ytbmbnkoggmeanaa.CmpQA

namespace Go.Proofs.Ytbmbnkoggmeanaa.QR
open Go.RowKit Go.Proofs.YtbmbnkoggmeanaaW.PrintWords Go.Proofs.YtbmbnkoggmeanaaW.PrintLast Go.Proofs.YtbmbnkoggmeanaaW.PrintMore
attribute [local go_sem] max2_int min2_int max_two min_two max_three min_three max_four min_four   -- for this text's walks alone
set_option linter.unusedVariables false
set_option linter.unusedSimpArgs false



def errW : Option Int → Value
  | none => .nilIface
  | some c => .iface 0 (.int .i64 c)
theorem errW_none : errW none = .nilIface := rfl
theorem errW_some (c : Int) : errW (some c) = .iface 0 (.int .i64 c) := rfl

theorem info3 : (Try.prog.info? 3).map (fun i => (i.zero, i.size, i.bytes)) = some (some (.int .i64 0), 1, 8) := by kernel_rfl
theorem info5 : (Try.prog.info? 5).map (fun i => (i.zero, i.size, i.bytes)) = some (some (.int .u8 0), 1, 1) := by kernel_rfl
-- the values' own types

end Go.Proofs.Ytbmbnkoggmeanaa.QR

namespace Go.Proofs.Ytbmbnkoggmeanaa.QR
open Go.RowKit Go.Proofs.YtbmbnkoggmeanaaW.PrintWords Go.Proofs.YtbmbnkoggmeanaaW.PrintLast Go.Proofs.YtbmbnkoggmeanaaW.PrintMore
attribute [local go_sem] max2_int min2_int max_two min_two max_three min_three max_four min_four   -- for this text's walks alone
set_option linter.unusedVariables false
set_option linter.unusedSimpArgs false

theorem eqA23 (d : Nat) (w : World) (x0 y0 : Int) (x1 y1 : Int) (x2 y2 : Int) :
    (Op.equalIn (d + 2) 23 (.agg #[.int .i64 x0, .int .i64 x1, .int .i64 x2]) (.agg #[.int .i64 y0, .int .i64 y1, .int .i64 y2])).run Try.prog w = .ok (x0 == y0 && (x1 == y1 && (x2 == y2))) w := by
  refine eqA_of Try.underlying23 (by kernel_rfl) ?_
  refine eqf_cons (by rfl) (by go_simp; rfl) (by go_simp; rfl) (by go_simp) ?_
  refine eqf_cons (by rfl) (by go_simp; rfl) (by go_simp; rfl) (by go_simp) ?_
  exact eqf_last (by rfl) (by go_simp; rfl) (by go_simp; rfl) (by go_simp)
end Go.Proofs.Ytbmbnkoggmeanaa.QR
