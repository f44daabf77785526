/- The contracts of pack.Nums, pack.Rows and known, for the print. Conditions: bytes that fit in memory. · Written by a program of this session over the kit's print: functions and their contracts. -/
import Derived.Test.YtfhgclojfjiblaaZPackBack23
import Derived.Test.YtfhgclojfjiblaaZPackBack21
import Derived.Test.YtfhgclojfjiblaaProg
import Derived.Below
import Derived.Deep.Draws
import Derived.Deep.AppendLies
import Derived.Maps.AppendAt
import Derived.OwnWalk
import Derived.Laws.BytesArg
import Derived.Laws.MakeOwn
import Derived.Laws.OwnMore
import Derived.Deep.OwnRows
import Derived.Tactics
import Derived.Lib.ConvBytes
import Derived.Laws.Slices
import Derived.WalkKit
import Derived.KernelRfl
import Derived.RowKit3
import Derived.Deep.LoopGhost
import Derived.Deep.QuietTactic
import Derived.BigQuiet
import Derived.WideLaws
import Derived.Deep.DeepCutAuto
import Derived.Deep.CutBlock
import Derived.Deep.RegionHeld3
import Derived.Laws.Rows
import Derived.Lib.AppendStr
import Derived.ArgAppend
import Derived.Laws.IdiomCopy
import Derived.OrdersHeld
import Derived.Laws.BitsLemmas
import Derived.RowKit
import Derived.Test.YtfhgclojfjiblaaZPackBack22
import Derived.Test.YtfhgclojfjiblaaZPackBack13
import Derived.Test.YtfhgclojfjiblaaWWords
import Derived.Test.YtfhgclojfjiblaaWLast
import Derived.Test.YtfhgclojfjiblaaWTab
import Derived.Test.YtfhgclojfjiblaaWFour
import Derived.Test.YtfhgclojfjiblaaWQPut
import Derived.Test.YtfhgclojfjiblaaWApart
import Derived.Test.YtfhgclojfjiblaaWArr
import Derived.Test.YtfhgclojfjiblaaWZeros
import Derived.Test.YtfhgclojfjiblaaWFoot
import Derived.Test.YtfhgclojfjiblaaWKept
import Derived.Test.YtfhgclojfjiblaaWShare
import Derived.Test.YtfhgclojfjiblaaWN
import Derived.Test.YtfhgclojfjiblaaWFootNe
import Derived.Test.YtfhgclojfjiblaaWAt
import Derived.Test.YtfhgclojfjiblaaWEqStruct
import Derived.Test.YtfhgclojfjiblaaWRepsOne
import Derived.Test.YtfhgclojfjiblaaWInv
import Derived.Test.YtfhgclojfjiblaaWInvWords
import Derived.Test.YtfhgclojfjiblaaWGuard
import Derived.Test.YtfhgclojfjiblaaWNEv
import Derived.Test.YtfhgclojfjiblaaWMore
namespace Go.Proofs.Ytfhgclojfjiblaa.Fp
open Go.ChangeShapes Go.WideShapes Go.ChangeAt Go.RowKit Go.Proofs.Ytfhgclojfjiblaa.Pk
open Go.Proofs.YtfhgclojfjiblaaW.PrintWords Go.Proofs.YtfhgclojfjiblaaW.PrintLast Go.Proofs.YtfhgclojfjiblaaW.PrintMore
def okRow (l : List Int) : Prop := (∀ x ∈ l, 0 ≤ x ∧ x < 256) ∧ l.length ≤ 4398046511103
instance (l : List Int) : Decidable (okRow l) := by unfold okRow; infer_instance
def pack_Nums.f (l : List Int) : Option (List Int × Int) := if okRow l then some (numsR [] l) else none
theorem pack_Nums.is {l : List Int} (h : okRow l) : pack_Nums.f l = some (numsR [] l) := if_pos h
def pack_Rows.f (l : List Int) : Option (List (List Int) × Int) := if okRow l then some (rowsR l) else none
theorem pack_Rows.is {l : List Int} (h : okRow l) : pack_Rows.f l = some (rowsR l) := if_pos h
def known.f : Option Bool := some true
theorem known.calls (r : Bool) (w : World) (hf : known.f = some r) :
    Calls Try.prog 10 #[] w fun e w' => e = .returned (.bool r) ∧ Below w.heap.size w w' := by
  obtain rfl := Option.some.inj hf
  exact known_ w
theorem pack_Nums.calls (A : Option Addr) (d : Nat) (l : List Int) (r1 : List Int) (r2 : Int) (w : World) (hr : Kd.C (Kd.int .u8) w A l.length l) (hc : l.length ≤ d) (hf : pack_Nums.f l = some (r1, r2)) :
    Calls Try.prog 26 #[.slice A l.length d] w fun e w' => ∃ v0_ : Value, e = .returned (.tuple #[v0_, .int .i64 r2]) ∧ Kd.R (Kd.int .i64) 3 w' w.heap.size (fun _ => True) v0_ r1 ∧ Below w.heap.size w w' := by
  by_cases h : okRow l
  · rw [pack_Nums.is h] at hf
    have hq := Option.some.inj hf
    refine (nums_ hr hc h.1 (by have := h.2; omega)).mono ?_
    rintro x w1 ⟨⟨v, d, rfl, h1, h2⟩, hB⟩
    unfold numsR at hq
    by_cases h0 : (numsS l).2 = 0
    · rw [if_pos h0, List.nil_append] at hq
      injection hq with e1 e2
      subst e1 e2
      exact ⟨v, by rw [h0], (h1 h0).2, hB⟩
    · rw [if_neg h0] at hq
      injection hq with e1 e2
      subst e1 e2
      rw [h2 h0]
      exact ⟨_, rfl, Kd.R_nil _ _ _ _ _, hB⟩
  · exact absurd (show pack_Nums.f l = none from if_neg h) (by rw [hf]; simp)
theorem pack_Rows.calls (A : Option Addr) (d : Nat) (l : List Int) (r1 : List (List Int)) (r2 : Int) (w : World) (hr : Kd.C (Kd.int .u8) w A l.length l) (hc : l.length ≤ d) (hf : pack_Rows.f l = some (r1, r2)) :
    Calls Try.prog 28 #[.slice A l.length d] w fun e w' => ∃ v0_ : Value, e = .returned (.tuple #[v0_, .int .i64 r2]) ∧ Kd.R (Kd.slice 5 (Kd.int .u8)) 22 w' w.heap.size (fun _ => True) v0_ r1 ∧ Below w.heap.size w w' := by
  by_cases h : okRow l
  · rw [pack_Rows.is h] at hf
    have hq := Option.some.inj hf
    refine (rows_ hr hc h.1 h.2).mono ?_
    rintro x w1 ⟨⟨v, d, rfl, h1, h2⟩, hB⟩
    unfold rowsR at hq
    by_cases h0 : (rowsS l).2 = 0
    · rw [if_pos h0] at hq
      injection hq with e1 e2
      subst e1 e2
      exact ⟨v, by rw [h0], (h1 h0).2, hB⟩
    · rw [if_neg h0] at hq
      injection hq with e1 e2
      subst e1 e2
      rw [h2 h0]
      exact ⟨_, rfl, Kd.R_nil _ _ _ _ _, hB⟩
  · exact absurd (show pack_Rows.f l = none from if_neg h) (by rw [hf]; simp)
def pack_Num.f (n : Int) : Option (List Int) := some (Enc.numB n)
theorem pack_Num.calls (a0 : Int) (r : List Int) (w : World) (h : pack_Num.f a0 = some r) :
    Calls Try.prog 14 #[.int .i64 a0] w fun e w' => ∃ v0_ : Value, e = .returned (v0_) ∧ Kd.R (Kd.int .u8) 5 w' w.heap.size (fun _ => True) v0_ r ∧ Below w.heap.size w w' := by
  obtain rfl := Option.some.inj h
  exact EncC.num_c a0 w
def pack_Row.f (l : List Int) : Option (List Int × Int) := if l.length ≤ 65536 then some (EncP.rowB l, 0) else some ([], 3)
theorem pack_Row.calls (A0 : Option Addr) (c0 : Nat) (l0 : List Int) (r1 : List Int) (r2 : Int) (w : World) (hr0 : Kd.C (Kd.int .u8) w A0 l0.length l0) (hc0 : l0.length ≤ c0) (h : pack_Row.f l0 = some (r1, r2)) :
    Calls Try.prog 11 #[.slice A0 l0.length c0] w fun e w' => ∃ v0_ : Value, e = .returned (.tuple #[v0_, .int .i64 r2]) ∧ Kd.R (Kd.int .u8) 5 w' w.heap.size (fun _ => True) v0_ r1 ∧ Below w.heap.size w w' := by
  unfold pack_Row.f at h
  by_cases hl : l0.length ≤ 65536
  · rw [if_pos hl] at h
    have hq := Option.some.inj h
    injection hq with e1 e2
    subst e1 e2
    exact EncC.row_c hr0 hc0 hl
  · rw [if_neg hl] at h
    have hq := Option.some.inj h
    injection hq with e1 e2
    subst e1 e2
    exact EncC.row_long hr0 hc0 (by omega)
end Go.Proofs.Ytfhgclojfjiblaa.Fp

namespace Go.Proofs.Ytfhgclojfjiblaa.QB
open Go.RowKit Go.Proofs.YtfhgclojfjiblaaW.PrintWords Go.Proofs.YtfhgclojfjiblaaW.PrintLast Go.Proofs.YtfhgclojfjiblaaW.PrintMore
attribute [local go_sem] max2_int min2_int max_two min_two max_three min_three max_four min_four   -- for this text's walks alone
set_option linter.unusedVariables false
set_option linter.unusedSimpArgs false



def errW : Option Int → Value
  | none => .nilIface
  | some c => .iface 0 (.int .i64 c)
theorem errW_none : errW none = .nilIface := rfl
theorem errW_some (c : Int) : errW (some c) = .iface 0 (.int .i64 c) := rfl

theorem info5 : (Try.prog.info? 5).map (fun i => (i.zero, i.size, i.bytes)) = some (some (.int .u8 0), 1, 1) := by kernel_rfl
-- the values' own types
def rd_L1 (xs : List (List Int)) (i : Int) : (List Int) := xs.getD i.toNat ([] : List Int)
theorem at_L1 {w : World} {A : Option Addr} {n : Nat} {xs : List (List Int)} (h : Kd.C (Kd.slice 5 (Kd.int .u8)) w A n xs) (i : Int) (h0 : 0 ≤ i) (h1 : i < n) : ∃ ad A0 c0, A = some ad ∧ w.cell? (ad.add i.toNat) = some (.slice A0 (rd_L1 xs i).length c0) ∧ (rd_L1 xs i).length ≤ c0 ∧ (Kd.int .u8).C w A0 (rd_L1 xs i).length (rd_L1 xs i) := by
  obtain ⟨ad, c, e, _, hK, hc0⟩ := Kd.C_get h ([] : List Int) i h0 h1
  have hc : ∀ j u, c[j]? = some u → w.cell? (ad.add (i.toNat * 1 + j)) = some u := hc0
  obtain ⟨A0, c0, rfl, l0, g0⟩ := hK
  exact ⟨ad, A0, c0, e, by have hq := hc 0 _ rfl; rwa [Nat.mul_one, Nat.add_zero] at hq, l0, g0⟩

end Go.Proofs.Ytfhgclojfjiblaa.QB
