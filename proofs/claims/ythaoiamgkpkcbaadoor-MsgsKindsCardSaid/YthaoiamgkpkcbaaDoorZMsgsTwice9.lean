/- A number's bytes: its bytes, the highest first, behind their count; what is read of them. Plain: no program. Conditions: numbers of 64 bits. · Written by a program of this session over the kit's print: functions and their contracts. · Written by a program of this session over the kit's print: functions and their contracts. -/
import Derived.Test.YthaoiamgkpkcbaaDoorZMsgsTwice2
import Derived.IntWalk
import Derived.RowKit
import Derived.Laws.Wrap64
import Derived.Test.YthaoiamgkpkcbaaDoorProg
import Derived.Below
import Derived.Deep.Draws
import Derived.Deep.AppendLies
import Derived.Maps.AppendAt
import Derived.OwnWalk
import Derived.Laws.BytesArg
import Derived.Laws.MakeOwn
import Derived.Laws.OwnMore
import Derived.Deep.OwnRows
import Derived.Tactics
import Derived.Lib.ConvBytes
import Derived.Laws.Slices
import Derived.WalkKit
import Derived.KernelRfl
import Derived.RowKit3
import Derived.Deep.LoopGhost
import Derived.Deep.QuietTactic
import Derived.BigQuiet
import Derived.WideLaws
import Derived.Deep.DeepCutAuto
import Derived.Deep.CutBlock
import Derived.Deep.RegionHeld3
import Derived.Laws.Rows
import Derived.Lib.AppendStr
import Derived.ArgAppend
import Derived.Laws.IdiomCopy
import Derived.OrdersHeld
import Derived.Laws.BitsLemmas
import Derived.Test.YthaoiamgkpkcbaaDoorWWords
import Derived.Test.YthaoiamgkpkcbaaDoorWLast
import Derived.Test.YthaoiamgkpkcbaaDoorWTab
import Derived.Test.YthaoiamgkpkcbaaDoorWFour
import Derived.Test.YthaoiamgkpkcbaaDoorWQPut
import Derived.Test.YthaoiamgkpkcbaaDoorWApart
import Derived.Test.YthaoiamgkpkcbaaDoorWArr
import Derived.Test.YthaoiamgkpkcbaaDoorWZeros
import Derived.Test.YthaoiamgkpkcbaaDoorWFoot
import Derived.Test.YthaoiamgkpkcbaaDoorWKept
import Derived.Test.YthaoiamgkpkcbaaDoorWShare
import Derived.Test.YthaoiamgkpkcbaaDoorWN
import Derived.Test.YthaoiamgkpkcbaaDoorWFootNe
import Derived.Test.YthaoiamgkpkcbaaDoorWAt
import Derived.Test.YthaoiamgkpkcbaaDoorWEqStruct
import Derived.Test.YthaoiamgkpkcbaaDoorWRepsOne
import Derived.Test.YthaoiamgkpkcbaaDoorWInv
import Derived.Test.YthaoiamgkpkcbaaDoorWInvWords
import Derived.Test.YthaoiamgkpkcbaaDoorWGuard
import Derived.Test.YthaoiamgkpkcbaaDoorWNEv
import Derived.Test.YthaoiamgkpkcbaaDoorWMore
namespace Go.Proofs.YthaoiamgkpkcbaaDoor.Enc
open Go Go.RowKit Go.Proofs.YthaoiamgkpkcbaaDoor.Wrd
set_option linter.unusedVariables false
/-- the digits of a number to the base 256, the highest first; of nought none -/
def beR (u : Nat) : List Int := if h : u = 0 then [] else beR (u / 256) ++ [((u % 256 : Nat) : Int)]
termination_by u
decreasing_by omega
theorem beR_zero : beR 0 = [] := by unfold beR; simp
theorem beR_pos {u : Nat} (h : u ≠ 0) : beR u = beR (u / 256) ++ [((u % 256 : Nat) : Int)] := by rw [beR]; simp [h]
theorem beR_ne {u : Nat} (h : u ≠ 0) : beR u ≠ [] := by rw [beR_pos h]; simp
theorem beR_nil {u : Nat} : beR u = [] ↔ u = 0 := by
  constructor
  · intro h; exact Classical.byContradiction fun e => beR_ne e h
  · rintro rfl; exact beR_zero
theorem beR_len_pos {u : Nat} : 0 < (beR u).length ↔ u ≠ 0 := by
  rw [List.length_pos_iff]; exact not_congr beR_nil
theorem beR_step (v c : Nat) (hc : c < 256) (h : v ≠ 0 ∨ c ≠ 0) : beR (v * 256 + c) = beR v ++ [(c : Int)] := by
  rw [beR_pos (by omega)]
  rw [show (v * 256 + c) / 256 = v from by omega, show (v * 256 + c) % 256 = c from by omega]
theorem wordOf_beR : ∀ u : Nat, wordOf (beR u) = (u : Int) := by
  intro u
  induction u using Nat.strongRecOn with
  | _ u ih =>
    by_cases h : u = 0
    · subst h; rw [beR_zero]; rfl
    · rw [beR_pos h, wordOf_snoc, ih (u / 256) (by omega)]; omega
theorem beR_bytes : ∀ u : Nat, ∀ x ∈ beR u, 0 ≤ x ∧ x < 256 := by
  intro u
  induction u using Nat.strongRecOn with
  | _ u ih =>
    intro x hx
    by_cases h : u = 0
    · subst h; rw [beR_zero] at hx; simp at hx
    · rw [beR_pos h] at hx
      rcases List.mem_append.1 hx with hx | hx
      · exact ih (u / 256) (by omega) x hx
      · simp at hx; subst hx; omega
theorem beR_len_le : ∀ (k u : Nat), u < 256 ^ k → (beR u).length ≤ k
  | 0, u, h => by
    have : u = 0 := by simpa using h
    rw [this, beR_zero]; simp
  | k + 1, u, h => by
    by_cases h0 : u = 0
    · rw [h0, beR_zero]; simp
    · rw [beR_pos h0, List.length_append, List.length_singleton]
      have := beR_len_le k (u / 256) (by rw [Nat.pow_succ] at h; omega)
      omega
theorem lt_of_beR_len (u : Nat) : u < 256 ^ (beR u).length := by
  have h := wordOf_bd (beR u) (beR_bytes u)
  rw [wordOf_beR] at h
  have e : ((256 ^ (beR u).length : Nat) : Int) = (256 : Int) ^ (beR u).length := by simp
  have h2 := h.2
  rw [← e] at h2
  exact Int.ofNat_lt.1 h2
theorem beR_len_iff {u k : Nat} : (beR u).length ≤ k ↔ u < 256 ^ k :=
  ⟨fun h => Nat.lt_of_lt_of_le (lt_of_beR_len u) (Nat.pow_le_pow_right (by decide) h), beR_len_le k u⟩
theorem beR_head : ∀ (u : Nat) (x : Int) (r : List Int), beR u = x :: r → x ≠ 0 := by
  intro u
  induction u using Nat.strongRecOn with
  | _ u ih =>
    intro x r h
    by_cases h0 : u = 0
    · rw [h0, beR_zero] at h; cases h
    · rw [beR_pos h0] at h
      by_cases h1 : u / 256 = 0
      · rw [h1, beR_zero] at h
        simp at h
        rw [← h.1]; omega
      · obtain ⟨y, s, hy⟩ : ∃ y s, beR (u / 256) = y :: s := by
          cases hb : beR (u / 256) with
          | nil => exact absurd hb (beR_ne h1)
          | cons y s => exact ⟨y, s, rfl⟩
        rw [hy] at h
        simp at h
        rw [← h.1]
        exact ih (u / 256) (by omega) y s hy
/-- digits without a leading nought are those of their number -/
theorem beR_of : ∀ (n : Nat) (l : List Int), l.length = n → (∀ x ∈ l, 0 ≤ x ∧ x < 256) → (∀ x r, l = x :: r → x ≠ 0) → beR (wordOf l).toNat = l := by
  intro n
  induction n with
  | zero =>
    intro l hl _ _
    obtain rfl := List.length_eq_zero_iff.1 hl
    simp [wordOf, beR_zero]
  | succ n ih =>
    intro l hl hb hh
    have hne : l ≠ [] := by rintro rfl; simp at hl
    obtain ⟨s, c, rfl⟩ : ∃ s c, l = s ++ [c] := ⟨l.dropLast, l.getLast hne, (List.dropLast_concat_getLast hne).symm⟩
    have hs : s.length = n := by simpa using hl
    have hbs : ∀ x ∈ s, 0 ≤ x ∧ x < 256 := fun x hx => hb x (List.mem_append_left _ hx)
    have hc := hb c (by simp)
    have ihs := ih s hs hbs (fun x r e => hh x (r ++ [c]) (by rw [e]; rfl))
    have hw := wordOf_bd s hbs
    have hcn : c ≠ 0 ∨ s ≠ [] := by
      by_cases e : s = []
      · exact .inl (hh c [] (by rw [e]; rfl))
      · exact .inr e
    have hp : (wordOf s).toNat ≠ 0 ∨ c.toNat ≠ 0 := by
      rcases hcn with h | h
      · right; omega
      · left; intro e; rw [e, beR_zero] at ihs; exact h ihs.symm
    rw [wordOf_snoc, show (wordOf s * 256 + c).toNat = (wordOf s).toNat * 256 + c.toNat from by omega, beR_step _ _ (by omega) hp, ihs]
    congr 1
    simp
    omega
/-- a number as a word -/
def word (n : Int) : Nat := (n % 18446744073709551616).toNat
theorem word_lt (n : Int) : word n < 256 ^ 8 := by unfold word; omega
theorem wrap_word {n : Int} (h : -9223372036854775808 ≤ n ∧ n ≤ 9223372036854775807) : wrap64 ((word n : Nat) : Int) = n := by unfold word wrap64; omega
theorem word_wrap {u : Nat} (h : u < 18446744073709551616) : word (wrap64 (u : Int)) = u := by unfold word wrap64; omega
/-- a number's bytes -/
def numB (n : Int) : List Int := ((beR (word n)).length : Int) :: beR (word n)
theorem numB_bytes (n : Int) : ∀ x ∈ numB n, 0 ≤ x ∧ x < 256 := by
  intro x hx
  have hl := beR_len_le 8 (word n) (word_lt n)
  rcases List.mem_cons.1 hx with rfl | hx
  · omega
  · exact beR_bytes _ x hx
theorem numB_len (n : Int) : (numB n).length ≤ 9 := by have := beR_len_le 8 (word n) (word_lt n); simp [numB]; omega
theorem numB_pos (n : Int) : 1 ≤ (numB n).length := by simp [numB]
theorem numB_inj {n m : Int} (hn : -9223372036854775808 ≤ n ∧ n ≤ 9223372036854775807) (hm : -9223372036854775808 ≤ m ∧ m ≤ 9223372036854775807) (h : numB n = numB m) : n = m := by
  have h1 : beR (word n) = beR (word m) := by injection h
  have h2 : word n = word m := by
    have := congrArg wordOf h1
    rw [wordOf_beR, wordOf_beR] at this
    exact Int.ofNat_inj.1 this
  rw [← wrap_word hn, h2, wrap_word hm]
end Go.Proofs.YthaoiamgkpkcbaaDoor.Enc

namespace Go.Proofs.YthaoiamgkpkcbaaDoor.QR
open Go.RowKit Go.Proofs.YthaoiamgkpkcbaaDoorW.PrintWords Go.Proofs.YthaoiamgkpkcbaaDoorW.PrintLast Go.Proofs.YthaoiamgkpkcbaaDoorW.PrintMore
attribute [local go_sem] max2_int min2_int max_two min_two max_three min_three max_four min_four   -- for this text's walks alone
set_option linter.unusedVariables false
set_option linter.unusedSimpArgs false



def errW : Option Int → Value
  | none => .nilIface
  | some c => .iface 0 (.int .i64 c)
theorem errW_none : errW none = .nilIface := rfl
theorem errW_some (c : Int) : errW (some c) = .iface 0 (.int .i64 c) := rfl

theorem info5 : (Tryd.prog.info? 5).map (fun i => (i.zero, i.size, i.bytes)) = some (some (.int .u8 0), 1, 1) := by kernel_rfl
theorem info9 : (Tryd.prog.info? 9).map (fun i => (i.zero, i.size, i.bytes)) = some (some (.string ⟨#[]⟩), 1, 16) := by kernel_rfl
-- the values' own types

end Go.Proofs.YthaoiamgkpkcbaaDoor.QR

namespace Go.Proofs.YthaoiamgkpkcbaaDoor.QR
open Go.RowKit Go.Proofs.YthaoiamgkpkcbaaDoorW.PrintWords Go.Proofs.YthaoiamgkpkcbaaDoorW.PrintLast Go.Proofs.YthaoiamgkpkcbaaDoorW.PrintMore
attribute [local go_sem] max2_int min2_int max_two min_two max_three min_three max_four min_four   -- for this text's walks alone
set_option linter.unusedVariables false
set_option linter.unusedSimpArgs false

theorem eqA23 (d : Nat) (w : World) (x0 y0 : Int) (x1 y1 : Int) (x2 y2 : Int) :
    (Op.equalIn (d + 2) 23 (.agg #[.int .i64 x0, .int .i64 x1, .int .i64 x2]) (.agg #[.int .i64 y0, .int .i64 y1, .int .i64 y2])).run Tryd.prog w = .ok (x0 == y0 && (x1 == y1 && (x2 == y2))) w := by
  refine eqA_of Tryd.underlying23 (by kernel_rfl) ?_
  refine eqf_cons (by rfl) (by go_simp; rfl) (by go_simp; rfl) (by go_simp) ?_
  refine eqf_cons (by rfl) (by go_simp; rfl) (by go_simp; rfl) (by go_simp) ?_
  exact eqf_last (by rfl) (by go_simp; rfl) (by go_simp; rfl) (by go_simp)
end Go.Proofs.YthaoiamgkpkcbaaDoor.QR
