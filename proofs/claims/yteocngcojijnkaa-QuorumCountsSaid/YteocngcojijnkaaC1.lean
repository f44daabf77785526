/- The closure of quorum.Common, and the library's functions over it. -/
import Derived.Test.YteocngcojijnkaaQOx
import Derived.Test.YteocngcojijnkaaRows
import Derived.WalkKit
import Derived.Test.YteocngcojijnkaaLex
namespace Go.Proofs.Yteocngcojijnkaa.Cm
open Go.ChangeShapes Go.WideShapes Go.RowKit Go.Proofs.Yteocngcojijnkaa.QO
open Go.Proofs.YteocngcojijnkaaW.PrintWords Go.Proofs.YteocngcojijnkaaW.PrintLast Go.Proofs.YteocngcojijnkaaW.PrintMore
set_option linter.unusedVariables false
set_option linter.unusedSimpArgs false
open Go.Proofs.Yteocngcojijnkaa.Lex
theorem w_succ (i : Nat) (h : i < 9223372036854775807) : wrap64 ((i : Int) + 1) = ((i + 1 : Nat) : Int) := by unfold wrap64; omega
theorem index_l0 (l : List Int) (x : Int) (hl : l.length ≤ 9223372036854775807) : ∀ (n i : Nat), l.length - i = n → i ≤ l.length →
    ∃ r, Since (fun k => slices_Index_int_int.l0 k l x (l.length : Int) (i : Int)) r ∧ (r ≥ 0 ↔ x ∈ l.drop i) := by
  intro n
  induction n with
  | zero =>
    intro i hn hi
    have hf : ¬ ((i : Int) < (l.length : Int)) := by omega
    exact ⟨-1, Since.none fun k => by simp only [slices_Index_int_int.l0, if_neg hf], by rw [List.drop_eq_nil_of_le (by omega)]; simp⟩
  | succ n ih =>
    intro i hn hi
    have h1 : i < l.length := by omega
    have f1 : (i : Int) < (l.length : Int) := by omega
    have f0 : (0 : Int) ≤ (i : Int) := by omega
    have r1 : rd l (i : Int) = l[i] := by simp [rd, h1]
    obtain ⟨r, hr, hm⟩ := ih (i + 1) (by omega) (by omega)
    have d := List.drop_eq_getElem_cons h1
    by_cases he : x = l[i]
    · exact ⟨i, Since.none fun k => by simp only [slices_Index_int_int.l0, if_pos f1, if_pos f0, r1, if_pos he], by rw [d, ← he]; simp⟩
    · refine ⟨r, Since.one hr fun k h => ?_, by rw [hm, d, List.mem_cons]; simp [he]⟩
      simp only [slices_Index_int_int.l0, if_pos f1, if_pos f0, r1, if_neg he, w_succ i (by omega)]
      exact h
theorem contains_ev (l : List Int) (x : Int) (hl : l.length ≤ 9223372036854775807) : Since (fun k => slices_Contains_int_int.f k l x) (decide (x ∈ l)) := by
  obtain ⟨r, hr, hm⟩ := index_l0 l x hl _ 0 rfl (Nat.zero_le _)
  rw [List.drop_zero] at hm
  refine hr.map fun k h => ?_
  simp only [slices_Contains_int_int.f, slices_Index_int_int.f]
  rw [show slices_Index_int_int.l0 k l x (l.length : Int) 0 = some r from h, Option.bind_some]
  congr 1
  exact decide_eq_decide.2 hm
theorem clo_ {w : World} {g : Nat} {A : Option Addr} {c : Nat} {l : List Int} (x : Int) (hg : w.heap[g]? = some (.cells #[.slice A l.length c] 22 (0, 0))) (hr : Kd.C (Kd.int .i64) w A l.length l) (hc : l.length ≤ c) :
    Calls Try.prog 33 #[.int .i64 x, .pointer (some ⟨g, 0, none⟩)] w fun e w' => e = .returned (.bool (!decide (x ∈ l))) ∧ Drawn0 w w' := by
  have h0 : w.cell? ⟨g, 0, none⟩ = some (.slice A l.length c) := (blk_cell hg 0).trans rfl
  have HR := Aside0.mk hr
  obtain ⟨K, hK⟩ := contains_ev l x hr.2.1
  have HK := Aside0.mk (hK K (Nat.le_refl K))
  have HC := Aside0.mk hc
  clear hr hg hK hc
  go_enter Try.func33, Try.ntmps33
  go_wp2_with fail
  (with_reducible refine (slices_Contains_int_int.calls K A c l x _ w HR.out HC.out HK.out).mono ?_)
  rintro e w1 ⟨rfl, hd⟩
  go_wp2_with fail
  go_ret
  exact ⟨rfl, hd⟩
end Go.Proofs.Yteocngcojijnkaa.Cm
