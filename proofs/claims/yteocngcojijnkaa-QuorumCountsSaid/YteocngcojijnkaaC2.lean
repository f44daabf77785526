/- slices.IndexFunc over the closure of quorum.Common. -/
import Derived.Test.YteocngcojijnkaaC1
import Derived.Test.YteocngcojijnkaaHlp
import Derived.Test.YteocngcojijnkaaWMore
import Derived.ProofKit
import Derived.OpenShut
import Derived.WalkLawsBesides
import Derived.Lib.Hide
import Derived.Deep.LoopGhost
import Derived.Deep.QuietTactic
import Derived.BigQuiet
import Derived.WideLaws
namespace Go.Proofs.Yteocngcojijnkaa.Cm
open Go.ChangeShapes Go.WideShapes Go.ChangeAt Go.RowKit Go.Proofs.Yteocngcojijnkaa.QO Go.Proofs.Yteocngcojijnkaa.Lex
open Go.Proofs.YteocngcojijnkaaW.PrintWords Go.Proofs.YteocngcojijnkaaW.PrintLast Go.Proofs.YteocngcojijnkaaW.PrintMore
set_option linter.unusedVariables false
set_option linter.unusedSimpArgs false
theorem drawn_trans {w w1 w2 : World} (h : Drawn0 w w1) (k : Drawn0 w1 w2) : Drawn0 w w2 := by
  obtain ⟨n, rfl⟩ := k
  exact h.step n
/-- the first that is not in l, or -1 -/
def idxP (l m : List Int) (r : Int) : Prop := (r = -1 ∧ ∀ x ∈ m, x ∈ l) ∨ ∃ (i : Nat) (h : i < m.length), r = (i : Int) ∧ m[i] ∉ l ∧ ∀ x ∈ m.take i, x ∈ l
set_option maxHeartbeats 2000000 in
theorem index_ {w : World} {g : Nat} {A : Option Addr} {c : Nat} {l : List Int} {A1 : Option Addr} {c1 : Nat} {m : List Int} (hg : w.heap[g]? = some (.cells #[.slice A l.length c] 22 (0, 0))) (hr : Kd.C (Kd.int .i64) w A l.length l) (hc : l.length ≤ c)
    (hr1 : Kd.C (Kd.int .i64) w A1 m.length m) (hc1 : m.length ≤ c1) :
    Calls Try.prog 42 #[.slice A1 m.length c1, .func (.func 33) #[] #[.pointer (some ⟨g, 0, none⟩)]] w fun e w' => ∃ r, e = .returned (.int .i64 r) ∧ idxP l m r ∧ Drawn0 w w' := by
  have HG := Aside0.mk hg
  have HR := Aside0.mk hr
  have HC := Aside0.mk hc
  have HR1 := Aside0.mk hr1
  have hm := hr1.2.1
  clear hg hr hc hr1
  go_enter Try.func42, Try.ntmps42
  go_wp2_with fail
  go_loopg [8] m.length (fun n v w' => ∃ k : Nat, k ≤ m.length ∧ v = .int .i64 k ∧ n = m.length - k ∧ (∀ x ∈ m.take k, x ∈ l) ∧ Drawn0 w w')
  case atStart => exact ⟨0, Nat.zero_le _, rfl, by simp, by simp, Drawn0.refl w⟩
  case round =>
    obtain ⟨k, hk, rfl, rfl, hall, hd⟩ := hrel
    have HD := Aside0.mk hd
    have HAL := Aside0.mk hall
    by_cases hlt : k < m.length
    · obtain ⟨b, off, hA, hcl⟩ := Hlp.C_block HR1.out (by omega)
      have hcell := hcl k hlt
      subst hA
      have t7 : decide ((k : Int) < (m.length : Int)) = true := decide_eq_true (by omega)
      have hcellr := pw_cell_below HD.out.below hcell
      clear hcl hall hd hcell
      obtain ⟨x, hx⟩ : ∃ x, m[k] = x := ⟨_, rfl⟩
      have HX := Aside0.mk hx
      rw [hx] at hcellr
      clear hx
      have HGr := Aside0.mk (blk_below HG.out HD.out.below)
      have HRr := Aside0.mk (Kd.C_below HR.out HD.out.below)
      by_cases hin : x ∈ l
      · have HIN := Aside0.mk hin
        have hv : (!decide (x ∈ l)) = false := by simp [hin]
        have HV := Aside0.mk hv
        clear hin hv
        go_wp2_with fail
        (with_reducible refine (clo_ x HGr.out HRr.out HC.out).mono ?_)
        rw [HV.out]
        rintro e w1 ⟨rfl, hd1⟩
        have HD1 := Aside0.mk hd1
        clear hd1
        go_wp2_with fail
        go_roundg (m.length - (k + 1))
        case measure => omega
        case rel => exact ⟨k + 1, by omega, by go_num, rfl, by
          intro y hy
          rw [List.take_succ_eq_append_getElem hlt] at hy
          rcases List.mem_append.1 hy with h | h
          · exact HAL.out y h
          · rw [List.mem_singleton.1 h, HX.out]; exact HIN.out, drawn_trans HD.out HD1.out⟩
      · have HIN := Aside0.mk hin
        have hv : (!decide (x ∈ l)) = true := by simp [hin]
        have HV := Aside0.mk hv
        clear hin hv
        go_wp2_with fail
        (with_reducible refine (clo_ x HGr.out HRr.out HC.out).mono ?_)
        rw [HV.out]
        rintro e w1 ⟨rfl, hd1⟩
        have HD1 := Aside0.mk hd1
        clear hd1
        go_wp2_with fail
        go_ret
        exact ⟨_, rfl, .inr ⟨k, hlt, rfl, by rw [HX.out]; exact HIN.out, HAL.out⟩, drawn_trans HD.out HD1.out⟩
    · obtain rfl : k = m.length := by omega
      have t7 : decide ((m.length : Int) < (m.length : Int)) = false := decide_eq_false (by omega)
      rw [List.take_length] at HAL
      clear hall hd
      go_wp2_with fail
      go_ret
      exact ⟨_, rfl, .inl ⟨rfl, HAL.out⟩, HD.out⟩
end Go.Proofs.Yteocngcojijnkaa.Cm
