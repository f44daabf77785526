/- The walk of the law PackAll, for every row of bytes. Conditions: those of the row alone. -/
import Derived.Test.YtfhgclojfjiblaaS11
namespace Go.Proofs.Ytfhgclojfjiblaa.Pk
open Go.ChangeShapes Go.WideShapes Go.ChangeAt Go.RowKit
open Go.Proofs.Ytfhgclojfjiblaa.Hlp Go.Proofs.Ytfhgclojfjiblaa.Wrd Go.Proofs.YtfhgclojfjiblaaW.PrintWords Go.Proofs.YtfhgclojfjiblaaW.PrintLast Go.Proofs.YtfhgclojfjiblaaW.PrintMore
set_option linter.unusedVariables false
set_option linter.unusedSimpArgs false
theorem byteA {x : Int} (h : (Lit.int .u8 x).wf = true) : 0 ≤ x ∧ x < 256 := by
  simp [Lit.wf] at h
  have h2 := h.2
  simp [IntKind.max, IntKind.bits, IntKind.signed] at h2
  exact ⟨h.1, by omega⟩
set_option maxHeartbeats 2000000 in
theorem packAll (w : World) (A : Option Addr) (c : Nat) (l : List Int) (hr : Kd.C (Kd.int .u8) w A l.length l) (hc : l.length ≤ c) (wf : l.length ≤ maxLen ∧ l.length * 1 ≤ 140737488351232 ∧ ∀ x ∈ l, (Lit.int .u8 x).wf = true) :
    Calls Try.prog 8 #[.slice A l.length c] w fun e w' => e = .returned (.bool true) ∧ Below w.heap.size w w' := by
  have BY : Aside0 (∀ x ∈ l, 0 ≤ x ∧ x < 256) := ⟨fun x hx => byteA (wf.2.2 x hx)⟩
  have HR := Aside0.mk hr
  clear wf hr
  by_cases hl : (l.length : Int) > 500
  · have t := decide_eq_true hl
    go_enter Try.func8, Try.ntmps8
    go_wp2_with (go_at_call 10; (with_reducible refine (known_ _).mono ?_); rintro e w' ⟨rfl, hb⟩; have HB := Aside0.mk hb; clear hb)
    go_ret
    exact ⟨rfl, HB.out⟩
  have hl2 : l.length ≤ 4398046511103 := by omega
  have t : decide (500 < (l.length : Int)) = false := decide_eq_false (by omega)
  have t2 : decide (500 < l.length) = false := decide_eq_false (by omega)
  clear hl
  obtain ⟨ys, e, hq⟩ : ∃ ys e, numsR [] l = (ys, e) := ⟨_, _, rfl⟩
  obtain ⟨zs, f, hz⟩ : ∃ zs f, rowsR l = (zs, f) := ⟨_, _, rfl⟩
  have HQ := Aside0.mk hq
  have HZ := Aside0.mk hz
  have te : (e == e) = true := beq_self_eq_true e
  have tf : (f == f) = true := beq_self_eq_true f
  clear hq hz
  go_enter Try.func8, Try.ntmps8
  go_wp2_with (first
    | (go_at_call 26; (with_reducible refine (nums_c HR.out hc BY.out hl2 HQ.out).mono ?_); rintro x w1 ⟨B1, d1, rfl, hd1, hC1, hb1⟩; have HC1 := Aside0.mk hC1; have HB1 := Aside0.mk hb1; have HR1 := Aside0.mk (Kd.C_below HR.out hb1); clear hC1 hb1)
    | (go_at_call 27; (with_reducible refine (rnums_c HR1.out hc BY.out hl2 HQ.out).mono ?_); rintro x w2 ⟨B2, d2, rfl, hd2, hC2, hb2⟩; have HC2 := Aside0.mk hC2; have HC12 := Aside0.mk (Kd.C_below HC1.out hb2); have HB2 := Aside0.mk (below_step HB1.out hb2); have HR2 := Aside0.mk (Kd.C_below HR1.out hb2); clear hC2 hb2)
    | (go_at_call 28; (with_reducible refine (rows_c HR2.out hc BY.out hl2 HZ.out).mono ?_); rintro x w3 ⟨B3, d3, rfl, hd3, hC3, hb3⟩; have HC3 := Aside0.mk hC3; have HC13 := Aside0.mk (Kd.C_below HC12.out hb3); have HC23 := Aside0.mk (Kd.C_below HC2.out hb3); have HB3 := Aside0.mk (below_step HB2.out hb3); have HR3 := Aside0.mk (Kd.C_below HR2.out hb3); clear hC3 hb3)
    | (go_at_call 29; (with_reducible refine (rrows_c HR3.out hc BY.out hl2 HZ.out).mono ?_); rintro x w4 ⟨B4, d4, rfl, hd4, hC4, hb4⟩; have HC4 := Aside0.mk hC4; have HC14 := Aside0.mk (Kd.C_below HC13.out hb4); have HC24 := Aside0.mk (Kd.C_below HC23.out hb4); have HC34 := Aside0.mk (Kd.C_below HC3.out hb4); have HB4 := Aside0.mk (below_step HB3.out hb4); clear hC4 hb4)
    | (go_at_call 30; (with_reducible refine (sameInts_c HC14.out hd1 HC24.out hd2).mono ?_); rintro x w5 ⟨rfl, hb5⟩; have HC35 := Aside0.mk (Kd.C_below HC34.out hb5); have HC45 := Aside0.mk (Kd.C_below HC4.out hb5); have HB5 := Aside0.mk (below_step HB4.out hb5); clear hb5)
    | (go_at_call 31; (with_reducible refine (sameLists_c HC35.out hd3 HC45.out hd4).mono ?_); rintro x w6 ⟨rfl, hb6⟩; have HB6 := Aside0.mk (below_step HB5.out hb6); clear hb6)
    | (go_at_call 10; (with_reducible refine (known_ _).mono ?_); rintro x w7 ⟨rfl, hb7⟩; have HB7 := Aside0.mk (below_step HB6.out hb7); clear hb7))
  go_ret
  exact ⟨rfl, HB7.out⟩
end Go.Proofs.Ytfhgclojfjiblaa.Pk
