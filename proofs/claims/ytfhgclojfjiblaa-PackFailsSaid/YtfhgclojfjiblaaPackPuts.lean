/- The walk of the law PackPuts, for every number and every row of bytes. Conditions: those of the row alone. -/
import Derived.Test.YtfhgclojfjiblaaK1
namespace Go.Proofs.Ytfhgclojfjiblaa.Pk
open Go.ChangeShapes Go.WideShapes Go.ChangeAt Go.RowKit Go.Proofs.Ytfhgclojfjiblaa.PPackPuts Go.Proofs.Ytfhgclojfjiblaa.Enc Go.Proofs.Ytfhgclojfjiblaa.EncP Go.Proofs.Ytfhgclojfjiblaa.EncC
open Go.Proofs.Ytfhgclojfjiblaa.Hlp Go.Proofs.Ytfhgclojfjiblaa.Wrd Go.Proofs.YtfhgclojfjiblaaW.PrintWords Go.Proofs.YtfhgclojfjiblaaW.PrintLast Go.Proofs.YtfhgclojfjiblaaW.PrintMore
set_option linter.unusedVariables false
set_option linter.unusedSimpArgs false
theorem byte_wf {l : List Int} (h : ∀ x ∈ l, (Lit.int .u8 x).wf = true) : ∀ x ∈ l, 0 ≤ x ∧ x < 256 := by
  intro x hx
  have := h x hx
  simp [Lit.wf] at this
  have h2 := this.2
  simp [IntKind.max, IntKind.bits, IntKind.signed] at h2
  exact ⟨this.1, by omega⟩
theorem int_wf {n : Int} (h : (Lit.int .i64 n).wf = true) : -9223372036854775808 ≤ n ∧ n ≤ 9223372036854775807 := by
  simp [Lit.wf] at h
  have h1 := h.1
  have h2 := h.2
  simp [IntKind.max, IntKind.min, IntKind.bits, IntKind.signed] at h1 h2
  exact ⟨by omega, by omega⟩
set_option maxHeartbeats 2000000 in
theorem packPuts (w : World) (n : Int) (wn : (Lit.int .i64 n).wf = true) (A : Option Addr) (c : Nat) (l : List Int) (hr : Kd.C (Kd.int .u8) w A l.length l) (hc : l.length ≤ c) (wf : l.length ≤ maxLen ∧ l.length * 1 ≤ 140737488351232 ∧ ∀ x ∈ l, (Lit.int .u8 x).wf = true) :
    Calls Try.prog 3 #[.int .i64 n, .slice A l.length c] w fun e w' => e = .returned (.bool true) ∧ Below w.heap.size w w' := by
  have hm := hr.2.1
  have HR := Aside0.mk hr
  clear wf wn hr
  by_cases hl : (l.length : Int) > 2000
  · have t := decide_eq_true hl
    go_enter Try.func3, Try.ntmps3
    go_wp2_with (go_at_call 10; (with_reducible refine (known_ _).mono ?_); rintro e w' ⟨rfl, hb⟩; have HB := Aside0.mk hb; clear hb)
    go_ret
    exact ⟨rfl, HB.out⟩
  have hl2 : l.length ≤ 65536 := by omega
  have t : decide (2000 < (l.length : Int)) = false := decide_eq_false (by omega)
  have t2 : decide (2000 < l.length) = false := decide_eq_false (by omega)
  clear hl
  go_enter Try.func3, Try.ntmps3
  go_wp2_with fail
  (with_reducible refine (row_c HR.out hc hl2).mono ?_)
  rintro e w1 ⟨v1, rfl, ho1, hb1⟩
  obtain ⟨A1, c1, rfl, hc1, hr1⟩ := Kd.R_reads ho1
  have HR1 := Aside0.mk hr1
  have HB1 := Aside0.mk hb1
  have HR := Aside0.mk (Kd.C_below HR.out hb1)
  clear ho1 hb1 hr1
  go_wp2_with fail
  (with_reducible refine (rrow_c HR.out hc hl2).mono ?_)
  rintro e w2 ⟨v2, rfl, ho2, hb2⟩
  obtain ⟨A2, c2, rfl, hc2, hr2⟩ := Kd.R_reads ho2
  have HR2 := Aside0.mk hr2
  have HB2 := Aside0.mk (below_step HB1.out hb2)
  have HR1 := Aside0.mk (Kd.C_below HR1.out hb2)
  clear ho2 hb2 hr2 HR HB1
  go_wp2_with fail
  (with_reducible refine (num_c n _).mono ?_)
  rintro e w3 ⟨v3, rfl, ho3, hb3⟩
  obtain ⟨A3, c3, rfl, hc3, hr3⟩ := Kd.R_reads ho3
  have HR3 := Aside0.mk hr3
  have HB3 := Aside0.mk (below_step HB2.out hb3)
  have HR1 := Aside0.mk (Kd.C_below HR1.out hb3)
  have HR2 := Aside0.mk (Kd.C_below HR2.out hb3)
  clear ho3 hb3 hr3 HB2
  go_wp2_with fail
  (with_reducible refine (rnum_c n _).mono ?_)
  rintro e w4 ⟨v4, rfl, ho4, hb4⟩
  obtain ⟨A4, c4, rfl, hc4, hr4⟩ := Kd.R_reads ho4
  have HR4 := Aside0.mk hr4
  have HB4 := Aside0.mk (below_step HB3.out hb4)
  have HR1 := Aside0.mk (Kd.C_below HR1.out hb4)
  have HR2 := Aside0.mk (Kd.C_below HR2.out hb4)
  have HR3 := Aside0.mk (Kd.C_below HR3.out hb4)
  clear ho4 hb4 hr4 HB3
  go_wp2_with fail
  (with_reducible refine (same_c HR3.out hc3 HR4.out hc4).mono ?_)
  rintro e w' ⟨rfl, ⟨n5, rfl⟩⟩
  have HB5 := Aside0.mk (pw_below_drewN HB4.out n5)
  have HR1 := Aside0.mk (Kd.C_drewN HR1.out n5)
  have HR2 := Aside0.mk (Kd.C_drewN HR2.out n5)
  generalize w4.drewN n5 = w5 at *
  clear HR3 HR4 HB4
  go_wp2_with fail
  (with_reducible refine (same_c HR1.out hc1 HR2.out hc2).mono ?_)
  rintro e w' ⟨rfl, ⟨n6, rfl⟩⟩
  have HB6 := Aside0.mk (pw_below_drewN HB5.out n6)
  generalize w5.drewN n6 = w6 at *
  go_wp2_with fail
  (with_reducible refine (known_ _).mono ?_)
  rintro e w' ⟨rfl, hb⟩
  have HB7 := Aside0.mk (below_step HB6.out hb)
  clear hb
  go_wp2_with fail
  go_ret
  exact ⟨rfl, HB7.out⟩
end Go.Proofs.Ytfhgclojfjiblaa.Pk
