/- The walk of the law PackOne, for every two numbers and every row of bytes. Conditions: those of the row alone. -/
import Derived.Test.YtfhgclojfjiblaaPackPuts
import Derived.Test.YtfhgclojfjiblaaDec
namespace Go.Proofs.Ytfhgclojfjiblaa.Pk
open Go.ChangeShapes Go.WideShapes Go.ChangeAt Go.RowKit Go.Proofs.Ytfhgclojfjiblaa.PPackPuts Go.Proofs.Ytfhgclojfjiblaa.Enc Go.Proofs.Ytfhgclojfjiblaa.EncP Go.Proofs.Ytfhgclojfjiblaa.EncC Go.Proofs.Ytfhgclojfjiblaa.Dec
open Go.Proofs.Ytfhgclojfjiblaa.Hlp Go.Proofs.Ytfhgclojfjiblaa.Wrd Go.Proofs.YtfhgclojfjiblaaW.PrintWords Go.Proofs.YtfhgclojfjiblaaW.PrintLast Go.Proofs.YtfhgclojfjiblaaW.PrintMore
set_option linter.unusedVariables false
set_option linter.unusedSimpArgs false
theorem endP_len (l : List Int) : (endP l 0 == 0) = (((l.length : Nat) : Int) == 0) := by
  cases l with
  | nil => rfl
  | cons x r => simp [endP]; omega
set_option maxHeartbeats 2000000 in
theorem packOne (w : World) (n : Int) (wn : (Lit.int .i64 n).wf = true) (m : Int) (wm : (Lit.int .i64 m).wf = true) (A : Option Addr) (c : Nat) (l : List Int) (hr : Kd.C (Kd.int .u8) w A l.length l) (hc : l.length ≤ c) (wf : l.length ≤ maxLen ∧ l.length * 1 ≤ 140737488351232 ∧ ∀ x ∈ l, (Lit.int .u8 x).wf = true) :
    Calls Try.prog 5 #[.int .i64 n, .int .i64 m, .slice A l.length c] w fun e w' => e = .returned (.bool true) ∧ Below w.heap.size w w' := by
  have hm := hr.2.1
  have HR := Aside0.mk hr
  have hn := int_wf wn
  have hmm := int_wf wm
  have hby := byte_wf wf.2.2
  clear wf wn wm hr
  by_cases hl : (l.length : Int) > 300
  · have t := decide_eq_true hl
    clear hn hmm hby
    go_enter Try.func5, Try.ntmps5
    go_wp2_with (go_at_call 10; (with_reducible refine (known_ _).mono ?_); rintro e w' ⟨rfl, hb⟩; have HB := Aside0.mk hb; clear hb)
    go_ret
    exact ⟨rfl, HB.out⟩
  have hl2 : l.length ≤ 300 := by omega
  have t : decide (300 < (l.length : Int)) = false := decide_eq_false (by omega)
  have t2 : decide (300 < l.length) = false := decide_eq_false (by omega)
  have hN1 := numB_pos n
  have hN2 := numB_len n
  have hx1 : (((numB n).length : Int) == 0) = false := beq_eq_false_iff_ne.2 (by omega)
  have hx2 : decide (9 < ((numB n).length : Int)) = false := decide_eq_false (by omega)
  have hx3 : decide (9 < (numB n).length) = false := decide_eq_false (by omega)
  have SM : Aside0 (icehouseref00_Same.f (numB n) (numB m) = some (n == m)) := ⟨same_num hn hmm⟩
  have PK := Aside0.mk (peek_num hn l)
  have BY : Aside0 (∀ x ∈ numB n ++ l, 0 ≤ x ∧ x < 256) := ⟨fun x hx => by rcases List.mem_append.1 hx with h | h; exact numB_bytes n x h; exact hby x h⟩
  have NS : Aside0 (numS ⟨numB n ++ l, 0⟩ = (n, ⟨l, 0⟩)) := ⟨by rw [numS_ok PK.out, Int.toNat_natCast, List.drop_left]⟩
  have EP := Aside0.mk (endP_len l)
  clear hl hn hmm hby PK
  go_enter Try.func5, Try.ntmps5
  go_wp2_with fail
  (with_reducible refine (num_c n _).mono ?_)
  rintro e w1 ⟨v1, rfl, ho1, hb1⟩
  obtain ⟨A1, c1, rfl, hc1, hr1⟩ := Kd.R_reads ho1
  have HO1 := Aside0.mk ho1
  have HR1 := Aside0.mk hr1
  have HB1 := Aside0.mk hb1
  have HR := Aside0.mk (Kd.C_below HR.out hb1)
  clear ho1 hb1 hr1
  go_wp2_with fail
  (with_reducible refine (num_c m _).mono ?_)
  rintro e w2 ⟨v2, rfl, ho2, hb2⟩
  obtain ⟨A2, c2, rfl, hc2, hr2⟩ := Kd.R_reads ho2
  have HO1 := Aside0.mk (Kd.R_below HO1.out hb2)
  have HR2 := Aside0.mk hr2
  have HR1 := Aside0.mk (Kd.C_below HR1.out hb2)
  have HB2 := Aside0.mk (below_step HB1.out hb2)
  have HR := Aside0.mk (Kd.C_below HR.out hb2)
  clear ho2 hb2 hr2 HB1
  go_wp2_with fail
  (with_reducible refine (icehouseref00_Same.calls _ _ (numB n) _ _ (numB m) _ _ HR1.out hc1 HR2.out hc2 SM.out).mono ?_)
  rintro e w' ⟨rfl, ⟨n3, rfl⟩⟩
  have HB3 := Aside0.mk (pw_below_drewN HB2.out n3)
  have HO1 := Aside0.mk (Kd.R_drewN HO1.out n3)
  have HR := Aside0.mk (Kd.C_drewN HR.out n3)
  generalize w2.drewN n3 = w3 at *
  clear HR1 HR2 HB2
  obtain ⟨xs, hxs⟩ : ∃ xs, numB n ++ l = xs := ⟨_, rfl⟩
  have HX := Aside0.mk hxs
  rw [hxs] at BY NS
  have HXl : Aside0 (xs.length = (numB n).length + l.length) := ⟨by rw [← hxs, List.length_append]⟩
  clear hxs
  go_wp2_with (first
    | ((with_reducible refine gate_builtin (b := .append) rfl ?_); at_builtin; refine Kd.R_append_rows (Kd.int .u8) (w0 := w) w.heap.size rfl _ _ 22 5 (.int .u8 0) 1 rfl Try.underlying22 info8 rfl (by decide) (by omega) _ (numB n) l _ _ _ (fun _ => True) (fun _ => False) rfl rfl HO1.out HR.out (fun _ _ h => h) (fun _ h => h.elim) (fun _ _ => trivial) HB3.out HB3.out.size (by omega) ?_; intro v4 w4 ho4 hb4 hg4 hat4; rw [HX.out] at ho4; obtain ⟨A4, c4, rfl, hc4, hr4⟩ := Kd.R_reads ho4; have HR4 := Aside0.mk hr4; have HB4 := Aside0.mk hb4; clear ho4 hb4 hg4 hat4 hr4))
  (with_reducible refine (new_c HR4.out hc4 BY.out (by have := HXl.out; omega)).mono ?_)
  rintro e w5 ⟨g, b5, c5, rfl, hR, hB, hg1, hg2⟩
  have HRd := Aside0.mk hR
  have HB5 := Aside0.mk (below_step HB4.out hB)
  have HG := Aside0.mk (Nat.le_trans HB4.out.size hg1)
  clear hR hB hg1 hg2 HR4 HB4
  go_wp2_with fail
  (with_reducible refine (num_ HRd.out).mono ?_)
  rw [NS.out]
  rintro e w6 ⟨rfl, b6, c6, hR6, hU6⟩
  have HR6 := Aside0.mk hR6
  have HB6 := Aside0.mk (pw_below_grown HB5.out (some g) HB5.out.size hU6 (fun j hj => by injection hj with hj; subst hj; exact HG.out))
  clear hR6 hU6
  by_cases hz : ((l.length : Int) == 0) = true
  · have EP : Aside0 (endP l 0 = 0) := ⟨by have := EP.out; rw [hz] at this; exact beq_iff_eq.1 this⟩
    go_wp2_with (first
      | (go_at_call 21; (with_reducible refine (left_ HR6.out).mono ?_); rintro e w' ⟨rfl, rfl⟩)
      | (go_at_call 19; (with_reducible refine (end_ HR6.out).mono ?_); rw [EP.out]; rintro e w' ⟨rfl, rfl⟩)
      | (go_at_call 10; (with_reducible refine (known_ _).mono ?_); rintro e w' ⟨rfl, hb⟩; have HB7 := Aside0.mk (below_step HB6.out hb); clear hb))
    go_ret
    exact ⟨rfl, HB7.out⟩
  · have hz2 : ((l.length : Int) == 0) = false := by simpa using hz
    have EP : Aside0 ((endP l 0 == 0) = false) := ⟨by have := EP.out; rw [hz2] at this; exact this⟩
    have hE := EP.out
    have hEnd := Aside0.mk (end_ HR6.out)
    generalize endP l 0 = q at *
    go_wp2_with (first
      | (go_at_call 21; (with_reducible refine (left_ HR6.out).mono ?_); rintro e w' ⟨rfl, rfl⟩)
      | (go_at_call 19; (with_reducible refine hEnd.out.mono ?_); rintro e w' ⟨rfl, rfl⟩)
      | (go_at_call 10; (with_reducible refine (known_ _).mono ?_); rintro e w' ⟨rfl, hb⟩; have HB7 := Aside0.mk (below_step HB6.out hb); clear hb))
    go_ret
    exact ⟨rfl, HB7.out⟩
end Go.Proofs.Ytfhgclojfjiblaa.Pk
