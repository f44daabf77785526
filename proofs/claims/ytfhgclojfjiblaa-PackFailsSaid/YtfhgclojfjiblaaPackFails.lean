/- The walk of the law PackFails, for every row of bytes and every count. Conditions: those of the row alone. -/
import Derived.Test.YtfhgclojfjiblaaPackPuts
namespace Go.Proofs.Ytfhgclojfjiblaa.Pk
open Go.ChangeShapes Go.WideShapes Go.ChangeAt Go.RowKit Go.Proofs.Ytfhgclojfjiblaa.PPackPuts Go.Proofs.Ytfhgclojfjiblaa.Enc Go.Proofs.Ytfhgclojfjiblaa.EncP Go.Proofs.Ytfhgclojfjiblaa.EncC
open Go.Proofs.Ytfhgclojfjiblaa.Hlp Go.Proofs.Ytfhgclojfjiblaa.Wrd Go.Proofs.YtfhgclojfjiblaaW.PrintWords Go.Proofs.YtfhgclojfjiblaaW.PrintLast Go.Proofs.YtfhgclojfjiblaaW.PrintMore
set_option linter.unusedVariables false
set_option linter.unusedSimpArgs false
theorem byteN {x : Int} (h : (Lit.int .u8 x).wf = true) : 0 ≤ x ∧ x < 256 := by
  simp [Lit.wf] at h
  have h2 := h.2
  simp [IntKind.max, IntKind.bits, IntKind.signed] at h2
  exact ⟨h.1, by omega⟩
theorem numS_len (s : St) : (numS s).2.l.length ≤ s.l.length := by
  unfold numS
  split
  · split
    · simp
    · exact Nat.le_refl _
  · exact Nat.le_refl _
set_option maxHeartbeats 2000000 in
theorem packFails (w : World) (A : Option Addr) (c : Nat) (l : List Int) (hr : Kd.C (Kd.int .u8) w A l.length l) (hc : l.length ≤ c) (wf : l.length ≤ maxLen ∧ l.length * 1 ≤ 140737488351232 ∧ ∀ x ∈ l, (Lit.int .u8 x).wf = true) (y : Int) (wy : (Lit.int .u8 y).wf = true) :
    Calls Try.prog 7 #[.slice A l.length c, .int .u8 y] w fun e w' => e = .returned (.bool true) ∧ Below w.heap.size w w' := by
  have hm := hr.2.1
  have HR := Aside0.mk hr
  have BY := Aside0.mk (byte_wf wf.2.2)
  have hy := byteN wy
  clear wf wy hr
  by_cases hl : (l.length : Int) > 300
  · have t := decide_eq_true hl
    clear hy
    go_enter Try.func7, Try.ntmps7
    go_wp2_with (go_at_call 10; (with_reducible refine (known_ _).mono ?_); rintro e w' ⟨rfl, hb⟩; have HB := Aside0.mk hb; clear hb)
    go_ret
    exact ⟨rfl, HB.out⟩
  have hl2 : l.length ≤ 300 := by omega
  have t : decide (300 < (l.length : Int)) = false := decide_eq_false (by omega)
  have t2 : decide (300 < l.length) = false := decide_eq_false (by omega)
  obtain ⟨hy0, hy1⟩ := hy
  clear hl
  go_enter Try.func7, Try.ntmps7
  go_wp2_with fail
  (with_reducible refine (new_c HR.out hc BY.out (by omega)).mono ?_)
  rintro e w1 ⟨g, b1, c1, rfl, hR, hB, hg1, hg2⟩
  have HRd := Aside0.mk hR
  have HB1 := Aside0.mk hB
  have HG := Aside0.mk hg1
  clear hR hB hg1 hg2
  go_wp2_with fail
  go_loopg [6] 5 (fun q i w' => ∃ k : Nat, k ≤ 5 ∧ i = .int .i64 k ∧ q = 5 - k ∧ (k : Int) ≤ y % 5 ∧ Aside0 (∃ s : St, ∃ b c, Rd w' g b c s.l s.e false ∧ s.l.length ≤ 300) ∧ Aside0 (Below w.heap.size w w'))
  case atStart => exact ⟨0, by omega, rfl, rfl, by omega, ⟨⟨l, 0⟩, _, _, HRd.out, hl2⟩, HB1⟩
  case round =>
    obtain ⟨k, hk, rfl, rfl, hky, HS, HB⟩ := hrel
    obtain ⟨s, b, c2, hRd, hs⟩ := HS.out
    have HRd := Aside0.mk hRd
    clear hRd HS
    by_cases hlt : (k : Int) < y % 5
    · have t5 := decide_eq_true hlt
      have HN := Aside0.mk (Nat.le_trans (numS_len s) hs)
      go_wp2_with (go_at_call 20; (with_reducible refine (num_ HRd.out).mono ?_); rintro e w2 ⟨rfl, b3, c3, hR3, hU3⟩; have HR3 := Aside0.mk hR3; have HB3 := Aside0.mk (pw_below_grown HB.out (some g) HB.out.size hU3 (fun j hj => by injection hj with hj; subst hj; exact HG.out)); clear hR3 hU3)
      go_roundg (5 - (k + 1))
      case measure => omega
      case rel => exact ⟨k + 1, by omega, by go_num, rfl, by omega, ⟨_, _, _, HR3.out, HN.out⟩, HB3⟩
    · have t5 := decide_eq_false hlt
      obtain ⟨l2, e2⟩ := s
      simp only at hs
      have hl3 : l2.length ≤ 140737488351232 := by omega
      by_cases he : e2 = 0
      · subst he
        have F1 : Aside0 (failS ⟨l2, 0⟩ = ⟨l2, 11⟩) := ⟨rfl⟩
        have E2 : Aside0 (endP l2 11 = 11) := ⟨rfl⟩
        have N1 : Aside0 (numS ⟨l2, 11⟩ = (0, ⟨l2, 11⟩)) := ⟨numS_dead (by simp)⟩
        have N2 : Aside0 (rowS ⟨l2, 11⟩ = ([], ⟨l2, 11⟩)) := ⟨rowS_dead (by simp)⟩
        have N3 : Aside0 (truthS ⟨l2, 11⟩ = (false, ⟨l2, 11⟩)) := ⟨by unfold truthS; rw [if_neg (by simp)]⟩
        have N4 : Aside0 (belowS 9 ⟨l2, 11⟩ = (0, ⟨l2, 11⟩)) := ⟨belowS_dead (by simp)⟩
        have hE := Aside0.mk (end_ HRd.out)
        generalize endP l2 0 = q at *
        go_wp2_with fail
        (with_reducible refine (failed_ HRd.out).mono ?_)
        rintro e w' ⟨rfl, rfl⟩
        go_wp2_with fail
        (with_reducible refine hE.out.mono ?_)
        rintro e w' ⟨rfl, rfl⟩
        go_wp2_with fail
        (with_reducible refine (left_ HRd.out).mono ?_)
        rintro e w' ⟨rfl, rfl⟩
        go_wp2_with fail
        (with_reducible refine (markWrong_ HRd.out).mono ?_)
        rw [F1.out]
        rintro e w3 ⟨rfl, b3, c3, hR3, hU3⟩
        have HR3 := Aside0.mk hR3
        have HB3 := Aside0.mk (pw_below_grown HB.out (some g) HB.out.size hU3 (fun j hj => by injection hj with hj; subst hj; exact HG.out))
        clear hR3 hU3 HRd HB
        go_wp2_with fail
        (with_reducible refine (failed_ HR3.out).mono ?_)
        rintro e w' ⟨rfl, rfl⟩
        go_wp2_with fail
        (with_reducible refine (end_ HR3.out).mono ?_)
        rw [E2.out]
        rintro e w' ⟨rfl, rfl⟩
        go_wp2_with fail
        (with_reducible refine (num_ HR3.out).mono ?_)
        rw [N1.out]
        rintro e w4 ⟨rfl, b4, c4, hR4, hU4⟩
        have HR4 := Aside0.mk hR4
        have HB4 := Aside0.mk (pw_below_grown HB3.out (some g) HB3.out.size hU4 (fun j hj => by injection hj with hj; subst hj; exact HG.out))
        clear hR4 hU4 HR3 HB3
        go_wp2_with fail
        (with_reducible refine (row_ HR4.out hl3).mono ?_)
        rw [N2.out]
        rintro e w5 ⟨v5, rfl, ho5, b5, c5, hR5, hU5⟩
        obtain ⟨A5, d5, rfl⟩ := Kd.R_slice ho5
        simp only [List.length_nil]
        have HR5 := Aside0.mk hR5
        have HB5 := Aside0.mk (pw_below_grown HB4.out (some g) HB4.out.size hU5 (fun j hj => by injection hj with hj; subst hj; exact HG.out))
        clear ho5 hR5 hU5 HR4 HB4
        go_wp2_with fail
        (with_reducible refine (truth_ HR5.out).mono ?_)
        rw [N3.out]
        rintro e w6 ⟨rfl, b6, c6, hR6, hU6⟩
        have HR6 := Aside0.mk hR6
        have HB6 := Aside0.mk (pw_below_grown HB5.out (some g) HB5.out.size hU6 (fun j hj => by injection hj with hj; subst hj; exact HG.out))
        clear hR6 hU6 HR5 HB5
        go_wp2_with fail
        (with_reducible refine (below_ 9 HR6.out).mono ?_)
        rw [N4.out]
        rintro e w7 ⟨rfl, b7, c7, hR7, hU7⟩
        have HR7 := Aside0.mk hR7
        have HB7 := Aside0.mk (pw_below_grown HB6.out (some g) HB6.out.size hU7 (fun j hj => by injection hj with hj; subst hj; exact HG.out))
        clear hR7 hU7 HR6 HB6
        go_wp2_with fail
        (with_reducible refine (left_ HR7.out).mono ?_)
        rintro e w' ⟨rfl, rfl⟩
        go_wp2_with fail
        (with_reducible refine (known_ _).mono ?_)
        rintro e w' ⟨rfl, hb⟩
        have HB8 := Aside0.mk (below_step HB7.out hb)
        clear hb
        go_wp2_with fail
        go_ret
        exact ⟨rfl, HB8.out⟩
      · have F1 : Aside0 (failS ⟨l2, e2⟩ = ⟨l2, e2⟩) := ⟨by unfold failS; rw [if_neg he]⟩
        have E2 : Aside0 (endP l2 e2 = e2) := ⟨by unfold endP; rw [if_neg he]⟩
        have N1 : Aside0 (numS ⟨l2, e2⟩ = (0, ⟨l2, e2⟩)) := ⟨numS_dead he⟩
        have N2 : Aside0 (rowS ⟨l2, e2⟩ = ([], ⟨l2, e2⟩)) := ⟨rowS_dead he⟩
        have N3 : Aside0 (truthS ⟨l2, e2⟩ = (false, ⟨l2, e2⟩)) := ⟨by unfold truthS; rw [if_neg he]⟩
        have N4 : Aside0 (belowS 9 ⟨l2, e2⟩ = (0, ⟨l2, e2⟩)) := ⟨belowS_dead he⟩
        have hE0 := end_ HRd.out
        rw [E2.out] at hE0
        have hE := Aside0.mk hE0
        have t8 : (e2 != 0) = true := bne_iff_ne.2 he
        clear hE0 he
        go_wp2_with fail
        (with_reducible refine (failed_ HRd.out).mono ?_)
        rintro e w' ⟨rfl, rfl⟩
        go_wp2_with fail
        (with_reducible refine hE.out.mono ?_)
        rintro e w' ⟨rfl, rfl⟩
        go_wp2_with fail
        (with_reducible refine (left_ HRd.out).mono ?_)
        rintro e w' ⟨rfl, rfl⟩
        go_wp2_with fail
        (with_reducible refine (markWrong_ HRd.out).mono ?_)
        rw [F1.out]
        rintro e w3 ⟨rfl, b3, c3, hR3, hU3⟩
        have HR3 := Aside0.mk hR3
        have HB3 := Aside0.mk (pw_below_grown HB.out (some g) HB.out.size hU3 (fun j hj => by injection hj with hj; subst hj; exact HG.out))
        clear hR3 hU3 HRd HB
        go_wp2_with fail
        (with_reducible refine (failed_ HR3.out).mono ?_)
        rintro e w' ⟨rfl, rfl⟩
        go_wp2_with fail
        (with_reducible refine (end_ HR3.out).mono ?_)
        rw [E2.out]
        rintro e w' ⟨rfl, rfl⟩
        go_wp2_with fail
        (with_reducible refine (num_ HR3.out).mono ?_)
        rw [N1.out]
        rintro e w4 ⟨rfl, b4, c4, hR4, hU4⟩
        have HR4 := Aside0.mk hR4
        have HB4 := Aside0.mk (pw_below_grown HB3.out (some g) HB3.out.size hU4 (fun j hj => by injection hj with hj; subst hj; exact HG.out))
        clear hR4 hU4 HR3 HB3
        go_wp2_with fail
        (with_reducible refine (row_ HR4.out hl3).mono ?_)
        rw [N2.out]
        rintro e w5 ⟨v5, rfl, ho5, b5, c5, hR5, hU5⟩
        obtain ⟨A5, d5, rfl⟩ := Kd.R_slice ho5
        simp only [List.length_nil]
        have HR5 := Aside0.mk hR5
        have HB5 := Aside0.mk (pw_below_grown HB4.out (some g) HB4.out.size hU5 (fun j hj => by injection hj with hj; subst hj; exact HG.out))
        clear ho5 hR5 hU5 HR4 HB4
        go_wp2_with fail
        (with_reducible refine (truth_ HR5.out).mono ?_)
        rw [N3.out]
        rintro e w6 ⟨rfl, b6, c6, hR6, hU6⟩
        have HR6 := Aside0.mk hR6
        have HB6 := Aside0.mk (pw_below_grown HB5.out (some g) HB5.out.size hU6 (fun j hj => by injection hj with hj; subst hj; exact HG.out))
        clear hR6 hU6 HR5 HB5
        go_wp2_with fail
        (with_reducible refine (below_ 9 HR6.out).mono ?_)
        rw [N4.out]
        rintro e w7 ⟨rfl, b7, c7, hR7, hU7⟩
        have HR7 := Aside0.mk hR7
        have HB7 := Aside0.mk (pw_below_grown HB6.out (some g) HB6.out.size hU7 (fun j hj => by injection hj with hj; subst hj; exact HG.out))
        clear hR7 hU7 HR6 HB6
        go_wp2_with fail
        (with_reducible refine (left_ HR7.out).mono ?_)
        rintro e w' ⟨rfl, rfl⟩
        go_wp2_with fail
        (with_reducible refine (known_ _).mono ?_)
        rintro e w' ⟨rfl, hb⟩
        have HB8 := Aside0.mk (below_step HB7.out hb)
        clear hb
        go_wp2_with fail
        go_ret
        exact ⟨rfl, HB8.out⟩
end Go.Proofs.Ytfhgclojfjiblaa.Pk
