/- The walk of the law PackMixed, for every number, row, truth and further bytes. Conditions: those of the row alone. -/
import Derived.Test.YtfhgclojfjiblaaPackOne
namespace Go.Proofs.Ytfhgclojfjiblaa.Pk
open Go.ChangeShapes Go.WideShapes Go.ChangeAt Go.RowKit Go.Proofs.Ytfhgclojfjiblaa.PPackPuts Go.Proofs.Ytfhgclojfjiblaa.Enc Go.Proofs.Ytfhgclojfjiblaa.EncP Go.Proofs.Ytfhgclojfjiblaa.EncC Go.Proofs.Ytfhgclojfjiblaa.Dec
open Go.Proofs.Ytfhgclojfjiblaa.Hlp Go.Proofs.Ytfhgclojfjiblaa.Wrd Go.Proofs.YtfhgclojfjiblaaW.PrintWords Go.Proofs.YtfhgclojfjiblaaW.PrintLast Go.Proofs.YtfhgclojfjiblaaW.PrintMore
set_option linter.unusedVariables false
set_option linter.unusedSimpArgs false
/-- a row is read as it was -/
theorem row_rowB (x r : List Int) (h : x.length ≤ 65536) : rowS ⟨rowB x ++ r, 0⟩ = (x, ⟨r, 0⟩) := by
  have hp := peek_num (n := (x.length : Int)) (by omega) (x ++ r)
  have e : rowB x ++ r = numB (x.length : Int) ++ (x ++ r) := by unfold rowB; rw [List.append_assoc]
  rw [e, rowS_ok hp h (by simp only [List.length_append]; omega), List.drop_left, List.take_left, ← List.append_assoc, ← List.length_append, List.drop_left]
theorem truth_truthB (t : Bool) (r : List Int) : truthS ⟨truthB t ++ r, 0⟩ = (t, ⟨r, 0⟩) := by cases t <;> rfl
theorem num_numB {n : Int} (hn : -9223372036854775808 ≤ n ∧ n ≤ 9223372036854775807) (r : List Int) : numS ⟨numB n ++ r, 0⟩ = (n, ⟨r, 0⟩) := by
  rw [numS_ok (peek_num hn r), Int.toNat_natCast, List.drop_left]
theorem rowB_bytes {x : List Int} (h : ∀ y ∈ x, 0 ≤ y ∧ y < 256) : ∀ y ∈ rowB x, 0 ≤ y ∧ y < 256 := by
  intro y hy
  rcases List.mem_append.1 hy with h1 | h1
  · exact numB_bytes _ y h1
  · exact h y h1
theorem truthB_bytes (t : Bool) : ∀ y ∈ truthB t, 0 ≤ y ∧ y < 256 := by cases t <;> simp [truthB]
theorem rowB_len (x : List Int) : (rowB x).length ≤ x.length + 9 := by have := numB_len (x.length : Int); unfold rowB; rw [List.length_append]; omega
theorem truthB_len (t : Bool) : (truthB t).length = 1 := by cases t <;> rfl
set_option maxHeartbeats 2000000 in
theorem packMixed (w : World) (n : Int) (wn : (Lit.int .i64 n).wf = true) (A : Option Addr) (c : Nat) (l : List Int) (hr : Kd.C (Kd.int .u8) w A l.length l) (hc : l.length ≤ c) (wf : l.length ≤ maxLen ∧ l.length * 1 ≤ 140737488351232 ∧ ∀ x ∈ l, (Lit.int .u8 x).wf = true) (t : Bool)
    (B : Option Addr) (d : Nat) (m : List Int) (hr2 : Kd.C (Kd.int .u8) w B m.length m) (hd : m.length ≤ d) (wf2 : m.length ≤ maxLen ∧ m.length * 1 ≤ 140737488351232 ∧ ∀ x ∈ m, (Lit.int .u8 x).wf = true) :
    Calls Try.prog 6 #[.int .i64 n, .slice A l.length c, .bool t, .slice B m.length d] w fun e w' => e = .returned (.bool true) ∧ Below w.heap.size w w' := by
  have hm := hr.2.1
  have hm2 := hr2.2.1
  have HR := Aside0.mk hr
  have HR0 := HR
  have HM0 := Aside0.mk hr2
  have hn := int_wf wn
  have hby := byte_wf wf.2.2
  have hby2 := byte_wf wf2.2.2
  clear wf wf2 wn hr hr2
  by_cases hl : (l.length : Int) > 300 ∨ (m.length : Int) > 100
  · clear hn hby hby2
    by_cases hl1 : (l.length : Int) > 300
    · have t1 := decide_eq_true hl1
      clear hl
      go_enter Try.func6, Try.ntmps6
      go_wp2_with (go_at_call 10; (with_reducible refine (known_ _).mono ?_); rintro e w' ⟨rfl, hb⟩; have HB := Aside0.mk hb; clear hb)
      go_ret
      exact ⟨rfl, HB.out⟩
    · have t1 : decide (300 < (l.length : Int)) = false := decide_eq_false (by omega)
      have t1n : decide (300 < l.length) = false := decide_eq_false (by omega)
      have t2 : decide (100 < (m.length : Int)) = true := decide_eq_true (by omega)
      have t2n : decide (100 < m.length) = true := decide_eq_true (by omega)
      clear hl hl1
      go_enter Try.func6, Try.ntmps6
      go_wp2_with (go_at_call 10; (with_reducible refine (known_ _).mono ?_); rintro e w' ⟨rfl, hb⟩; have HB := Aside0.mk hb; clear hb)
      go_ret
      exact ⟨rfl, HB.out⟩
  have hl2 : l.length ≤ 300 := by omega
  have hml : m.length ≤ 100 := by omega
  have t1 : decide (300 < (l.length : Int)) = false := decide_eq_false (by omega)
  have t1n : decide (300 < l.length) = false := decide_eq_false (by omega)
  have t2 : decide (100 < (m.length : Int)) = false := decide_eq_false (by omega)
  have t2n : decide (100 < m.length) = false := decide_eq_false (by omega)
  have hN2 := numB_len n
  have hRl := rowB_len l
  have hTl := truthB_len t
  obtain ⟨xs, hxs⟩ : ∃ xs, numB n ++ rowB l ++ truthB t ++ m = xs := ⟨_, rfl⟩
  have BY : Aside0 (∀ x ∈ xs, 0 ≤ x ∧ x < 256) := ⟨fun x hx => by
    rw [← hxs] at hx
    rcases List.mem_append.1 hx with h | h
    · rcases List.mem_append.1 h with h | h
      · rcases List.mem_append.1 h with h | h
        · exact numB_bytes n x h
        · exact rowB_bytes hby x h
      · exact truthB_bytes t x h
    · exact hby2 x h⟩
  have S1 : Aside0 (numS ⟨xs, 0⟩ = (n, ⟨rowB l ++ (truthB t ++ m), 0⟩)) := ⟨by rw [← hxs, List.append_assoc, List.append_assoc, num_numB hn]⟩
  have S2 := Aside0.mk (row_rowB l (truthB t ++ m) (by omega))
  have S3 := Aside0.mk (truth_truthB t m)
  have HXl : Aside0 (xs.length ≤ 1000) := ⟨by rw [← hxs]; simp only [List.length_append]; omega⟩
  have HX := Aside0.mk hxs
  have HTL := Aside0.mk hTl
  obtain ⟨ts, hts⟩ : ∃ ts, truthB t = ts := ⟨_, rfl⟩
  have HTS := Aside0.mk hts
  rw [hts] at HTL S1 S2 S3 HX
  clear hl hn hby hby2 hxs hTl hts
  obtain ⟨rl, hrl⟩ : ∃ rl, rowB l = rl := ⟨_, rfl⟩
  have HRL := Aside0.mk hrl
  rw [hrl] at hRl S1 S2 HX
  clear hrl
  go_enter Try.func6, Try.ntmps6
  go_wp2_with fail
  (with_reducible refine (row_c HR.out hc (by omega)).mono ?_)
  rw [HRL.out]
  rintro e w1 ⟨v1, rfl, ho1, hb1⟩
  obtain ⟨A1, c1, rfl, hc1, hr1⟩ := Kd.R_reads ho1
  have HR1 := Aside0.mk hr1
  have HB1 := Aside0.mk hb1
  have HR := Aside0.mk (Kd.C_below HR.out hb1)
  clear ho1 hb1 hr1
  go_wp2_with fail
  (with_reducible refine (rnum_c n _).mono ?_)
  rintro e w2 ⟨v2, rfl, ho2, hb2⟩
  obtain ⟨A2, c2, rfl, hc2, hr2⟩ := Kd.R_reads ho2
  have HO2 := Aside0.mk (Kd.R_lower ho2 HB1.out.size)
  have HR1 := Aside0.mk (Kd.C_below HR1.out hb2)
  have HB2 := Aside0.mk (below_step HB1.out hb2)
  have HR := Aside0.mk (Kd.C_below HR.out hb2)
  clear ho2 hb2 hr2 HB1
  obtain ⟨q1, hq1⟩ : ∃ q, numB n ++ rl = q := ⟨_, rfl⟩
  rw [hq1] at HX
  have HQ1l : q1.length ≤ 400 := by rw [← hq1, List.length_append]; omega
  have HQ1 := Aside0.mk hq1
  obtain ⟨q2, hq2⟩ : ∃ q, q1 ++ ts = q := ⟨_, rfl⟩
  rw [hq2] at HX
  have HQ2l : q2.length ≤ 500 := by have := HTL.out; rw [← hq2, List.length_append]; omega
  have HQ2 := Aside0.mk hq2
  clear hq1 hq2
  go_wp2_with ((with_reducible refine gate_builtin (b := .append) rfl ?_); at_builtin; refine Kd.R_append_rows (Kd.int .u8) (w0 := w) w.heap.size rfl _ _ 22 5 (.int .u8 0) 1 rfl Try.underlying22 info8 rfl (by decide) (by omega) _ (numB n) rl _ _ _ (fun _ => True) (fun _ => False) rfl rfl HO2.out HR1.out (fun _ _ h => h) (fun _ h => h.elim) (fun _ _ => trivial) HB2.out HB2.out.size (by omega) ?_; intro v4 w4 ho4 hb4 hg4 hat4; rw [HQ1.out] at ho4; have HO4 := Aside0.mk ho4; have HB4 := Aside0.mk hb4; clear ho4 hb4 hg4 hat4)
  (with_reducible refine (truth_c t _).mono ?_)
  rw [HTS.out]
  rintro e w5 ⟨v5, rfl, ho5, hb5⟩
  obtain ⟨A5, c5, rfl, hc5, hr5⟩ := Kd.R_reads ho5
  have HR5 := Aside0.mk hr5
  have HO5 := Aside0.mk (Kd.R_below HO4.out hb5)
  have HB5 := Aside0.mk (below_step HB4.out hb5)
  clear ho5 hb5 hr5 HB4 HO4
  have hts5 : ts.length ≤ 1 := by have := HTL.out; omega
  go_wp2_with (first
    | ((with_reducible refine gate_builtin (b := .append) rfl ?_); at_builtin; refine Kd.R_append_rows (Kd.int .u8) (w0 := w) w.heap.size rfl _ _ 22 5 (.int .u8 0) 1 rfl Try.underlying22 info8 rfl (by decide) (by omega) _ q1 ts _ _ _ (fun _ => True) (fun _ => False) rfl rfl HO5.out HR5.out (fun _ _ h => h) (fun _ h => h.elim) (fun _ _ => trivial) HB5.out HB5.out.size (by omega) ?_; intro v6 w6 ho6 hb6 hg6 hat6; rw [HQ2.out] at ho6; have HO6 := Aside0.mk ho6; have HB6 := Aside0.mk hb6; have HM6 := Aside0.mk (Kd.C_below HM0.out hb6); clear ho6 hb6 hg6 hat6)
    | ((with_reducible refine gate_builtin (b := .append) rfl ?_); at_builtin; refine Kd.R_append_rows (Kd.int .u8) (w0 := w) w.heap.size rfl _ _ 22 5 (.int .u8 0) 1 rfl Try.underlying22 info8 rfl (by decide) (by omega) _ q2 m _ _ _ (fun _ => True) (fun _ => False) rfl rfl HO6.out HM6.out (fun _ _ h => h) (fun _ h => h.elim) (fun _ _ => trivial) HB6.out HB6.out.size (by omega) ?_; intro v7 w7 ho7 hb7 hg7 hat7; rw [HX.out] at ho7; obtain ⟨A7, c7, rfl, hc7, hr7⟩ := Kd.R_reads ho7; have HR7 := Aside0.mk hr7; have HB7 := Aside0.mk hb7; clear ho7 hb7 hg7 hat7 hr7))
  have hxl := HXl.out
  (with_reducible refine (new_c HR7.out hc7 BY.out (by omega)).mono ?_)
  rintro e w8 ⟨g, b8, c8, rfl, hR, hB, hg1, hg2⟩
  have HRd := Aside0.mk hR
  have HB8 := Aside0.mk (below_step HB7.out hB)
  have HG := Aside0.mk (Nat.le_trans HB7.out.size hg1)
  clear hR hB hg1 hg2 HR7 HB7
  go_wp2_with fail
  (with_reducible refine (num_ HRd.out).mono ?_)
  rw [S1.out]
  rintro e w9 ⟨rfl, b9, c9, hR9, hU9⟩
  have HR9 := Aside0.mk hR9
  have HB9 := Aside0.mk (pw_below_grown HB8.out (some g) HB8.out.size hU9 (fun j hj => by injection hj with hj; subst hj; exact HG.out))
  clear hR9 hU9 HRd HB8
  go_wp2_with fail
  (with_reducible refine (row_ HR9.out (by simp only [List.length_append]; omega)).mono ?_)
  rw [S2.out]
  rintro e w10 ⟨v10, rfl, ho10, b10, c10, hR10, hU10⟩
  obtain ⟨A10, d10, rfl, hd10, hr10⟩ := Kd.R_reads ho10
  have HS10 := Aside0.mk hr10
  have HR10 := Aside0.mk hR10
  have HB10 := Aside0.mk (pw_below_grown HB9.out (some g) HB9.out.size hU10 (fun j hj => by injection hj with hj; subst hj; exact HG.out))
  have HL10 := Aside0.mk (Kd.C_below HR0.out HB10.out)
  clear ho10 hr10 hR10 hU10 HR9 HB9
  go_wp2_with fail
  (with_reducible refine (same_c HS10.out hd10 HL10.out hc).mono ?_)
  rintro e w' ⟨rfl, ⟨n11, rfl⟩⟩
  have HB11 := Aside0.mk (pw_below_drewN HB10.out n11)
  have HR11 := Aside0.mk (HR10.out.below (pw_below_drewN (Below.refl _ _) n11))
  generalize w10.drewN n11 = w11 at *
  clear HB10 HR10 HS10 HL10
  go_wp2_with fail
  (with_reducible refine (truth_ HR11.out).mono ?_)
  rw [S3.out]
  rintro e w12 ⟨rfl, b12, c12, hR12, hU12⟩
  have HR12 := Aside0.mk hR12
  have HB12 := Aside0.mk (pw_below_grown HB11.out (some g) HB11.out.size hU12 (fun j hj => by injection hj with hj; subst hj; exact HG.out))
  clear hR12 hU12
  go_wp2_with (first
      | (go_at_call 21; (with_reducible refine (left_ HR12.out).mono ?_); rintro e w' ⟨rfl, rfl⟩)
      | (go_at_call 10; (with_reducible refine (known_ _).mono ?_); rintro e w' ⟨rfl, hb⟩; have HB13 := Aside0.mk (below_step HB12.out hb); clear hb))
  go_ret
  exact ⟨rfl, HB13.out⟩
end Go.Proofs.Ytfhgclojfjiblaa.Pk
