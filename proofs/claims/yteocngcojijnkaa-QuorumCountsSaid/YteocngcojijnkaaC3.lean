/- slices.DeleteFunc over the closure of quorum.Common, on a row of the call's own. -/
import Derived.Test.YteocngcojijnkaaC2
import Derived.Lib.SliceRun
namespace Go.Proofs.Yteocngcojijnkaa.Cm
open Go.ChangeShapes Go.WideShapes Go.ChangeAt Go.RowKit Go.Proofs.Yteocngcojijnkaa.QO Go.Proofs.Yteocngcojijnkaa.Lex
open Go.Proofs.YteocngcojijnkaaW.PrintWords Go.Proofs.YteocngcojijnkaaW.PrintLast Go.Proofs.YteocngcojijnkaaW.PrintMore
set_option linter.unusedVariables false
set_option linter.unusedSimpArgs false
def keep (l m : List Int) : List Int := m.filter (fun x => decide (x ∈ l))
theorem keep_all {l m : List Int} (h : ∀ x ∈ m, x ∈ l) : keep l m = m := by
  unfold keep
  rw [List.filter_eq_self]
  intro x hx
  exact decide_eq_true (h x hx)
theorem keep_app (l m n : List Int) : keep l (m ++ n) = keep l m ++ keep l n := List.filter_append ..
/-- one more is looked at, and kept -/
theorem keep_in {l m ys : List Int} {i j : Nat} (hj : j < m.length) (hij : i ≤ j) (hlen : ys.length = m.length) (h1 : ys.take i = keep l (m.take j)) (h2 : ys.drop j = m.drop j) (hin : m[j] ∈ l) :
    (ys.set i m[j]).take (i + 1) = keep l (m.take (j + 1)) ∧ (ys.set i m[j]).drop (j + 1) = m.drop (j + 1) := by
  constructor
  · rw [List.take_succ_eq_append_getElem hj, keep_app, ← h1]
    have hi : i < (ys.set i m[j]).length := by rw [List.length_set]; omega
    rw [List.take_succ_eq_append_getElem hi, List.getElem_set_self, List.take_set_of_le (Nat.le_refl i)]
    congr 1
    simp [keep, hin]
  · rw [List.drop_set_of_lt (by omega)]
    have := congrArg (List.drop 1) h2
    rwa [List.drop_drop, List.drop_drop] at this
theorem keep_out {l m ys : List Int} {i j : Nat} (hj : j < m.length) (h1 : ys.take i = keep l (m.take j)) (h2 : ys.drop j = m.drop j) (hin : m[j] ∉ l) :
    ys.take i = keep l (m.take (j + 1)) ∧ ys.drop (j + 1) = m.drop (j + 1) := by
  constructor
  · rw [List.take_succ_eq_append_getElem hj, keep_app, ← h1]
    simp [keep, hin]
  · have := congrArg (List.drop 1) h2
    rwa [List.drop_drop, List.drop_drop] at this
/-- the rest is cleared: what stands ahead of it stays -/
theorem clear_rest {e base : Nat} {ok : Nat → Prop} {g c n : Nat} {w0 : World} {B : Nat} (hg : B ≤ g) : ∀ (k o : Nat) (W : World) (xs : List Int),
    (Kd.int .i64).R e W base ok (.slice (some ⟨g, 0, none⟩) n c) xs → Below B w0 W → B ≤ W.heap.size →
    ∃ ys, (Kd.int .i64).R e (W.setCells g o (List.replicate k (.int .i64 0))) base ok (.slice (some ⟨g, 0, none⟩) n c) ys ∧ ys.length = xs.length ∧ ys.take o = xs.take o ∧ Below B w0 (W.setCells g o (List.replicate k (.int .i64 0))) := by
  intro k
  induction k with
  | zero => intro o W xs h hb _; exact ⟨xs, h, rfl, rfl, hb⟩
  | succ k ih =>
    intro o W xs h hb hs
    have hp := Kd.R_putg h (o : Int) 0
    rw [show (o : Int).toNat = o from rfl] at hp
    obtain ⟨ys, h1, h2, h3, h4⟩ := ih (o + 1) _ _ hp.1 (pw_below_grown hb _ hs hp.2 (by intro k hk; injection hk with hk; subst hk; exact hg)) (Nat.le_trans hs hp.2.size)
    refine ⟨ys, h1, by rw [h2, List.length_set], ?_, h4⟩
    have := congrArg (List.take o) h3
    rw [List.take_take, List.take_take, Nat.min_eq_left (Nat.le_succ o), List.take_set_of_le (Nat.le_refl o)] at this
    exact this
set_option maxHeartbeats 4000000 in
set_option maxRecDepth 100000 in
theorem delete_ {w0 w : World} {g : Nat} {A : Option Addr} {c : Nat} {l : List Int} {v : Value} {m : List Int} (hg : w0.heap[g]? = some (.cells #[.slice A l.length c] 22 (0, 0))) (hr : Kd.C (Kd.int .i64) w0 A l.length l) (hc : l.length ≤ c)
    (ho : Kd.R (Kd.int .i64) 3 w w0.heap.size (fun _ => True) v m) (hb : Below w0.heap.size w0 w) :
    Calls Try.prog 32 #[v, .func (.func 33) #[] #[.pointer (some ⟨g, 0, none⟩)]] w fun e w' => ∃ v', e = .returned v' ∧ Kd.R (Kd.int .i64) 3 w' w0.heap.size (fun _ => True) v' (keep l m) ∧ Below w0.heap.size w0 w' := by
  obtain ⟨A1, c1, rfl, hc1, hr1⟩ := Kd.R_reads ho
  have HG := Aside0.mk hg
  have HR := Aside0.mk hr
  have HC := Aside0.mk hc
  have HO := Aside0.mk ho
  have HB := Aside0.mk hb
  have HR1 := Aside0.mk hr1
  have HF := Aside0.mk (fun (h : 0 < m.length) => Kd.R_form ho h)
  have HC1 := Aside0.mk hc1
  have hm := hr1.2.1
  clear hg hr hc ho hb hr1 hc1
  go_enter Try.func32, Try.ntmps32
  go_wp2_with fail
  (with_reducible refine (index_ (blk_below HG.out HB.out) (Kd.C_below HR.out HB.out) HC.out HR1.out HC1.out).mono ?_)
  rintro e w1 ⟨r, rfl, hr, hd⟩
  have HO1 := Aside0.mk (Kd.R_below HO.out hd.below)
  have HB1 := Aside0.mk (below_then HB.out HB.out.size hd.below)
  clear hd
  rcases hr with ⟨rfl, hall⟩ | ⟨i, hi, rfl, hni, hpre⟩
  · have HK := Aside0.mk (keep_all hall)
    clear hall
    go_wp2_with fail
    go_ret
    exact ⟨_, rfl, by rw [HK.out]; exact HO1.out, HB1.out⟩
  · have HP := Aside0.mk hpre
    have HN := Aside0.mk hni
    have t1 : ((i : Int) == -1) = false := beq_eq_false_iff_ne.2 (by omega)
    clear hpre hni
    obtain ⟨g2, cap, hv, hg2, _, _⟩ := HF.out (by omega)
    injection hv with hv1 hv2 hv3
    subst hv1 hv3
    have HG2 := Aside0.mk hg2
    clear hg2
    go_wp2_with fail
    go_loopg [5, 6] (m.length - (i + 1)) (fun n vi vj w' => ∃ (ic jc : Nat) (ys : List Int), vi = .int .i64 ic ∧ vj = .int .i64 jc ∧ ic < jc ∧ jc ≤ m.length ∧ n = m.length - jc ∧ Aside0 (ys.length = m.length ∧ ys.take ic = keep l (m.take jc) ∧ ys.drop jc = m.drop jc) ∧ Aside0 (Kd.R (Kd.int .i64) 3 w' w0.heap.size (fun _ => True) (.slice (some ⟨g2, 0, none⟩) m.length c1) ys) ∧ Aside0 (Below w0.heap.size w0 w'))
    case atStart =>
      exact ⟨i, i + 1, m, rfl, by go_num, Nat.lt_succ_self _, hi, rfl, ⟨rfl, (keep_out hi (keep_all HP.out).symm rfl HN.out).1, rfl⟩, HO1, HB1⟩
    case round =>
      obtain ⟨ic, jc, ys, rfl, rfl, hij, hjm, rfl, HY, HOr, HBr⟩ := hrel
      clear HP HN HO1 HB1
      by_cases hlt : jc < m.length
      · have t2 : decide ((jc : Int) < (m.length : Int)) = true := decide_eq_true (by omega)
        have hly := HY.out.1
        have hjy : jc < ys.length := by omega
        have hyx : ys[jc] = m[jc] := by
          have h := HY.out.2.2
          rw [List.drop_eq_getElem_cons hjy, List.drop_eq_getElem_cons hlt] at h
          exact (List.cons.inj h).1
        obtain ⟨hcell0, _⟩ := Kd.R_cell (0 : Int) (by rw [hly]; exact HOr.out) (jc : Int) (by omega) (by omega)
        have hcell : wr.cell? ⟨g2, jc, none⟩ = some (.int .i64 m[jc]) := by
          rw [show (jc : Int).toNat = jc from rfl] at hcell0
          rw [hcell0, ← hyx]
          simp [rdOf, hjy]
        have HGr := Aside0.mk (blk_below HG.out HBr.out)
        have HRr := Aside0.mk (Kd.C_below HR.out HBr.out)
        clear hcell0 hyx hly hjy
        by_cases hin : m[jc] ∈ l
        · have HIN := Aside0.mk hin
          have HV := Aside0.mk (show (!decide (m[jc] ∈ l)) = false by simp [hin])
          obtain ⟨x, hx⟩ : ∃ x, m[jc] = x := ⟨_, rfl⟩
          have HX := Aside0.mk hx
          rw [hx] at hcell HV
          clear hin hx
          go_wp2_with fail
          (with_reducible refine (clo_ x HGr.out HRr.out HC.out).mono ?_)
          rw [HV.out]
          rintro e w1 ⟨rfl, hd1⟩
          have HO2 := Aside0.mk (Kd.R_below HOr.out hd1.below)
          have HB2 := Aside0.mk (below_then HBr.out HBr.out.size hd1.below)
          clear hd1
          obtain ⟨hci, hfi⟩ := Kd.R_cell (0 : Int) (by rw [HY.out.1]; exact HO2.out) (ic : Int) (by omega) (by have := HY.out.1; omega)
          rw [show (ic : Int).toNat = ic from rfl] at hci hfi
          have t3 : decide ((ic : Int) < (m.length : Int)) = true := decide_eq_true (by omega)
          go_wp2_with fail
          go_roundg (m.length - (jc + 1))
          case measure => omega
          case rel =>
            have hp := Kd.R_putg HO2.out (ic : Int) x
            have hk := keep_in hlt (Nat.le_of_lt hij) HY.out.1 HY.out.2.1 HY.out.2.2 (by rw [HX.out]; rw [HX.out] at HIN; exact HIN.out)
            rw [HX.out] at hk
            exact ⟨ic + 1, jc + 1, ys.set ic x, by go_num, by go_num, by omega, hlt, rfl, ⟨by rw [List.length_set]; exact HY.out.1, hk.1, hk.2⟩, ⟨hp.1⟩, ⟨pw_below_grown HB2.out _ HB2.out.size hp.2 (by intro k hk; injection hk with hk; subst hk; exact HG2.out)⟩⟩
        · have HIN := Aside0.mk hin
          have HV := Aside0.mk (show (!decide (m[jc] ∈ l)) = true by simp [hin])
          obtain ⟨x, hx⟩ : ∃ x, m[jc] = x := ⟨_, rfl⟩
          rw [hx] at hcell HV
          clear hin hx
          go_wp2_with fail
          (with_reducible refine (clo_ x HGr.out HRr.out HC.out).mono ?_)
          rw [HV.out]
          rintro e w1 ⟨rfl, hd1⟩
          have HO2 := Aside0.mk (Kd.R_below HOr.out hd1.below)
          have HB2 := Aside0.mk (below_then HBr.out HBr.out.size hd1.below)
          clear hd1
          go_wp2_with fail
          go_roundg (m.length - (jc + 1))
          case measure => omega
          case rel =>
            have hk := keep_out hlt HY.out.2.1 HY.out.2.2 HIN.out
            exact ⟨ic, jc + 1, ys, rfl, by go_num, by omega, hlt, rfl, ⟨HY.out.1, hk.1, hk.2⟩, HO2, HB2⟩
      · obtain rfl : jc = m.length := by omega
        have t2 : decide ((m.length : Int) < (m.length : Int)) = false := decide_eq_false (by omega)
        have hc9 := HC1.out
        have t4 : (c1 == ic) = false := beq_eq_false_iff_ne.2 (by omega)
        have t8 : ¬ (c1 = ic) := by omega
        have t9 : ic ≤ c1 := by omega
        have t10 : decide ((c1 : Int) < (ic : Int)) = false := decide_eq_false (by omega)
        have t5 : decide ((ic : Int) < 0) = false := decide_eq_false (by omega)
        have t6 : decide ((m.length : Int) < (ic : Int)) = false := decide_eq_false (by omega)
        have t7 : decide (m.length < ic) = false := decide_eq_false (by omega)
        have HIJ := Aside0.mk hij
        clear hc9
        have hz : ∀ w, (zeroValue 3).run Try.prog w = .ok (.int .i64 0) w := fun w => by first | rfl | (simp [zeroValue]; rfl)
        have hcl := Go.Lib.run_clear_slice wr 22 3 0 (.int .i64 0) Try.underlying22 hz rfl rfl g2 ic (m.length - ic) (c1 - ic) (by omega) (fun j hj => by
          obtain ⟨h, _⟩ := Kd.R_cell (0 : Int) (by rw [HY.out.1]; exact HOr.out) ((ic + j : Nat) : Int) (by omega) (by have := HY.out.1; omega)
          rw [show ((ic + j : Nat) : Int).toNat = ic + j from rfl] at h
          rw [h]; rfl) (fun j hj => by
          obtain ⟨_, h⟩ := Kd.R_cell (0 : Int) (by rw [HY.out.1]; exact HOr.out) ((ic + j : Nat) : Int) (by omega) (by have := HY.out.1; omega)
          exact h)
        go_wp2_with fail
        go_ret
        obtain ⟨zs, z1, z2, z3, z4⟩ := clear_rest HG2.out (m.length - ic) ic wr ys HOr.out HBr.out HBr.out.size
        have hk := HY.out.2.1
        rw [List.take_length] at hk
        rw [← hk, ← z3]
        exact ⟨_, rfl, Kd.R_take z1 (by rw [z2, HY.out.1]; omega), z4⟩
end Go.Proofs.Yteocngcojijnkaa.Cm
