/- The contract of pack.Rows. Conditions: bytes that fit in memory. -/
import Derived.Test.YtfhgclojfjiblaaZPackBack15
import Derived.WalkMore
namespace Go.Proofs.Ytfhgclojfjiblaa.Pk
open Go.ChangeShapes Go.WideShapes Go.ChangeAt Go.RowKit
open Go.Proofs.Ytfhgclojfjiblaa.Hlp Go.Proofs.Ytfhgclojfjiblaa.Wrd Go.Proofs.YtfhgclojfjiblaaW.PrintWords Go.Proofs.YtfhgclojfjiblaaW.PrintLast Go.Proofs.YtfhgclojfjiblaaW.PrintMore
set_option linter.unusedVariables false
set_option linter.unusedSimpArgs false
/-- all rows, and what is wrong first -/
def rowsS (l : List Int) : List (List Int) × Int :=
  if h0 : l = [] then ([], 0) else
  if h : (rowS ⟨l, 0⟩).2.e = 0 ∧ (rowS ⟨l, 0⟩).2.l.length < l.length then ((rowS ⟨l, 0⟩).1 :: (rowsS (rowS ⟨l, 0⟩).2.l).1, (rowsS (rowS ⟨l, 0⟩).2.l).2) else ([], (rowS ⟨l, 0⟩).2.e)
termination_by l.length
decreasing_by all_goals exact h.2
theorem rowsS_nil : rowsS [] = ([], 0) := by unfold rowsS; simp
theorem rowsS_ok {l r l' : List Int} (h0 : l ≠ []) (h : rowS ⟨l, 0⟩ = (r, ⟨l', 0⟩)) (hl : l'.length < l.length) : rowsS l = (r :: (rowsS l').1, (rowsS l').2) := by
  rw [rowsS]
  simp [h0, h, hl]
theorem rowsS_bad {l r l' : List Int} {e : Int} (h0 : l ≠ []) (h : rowS ⟨l, 0⟩ = (r, ⟨l', e⟩)) (he : e ≠ 0) : rowsS l = ([], e) := by
  rw [rowsS]
  simp [h0, h, he]
/-- a row that is read well: where it lies -/
theorem rowS_go {l r l' : List Int} (hb : ∀ x ∈ l, 0 ≤ x ∧ x < 256) (h : rowS ⟨l, 0⟩ = (r, ⟨l', 0⟩)) : ∃ n k : Nat, peekP l = ((n : Int), (k : Int), 0) ∧ 1 ≤ k ∧ n ≤ 65536 ∧ k + n ≤ l.length ∧ r = (l.drop k).take n ∧ l' = l.drop (k + n) := by
  obtain ⟨n, k, x, hp⟩ : ∃ n k x, peekP l = (n, k, x) := ⟨_, _, _, rfl⟩
  by_cases hx : x = 0
  · subst hx
    obtain ⟨hk1, hk9, hkl⟩ := peekP_ok hp hb
    by_cases hin : 0 ≤ n ∧ n ≤ 65536
    · by_cases hs : (l.length : Int) - k < n
      · rw [rowS_short hp hin hs] at h
        simp at h
      · obtain ⟨K, rfl⟩ := Int.eq_ofNat_of_zero_le (show 0 ≤ k by omega)
        obtain ⟨m, rfl⟩ := Int.eq_ofNat_of_zero_le hin.1
        rw [rowS_ok hp (by omega) (by omega)] at h
        injection h with h1 h2
        injection h2 with h2 _
        exact ⟨m, K, hp, by omega, by omega, by omega, h1.symm, h2.symm⟩
    · rw [rowS_out hp hin] at h
      simp at h
  · rw [rowS_bad hp hx] at h
    injection h with _ h
    injection h with _ h
    exact absurd h hx
theorem infoRow : (Try.prog.info? 22).map (fun i => (i.zero, i.size, i.bytes)) = some (some (.slice none 0 0), 1, 24) := by kernel_rfl
abbrev RR (w : World) (base : Nat) (ok : Nat → Prop) (v : Value) (xs : List (List Int)) : Prop := Kd.R (Kd.slice 5 (Kd.int .u8)) 22 w base ok v xs
def RowsAll (w : World) (l : List Int) (x : Ending) (w' : World) : Prop :=
  (∃ v d, x = .returned (.tuple #[v, .int .i64 (rowsS l).2]) ∧ ((rowsS l).2 = 0 → (∃ B, v = .slice B (rowsS l).1.length d) ∧ RR w' w.heap.size (fun _ => True) v (rowsS l).1) ∧ ((rowsS l).2 ≠ 0 → v = .slice none 0 0)) ∧ Below w.heap.size w w'
set_option maxHeartbeats 4000000 in
set_option maxRecDepth 100000 in
theorem rows_ {w : World} {n c : Nat} {A : Option Addr} {l : List Int} (hr : Kd.C (Kd.int .u8) w A n l) (hc : n ≤ c) (hb : ∀ x ∈ l, 0 ≤ x ∧ x < 256) (hl : n ≤ 4398046511103) :
    Calls Try.prog 28 #[.slice A n c] w (RowsAll w l) := by
  obtain rfl : l.length = n := hr.1
  have HR := Aside0.mk hr
  have HBt := Aside0.mk hb
  clear hr hb
  go_enter Try.func28, Try.ntmps28
  go_wp2
  go_step3
  go_wp2_with (go_at_call 17; (with_reducible refine (new_ HR.out hc HBt.out (by omega)).mono ?_); rintro x w1 ⟨g, b1, c1, rfl, hrd, hb1, hg1, hg2⟩)
  have HW := Aside0.mk hb1
  have HRd := Aside0.mk hrd
  have HL1 : Aside0 (l ≠ [] → ∀ p q, b1 = some ⟨p, q, none⟩ → p < w1.heap.size) := ⟨fun h0 p q e => by have := hrd.row; rw [e] at this; exact C_in this h0⟩
  have hsz := hb1.size
  have hend : ∀ w' : World, Kp w1 w' w1.heap.size g g → Below w.heap.size w w' := fun w' hK => ⟨hK.os.trans HW.out.os, hK.tape.trans HW.out.tape, hK.output.trans HW.out.output, Nat.le_trans HW.out.size hK.size, fun k hk => (hK.block k (by omega) (by omega) (by omega)).trans (HW.out.block k hk)⟩
  have HEnd := Aside0.mk hend
  have hd : ((0 : Int) != 0) = false := rfl
  clear hrd hb1 hend
  go_step3
  go_wp2
  go_loopg [4, 6] l.length (fun q vo vx w' => ∃ (acc : List (List Int)) (lr : List Int) (B b : Option Addr) (d c : Nat), vo = .slice B acc.length d ∧ q = lr.length ∧ acc.length + lr.length ≤ l.length ∧ Aside0 (rowsS l = (acc ++ (rowsS lr).1, (rowsS lr).2)) ∧ Aside0 (Rd w' g b c lr 0 false) ∧ Aside0 (RR w' w1.heap.size (fun k => w1.heap.size ≤ k) (.slice B acc.length d) acc) ∧ Aside0 (Kp w1 w' w1.heap.size g g) ∧ Aside0 (lr ≠ [] → ∀ p q, b = some ⟨p, q, none⟩ → p < w1.heap.size))
  case atStart => exact ⟨[], l, none, b1, 0, c1, rfl, rfl, by simp, ⟨by simp⟩, HRd, ⟨Kd.R_nil _ _ _ _ _⟩, ⟨Kp.refl _ _ _ _⟩, HL1⟩
  case round =>
    obtain ⟨acc, lr, B, b, d, c, rfl, rfl, hlen, HE, HR2, HA, HK, HL⟩ := hrel
    clear HRd HL1
    by_cases h0 : lr = []
    · subst h0
      have hE := HE.out
      rw [rowsS_nil, List.append_nil] at hE
      have HE1 := Aside0.mk hE
      clear hE
      go_wp2_with (first | (go_at_call 21; (with_reducible refine (left_ HR2.out).mono ?_); rintro e w' ⟨rfl, rfl⟩) | (go_at_call 19; (with_reducible refine (end_ HR2.out).mono ?_); rw [show endP [] 0 = 0 from rfl]; rintro e w' ⟨rfl, rfl⟩))
      rw [Exit.noGoto_ret]
      go_ret2
      have hE := HE1.out
      refine ⟨⟨_, d, by rw [hE]; rfl, fun _ => ⟨⟨B, by rw [hE]; rfl⟩, ?_⟩, fun h => absurd (by rw [hE]) h⟩, HEnd.out _ HK.out⟩
      rw [hE]
      exact Kd.R_mono (Kd.R_lower HA.out hsz) (fun _ _ => trivial)
    · have hp0 : 0 < lr.length := List.length_pos_iff.2 h0
      have t0 : decide (0 < lr.length) = true := decide_eq_true hp0
      have hwr := HK.out.size
      obtain ⟨row, ⟨lr2, e⟩, hrow⟩ : ∃ r s, rowS ⟨lr, 0⟩ = (r, s) := ⟨_, _, rfl⟩
      by_cases he : e = 0
      · subst he
        obtain ⟨n, k, hpk, hk1, hn, hkn, hr1, hr2⟩ := rowS_go HR2.out.bytes hrow
        have hlt : lr2.length < lr.length := by rw [hr2, List.length_drop]; omega
        have HS := Aside0.mk (rowsS_ok h0 hrow hlt)
        have HRow := Aside0.mk hrow
        have HP0 := Aside0.mk h0
        have hacc : (acc.length + 1) * 24 ≤ 140737488355328 := by omega
        have hown : Aside0 (∀ k, (Value.slice B acc.length d).ownBlock = some k → w1.heap.size ≤ k ∧ k < wr.heap.size) := ⟨fun k hk => ⟨Kd.R_base HA.out k hk, ((Kd.R_bound HA.out).1 k hk).2.2.1⟩⟩
        clear hr1 hr2 hpk hrow h0 hkn
        go_wp2_with (first
          | (go_at_call 21; (with_reducible refine (left_ HR2.out).mono ?_); rintro e w' ⟨rfl, rfl⟩)
          | (go_at_call 22; (with_reducible refine (rowB_ HR2.out (by omega)).mono ?_); rw [HRow.out]; rintro e w2 ⟨v, rfl, hv, b2, c2, hrd2, hgr2, hbb⟩; obtain ⟨Av, cv, ev⟩ := Kd.R_slice hv; subst ev; have HRd2 : Aside0 (Rd w2 g b2 c2 lr2 0 false) := ⟨hrd2⟩; have HV : Aside0 (Kd.R (Kd.int .u8) 5 w2 w1.heap.size (fun k => wr.heap.size ≤ k) (.slice Av row.length cv) row) := ⟨Kd.R_lower (Kd.R_mono (Kd.R_bound hv) (fun k hk => hk.2.1)) hwr⟩; have HA2 : Aside0 (RR w2 w1.heap.size (fun k => w1.heap.size ≤ k) (.slice B acc.length d) acc) := ⟨Kd.R_grown HA.out hgr2 (fun k hk e => by injection e with e; omega)⟩; have HG2 := Aside0.mk hgr2; have HBB := Aside0.mk hbb; have hs2 := hgr2.size; clear hrd2 hgr2 hbb hv)
          | (go_at_call 32; (with_reducible refine (dead_ HRd2.out).mono ?_); rintro e w' ⟨rfl, rfl⟩)
          | ((with_reducible refine gate_builtin (b := .append) rfl ?_); at_builtin; refine Kd.R_append (Kd.slice 5 (Kd.int .u8)) (w0 := w2) w1.heap.size rfl _ _ 49 22 (.slice none 0 0) 24 rfl Try.underlying49 infoRow rfl (by decide) (by omega) (.slice B acc.length d) acc row [.slice Av row.length cv] (fun k => w1.heap.size ≤ k) (fun k => wr.heap.size ≤ k) rfl rfl ⟨_, rfl, HV.out⟩ (fun k hk => ⟨by omega, fun e => by have := hown.out k e.symm; omega⟩) (fun k hk => by omega) HA2.out ⟨rfl, rfl, rfl, Nat.le_refl _, fun _ _ => rfl⟩ (by omega) hacc ?_; intro v1 w4 ho hb4 hgr4 hat4; obtain ⟨A4, c4, e4⟩ := Kd.R_slice ho; subst e4; have HA4 := Aside0.mk ho; have HG4 := Aside0.mk hgr4; clear ho hb4 hgr4 hat4))
        go_roundg lr2.length
        case measure => omega
        case rel =>
          have hgrow := HG4.out
          have hll : acc.length + 1 = (acc ++ [row]).length := by rw [List.length_append]; rfl
          rw [hll]
          refine ⟨acc ++ [row], lr2, A4, b2, c4, c2, rfl, rfl, ?_, ⟨?_⟩, ⟨rd_stands HRd2.out hgrow (fun e => by have := (hown.out _ e.symm).1; omega) (fun h0 p q e => by
              obtain ⟨q', e'⟩ := HBB.out p q e
              intro e2
              have h1 := (hown.out _ e2.symm).1
              have h2 := HL.out HP0.out p q' e'
              omega)⟩, HA4, ⟨(HK.out.grown (Nat.le_refl _) HG2.out (fun q hq => by injection hq with hq; exact .inl hq.symm)).grown (Nat.le_refl _) hgrow (fun q hq => .inr (.inr (hown.out q hq).1))⟩, ⟨fun _ p q e => by
              obtain ⟨q', e'⟩ := HBB.out p q e
              exact HL.out HP0.out p q' e'⟩⟩
          · rw [List.length_append, List.length_singleton]; omega
          · rw [HE.out, HS.out, List.append_assoc]; rfl
      · have hE := HE.out
        rw [rowsS_bad h0 hrow he, List.append_nil] at hE
        have HE1 := Aside0.mk hE
        have HRow := Aside0.mk hrow
        have he2 : (e != 0) = true := bne_iff_ne.2 he
        have HX : Hid (endP lr2 e = e) := Lib.hid (by unfold endP; rw [if_neg he])
        have HX0 := Lib.hid he
        clear h0 hrow he hE
        go_wp2_with (first
          | (go_at_call 21; (with_reducible refine (left_ HR2.out).mono ?_); rintro e w' ⟨rfl, rfl⟩)
          | (go_at_call 22; (with_reducible refine (rowB_ HR2.out (by omega)).mono ?_); rw [HRow.out]; rintro y w2 ⟨v, rfl, hv, b2, c2, hrd2, hgr2, hbb⟩; have HRd2 : Aside0 (Rd w2 g b2 c2 lr2 e false) := ⟨hrd2⟩; have HG2 := Aside0.mk hgr2; clear hrd2 hgr2 hbb hv)
          | (go_at_call 32; (with_reducible refine (dead_ HRd2.out).mono ?_); rintro y w' ⟨rfl, rfl⟩)
          | (go_at_call 19; (with_reducible refine (end_ HRd2.out).mono ?_); rw [HX.out]; rintro y w' ⟨rfl, rfl⟩))
        rw [Exit.noGoto_ret]
        go_ret2
        have hE := HE1.out
        refine ⟨⟨_, 0, by rw [hE]; rfl, fun h => absurd (by rw [hE] at h; exact h) HX0.out, fun _ => rfl⟩, HEnd.out _ (HK.out.grown (Nat.le_refl _) HG2.out (fun q hq => by injection hq with hq; exact .inl hq.symm))⟩
end Go.Proofs.Ytfhgclojfjiblaa.Pk
