/- Written by a program of this session over the kit's print: functions and their contracts. · Written by a program of this session over the kit's print: functions and their contracts. -/
import Derived.Test.YthaoiamgkpkcbaaDoorYMsgsReads25

namespace Go.Proofs.YthaoiamgkpkcbaaDoor.QK
open Go.RowKit Go.Proofs.YthaoiamgkpkcbaaDoorW.PrintWords Go.Proofs.YthaoiamgkpkcbaaDoorW.PrintLast Go.Proofs.YthaoiamgkpkcbaaDoorW.PrintMore
attribute [local go_sem] max2_int min2_int max_two min_two max_three min_three max_four min_four   -- for this text's walks alone
set_option linter.unusedVariables false
set_option linter.unusedSimpArgs false
/-! ### icehouseref09_Check: function 44 -/
mutual
def icehouseref09_Check.j0 : Nat → Int → Bool → List Int → Int → Int → Option (Int)
  | 0, _, _, _, _, _ => none
  | k + 1, x3, x34, x102000, x102001, x102002 => if x34 = true then (some 2) else (icehouseref09_Check.l0 k x3 0 x102000 x102001 x102002)
def icehouseref09_Check.l0 : Nat → Int → Int → List Int → Int → Int → Option (Int)
  | 0, _, _, _, _, _ => none
  | k + 1, x3, x4, x102000, x102001, x102002 => if x4 < x3 then (if 0 ≤ x4 then (if x4 < (x102000.length : Int) then (if (rd x102000 x4) < 0 then (some 2) else (if (rd x102000 x4) > 1048575 then (some 2) else (if x4 > 0 then (if 0 ≤ (wrap64 (x4 - 1)) then (if (wrap64 (x4 - 1)) < (x102000.length : Int) then (if (rd x102000 x4) ≤ (rd x102000 (wrap64 (x4 - 1))) then (some 2) else (icehouseref09_Check.l0 k x3 (wrap64 (x4 + 1)) x102000 x102001 x102002)) else (none)) else (none)) else (icehouseref09_Check.l0 k x3 (wrap64 (x4 + 1)) x102000 x102001 x102002)))) else (none)) else (none)) else (some 0)
end
def icehouseref09_Check.f (k : Nat) (l0_0 : List Int) (a0_1 : Int) (a0_2 : Int) : Option (Int) := if (l0_0.length : Int) < 1 then (icehouseref09_Check.j0 k (l0_0.length : Int) true l0_0 a0_1 a0_2) else (if (l0_0.length : Int) > 64 then (icehouseref09_Check.j0 k (l0_0.length : Int) true l0_0 a0_1 a0_2) else (if a0_1 < 1 then (icehouseref09_Check.j0 k (l0_0.length : Int) true l0_0 a0_1 a0_2) else (if a0_1 > 64 then (icehouseref09_Check.j0 k (l0_0.length : Int) true l0_0 a0_1 a0_2) else (if a0_2 < 1 then (icehouseref09_Check.j0 k (l0_0.length : Int) true l0_0 a0_1 a0_2) else (icehouseref09_Check.j0 k (l0_0.length : Int) (decide (a0_2 > (l0_0.length : Int))) l0_0 a0_1 a0_2)))))
set_option maxHeartbeats 8000000 in
set_option maxRecDepth 100000 in
theorem icehouseref09_Check.calls (k : Nat) (A0_0 : Option Addr) (c0_0 : Nat) (l0_0 : List Int) (a0_1 : Int) (a0_2 : Int) (r : Int) (w : World) (hr0_0 : Kd.C (Kd.int .i64) w A0_0 l0_0.length l0_0) (hc0_0 : l0_0.length ≤ c0_0) (h : icehouseref09_Check.f k l0_0 a0_1 a0_2 = some r) :
    Calls Tryd.prog 44 #[.agg #[.slice A0_0 l0_0.length c0_0, .int .i64 a0_1, .int .i64 a0_2]] w fun e w' => e = .returned (.int .i64 r) ∧ Below w.heap.size w w' := by
  have hu32 := Tryd.underlying32
  have HR0_0 := Aside0.mk hr0_0
  have HC0_0 := Aside0.mk hc0_0
  clear hr0_0 hc0_0
  have HB := Aside0.mk (Below.refl w.heap.size w)
  have H : (if (l0_0.length : Int) < 1 then (icehouseref09_Check.j0 k (l0_0.length : Int) true l0_0 a0_1 a0_2) else (if (l0_0.length : Int) > 64 then (icehouseref09_Check.j0 k (l0_0.length : Int) true l0_0 a0_1 a0_2) else (if a0_1 < 1 then (icehouseref09_Check.j0 k (l0_0.length : Int) true l0_0 a0_1 a0_2) else (if a0_1 > 64 then (icehouseref09_Check.j0 k (l0_0.length : Int) true l0_0 a0_1 a0_2) else (if a0_2 < 1 then (icehouseref09_Check.j0 k (l0_0.length : Int) true l0_0 a0_1 a0_2) else (icehouseref09_Check.j0 k (l0_0.length : Int) (decide (a0_2 > (l0_0.length : Int))) l0_0 a0_1 a0_2)))))) = some r := h
  clear h
  have HC2 := Aside0.mk H
  clear H
  go_enter Tryd.func44, Tryd.ntmps44
  go_upto_region 2 with (first | ((with_reducible refine gate_dst (N := 1) rfl ?_); refine box_event ?hg (N := 1) ?hd (cs := #[.slice A0_0 l0_0.length c0_0, .int .i64 a0_1, .int .i64 a0_2]) (t := 32) ?hr ?_; (case hd => rfl); (case hg => rfl); (case hr => first | (go_simp; done) | (go_simp; rfl)); intro gb101 hg w3 hbox hb; have n0_ := Aside0.mk (below_step (by repeat (first | (with_reducible first | exact HB.out | apply below_alloc | apply pw_below_drewN | apply below_drew1) | exact HB.out)) hb); have n1_ := Aside0.mk (hbox); have n2_ := Aside0.mk ((by rw [hg]; exact (below_size (by repeat (first | (with_reducible first | exact HB.out | apply below_alloc | apply pw_below_drewN | apply below_drew1) | exact HB.out))) : w.heap.size ≤ gb101)); have n3_ := Aside0.mk ((by rw [hg]; exact (below_size (by repeat (first | (with_reducible first | exact HB.out | apply below_alloc | apply pw_below_drewN | apply below_drew1) | exact HB.out))) : w.heap.size ≤ gb101)); clear HB; have HB := n0_; have BK101 := n1_; have GW101 := n2_; have GE101 := n3_; clear n0_ n1_ n2_ n3_; clear hb hbox hg; have hcz4_0 : w3.cell? ⟨gb101, 0, none⟩ = some (.slice A0_0 l0_0.length c0_0) := (blk_cell BK101.out 0).trans rfl; have hcz4_1 : w3.cell? ⟨gb101, 1, none⟩ = some (.int .i64 a0_1) := (blk_cell BK101.out 1).trans rfl; have hcz4_2 : w3.cell? ⟨gb101, 2, none⟩ = some (.int .i64 a0_2) := (blk_cell BK101.out 2).trans rfl; have hfz4_0 := blk_frozen BK101.out 0; have hfz4_1 := blk_frozen BK101.out 1; have hfz4_2 := blk_frozen BK101.out 2))
  repeat (go_quiet (first | ((with_reducible refine gate_dst (N := 1) rfl ?_); refine box_event ?hg (N := 1) ?hd (cs := #[.slice A0_0 l0_0.length c0_0, .int .i64 a0_1, .int .i64 a0_2]) (t := 32) ?hr ?_; (case hd => rfl); (case hg => rfl); (case hr => first | (go_simp; done) | (go_simp; rfl)); intro gb101 hg w3 hbox hb; have n0_ := Aside0.mk (below_step (by repeat (first | (with_reducible first | exact HB.out | apply below_alloc | apply pw_below_drewN | apply below_drew1) | exact HB.out)) hb); have n1_ := Aside0.mk (hbox); have n2_ := Aside0.mk ((by rw [hg]; exact (below_size (by repeat (first | (with_reducible first | exact HB.out | apply below_alloc | apply pw_below_drewN | apply below_drew1) | exact HB.out))) : w.heap.size ≤ gb101)); have n3_ := Aside0.mk ((by rw [hg]; exact (below_size (by repeat (first | (with_reducible first | exact HB.out | apply below_alloc | apply pw_below_drewN | apply below_drew1) | exact HB.out))) : w.heap.size ≤ gb101)); clear HB; have HB := n0_; have BK101 := n1_; have GW101 := n2_; have GE101 := n3_; clear n0_ n1_ n2_ n3_; clear hb hbox hg; have hcz4_0 : w3.cell? ⟨gb101, 0, none⟩ = some (.slice A0_0 l0_0.length c0_0) := (blk_cell BK101.out 0).trans rfl; have hcz4_1 : w3.cell? ⟨gb101, 1, none⟩ = some (.int .i64 a0_1) := (blk_cell BK101.out 1).trans rfl; have hcz4_2 : w3.cell? ⟨gb101, 2, none⟩ = some (.int .i64 a0_2) := (blk_cell BK101.out 2).trans rfl; have hfz4_0 := blk_frozen BK101.out 0; have hfz4_1 := blk_frozen BK101.out 1; have hfz4_2 := blk_frozen BK101.out 2)); go_upto_region 2 with (first | ((with_reducible refine gate_dst (N := 1) rfl ?_); refine box_event ?hg (N := 1) ?hd (cs := #[.slice A0_0 l0_0.length c0_0, .int .i64 a0_1, .int .i64 a0_2]) (t := 32) ?hr ?_; (case hd => rfl); (case hg => rfl); (case hr => first | (go_simp; done) | (go_simp; rfl)); intro gb101 hg w3 hbox hb; have n0_ := Aside0.mk (below_step (by repeat (first | (with_reducible first | exact HB.out | apply below_alloc | apply pw_below_drewN | apply below_drew1) | exact HB.out)) hb); have n1_ := Aside0.mk (hbox); have n2_ := Aside0.mk ((by rw [hg]; exact (below_size (by repeat (first | (with_reducible first | exact HB.out | apply below_alloc | apply pw_below_drewN | apply below_drew1) | exact HB.out))) : w.heap.size ≤ gb101)); have n3_ := Aside0.mk ((by rw [hg]; exact (below_size (by repeat (first | (with_reducible first | exact HB.out | apply below_alloc | apply pw_below_drewN | apply below_drew1) | exact HB.out))) : w.heap.size ≤ gb101)); clear HB; have HB := n0_; have BK101 := n1_; have GW101 := n2_; have GE101 := n3_; clear n0_ n1_ n2_ n3_; clear hb hbox hg; have hcz4_0 : w3.cell? ⟨gb101, 0, none⟩ = some (.slice A0_0 l0_0.length c0_0) := (blk_cell BK101.out 0).trans rfl; have hcz4_1 : w3.cell? ⟨gb101, 1, none⟩ = some (.int .i64 a0_1) := (blk_cell BK101.out 1).trans rfl; have hcz4_2 : w3.cell? ⟨gb101, 2, none⟩ = some (.int .i64 a0_2) := (blk_cell BK101.out 2).trans rfl; have hfz4_0 := blk_frozen BK101.out 0; have hfz4_1 := blk_frozen BK101.out 1; have hfz4_2 := blk_frozen BK101.out 2)))
  (try simp only [Act.put, List.setIfInBounds_toArray, List.set_cons_zero, List.set_cons_succ])
  go_cut [34] (fun v34 wc => ∃ (kq : Nat) (x34_1 : Bool), v34 = .bool x34_1 ∧ Aside0 (icehouseref09_Check.j0 kq (l0_0.length : Int) x34_1 l0_0 a0_1 a0_2 = some r) ∧ Aside0 (kq ≤ k) ∧ Aside0 (wc.heap[gb101]? = some (.cells #[(.slice A0_0 l0_0.length c0_0), .int .i64 a0_1, .int .i64 a0_2] 32 (0, 0))) ∧ Aside0 (Below w.heap.size w wc))
  case first =>
    have H := HC2.out
    clear HC2
    by_cases c5 : (l0_0.length : Int) < 1
    · rw [if_pos c5] at H
      have c5b0 : decide ((l0_0.length : Int) < 1) = true := decide_eq_true c5
      have c5b1 : decide (l0_0.length < 1) = true := decide_eq_true (by omega)
      clear c5
      (first | rw [c5b0] | (simp only [i64_w, i32_w]; rw [c5b0]) | skip)
      have H' := Aside0.mk H
      clear H
      go_wp2
      repeat (go_quiet (fail); try go_wp2)
      go_meet
      case rel => exact ⟨_, (true), (by first | rfl | (simp; done) | (simp [*]; done)), H', ⟨by first | omega | exact Nat.le_refl _⟩, ⟨by (with_reducible repeat (first | refine blk_drewN ?_ _ | refine blk_drew ?_ | refine blk_alloc ?_ _)); exact BK101.out⟩, ⟨by repeat (first | (with_reducible first | exact HB.out | apply below_alloc | apply pw_below_drewN | apply below_drew1 | refine below_set ?_ GE101.out) | exact HB.out)⟩⟩
    · rw [if_neg c5] at H
      have c5b0 : decide ((l0_0.length : Int) < 1) = false := decide_eq_false c5
      have c5b1 : decide (l0_0.length < 1) = false := decide_eq_false (by omega)
      clear c5
      (first | rw [c5b0] | (simp only [i64_w, i32_w]; rw [c5b0]) | skip)
      by_cases c6 : (l0_0.length : Int) > 64
      · rw [if_pos c6] at H
        have c6b0 : decide (64 < (l0_0.length : Int)) = true := decide_eq_true c6
        have c6b1 : decide (64 < l0_0.length) = true := decide_eq_true (by omega)
        clear c6
        have H' := Aside0.mk H
        clear H
        go_wp2
        repeat (go_quiet (fail); try go_wp2)
        go_meet
        case rel => exact ⟨_, (true), (by first | rfl | (simp; done) | (simp [*]; done)), H', ⟨by first | omega | exact Nat.le_refl _⟩, ⟨by (with_reducible repeat (first | refine blk_drewN ?_ _ | refine blk_drew ?_ | refine blk_alloc ?_ _)); exact BK101.out⟩, ⟨by repeat (first | (with_reducible first | exact HB.out | apply below_alloc | apply pw_below_drewN | apply below_drew1 | refine below_set ?_ GE101.out) | exact HB.out)⟩⟩
      · rw [if_neg c6] at H
        have c6b0 : decide (64 < (l0_0.length : Int)) = false := decide_eq_false c6
        have c6b1 : decide (64 < l0_0.length) = false := decide_eq_false (by omega)
        clear c6
        by_cases c7 : a0_1 < 1
        · rw [if_pos c7] at H
          have c7b0 : decide (a0_1 < 1) = true := decide_eq_true c7
          clear c7
          have H' := Aside0.mk H
          clear H
          have hcz8_0 : w3.cell? ⟨gb101, 0, none⟩ = some (.slice A0_0 l0_0.length c0_0) := (blk_cell BK101.out 0).trans rfl
          have hcz8_1 : w3.cell? ⟨gb101, 1, none⟩ = some (.int .i64 a0_1) := (blk_cell BK101.out 1).trans rfl
          have hcz8_2 : w3.cell? ⟨gb101, 2, none⟩ = some (.int .i64 a0_2) := (blk_cell BK101.out 2).trans rfl
          have hfz8_0 := blk_frozen BK101.out 0
          have hfz8_1 := blk_frozen BK101.out 1
          have hfz8_2 := blk_frozen BK101.out 2
          go_wp2
          repeat (go_quiet (fail); try go_wp2)
          go_meet
          case rel => exact ⟨_, (true), (by first | rfl | (simp; done) | (simp [*]; done)), H', ⟨by first | omega | exact Nat.le_refl _⟩, ⟨by (with_reducible repeat (first | refine blk_drewN ?_ _ | refine blk_drew ?_ | refine blk_alloc ?_ _)); exact BK101.out⟩, ⟨by repeat (first | (with_reducible first | exact HB.out | apply below_alloc | apply pw_below_drewN | apply below_drew1 | refine below_set ?_ GE101.out) | exact HB.out)⟩⟩
        · rw [if_neg c7] at H
          have c7b0 : decide (a0_1 < 1) = false := decide_eq_false c7
          clear c7
          by_cases c9 : a0_1 > 64
          · rw [if_pos c9] at H
            have c9b0 : decide (64 < a0_1) = true := decide_eq_true c9
            clear c9
            have H' := Aside0.mk H
            clear H
            have hcz10_0 : w3.cell? ⟨gb101, 0, none⟩ = some (.slice A0_0 l0_0.length c0_0) := (blk_cell BK101.out 0).trans rfl
            have hcz10_1 : w3.cell? ⟨gb101, 1, none⟩ = some (.int .i64 a0_1) := (blk_cell BK101.out 1).trans rfl
            have hcz10_2 : w3.cell? ⟨gb101, 2, none⟩ = some (.int .i64 a0_2) := (blk_cell BK101.out 2).trans rfl
            have hfz10_0 := blk_frozen BK101.out 0
            have hfz10_1 := blk_frozen BK101.out 1
            have hfz10_2 := blk_frozen BK101.out 2
            go_wp2
            repeat (go_quiet (fail); try go_wp2)
            go_meet
            case rel => exact ⟨_, (true), (by first | rfl | (simp; done) | (simp [*]; done)), H', ⟨by first | omega | exact Nat.le_refl _⟩, ⟨by (with_reducible repeat (first | refine blk_drewN ?_ _ | refine blk_drew ?_ | refine blk_alloc ?_ _)); exact BK101.out⟩, ⟨by repeat (first | (with_reducible first | exact HB.out | apply below_alloc | apply pw_below_drewN | apply below_drew1 | refine below_set ?_ GE101.out) | exact HB.out)⟩⟩
          · rw [if_neg c9] at H
            have c9b0 : decide (64 < a0_1) = false := decide_eq_false c9
            clear c9
            by_cases c11 : a0_2 < 1
            · rw [if_pos c11] at H
              have c11b0 : decide (a0_2 < 1) = true := decide_eq_true c11
              clear c11
              have H' := Aside0.mk H
              clear H
              have hcz12_0 : w3.cell? ⟨gb101, 0, none⟩ = some (.slice A0_0 l0_0.length c0_0) := (blk_cell BK101.out 0).trans rfl
              have hcz12_1 : w3.cell? ⟨gb101, 1, none⟩ = some (.int .i64 a0_1) := (blk_cell BK101.out 1).trans rfl
              have hcz12_2 : w3.cell? ⟨gb101, 2, none⟩ = some (.int .i64 a0_2) := (blk_cell BK101.out 2).trans rfl
              have hfz12_0 := blk_frozen BK101.out 0
              have hfz12_1 := blk_frozen BK101.out 1
              have hfz12_2 := blk_frozen BK101.out 2
              go_wp2
              repeat (go_quiet (fail); try go_wp2)
              go_meet
              case rel => exact ⟨_, (true), (by first | rfl | (simp; done) | (simp [*]; done)), H', ⟨by first | omega | exact Nat.le_refl _⟩, ⟨by (with_reducible repeat (first | refine blk_drewN ?_ _ | refine blk_drew ?_ | refine blk_alloc ?_ _)); exact BK101.out⟩, ⟨by repeat (first | (with_reducible first | exact HB.out | apply below_alloc | apply pw_below_drewN | apply below_drew1 | refine below_set ?_ GE101.out) | exact HB.out)⟩⟩
            · rw [if_neg c11] at H
              have c11b0 : decide (a0_2 < 1) = false := decide_eq_false c11
              clear c11
              have H' := Aside0.mk H
              clear H
              have hcz13_0 : w3.cell? ⟨gb101, 0, none⟩ = some (.slice A0_0 l0_0.length c0_0) := (blk_cell BK101.out 0).trans rfl
              have hcz13_1 : w3.cell? ⟨gb101, 1, none⟩ = some (.int .i64 a0_1) := (blk_cell BK101.out 1).trans rfl
              have hcz13_2 : w3.cell? ⟨gb101, 2, none⟩ = some (.int .i64 a0_2) := (blk_cell BK101.out 2).trans rfl
              have hfz13_0 := blk_frozen BK101.out 0
              have hfz13_1 := blk_frozen BK101.out 1
              have hfz13_2 := blk_frozen BK101.out 2
              go_wp2
              repeat (go_quiet (fail); try go_wp2)
              go_meet
              case rel => exact ⟨_, (decide (a0_2 > (l0_0.length : Int))), (by first | rfl | (simp; done) | (simp [*]; done)), H', ⟨by first | omega | exact Nat.le_refl _⟩, ⟨by (with_reducible repeat (first | refine blk_drewN ?_ _ | refine blk_drew ?_ | refine blk_alloc ?_ _)); exact BK101.out⟩, ⟨by repeat (first | (with_reducible first | exact HB.out | apply below_alloc | apply pw_below_drewN | apply below_drew1 | refine below_set ?_ GE101.out) | exact HB.out)⟩⟩
  case rest =>
    clear HC2
    try clear c1
    try clear p2
    try clear c4
    try clear c5
    try clear c5b0
    try clear c5b1
    try clear c6
    try clear c6b0
    try clear c6b1
    try clear c7
    try clear c7b0
    try clear c9
    try clear c9b0
    try clear c11
    try clear c11b0
    try clear hcz10_0
    try clear hcz10_1
    try clear hcz10_2
    try clear hcz12_0
    try clear hcz12_1
    try clear hcz12_2
    try clear hcz13_0
    try clear hcz13_1
    try clear hcz13_2
    try clear hcz4_0
    try clear hcz4_1
    try clear hcz4_2
    try clear hcz8_0
    try clear hcz8_1
    try clear hcz8_2
    try clear hfz10_0
    try clear hfz10_1
    try clear hfz10_2
    try clear hfz12_0
    try clear hfz12_1
    try clear hfz12_2
    try clear hfz13_0
    try clear hfz13_1
    try clear hfz13_2
    try clear hfz4_0
    try clear hfz4_1
    try clear hfz4_2
    try clear hfz8_0
    try clear hfz8_1
    try clear hfz8_2
    obtain ⟨kq, x34_1, rfl, HA, HJ1, BK101, HB⟩ := hcut
    cases kq with
    | zero => exact absurd HA.out (by simp [icehouseref09_Check.j0])
    | succ kj1 =>
      have H := HA.out
      clear HA
      simp only [icehouseref09_Check.j0] at H
      by_cases c14 : x34_1 = true
      · subst c14
        have H1 : (some 2) = some r := by rw [if_pos rfl] at H; exact H
        clear H
        have H := H1
        clear H1
        obtain rfl := Option.some.inj H
        go_wp2
        repeat (go_quiet (fail); try go_wp2)
        go_ret
        exact ⟨by first | rfl | (simp [errW_none, errW_some] <;> rfl) | (simp [*, errW_none, errW_some] <;> rfl), by repeat (first | (with_reducible first | exact HB.out | apply below_alloc | apply pw_below_drewN | apply below_drew1 | refine below_set ?_ GE101.out) | exact HB.out)⟩
      · replace c14 := Bool.eq_false_iff.mpr c14
        subst c14
        have H1 : (icehouseref09_Check.l0 kj1 (l0_0.length : Int) 0 l0_0 a0_1 a0_2) = some r := by rw [if_neg (show ¬ (false = true) by decide)] at H; exact H
        clear H
        have H := H1
        clear H1
        have H' := Aside0.mk H
        clear H
        go_wp2
        repeat (go_quiet (fail); try go_wp2)
        go_loopg [4] kj1 (fun kq v4 w' => ∃ (x4_2 : Int), v4 = .int .i64 x4_2 ∧ Aside0 (icehouseref09_Check.l0 kq (l0_0.length : Int) x4_2 l0_0 a0_1 a0_2 = some r) ∧ Aside0 (kq ≤ kj1) ∧ Aside0 (w'.heap[gb101]? = some (.cells #[(.slice A0_0 l0_0.length c0_0), .int .i64 a0_1, .int .i64 a0_2] 32 (0, 0))) ∧ Aside0 (Below w.heap.size w w'))
        case atStart => exact ⟨(0), (by first | rfl | (simp; done) | (simp [*]; done)), H', ⟨Nat.le_refl _⟩, ⟨by (with_reducible repeat (first | refine blk_drewN ?_ _ | refine blk_drew ?_ | refine blk_alloc ?_ _)); exact BK101.out⟩, ⟨by repeat (first | (with_reducible first | exact HB.out | apply below_alloc | apply pw_below_drewN | apply below_drew1 | refine below_set ?_ GE101.out) | exact HB.out)⟩⟩
        case round =>
          clear H'
          try clear c1
          try clear p2
          try clear c4
          try clear c5
          try clear c5b0
          try clear c5b1
          try clear c6
          try clear c6b0
          try clear c6b1
          try clear c7
          try clear c7b0
          try clear c9
          try clear c9b0
          try clear c11
          try clear c11b0
          try clear c14
          try clear hcz10_0
          try clear hcz10_1
          try clear hcz10_2
          try clear hcz12_0
          try clear hcz12_1
          try clear hcz12_2
          try clear hcz13_0
          try clear hcz13_1
          try clear hcz13_2
          try clear hcz4_0
          try clear hcz4_1
          try clear hcz4_2
          try clear hcz8_0
          try clear hcz8_1
          try clear hcz8_2
          try clear hfz10_0
          try clear hfz10_1
          try clear hfz10_2
          try clear hfz12_0
          try clear hfz12_1
          try clear hfz12_2
          try clear hfz13_0
          try clear hfz13_1
          try clear hfz13_2
          try clear hfz4_0
          try clear hfz4_1
          try clear hfz4_2
          try clear hfz8_0
          try clear hfz8_1
          try clear hfz8_2
          try clear p2
          obtain ⟨x4_2, rfl, HA, HK2, BK101, HB⟩ := hrel
          cases gk with
          | zero => exact absurd HA.out (by simp [icehouseref09_Check.l0])
          | succ k2 =>
            have H := HA.out
            clear HA
            simp only [icehouseref09_Check.l0] at H
            by_cases c15 : x4_2 < (l0_0.length : Int)
            · rw [if_pos c15] at H
              have c15b0 : decide (x4_2 < (l0_0.length : Int)) = true := decide_eq_true c15
              clear c15
              by_cases c16 : 0 ≤ x4_2
              · rw [if_pos c16] at H
                have c16b0 : decide (0 ≤ x4_2) = true := decide_eq_true c16
                clear c16
                by_cases c17 : x4_2 < (l0_0.length : Int)
                · rw [if_pos c17] at H
                  have c17b0 : decide (x4_2 < (l0_0.length : Int)) = true := decide_eq_true c17
                  clear c17
                  by_cases c18 : (rd l0_0 x4_2) < 0
                  · rw [if_pos c18] at H
                    have c18b0 : decide ((rd l0_0 x4_2) < 0) = true := decide_eq_true c18
                    clear c18
                    obtain rfl := Option.some.inj H
                    have hcz19_0 : wr.cell? ⟨gb101, 0, none⟩ = some (.slice A0_0 l0_0.length c0_0) := (blk_cell BK101.out 0).trans rfl
                    have hcz19_1 : wr.cell? ⟨gb101, 1, none⟩ = some (.int .i64 a0_1) := (blk_cell BK101.out 1).trans rfl
                    have hcz19_2 : wr.cell? ⟨gb101, 2, none⟩ = some (.int .i64 a0_2) := (blk_cell BK101.out 2).trans rfl
                    have hfz19_0 := blk_frozen BK101.out 0
                    have hfz19_1 := blk_frozen BK101.out 1
                    have hfz19_2 := blk_frozen BK101.out 2
                    have p102 : 0 ≤ (x4_2 : Int) := of_decide_eq_true (by first | (with_reducible assumption) | assumption)
                    have q102 : x4_2 < (l0_0.length : Int) := of_decide_eq_true (by first | (with_reducible assumption) | assumption)
                    obtain ⟨ad102, e102, hx102_0⟩ := Kd.at_int HR0_0.out x4_2 p102 q102
                    cases e102
                    replace hx102_0 := (HB.out.cell (World.block_lt_of_cell? w _ hx102_0)).trans hx102_0
                    replace p102 := eq_true p102
                    replace q102 := eq_true q102
                    go_wp2
                    repeat (go_quiet (fail); try go_wp2)
                    go_ret
                    exact ⟨by first | rfl | (simp [errW_none, errW_some] <;> rfl) | (simp [*, errW_none, errW_some] <;> rfl), by repeat (first | (with_reducible first | exact HB.out | apply below_alloc | apply pw_below_drewN | apply below_drew1 | refine below_set ?_ GE101.out) | exact HB.out)⟩
                  · rw [if_neg c18] at H
                    have c18b0 : decide ((rd l0_0 x4_2) < 0) = false := decide_eq_false c18
                    clear c18
                    by_cases c20 : (rd l0_0 x4_2) > 1048575
                    · rw [if_pos c20] at H
                      have c20b0 : decide (1048575 < (rd l0_0 x4_2)) = true := decide_eq_true c20
                      clear c20
                      obtain rfl := Option.some.inj H
                      have hcz21_0 : wr.cell? ⟨gb101, 0, none⟩ = some (.slice A0_0 l0_0.length c0_0) := (blk_cell BK101.out 0).trans rfl
                      have hcz21_1 : wr.cell? ⟨gb101, 1, none⟩ = some (.int .i64 a0_1) := (blk_cell BK101.out 1).trans rfl
                      have hcz21_2 : wr.cell? ⟨gb101, 2, none⟩ = some (.int .i64 a0_2) := (blk_cell BK101.out 2).trans rfl
                      have hfz21_0 := blk_frozen BK101.out 0
                      have hfz21_1 := blk_frozen BK101.out 1
                      have hfz21_2 := blk_frozen BK101.out 2
                      have p102 : 0 ≤ (x4_2 : Int) := of_decide_eq_true (by first | (with_reducible assumption) | assumption)
                      have q102 : x4_2 < (l0_0.length : Int) := of_decide_eq_true (by first | (with_reducible assumption) | assumption)
                      obtain ⟨ad102, e102, hx102_0⟩ := Kd.at_int HR0_0.out x4_2 p102 q102
                      cases e102
                      replace hx102_0 := (HB.out.cell (World.block_lt_of_cell? w _ hx102_0)).trans hx102_0
                      replace p102 := eq_true p102
                      replace q102 := eq_true q102
                      have p103 : 0 ≤ (x4_2 : Int) := of_decide_eq_true (by first | (with_reducible assumption) | assumption)
                      have q103 : x4_2 < (l0_0.length : Int) := of_decide_eq_true (by first | (with_reducible assumption) | assumption)
                      obtain ⟨ad103, e103, hx103_0⟩ := Kd.at_int HR0_0.out x4_2 p103 q103
                      obtain rfl : ad102 = ad103 := (by injection e103)
                      replace hx103_0 := (HB.out.cell (World.block_lt_of_cell? w _ hx103_0)).trans hx103_0
                      replace p103 := eq_true p103
                      replace q103 := eq_true q103
                      go_wp2
                      repeat (go_quiet (fail); try go_wp2)
                      go_ret
                      exact ⟨by first | rfl | (simp [errW_none, errW_some] <;> rfl) | (simp [*, errW_none, errW_some] <;> rfl), by repeat (first | (with_reducible first | exact HB.out | apply below_alloc | apply pw_below_drewN | apply below_drew1 | refine below_set ?_ GE101.out) | exact HB.out)⟩
                    · rw [if_neg c20] at H
                      have c20b0 : decide (1048575 < (rd l0_0 x4_2)) = false := decide_eq_false c20
                      clear c20
                      by_cases c22 : x4_2 > 0
                      · rw [if_pos c22] at H
                        have c22b0 : decide (0 < x4_2) = true := decide_eq_true c22
                        clear c22
                        obtain ⟨ji23, hji23⟩ : ∃ j_ : Int, (wrap64 (x4_2 - 1)) = j_ := ⟨_, rfl⟩
                        replace H : (if 0 ≤ (ji23) then (if (ji23) < (l0_0.length : Int) then (if (rd l0_0 x4_2) ≤ (rd l0_0 (ji23)) then (some 2) else (icehouseref09_Check.l0 k2 (l0_0.length : Int) (wrap64 (x4_2 + 1)) l0_0 a0_1 a0_2)) else (none)) else (none)) = some r := by first | (rw [hji23] at H; exact H) | (simp only [hji23] at H ⊢; exact H)
                        have hji23w : (IntKind.i64.wrap (x4_2 - 1)) = ji23 := (i64_w _).trans hji23
                        by_cases c24 : 0 ≤ (ji23)
                        · rw [if_pos c24] at H
                          have c24b0 : decide (0 ≤ (ji23)) = true := decide_eq_true c24
                          clear c24
                          by_cases c25 : (ji23) < (l0_0.length : Int)
                          · rw [if_pos c25] at H
                            have c25b0 : decide ((ji23) < (l0_0.length : Int)) = true := decide_eq_true c25
                            clear c25
                            by_cases c26 : (rd l0_0 x4_2) ≤ (rd l0_0 (ji23))
                            · rw [if_pos c26] at H
                              have c26b0 : decide ((rd l0_0 x4_2) ≤ (rd l0_0 (ji23))) = true := decide_eq_true c26
                              clear c26
                              obtain rfl := Option.some.inj H
                              have hcz27_0 : wr.cell? ⟨gb101, 0, none⟩ = some (.slice A0_0 l0_0.length c0_0) := (blk_cell BK101.out 0).trans rfl
                              have hcz27_1 : wr.cell? ⟨gb101, 1, none⟩ = some (.int .i64 a0_1) := (blk_cell BK101.out 1).trans rfl
                              have hcz27_2 : wr.cell? ⟨gb101, 2, none⟩ = some (.int .i64 a0_2) := (blk_cell BK101.out 2).trans rfl
                              have hfz27_0 := blk_frozen BK101.out 0
                              have hfz27_1 := blk_frozen BK101.out 1
                              have hfz27_2 := blk_frozen BK101.out 2
                              have p102 : 0 ≤ (x4_2 : Int) := of_decide_eq_true (by first | (with_reducible assumption) | assumption)
                              have q102 : x4_2 < (l0_0.length : Int) := of_decide_eq_true (by first | (with_reducible assumption) | assumption)
                              obtain ⟨ad102, e102, hx102_0⟩ := Kd.at_int HR0_0.out x4_2 p102 q102
                              cases e102
                              replace hx102_0 := (HB.out.cell (World.block_lt_of_cell? w _ hx102_0)).trans hx102_0
                              replace p102 := eq_true p102
                              replace q102 := eq_true q102
                              have p103 : 0 ≤ (x4_2 : Int) := of_decide_eq_true (by first | (with_reducible assumption) | assumption)
                              have q103 : x4_2 < (l0_0.length : Int) := of_decide_eq_true (by first | (with_reducible assumption) | assumption)
                              obtain ⟨ad103, e103, hx103_0⟩ := Kd.at_int HR0_0.out x4_2 p103 q103
                              obtain rfl : ad102 = ad103 := (by injection e103)
                              replace hx103_0 := (HB.out.cell (World.block_lt_of_cell? w _ hx103_0)).trans hx103_0
                              replace p103 := eq_true p103
                              replace q103 := eq_true q103
                              have p104 : 0 ≤ (x4_2 : Int) := of_decide_eq_true (by first | (with_reducible assumption) | assumption)
                              have q104 : x4_2 < (l0_0.length : Int) := of_decide_eq_true (by first | (with_reducible assumption) | assumption)
                              obtain ⟨ad104, e104, hx104_0⟩ := Kd.at_int HR0_0.out x4_2 p104 q104
                              obtain rfl : ad102 = ad104 := (by injection e104)
                              replace hx104_0 := (HB.out.cell (World.block_lt_of_cell? w _ hx104_0)).trans hx104_0
                              replace p104 := eq_true p104
                              replace q104 := eq_true q104
                              have p105 : 0 ≤ ((ji23) : Int) := of_decide_eq_true (by first | (with_reducible assumption) | assumption)
                              have q105 : (ji23) < (l0_0.length : Int) := of_decide_eq_true (by first | (with_reducible assumption) | assumption)
                              obtain ⟨ad105, e105, hx105_0⟩ := Kd.at_int HR0_0.out (ji23) p105 q105
                              obtain rfl : ad102 = ad105 := (by injection e105)
                              replace hx105_0 := (HB.out.cell (World.block_lt_of_cell? w _ hx105_0)).trans hx105_0
                              replace p105 := eq_true p105
                              replace q105 := eq_true q105
                              go_wp2
                              repeat (go_quiet (fail); try go_wp2)
                              go_ret
                              exact ⟨by first | rfl | (simp [errW_none, errW_some] <;> rfl) | (simp only [← hji23]; first | rfl | (simp [errW_none, errW_some] <;> rfl)) | (simp [*, errW_none, errW_some] <;> rfl), by repeat (first | (with_reducible first | exact HB.out | apply below_alloc | apply pw_below_drewN | apply below_drew1 | refine below_set ?_ GE101.out) | exact HB.out)⟩
                            · rw [if_neg c26] at H
                              have c26b0 : decide ((rd l0_0 x4_2) ≤ (rd l0_0 (ji23))) = false := decide_eq_false c26
                              clear c26
                              have H' := Aside0.mk H
                              clear H
                              have hcz28_0 : wr.cell? ⟨gb101, 0, none⟩ = some (.slice A0_0 l0_0.length c0_0) := (blk_cell BK101.out 0).trans rfl
                              have hcz28_1 : wr.cell? ⟨gb101, 1, none⟩ = some (.int .i64 a0_1) := (blk_cell BK101.out 1).trans rfl
                              have hcz28_2 : wr.cell? ⟨gb101, 2, none⟩ = some (.int .i64 a0_2) := (blk_cell BK101.out 2).trans rfl
                              have hfz28_0 := blk_frozen BK101.out 0
                              have hfz28_1 := blk_frozen BK101.out 1
                              have hfz28_2 := blk_frozen BK101.out 2
                              have p102 : 0 ≤ (x4_2 : Int) := of_decide_eq_true (by first | (with_reducible assumption) | assumption)
                              have q102 : x4_2 < (l0_0.length : Int) := of_decide_eq_true (by first | (with_reducible assumption) | assumption)
                              obtain ⟨ad102, e102, hx102_0⟩ := Kd.at_int HR0_0.out x4_2 p102 q102
                              cases e102
                              replace hx102_0 := (HB.out.cell (World.block_lt_of_cell? w _ hx102_0)).trans hx102_0
                              replace p102 := eq_true p102
                              replace q102 := eq_true q102
                              have p103 : 0 ≤ (x4_2 : Int) := of_decide_eq_true (by first | (with_reducible assumption) | assumption)
                              have q103 : x4_2 < (l0_0.length : Int) := of_decide_eq_true (by first | (with_reducible assumption) | assumption)
                              obtain ⟨ad103, e103, hx103_0⟩ := Kd.at_int HR0_0.out x4_2 p103 q103
                              obtain rfl : ad102 = ad103 := (by injection e103)
                              replace hx103_0 := (HB.out.cell (World.block_lt_of_cell? w _ hx103_0)).trans hx103_0
                              replace p103 := eq_true p103
                              replace q103 := eq_true q103
                              have p104 : 0 ≤ (x4_2 : Int) := of_decide_eq_true (by first | (with_reducible assumption) | assumption)
                              have q104 : x4_2 < (l0_0.length : Int) := of_decide_eq_true (by first | (with_reducible assumption) | assumption)
                              obtain ⟨ad104, e104, hx104_0⟩ := Kd.at_int HR0_0.out x4_2 p104 q104
                              obtain rfl : ad102 = ad104 := (by injection e104)
                              replace hx104_0 := (HB.out.cell (World.block_lt_of_cell? w _ hx104_0)).trans hx104_0
                              replace p104 := eq_true p104
                              replace q104 := eq_true q104
                              have p105 : 0 ≤ ((ji23) : Int) := of_decide_eq_true (by first | (with_reducible assumption) | assumption)
                              have q105 : (ji23) < (l0_0.length : Int) := of_decide_eq_true (by first | (with_reducible assumption) | assumption)
                              obtain ⟨ad105, e105, hx105_0⟩ := Kd.at_int HR0_0.out (ji23) p105 q105
                              obtain rfl : ad102 = ad105 := (by injection e105)
                              replace hx105_0 := (HB.out.cell (World.block_lt_of_cell? w _ hx105_0)).trans hx105_0
                              replace p105 := eq_true p105
                              replace q105 := eq_true q105
                              go_wp2
                              repeat (go_quiet (fail); try go_wp2)
                              go_roundg k2
                              case measure => have := HJ1.out; have := HK2.out; omega
                              case rel => exact ⟨(wrap64 (x4_2 + 1)), (by first | rfl | (simp; done) | (simp [*]; done)), H', ⟨by have := HJ1.out; have := HK2.out; omega⟩, ⟨by (with_reducible repeat (first | refine blk_drewN ?_ _ | refine blk_drew ?_ | refine blk_alloc ?_ _)); exact BK101.out⟩, ⟨by repeat (first | (with_reducible first | exact HB.out | apply below_alloc | apply pw_below_drewN | apply below_drew1 | refine below_set ?_ GE101.out) | exact HB.out)⟩⟩
                          · rw [if_neg c25] at H
                            exact absurd H (by simp)
                        · rw [if_neg c24] at H
                          exact absurd H (by simp)
                      · rw [if_neg c22] at H
                        have c22b0 : decide (0 < x4_2) = false := decide_eq_false c22
                        clear c22
                        have H' := Aside0.mk H
                        clear H
                        have hcz29_0 : wr.cell? ⟨gb101, 0, none⟩ = some (.slice A0_0 l0_0.length c0_0) := (blk_cell BK101.out 0).trans rfl
                        have hcz29_1 : wr.cell? ⟨gb101, 1, none⟩ = some (.int .i64 a0_1) := (blk_cell BK101.out 1).trans rfl
                        have hcz29_2 : wr.cell? ⟨gb101, 2, none⟩ = some (.int .i64 a0_2) := (blk_cell BK101.out 2).trans rfl
                        have hfz29_0 := blk_frozen BK101.out 0
                        have hfz29_1 := blk_frozen BK101.out 1
                        have hfz29_2 := blk_frozen BK101.out 2
                        have p102 : 0 ≤ (x4_2 : Int) := of_decide_eq_true (by first | (with_reducible assumption) | assumption)
                        have q102 : x4_2 < (l0_0.length : Int) := of_decide_eq_true (by first | (with_reducible assumption) | assumption)
                        obtain ⟨ad102, e102, hx102_0⟩ := Kd.at_int HR0_0.out x4_2 p102 q102
                        cases e102
                        replace hx102_0 := (HB.out.cell (World.block_lt_of_cell? w _ hx102_0)).trans hx102_0
                        replace p102 := eq_true p102
                        replace q102 := eq_true q102
                        have p103 : 0 ≤ (x4_2 : Int) := of_decide_eq_true (by first | (with_reducible assumption) | assumption)
                        have q103 : x4_2 < (l0_0.length : Int) := of_decide_eq_true (by first | (with_reducible assumption) | assumption)
                        obtain ⟨ad103, e103, hx103_0⟩ := Kd.at_int HR0_0.out x4_2 p103 q103
                        obtain rfl : ad102 = ad103 := (by injection e103)
                        replace hx103_0 := (HB.out.cell (World.block_lt_of_cell? w _ hx103_0)).trans hx103_0
                        replace p103 := eq_true p103
                        replace q103 := eq_true q103
                        go_wp2
                        repeat (go_quiet (fail); try go_wp2)
                        go_roundg k2
                        case measure => have := HJ1.out; have := HK2.out; omega
                        case rel => exact ⟨(wrap64 (x4_2 + 1)), (by first | rfl | (simp; done) | (simp [*]; done)), H', ⟨by have := HJ1.out; have := HK2.out; omega⟩, ⟨by (with_reducible repeat (first | refine blk_drewN ?_ _ | refine blk_drew ?_ | refine blk_alloc ?_ _)); exact BK101.out⟩, ⟨by repeat (first | (with_reducible first | exact HB.out | apply below_alloc | apply pw_below_drewN | apply below_drew1 | refine below_set ?_ GE101.out) | exact HB.out)⟩⟩
                · rw [if_neg c17] at H
                  exact absurd H (by simp)
              · rw [if_neg c16] at H
                exact absurd H (by simp)
            · rw [if_neg c15] at H
              have c15b0 : decide (x4_2 < (l0_0.length : Int)) = false := decide_eq_false c15
              clear c15
              obtain rfl := Option.some.inj H
              go_wp2
              repeat (go_quiet (fail); try go_wp2)
              go_ret
              exact ⟨by first | rfl | (simp [errW_none, errW_some] <;> rfl) | (simp [*, errW_none, errW_some] <;> rfl), by repeat (first | (with_reducible first | exact HB.out | apply below_alloc | apply pw_below_drewN | apply below_drew1 | refine below_set ?_ GE101.out) | exact HB.out)⟩
end Go.Proofs.YthaoiamgkpkcbaaDoor.QK
namespace Go.Proofs.YthaoiamgkpkcbaaDoor.QK
open Go.RowKit Go.Proofs.YthaoiamgkpkcbaaDoorW.PrintWords Go.Proofs.YthaoiamgkpkcbaaDoorW.PrintLast Go.Proofs.YthaoiamgkpkcbaaDoorW.PrintMore
attribute [local go_sem] max2_int min2_int max_two min_two max_three min_three max_four min_four   -- for this text's walks alone
set_option linter.unusedVariables false
set_option linter.unusedSimpArgs false
end Go.Proofs.YthaoiamgkpkcbaaDoor.QK
