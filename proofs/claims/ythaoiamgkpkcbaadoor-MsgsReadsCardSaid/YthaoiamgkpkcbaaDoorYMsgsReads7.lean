/- Written by a program of this session over the kit's print: functions and their contracts. -/
import Derived.Test.YthaoiamgkpkcbaaDoorYMsgsReads6

namespace Go.Proofs.YthaoiamgkpkcbaaDoor.QR
open Go.RowKit Go.Proofs.YthaoiamgkpkcbaaDoorW.PrintWords Go.Proofs.YthaoiamgkpkcbaaDoorW.PrintLast Go.Proofs.YthaoiamgkpkcbaaDoorW.PrintMore
attribute [local go_sem] max2_int min2_int max_two min_two max_three min_three max_four min_four   -- for this text's walks alone
set_option linter.unusedVariables false
set_option linter.unusedSimpArgs false
attribute [local go_sem high] eqA23
/-! ### icehouseref03_Right: function 43 -/
def icehouseref03_Right.j0 : Nat → Bool → ByteArray → Int → Int → Int → Bool → List Int → Option (Int)
  | 0, _, _, _, _, _, _, _ => none
  | k + 1, x32, x115000, x115001, x115002, x115003, x115004, x115005 => if x32 = true then (some 2) else ((icehouseref03_Check.f k x115001 x115002 x115003).bind fun t115 => (if t115 = 0 then (if x115001 = 0 then (if x115004 = true then (some 2) else (some 0)) else (some 0)) else (some 2)))
def icehouseref03_Right.f (k : Nat) (a0_0 : ByteArray) (a0_1 : Int) (a0_2 : Int) (a0_3 : Int) (a0_4 : Bool) (l0_5 : List Int) : Option (Int) := if (a0_0.size : Int) < 1 then (icehouseref03_Right.j0 k true a0_0 a0_1 a0_2 a0_3 a0_4 l0_5) else (if (a0_0.size : Int) > 250 then (icehouseref03_Right.j0 k true a0_0 a0_1 a0_2 a0_3 a0_4 l0_5) else (if (l0_5.length : Int) > 60000 then (icehouseref03_Right.j0 k true a0_0 a0_1 a0_2 a0_3 a0_4 l0_5) else (if a0_4 = true then (icehouseref03_Right.j0 k false a0_0 a0_1 a0_2 a0_3 a0_4 l0_5) else (icehouseref03_Right.j0 k (decide ((l0_5.length : Int) > 0)) a0_0 a0_1 a0_2 a0_3 a0_4 l0_5))))
set_option maxHeartbeats 8000000 in
set_option maxRecDepth 100000 in
theorem icehouseref03_Right.calls (k : Nat) (a0_0 : ByteArray) (a0_1 : Int) (a0_2 : Int) (a0_3 : Int) (a0_4 : Bool) (A0_5 : Option Addr) (c0_5 : Nat) (l0_5 : List Int) (r : Int) (w : World) (hr0_5 : Kd.C (Kd.int .u8) w A0_5 l0_5.length l0_5) (hc0_5 : l0_5.length ≤ c0_5) (h : icehouseref03_Right.f k a0_0 a0_1 a0_2 a0_3 a0_4 l0_5 = some r) :
    Calls Tryd.prog 43 #[.agg #[.string a0_0, .int .i64 a0_1, .int .i64 a0_2, .int .i64 a0_3, .bool a0_4, .slice A0_5 l0_5.length c0_5]] w fun e w' => e = .returned (.int .i64 r) ∧ Below w.heap.size w w' := by
  have hu28 := Tryd.underlying28
  have hu23 := Tryd.underlying23
  have HR0_5 := Aside0.mk hr0_5
  have HC0_5 := Aside0.mk hc0_5
  clear hr0_5 hc0_5
  have HB := Aside0.mk (Below.refl w.heap.size w)
  have H : (if (a0_0.size : Int) < 1 then (icehouseref03_Right.j0 k true a0_0 a0_1 a0_2 a0_3 a0_4 l0_5) else (if (a0_0.size : Int) > 250 then (icehouseref03_Right.j0 k true a0_0 a0_1 a0_2 a0_3 a0_4 l0_5) else (if (l0_5.length : Int) > 60000 then (icehouseref03_Right.j0 k true a0_0 a0_1 a0_2 a0_3 a0_4 l0_5) else (if a0_4 = true then (icehouseref03_Right.j0 k false a0_0 a0_1 a0_2 a0_3 a0_4 l0_5) else (icehouseref03_Right.j0 k (decide ((l0_5.length : Int) > 0)) a0_0 a0_1 a0_2 a0_3 a0_4 l0_5))))) = some r := h
  clear h
  have HC2 := Aside0.mk H
  clear H
  go_enter Tryd.func43, Tryd.ntmps43
  go_upto_region 1 with (first | ((with_reducible refine gate_dst (N := 1) rfl ?_); (try (refine gate_guard (by rfl) ?_; dsimp only)); refine box_event ?hg (N := 1) ?hd (cs := #[.string a0_0, .int .i64 a0_1, .int .i64 a0_2, .int .i64 a0_3, .bool a0_4, .slice A0_5 l0_5.length c0_5]) (t := 28) ?hr ?_; (case hd => rfl); (case hg => rfl); (case hr => first | (go_simp; done) | (go_simp; rfl)); intro gb114 hg w3 hbox hb; have n0_ := Aside0.mk (below_step (by repeat (first | (with_reducible first | exact HB.out | apply below_alloc | apply pw_below_drewN | apply below_drew1) | exact HB.out)) hb); have n1_ := Aside0.mk (hbox); have n2_ := Aside0.mk ((by rw [hg]; exact (below_size (by repeat (first | (with_reducible first | exact HB.out | apply below_alloc | apply pw_below_drewN | apply below_drew1) | exact HB.out))) : w.heap.size ≤ gb114)); have n3_ := Aside0.mk ((by rw [hg]; exact (below_size (by repeat (first | (with_reducible first | exact HB.out | apply below_alloc | apply pw_below_drewN | apply below_drew1) | exact HB.out))) : w.heap.size ≤ gb114)); clear HB; have HB := n0_; have BK114 := n1_; have GW114 := n2_; have GE114 := n3_; clear n0_ n1_ n2_ n3_; clear hb hbox hg))
  (try simp only [Act.put, List.setIfInBounds_toArray, List.set_cons_zero, List.set_cons_succ])
  go_cut [32] (fun v32 wc => ∃ (kq : Nat) (x32_1 : Bool), v32 = .bool x32_1 ∧ Aside0 (icehouseref03_Right.j0 kq x32_1 a0_0 a0_1 a0_2 a0_3 a0_4 l0_5 = some r) ∧ Aside0 (kq ≤ k) ∧ Aside0 (wc.heap[gb114]? = some (.cells #[.string a0_0, .int .i64 a0_1, .int .i64 a0_2, .int .i64 a0_3, .bool a0_4, (.slice A0_5 l0_5.length c0_5)] 28 (0, 0))) ∧ Aside0 (Below w.heap.size w wc))
  case first =>
    have H := HC2.out
    clear HC2
    by_cases c4 : (a0_0.size : Int) < 1
    · rw [if_pos c4] at H
      have c4b0 : decide ((a0_0.size : Int) < 1) = true := decide_eq_true c4
      have c4b1 : decide (a0_0.size < 1) = true := decide_eq_true (by omega)
      clear c4
      (first | rw [c4b0] | (simp only [i64_w, i32_w]; rw [c4b0]) | skip)
      have H' := Aside0.mk H
      clear H
      have hcz5_0 : w3.cell? ⟨gb114, 0, none⟩ = some (.string a0_0) := (blk_cell BK114.out 0).trans rfl
      have hcz5_1 : w3.cell? ⟨gb114, 1, none⟩ = some (.int .i64 a0_1) := (blk_cell BK114.out 1).trans rfl
      have hcz5_2 : w3.cell? ⟨gb114, 2, none⟩ = some (.int .i64 a0_2) := (blk_cell BK114.out 2).trans rfl
      have hcz5_3 : w3.cell? ⟨gb114, 3, none⟩ = some (.int .i64 a0_3) := (blk_cell BK114.out 3).trans rfl
      have hcz5_4 : w3.cell? ⟨gb114, 4, none⟩ = some (.bool a0_4) := (blk_cell BK114.out 4).trans rfl
      have hcz5_5 : w3.cell? ⟨gb114, 5, none⟩ = some (.slice A0_5 l0_5.length c0_5) := (blk_cell BK114.out 5).trans rfl
      have hfz5_0 := blk_frozen BK114.out 0
      have hfz5_1 := blk_frozen BK114.out 1
      have hfz5_2 := blk_frozen BK114.out 2
      have hfz5_3 := blk_frozen BK114.out 3
      have hfz5_4 := blk_frozen BK114.out 4
      have hfz5_5 := blk_frozen BK114.out 5
      go_wp2
      go_meet
      case rel => exact ⟨_, (true), (by first | rfl | (simp; done) | (simp [*]; done)), H', ⟨by first | omega | exact Nat.le_refl _⟩, ⟨by (with_reducible repeat (first | refine blk_drewN ?_ _ | refine blk_drew ?_ | refine blk_alloc ?_ _)); exact BK114.out⟩, ⟨by repeat (first | (with_reducible first | exact HB.out | apply below_alloc | apply pw_below_drewN | apply below_drew1 | refine below_set ?_ GE114.out) | exact HB.out)⟩⟩
    · rw [if_neg c4] at H
      have c4b0 : decide ((a0_0.size : Int) < 1) = false := decide_eq_false c4
      have c4b1 : decide (a0_0.size < 1) = false := decide_eq_false (by omega)
      clear c4
      (first | rw [c4b0] | (simp only [i64_w, i32_w]; rw [c4b0]) | skip)
      by_cases c6 : (a0_0.size : Int) > 250
      · rw [if_pos c6] at H
        have c6b0 : decide (250 < (a0_0.size : Int)) = true := decide_eq_true c6
        have c6b1 : decide (250 < a0_0.size) = true := decide_eq_true (by omega)
        clear c6
        have H' := Aside0.mk H
        clear H
        have hcz7_0 : w3.cell? ⟨gb114, 0, none⟩ = some (.string a0_0) := (blk_cell BK114.out 0).trans rfl
        have hcz7_1 : w3.cell? ⟨gb114, 1, none⟩ = some (.int .i64 a0_1) := (blk_cell BK114.out 1).trans rfl
        have hcz7_2 : w3.cell? ⟨gb114, 2, none⟩ = some (.int .i64 a0_2) := (blk_cell BK114.out 2).trans rfl
        have hcz7_3 : w3.cell? ⟨gb114, 3, none⟩ = some (.int .i64 a0_3) := (blk_cell BK114.out 3).trans rfl
        have hcz7_4 : w3.cell? ⟨gb114, 4, none⟩ = some (.bool a0_4) := (blk_cell BK114.out 4).trans rfl
        have hcz7_5 : w3.cell? ⟨gb114, 5, none⟩ = some (.slice A0_5 l0_5.length c0_5) := (blk_cell BK114.out 5).trans rfl
        have hfz7_0 := blk_frozen BK114.out 0
        have hfz7_1 := blk_frozen BK114.out 1
        have hfz7_2 := blk_frozen BK114.out 2
        have hfz7_3 := blk_frozen BK114.out 3
        have hfz7_4 := blk_frozen BK114.out 4
        have hfz7_5 := blk_frozen BK114.out 5
        go_wp2
        go_meet
        case rel => exact ⟨_, (true), (by first | rfl | (simp; done) | (simp [*]; done)), H', ⟨by first | omega | exact Nat.le_refl _⟩, ⟨by (with_reducible repeat (first | refine blk_drewN ?_ _ | refine blk_drew ?_ | refine blk_alloc ?_ _)); exact BK114.out⟩, ⟨by repeat (first | (with_reducible first | exact HB.out | apply below_alloc | apply pw_below_drewN | apply below_drew1 | refine below_set ?_ GE114.out) | exact HB.out)⟩⟩
      · rw [if_neg c6] at H
        have c6b0 : decide (250 < (a0_0.size : Int)) = false := decide_eq_false c6
        have c6b1 : decide (250 < a0_0.size) = false := decide_eq_false (by omega)
        clear c6
        by_cases c8 : (l0_5.length : Int) > 60000
        · rw [if_pos c8] at H
          have c8b0 : decide (60000 < (l0_5.length : Int)) = true := decide_eq_true c8
          have c8b1 : decide (60000 < l0_5.length) = true := decide_eq_true (by omega)
          clear c8
          have H' := Aside0.mk H
          clear H
          have hcz9_0 : w3.cell? ⟨gb114, 0, none⟩ = some (.string a0_0) := (blk_cell BK114.out 0).trans rfl
          have hcz9_1 : w3.cell? ⟨gb114, 1, none⟩ = some (.int .i64 a0_1) := (blk_cell BK114.out 1).trans rfl
          have hcz9_2 : w3.cell? ⟨gb114, 2, none⟩ = some (.int .i64 a0_2) := (blk_cell BK114.out 2).trans rfl
          have hcz9_3 : w3.cell? ⟨gb114, 3, none⟩ = some (.int .i64 a0_3) := (blk_cell BK114.out 3).trans rfl
          have hcz9_4 : w3.cell? ⟨gb114, 4, none⟩ = some (.bool a0_4) := (blk_cell BK114.out 4).trans rfl
          have hcz9_5 : w3.cell? ⟨gb114, 5, none⟩ = some (.slice A0_5 l0_5.length c0_5) := (blk_cell BK114.out 5).trans rfl
          have hfz9_0 := blk_frozen BK114.out 0
          have hfz9_1 := blk_frozen BK114.out 1
          have hfz9_2 := blk_frozen BK114.out 2
          have hfz9_3 := blk_frozen BK114.out 3
          have hfz9_4 := blk_frozen BK114.out 4
          have hfz9_5 := blk_frozen BK114.out 5
          go_wp2
          go_meet
          case rel => exact ⟨_, (true), (by first | rfl | (simp; done) | (simp [*]; done)), H', ⟨by first | omega | exact Nat.le_refl _⟩, ⟨by (with_reducible repeat (first | refine blk_drewN ?_ _ | refine blk_drew ?_ | refine blk_alloc ?_ _)); exact BK114.out⟩, ⟨by repeat (first | (with_reducible first | exact HB.out | apply below_alloc | apply pw_below_drewN | apply below_drew1 | refine below_set ?_ GE114.out) | exact HB.out)⟩⟩
        · rw [if_neg c8] at H
          have c8b0 : decide (60000 < (l0_5.length : Int)) = false := decide_eq_false c8
          have c8b1 : decide (60000 < l0_5.length) = false := decide_eq_false (by omega)
          clear c8
          by_cases c10 : a0_4 = true
          · subst c10
            have H1 : (icehouseref03_Right.j0 k false a0_0 a0_1 a0_2 a0_3 true l0_5) = some r := by rw [if_pos rfl] at H; exact H
            clear H
            have H := H1
            clear H1
            have H' := Aside0.mk H
            clear H
            have hcz11_0 : w3.cell? ⟨gb114, 0, none⟩ = some (.string a0_0) := (blk_cell BK114.out 0).trans rfl
            have hcz11_1 : w3.cell? ⟨gb114, 1, none⟩ = some (.int .i64 a0_1) := (blk_cell BK114.out 1).trans rfl
            have hcz11_2 : w3.cell? ⟨gb114, 2, none⟩ = some (.int .i64 a0_2) := (blk_cell BK114.out 2).trans rfl
            have hcz11_3 : w3.cell? ⟨gb114, 3, none⟩ = some (.int .i64 a0_3) := (blk_cell BK114.out 3).trans rfl
            have hcz11_4 : w3.cell? ⟨gb114, 4, none⟩ = some (.bool true) := (blk_cell BK114.out 4).trans rfl
            have hcz11_5 : w3.cell? ⟨gb114, 5, none⟩ = some (.slice A0_5 l0_5.length c0_5) := (blk_cell BK114.out 5).trans rfl
            have hfz11_0 := blk_frozen BK114.out 0
            have hfz11_1 := blk_frozen BK114.out 1
            have hfz11_2 := blk_frozen BK114.out 2
            have hfz11_3 := blk_frozen BK114.out 3
            have hfz11_4 := blk_frozen BK114.out 4
            have hfz11_5 := blk_frozen BK114.out 5
            go_wp2
            go_meet
            case rel => exact ⟨_, (false), (by first | rfl | (simp; done) | (simp [*]; done)), H', ⟨by first | omega | exact Nat.le_refl _⟩, ⟨by (with_reducible repeat (first | refine blk_drewN ?_ _ | refine blk_drew ?_ | refine blk_alloc ?_ _)); exact BK114.out⟩, ⟨by repeat (first | (with_reducible first | exact HB.out | apply below_alloc | apply pw_below_drewN | apply below_drew1 | refine below_set ?_ GE114.out) | exact HB.out)⟩⟩
          · replace c10 := Bool.eq_false_iff.mpr c10
            subst c10
            have H1 : (icehouseref03_Right.j0 k (decide ((l0_5.length : Int) > 0)) a0_0 a0_1 a0_2 a0_3 false l0_5) = some r := by rw [if_neg (show ¬ (false = true) by decide)] at H; exact H
            clear H
            have H := H1
            clear H1
            have H' := Aside0.mk H
            clear H
            have hcz12_0 : w3.cell? ⟨gb114, 0, none⟩ = some (.string a0_0) := (blk_cell BK114.out 0).trans rfl
            have hcz12_1 : w3.cell? ⟨gb114, 1, none⟩ = some (.int .i64 a0_1) := (blk_cell BK114.out 1).trans rfl
            have hcz12_2 : w3.cell? ⟨gb114, 2, none⟩ = some (.int .i64 a0_2) := (blk_cell BK114.out 2).trans rfl
            have hcz12_3 : w3.cell? ⟨gb114, 3, none⟩ = some (.int .i64 a0_3) := (blk_cell BK114.out 3).trans rfl
            have hcz12_4 : w3.cell? ⟨gb114, 4, none⟩ = some (.bool false) := (blk_cell BK114.out 4).trans rfl
            have hcz12_5 : w3.cell? ⟨gb114, 5, none⟩ = some (.slice A0_5 l0_5.length c0_5) := (blk_cell BK114.out 5).trans rfl
            have hfz12_0 := blk_frozen BK114.out 0
            have hfz12_1 := blk_frozen BK114.out 1
            have hfz12_2 := blk_frozen BK114.out 2
            have hfz12_3 := blk_frozen BK114.out 3
            have hfz12_4 := blk_frozen BK114.out 4
            have hfz12_5 := blk_frozen BK114.out 5
            go_wp2
            go_meet
            case rel => exact ⟨_, (decide ((l0_5.length : Int) > 0)), (by first | rfl | (simp; done) | (simp [*]; done)), H', ⟨by first | omega | exact Nat.le_refl _⟩, ⟨by (with_reducible repeat (first | refine blk_drewN ?_ _ | refine blk_drew ?_ | refine blk_alloc ?_ _)); exact BK114.out⟩, ⟨by repeat (first | (with_reducible first | exact HB.out | apply below_alloc | apply pw_below_drewN | apply below_drew1 | refine below_set ?_ GE114.out) | exact HB.out)⟩⟩
  case rest =>
    clear HC2
    try clear c1
    try clear p2
    try clear c4
    try clear c4b0
    try clear c4b1
    try clear c6
    try clear c6b0
    try clear c6b1
    try clear c8
    try clear c8b0
    try clear c8b1
    try clear c10
    try clear hcz11_0
    try clear hcz11_1
    try clear hcz11_2
    try clear hcz11_3
    try clear hcz11_4
    try clear hcz11_5
    try clear hcz12_0
    try clear hcz12_1
    try clear hcz12_2
    try clear hcz12_3
    try clear hcz12_4
    try clear hcz12_5
    try clear hcz5_0
    try clear hcz5_1
    try clear hcz5_2
    try clear hcz5_3
    try clear hcz5_4
    try clear hcz5_5
    try clear hcz7_0
    try clear hcz7_1
    try clear hcz7_2
    try clear hcz7_3
    try clear hcz7_4
    try clear hcz7_5
    try clear hcz9_0
    try clear hcz9_1
    try clear hcz9_2
    try clear hcz9_3
    try clear hcz9_4
    try clear hcz9_5
    try clear hfz11_0
    try clear hfz11_1
    try clear hfz11_2
    try clear hfz11_3
    try clear hfz11_4
    try clear hfz11_5
    try clear hfz12_0
    try clear hfz12_1
    try clear hfz12_2
    try clear hfz12_3
    try clear hfz12_4
    try clear hfz12_5
    try clear hfz5_0
    try clear hfz5_1
    try clear hfz5_2
    try clear hfz5_3
    try clear hfz5_4
    try clear hfz5_5
    try clear hfz7_0
    try clear hfz7_1
    try clear hfz7_2
    try clear hfz7_3
    try clear hfz7_4
    try clear hfz7_5
    try clear hfz9_0
    try clear hfz9_1
    try clear hfz9_2
    try clear hfz9_3
    try clear hfz9_4
    try clear hfz9_5
    obtain ⟨kq, x32_1, rfl, HA, HJ1, BK114, HB⟩ := hcut
    cases kq with
    | zero => exact absurd HA.out (by simp [icehouseref03_Right.j0])
    | succ kj1 =>
      have H := HA.out
      clear HA
      simp only [icehouseref03_Right.j0] at H
      by_cases c13 : x32_1 = true
      · subst c13
        have H1 : (some 2) = some r := by rw [if_pos rfl] at H; exact H
        clear H
        have H := H1
        clear H1
        obtain rfl := Option.some.inj H
        go_wp2
        go_ret
        exact ⟨by first | rfl | (simp [errW_none, errW_some] <;> rfl) | (simp [*, errW_none, errW_some] <;> rfl), by repeat (first | (with_reducible first | exact HB.out | apply below_alloc | apply pw_below_drewN | apply below_drew1 | refine below_set ?_ GE114.out) | exact HB.out)⟩
      · replace c13 := Bool.eq_false_iff.mpr c13
        subst c13
        have H1 : ((icehouseref03_Check.f kj1 a0_1 a0_2 a0_3).bind fun t115 => (if t115 = 0 then (if a0_1 = 0 then (if a0_4 = true then (some 2) else (some 0)) else (some 0)) else (some 2))) = some r := by rw [if_neg (show ¬ (false = true) by decide)] at H; exact H
        clear H
        have H := H1
        clear H1
        replace H := Option.bind_eq_some_iff.mp H
        obtain ⟨t115, A140, H⟩ := H
        replace H : (if t115 = 0 then (if a0_1 = 0 then (if a0_4 = true then (some 2) else (some 0)) else (some 0)) else (some 2)) = some r := H
        have A14 := Aside0.mk A140
        clear A140
        by_cases c15 : t115 = 0
        · rw [if_pos c15] at H
          have c15b0 : (t115 == 0) = true := beq_iff_eq.mpr c15
          have c15b1 : (t115 != 0) = false := bne_eq_false_iff_eq.mpr c15
          clear c15
          by_cases c16 : a0_1 = 0
          · rw [if_pos c16] at H
            have c16b0 : (a0_1 == 0) = true := beq_iff_eq.mpr c16
            have c16b1 : (a0_1 != 0) = false := bne_eq_false_iff_eq.mpr c16
            clear c16
            by_cases c17 : a0_4 = true
            · subst c17
              have H1 : (some 2) = some r := by rw [if_pos rfl] at H; exact H
              clear H
              have H := H1
              clear H1
              obtain rfl := Option.some.inj H
              have hcz18_0 : wc.cell? ⟨gb114, 0, none⟩ = some (.string a0_0) := (blk_cell BK114.out 0).trans rfl
              have hcz18_1 : wc.cell? ⟨gb114, 1, none⟩ = some (.int .i64 a0_1) := (blk_cell BK114.out 1).trans rfl
              have hcz18_2 : wc.cell? ⟨gb114, 2, none⟩ = some (.int .i64 a0_2) := (blk_cell BK114.out 2).trans rfl
              have hcz18_3 : wc.cell? ⟨gb114, 3, none⟩ = some (.int .i64 a0_3) := (blk_cell BK114.out 3).trans rfl
              have hcz18_4 : wc.cell? ⟨gb114, 4, none⟩ = some (.bool true) := (blk_cell BK114.out 4).trans rfl
              have hcz18_5 : wc.cell? ⟨gb114, 5, none⟩ = some (.slice A0_5 l0_5.length c0_5) := (blk_cell BK114.out 5).trans rfl
              have hfz18_0 := blk_frozen BK114.out 0
              have hfz18_1 := blk_frozen BK114.out 1
              have hfz18_2 := blk_frozen BK114.out 2
              have hfz18_3 := blk_frozen BK114.out 3
              have hfz18_4 := blk_frozen BK114.out 4
              have hfz18_5 := blk_frozen BK114.out 5
              go_wp2_with (first | ((with_reducible refine gate_callee (f := 65) rfl ?_); refine goesL_ (some 35) rfl rfl Tryd.func65 (by kernel_rfl) rfl #[.agg #[.int .i64 a0_1, .int .i64 a0_2, .int .i64 a0_3]] rfl (by (try simp only [List.map_toArray, List.map_cons, List.map_nil]); first | done | rfl | (simp only [List.length_drop, List.length_take]; rfl)) ?_; (with_reducible refine (icehouseref03_Check.calls kj1 a0_1 a0_2 a0_3 t115 _ A14.out).mono ?_); rintro e w19 ⟨rfl, hb⟩; refine ⟨_, rfl, ?_⟩; have n0_ := Aside0.mk (blk_below (g := gb114) (o := .cells #[.string a0_0, .int .i64 a0_1, .int .i64 a0_2, .int .i64 a0_3, .bool true, .slice A0_5 l0_5.length c0_5] 28 (0, 0)) (by (with_reducible repeat (first | refine blk_drewN ?_ _ | refine blk_drew ?_ | refine blk_alloc ?_ _)); exact BK114.out) hb); have n1_ := Aside0.mk (below_step (by repeat (first | (with_reducible first | exact HB.out | apply below_alloc | apply pw_below_drewN | apply below_drew1 | refine below_set ?_ GE114.out) | exact HB.out)) hb); clear BK114; clear HB; have BK114 := n0_; have HB := n1_; clear n0_ n1_; (try clear hb); (try clear hb2); (try clear hk); (try clear hi); have hcz20_0 : w19.cell? ⟨gb114, 0, none⟩ = some (.string a0_0) := (blk_cell BK114.out 0).trans rfl; have hcz20_1 : w19.cell? ⟨gb114, 1, none⟩ = some (.int .i64 a0_1) := (blk_cell BK114.out 1).trans rfl; have hcz20_2 : w19.cell? ⟨gb114, 2, none⟩ = some (.int .i64 a0_2) := (blk_cell BK114.out 2).trans rfl; have hcz20_3 : w19.cell? ⟨gb114, 3, none⟩ = some (.int .i64 a0_3) := (blk_cell BK114.out 3).trans rfl; have hcz20_4 : w19.cell? ⟨gb114, 4, none⟩ = some (.bool true) := (blk_cell BK114.out 4).trans rfl; have hcz20_5 : w19.cell? ⟨gb114, 5, none⟩ = some (.slice A0_5 l0_5.length c0_5) := (blk_cell BK114.out 5).trans rfl; have hfz20_0 := blk_frozen BK114.out 0; have hfz20_1 := blk_frozen BK114.out 1; have hfz20_2 := blk_frozen BK114.out 2; have hfz20_3 := blk_frozen BK114.out 3; have hfz20_4 := blk_frozen BK114.out 4; have hfz20_5 := blk_frozen BK114.out 5))
              go_ret
              exact ⟨by first | rfl | (simp [errW_none, errW_some] <;> rfl) | (simp [*, errW_none, errW_some] <;> rfl), by repeat (first | (with_reducible first | exact HB.out | apply below_alloc | apply pw_below_drewN | apply below_drew1 | refine below_set ?_ GE114.out) | exact HB.out)⟩
            · replace c17 := Bool.eq_false_iff.mpr c17
              subst c17
              have H1 : (some 0) = some r := by rw [if_neg (show ¬ (false = true) by decide)] at H; exact H
              clear H
              have H := H1
              clear H1
              obtain rfl := Option.some.inj H
              have hcz21_0 : wc.cell? ⟨gb114, 0, none⟩ = some (.string a0_0) := (blk_cell BK114.out 0).trans rfl
              have hcz21_1 : wc.cell? ⟨gb114, 1, none⟩ = some (.int .i64 a0_1) := (blk_cell BK114.out 1).trans rfl
              have hcz21_2 : wc.cell? ⟨gb114, 2, none⟩ = some (.int .i64 a0_2) := (blk_cell BK114.out 2).trans rfl
              have hcz21_3 : wc.cell? ⟨gb114, 3, none⟩ = some (.int .i64 a0_3) := (blk_cell BK114.out 3).trans rfl
              have hcz21_4 : wc.cell? ⟨gb114, 4, none⟩ = some (.bool false) := (blk_cell BK114.out 4).trans rfl
              have hcz21_5 : wc.cell? ⟨gb114, 5, none⟩ = some (.slice A0_5 l0_5.length c0_5) := (blk_cell BK114.out 5).trans rfl
              have hfz21_0 := blk_frozen BK114.out 0
              have hfz21_1 := blk_frozen BK114.out 1
              have hfz21_2 := blk_frozen BK114.out 2
              have hfz21_3 := blk_frozen BK114.out 3
              have hfz21_4 := blk_frozen BK114.out 4
              have hfz21_5 := blk_frozen BK114.out 5
              go_wp2_with (first | ((with_reducible refine gate_callee (f := 65) rfl ?_); refine goesL_ (some 35) rfl rfl Tryd.func65 (by kernel_rfl) rfl #[.agg #[.int .i64 a0_1, .int .i64 a0_2, .int .i64 a0_3]] rfl (by (try simp only [List.map_toArray, List.map_cons, List.map_nil]); first | done | rfl | (simp only [List.length_drop, List.length_take]; rfl)) ?_; (with_reducible refine (icehouseref03_Check.calls kj1 a0_1 a0_2 a0_3 t115 _ A14.out).mono ?_); rintro e w22 ⟨rfl, hb⟩; refine ⟨_, rfl, ?_⟩; have n0_ := Aside0.mk (blk_below (g := gb114) (o := .cells #[.string a0_0, .int .i64 a0_1, .int .i64 a0_2, .int .i64 a0_3, .bool false, .slice A0_5 l0_5.length c0_5] 28 (0, 0)) (by (with_reducible repeat (first | refine blk_drewN ?_ _ | refine blk_drew ?_ | refine blk_alloc ?_ _)); exact BK114.out) hb); have n1_ := Aside0.mk (below_step (by repeat (first | (with_reducible first | exact HB.out | apply below_alloc | apply pw_below_drewN | apply below_drew1 | refine below_set ?_ GE114.out) | exact HB.out)) hb); clear BK114; clear HB; have BK114 := n0_; have HB := n1_; clear n0_ n1_; (try clear hb); (try clear hb2); (try clear hk); (try clear hi); have hcz23_0 : w22.cell? ⟨gb114, 0, none⟩ = some (.string a0_0) := (blk_cell BK114.out 0).trans rfl; have hcz23_1 : w22.cell? ⟨gb114, 1, none⟩ = some (.int .i64 a0_1) := (blk_cell BK114.out 1).trans rfl; have hcz23_2 : w22.cell? ⟨gb114, 2, none⟩ = some (.int .i64 a0_2) := (blk_cell BK114.out 2).trans rfl; have hcz23_3 : w22.cell? ⟨gb114, 3, none⟩ = some (.int .i64 a0_3) := (blk_cell BK114.out 3).trans rfl; have hcz23_4 : w22.cell? ⟨gb114, 4, none⟩ = some (.bool false) := (blk_cell BK114.out 4).trans rfl; have hcz23_5 : w22.cell? ⟨gb114, 5, none⟩ = some (.slice A0_5 l0_5.length c0_5) := (blk_cell BK114.out 5).trans rfl; have hfz23_0 := blk_frozen BK114.out 0; have hfz23_1 := blk_frozen BK114.out 1; have hfz23_2 := blk_frozen BK114.out 2; have hfz23_3 := blk_frozen BK114.out 3; have hfz23_4 := blk_frozen BK114.out 4; have hfz23_5 := blk_frozen BK114.out 5))
              go_ret
              exact ⟨by first | rfl | (simp [errW_none, errW_some] <;> rfl) | (simp [*, errW_none, errW_some] <;> rfl), by repeat (first | (with_reducible first | exact HB.out | apply below_alloc | apply pw_below_drewN | apply below_drew1 | refine below_set ?_ GE114.out) | exact HB.out)⟩
          · rw [if_neg c16] at H
            have c16b0 : (a0_1 == 0) = false := beq_eq_false_iff_ne.mpr c16
            have c16b1 : (a0_1 != 0) = true := bne_iff_ne.mpr c16
            obtain rfl := Option.some.inj H
            have hcz24_0 : wc.cell? ⟨gb114, 0, none⟩ = some (.string a0_0) := (blk_cell BK114.out 0).trans rfl
            have hcz24_1 : wc.cell? ⟨gb114, 1, none⟩ = some (.int .i64 a0_1) := (blk_cell BK114.out 1).trans rfl
            have hcz24_2 : wc.cell? ⟨gb114, 2, none⟩ = some (.int .i64 a0_2) := (blk_cell BK114.out 2).trans rfl
            have hcz24_3 : wc.cell? ⟨gb114, 3, none⟩ = some (.int .i64 a0_3) := (blk_cell BK114.out 3).trans rfl
            have hcz24_4 : wc.cell? ⟨gb114, 4, none⟩ = some (.bool a0_4) := (blk_cell BK114.out 4).trans rfl
            have hcz24_5 : wc.cell? ⟨gb114, 5, none⟩ = some (.slice A0_5 l0_5.length c0_5) := (blk_cell BK114.out 5).trans rfl
            have hfz24_0 := blk_frozen BK114.out 0
            have hfz24_1 := blk_frozen BK114.out 1
            have hfz24_2 := blk_frozen BK114.out 2
            have hfz24_3 := blk_frozen BK114.out 3
            have hfz24_4 := blk_frozen BK114.out 4
            have hfz24_5 := blk_frozen BK114.out 5
            go_wp2_with (first | ((with_reducible refine gate_callee (f := 65) rfl ?_); refine goesL_ (some 35) rfl rfl Tryd.func65 (by kernel_rfl) rfl #[.agg #[.int .i64 a0_1, .int .i64 a0_2, .int .i64 a0_3]] rfl (by (try simp only [List.map_toArray, List.map_cons, List.map_nil]); first | done | rfl | (simp only [List.length_drop, List.length_take]; rfl)) ?_; (with_reducible refine (icehouseref03_Check.calls kj1 a0_1 a0_2 a0_3 t115 _ A14.out).mono ?_); rintro e w25 ⟨rfl, hb⟩; refine ⟨_, rfl, ?_⟩; have n0_ := Aside0.mk (blk_below (g := gb114) (o := .cells #[.string a0_0, .int .i64 a0_1, .int .i64 a0_2, .int .i64 a0_3, .bool a0_4, .slice A0_5 l0_5.length c0_5] 28 (0, 0)) (by (with_reducible repeat (first | refine blk_drewN ?_ _ | refine blk_drew ?_ | refine blk_alloc ?_ _)); exact BK114.out) hb); have n1_ := Aside0.mk (below_step (by repeat (first | (with_reducible first | exact HB.out | apply below_alloc | apply pw_below_drewN | apply below_drew1 | refine below_set ?_ GE114.out) | exact HB.out)) hb); clear BK114; clear HB; have BK114 := n0_; have HB := n1_; clear n0_ n1_; (try clear hb); (try clear hb2); (try clear hk); (try clear hi); have hcz26_0 : w25.cell? ⟨gb114, 0, none⟩ = some (.string a0_0) := (blk_cell BK114.out 0).trans rfl; have hcz26_1 : w25.cell? ⟨gb114, 1, none⟩ = some (.int .i64 a0_1) := (blk_cell BK114.out 1).trans rfl; have hcz26_2 : w25.cell? ⟨gb114, 2, none⟩ = some (.int .i64 a0_2) := (blk_cell BK114.out 2).trans rfl; have hcz26_3 : w25.cell? ⟨gb114, 3, none⟩ = some (.int .i64 a0_3) := (blk_cell BK114.out 3).trans rfl; have hcz26_4 : w25.cell? ⟨gb114, 4, none⟩ = some (.bool a0_4) := (blk_cell BK114.out 4).trans rfl; have hcz26_5 : w25.cell? ⟨gb114, 5, none⟩ = some (.slice A0_5 l0_5.length c0_5) := (blk_cell BK114.out 5).trans rfl; have hfz26_0 := blk_frozen BK114.out 0; have hfz26_1 := blk_frozen BK114.out 1; have hfz26_2 := blk_frozen BK114.out 2; have hfz26_3 := blk_frozen BK114.out 3; have hfz26_4 := blk_frozen BK114.out 4; have hfz26_5 := blk_frozen BK114.out 5))
            go_ret
            exact ⟨by first | rfl | (simp [errW_none, errW_some] <;> rfl) | (simp [*, errW_none, errW_some] <;> rfl), by repeat (first | (with_reducible first | exact HB.out | apply below_alloc | apply pw_below_drewN | apply below_drew1 | refine below_set ?_ GE114.out) | exact HB.out)⟩
        · rw [if_neg c15] at H
          have c15b0 : (t115 == 0) = false := beq_eq_false_iff_ne.mpr c15
          have c15b1 : (t115 != 0) = true := bne_iff_ne.mpr c15
          obtain rfl := Option.some.inj H
          have hcz27_0 : wc.cell? ⟨gb114, 0, none⟩ = some (.string a0_0) := (blk_cell BK114.out 0).trans rfl
          have hcz27_1 : wc.cell? ⟨gb114, 1, none⟩ = some (.int .i64 a0_1) := (blk_cell BK114.out 1).trans rfl
          have hcz27_2 : wc.cell? ⟨gb114, 2, none⟩ = some (.int .i64 a0_2) := (blk_cell BK114.out 2).trans rfl
          have hcz27_3 : wc.cell? ⟨gb114, 3, none⟩ = some (.int .i64 a0_3) := (blk_cell BK114.out 3).trans rfl
          have hcz27_4 : wc.cell? ⟨gb114, 4, none⟩ = some (.bool a0_4) := (blk_cell BK114.out 4).trans rfl
          have hcz27_5 : wc.cell? ⟨gb114, 5, none⟩ = some (.slice A0_5 l0_5.length c0_5) := (blk_cell BK114.out 5).trans rfl
          have hfz27_0 := blk_frozen BK114.out 0
          have hfz27_1 := blk_frozen BK114.out 1
          have hfz27_2 := blk_frozen BK114.out 2
          have hfz27_3 := blk_frozen BK114.out 3
          have hfz27_4 := blk_frozen BK114.out 4
          have hfz27_5 := blk_frozen BK114.out 5
          go_wp2_with (first | ((with_reducible refine gate_callee (f := 65) rfl ?_); refine goesL_ (some 35) rfl rfl Tryd.func65 (by kernel_rfl) rfl #[.agg #[.int .i64 a0_1, .int .i64 a0_2, .int .i64 a0_3]] rfl (by (try simp only [List.map_toArray, List.map_cons, List.map_nil]); first | done | rfl | (simp only [List.length_drop, List.length_take]; rfl)) ?_; (with_reducible refine (icehouseref03_Check.calls kj1 a0_1 a0_2 a0_3 t115 _ A14.out).mono ?_); rintro e w28 ⟨rfl, hb⟩; refine ⟨_, rfl, ?_⟩; have n0_ := Aside0.mk (blk_below (g := gb114) (o := .cells #[.string a0_0, .int .i64 a0_1, .int .i64 a0_2, .int .i64 a0_3, .bool a0_4, .slice A0_5 l0_5.length c0_5] 28 (0, 0)) (by (with_reducible repeat (first | refine blk_drewN ?_ _ | refine blk_drew ?_ | refine blk_alloc ?_ _)); exact BK114.out) hb); have n1_ := Aside0.mk (below_step (by repeat (first | (with_reducible first | exact HB.out | apply below_alloc | apply pw_below_drewN | apply below_drew1 | refine below_set ?_ GE114.out) | exact HB.out)) hb); clear BK114; clear HB; have BK114 := n0_; have HB := n1_; clear n0_ n1_; (try clear hb); (try clear hb2); (try clear hk); (try clear hi)))
          go_ret
          exact ⟨by first | rfl | (simp [errW_none, errW_some] <;> rfl) | (simp [*, errW_none, errW_some] <;> rfl), by repeat (first | (with_reducible first | exact HB.out | apply below_alloc | apply pw_below_drewN | apply below_drew1 | refine below_set ?_ GE114.out) | exact HB.out)⟩
/-! ### icehouseref00_Copy: function 20 -/
/-! ### icehouseref00_Same: function 14 -/
def icehouseref00_Same.f (l0 : List Int) (l1 : List Int) : Option (Bool) := some ((strOfNums l0).toList == (strOfNums l1).toList)
set_option maxHeartbeats 8000000 in
set_option maxRecDepth 100000 in
theorem icehouseref00_Same.calls (A0 : Option Addr) (c0 : Nat) (l0 : List Int) (A1 : Option Addr) (c1 : Nat) (l1 : List Int) (r : Bool) (w : World) (hr0 : Kd.C (Kd.int .u8) w A0 l0.length l0) (hc0 : l0.length ≤ c0) (hr1 : Kd.C (Kd.int .u8) w A1 l1.length l1) (hc1 : l1.length ≤ c1) (h : icehouseref00_Same.f l0 l1 = some r) :
    Calls Tryd.prog 14 #[.slice A0 l0.length c0, .slice A1 l1.length c1] w fun e w' => e = .returned (.bool r) ∧ Drawn0 w w' := by
  have HR0 := Aside0.mk hr0
  have HC0 := Aside0.mk hc0
  clear hr0 hc0
  have HR1 := Aside0.mk hr1
  have HC1 := Aside0.mk hc1
  clear hr1 hc1
  have H : (some ((strOfNums l0).toList == (strOfNums l1).toList)) = some r := h
  clear h
  obtain rfl := Option.some.inj H
  have hcv3 := Kd.C_string (P := Tryd.prog) (A := A0) (c := c0) Tryd.underlying24 Tryd.underlying5 Tryd.underlying9 HR0.out
  have hcv4 := Kd.C_string (P := Tryd.prog) (A := A1) (c := c1) Tryd.underlying24 Tryd.underlying5 Tryd.underlying9 HR1.out
  go_enter Tryd.func14, Tryd.ntmps14
  go_wp2
  go_ret
  exact ⟨by first | rfl | (simp; done) | (simp [*]; done), by repeat (first | exact Drawn0.refl _ | apply Drawn0.step)⟩
/-! ### tags_SameVal: function 63 -/
def tags_SameVal.f (a0_0 : Bool) (l0_1 : List Int) (a1_0 : Bool) (l1_1 : List Int) : Option (Bool) := if a0_0 = true then (if a1_0 = true then (some ((strOfNums l0_1).toList == (strOfNums l1_1).toList)) else (some (a0_0 == a1_0))) else (some (a0_0 == a1_0))
set_option maxHeartbeats 8000000 in
set_option maxRecDepth 100000 in
theorem tags_SameVal.calls (a0_0 : Bool) (A0_1 : Option Addr) (c0_1 : Nat) (l0_1 : List Int) (a1_0 : Bool) (A1_1 : Option Addr) (c1_1 : Nat) (l1_1 : List Int) (r : Bool) (w : World) (hr0_1 : Kd.C (Kd.int .u8) w A0_1 l0_1.length l0_1) (hc0_1 : l0_1.length ≤ c0_1) (hr1_1 : Kd.C (Kd.int .u8) w A1_1 l1_1.length l1_1) (hc1_1 : l1_1.length ≤ c1_1) (h : tags_SameVal.f a0_0 l0_1 a1_0 l1_1 = some r) :
    Calls Tryd.prog 63 #[.agg #[.bool a0_0, .slice A0_1 l0_1.length c0_1], .agg #[.bool a1_0, .slice A1_1 l1_1.length c1_1]] w fun e w' => e = .returned (.bool r) ∧ Below w.heap.size w w' := by
  have hu26 := Tryd.underlying26
  have HR0_1 := Aside0.mk hr0_1
  have HC0_1 := Aside0.mk hc0_1
  clear hr0_1 hc0_1
  have HR1_1 := Aside0.mk hr1_1
  have HC1_1 := Aside0.mk hc1_1
  clear hr1_1 hc1_1
  have HB := Aside0.mk (Below.refl w.heap.size w)
  have H : (if a0_0 = true then (if a1_0 = true then (some ((strOfNums l0_1).toList == (strOfNums l1_1).toList)) else (some (a0_0 == a1_0))) else (some (a0_0 == a1_0))) = some r := h
  clear h
  by_cases c3 : a0_0 = true
  · subst c3
    have H1 : (if a1_0 = true then (some ((strOfNums l0_1).toList == (strOfNums l1_1).toList)) else (some (true == a1_0))) = some r := by rw [if_pos rfl] at H; exact H
    clear H
    have H := H1
    clear H1
    by_cases c4 : a1_0 = true
    · subst c4
      have H1 : (some ((strOfNums l0_1).toList == (strOfNums l1_1).toList)) = some r := by rw [if_pos rfl] at H; exact H
      clear H
      have H := H1
      clear H1
      obtain rfl := Option.some.inj H
      go_enter Tryd.func63, Tryd.ntmps63
      go_wp2_with (first | ((with_reducible refine gate_dst (N := 2) rfl ?_); refine box_event ?hg (N := 2) ?hd (cs := #[.bool true, .slice A0_1 l0_1.length c0_1]) (t := 26) ?hr ?_; (case hd => rfl); (case hg => rfl); (case hr => first | (go_simp; done) | (go_simp; rfl)); intro gb119 hg w5 hbox hb; have n0_ := Aside0.mk (below_step (by repeat (first | (with_reducible first | exact HB.out | apply below_alloc | apply pw_below_drewN | apply below_drew1) | exact HB.out)) hb); have n1_ := Aside0.mk (hbox); have n2_ := Aside0.mk ((by rw [hg]; exact (below_size (by repeat (first | (with_reducible first | exact HB.out | apply below_alloc | apply pw_below_drewN | apply below_drew1) | exact HB.out))) : w.heap.size ≤ gb119)); have n3_ := Aside0.mk ((by rw [hg]; exact (below_size (by repeat (first | (with_reducible first | exact HB.out | apply below_alloc | apply pw_below_drewN | apply below_drew1) | exact HB.out))) : w.heap.size ≤ gb119)); clear HB; have HB := n0_; have BK119 := n1_; have GW119 := n2_; have GE119 := n3_; clear n0_ n1_ n2_ n3_; clear hb hbox hg) | ((with_reducible refine gate_dst (N := 3) rfl ?_); refine box_event ?hg (N := 3) ?hd (cs := #[.bool true, .slice A1_1 l1_1.length c1_1]) (t := 26) ?hr ?_; (case hd => rfl); (case hg => rfl); (case hr => first | (go_simp; done) | (go_simp; rfl)); intro gb120 hg w6 hbox hb; have n0_ := Aside0.mk (blk_below (g := gb119) (o := .cells #[.bool true, .slice A0_1 l0_1.length c0_1] 26 (0, 0)) (by (with_reducible repeat (first | refine blk_drewN ?_ _ | refine blk_drew ?_ | refine blk_alloc ?_ _)); exact BK119.out) hb); have n1_ := Aside0.mk (below_step (by repeat (first | (with_reducible first | exact HB.out | apply below_alloc | apply pw_below_drewN | apply below_drew1 | refine below_set ?_ GE119.out) | exact HB.out)) hb); have n2_ := Aside0.mk (hbox); have n3_ := Aside0.mk ((by rw [hg]; exact (below_size (by repeat (first | (with_reducible first | exact HB.out | apply below_alloc | apply pw_below_drewN | apply below_drew1 | refine below_set ?_ GE119.out) | exact HB.out))) : w.heap.size ≤ gb120)); have n4_ := Aside0.mk ((by rw [hg]; exact (below_size (by repeat (first | (with_reducible first | exact HB.out | apply below_alloc | apply pw_below_drewN | apply below_drew1 | refine below_set ?_ GE119.out) | exact HB.out))) : w.heap.size ≤ gb120)); have n5_ := Aside0.mk ((by rw [hg]; exact Nat.ne_of_lt (blk_lt (g := gb119) (o := .cells #[.bool true, .slice A0_1 l0_1.length c0_1] 26 (0, 0)) (by (with_reducible repeat (first | refine blk_drewN ?_ _ | refine blk_drew ?_ | refine blk_alloc ?_ _)); exact BK119.out)) : gb119 ≠ gb120)); have n6_ := Aside0.mk ((by rw [hg]; exact Nat.ne_of_gt (blk_lt (g := gb119) (o := .cells #[.bool true, .slice A0_1 l0_1.length c0_1] 26 (0, 0)) (by (with_reducible repeat (first | refine blk_drewN ?_ _ | refine blk_drew ?_ | refine blk_alloc ?_ _)); exact BK119.out)) : gb120 ≠ gb119)); clear BK119; clear HB; have BK119 := n0_; have HB := n1_; have BK120 := n2_; have GW120 := n3_; have GE120 := n4_; have NB119_120 := n5_; have NB120_119 := n6_; clear n0_ n1_ n2_ n3_ n4_ n5_ n6_; clear hb hbox hg; have hnb7 := NB119_120.out; have hnc7 := NB120_119.out; have hcz8_0 : w6.cell? ⟨gb119, 0, none⟩ = some (.bool true) := (blk_cell BK119.out 0).trans rfl; have hcz8_1 : w6.cell? ⟨gb119, 1, none⟩ = some (.slice A0_1 l0_1.length c0_1) := (blk_cell BK119.out 1).trans rfl; have hfz8_0 := blk_frozen BK119.out 0; have hfz8_1 := blk_frozen BK119.out 1; have hcz9_0 : w6.cell? ⟨gb120, 0, none⟩ = some (.bool true) := (blk_cell BK120.out 0).trans rfl; have hcz9_1 : w6.cell? ⟨gb120, 1, none⟩ = some (.slice A1_1 l1_1.length c1_1) := (blk_cell BK120.out 1).trans rfl; have hfz9_0 := blk_frozen BK120.out 0; have hfz9_1 := blk_frozen BK120.out 1; have hcv10 := Kd.C_string (P := Tryd.prog) (A := A0_1) (c := c0_1) Tryd.underlying24 Tryd.underlying5 Tryd.underlying9 (Kd.C_below HR0_1.out HB.out); have hcv11 := Kd.C_string (P := Tryd.prog) (A := A1_1) (c := c1_1) Tryd.underlying24 Tryd.underlying5 Tryd.underlying9 (Kd.C_below HR1_1.out HB.out)))
      go_ret
      exact ⟨by first | rfl | (simp [errW_none, errW_some] <;> rfl) | (simp [*, errW_none, errW_some] <;> rfl), by repeat (first | (with_reducible first | exact HB.out | apply below_alloc | apply pw_below_drewN | apply below_drew1 | refine below_set ?_ GE119.out | refine below_set ?_ GE120.out) | exact HB.out)⟩
    · replace c4 := Bool.eq_false_iff.mpr c4
      subst c4
      have H1 : (some (true == false)) = some r := by rw [if_neg (show ¬ (false = true) by decide)] at H; exact H
      clear H
      have H := H1
      clear H1
      obtain rfl := Option.some.inj H
      go_enter Tryd.func63, Tryd.ntmps63
      go_wp2_with (first | ((with_reducible refine gate_dst (N := 2) rfl ?_); refine box_event ?hg (N := 2) ?hd (cs := #[.bool true, .slice A0_1 l0_1.length c0_1]) (t := 26) ?hr ?_; (case hd => rfl); (case hg => rfl); (case hr => first | (go_simp; done) | (go_simp; rfl)); intro gb119 hg w12 hbox hb; have n0_ := Aside0.mk (below_step (by repeat (first | (with_reducible first | exact HB.out | apply below_alloc | apply pw_below_drewN | apply below_drew1) | exact HB.out)) hb); have n1_ := Aside0.mk (hbox); have n2_ := Aside0.mk ((by rw [hg]; exact (below_size (by repeat (first | (with_reducible first | exact HB.out | apply below_alloc | apply pw_below_drewN | apply below_drew1) | exact HB.out))) : w.heap.size ≤ gb119)); have n3_ := Aside0.mk ((by rw [hg]; exact (below_size (by repeat (first | (with_reducible first | exact HB.out | apply below_alloc | apply pw_below_drewN | apply below_drew1) | exact HB.out))) : w.heap.size ≤ gb119)); clear HB; have HB := n0_; have BK119 := n1_; have GW119 := n2_; have GE119 := n3_; clear n0_ n1_ n2_ n3_; clear hb hbox hg) | ((with_reducible refine gate_dst (N := 3) rfl ?_); refine box_event ?hg (N := 3) ?hd (cs := #[.bool false, .slice A1_1 l1_1.length c1_1]) (t := 26) ?hr ?_; (case hd => rfl); (case hg => rfl); (case hr => first | (go_simp; done) | (go_simp; rfl)); intro gb120 hg w13 hbox hb; have n0_ := Aside0.mk (blk_below (g := gb119) (o := .cells #[.bool true, .slice A0_1 l0_1.length c0_1] 26 (0, 0)) (by (with_reducible repeat (first | refine blk_drewN ?_ _ | refine blk_drew ?_ | refine blk_alloc ?_ _)); exact BK119.out) hb); have n1_ := Aside0.mk (below_step (by repeat (first | (with_reducible first | exact HB.out | apply below_alloc | apply pw_below_drewN | apply below_drew1 | refine below_set ?_ GE119.out) | exact HB.out)) hb); have n2_ := Aside0.mk (hbox); have n3_ := Aside0.mk ((by rw [hg]; exact (below_size (by repeat (first | (with_reducible first | exact HB.out | apply below_alloc | apply pw_below_drewN | apply below_drew1 | refine below_set ?_ GE119.out) | exact HB.out))) : w.heap.size ≤ gb120)); have n4_ := Aside0.mk ((by rw [hg]; exact (below_size (by repeat (first | (with_reducible first | exact HB.out | apply below_alloc | apply pw_below_drewN | apply below_drew1 | refine below_set ?_ GE119.out) | exact HB.out))) : w.heap.size ≤ gb120)); have n5_ := Aside0.mk ((by rw [hg]; exact Nat.ne_of_lt (blk_lt (g := gb119) (o := .cells #[.bool true, .slice A0_1 l0_1.length c0_1] 26 (0, 0)) (by (with_reducible repeat (first | refine blk_drewN ?_ _ | refine blk_drew ?_ | refine blk_alloc ?_ _)); exact BK119.out)) : gb119 ≠ gb120)); have n6_ := Aside0.mk ((by rw [hg]; exact Nat.ne_of_gt (blk_lt (g := gb119) (o := .cells #[.bool true, .slice A0_1 l0_1.length c0_1] 26 (0, 0)) (by (with_reducible repeat (first | refine blk_drewN ?_ _ | refine blk_drew ?_ | refine blk_alloc ?_ _)); exact BK119.out)) : gb120 ≠ gb119)); clear BK119; clear HB; have BK119 := n0_; have HB := n1_; have BK120 := n2_; have GW120 := n3_; have GE120 := n4_; have NB119_120 := n5_; have NB120_119 := n6_; clear n0_ n1_ n2_ n3_ n4_ n5_ n6_; clear hb hbox hg; have hnb14 := NB119_120.out; have hnc14 := NB120_119.out; have hcz15_0 : w13.cell? ⟨gb119, 0, none⟩ = some (.bool true) := (blk_cell BK119.out 0).trans rfl; have hcz15_1 : w13.cell? ⟨gb119, 1, none⟩ = some (.slice A0_1 l0_1.length c0_1) := (blk_cell BK119.out 1).trans rfl; have hfz15_0 := blk_frozen BK119.out 0; have hfz15_1 := blk_frozen BK119.out 1; have hcz16_0 : w13.cell? ⟨gb120, 0, none⟩ = some (.bool false) := (blk_cell BK120.out 0).trans rfl; have hcz16_1 : w13.cell? ⟨gb120, 1, none⟩ = some (.slice A1_1 l1_1.length c1_1) := (blk_cell BK120.out 1).trans rfl; have hfz16_0 := blk_frozen BK120.out 0; have hfz16_1 := blk_frozen BK120.out 1))
      go_ret
      exact ⟨by first | rfl | (simp [errW_none, errW_some] <;> rfl) | (simp [*, errW_none, errW_some] <;> rfl), by repeat (first | (with_reducible first | exact HB.out | apply below_alloc | apply pw_below_drewN | apply below_drew1 | refine below_set ?_ GE119.out | refine below_set ?_ GE120.out) | exact HB.out)⟩
  · replace c3 := Bool.eq_false_iff.mpr c3
    subst c3
    have H1 : (some (false == a1_0)) = some r := by rw [if_neg (show ¬ (false = true) by decide)] at H; exact H
    clear H
    have H := H1
    clear H1
    obtain rfl := Option.some.inj H
    go_enter Tryd.func63, Tryd.ntmps63
    go_wp2_with (first | ((with_reducible refine gate_dst (N := 2) rfl ?_); refine box_event ?hg (N := 2) ?hd (cs := #[.bool false, .slice A0_1 l0_1.length c0_1]) (t := 26) ?hr ?_; (case hd => rfl); (case hg => rfl); (case hr => first | (go_simp; done) | (go_simp; rfl)); intro gb119 hg w17 hbox hb; have n0_ := Aside0.mk (below_step (by repeat (first | (with_reducible first | exact HB.out | apply below_alloc | apply pw_below_drewN | apply below_drew1) | exact HB.out)) hb); have n1_ := Aside0.mk (hbox); have n2_ := Aside0.mk ((by rw [hg]; exact (below_size (by repeat (first | (with_reducible first | exact HB.out | apply below_alloc | apply pw_below_drewN | apply below_drew1) | exact HB.out))) : w.heap.size ≤ gb119)); have n3_ := Aside0.mk ((by rw [hg]; exact (below_size (by repeat (first | (with_reducible first | exact HB.out | apply below_alloc | apply pw_below_drewN | apply below_drew1) | exact HB.out))) : w.heap.size ≤ gb119)); clear HB; have HB := n0_; have BK119 := n1_; have GW119 := n2_; have GE119 := n3_; clear n0_ n1_ n2_ n3_; clear hb hbox hg) | ((with_reducible refine gate_dst (N := 3) rfl ?_); refine box_event ?hg (N := 3) ?hd (cs := #[.bool a1_0, .slice A1_1 l1_1.length c1_1]) (t := 26) ?hr ?_; (case hd => rfl); (case hg => rfl); (case hr => first | (go_simp; done) | (go_simp; rfl)); intro gb120 hg w18 hbox hb; have n0_ := Aside0.mk (blk_below (g := gb119) (o := .cells #[.bool false, .slice A0_1 l0_1.length c0_1] 26 (0, 0)) (by (with_reducible repeat (first | refine blk_drewN ?_ _ | refine blk_drew ?_ | refine blk_alloc ?_ _)); exact BK119.out) hb); have n1_ := Aside0.mk (below_step (by repeat (first | (with_reducible first | exact HB.out | apply below_alloc | apply pw_below_drewN | apply below_drew1 | refine below_set ?_ GE119.out) | exact HB.out)) hb); have n2_ := Aside0.mk (hbox); have n3_ := Aside0.mk ((by rw [hg]; exact (below_size (by repeat (first | (with_reducible first | exact HB.out | apply below_alloc | apply pw_below_drewN | apply below_drew1 | refine below_set ?_ GE119.out) | exact HB.out))) : w.heap.size ≤ gb120)); have n4_ := Aside0.mk ((by rw [hg]; exact (below_size (by repeat (first | (with_reducible first | exact HB.out | apply below_alloc | apply pw_below_drewN | apply below_drew1 | refine below_set ?_ GE119.out) | exact HB.out))) : w.heap.size ≤ gb120)); have n5_ := Aside0.mk ((by rw [hg]; exact Nat.ne_of_lt (blk_lt (g := gb119) (o := .cells #[.bool false, .slice A0_1 l0_1.length c0_1] 26 (0, 0)) (by (with_reducible repeat (first | refine blk_drewN ?_ _ | refine blk_drew ?_ | refine blk_alloc ?_ _)); exact BK119.out)) : gb119 ≠ gb120)); have n6_ := Aside0.mk ((by rw [hg]; exact Nat.ne_of_gt (blk_lt (g := gb119) (o := .cells #[.bool false, .slice A0_1 l0_1.length c0_1] 26 (0, 0)) (by (with_reducible repeat (first | refine blk_drewN ?_ _ | refine blk_drew ?_ | refine blk_alloc ?_ _)); exact BK119.out)) : gb120 ≠ gb119)); clear BK119; clear HB; have BK119 := n0_; have HB := n1_; have BK120 := n2_; have GW120 := n3_; have GE120 := n4_; have NB119_120 := n5_; have NB120_119 := n6_; clear n0_ n1_ n2_ n3_ n4_ n5_ n6_; clear hb hbox hg; have hnb19 := NB119_120.out; have hnc19 := NB120_119.out; have hcz20_0 : w18.cell? ⟨gb119, 0, none⟩ = some (.bool false) := (blk_cell BK119.out 0).trans rfl; have hcz20_1 : w18.cell? ⟨gb119, 1, none⟩ = some (.slice A0_1 l0_1.length c0_1) := (blk_cell BK119.out 1).trans rfl; have hfz20_0 := blk_frozen BK119.out 0; have hfz20_1 := blk_frozen BK119.out 1; have hcz21_0 : w18.cell? ⟨gb120, 0, none⟩ = some (.bool a1_0) := (blk_cell BK120.out 0).trans rfl; have hcz21_1 : w18.cell? ⟨gb120, 1, none⟩ = some (.slice A1_1 l1_1.length c1_1) := (blk_cell BK120.out 1).trans rfl; have hfz21_0 := blk_frozen BK120.out 0; have hfz21_1 := blk_frozen BK120.out 1))
    go_ret
    exact ⟨by first | rfl | (simp [errW_none, errW_some] <;> rfl) | (simp [*, errW_none, errW_some] <;> rfl), by repeat (first | (with_reducible first | exact HB.out | apply below_alloc | apply pw_below_drewN | apply below_drew1 | refine below_set ?_ GE119.out | refine below_set ?_ GE120.out) | exact HB.out)⟩
/-! ### tags_Same: function 39 -/
def tags_Same.f (a0_0 : ByteArray) (a0_1 : Int) (a0_2 : Int) (a0_3 : Int) (a0_4 : Bool) (l0_5 : List Int) (a1_0 : ByteArray) (a1_1 : Int) (a1_2 : Int) (a1_3 : Int) (a1_4 : Bool) (l1_5 : List Int) : Option (Bool) := if a0_0.toList = a1_0.toList then (if (a0_1 == a1_1 && (a0_2 == a1_2 && (a0_3 == a1_3))) = true then ((tags_SameVal.f a0_4 l0_5 a1_4 l1_5).bind fun t123 => (some t123)) else (some false)) else (some false)
set_option maxHeartbeats 8000000 in
set_option maxRecDepth 100000 in
theorem tags_Same.calls (a0_0 : ByteArray) (a0_1 : Int) (a0_2 : Int) (a0_3 : Int) (a0_4 : Bool) (A0_5 : Option Addr) (c0_5 : Nat) (l0_5 : List Int) (a1_0 : ByteArray) (a1_1 : Int) (a1_2 : Int) (a1_3 : Int) (a1_4 : Bool) (A1_5 : Option Addr) (c1_5 : Nat) (l1_5 : List Int) (r : Bool) (w : World) (hr0_5 : Kd.C (Kd.int .u8) w A0_5 l0_5.length l0_5) (hc0_5 : l0_5.length ≤ c0_5) (hr1_5 : Kd.C (Kd.int .u8) w A1_5 l1_5.length l1_5) (hc1_5 : l1_5.length ≤ c1_5) (h : tags_Same.f a0_0 a0_1 a0_2 a0_3 a0_4 l0_5 a1_0 a1_1 a1_2 a1_3 a1_4 l1_5 = some r) :
    Calls Tryd.prog 39 #[.agg #[.string a0_0, .int .i64 a0_1, .int .i64 a0_2, .int .i64 a0_3, .bool a0_4, .slice A0_5 l0_5.length c0_5], .agg #[.string a1_0, .int .i64 a1_1, .int .i64 a1_2, .int .i64 a1_3, .bool a1_4, .slice A1_5 l1_5.length c1_5]] w fun e w' => e = .returned (.bool r) ∧ Below w.heap.size w w' := by
  have hu28 := Tryd.underlying28
  have hu23 := Tryd.underlying23
  have hu26 := Tryd.underlying26
  have HR0_5 := Aside0.mk hr0_5
  have HC0_5 := Aside0.mk hc0_5
  clear hr0_5 hc0_5
  have HR1_5 := Aside0.mk hr1_5
  have HC1_5 := Aside0.mk hc1_5
  clear hr1_5 hc1_5
  have HB := Aside0.mk (Below.refl w.heap.size w)
  have H : (if a0_0.toList = a1_0.toList then (if (a0_1 == a1_1 && (a0_2 == a1_2 && (a0_3 == a1_3))) = true then ((tags_SameVal.f a0_4 l0_5 a1_4 l1_5).bind fun t123 => (some t123)) else (some false)) else (some false)) = some r := h
  clear h
  by_cases c3 : a0_0.toList = a1_0.toList
  · rw [if_pos c3] at H
    have c3b0 : (a0_0.toList == a1_0.toList) = true := beq_iff_eq.mpr c3
    have c3b1 : (a0_0.toList != a1_0.toList) = false := bne_eq_false_iff_eq.mpr c3
    clear c3
    by_cases c4 : (a0_1 == a1_1 && (a0_2 == a1_2 && (a0_3 == a1_3))) = true
    · rw [if_pos c4] at H
      have c4b0 : (a0_1 == a1_1 && (a0_2 == a1_2 && (a0_3 == a1_3))) = true := c4
      (try (have c4b1 : decide (a0_1 = a1_1 && (a0_2 == a1_2 && (a0_3 == a1_3))) = true := by simpa using c4))
      (try (have c4b2 : (a0_1 == a1_1 && (a0_2 == a1_2 && (a0_3 == a1_3))) = true := by simpa using c4))
      clear c4
      replace H := Option.bind_eq_some_iff.mp H
      obtain ⟨t123, A50, H⟩ := H
      replace H : (some t123) = some r := H
      have A5 := Aside0.mk A50
      clear A50
      obtain rfl := Option.some.inj H
      go_enter Tryd.func39, Tryd.ntmps39
      go_wp2_with (first | ((with_reducible refine gate_dst (N := 2) rfl ?_); refine box_event ?hg (N := 2) ?hd (cs := #[.string a0_0, .int .i64 a0_1, .int .i64 a0_2, .int .i64 a0_3, .bool a0_4, .slice A0_5 l0_5.length c0_5]) (t := 28) ?hr ?_; (case hd => rfl); (case hg => rfl); (case hr => first | (go_simp; done) | (go_simp; rfl)); intro gb121 hg w6 hbox hb; have n0_ := Aside0.mk (below_step (by repeat (first | (with_reducible first | exact HB.out | apply below_alloc | apply pw_below_drewN | apply below_drew1) | exact HB.out)) hb); have n1_ := Aside0.mk (hbox); have n2_ := Aside0.mk ((by rw [hg]; exact (below_size (by repeat (first | (with_reducible first | exact HB.out | apply below_alloc | apply pw_below_drewN | apply below_drew1) | exact HB.out))) : w.heap.size ≤ gb121)); have n3_ := Aside0.mk ((by rw [hg]; exact (below_size (by repeat (first | (with_reducible first | exact HB.out | apply below_alloc | apply pw_below_drewN | apply below_drew1) | exact HB.out))) : w.heap.size ≤ gb121)); clear HB; have HB := n0_; have BK121 := n1_; have GW121 := n2_; have GE121 := n3_; clear n0_ n1_ n2_ n3_; clear hb hbox hg) | ((with_reducible refine gate_dst (N := 3) rfl ?_); refine box_event ?hg (N := 3) ?hd (cs := #[.string a1_0, .int .i64 a1_1, .int .i64 a1_2, .int .i64 a1_3, .bool a1_4, .slice A1_5 l1_5.length c1_5]) (t := 28) ?hr ?_; (case hd => rfl); (case hg => rfl); (case hr => first | (go_simp; done) | (go_simp; rfl)); intro gb122 hg w7 hbox hb; have n0_ := Aside0.mk (blk_below (g := gb121) (o := .cells #[.string a0_0, .int .i64 a0_1, .int .i64 a0_2, .int .i64 a0_3, .bool a0_4, .slice A0_5 l0_5.length c0_5] 28 (0, 0)) (by (with_reducible repeat (first | refine blk_drewN ?_ _ | refine blk_drew ?_ | refine blk_alloc ?_ _)); exact BK121.out) hb); have n1_ := Aside0.mk (below_step (by repeat (first | (with_reducible first | exact HB.out | apply below_alloc | apply pw_below_drewN | apply below_drew1 | refine below_set ?_ GE121.out) | exact HB.out)) hb); have n2_ := Aside0.mk (hbox); have n3_ := Aside0.mk ((by rw [hg]; exact (below_size (by repeat (first | (with_reducible first | exact HB.out | apply below_alloc | apply pw_below_drewN | apply below_drew1 | refine below_set ?_ GE121.out) | exact HB.out))) : w.heap.size ≤ gb122)); have n4_ := Aside0.mk ((by rw [hg]; exact (below_size (by repeat (first | (with_reducible first | exact HB.out | apply below_alloc | apply pw_below_drewN | apply below_drew1 | refine below_set ?_ GE121.out) | exact HB.out))) : w.heap.size ≤ gb122)); have n5_ := Aside0.mk ((by rw [hg]; exact Nat.ne_of_lt (blk_lt (g := gb121) (o := .cells #[.string a0_0, .int .i64 a0_1, .int .i64 a0_2, .int .i64 a0_3, .bool a0_4, .slice A0_5 l0_5.length c0_5] 28 (0, 0)) (by (with_reducible repeat (first | refine blk_drewN ?_ _ | refine blk_drew ?_ | refine blk_alloc ?_ _)); exact BK121.out)) : gb121 ≠ gb122)); have n6_ := Aside0.mk ((by rw [hg]; exact Nat.ne_of_gt (blk_lt (g := gb121) (o := .cells #[.string a0_0, .int .i64 a0_1, .int .i64 a0_2, .int .i64 a0_3, .bool a0_4, .slice A0_5 l0_5.length c0_5] 28 (0, 0)) (by (with_reducible repeat (first | refine blk_drewN ?_ _ | refine blk_drew ?_ | refine blk_alloc ?_ _)); exact BK121.out)) : gb122 ≠ gb121)); clear BK121; clear HB; have BK121 := n0_; have HB := n1_; have BK122 := n2_; have GW122 := n3_; have GE122 := n4_; have NB121_122 := n5_; have NB122_121 := n6_; clear n0_ n1_ n2_ n3_ n4_ n5_ n6_; clear hb hbox hg; have hnb8 := NB121_122.out; have hnc8 := NB122_121.out; have hcz9_0 : w7.cell? ⟨gb121, 0, none⟩ = some (.string a0_0) := (blk_cell BK121.out 0).trans rfl; have hcz9_1 : w7.cell? ⟨gb121, 1, none⟩ = some (.int .i64 a0_1) := (blk_cell BK121.out 1).trans rfl; have hcz9_2 : w7.cell? ⟨gb121, 2, none⟩ = some (.int .i64 a0_2) := (blk_cell BK121.out 2).trans rfl; have hcz9_3 : w7.cell? ⟨gb121, 3, none⟩ = some (.int .i64 a0_3) := (blk_cell BK121.out 3).trans rfl; have hcz9_4 : w7.cell? ⟨gb121, 4, none⟩ = some (.bool a0_4) := (blk_cell BK121.out 4).trans rfl; have hcz9_5 : w7.cell? ⟨gb121, 5, none⟩ = some (.slice A0_5 l0_5.length c0_5) := (blk_cell BK121.out 5).trans rfl; have hfz9_0 := blk_frozen BK121.out 0; have hfz9_1 := blk_frozen BK121.out 1; have hfz9_2 := blk_frozen BK121.out 2; have hfz9_3 := blk_frozen BK121.out 3; have hfz9_4 := blk_frozen BK121.out 4; have hfz9_5 := blk_frozen BK121.out 5; have hcz10_0 : w7.cell? ⟨gb122, 0, none⟩ = some (.string a1_0) := (blk_cell BK122.out 0).trans rfl; have hcz10_1 : w7.cell? ⟨gb122, 1, none⟩ = some (.int .i64 a1_1) := (blk_cell BK122.out 1).trans rfl; have hcz10_2 : w7.cell? ⟨gb122, 2, none⟩ = some (.int .i64 a1_2) := (blk_cell BK122.out 2).trans rfl; have hcz10_3 : w7.cell? ⟨gb122, 3, none⟩ = some (.int .i64 a1_3) := (blk_cell BK122.out 3).trans rfl; have hcz10_4 : w7.cell? ⟨gb122, 4, none⟩ = some (.bool a1_4) := (blk_cell BK122.out 4).trans rfl; have hcz10_5 : w7.cell? ⟨gb122, 5, none⟩ = some (.slice A1_5 l1_5.length c1_5) := (blk_cell BK122.out 5).trans rfl; have hfz10_0 := blk_frozen BK122.out 0; have hfz10_1 := blk_frozen BK122.out 1; have hfz10_2 := blk_frozen BK122.out 2; have hfz10_3 := blk_frozen BK122.out 3; have hfz10_4 := blk_frozen BK122.out 4; have hfz10_5 := blk_frozen BK122.out 5) | (go_at_call 63; (with_reducible refine (tags_SameVal.calls a0_4 _ _ l0_5 a1_4 _ _ l1_5 t123 _ ?side1 ?side2 ?side3 ?side4 A5.out).mono ?_); (case side1 => repeat (first | exact (Kd.C_below HR0_5.out HB.out) | (with_reducible refine Kd.C_alloc ?_ _) | (with_reducible refine Kd.C_drewN ?_ _) | (with_reducible refine Kd.C_drew ?_))); (case side2 => exact HC0_5.out); (case side3 => repeat (first | exact (Kd.C_below HR1_5.out HB.out) | (with_reducible refine Kd.C_alloc ?_ _) | (with_reducible refine Kd.C_drewN ?_ _) | (with_reducible refine Kd.C_drew ?_))); (case side4 => exact HC1_5.out); rintro e w11 ⟨rfl, hb⟩; have n0_ := Aside0.mk (blk_below (g := gb121) (o := .cells #[.string a0_0, .int .i64 a0_1, .int .i64 a0_2, .int .i64 a0_3, .bool a0_4, .slice A0_5 l0_5.length c0_5] 28 (0, 0)) (by (with_reducible repeat (first | refine blk_drewN ?_ _ | refine blk_drew ?_ | refine blk_alloc ?_ _)); exact BK121.out) hb); have n1_ := Aside0.mk (blk_below (g := gb122) (o := .cells #[.string a1_0, .int .i64 a1_1, .int .i64 a1_2, .int .i64 a1_3, .bool a1_4, .slice A1_5 l1_5.length c1_5] 28 (0, 0)) (by (with_reducible repeat (first | refine blk_drewN ?_ _ | refine blk_drew ?_ | refine blk_alloc ?_ _)); exact BK122.out) hb); have n2_ := Aside0.mk (below_step (by repeat (first | (with_reducible first | exact HB.out | apply below_alloc | apply pw_below_drewN | apply below_drew1 | refine below_set ?_ GE121.out | refine below_set ?_ GE122.out) | exact HB.out)) hb); clear BK121; clear BK122; clear HB; have BK121 := n0_; have BK122 := n1_; have HB := n2_; clear n0_ n1_ n2_; (try clear hb); (try clear hb2); (try clear hk); (try clear hi)))
      go_ret
      exact ⟨by first | rfl | (simp [errW_none, errW_some] <;> rfl) | (simp [*, errW_none, errW_some] <;> rfl), by repeat (first | (with_reducible first | exact HB.out | apply below_alloc | apply pw_below_drewN | apply below_drew1 | refine below_set ?_ GE121.out | refine below_set ?_ GE122.out) | exact HB.out)⟩
    · rw [if_neg c4] at H
      have c4b0 : (a0_1 == a1_1 && (a0_2 == a1_2 && (a0_3 == a1_3))) = false := by simpa using c4
      (try (have c4b1 : decide (a0_1 = a1_1 && (a0_2 == a1_2 && (a0_3 == a1_3))) = false := by simpa using c4))
      (try (have c4b2 : (a0_1 == a1_1 && (a0_2 == a1_2 && (a0_3 == a1_3))) = false := by simpa using c4))
      (try (have c4b3 : ¬ (a0_1 = a1_1 && (a0_2 == a1_2 && (a0_3 == a1_3))) := by simpa using c4))
      clear c4
      obtain rfl := Option.some.inj H
      go_enter Tryd.func39, Tryd.ntmps39
      go_wp2_with (first | ((with_reducible refine gate_dst (N := 2) rfl ?_); refine box_event ?hg (N := 2) ?hd (cs := #[.string a0_0, .int .i64 a0_1, .int .i64 a0_2, .int .i64 a0_3, .bool a0_4, .slice A0_5 l0_5.length c0_5]) (t := 28) ?hr ?_; (case hd => rfl); (case hg => rfl); (case hr => first | (go_simp; done) | (go_simp; rfl)); intro gb121 hg w12 hbox hb; have n0_ := Aside0.mk (below_step (by repeat (first | (with_reducible first | exact HB.out | apply below_alloc | apply pw_below_drewN | apply below_drew1) | exact HB.out)) hb); have n1_ := Aside0.mk (hbox); have n2_ := Aside0.mk ((by rw [hg]; exact (below_size (by repeat (first | (with_reducible first | exact HB.out | apply below_alloc | apply pw_below_drewN | apply below_drew1) | exact HB.out))) : w.heap.size ≤ gb121)); have n3_ := Aside0.mk ((by rw [hg]; exact (below_size (by repeat (first | (with_reducible first | exact HB.out | apply below_alloc | apply pw_below_drewN | apply below_drew1) | exact HB.out))) : w.heap.size ≤ gb121)); clear HB; have HB := n0_; have BK121 := n1_; have GW121 := n2_; have GE121 := n3_; clear n0_ n1_ n2_ n3_; clear hb hbox hg) | ((with_reducible refine gate_dst (N := 3) rfl ?_); refine box_event ?hg (N := 3) ?hd (cs := #[.string a1_0, .int .i64 a1_1, .int .i64 a1_2, .int .i64 a1_3, .bool a1_4, .slice A1_5 l1_5.length c1_5]) (t := 28) ?hr ?_; (case hd => rfl); (case hg => rfl); (case hr => first | (go_simp; done) | (go_simp; rfl)); intro gb122 hg w13 hbox hb; have n0_ := Aside0.mk (blk_below (g := gb121) (o := .cells #[.string a0_0, .int .i64 a0_1, .int .i64 a0_2, .int .i64 a0_3, .bool a0_4, .slice A0_5 l0_5.length c0_5] 28 (0, 0)) (by (with_reducible repeat (first | refine blk_drewN ?_ _ | refine blk_drew ?_ | refine blk_alloc ?_ _)); exact BK121.out) hb); have n1_ := Aside0.mk (below_step (by repeat (first | (with_reducible first | exact HB.out | apply below_alloc | apply pw_below_drewN | apply below_drew1 | refine below_set ?_ GE121.out) | exact HB.out)) hb); have n2_ := Aside0.mk (hbox); have n3_ := Aside0.mk ((by rw [hg]; exact (below_size (by repeat (first | (with_reducible first | exact HB.out | apply below_alloc | apply pw_below_drewN | apply below_drew1 | refine below_set ?_ GE121.out) | exact HB.out))) : w.heap.size ≤ gb122)); have n4_ := Aside0.mk ((by rw [hg]; exact (below_size (by repeat (first | (with_reducible first | exact HB.out | apply below_alloc | apply pw_below_drewN | apply below_drew1 | refine below_set ?_ GE121.out) | exact HB.out))) : w.heap.size ≤ gb122)); have n5_ := Aside0.mk ((by rw [hg]; exact Nat.ne_of_lt (blk_lt (g := gb121) (o := .cells #[.string a0_0, .int .i64 a0_1, .int .i64 a0_2, .int .i64 a0_3, .bool a0_4, .slice A0_5 l0_5.length c0_5] 28 (0, 0)) (by (with_reducible repeat (first | refine blk_drewN ?_ _ | refine blk_drew ?_ | refine blk_alloc ?_ _)); exact BK121.out)) : gb121 ≠ gb122)); have n6_ := Aside0.mk ((by rw [hg]; exact Nat.ne_of_gt (blk_lt (g := gb121) (o := .cells #[.string a0_0, .int .i64 a0_1, .int .i64 a0_2, .int .i64 a0_3, .bool a0_4, .slice A0_5 l0_5.length c0_5] 28 (0, 0)) (by (with_reducible repeat (first | refine blk_drewN ?_ _ | refine blk_drew ?_ | refine blk_alloc ?_ _)); exact BK121.out)) : gb122 ≠ gb121)); clear BK121; clear HB; have BK121 := n0_; have HB := n1_; have BK122 := n2_; have GW122 := n3_; have GE122 := n4_; have NB121_122 := n5_; have NB122_121 := n6_; clear n0_ n1_ n2_ n3_ n4_ n5_ n6_; clear hb hbox hg; have hnb14 := NB121_122.out; have hnc14 := NB122_121.out; have hcz15_0 : w13.cell? ⟨gb121, 0, none⟩ = some (.string a0_0) := (blk_cell BK121.out 0).trans rfl; have hcz15_1 : w13.cell? ⟨gb121, 1, none⟩ = some (.int .i64 a0_1) := (blk_cell BK121.out 1).trans rfl; have hcz15_2 : w13.cell? ⟨gb121, 2, none⟩ = some (.int .i64 a0_2) := (blk_cell BK121.out 2).trans rfl; have hcz15_3 : w13.cell? ⟨gb121, 3, none⟩ = some (.int .i64 a0_3) := (blk_cell BK121.out 3).trans rfl; have hcz15_4 : w13.cell? ⟨gb121, 4, none⟩ = some (.bool a0_4) := (blk_cell BK121.out 4).trans rfl; have hcz15_5 : w13.cell? ⟨gb121, 5, none⟩ = some (.slice A0_5 l0_5.length c0_5) := (blk_cell BK121.out 5).trans rfl; have hfz15_0 := blk_frozen BK121.out 0; have hfz15_1 := blk_frozen BK121.out 1; have hfz15_2 := blk_frozen BK121.out 2; have hfz15_3 := blk_frozen BK121.out 3; have hfz15_4 := blk_frozen BK121.out 4; have hfz15_5 := blk_frozen BK121.out 5; have hcz16_0 : w13.cell? ⟨gb122, 0, none⟩ = some (.string a1_0) := (blk_cell BK122.out 0).trans rfl; have hcz16_1 : w13.cell? ⟨gb122, 1, none⟩ = some (.int .i64 a1_1) := (blk_cell BK122.out 1).trans rfl; have hcz16_2 : w13.cell? ⟨gb122, 2, none⟩ = some (.int .i64 a1_2) := (blk_cell BK122.out 2).trans rfl; have hcz16_3 : w13.cell? ⟨gb122, 3, none⟩ = some (.int .i64 a1_3) := (blk_cell BK122.out 3).trans rfl; have hcz16_4 : w13.cell? ⟨gb122, 4, none⟩ = some (.bool a1_4) := (blk_cell BK122.out 4).trans rfl; have hcz16_5 : w13.cell? ⟨gb122, 5, none⟩ = some (.slice A1_5 l1_5.length c1_5) := (blk_cell BK122.out 5).trans rfl; have hfz16_0 := blk_frozen BK122.out 0; have hfz16_1 := blk_frozen BK122.out 1; have hfz16_2 := blk_frozen BK122.out 2; have hfz16_3 := blk_frozen BK122.out 3; have hfz16_4 := blk_frozen BK122.out 4; have hfz16_5 := blk_frozen BK122.out 5))
      go_ret
      exact ⟨by first | rfl | (simp [errW_none, errW_some] <;> rfl) | (simp [*, errW_none, errW_some] <;> rfl), by repeat (first | (with_reducible first | exact HB.out | apply below_alloc | apply pw_below_drewN | apply below_drew1 | refine below_set ?_ GE121.out | refine below_set ?_ GE122.out) | exact HB.out)⟩
  · rw [if_neg c3] at H
    have c3b0 : (a0_0.toList == a1_0.toList) = false := beq_eq_false_iff_ne.mpr c3
    have c3b1 : (a0_0.toList != a1_0.toList) = true := bne_iff_ne.mpr c3
    obtain rfl := Option.some.inj H
    go_enter Tryd.func39, Tryd.ntmps39
    go_wp2_with (first | ((with_reducible refine gate_dst (N := 2) rfl ?_); refine box_event ?hg (N := 2) ?hd (cs := #[.string a0_0, .int .i64 a0_1, .int .i64 a0_2, .int .i64 a0_3, .bool a0_4, .slice A0_5 l0_5.length c0_5]) (t := 28) ?hr ?_; (case hd => rfl); (case hg => rfl); (case hr => first | (go_simp; done) | (go_simp; rfl)); intro gb121 hg w17 hbox hb; have n0_ := Aside0.mk (below_step (by repeat (first | (with_reducible first | exact HB.out | apply below_alloc | apply pw_below_drewN | apply below_drew1) | exact HB.out)) hb); have n1_ := Aside0.mk (hbox); have n2_ := Aside0.mk ((by rw [hg]; exact (below_size (by repeat (first | (with_reducible first | exact HB.out | apply below_alloc | apply pw_below_drewN | apply below_drew1) | exact HB.out))) : w.heap.size ≤ gb121)); have n3_ := Aside0.mk ((by rw [hg]; exact (below_size (by repeat (first | (with_reducible first | exact HB.out | apply below_alloc | apply pw_below_drewN | apply below_drew1) | exact HB.out))) : w.heap.size ≤ gb121)); clear HB; have HB := n0_; have BK121 := n1_; have GW121 := n2_; have GE121 := n3_; clear n0_ n1_ n2_ n3_; clear hb hbox hg) | ((with_reducible refine gate_dst (N := 3) rfl ?_); refine box_event ?hg (N := 3) ?hd (cs := #[.string a1_0, .int .i64 a1_1, .int .i64 a1_2, .int .i64 a1_3, .bool a1_4, .slice A1_5 l1_5.length c1_5]) (t := 28) ?hr ?_; (case hd => rfl); (case hg => rfl); (case hr => first | (go_simp; done) | (go_simp; rfl)); intro gb122 hg w18 hbox hb; have n0_ := Aside0.mk (blk_below (g := gb121) (o := .cells #[.string a0_0, .int .i64 a0_1, .int .i64 a0_2, .int .i64 a0_3, .bool a0_4, .slice A0_5 l0_5.length c0_5] 28 (0, 0)) (by (with_reducible repeat (first | refine blk_drewN ?_ _ | refine blk_drew ?_ | refine blk_alloc ?_ _)); exact BK121.out) hb); have n1_ := Aside0.mk (below_step (by repeat (first | (with_reducible first | exact HB.out | apply below_alloc | apply pw_below_drewN | apply below_drew1 | refine below_set ?_ GE121.out) | exact HB.out)) hb); have n2_ := Aside0.mk (hbox); have n3_ := Aside0.mk ((by rw [hg]; exact (below_size (by repeat (first | (with_reducible first | exact HB.out | apply below_alloc | apply pw_below_drewN | apply below_drew1 | refine below_set ?_ GE121.out) | exact HB.out))) : w.heap.size ≤ gb122)); have n4_ := Aside0.mk ((by rw [hg]; exact (below_size (by repeat (first | (with_reducible first | exact HB.out | apply below_alloc | apply pw_below_drewN | apply below_drew1 | refine below_set ?_ GE121.out) | exact HB.out))) : w.heap.size ≤ gb122)); have n5_ := Aside0.mk ((by rw [hg]; exact Nat.ne_of_lt (blk_lt (g := gb121) (o := .cells #[.string a0_0, .int .i64 a0_1, .int .i64 a0_2, .int .i64 a0_3, .bool a0_4, .slice A0_5 l0_5.length c0_5] 28 (0, 0)) (by (with_reducible repeat (first | refine blk_drewN ?_ _ | refine blk_drew ?_ | refine blk_alloc ?_ _)); exact BK121.out)) : gb121 ≠ gb122)); have n6_ := Aside0.mk ((by rw [hg]; exact Nat.ne_of_gt (blk_lt (g := gb121) (o := .cells #[.string a0_0, .int .i64 a0_1, .int .i64 a0_2, .int .i64 a0_3, .bool a0_4, .slice A0_5 l0_5.length c0_5] 28 (0, 0)) (by (with_reducible repeat (first | refine blk_drewN ?_ _ | refine blk_drew ?_ | refine blk_alloc ?_ _)); exact BK121.out)) : gb122 ≠ gb121)); clear BK121; clear HB; have BK121 := n0_; have HB := n1_; have BK122 := n2_; have GW122 := n3_; have GE122 := n4_; have NB121_122 := n5_; have NB122_121 := n6_; clear n0_ n1_ n2_ n3_ n4_ n5_ n6_; clear hb hbox hg; have hnb19 := NB121_122.out; have hnc19 := NB122_121.out; have hcz20_0 : w18.cell? ⟨gb121, 0, none⟩ = some (.string a0_0) := (blk_cell BK121.out 0).trans rfl; have hcz20_1 : w18.cell? ⟨gb121, 1, none⟩ = some (.int .i64 a0_1) := (blk_cell BK121.out 1).trans rfl; have hcz20_2 : w18.cell? ⟨gb121, 2, none⟩ = some (.int .i64 a0_2) := (blk_cell BK121.out 2).trans rfl; have hcz20_3 : w18.cell? ⟨gb121, 3, none⟩ = some (.int .i64 a0_3) := (blk_cell BK121.out 3).trans rfl; have hcz20_4 : w18.cell? ⟨gb121, 4, none⟩ = some (.bool a0_4) := (blk_cell BK121.out 4).trans rfl; have hcz20_5 : w18.cell? ⟨gb121, 5, none⟩ = some (.slice A0_5 l0_5.length c0_5) := (blk_cell BK121.out 5).trans rfl; have hfz20_0 := blk_frozen BK121.out 0; have hfz20_1 := blk_frozen BK121.out 1; have hfz20_2 := blk_frozen BK121.out 2; have hfz20_3 := blk_frozen BK121.out 3; have hfz20_4 := blk_frozen BK121.out 4; have hfz20_5 := blk_frozen BK121.out 5; have hcz21_0 : w18.cell? ⟨gb122, 0, none⟩ = some (.string a1_0) := (blk_cell BK122.out 0).trans rfl; have hcz21_1 : w18.cell? ⟨gb122, 1, none⟩ = some (.int .i64 a1_1) := (blk_cell BK122.out 1).trans rfl; have hcz21_2 : w18.cell? ⟨gb122, 2, none⟩ = some (.int .i64 a1_2) := (blk_cell BK122.out 2).trans rfl; have hcz21_3 : w18.cell? ⟨gb122, 3, none⟩ = some (.int .i64 a1_3) := (blk_cell BK122.out 3).trans rfl; have hcz21_4 : w18.cell? ⟨gb122, 4, none⟩ = some (.bool a1_4) := (blk_cell BK122.out 4).trans rfl; have hcz21_5 : w18.cell? ⟨gb122, 5, none⟩ = some (.slice A1_5 l1_5.length c1_5) := (blk_cell BK122.out 5).trans rfl; have hfz21_0 := blk_frozen BK122.out 0; have hfz21_1 := blk_frozen BK122.out 1; have hfz21_2 := blk_frozen BK122.out 2; have hfz21_3 := blk_frozen BK122.out 3; have hfz21_4 := blk_frozen BK122.out 4; have hfz21_5 := blk_frozen BK122.out 5))
    go_ret
    exact ⟨by first | rfl | (simp [errW_none, errW_some] <;> rfl) | (simp [*, errW_none, errW_some] <;> rfl), by repeat (first | (with_reducible first | exact HB.out | apply below_alloc | apply pw_below_drewN | apply below_drew1 | refine below_set ?_ GE121.out | refine below_set ?_ GE122.out) | exact HB.out)⟩
/-! ### pack_Num: function 29 -/
def pack_Num.l0 : Nat → Int → List Int → Int → Option (List Int)
  | 0, _, _, _ => none
  | k + 1, x0, x3, x4 => if x4 ≥ 0 then (if 0 ≤ x4 then (if ((shr .u64 (IntKind.u64.wrap (x0)) x4) % 256) = 0 then (if (x3.length : Int) > 1 then (if x3.length < 140737488355328 then (pack_Num.l0 k x0 (x3 ++ [(shr .u64 (IntKind.u64.wrap (x0)) x4) % 256]) (wrap64 (x4 - 8))) else (none)) else (pack_Num.l0 k x0 x3 (wrap64 (x4 - 8)))) else (if x3.length < 140737488355328 then (pack_Num.l0 k x0 (x3 ++ [(shr .u64 (IntKind.u64.wrap (x0)) x4) % 256]) (wrap64 (x4 - 8))) else (none))) else (none)) else (if 0 < (x3.length : Int) then (some (x3.set (0 : Int).toNat ((wrap64 ((x3.length : Int) - 1)) % 256))) else (none))
def pack_Num.f (k : Nat) (a0 : Int) : Option (List Int) := pack_Num.l0 k a0 (([0] : List Int)) 56
set_option maxHeartbeats 8000000 in
set_option maxRecDepth 100000 in
theorem pack_Num.calls (k : Nat) (a0 : Int) (r : List Int) (w : World) (h : pack_Num.f k a0 = some r) :
    Calls Tryd.prog 29 #[.int .i64 a0] w fun e w' => ∃ v0_ : Value, e = .returned (v0_) ∧ Kd.R (Kd.int .u8) 5 w' w.heap.size (fun _ => True) v0_ r ∧ Below w.heap.size w w' := by
  have HB := Aside0.mk (Below.refl w.heap.size w)
  have H : (pack_Num.l0 k a0 (([0] : List Int)) 56) = some r := h
  clear h
  obtain ⟨y124, hy124⟩ : ∃ y_ : List Int, y_ = (([0] : List Int)) := ⟨_, rfl⟩
  replace H : (pack_Num.l0 k a0 y124 56) = some r := by first | (rw [hy124]; with_reducible exact H) | (have H2_ := (Option.bind_some _ _).symm.trans H; rw [hy124]; with_reducible exact H2_) | (have H2_ := (Option.bind_some _ _).symm.trans H; with_reducible exact H2_) | with_reducible exact H | (rw [hy124]; exact H) | exact H
  have Ny124 := Aside0.mk hy124
  clear hy124
  have H' := Aside0.mk H
  clear H
  go_enter Tryd.func29, Tryd.ntmps29
  go_wp2_with (first | ((with_reducible refine gate_dst (N := 6) rfl ?_); (try (refine gate_guard (by rfl) ?_; dsimp only)); refine Kd.R_lit (Kd.int .u8) _ 5 ?hg (N := 6) ?hd (xs := ([0] : List Int)) (inner := [.int .u8 0]) (ok := fun _ => True) (okp := fun _ => True) ?hr ?hp (fun _ hk => hk) trivial (Below.refl _ _) (Nat.le_refl _) (by simp) ?_; (case hd => rfl); (case hg => rfl); (case hr => first | (go_simp; done) | (go_simp; rfl)); (case hp => exact (Reps.one (show Kd.M (Kd.int .u8) _ _ _ 0 [.int .u8 0] from rfl) (Reps.none _ _))); intro v125 w2 ho3 hb hg_ hnew_; clear hg_ hnew_; (first | rw [← Ny124.out] at ho3 | (simp only [Int.reduceToNat] at ho3; rw [← Ny124.out] at ho3)); have n0_ := Aside0.mk (Kd.R_lower ho3 (below_size (by repeat (first | (with_reducible first | exact HB.out | apply below_alloc | apply pw_below_drewN | apply below_drew1) | exact HB.out)))); have n1_ := Aside0.mk (below_step (by repeat (first | (with_reducible first | exact HB.out | apply below_alloc | apply pw_below_drewN | apply below_drew1) | exact HB.out)) hb); clear HB; have HO126 := n0_; have HB := n1_; clear n0_ n1_; clear hb ho3))
  go_loopg [3, 4] k (fun kq v3 v4 w' => ∃ (x3_1 : List Int) (x4_1 : Int), v4 = .int .i64 x4_1 ∧ Aside0 (pack_Num.l0 kq a0 x3_1 x4_1 = some r) ∧ Aside0 (kq ≤ k) ∧ Aside0 (Kd.R (Kd.int .u8) 5 w' w.heap.size (fun _ => True) v3 x3_1) ∧ Aside0 (Below w.heap.size w w'))
  case atStart => exact ⟨(y124), (56), (by first | rfl | (simp; done) | (simp [*]; done)), H', ⟨Nat.le_refl _⟩, ⟨by (with_reducible repeat (first | apply Kd.R_alloc | apply Kd.R_drewN | apply Kd.R_drew)); exact HO126.out⟩, ⟨by repeat (first | (with_reducible first | exact HB.out | apply below_alloc | apply pw_below_drewN | apply below_drew1) | exact HB.out)⟩⟩
  case round =>
    clear H'
    try clear c2
    try clear p2
    obtain ⟨x3_1, x4_1, rfl, HA, HK1, HO_3, HB⟩ := hrel
    cases gk with
    | zero => exact absurd HA.out (by simp [pack_Num.l0])
    | succ k1 =>
      have H := HA.out
      clear HA
      simp only [pack_Num.l0] at H
      by_cases c4 : x4_1 ≥ 0
      · rw [if_pos c4] at H
        have c4b0 : decide (0 ≤ x4_1) = true := decide_eq_true c4
        clear c4
        by_cases c5 : 0 ≤ x4_1
        · rw [if_pos c5] at H
          have c5b0 := eq_true c5
          have c5b1 : decide (0 ≤ x4_1) = true := decide_eq_true c5
          clear c5
          obtain ⟨ji6, hji6⟩ : ∃ j_ : Int, (shr .u64 (IntKind.u64.wrap (a0)) x4_1) = j_ := ⟨_, rfl⟩
          replace H : (if ((ji6) % 256) = 0 then (if (x3_1.length : Int) > 1 then (if x3_1.length < 140737488355328 then (pack_Num.l0 k1 a0 (x3_1 ++ [(ji6) % 256]) (wrap64 (x4_1 - 8))) else (none)) else (pack_Num.l0 k1 a0 x3_1 (wrap64 (x4_1 - 8)))) else (if x3_1.length < 140737488355328 then (pack_Num.l0 k1 a0 (x3_1 ++ [(ji6) % 256]) (wrap64 (x4_1 - 8))) else (none))) = some r := by first | (rw [hji6] at H; exact H) | (simp only [hji6] at H ⊢; exact H)
          have hji6_ : ((IntKind.u64.wrap (a0)) / 2 ^ min x4_1.toNat 64) = ji6 := hji6
          have hji6z : x4_1 ≤ 64 → ((IntKind.u64.wrap (a0)) / 2 ^ x4_1.toNat) = ji6 := shr_small hji6
          by_cases c7 : ((ji6) % 256) = 0
          · rw [if_pos c7] at H
            have c7b0 : (((ji6) % 256) == 0) = true := beq_iff_eq.mpr c7
            have c7b1 : (((ji6) % 256) != 0) = false := bne_eq_false_iff_eq.mpr c7
            clear c7
            by_cases c8 : (x3_1.length : Int) > 1
            · rw [if_pos c8] at H
              have c8b0 : decide (1 < (x3_1.length : Int)) = true := decide_eq_true c8
              have c8b1 : decide (1 < x3_1.length) = true := decide_eq_true (by omega)
              clear c8
              by_cases c9 : x3_1.length < 140737488355328
              · rw [if_pos c9] at H
                have LMc9 := Aside0.mk c9
                clear c9
                obtain ⟨y127, hy127⟩ : ∃ y_ : List Int, y_ = (x3_1 ++ [(ji6) % 256]) := ⟨_, rfl⟩
                replace H : (pack_Num.l0 k1 a0 y127 (wrap64 (x4_1 - 8))) = some r := by first | (rw [hy127]; with_reducible exact H) | (have H2_ := (Option.bind_some _ _).symm.trans H; rw [hy127]; with_reducible exact H2_) | (have H2_ := (Option.bind_some _ _).symm.trans H; with_reducible exact H2_) | with_reducible exact H | (rw [hy127]; exact H) | exact H
                have Ny127 := Aside0.mk hy127
                clear hy127
                have H' := Aside0.mk H
                clear H
                obtain ⟨Ao10, co10, eo10⟩ := Kd.R_slice HO_3.out
                subst eo10
                go_wp2_with (first | ((with_reducible refine gate_builtin (b := .append) (xs := #[.tmp 23, .tmp 25]) rfl ?_); (try (refine gate_guard (by rfl) ?_; dsimp only)); at_builtin; refine Kd.R_append (Kd.int .u8) (w0 := w) w.heap.size rfl (.tmp 23) (.tmp 25) 24 5 (.int .u8 0) 1 rfl Tryd.underlying24 info5 rfl (by decide) (by omega) (.slice Ao10 x3_1.length co10) x3_1 ((ji6) % 256) [.int .u8 ((ji6) % 256)] (fun _ => True) (fun _ => False) rfl rfl ?aP (fun _ hk => hk.elim) ?aF ?aO ?aB ?aS ?aL ?_; (case aP => exact rfl); (case aB => exact (by repeat (first | (with_reducible first | exact HB.out | apply below_alloc | apply pw_below_drewN | apply below_drew1) | exact HB.out))); (case aF => exact (fun _ _ => trivial)); (case aO => exact (by (with_reducible repeat (first | apply Kd.R_alloc | apply Kd.R_drewN | apply Kd.R_drew)); exact HO_3.out)); (case aS => exact (below_size (by repeat (first | (with_reducible first | exact HB.out | apply below_alloc | apply pw_below_drewN | apply below_drew1) | exact HB.out)))); (case aL => have := LMc9.out; omega); intro v128 w11 ho hb hg hat; rw [← Ny127.out] at ho; have n0_ := Aside0.mk (hb); have n1_ := Aside0.mk (ho); clear HB; clear HO_3; have HB := n0_; have HO129 := n1_; clear n0_ n1_; clear ho hb hg hat))
                go_roundg k1
                case measure => have := HK1.out; omega
                case rel => exact ⟨(y127), (wrap64 (x4_1 - 8)), (by first | rfl | (simp; done) | (simp [*]; done)), H', ⟨by have := HK1.out; omega⟩, ⟨by (with_reducible repeat (first | apply Kd.R_alloc | apply Kd.R_drewN | apply Kd.R_drew)); exact HO129.out⟩, ⟨by repeat (first | (with_reducible first | exact HB.out | apply below_alloc | apply pw_below_drewN | apply below_drew1) | exact HB.out)⟩⟩
              · rw [if_neg c9] at H
                exact absurd H (by simp)
            · rw [if_neg c8] at H
              have c8b0 : decide (1 < (x3_1.length : Int)) = false := decide_eq_false c8
              have c8b1 : decide (1 < x3_1.length) = false := decide_eq_false (by omega)
              clear c8
              have H' := Aside0.mk H
              clear H
              obtain ⟨Ao12, co12, eo12⟩ := Kd.R_slice HO_3.out
              subst eo12
              go_wp2
              go_roundg k1
              case measure => have := HK1.out; omega
              case rel => exact ⟨(x3_1), (wrap64 (x4_1 - 8)), (by first | rfl | (simp; done) | (simp [*]; done)), H', ⟨by have := HK1.out; omega⟩, ⟨by (with_reducible repeat (first | apply Kd.R_alloc | apply Kd.R_drewN | apply Kd.R_drew)); exact HO_3.out⟩, ⟨by repeat (first | (with_reducible first | exact HB.out | apply below_alloc | apply pw_below_drewN | apply below_drew1) | exact HB.out)⟩⟩
          · rw [if_neg c7] at H
            have c7b0 : (((ji6) % 256) == 0) = false := beq_eq_false_iff_ne.mpr c7
            have c7b1 : (((ji6) % 256) != 0) = true := bne_iff_ne.mpr c7
            by_cases c13 : x3_1.length < 140737488355328
            · rw [if_pos c13] at H
              have LMc13 := Aside0.mk c13
              clear c13
              obtain ⟨y130, hy130⟩ : ∃ y_ : List Int, y_ = (x3_1 ++ [(ji6) % 256]) := ⟨_, rfl⟩
              replace H : (pack_Num.l0 k1 a0 y130 (wrap64 (x4_1 - 8))) = some r := by first | (rw [hy130]; with_reducible exact H) | (have H2_ := (Option.bind_some _ _).symm.trans H; rw [hy130]; with_reducible exact H2_) | (have H2_ := (Option.bind_some _ _).symm.trans H; with_reducible exact H2_) | with_reducible exact H | (rw [hy130]; exact H) | exact H
              have Ny130 := Aside0.mk hy130
              clear hy130
              have H' := Aside0.mk H
              clear H
              go_wp2_with (first | ((with_reducible refine gate_builtin (b := .append) (xs := #[.tmp 23, .tmp 25]) rfl ?_); (try (refine gate_guard (by rfl) ?_; dsimp only)); at_builtin; refine Kd.R_append (Kd.int .u8) (w0 := w) w.heap.size rfl (.tmp 23) (.tmp 25) 24 5 (.int .u8 0) 1 rfl Tryd.underlying24 info5 rfl (by decide) (by omega) u3 x3_1 ((ji6) % 256) [.int .u8 ((ji6) % 256)] (fun _ => True) (fun _ => False) rfl rfl ?aP (fun _ hk => hk.elim) ?aF ?aO ?aB ?aS ?aL ?_; (case aP => exact rfl); (case aB => exact (by repeat (first | (with_reducible first | exact HB.out | apply below_alloc | apply pw_below_drewN | apply below_drew1) | exact HB.out))); (case aF => exact (fun _ _ => trivial)); (case aO => exact (by (with_reducible repeat (first | apply Kd.R_alloc | apply Kd.R_drewN | apply Kd.R_drew)); exact HO_3.out)); (case aS => exact (below_size (by repeat (first | (with_reducible first | exact HB.out | apply below_alloc | apply pw_below_drewN | apply below_drew1) | exact HB.out)))); (case aL => have := LMc13.out; omega); intro v131 w14 ho hb hg hat; rw [← Ny130.out] at ho; have n0_ := Aside0.mk (hb); have n1_ := Aside0.mk (ho); clear HB; clear HO_3; have HB := n0_; have HO132 := n1_; clear n0_ n1_; clear ho hb hg hat))
              go_roundg k1
              case measure => have := HK1.out; omega
              case rel => exact ⟨(y130), (wrap64 (x4_1 - 8)), (by first | rfl | (simp; done) | (simp [*]; done)), H', ⟨by have := HK1.out; omega⟩, ⟨by (with_reducible repeat (first | apply Kd.R_alloc | apply Kd.R_drewN | apply Kd.R_drew)); exact HO132.out⟩, ⟨by repeat (first | (with_reducible first | exact HB.out | apply below_alloc | apply pw_below_drewN | apply below_drew1) | exact HB.out)⟩⟩
            · rw [if_neg c13] at H
              exact absurd H (by simp)
        · rw [if_neg c5] at H
          exact absurd H (by simp)
      · rw [if_neg c4] at H
        have c4b0 : decide (0 ≤ x4_1) = false := decide_eq_false c4
        clear c4
        by_cases c15 : 0 < (x3_1.length : Int)
        · rw [if_pos c15] at H
          have c15b0 : decide (0 < (x3_1.length : Int)) = true := decide_eq_true c15
          have c15b1 : decide (0 < x3_1.length) = true := decide_eq_true (by omega)
          clear c15
          obtain ⟨y133, hy133⟩ : ∃ y_ : List Int, y_ = (x3_1.set (0 : Int).toNat ((wrap64 ((x3_1.length : Int) - 1)) % 256)) := ⟨_, rfl⟩
          replace H : (some y133) = some r := by first | (rw [hy133]; with_reducible exact H) | (have H2_ := (Option.bind_some _ _).symm.trans H; rw [hy133]; with_reducible exact H2_) | (have H2_ := (Option.bind_some _ _).symm.trans H; with_reducible exact H2_) | with_reducible exact H | (rw [hy133]; exact H) | exact H
          have Ny133 := Aside0.mk hy133
          clear hy133
          obtain rfl := Option.some.inj H
          obtain ⟨Ao17, co17, eo17⟩ := Kd.R_slice HO_3.out
          subst eo17
          have p16 : 0 ≤ (0 : Int) := (by omega)
          have q16 : (0 : Int) < ((x3_1.length : Int) : Int) := of_decide_eq_true (by first | (with_reducible assumption) | assumption)
          have qi16 : (0 < x3_1.length) = True := eq_true (by omega)
          obtain ⟨go16, co16, eo16, gb16, gl16, cl16, HG16⟩ := Kd.R_form HO_3.out (by omega)
          (first | cases eo16 | (injection eo16 with ea_ en_ ec_; (first | subst ea_ | (injection ea_ with ea_; subst ea_)); subst ec_; clear en_))
          have GB16 := Aside0.mk gb16
          have GG16 := Aside0.mk HG16
          clear gb16 gl16 HG16
          obtain ⟨hx16_0, hf16_0⟩ := Kd.R_celln 0 HO_3.out (0 : Int) p16 q16
          (try rw [show ((0 : Int)).toNat = 0 from rfl] at hx16_0)
          (try simp only [Nat.reduceMul, Nat.zero_mul, Nat.zero_add, Nat.reduceAdd] at hx16_0)
          (try rw [show ((0 : Int)).toNat = 0 from rfl] at hf16_0)
          (try simp only [Nat.reduceMul, Nat.zero_mul, Nat.zero_add, Nat.reduceAdd] at hf16_0)
          replace p16 := eq_true p16
          replace q16 := eq_true q16
          have HP18 := Kd.R_putg HO_3.out (0 : Int) ((wrap64 ((x3_1.length : Int) - 1)) % 256)
          go_wp2_with (first | ((with_reducible refine gate_store (t := 5) (p := 32) rfl ?_); refine store_event (t := 5) (p := 32) (v := ?vo_w19) (w1 := (wr.setCell ⟨go16, (0 : Int).toNat, none⟩ (.int .u8 ((wrap64 ((x3_1.length : Int) - 1)) % 256)))) ?hg ?ho ?hn ?hr ?_; (case ho => rfl); (case hg => rfl); (case hn => rfl); (case hr => first | (go_simp; done) | (go_simp; rfl)); intro w19 hw; have hg : wr.grownBy w19 (some go16) := (by rw [hw]; exact HP18.2); have hp_ : Kd.R (Kd.int .u8) 5 w19 w.heap.size (fun _ => True) (.slice (some ⟨go16, 0, none⟩) x3_1.length co17) y133 := (by rw [hw, Ny133.out]; exact HP18.1); clear HP18; have n0_ := Aside0.mk (hp_); have n1_ := Aside0.mk ((by rw [hw]; exact below_set (HB.out) GB16.out : Below w.heap.size w w19)); clear HO_3; clear HB; have HO_3 := n0_; have HB := n1_; clear n0_ n1_; clear hg hw hp_))
          go_ret
          exact ⟨_, by first | rfl | (simp [errW_none, errW_some] <;> rfl) | (simp [*, errW_none, errW_some] <;> rfl), by (with_reducible repeat (first | apply Kd.R_alloc | apply Kd.R_drewN | apply Kd.R_drew)); exact HO_3.out, by repeat (first | (with_reducible first | exact HB.out | apply below_alloc | apply pw_below_drewN | apply below_drew1) | exact HB.out)⟩
        · rw [if_neg c15] at H
          exact absurd H (by simp)
end Go.Proofs.YthaoiamgkpkcbaaDoor.QR
