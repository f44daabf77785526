/- Written by a program of this session over the kit's print: functions and their contracts. · Written by a program of this session over the kit's print: functions and their contracts. · Written by a program of this session over the kit's print: functions and their contracts. · Helpers on rows that are read: an element's cell, the row's block, a row out of its cells. Conditions: none. · The contract of hash.Sum, of rows of bytes. Conditions: rows that are read. -/
import Derived.Test.YteocngcojijnkaaYQuorumRings1
import Derived.Test.YteocngcojijnkaaYQuorumRings0
import Derived.Test.YteocngcojijnkaaRows
import Derived.ProofKit
import Derived.OpenShut
import Derived.WalkLawsBesides
import Derived.Lib.Hide
import Derived.Deep.LoopGhost
import Derived.Deep.QuietTactic
import Derived.BigQuiet
import Derived.WideLaws
import Derived.WalkMore

namespace Go.Proofs.Yteocngcojijnkaa.QH
open Go.RowKit Go.Proofs.YteocngcojijnkaaW.PrintWords Go.Proofs.YteocngcojijnkaaW.PrintLast Go.Proofs.YteocngcojijnkaaW.PrintMore
attribute [local go_sem] max2_int min2_int max_two min_two max_three min_three max_four min_four   -- for this text's walks alone
set_option linter.unusedVariables false
set_option linter.unusedSimpArgs false
attribute [local go_sem high] eqA70
/-! ### icehouseref09_Points: function 47 -/
mutual
def icehouseref09_Points.l0 : Nat → List (S70) → Int → List Int → Int → Int → Option ((List (S70)))
  | 0, _, _, _, _, _ => none
  | k + 1, x3, x4, x157000, x157001, x157002 => if x4 < (x157000.length : Int) then (icehouseref09_Points.l1 k x3 x4 0 x157000 x157001 x157002) else (some x3)
def icehouseref09_Points.l1 : Nat → List (S70) → Int → Int → List Int → Int → Int → Option ((List (S70)))
  | 0, _, _, _, _, _, _ => none
  | k + 1, x3, x4, x5, x157000, x157001, x157002 => if x5 < x157001 then (if 0 ≤ x4 then (if x4 < (x157000.length : Int) then ((icehouseref04_Point.f k (rd x157000 x4) x5).bind fun t158 => (icehouseref09_Points.l2 k x3 x4 x5 0 x157000 x157001 x157002 t158 (rd x157000 x4))) else (none)) else (none)) else (icehouseref09_Points.l0 k x3 (wrap64 (x4 + 1)) x157000 x157001 x157002)
def icehouseref09_Points.l2 : Nat → List (S70) → Int → Int → Int → List Int → Int → Int → Int → Int → Option ((List (S70)))
  | 0, _, _, _, _, _, _, _, _, _ => none
  | k + 1, x3, x4, x5, x7, x157000, x157001, x157002, x161000, x161001 => if x7 < (x3.length : Int) then (if 0 ≤ x7 then ((icehouseref09_less.f ((rd_T70 x3 x7).f0) ((rd_T70 x3 x7).f1) x161000 x161001).bind fun t162 => (if t162 = true then (icehouseref09_Points.l2 k x3 x4 x5 (wrap64 (x7 + 1)) x157000 x157001 x157002 x161000 x161001) else (if (((rd_T70 x3 x7).f0) == x161000 && (((rd_T70 x3 x7).f1) == x161001)) = true then (icehouseref09_Points.l1 k x3 x4 (wrap64 (x5 + 1)) x157000 x157001 x157002) else (if x7 ≤ (x3.length : Int) then ((some (x3.take (x7 : Int).toNat : List (S70))).bind fun y164 => (if ([] : List (S70)).length + y164.length < 8796093022208 then ((some (([] : List (S70)) ++ y164 : List (S70))).bind fun y168 => (if y168.length < 8796093022208 then ((some (y168 ++ [(⟨x161000, x161001⟩ : S70)] : List (S70))).bind fun y171 => ((some (x3.drop (x7 : Int).toNat : List (S70))).bind fun y174 => (if y171.length + y174.length < 8796093022208 then (icehouseref09_Points.l1 k (y171 ++ y174) x4 (wrap64 (x5 + 1)) x157000 x157001 x157002) else (none)))) else (none))) else (none))) else (none))))) else (none)) else (if 0 ≤ x7 then (if x7 ≤ (x3.length : Int) then ((some (x3.take (x7 : Int).toNat : List (S70))).bind fun y181 => (if ([] : List (S70)).length + y181.length < 8796093022208 then ((some (([] : List (S70)) ++ y181 : List (S70))).bind fun y185 => (if y185.length < 8796093022208 then ((some (y185 ++ [(⟨x161000, x161001⟩ : S70)] : List (S70))).bind fun y188 => ((some (x3.drop (x7 : Int).toNat : List (S70))).bind fun y191 => (if y188.length + y191.length < 8796093022208 then (icehouseref09_Points.l1 k (y188 ++ y191) x4 (wrap64 (x5 + 1)) x157000 x157001 x157002) else (none)))) else (none))) else (none))) else (none)) else (none))
end
def icehouseref09_Points.f (k : Nat) (l0_0 : List Int) (a0_1 : Int) (a0_2 : Int) : Option ((List (S70))) := icehouseref09_Points.l0 k ([] : List (S70)) 0 l0_0 a0_1 a0_2
theorem icehouseref09_Points.mono_l : ∀ k, (∀ y0 y1 y2 y3 y4, LeO (icehouseref09_Points.l0 k y0 y1 y2 y3 y4) (icehouseref09_Points.l0 (k + 1) y0 y1 y2 y3 y4)) ∧ (∀ y0 y1 y2 y3 y4 y5, LeO (icehouseref09_Points.l1 k y0 y1 y2 y3 y4 y5) (icehouseref09_Points.l1 (k + 1) y0 y1 y2 y3 y4 y5)) ∧ (∀ y0 y1 y2 y3 y4 y5 y6 y7 y8, LeO (icehouseref09_Points.l2 k y0 y1 y2 y3 y4 y5 y6 y7 y8) (icehouseref09_Points.l2 (k + 1) y0 y1 y2 y3 y4 y5 y6 y7 y8))
  | 0 => ⟨fun _ _ _ _ _ r h => by simp [icehouseref09_Points.l0] at h, fun _ _ _ _ _ _ r h => by simp [icehouseref09_Points.l1] at h, fun _ _ _ _ _ _ _ _ _ r h => by simp [icehouseref09_Points.l2] at h⟩
  | k + 1 => by
    obtain ⟨ih0, ih1, ih2⟩ := icehouseref09_Points.mono_l k
    refine ⟨?_, ?_, ?_⟩
    · intro y0 y1 y2 y3 y4
      unfold icehouseref09_Points.l0
      repeat' first
      | (with_reducible exact ih0 _ _ _ _ _)
      | (with_reducible exact ih1 _ _ _ _ _ _)
      | (with_reducible exact ih2 _ _ _ _ _ _ _ _ _)
      | (with_reducible exact icehouseref04_Point.mono _ _ _)
      | (with_reducible exact LeO.refl _)
      | (with_reducible exact LeO.none _)
      | (with_reducible refine LeO.ite ?_ ?_)
      | (with_reducible refine LeO.bind ?_ (fun _ => ?_))
      | exact ih0 _ _ _ _ _
      | exact ih1 _ _ _ _ _ _
      | exact ih2 _ _ _ _ _ _ _ _ _
      | exact icehouseref04_Point.mono _ _ _
      | exact LeO.none _
      | refine LeO.ite ?_ ?_
      | refine LeO.bind ?_ (fun _ => ?_)
    · intro y0 y1 y2 y3 y4 y5
      unfold icehouseref09_Points.l1
      repeat' first
      | (with_reducible exact ih0 _ _ _ _ _)
      | (with_reducible exact ih1 _ _ _ _ _ _)
      | (with_reducible exact ih2 _ _ _ _ _ _ _ _ _)
      | (with_reducible exact icehouseref04_Point.mono _ _ _)
      | (with_reducible exact LeO.refl _)
      | (with_reducible exact LeO.none _)
      | (with_reducible refine LeO.ite ?_ ?_)
      | (with_reducible refine LeO.bind ?_ (fun _ => ?_))
      | exact ih0 _ _ _ _ _
      | exact ih1 _ _ _ _ _ _
      | exact ih2 _ _ _ _ _ _ _ _ _
      | exact icehouseref04_Point.mono _ _ _
      | exact LeO.none _
      | refine LeO.ite ?_ ?_
      | refine LeO.bind ?_ (fun _ => ?_)
    · intro y0 y1 y2 y3 y4 y5 y6 y7 y8
      unfold icehouseref09_Points.l2
      repeat' first
      | (with_reducible exact ih0 _ _ _ _ _)
      | (with_reducible exact ih1 _ _ _ _ _ _)
      | (with_reducible exact ih2 _ _ _ _ _ _ _ _ _)
      | (with_reducible exact icehouseref04_Point.mono _ _ _)
      | (with_reducible exact LeO.refl _)
      | (with_reducible exact LeO.none _)
      | (with_reducible refine LeO.ite ?_ ?_)
      | (with_reducible refine LeO.bind ?_ (fun _ => ?_))
      | exact ih0 _ _ _ _ _
      | exact ih1 _ _ _ _ _ _
      | exact ih2 _ _ _ _ _ _ _ _ _
      | exact icehouseref04_Point.mono _ _ _
      | exact LeO.none _
      | refine LeO.ite ?_ ?_
      | refine LeO.bind ?_ (fun _ => ?_)
theorem icehouseref09_Points.mono : ∀ a0 a1 a2 k, LeO (icehouseref09_Points.f k a0 a1 a2) (icehouseref09_Points.f (k + 1) a0 a1 a2) := by
  intro a0 a1 a2 k
  obtain ⟨ih0, ih1, ih2⟩ := icehouseref09_Points.mono_l k
  unfold icehouseref09_Points.f
  repeat' first
      | (with_reducible exact ih0 _ _ _ _ _)
      | (with_reducible exact ih1 _ _ _ _ _ _)
      | (with_reducible exact ih2 _ _ _ _ _ _ _ _ _)
      | (with_reducible exact icehouseref04_Point.mono _ _ _)
      | (with_reducible exact LeO.refl _)
      | (with_reducible exact LeO.none _)
      | (with_reducible refine LeO.ite ?_ ?_)
      | (with_reducible refine LeO.bind ?_ (fun _ => ?_))
      | exact ih0 _ _ _ _ _
      | exact ih1 _ _ _ _ _ _
      | exact ih2 _ _ _ _ _ _ _ _ _
      | exact icehouseref04_Point.mono _ _ _
      | exact LeO.none _
      | refine LeO.ite ?_ ?_
      | refine LeO.bind ?_ (fun _ => ?_)
def icehouseref09_Points.T8 : Bool × List (List Nat × List Nat) := (true, [([], []), ([0], [0]), ([], []), ([1, 2], [1, 2]), ([3], [3]), ([], []), ([4, 5], [4, 5]), ([], []), ([7], [7]), ([], []), ([8, 9], [8, 9]), ([10], [10]), ([6, 11], [6, 11]), ([], []), ([13, 12, 6, 0, 1, 2, 3, 4, 5, 6, 7, 8, 9, 10, 11, 12, 13], [12, 13])])
def icehouseref09_Points.B8 : List Nat := [0, 1, 0, 7, 15, 0, 63, 0, 128, 0, 896, 1920, 4095, 0, 16383]
theorem icehouseref09_Points.tab8 : rtab .any (opsOf Try.f47 8) = icehouseref09_Points.T8 := by kernel_rfl
theorem icehouseref09_Points.bits8 : waitsOk icehouseref09_Points.T8.2 icehouseref09_Points.B8 = true := by kernel_rfl
def icehouseref09_Points.T10 : Bool × List (List Nat × List Nat) := (true, [([], []), ([], []), ([1], [1]), ([0, 2], [0, 2]), ([3], [3]), ([4], [4]), ([4], [4]), ([5, 6, 4], [4, 5, 6]), ([7, 4], [4, 7]), ([4], [4]), ([8, 9, 4, 4], [4, 8, 9]), ([4, 10], [4, 10])])
def icehouseref09_Points.B10 : List Nat := [0, 0, 2, 7, 15, 31, 31, 127, 255, 31, 1023, 2047]
theorem icehouseref09_Points.tab10 : rtab .any (opsOf Try.f47 10) = icehouseref09_Points.T10 := by kernel_rfl
theorem icehouseref09_Points.bits10 : waitsOk icehouseref09_Points.T10.2 icehouseref09_Points.B10 = true := by kernel_rfl
def icehouseref09_Points.T12 : Bool × List (List Nat × List Nat) := (true, [([], []), ([], []), ([1], [1]), ([0, 2], [0, 2]), ([3], [3]), ([4], [4]), ([4], [4]), ([5, 6, 4], [4, 5, 6]), ([7, 4], [4, 7]), ([4], [4]), ([8, 9, 4], [4, 8, 9]), ([4, 10], [4, 10])])
def icehouseref09_Points.B12 : List Nat := [0, 0, 2, 7, 15, 31, 31, 127, 255, 31, 1023, 2047]
theorem icehouseref09_Points.tab12 : rtab .any (opsOf Try.f47 12) = icehouseref09_Points.T12 := by kernel_rfl
theorem icehouseref09_Points.bits12 : waitsOk icehouseref09_Points.T12.2 icehouseref09_Points.B12 = true := by kernel_rfl
set_option maxHeartbeats 8000000 in
set_option maxRecDepth 100000 in
theorem icehouseref09_Points.calls (k : Nat) (A0_0 : Option Addr) (c0_0 : Nat) (l0_0 : List Int) (a0_1 : Int) (a0_2 : Int) (r : List (S70)) (w : World) (hr0_0 : Kd.C (Kd.int .i64) w A0_0 l0_0.length l0_0) (hc0_0 : l0_0.length ≤ c0_0) (h : icehouseref09_Points.f k l0_0 a0_1 a0_2 = some r) :
    Calls Try.prog 47 #[.agg #[.slice A0_0 l0_0.length c0_0, .int .i64 a0_1, .int .i64 a0_2]] w fun e w' => ∃ v0_ : Value, e = .returned (v0_) ∧ Kd.R k70 70 w' w.heap.size (fun _ => True) v0_ r ∧ Below w.heap.size w w' := by
  have hu42 := Try.underlying42
  have hu70 := Try.underlying70
  have HR0_0 := Aside0.mk hr0_0
  have HC0_0 := Aside0.mk hc0_0
  clear hr0_0 hc0_0
  have HB := Aside0.mk (Below.refl w.heap.size w)
  have H : (icehouseref09_Points.l0 k ([] : List (S70)) 0 l0_0 a0_1 a0_2) = some r := h
  clear h
  have H' := Aside0.mk H
  clear H
  go_enter Try.func47, Try.ntmps47
  go_wp2_with (first | ((with_reducible refine gate_dst (N := 1) rfl ?_); refine box_event ?hg (N := 1) ?hd (cs := #[.slice A0_0 l0_0.length c0_0, .int .i64 a0_1, .int .i64 a0_2]) (t := 42) ?hr ?_; (case hd => rfl); (case hg => rfl); (case hr => first | (go_simp; done) | (go_simp; rfl)); intro gb156 hg w2 hbox hb; have n0_ := Aside0.mk (below_step (by repeat (first | (with_reducible first | exact HB.out | apply below_alloc | apply pw_below_drewN | apply below_drew1) | exact HB.out)) hb); have n1_ := Aside0.mk (hbox); have n2_ := Aside0.mk ((by rw [hg]; exact (below_size (by repeat (first | (with_reducible first | exact HB.out | apply below_alloc | apply pw_below_drewN | apply below_drew1) | exact HB.out))) : w.heap.size ≤ gb156)); have n3_ := Aside0.mk ((by rw [hg]; exact (below_size (by repeat (first | (with_reducible first | exact HB.out | apply below_alloc | apply pw_below_drewN | apply below_drew1) | exact HB.out))) : w.heap.size ≤ gb156)); clear HB; have HB := n0_; have BK156 := n1_; have GW156 := n2_; have GE156 := n3_; clear n0_ n1_ n2_ n3_; clear hb hbox hg))
  go_loopg [3, 4] k (fun kq v3 v4 w' => ∃ (x3_1 : List (S70)) (x4_1 : Int), v4 = .int .i64 x4_1 ∧ Aside0 (icehouseref09_Points.l0 kq x3_1 x4_1 l0_0 a0_1 a0_2 = some r) ∧ Aside0 (kq ≤ k) ∧ Aside0 (Kd.R k70 70 w' w.heap.size (fun _ => True) v3 x3_1) ∧ Aside0 (w'.heap[gb156]? = some (.cells #[(.slice A0_0 l0_0.length c0_0), .int .i64 a0_1, .int .i64 a0_2] 42 (0, 0))) ∧ Aside0 (Below w.heap.size w w'))
  case atStart => exact ⟨(([] : List (S70))), (0), (by first | rfl | (simp; done) | (simp [*]; done)), H', ⟨Nat.le_refl _⟩, ⟨by first | exact Kd.R_nil _ _ _ _ _ | exact Kd.N_nil _ _ _ _ _ | exact Kd.V_nil _ _ _ _ _ | exact Kd.Q_nil _ _ _ _ _ | exact Kd.S_nil _ _ _ _ _⟩, ⟨by (with_reducible repeat (first | refine blk_drewN ?_ _ | refine blk_drew ?_ | refine blk_alloc ?_ _)); exact BK156.out⟩, ⟨by repeat (first | (with_reducible first | exact HB.out | apply below_alloc | apply pw_below_drewN | apply below_drew1 | refine below_set ?_ GE156.out) | exact HB.out)⟩⟩
  case round =>
    clear H'
    try clear p2
    obtain ⟨x3_1, x4_1, rfl, HA, HK1, HO_3, BK156, HB⟩ := hrel
    cases gk with
    | zero => exact absurd HA.out (by simp [icehouseref09_Points.l0])
    | succ k1 =>
      have H := HA.out
      clear HA
      simp only [icehouseref09_Points.l0] at H
      by_cases c3 : x4_1 < (l0_0.length : Int)
      · rw [if_pos c3] at H
        have c3b0 : decide (x4_1 < (l0_0.length : Int)) = true := decide_eq_true c3
        clear c3
        have H' := Aside0.mk H
        clear H
        have hcz4_0 : wr.cell? ⟨gb156, 0, none⟩ = some (.slice A0_0 l0_0.length c0_0) := (blk_cell BK156.out 0).trans rfl
        have hcz4_1 : wr.cell? ⟨gb156, 1, none⟩ = some (.int .i64 a0_1) := (blk_cell BK156.out 1).trans rfl
        have hcz4_2 : wr.cell? ⟨gb156, 2, none⟩ = some (.int .i64 a0_2) := (blk_cell BK156.out 2).trans rfl
        have hfz4_0 := blk_frozen BK156.out 0
        have hfz4_1 := blk_frozen BK156.out 1
        have hfz4_2 := blk_frozen BK156.out 2
        go_wp2
        go_loopg [3, 5] k1 (fun kq v3 v5 w' => ∃ (x3_2 : List (S70)) (x5_2 : Int), v5 = .int .i64 x5_2 ∧ Aside0 (icehouseref09_Points.l1 kq x3_2 x4_1 x5_2 l0_0 a0_1 a0_2 = some r) ∧ Aside0 (kq ≤ k1) ∧ Aside0 (Kd.R k70 70 w' w.heap.size (fun _ => True) v3 x3_2) ∧ Aside0 (w'.heap[gb156]? = some (.cells #[(.slice A0_0 l0_0.length c0_0), .int .i64 a0_1, .int .i64 a0_2] 42 (0, 0))) ∧ Aside0 (Below w.heap.size w w'))
        case atStart => exact ⟨(x3_1), (0), (by first | rfl | (simp; done) | (simp [*]; done)), H', ⟨Nat.le_refl _⟩, ⟨by (with_reducible repeat (first | apply Kd.R_alloc | apply Kd.R_drewN | apply Kd.R_drew)); exact HO_3.out⟩, ⟨by (with_reducible repeat (first | refine blk_drewN ?_ _ | refine blk_drew ?_ | refine blk_alloc ?_ _)); exact BK156.out⟩, ⟨by repeat (first | (with_reducible first | exact HB.out | apply below_alloc | apply pw_below_drewN | apply below_drew1 | refine below_set ?_ GE156.out) | exact HB.out)⟩⟩
        case round =>
          clear H'
          try clear p2
          try clear c3
          try clear c3b0
          try clear c4
          try clear hcz4_0
          try clear hcz4_1
          try clear hcz4_2
          try clear hfz4_0
          try clear hfz4_1
          try clear hfz4_2
          try clear p2
          obtain ⟨x3_2, x5_2, rfl, HA, HK2, HO_3, BK156, HB⟩ := hrel
          cases gk with
          | zero => exact absurd HA.out (by simp [icehouseref09_Points.l1])
          | succ k2 =>
            have H := HA.out
            clear HA
            simp only [icehouseref09_Points.l1] at H
            by_cases c5 : x5_2 < a0_1
            · rw [if_pos c5] at H
              have c5b0 : decide (x5_2 < a0_1) = true := decide_eq_true c5
              clear c5
              by_cases c6 : 0 ≤ x4_1
              · rw [if_pos c6] at H
                have c6b0 : decide (0 ≤ x4_1) = true := decide_eq_true c6
                clear c6
                by_cases c7 : x4_1 < (l0_0.length : Int)
                · rw [if_pos c7] at H
                  have c7b0 : decide (x4_1 < (l0_0.length : Int)) = true := decide_eq_true c7
                  clear c7
                  replace H := Option.bind_eq_some_iff.mp H
                  obtain ⟨t158, A80, H⟩ := H
                  replace H : (icehouseref09_Points.l2 k2 x3_2 x4_1 x5_2 0 l0_0 a0_1 a0_2 t158 (rd l0_0 x4_1)) = some r := H
                  have A8 := Aside0.mk A80
                  clear A80
                  have H' := Aside0.mk H
                  clear H
                  have hcz9_0 : wr.cell? ⟨gb156, 0, none⟩ = some (.slice A0_0 l0_0.length c0_0) := (blk_cell BK156.out 0).trans rfl
                  have hcz9_1 : wr.cell? ⟨gb156, 1, none⟩ = some (.int .i64 a0_1) := (blk_cell BK156.out 1).trans rfl
                  have hcz9_2 : wr.cell? ⟨gb156, 2, none⟩ = some (.int .i64 a0_2) := (blk_cell BK156.out 2).trans rfl
                  have hfz9_0 := blk_frozen BK156.out 0
                  have hfz9_1 := blk_frozen BK156.out 1
                  have hfz9_2 := blk_frozen BK156.out 2
                  try go_wp2
                  have n0_ := Aside0.mk (Kd.R_drew HO_3.out)
                  have n1_ := Aside0.mk (blk_drew BK156.out)
                  have n2_ := Aside0.mk (below_drew1 HB.out)
                  clear HO_3
                  clear BK156
                  clear HB
                  have HO_3 := n0_
                  have BK156 := n1_
                  have HB := n2_
                  clear n0_ n1_ n2_
                  have p157 : 0 ≤ (x4_1 : Int) := of_decide_eq_true (by first | (with_reducible assumption) | assumption)
                  have q157 : x4_1 < (l0_0.length : Int) := of_decide_eq_true (by first | (with_reducible assumption) | assumption)
                  obtain ⟨ad157, e157, hx157_0⟩ := Kd.at_int HR0_0.out x4_1 p157 q157
                  have hw157_0 := hx157_0
                  cases e157
                  replace hx157_0 := (HB.out.cell (World.block_lt_of_cell? w _ hx157_0)).trans hx157_0
                  replace p157 := eq_true p157
                  replace q157 := eq_true q157
                  have p159 : 0 ≤ (x4_1 : Int) := of_decide_eq_true (by first | (with_reducible assumption) | assumption)
                  have q159 : x4_1 < (l0_0.length : Int) := of_decide_eq_true (by first | (with_reducible assumption) | assumption)
                  obtain ⟨ad159, e159, hx159_0⟩ := Kd.at_int HR0_0.out x4_1 p159 q159
                  have hw159_0 := hx159_0
                  obtain rfl : ad157 = ad159 := (by injection e159)
                  replace hx159_0 := (HB.out.cell (World.block_lt_of_cell? w _ hx159_0)).trans hx159_0
                  replace p159 := eq_true p159
                  replace q159 := eq_true q159
                  refine start_ (n := 15) (S := fun w' => w'.cell? ⟨gb156, 0, none⟩ = some (.slice (some ad157) l0_0.length c0_0) ∧ w'.cell? ⟨gb156, 1, none⟩ = some (.int .i64 a0_1) ∧ w'.cell? ⟨gb156, 2, none⟩ = some (.int .i64 a0_2) ∧ w'.cell? (ad157.add (x4_1).toNat) = some (.int .i64 (rd l0_0 x4_1)) ∧ w'.cell? (ad157.add (x4_1).toNat) = some (.int .i64 (rd l0_0 x4_1))) (ds := []) #[false, false, false, false, false, false, false, false, false, false, false, false, false, false, false] (by kernel_rfl) rfl rfl ⟨(blk_cell BK156.out 0).trans rfl, (blk_cell BK156.out 1).trans rfl, (blk_cell BK156.out 2).trans rfl, ((HB.out.cell (World.block_lt_of_cell? w _ hw157_0)).trans hw157_0), ((HB.out.cell (World.block_lt_of_cell? w _ hw159_0)).trans hw159_0)⟩ (fun hHeld => ?_); refine with_tabW icehouseref09_Points.tab8 icehouseref09_Points.bits8 (fun HT_ HW_ => ?_)
                  generalize wr.drew = w10 at HO_3 BK156 HB hx157_0 hx159_0 hHeld ⊢
                  refine pure_ (i := 0) (N := some 22) (v := ?_) (a' := ?_) #[true, false, false, false, false, false, false, false, false, false, false, false, false, false, false] rfl rfl (any_of HT_.out (by kernel_rfl)) (fun _ _ _ h => h) (Or.inl ⟨by rfl, ?_⟩) ?_ ?_
                  rotate_left
                  · intro w'
                    go_simp
                    with_reducible rfl
                  rotate_left
                  · simp only [Act.put, List.setIfInBounds_toArray, List.set_cons_zero, List.set_cons_succ, i64_w, i32_w]
                    rfl
                  refine pure_ (i := 2) (N := some 24) (v := ?_) (a' := ?_) #[true, false, true, false, false, false, false, false, false, false, false, false, false, false, false] rfl rfl (any_of HT_.out (by kernel_rfl)) (fun _ _ _ h => h) (Or.inl ⟨by rfl, ?_⟩) ?_ ?_
                  rotate_left
                  · intro w'
                    go_simp
                    with_reducible rfl
                  rotate_left
                  · simp only [Act.put, List.setIfInBounds_toArray, List.set_cons_zero, List.set_cons_succ, i64_w, i32_w]
                    rfl
                  refine pure_ (i := 5) (N := some 27) (v := ?_) (a' := ?_) #[true, false, true, false, false, true, false, false, false, false, false, false, false, false, false] rfl rfl (any_of HT_.out (by kernel_rfl)) (fun _ _ _ h => h) (Or.inl ⟨by rfl, ?_⟩) ?_ ?_
                  rotate_left
                  · intro w'
                    go_simp
                    with_reducible rfl
                  rotate_left
                  · simp only [Act.put, List.setIfInBounds_toArray, List.set_cons_zero, List.set_cons_succ, i64_w, i32_w]
                    rfl
                  refine pure_ (i := 7) (N := some 29) (v := ?_) (a' := ?_) #[true, false, true, false, false, true, false, true, false, false, false, false, false, false, false] rfl rfl (any_of HT_.out (by kernel_rfl)) (fun _ _ _ h => h) (Or.inl ⟨by rfl, ?_⟩) ?_ ?_
                  rotate_left
                  · intro w'
                    go_simp
                    with_reducible rfl
                  rotate_left
                  · simp only [Act.put, List.setIfInBounds_toArray, List.set_cons_zero, List.set_cons_succ, i64_w, i32_w]
                    rfl
                  refine pure_ (i := 9) (N := some 31) (v := ?_) (a' := ?_) #[true, false, true, false, false, true, false, true, false, true, false, false, false, false, false] rfl rfl (any_of HT_.out (by kernel_rfl)) (fun _ _ _ h => h) (Or.inl ⟨by rfl, ?_⟩) ?_ ?_
                  rotate_left
                  · intro w'
                    go_simp
                    with_reducible rfl
                  rotate_left
                  · simp only [Act.put, List.setIfInBounds_toArray, List.set_cons_zero, List.set_cons_succ, i64_w, i32_w]
                    rfl
                  refine take_ (i := 1) (N := some 23) (v := ?_) (a' := ?_) #[true, true, true, false, false, true, false, true, false, true, false, false, false, false, false] rfl rfl (take_ofW HT_.out HW_.out (by kernel_rfl)) (fun _ _ _ h => h) (Or.inl ⟨by rfl, ?_⟩) hHeld ?_ ?_
                  rotate_left
                  · rintro w' ⟨s0, s1, s2, s3, s4⟩
                    go_simp
                    with_reducible rfl
                  rotate_left
                  · simp only [Act.put, List.setIfInBounds_toArray, List.set_cons_zero, List.set_cons_succ, i64_w, i32_w]
                    rfl
                  refine pure_ (i := 3) (N := some 25) (v := ?_) (a' := ?_) #[true, true, true, true, false, true, false, true, false, true, false, false, false, false, false] rfl rfl (any_of HT_.out (by kernel_rfl)) (fun _ _ _ h => h) (Or.inl ⟨by rfl, ?_⟩) ?_ ?_
                  rotate_left
                  · intro w'
                    go_simp
                    with_reducible rfl
                  rotate_left
                  · simp only [Act.put, List.setIfInBounds_toArray, List.set_cons_zero, List.set_cons_succ, i64_w, i32_w]
                    rfl
                  refine take_ (i := 4) (N := some 26) (v := ?_) (a' := ?_) #[true, true, true, true, true, true, false, true, false, true, false, false, false, false, false] rfl rfl (take_ofW HT_.out HW_.out (by kernel_rfl)) (fun _ _ _ h => h) (Or.inl ⟨by rfl, ?_⟩) hHeld ?_ ?_
                  rotate_left
                  · rintro w' ⟨s0, s1, s2, s3, s4⟩
                    go_simp
                    with_reducible rfl
                  rotate_left
                  · simp only [Act.put, List.setIfInBounds_toArray, List.set_cons_zero, List.set_cons_succ, i64_w, i32_w]
                    rfl
                  refine take_ (i := 8) (N := some 30) (v := ?_) (a' := ?_) #[true, true, true, true, true, true, false, true, true, true, false, false, false, false, false] rfl rfl (take_ofW HT_.out HW_.out (by kernel_rfl)) (fun _ _ _ h => h) (Or.inl ⟨by rfl, ?_⟩) hHeld ?_ ?_
                  rotate_left
                  · rintro w' ⟨s0, s1, s2, s3, s4⟩
                    go_simp
                    with_reducible rfl
                  rotate_left
                  · simp only [Act.put, List.setIfInBounds_toArray, List.set_cons_zero, List.set_cons_succ, i64_w, i32_w]
                    rfl
                  refine pure_ (i := 10) (N := some 32) (v := ?_) (a' := ?_) #[true, true, true, true, true, true, false, true, true, true, true, false, false, false, false] rfl rfl (any_of HT_.out (by kernel_rfl)) (fun _ _ _ h => h) (Or.inl ⟨by rfl, ?_⟩) ?_ ?_
                  rotate_left
                  · intro w'
                    go_simp
                    with_reducible rfl
                  rotate_left
                  · simp only [Act.put, List.setIfInBounds_toArray, List.set_cons_zero, List.set_cons_succ, i64_w, i32_w]
                    rfl
                  refine take_ (i := 11) (N := some 33) (v := ?_) (a' := ?_) #[true, true, true, true, true, true, false, true, true, true, true, true, false, false, false] rfl rfl (take_ofW HT_.out HW_.out (by kernel_rfl)) (fun _ _ _ h => h) (Or.inl ⟨by rfl, ?_⟩) hHeld ?_ ?_
                  rotate_left
                  · rintro w' ⟨s0, s1, s2, s3, s4⟩
                    go_simp
                    with_reducible rfl
                  rotate_left
                  · simp only [Act.put, List.setIfInBounds_toArray, List.set_cons_zero, List.set_cons_succ, i64_w, i32_w]
                    rfl
                  refine join_ (σ := Nat) 1 #[true, true, true, true, true, true, true, true, true, true, true, true, true, true, false] (fun s_ => [(28, .int .u64 t158), (6, .pointer (some ⟨s_, 0, none⟩)), (34, .agg #[.int .u64 t158, .int .i64 (rd l0_0 x4_1)])]) (fun s_ w' => (w'.cell? ⟨gb156, 0, none⟩ = some (.slice (some ad157) l0_0.length c0_0) ∧ w'.cell? ⟨gb156, 1, none⟩ = some (.int .i64 a0_1) ∧ w'.cell? ⟨gb156, 2, none⟩ = some (.int .i64 a0_2) ∧ w'.cell? (ad157.add (x4_1).toNat) = some (.int .i64 (rd l0_0 x4_1)) ∧ w'.cell? (ad157.add (x4_1).toNat) = some (.int .i64 (rd l0_0 x4_1))) ∧ (Kd.R k70 70 w' w.heap.size (fun k_ => k_ ≠ s_) u3 x3_2) ∧ (w'.heap[gb156]? = some (.cells #[.slice (some ad157) l0_0.length c0_0, .int .i64 a0_1, .int .i64 a0_2] 42 (0, 0))) ∧ (w'.heap[s_]? = some (.cells #[.int .u64 0, .int .i64 0] 70 (0, 0))) ∧ (w.heap.size ≤ s_) ∧ (w.heap.size ≤ s_) ∧ (gb156 ≠ s_) ∧ (s_ ≠ gb156) ∧ (Below w.heap.size w w')) ?_ ?_
                  rotate_left
                  · intro hCont
                    refine two_ (i := 6) (j := 13) (Ni := some 28) (Nj := some 6) #[true, true, true, true, true, true, true, true, true, true, true, true, false, false, false] #[true, true, true, true, true, true, false, true, true, true, true, true, false, true, false] rfl rfl rfl rfl (two_of HT_.out (by kernel_rfl)) (by decide) (by decide) (fun K hK => ?_) (fun K hK => ?_)
                    · skip
                      refine goes_ Try.func57 (by kernel_rfl) rfl #[.int .i64 (rd l0_0 x4_1), .int .i64 x5_2] (by rfl) rfl rfl (by (try simp only [List.map_toArray, List.map_cons, List.map_nil]); first | done | rfl | (simp only [List.length_drop, List.length_take]; rfl)) ?_
                      with_reducible refine (icehouseref04_Point.calls k2 (rd l0_0 x4_1) x5_2 t158 _ A8.out).mono ?_
                      rintro e w11 ⟨rfl, hb⟩
                      refine ⟨_, rfl, ?_⟩
                      have n0_ := Aside0.mk (Kd.R_below (by (with_reducible repeat (first | apply Kd.R_alloc | apply Kd.R_drewN | apply Kd.R_drew)); exact HO_3.out) hb)
                      have n1_ := Aside0.mk (blk_below (g := gb156) (o := .cells #[.slice (some ad157) l0_0.length c0_0, .int .i64 a0_1, .int .i64 a0_2] 42 (0, 0)) (by (with_reducible repeat (first | refine blk_drewN ?_ _ | refine blk_drew ?_ | refine blk_alloc ?_ _)); exact BK156.out) hb)
                      have n2_ := Aside0.mk (below_step (by repeat (first | (with_reducible first | exact HB.out | apply below_alloc | apply pw_below_drewN | apply below_drew1 | refine below_set ?_ GE156.out) | exact HB.out)) hb)
                      clear HO_3
                      clear BK156
                      clear HB
                      have HO_3 := n0_
                      have BK156 := n1_
                      have HB := n2_
                      clear n0_ n1_ n2_
                      (try clear hb)
                      (try clear hb2)
                      (try clear hk)
                      (try clear hi)
                      refine hK.out _ _ ⟨(blk_cell BK156.out 0).trans rfl, (blk_cell BK156.out 1).trans rfl, (blk_cell BK156.out 2).trans rfl, ((HB.out.cell (World.block_lt_of_cell? w _ hw157_0)).trans hw157_0), ((HB.out.cell (World.block_lt_of_cell? w _ hw159_0)).trans hw159_0)⟩ (fun hHeld => ?_)
                      clear hK K
                      refine norm_ (a' := ?_) ?_ ?_
                      rotate_left
                      · show Act.put _ (some 28) _ = _
                        simp only [Act.put, List.setIfInBounds_toArray, List.set_cons_zero, List.set_cons_succ, i64_w, i32_w]
                        rfl
                      refine pure_ (i := 12) (N := some 34) (v := ?_) (a' := ?_) #[true, true, true, true, true, true, true, true, true, true, true, true, true, false, false] rfl rfl (any_of HT_.out (by kernel_rfl)) (fun _ _ _ h => h) (Or.inl ⟨by rfl, ?_⟩) ?_ ?_
                      rotate_left
                      · intro w'
                        go_simp
                        with_reducible rfl
                      rotate_left
                      · simp only [Act.put, List.setIfInBounds_toArray, List.set_cons_zero, List.set_cons_succ, i64_w, i32_w]
                        rfl
                      refine one_ (i := 13) (N := some 6) #[true, true, true, true, true, true, true, true, true, true, true, true, true, true, false] rfl rfl (one_of HT_.out (by kernel_rfl)) (by decide) (fun K hK => ?_)
                      refine box_step ?hg (N := 6) ?hd (cs := #[.int .u64 0, .int .i64 0]) (t := 70) ?hr ?_; (case hd => rfl); (case hg => rfl); (case hr => first | (go_simp; done) | (go_simp; rfl))
                      intro gb160 hg w12 hbox hb
                      have n0_ := Aside0.mk (Kd.R_below (Kd.R_elderB (by (with_reducible repeat (first | apply Kd.R_alloc | apply Kd.R_drewN | apply Kd.R_drew)); exact HO_3.out) gb160 (Nat.le_of_eq hg.symm)) hb)
                      have n1_ := Aside0.mk (blk_below (g := gb156) (o := .cells #[.slice (some ad157) l0_0.length c0_0, .int .i64 a0_1, .int .i64 a0_2] 42 (0, 0)) (by (with_reducible repeat (first | refine blk_drewN ?_ _ | refine blk_drew ?_ | refine blk_alloc ?_ _)); exact BK156.out) hb)
                      have n2_ := Aside0.mk (below_step (by repeat (first | (with_reducible first | exact HB.out | apply below_alloc | apply pw_below_drewN | apply below_drew1 | refine below_set ?_ GE156.out) | exact HB.out)) hb)
                      have n3_ := Aside0.mk (hbox)
                      have n4_ := Aside0.mk ((by rw [hg]; exact (below_size (by repeat (first | (with_reducible first | exact HB.out | apply below_alloc | apply pw_below_drewN | apply below_drew1 | refine below_set ?_ GE156.out) | exact HB.out))) : w.heap.size ≤ gb160))
                      have n5_ := Aside0.mk ((by rw [hg]; exact (below_size (by repeat (first | (with_reducible first | exact HB.out | apply below_alloc | apply pw_below_drewN | apply below_drew1 | refine below_set ?_ GE156.out) | exact HB.out))) : w.heap.size ≤ gb160))
                      have n6_ := Aside0.mk ((by rw [hg]; exact Nat.ne_of_lt (blk_lt (g := gb156) (o := .cells #[.slice (some ad157) l0_0.length c0_0, .int .i64 a0_1, .int .i64 a0_2] 42 (0, 0)) (by (with_reducible repeat (first | refine blk_drewN ?_ _ | refine blk_drew ?_ | refine blk_alloc ?_ _)); exact BK156.out)) : gb156 ≠ gb160))
                      have n7_ := Aside0.mk ((by rw [hg]; exact Nat.ne_of_gt (blk_lt (g := gb156) (o := .cells #[.slice (some ad157) l0_0.length c0_0, .int .i64 a0_1, .int .i64 a0_2] 42 (0, 0)) (by (with_reducible repeat (first | refine blk_drewN ?_ _ | refine blk_drew ?_ | refine blk_alloc ?_ _)); exact BK156.out)) : gb160 ≠ gb156))
                      clear HO_3
                      clear BK156
                      clear HB
                      have HO_3 := n0_
                      have BK156 := n1_
                      have HB := n2_
                      have BK160 := n3_
                      have GW160 := n4_
                      have GE160 := n5_
                      have NB156_160 := n6_
                      have NB160_156 := n7_
                      clear n0_ n1_ n2_ n3_ n4_ n5_ n6_ n7_
                      clear hb hbox hg
                      refine hK.out _ _ ⟨(blk_cell BK156.out 0).trans rfl, (blk_cell BK156.out 1).trans rfl, (blk_cell BK156.out 2).trans rfl, ((HB.out.cell (World.block_lt_of_cell? w _ hw157_0)).trans hw157_0), ((HB.out.cell (World.block_lt_of_cell? w _ hw159_0)).trans hw159_0)⟩ (fun hHeld => ?_)
                      clear hK K
                      refine norm_ (a' := ?_) ?_ ?_
                      rotate_left
                      · show Act.put _ (some 6) _ = _
                        simp only [Act.put, List.setIfInBounds_toArray, List.set_cons_zero, List.set_cons_succ, i64_w, i32_w]
                        rfl
                      exact norm_ (by simp only [putAll, Act.put, List.setIfInBounds_toArray, List.set_cons_zero, List.set_cons_succ]) (hCont (gb160) _ ⟨hHeld, (by (with_reducible repeat (first | apply Kd.R_alloc | apply Kd.R_drewN | apply Kd.R_drew)); exact Kd.R_mono HO_3.out (fun _ hk => hk.2)), (by (with_reducible repeat (first | refine blk_drewN ?_ _ | refine blk_drew ?_ | refine blk_alloc ?_ _)); exact BK156.out), (by (with_reducible repeat (first | refine blk_drewN ?_ _ | refine blk_drew ?_ | refine blk_alloc ?_ _)); exact BK160.out), GW160.out, GE160.out, NB156_160.out, NB160_156.out, (by repeat (first | (with_reducible first | exact HB.out | apply below_alloc | apply pw_below_drewN | apply below_drew1 | refine below_set ?_ GE156.out | refine below_set ?_ GE160.out) | exact HB.out))⟩)
                    · skip
                      refine box_step ?hg (N := 6) ?hd (cs := #[.int .u64 0, .int .i64 0]) (t := 70) ?hr ?_; (case hd => rfl); (case hg => rfl); (case hr => first | (go_simp; done) | (go_simp; rfl))
                      intro gb160 hg w11 hbox hb
                      have n0_ := Aside0.mk (Kd.R_below (Kd.R_elderB (by (with_reducible repeat (first | apply Kd.R_alloc | apply Kd.R_drewN | apply Kd.R_drew)); exact HO_3.out) gb160 (Nat.le_of_eq hg.symm)) hb)
                      have n1_ := Aside0.mk (blk_below (g := gb156) (o := .cells #[.slice (some ad157) l0_0.length c0_0, .int .i64 a0_1, .int .i64 a0_2] 42 (0, 0)) (by (with_reducible repeat (first | refine blk_drewN ?_ _ | refine blk_drew ?_ | refine blk_alloc ?_ _)); exact BK156.out) hb)
                      have n2_ := Aside0.mk (below_step (by repeat (first | (with_reducible first | exact HB.out | apply below_alloc | apply pw_below_drewN | apply below_drew1 | refine below_set ?_ GE156.out) | exact HB.out)) hb)
                      have n3_ := Aside0.mk (hbox)
                      have n4_ := Aside0.mk ((by rw [hg]; exact (below_size (by repeat (first | (with_reducible first | exact HB.out | apply below_alloc | apply pw_below_drewN | apply below_drew1 | refine below_set ?_ GE156.out) | exact HB.out))) : w.heap.size ≤ gb160))
                      have n5_ := Aside0.mk ((by rw [hg]; exact (below_size (by repeat (first | (with_reducible first | exact HB.out | apply below_alloc | apply pw_below_drewN | apply below_drew1 | refine below_set ?_ GE156.out) | exact HB.out))) : w.heap.size ≤ gb160))
                      have n6_ := Aside0.mk ((by rw [hg]; exact Nat.ne_of_lt (blk_lt (g := gb156) (o := .cells #[.slice (some ad157) l0_0.length c0_0, .int .i64 a0_1, .int .i64 a0_2] 42 (0, 0)) (by (with_reducible repeat (first | refine blk_drewN ?_ _ | refine blk_drew ?_ | refine blk_alloc ?_ _)); exact BK156.out)) : gb156 ≠ gb160))
                      have n7_ := Aside0.mk ((by rw [hg]; exact Nat.ne_of_gt (blk_lt (g := gb156) (o := .cells #[.slice (some ad157) l0_0.length c0_0, .int .i64 a0_1, .int .i64 a0_2] 42 (0, 0)) (by (with_reducible repeat (first | refine blk_drewN ?_ _ | refine blk_drew ?_ | refine blk_alloc ?_ _)); exact BK156.out)) : gb160 ≠ gb156))
                      clear HO_3
                      clear BK156
                      clear HB
                      have HO_3 := n0_
                      have BK156 := n1_
                      have HB := n2_
                      have BK160 := n3_
                      have GW160 := n4_
                      have GE160 := n5_
                      have NB156_160 := n6_
                      have NB160_156 := n7_
                      clear n0_ n1_ n2_ n3_ n4_ n5_ n6_ n7_
                      clear hb hbox hg
                      refine hK.out _ _ ⟨(blk_cell BK156.out 0).trans rfl, (blk_cell BK156.out 1).trans rfl, (blk_cell BK156.out 2).trans rfl, ((HB.out.cell (World.block_lt_of_cell? w _ hw157_0)).trans hw157_0), ((HB.out.cell (World.block_lt_of_cell? w _ hw159_0)).trans hw159_0)⟩ (fun hHeld => ?_)
                      clear hK K
                      refine norm_ (a' := ?_) ?_ ?_
                      rotate_left
                      · show Act.put _ (some 6) _ = _
                        simp only [Act.put, List.setIfInBounds_toArray, List.set_cons_zero, List.set_cons_succ, i64_w, i32_w]
                        rfl
                      refine one_ (i := 6) (N := some 28) #[true, true, true, true, true, true, true, true, true, true, true, true, false, true, false] rfl rfl (one_of HT_.out (by kernel_rfl)) (by decide) (fun K hK => ?_)
                      refine goes_ Try.func57 (by kernel_rfl) rfl #[.int .i64 (rd l0_0 x4_1), .int .i64 x5_2] (by rfl) rfl rfl (by (try simp only [List.map_toArray, List.map_cons, List.map_nil]); first | done | rfl | (simp only [List.length_drop, List.length_take]; rfl)) ?_
                      with_reducible refine (icehouseref04_Point.calls k2 (rd l0_0 x4_1) x5_2 t158 _ A8.out).mono ?_
                      rintro e w12 ⟨rfl, hb⟩
                      refine ⟨_, rfl, ?_⟩
                      have n0_ := Aside0.mk (Kd.R_below (by (with_reducible repeat (first | apply Kd.R_alloc | apply Kd.R_drewN | apply Kd.R_drew)); exact HO_3.out) hb)
                      have n1_ := Aside0.mk (blk_below (g := gb156) (o := .cells #[.slice (some ad157) l0_0.length c0_0, .int .i64 a0_1, .int .i64 a0_2] 42 (0, 0)) (by (with_reducible repeat (first | refine blk_drewN ?_ _ | refine blk_drew ?_ | refine blk_alloc ?_ _)); exact BK156.out) hb)
                      have n2_ := Aside0.mk (blk_below (g := gb160) (o := .cells #[.int .u64 0, .int .i64 0] 70 (0, 0)) (by (with_reducible repeat (first | refine blk_drewN ?_ _ | refine blk_drew ?_ | refine blk_alloc ?_ _)); exact BK160.out) hb)
                      have n3_ := Aside0.mk (below_step (by repeat (first | (with_reducible first | exact HB.out | apply below_alloc | apply pw_below_drewN | apply below_drew1 | refine below_set ?_ GE156.out | refine below_set ?_ GE160.out) | exact HB.out)) hb)
                      clear HO_3
                      clear BK156
                      clear BK160
                      clear HB
                      have HO_3 := n0_
                      have BK156 := n1_
                      have BK160 := n2_
                      have HB := n3_
                      clear n0_ n1_ n2_ n3_
                      (try clear hb)
                      (try clear hb2)
                      (try clear hk)
                      (try clear hi)
                      refine hK.out _ _ ⟨(blk_cell BK156.out 0).trans rfl, (blk_cell BK156.out 1).trans rfl, (blk_cell BK156.out 2).trans rfl, ((HB.out.cell (World.block_lt_of_cell? w _ hw157_0)).trans hw157_0), ((HB.out.cell (World.block_lt_of_cell? w _ hw159_0)).trans hw159_0)⟩ (fun hHeld => ?_)
                      clear hK K
                      refine norm_ (a' := ?_) ?_ ?_
                      rotate_left
                      · show Act.put _ (some 28) _ = _
                        simp only [Act.put, List.setIfInBounds_toArray, List.set_cons_zero, List.set_cons_succ, i64_w, i32_w]
                        rfl
                      refine pure_ (i := 12) (N := some 34) (v := ?_) (a' := ?_) #[true, true, true, true, true, true, true, true, true, true, true, true, true, true, false] rfl rfl (any_of HT_.out (by kernel_rfl)) (fun _ _ _ h => h) (Or.inl ⟨by rfl, ?_⟩) ?_ ?_
                      rotate_left
                      · intro w'
                        go_simp
                        with_reducible rfl
                      rotate_left
                      · simp only [Act.put, List.setIfInBounds_toArray, List.set_cons_zero, List.set_cons_succ, i64_w, i32_w]
                        rfl
                      exact norm_ (by simp only [putAll, Act.put, List.setIfInBounds_toArray, List.set_cons_zero, List.set_cons_succ]) (hCont (gb160) _ ⟨hHeld, (by (with_reducible repeat (first | apply Kd.R_alloc | apply Kd.R_drewN | apply Kd.R_drew)); exact Kd.R_mono HO_3.out (fun _ hk => hk.2)), (by (with_reducible repeat (first | refine blk_drewN ?_ _ | refine blk_drew ?_ | refine blk_alloc ?_ _)); exact BK156.out), (by (with_reducible repeat (first | refine blk_drewN ?_ _ | refine blk_drew ?_ | refine blk_alloc ?_ _)); exact BK160.out), GW160.out, GE160.out, NB156_160.out, NB160_156.out, (by repeat (first | (with_reducible first | exact HB.out | apply below_alloc | apply pw_below_drewN | apply below_drew1 | refine below_set ?_ GE156.out | refine below_set ?_ GE160.out) | exact HB.out))⟩)
                  rintro gb160 w13 ⟨hS_, h0_, h1_, h2_, h3_, h4_, h5_, h6_, h7_⟩
                  have n0_ : Aside0 (Kd.R k70 70 w13 w.heap.size (fun k_ => k_ ≠ gb160) u3 x3_2) := ⟨h0_⟩
                  have n1_ : Aside0 (w13.heap[gb156]? = some (.cells #[.slice (some ad157) l0_0.length c0_0, .int .i64 a0_1, .int .i64 a0_2] 42 (0, 0))) := ⟨h1_⟩
                  have n2_ : Aside0 (w13.heap[gb160]? = some (.cells #[.int .u64 0, .int .i64 0] 70 (0, 0))) := ⟨h2_⟩
                  have n3_ : Aside0 (w.heap.size ≤ gb160) := ⟨h3_⟩
                  have n4_ : Aside0 (w.heap.size ≤ gb160) := ⟨h4_⟩
                  have n5_ : Aside0 (gb156 ≠ gb160) := ⟨h5_⟩
                  have n6_ : Aside0 (gb160 ≠ gb156) := ⟨h6_⟩
                  have n7_ : Aside0 (Below w.heap.size w w13) := ⟨h7_⟩
                  clear HO_3
                  clear BK156
                  clear HB
                  clear h0_ h1_ h2_ h3_ h4_ h5_ h6_ h7_
                  have HO_3 := n0_
                  have BK156 := n1_
                  have BK160 := n2_
                  have GW160 := n3_
                  have GE160 := n4_
                  have NB156_160 := n5_
                  have NB160_156 := n6_
                  have HB := n7_
                  clear n0_ n1_ n2_ n3_ n4_ n5_ n6_ n7_
                  have hHeld : w13.cell? ⟨gb156, 0, none⟩ = some (.slice (some ad157) l0_0.length c0_0) ∧ w13.cell? ⟨gb156, 1, none⟩ = some (.int .i64 a0_1) ∧ w13.cell? ⟨gb156, 2, none⟩ = some (.int .i64 a0_2) ∧ w13.cell? (ad157.add (x4_1).toNat) = some (.int .i64 (rd l0_0 x4_1)) ∧ w13.cell? (ad157.add (x4_1).toNat) = some (.int .i64 (rd l0_0 x4_1)) := hS_
                  refine norm_ (a' := ?_) ?_ ?_
                  rotate_left
                  · simp only [putAll, Act.put, List.setIfInBounds_toArray, List.set_cons_zero, List.set_cons_succ]
                    rfl
                  refine one_ (i := 14) (N := none) #[true, true, true, true, true, true, true, true, true, true, true, true, true, true, true] rfl rfl (one_of HT_.out (by kernel_rfl)) (by decide) (fun K hK => ?_)
                  have hs14 : w13.cell? ⟨gb160, 0, none⟩ = some (.int .u64 0) := (blk_cell BK160.out 0).trans rfl
                  have hfs14 := blk_frozen BK160.out 0
                  have hns14_0 := NB156_160.out
                  have hms14_0 := NB160_156.out
                  have hs15 : w13.cell? ⟨gb160, 1, none⟩ = some (.int .i64 0) := (blk_cell BK160.out 1).trans rfl
                  have hfs15 := blk_frozen BK160.out 1
                  have hns15_0 := NB156_160.out
                  have hms15_0 := NB160_156.out
                  refine skip_ (w1 := ?_) (by rfl) rfl ?_ ?_
                  rotate_left
                  · go_simp
                    rfl
                  refine hK.out _ _ ⟨((cell_far (p := ⟨gb160, _, none⟩) NB156_160.out _).trans (((cell_far (p := ⟨gb160, _, none⟩) NB156_160.out _).trans (hHeld.1)))), ((cell_far (p := ⟨gb160, _, none⟩) NB156_160.out _).trans (((cell_far (p := ⟨gb160, _, none⟩) NB156_160.out _).trans (hHeld.2.1)))), ((cell_far (p := ⟨gb160, _, none⟩) NB156_160.out _).trans (((cell_far (p := ⟨gb160, _, none⟩) NB156_160.out _).trans (hHeld.2.2.1)))), ((cell_far (p := ⟨gb160, _, none⟩) (by first | exact Nat.ne_of_lt (Nat.lt_of_lt_of_le (by have := World.block_lt_of_cell? _ _ hw157_0; first | rwa [add_block] at this | exact this) GW160.out) | (rw [add_block]; exact Nat.ne_of_lt (Nat.lt_of_lt_of_le (by have := World.block_lt_of_cell? _ _ hw157_0; first | rwa [add_block] at this | exact this) GW160.out)) | (show (Addr.add _ _).block ≠ _; rw [add_block]; exact Nat.ne_of_lt (Nat.lt_of_lt_of_le (by have := World.block_lt_of_cell? _ _ hw157_0; first | rwa [add_block] at this | exact this) GW160.out)) | (dsimp only; exact Nat.ne_of_lt (Nat.lt_of_lt_of_le (by have := World.block_lt_of_cell? _ _ hw157_0; first | rwa [add_block] at this | exact this) GW160.out))) _).trans (((cell_far (p := ⟨gb160, _, none⟩) (by first | exact Nat.ne_of_lt (Nat.lt_of_lt_of_le (by have := World.block_lt_of_cell? _ _ hw157_0; first | rwa [add_block] at this | exact this) GW160.out) | (rw [add_block]; exact Nat.ne_of_lt (Nat.lt_of_lt_of_le (by have := World.block_lt_of_cell? _ _ hw157_0; first | rwa [add_block] at this | exact this) GW160.out)) | (show (Addr.add _ _).block ≠ _; rw [add_block]; exact Nat.ne_of_lt (Nat.lt_of_lt_of_le (by have := World.block_lt_of_cell? _ _ hw157_0; first | rwa [add_block] at this | exact this) GW160.out)) | (dsimp only; exact Nat.ne_of_lt (Nat.lt_of_lt_of_le (by have := World.block_lt_of_cell? _ _ hw157_0; first | rwa [add_block] at this | exact this) GW160.out))) _).trans (hHeld.2.2.2.1)))), ((cell_far (p := ⟨gb160, _, none⟩) (by first | exact Nat.ne_of_lt (Nat.lt_of_lt_of_le (by have := World.block_lt_of_cell? _ _ hw159_0; first | rwa [add_block] at this | exact this) GW160.out) | (rw [add_block]; exact Nat.ne_of_lt (Nat.lt_of_lt_of_le (by have := World.block_lt_of_cell? _ _ hw159_0; first | rwa [add_block] at this | exact this) GW160.out)) | (show (Addr.add _ _).block ≠ _; rw [add_block]; exact Nat.ne_of_lt (Nat.lt_of_lt_of_le (by have := World.block_lt_of_cell? _ _ hw159_0; first | rwa [add_block] at this | exact this) GW160.out)) | (dsimp only; exact Nat.ne_of_lt (Nat.lt_of_lt_of_le (by have := World.block_lt_of_cell? _ _ hw159_0; first | rwa [add_block] at this | exact this) GW160.out))) _).trans (((cell_far (p := ⟨gb160, _, none⟩) (by first | exact Nat.ne_of_lt (Nat.lt_of_lt_of_le (by have := World.block_lt_of_cell? _ _ hw159_0; first | rwa [add_block] at this | exact this) GW160.out) | (rw [add_block]; exact Nat.ne_of_lt (Nat.lt_of_lt_of_le (by have := World.block_lt_of_cell? _ _ hw159_0; first | rwa [add_block] at this | exact this) GW160.out)) | (show (Addr.add _ _).block ≠ _; rw [add_block]; exact Nat.ne_of_lt (Nat.lt_of_lt_of_le (by have := World.block_lt_of_cell? _ _ hw159_0; first | rwa [add_block] at this | exact this) GW160.out)) | (dsimp only; exact Nat.ne_of_lt (Nat.lt_of_lt_of_le (by have := World.block_lt_of_cell? _ _ hw159_0; first | rwa [add_block] at this | exact this) GW160.out))) _).trans (hHeld.2.2.2.2))))⟩ (fun hHeld => ?_)
                  clear hK K
                  refine done_ (done_of HT_.out (by kernel_rfl)) ?_
                  try go_wp2
                  go_loopg [7] k2 (fun kq v7 w' => ∃ (x7_3 : Int), v7 = .int .i64 x7_3 ∧ Aside0 (icehouseref09_Points.l2 kq x3_2 x4_1 x5_2 x7_3 l0_0 a0_1 a0_2 t158 (rd l0_0 x4_1) = some r) ∧ Aside0 (kq ≤ k2) ∧ Aside0 (Kd.R k70 70 w' w.heap.size (fun k_ => k_ ≠ gb160) u3 x3_2) ∧ Aside0 (w'.heap[gb156]? = some (.cells #[(.slice (some ad157) l0_0.length c0_0), .int .i64 a0_1, .int .i64 a0_2] 42 (0, 0))) ∧ Aside0 (w'.heap[gb160]? = some (.cells #[.int .u64 t158, .int .i64 (rd l0_0 x4_1)] 70 (0, 0))) ∧ Aside0 (Below w.heap.size w w'))
                  case atStart => exact ⟨(0), (by first | rfl | (simp; done) | (simp [*]; done)), H', ⟨Nat.le_refl _⟩, ⟨by (with_reducible repeat (first | apply Kd.R_alloc | apply Kd.R_drewN | apply Kd.R_drew)); exact Kd.R_mono (Kd.R_far (p := ⟨gb160, 1, none⟩) (Kd.R_far (p := ⟨gb160, 0, none⟩) (Kd.R_mono HO_3.out (fun k_ hk => (⟨hk, hk⟩ : _ ∧ k_ ≠ gb160))) (fun _ hk => hk.2) (.int .u64 t158)) (fun _ hk => hk.2) (.int .i64 (rd l0_0 x4_1))) (fun _ hk => hk.1)⟩, ⟨by (with_reducible repeat (first | refine blk_drewN ?_ _ | refine blk_drew ?_ | refine blk_alloc ?_ _)); refine blk_far ?_ NB156_160.out _; (with_reducible repeat (first | refine blk_drewN ?_ _ | refine blk_drew ?_ | refine blk_alloc ?_ _)); refine blk_far ?_ NB156_160.out _; (with_reducible repeat (first | refine blk_drewN ?_ _ | refine blk_drew ?_ | refine blk_alloc ?_ _)); exact BK156.out⟩, ⟨by (with_reducible repeat (first | refine blk_drewN ?_ _ | refine blk_drew ?_ | refine blk_alloc ?_ _)); refine blk_put (cs := #[.int .u64 t158, .int .i64 0]) ?_ 1 _ rfl; (with_reducible repeat (first | refine blk_drewN ?_ _ | refine blk_drew ?_ | refine blk_alloc ?_ _)); refine blk_put (cs := #[.int .u64 0, .int .i64 0]) ?_ 0 _ rfl; (with_reducible repeat (first | refine blk_drewN ?_ _ | refine blk_drew ?_ | refine blk_alloc ?_ _)); exact BK160.out⟩, ⟨by repeat (first | (with_reducible first | exact HB.out | apply below_alloc | apply pw_below_drewN | apply below_drew1 | refine below_set ?_ GE156.out | refine below_set ?_ GE160.out) | exact HB.out)⟩⟩
                  case round =>
                    clear H'
                    try clear p1
                    try clear q1
                    try clear hx1
                    try clear p2
                    try clear c3
                    try clear c3b0
                    try clear c4
                    try clear c5
                    try clear c5b0
                    try clear c6
                    try clear c6b0
                    try clear c7
                    try clear c7b0
                    try clear p15
                    try clear q15
                    try clear hx15
                    try clear hcz4_0
                    try clear hcz4_1
                    try clear hcz4_2
                    try clear hcz9_0
                    try clear hcz9_1
                    try clear hcz9_2
                    try clear hfz4_0
                    try clear hfz4_1
                    try clear hfz4_2
                    try clear hfz9_0
                    try clear hfz9_1
                    try clear hfz9_2
                    try clear hx157_0
                    try clear hx159_0
                    try clear p157
                    try clear p159
                    try clear p2
                    try clear q157
                    try clear q159
                    obtain ⟨x7_3, rfl, HA, HK3, HO_3, BK156, BK160, HB⟩ := hrel
                    cases gk with
                    | zero => exact absurd HA.out (by simp [icehouseref09_Points.l2])
                    | succ k3 =>
                      have H := HA.out
                      clear HA
                      simp only [icehouseref09_Points.l2] at H
                      by_cases c16 : x7_3 < (x3_2.length : Int)
                      · rw [if_pos c16] at H
                        have c16b0 : decide (x7_3 < (x3_2.length : Int)) = true := decide_eq_true c16
                        clear c16
                        by_cases c17 : 0 ≤ x7_3
                        · rw [if_pos c17] at H
                          have c17b0 : decide (0 ≤ x7_3) = true := decide_eq_true c17
                          clear c17
                          replace H := Option.bind_eq_some_iff.mp H
                          obtain ⟨t162, A180, H⟩ := H
                          replace H : (if t162 = true then (icehouseref09_Points.l2 k3 x3_2 x4_1 x5_2 (wrap64 (x7_3 + 1)) l0_0 a0_1 a0_2 t158 (rd l0_0 x4_1)) else (if (((rd_T70 x3_2 x7_3).f0) == t158 && (((rd_T70 x3_2 x7_3).f1) == (rd l0_0 x4_1))) = true then (icehouseref09_Points.l1 k3 x3_2 x4_1 (wrap64 (x5_2 + 1)) l0_0 a0_1 a0_2) else (if x7_3 ≤ (x3_2.length : Int) then ((some (x3_2.take (x7_3 : Int).toNat : List (S70))).bind fun y164 => (if ([] : List (S70)).length + y164.length < 8796093022208 then ((some (([] : List (S70)) ++ y164 : List (S70))).bind fun y168 => (if y168.length < 8796093022208 then ((some (y168 ++ [(⟨t158, (rd l0_0 x4_1)⟩ : S70)] : List (S70))).bind fun y171 => ((some (x3_2.drop (x7_3 : Int).toNat : List (S70))).bind fun y174 => (if y171.length + y174.length < 8796093022208 then (icehouseref09_Points.l1 k3 (y171 ++ y174) x4_1 (wrap64 (x5_2 + 1)) l0_0 a0_1 a0_2) else (none)))) else (none))) else (none))) else (none)))) = some r := H
                          have A18 := Aside0.mk A180
                          clear A180
                          by_cases c19 : t162 = true
                          · subst c19
                            have H1 : (icehouseref09_Points.l2 k3 x3_2 x4_1 x5_2 (wrap64 (x7_3 + 1)) l0_0 a0_1 a0_2 t158 (rd l0_0 x4_1)) = some r := by rw [if_pos rfl] at H; exact H
                            clear H
                            have H := H1
                            clear H1
                            have H' := Aside0.mk H
                            clear H
                            try go_wp2
                            have n0_ := Aside0.mk (Kd.R_drew HO_3.out)
                            have n1_ := Aside0.mk (blk_drew BK156.out)
                            have n2_ := Aside0.mk (blk_drew BK160.out)
                            have n3_ := Aside0.mk (below_drew1 HB.out)
                            clear HO_3
                            clear BK156
                            clear BK160
                            clear HB
                            have HO_3 := n0_
                            have BK156 := n1_
                            have BK160 := n2_
                            have HB := n3_
                            clear n0_ n1_ n2_ n3_
                            obtain ⟨Ao21, co21, eo21⟩ := Kd.R_slice HO_3.out
                            (first | subst eo21 | (injection eo21 with f1_ f2_ f3_; have f4_ := f1_.symm; have f5_ := f3_.symm; clear f1_ f2_ f3_; subst f4_; subst f5_))
                            have p161 : 0 ≤ (x7_3 : Int) := of_decide_eq_true (by first | (with_reducible assumption) | assumption)
                            have q161 : x7_3 < (x3_2.length : Int) := of_decide_eq_true (by first | (with_reducible assumption) | assumption)
                            obtain ⟨ad161, e161, hx161_0, hx161_1⟩ := at_T70 (Kd.R_reads' HO_3.out).2.2 x7_3 p161 q161
                            cases e161
                            replace p161 := eq_true p161
                            replace q161 := eq_true q161
                            refine start_ (n := 12) (S := fun w' => w'.cell? ⟨gb160, 0, none⟩ = some (.int .u64 t158) ∧ w'.cell? ⟨gb160, 1, none⟩ = some (.int .i64 (rd l0_0 x4_1)) ∧ w'.cell? (ad161.add ((x7_3).toNat * 2)) = some (.int .u64 ((rd_T70 x3_2 x7_3).f0)) ∧ w'.cell? ⟨(ad161.add ((x7_3).toNat * 2)).block, (ad161.add ((x7_3).toNat * 2)).off + 1, none⟩ = some (.int .i64 ((rd_T70 x3_2 x7_3).f1))) (ds := []) #[false, false, false, false, false, false, false, false, false, false, false, false] (by kernel_rfl) rfl rfl ⟨(blk_cell BK160.out 0).trans rfl, (blk_cell BK160.out 1).trans rfl, hx161_0, hx161_1⟩ (fun hHeld => ?_); refine with_tabW icehouseref09_Points.tab10 icehouseref09_Points.bits10 (fun HT_ HW_ => ?_)
                            generalize wr.drew = w20 at HO_3 BK156 BK160 HB hx161_0 hx161_1 hHeld ⊢
                            refine pure_ (i := 0) (N := some 35) (v := ?_) (a' := ?_) #[true, false, false, false, false, false, false, false, false, false, false, false] rfl rfl (any_of HT_.out (by kernel_rfl)) (fun _ _ _ h => h) (Or.inl ⟨by rfl, ?_⟩) ?_ ?_
                            rotate_left
                            · intro w'
                              go_simp
                              with_reducible rfl
                            rotate_left
                            · simp only [Act.put, List.setIfInBounds_toArray, List.set_cons_zero, List.set_cons_succ, i64_w, i32_w]
                              rfl
                            refine pure_ (i := 1) (N := some 36) (v := ?_) (a' := ?_) #[true, true, false, false, false, false, false, false, false, false, false, false] rfl rfl (any_of HT_.out (by kernel_rfl)) (fun _ _ _ h => h) (Or.inl ⟨by rfl, ?_⟩) ?_ ?_
                            rotate_left
                            · intro w'
                              go_simp
                              with_reducible rfl
                            rotate_left
                            · simp only [Act.put, List.setIfInBounds_toArray, List.set_cons_zero, List.set_cons_succ, i64_w, i32_w]
                              rfl
                            refine pure_ (i := 2) (N := some 37) (v := ?_) (a' := ?_) #[true, true, true, false, false, false, false, false, false, false, false, false] rfl rfl (any_of HT_.out (by kernel_rfl)) (fun _ _ _ h => h) (Or.inl ⟨by rfl, ?_⟩) ?_ ?_
                            rotate_left
                            · intro w'
                              go_simp
                              with_reducible rfl
                            rotate_left
                            · simp only [Act.put, List.setIfInBounds_toArray, List.set_cons_zero, List.set_cons_succ, i64_w, i32_w]
                              rfl
                            refine pure_ (i := 3) (N := some 38) (v := ?_) (a' := ?_) #[true, true, true, true, false, false, false, false, false, false, false, false] rfl rfl (any_of HT_.out (by kernel_rfl)) (fun _ _ _ h => h) (Or.inl ⟨by rfl, ?_⟩) ?_ ?_
                            rotate_left
                            · intro w'
                              go_simp
                              with_reducible rfl
                            rotate_left
                            · simp only [Act.put, List.setIfInBounds_toArray, List.set_cons_zero, List.set_cons_succ, i64_w, i32_w]
                              rfl
                            refine pure_ (i := 4) (N := some 39) (v := ?_) (a' := ?_) #[true, true, true, true, true, false, false, false, false, false, false, false] rfl rfl (any_of HT_.out (by kernel_rfl)) (fun _ _ _ h => h) (Or.inl ⟨by rfl, ?_⟩) ?_ ?_
                            rotate_left
                            · intro w'
                              go_simp
                              with_reducible rfl
                            rotate_left
                            · simp only [Act.put, List.setIfInBounds_toArray, List.set_cons_zero, List.set_cons_succ, i64_w, i32_w]
                              rfl
                            refine pure_ (i := 5) (N := some 40) (v := ?_) (a' := ?_) #[true, true, true, true, true, true, false, false, false, false, false, false] rfl rfl (any_of HT_.out (by kernel_rfl)) (fun _ _ _ h => h) (Or.inl ⟨by rfl, ?_⟩) ?_ ?_
                            rotate_left
                            · intro w'
                              go_simp
                              with_reducible rfl
                            rotate_left
                            · simp only [Act.put, List.setIfInBounds_toArray, List.set_cons_zero, List.set_cons_succ, i64_w, i32_w]
                              rfl
                            refine pure_ (i := 6) (N := some 41) (v := ?_) (a' := ?_) #[true, true, true, true, true, true, true, false, false, false, false, false] rfl rfl (any_of HT_.out (by kernel_rfl)) (fun _ _ _ h => h) (Or.inl ⟨by rfl, ?_⟩) ?_ ?_
                            rotate_left
                            · intro w'
                              go_simp
                              with_reducible rfl
                            rotate_left
                            · simp only [Act.put, List.setIfInBounds_toArray, List.set_cons_zero, List.set_cons_succ, i64_w, i32_w]
                              rfl
                            refine pure_ (i := 7) (N := some 42) (v := ?_) (a' := ?_) #[true, true, true, true, true, true, true, true, false, false, false, false] rfl rfl (any_of HT_.out (by kernel_rfl)) (fun _ _ _ h => h) (Or.inl ⟨by rfl, ?_⟩) ?_ ?_
                            rotate_left
                            · intro w'
                              go_simp
                              with_reducible rfl
                            rotate_left
                            · simp only [Act.put, List.setIfInBounds_toArray, List.set_cons_zero, List.set_cons_succ, i64_w, i32_w]
                              rfl
                            refine take_ (i := 8) (N := some 43) (v := ?_) (a' := ?_) #[true, true, true, true, true, true, true, true, true, false, false, false] rfl rfl (take_ofW HT_.out HW_.out (by kernel_rfl)) (fun _ _ _ h => h) (Or.inl ⟨by rfl, ?_⟩) hHeld ?_ ?_
                            rotate_left
                            · rintro w' ⟨s0, s1, s2, s3⟩
                              go_simp
                              with_reducible rfl
                            rotate_left
                            · simp only [Act.put, List.setIfInBounds_toArray, List.set_cons_zero, List.set_cons_succ, i64_w, i32_w]
                              rfl
                            refine take_ (i := 9) (N := some 44) (v := ?_) (a' := ?_) #[true, true, true, true, true, true, true, true, true, true, false, false] rfl rfl (take_ofW HT_.out HW_.out (by kernel_rfl)) (fun _ _ _ h => h) (Or.inl ⟨by rfl, ?_⟩) hHeld ?_ ?_
                            rotate_left
                            · rintro w' ⟨s0, s1, s2, s3⟩
                              go_simp
                              with_reducible rfl
                            rotate_left
                            · simp only [Act.put, List.setIfInBounds_toArray, List.set_cons_zero, List.set_cons_succ, i64_w, i32_w]
                              rfl
                            refine one_ (i := 10) (N := some 45) #[true, true, true, true, true, true, true, true, true, true, true, false] rfl rfl (one_of HT_.out (by kernel_rfl)) (by decide) (fun K hK => ?_)
                            refine goes_ Try.func58 (by kernel_rfl) rfl #[.agg #[.int .u64 ((rd_T70 x3_2 x7_3).f0), .int .i64 ((rd_T70 x3_2 x7_3).f1)], .agg #[.int .u64 t158, .int .i64 (rd l0_0 x4_1)]] (by rfl) rfl rfl (by (try simp only [List.map_toArray, List.map_cons, List.map_nil]); first | done | rfl | (simp only [List.length_drop, List.length_take]; rfl)) ?_
                            with_reducible refine (icehouseref09_less.calls ((rd_T70 x3_2 x7_3).f0) ((rd_T70 x3_2 x7_3).f1) t158 (rd l0_0 x4_1) true _ A18.out).mono ?_
                            rintro e w22 ⟨rfl, hb⟩
                            have HS2_ := (hb.cell (World.block_lt_of_cell? _ _ (hHeld.2.2.1))).trans (hHeld.2.2.1)
                            have HS3_ := (hb.cell (World.block_lt_of_cell? _ _ (hHeld.2.2.2))).trans (hHeld.2.2.2)
                            refine ⟨_, rfl, ?_⟩
                            have n0_ := Aside0.mk (Kd.R_below (by (with_reducible repeat (first | apply Kd.R_alloc | apply Kd.R_drewN | apply Kd.R_drew)); exact HO_3.out) hb)
                            have n1_ := Aside0.mk (blk_below (g := gb156) (o := .cells #[.slice (some ad157) l0_0.length c0_0, .int .i64 a0_1, .int .i64 a0_2] 42 (0, 0)) (by (with_reducible repeat (first | refine blk_drewN ?_ _ | refine blk_drew ?_ | refine blk_alloc ?_ _)); exact BK156.out) hb)
                            have n2_ := Aside0.mk (blk_below (g := gb160) (o := .cells #[.int .u64 t158, .int .i64 (rd l0_0 x4_1)] 70 (0, 0)) (by (with_reducible repeat (first | refine blk_drewN ?_ _ | refine blk_drew ?_ | refine blk_alloc ?_ _)); exact BK160.out) hb)
                            have n3_ := Aside0.mk (below_step (by repeat (first | (with_reducible first | exact HB.out | apply below_alloc | apply pw_below_drewN | apply below_drew1 | refine below_set ?_ GE156.out | refine below_set ?_ GE160.out) | exact HB.out)) hb)
                            clear HO_3
                            clear BK156
                            clear BK160
                            clear HB
                            have HO_3 := n0_
                            have BK156 := n1_
                            have BK160 := n2_
                            have HB := n3_
                            clear n0_ n1_ n2_ n3_
                            (try clear hb)
                            (try clear hb2)
                            (try clear hk)
                            (try clear hi)
                            refine hK.out _ _ ⟨(blk_cell BK160.out 0).trans rfl, (blk_cell BK160.out 1).trans rfl, HS2_, HS3_⟩ (fun hHeld => ?_)
                            clear hK K
                            refine norm_ (a' := ?_) ?_ ?_
                            rotate_left
                            · show Act.put _ (some 45) _ = _
                              simp only [Act.put, List.setIfInBounds_toArray, List.set_cons_zero, List.set_cons_succ, i64_w, i32_w]
                              rfl
                            refine pure_ (i := 11) (N := some 46) (v := ?_) (a' := ?_) #[true, true, true, true, true, true, true, true, true, true, true, true] rfl rfl (any_of HT_.out (by kernel_rfl)) (fun _ _ _ h => h) (Or.inl ⟨by rfl, ?_⟩) ?_ ?_
                            rotate_left
                            · intro w'
                              go_simp
                              with_reducible rfl
                            rotate_left
                            · simp only [Act.put, List.setIfInBounds_toArray, List.set_cons_zero, List.set_cons_succ, i64_w, i32_w]
                              rfl
                            refine done_ (done_of HT_.out (by kernel_rfl)) ?_
                            try go_wp2
                            go_roundg k3
                            case measure => have := HK1.out; have := HK2.out; have := HK3.out; omega
                            case rel => exact ⟨(wrap64 (x7_3 + 1)), (by first | rfl | (simp; done) | (simp [*]; done)), H', ⟨by have := HK1.out; have := HK2.out; have := HK3.out; omega⟩, ⟨by (with_reducible repeat (first | apply Kd.R_alloc | apply Kd.R_drewN | apply Kd.R_drew)); exact HO_3.out⟩, ⟨by (with_reducible repeat (first | refine blk_drewN ?_ _ | refine blk_drew ?_ | refine blk_alloc ?_ _)); exact BK156.out⟩, ⟨by (with_reducible repeat (first | refine blk_drewN ?_ _ | refine blk_drew ?_ | refine blk_alloc ?_ _)); exact BK160.out⟩, ⟨by repeat (first | (with_reducible first | exact HB.out | apply below_alloc | apply pw_below_drewN | apply below_drew1 | refine below_set ?_ GE156.out | refine below_set ?_ GE160.out) | exact HB.out)⟩⟩
                          · replace c19 := Bool.eq_false_iff.mpr c19
                            subst c19
                            have H1 : (if (((rd_T70 x3_2 x7_3).f0) == t158 && (((rd_T70 x3_2 x7_3).f1) == (rd l0_0 x4_1))) = true then (icehouseref09_Points.l1 k3 x3_2 x4_1 (wrap64 (x5_2 + 1)) l0_0 a0_1 a0_2) else (if x7_3 ≤ (x3_2.length : Int) then ((some (x3_2.take (x7_3 : Int).toNat : List (S70))).bind fun y164 => (if ([] : List (S70)).length + y164.length < 8796093022208 then ((some (([] : List (S70)) ++ y164 : List (S70))).bind fun y168 => (if y168.length < 8796093022208 then ((some (y168 ++ [(⟨t158, (rd l0_0 x4_1)⟩ : S70)] : List (S70))).bind fun y171 => ((some (x3_2.drop (x7_3 : Int).toNat : List (S70))).bind fun y174 => (if y171.length + y174.length < 8796093022208 then (icehouseref09_Points.l1 k3 (y171 ++ y174) x4_1 (wrap64 (x5_2 + 1)) l0_0 a0_1 a0_2) else (none)))) else (none))) else (none))) else (none))) = some r := by rw [if_neg (show ¬ (false = true) by decide)] at H; exact H
                            clear H
                            have H := H1
                            clear H1
                            by_cases c23 : (((rd_T70 x3_2 x7_3).f0) == t158 && (((rd_T70 x3_2 x7_3).f1) == (rd l0_0 x4_1))) = true
                            · rw [if_pos c23] at H
                              have c23b0 : (((rd_T70 x3_2 x7_3).f0) == t158 && (((rd_T70 x3_2 x7_3).f1) == (rd l0_0 x4_1))) = true := c23
                              (try (have c23b1 : decide (((rd_T70 x3_2 x7_3).f0) = t158 && (((rd_T70 x3_2 x7_3).f1) == (rd l0_0 x4_1))) = true := by simpa using c23))
                              (try (have c23b2 : (((rd_T70 x3_2 x7_3).f0) == t158 && (((rd_T70 x3_2 x7_3).f1) == (rd l0_0 x4_1))) = true := by simpa using c23))
                              clear c23
                              have H' := Aside0.mk H
                              clear H
                              try go_wp2
                              have n0_ := Aside0.mk (Kd.R_drew HO_3.out)
                              have n1_ := Aside0.mk (blk_drew BK156.out)
                              have n2_ := Aside0.mk (blk_drew BK160.out)
                              have n3_ := Aside0.mk (below_drew1 HB.out)
                              clear HO_3
                              clear BK156
                              clear BK160
                              clear HB
                              have HO_3 := n0_
                              have BK156 := n1_
                              have BK160 := n2_
                              have HB := n3_
                              clear n0_ n1_ n2_ n3_
                              obtain ⟨Ao25, co25, eo25⟩ := Kd.R_slice HO_3.out
                              (first | subst eo25 | (injection eo25 with f1_ f2_ f3_; have f4_ := f1_.symm; have f5_ := f3_.symm; clear f1_ f2_ f3_; subst f4_; subst f5_))
                              have p161 : 0 ≤ (x7_3 : Int) := of_decide_eq_true (by first | (with_reducible assumption) | assumption)
                              have q161 : x7_3 < (x3_2.length : Int) := of_decide_eq_true (by first | (with_reducible assumption) | assumption)
                              obtain ⟨ad161, e161, hx161_0, hx161_1⟩ := at_T70 (Kd.R_reads' HO_3.out).2.2 x7_3 p161 q161
                              cases e161
                              replace p161 := eq_true p161
                              replace q161 := eq_true q161
                              refine start_ (n := 12) (S := fun w' => w'.cell? ⟨gb160, 0, none⟩ = some (.int .u64 t158) ∧ w'.cell? ⟨gb160, 1, none⟩ = some (.int .i64 (rd l0_0 x4_1)) ∧ w'.cell? (ad161.add ((x7_3).toNat * 2)) = some (.int .u64 ((rd_T70 x3_2 x7_3).f0)) ∧ w'.cell? ⟨(ad161.add ((x7_3).toNat * 2)).block, (ad161.add ((x7_3).toNat * 2)).off + 1, none⟩ = some (.int .i64 ((rd_T70 x3_2 x7_3).f1))) (ds := []) #[false, false, false, false, false, false, false, false, false, false, false, false] (by kernel_rfl) rfl rfl ⟨(blk_cell BK160.out 0).trans rfl, (blk_cell BK160.out 1).trans rfl, hx161_0, hx161_1⟩ (fun hHeld => ?_); refine with_tabW icehouseref09_Points.tab10 icehouseref09_Points.bits10 (fun HT_ HW_ => ?_)
                              generalize wr.drew = w24 at HO_3 BK156 BK160 HB hx161_0 hx161_1 hHeld ⊢
                              refine pure_ (i := 0) (N := some 35) (v := ?_) (a' := ?_) #[true, false, false, false, false, false, false, false, false, false, false, false] rfl rfl (any_of HT_.out (by kernel_rfl)) (fun _ _ _ h => h) (Or.inl ⟨by rfl, ?_⟩) ?_ ?_
                              rotate_left
                              · intro w'
                                go_simp
                                with_reducible rfl
                              rotate_left
                              · simp only [Act.put, List.setIfInBounds_toArray, List.set_cons_zero, List.set_cons_succ, i64_w, i32_w]
                                rfl
                              refine pure_ (i := 1) (N := some 36) (v := ?_) (a' := ?_) #[true, true, false, false, false, false, false, false, false, false, false, false] rfl rfl (any_of HT_.out (by kernel_rfl)) (fun _ _ _ h => h) (Or.inl ⟨by rfl, ?_⟩) ?_ ?_
                              rotate_left
                              · intro w'
                                go_simp
                                with_reducible rfl
                              rotate_left
                              · simp only [Act.put, List.setIfInBounds_toArray, List.set_cons_zero, List.set_cons_succ, i64_w, i32_w]
                                rfl
                              refine pure_ (i := 2) (N := some 37) (v := ?_) (a' := ?_) #[true, true, true, false, false, false, false, false, false, false, false, false] rfl rfl (any_of HT_.out (by kernel_rfl)) (fun _ _ _ h => h) (Or.inl ⟨by rfl, ?_⟩) ?_ ?_
                              rotate_left
                              · intro w'
                                go_simp
                                with_reducible rfl
                              rotate_left
                              · simp only [Act.put, List.setIfInBounds_toArray, List.set_cons_zero, List.set_cons_succ, i64_w, i32_w]
                                rfl
                              refine pure_ (i := 3) (N := some 38) (v := ?_) (a' := ?_) #[true, true, true, true, false, false, false, false, false, false, false, false] rfl rfl (any_of HT_.out (by kernel_rfl)) (fun _ _ _ h => h) (Or.inl ⟨by rfl, ?_⟩) ?_ ?_
                              rotate_left
                              · intro w'
                                go_simp
                                with_reducible rfl
                              rotate_left
                              · simp only [Act.put, List.setIfInBounds_toArray, List.set_cons_zero, List.set_cons_succ, i64_w, i32_w]
                                rfl
                              refine pure_ (i := 4) (N := some 39) (v := ?_) (a' := ?_) #[true, true, true, true, true, false, false, false, false, false, false, false] rfl rfl (any_of HT_.out (by kernel_rfl)) (fun _ _ _ h => h) (Or.inl ⟨by rfl, ?_⟩) ?_ ?_
                              rotate_left
                              · intro w'
                                go_simp
                                with_reducible rfl
                              rotate_left
                              · simp only [Act.put, List.setIfInBounds_toArray, List.set_cons_zero, List.set_cons_succ, i64_w, i32_w]
                                rfl
                              refine pure_ (i := 5) (N := some 40) (v := ?_) (a' := ?_) #[true, true, true, true, true, true, false, false, false, false, false, false] rfl rfl (any_of HT_.out (by kernel_rfl)) (fun _ _ _ h => h) (Or.inl ⟨by rfl, ?_⟩) ?_ ?_
                              rotate_left
                              · intro w'
                                go_simp
                                with_reducible rfl
                              rotate_left
                              · simp only [Act.put, List.setIfInBounds_toArray, List.set_cons_zero, List.set_cons_succ, i64_w, i32_w]
                                rfl
                              refine pure_ (i := 6) (N := some 41) (v := ?_) (a' := ?_) #[true, true, true, true, true, true, true, false, false, false, false, false] rfl rfl (any_of HT_.out (by kernel_rfl)) (fun _ _ _ h => h) (Or.inl ⟨by rfl, ?_⟩) ?_ ?_
                              rotate_left
                              · intro w'
                                go_simp
                                with_reducible rfl
                              rotate_left
                              · simp only [Act.put, List.setIfInBounds_toArray, List.set_cons_zero, List.set_cons_succ, i64_w, i32_w]
                                rfl
                              refine pure_ (i := 7) (N := some 42) (v := ?_) (a' := ?_) #[true, true, true, true, true, true, true, true, false, false, false, false] rfl rfl (any_of HT_.out (by kernel_rfl)) (fun _ _ _ h => h) (Or.inl ⟨by rfl, ?_⟩) ?_ ?_
                              rotate_left
                              · intro w'
                                go_simp
                                with_reducible rfl
                              rotate_left
                              · simp only [Act.put, List.setIfInBounds_toArray, List.set_cons_zero, List.set_cons_succ, i64_w, i32_w]
                                rfl
                              refine take_ (i := 8) (N := some 43) (v := ?_) (a' := ?_) #[true, true, true, true, true, true, true, true, true, false, false, false] rfl rfl (take_ofW HT_.out HW_.out (by kernel_rfl)) (fun _ _ _ h => h) (Or.inl ⟨by rfl, ?_⟩) hHeld ?_ ?_
                              rotate_left
                              · rintro w' ⟨s0, s1, s2, s3⟩
                                go_simp
                                with_reducible rfl
                              rotate_left
                              · simp only [Act.put, List.setIfInBounds_toArray, List.set_cons_zero, List.set_cons_succ, i64_w, i32_w]
                                rfl
                              refine take_ (i := 9) (N := some 44) (v := ?_) (a' := ?_) #[true, true, true, true, true, true, true, true, true, true, false, false] rfl rfl (take_ofW HT_.out HW_.out (by kernel_rfl)) (fun _ _ _ h => h) (Or.inl ⟨by rfl, ?_⟩) hHeld ?_ ?_
                              rotate_left
                              · rintro w' ⟨s0, s1, s2, s3⟩
                                go_simp
                                with_reducible rfl
                              rotate_left
                              · simp only [Act.put, List.setIfInBounds_toArray, List.set_cons_zero, List.set_cons_succ, i64_w, i32_w]
                                rfl
                              refine one_ (i := 10) (N := some 45) #[true, true, true, true, true, true, true, true, true, true, true, false] rfl rfl (one_of HT_.out (by kernel_rfl)) (by decide) (fun K hK => ?_)
                              refine goes_ Try.func58 (by kernel_rfl) rfl #[.agg #[.int .u64 ((rd_T70 x3_2 x7_3).f0), .int .i64 ((rd_T70 x3_2 x7_3).f1)], .agg #[.int .u64 t158, .int .i64 (rd l0_0 x4_1)]] (by rfl) rfl rfl (by (try simp only [List.map_toArray, List.map_cons, List.map_nil]); first | done | rfl | (simp only [List.length_drop, List.length_take]; rfl)) ?_
                              with_reducible refine (icehouseref09_less.calls ((rd_T70 x3_2 x7_3).f0) ((rd_T70 x3_2 x7_3).f1) t158 (rd l0_0 x4_1) false _ A18.out).mono ?_
                              rintro e w26 ⟨rfl, hb⟩
                              have HS2_ := (hb.cell (World.block_lt_of_cell? _ _ (hHeld.2.2.1))).trans (hHeld.2.2.1)
                              have HS3_ := (hb.cell (World.block_lt_of_cell? _ _ (hHeld.2.2.2))).trans (hHeld.2.2.2)
                              refine ⟨_, rfl, ?_⟩
                              have n0_ := Aside0.mk (Kd.R_below (by (with_reducible repeat (first | apply Kd.R_alloc | apply Kd.R_drewN | apply Kd.R_drew)); exact HO_3.out) hb)
                              have n1_ := Aside0.mk (blk_below (g := gb156) (o := .cells #[.slice (some ad157) l0_0.length c0_0, .int .i64 a0_1, .int .i64 a0_2] 42 (0, 0)) (by (with_reducible repeat (first | refine blk_drewN ?_ _ | refine blk_drew ?_ | refine blk_alloc ?_ _)); exact BK156.out) hb)
                              have n2_ := Aside0.mk (blk_below (g := gb160) (o := .cells #[.int .u64 t158, .int .i64 (rd l0_0 x4_1)] 70 (0, 0)) (by (with_reducible repeat (first | refine blk_drewN ?_ _ | refine blk_drew ?_ | refine blk_alloc ?_ _)); exact BK160.out) hb)
                              have n3_ := Aside0.mk (below_step (by repeat (first | (with_reducible first | exact HB.out | apply below_alloc | apply pw_below_drewN | apply below_drew1 | refine below_set ?_ GE156.out | refine below_set ?_ GE160.out) | exact HB.out)) hb)
                              clear HO_3
                              clear BK156
                              clear BK160
                              clear HB
                              have HO_3 := n0_
                              have BK156 := n1_
                              have BK160 := n2_
                              have HB := n3_
                              clear n0_ n1_ n2_ n3_
                              (try clear hb)
                              (try clear hb2)
                              (try clear hk)
                              (try clear hi)
                              refine hK.out _ _ ⟨(blk_cell BK160.out 0).trans rfl, (blk_cell BK160.out 1).trans rfl, HS2_, HS3_⟩ (fun hHeld => ?_)
                              clear hK K
                              refine norm_ (a' := ?_) ?_ ?_
                              rotate_left
                              · show Act.put _ (some 45) _ = _
                                simp only [Act.put, List.setIfInBounds_toArray, List.set_cons_zero, List.set_cons_succ, i64_w, i32_w]
                                rfl
                              refine pure_ (i := 11) (N := some 46) (v := ?_) (a' := ?_) #[true, true, true, true, true, true, true, true, true, true, true, true] rfl rfl (any_of HT_.out (by kernel_rfl)) (fun _ _ _ h => h) (Or.inl ⟨by rfl, ?_⟩) ?_ ?_
                              rotate_left
                              · intro w'
                                go_simp
                                with_reducible rfl
                              rotate_left
                              · simp only [Act.put, List.setIfInBounds_toArray, List.set_cons_zero, List.set_cons_succ, i64_w, i32_w]
                                rfl
                              refine done_ (done_of HT_.out (by kernel_rfl)) ?_
                              try go_wp2
                              have n0_ := Aside0.mk (Kd.R_drew HO_3.out)
                              have n1_ := Aside0.mk (blk_drew BK156.out)
                              have n2_ := Aside0.mk (blk_drew BK160.out)
                              have n3_ := Aside0.mk (below_drew1 HB.out)
                              clear HO_3
                              clear BK156
                              clear BK160
                              clear HB
                              have HO_3 := n0_
                              have BK156 := n1_
                              have BK160 := n2_
                              have HB := n3_
                              clear n0_ n1_ n2_ n3_
                              have p163 : 0 ≤ (x7_3 : Int) := of_decide_eq_true (by first | (with_reducible assumption) | assumption)
                              have q163 : x7_3 < (x3_2.length : Int) := of_decide_eq_true (by first | (with_reducible assumption) | assumption)
                              obtain ⟨ad163, e163, hx163_0, hx163_1⟩ := at_T70 (Kd.R_reads' HO_3.out).2.2 x7_3 p163 q163
                              obtain rfl : ad161 = ad163 := (by injection e163)
                              replace p163 := eq_true p163
                              replace q163 := eq_true q163
                              refine start_ (n := 12) (S := fun w' => w'.cell? ⟨gb160, 0, none⟩ = some (.int .u64 t158) ∧ w'.cell? ⟨gb160, 1, none⟩ = some (.int .i64 (rd l0_0 x4_1)) ∧ w'.cell? (ad161.add ((x7_3).toNat * 2)) = some (.int .u64 ((rd_T70 x3_2 x7_3).f0)) ∧ w'.cell? ⟨(ad161.add ((x7_3).toNat * 2)).block, (ad161.add ((x7_3).toNat * 2)).off + 1, none⟩ = some (.int .i64 ((rd_T70 x3_2 x7_3).f1))) (ds := []) #[false, false, false, false, false, false, false, false, false, false, false, false] (by kernel_rfl) rfl rfl ⟨(blk_cell BK160.out 0).trans rfl, (blk_cell BK160.out 1).trans rfl, hx163_0, hx163_1⟩ (fun hHeld => ?_); refine with_tabW icehouseref09_Points.tab12 icehouseref09_Points.bits12 (fun HT_ HW_ => ?_)
                              generalize w26.drew = w27 at HO_3 BK156 BK160 HB hx163_0 hx163_1 hHeld ⊢
                              refine pure_ (i := 0) (N := some 49) (v := ?_) (a' := ?_) #[true, false, false, false, false, false, false, false, false, false, false, false] rfl rfl (any_of HT_.out (by kernel_rfl)) (fun _ _ _ h => h) (Or.inl ⟨by rfl, ?_⟩) ?_ ?_
                              rotate_left
                              · intro w'
                                go_simp
                                with_reducible rfl
                              rotate_left
                              · simp only [Act.put, List.setIfInBounds_toArray, List.set_cons_zero, List.set_cons_succ, i64_w, i32_w]
                                rfl
                              refine pure_ (i := 1) (N := some 50) (v := ?_) (a' := ?_) #[true, true, false, false, false, false, false, false, false, false, false, false] rfl rfl (any_of HT_.out (by kernel_rfl)) (fun _ _ _ h => h) (Or.inl ⟨by rfl, ?_⟩) ?_ ?_
                              rotate_left
                              · intro w'
                                go_simp
                                with_reducible rfl
                              rotate_left
                              · simp only [Act.put, List.setIfInBounds_toArray, List.set_cons_zero, List.set_cons_succ, i64_w, i32_w]
                                rfl
                              refine pure_ (i := 2) (N := some 51) (v := ?_) (a' := ?_) #[true, true, true, false, false, false, false, false, false, false, false, false] rfl rfl (any_of HT_.out (by kernel_rfl)) (fun _ _ _ h => h) (Or.inl ⟨by rfl, ?_⟩) ?_ ?_
                              rotate_left
                              · intro w'
                                go_simp
                                with_reducible rfl
                              rotate_left
                              · simp only [Act.put, List.setIfInBounds_toArray, List.set_cons_zero, List.set_cons_succ, i64_w, i32_w]
                                rfl
                              refine pure_ (i := 3) (N := some 52) (v := ?_) (a' := ?_) #[true, true, true, true, false, false, false, false, false, false, false, false] rfl rfl (any_of HT_.out (by kernel_rfl)) (fun _ _ _ h => h) (Or.inl ⟨by rfl, ?_⟩) ?_ ?_
                              rotate_left
                              · intro w'
                                go_simp
                                with_reducible rfl
                              rotate_left
                              · simp only [Act.put, List.setIfInBounds_toArray, List.set_cons_zero, List.set_cons_succ, i64_w, i32_w]
                                rfl
                              refine pure_ (i := 4) (N := some 53) (v := ?_) (a' := ?_) #[true, true, true, true, true, false, false, false, false, false, false, false] rfl rfl (any_of HT_.out (by kernel_rfl)) (fun _ _ _ h => h) (Or.inl ⟨by rfl, ?_⟩) ?_ ?_
                              rotate_left
                              · intro w'
                                go_simp
                                with_reducible rfl
                              rotate_left
                              · simp only [Act.put, List.setIfInBounds_toArray, List.set_cons_zero, List.set_cons_succ, i64_w, i32_w]
                                rfl
                              refine pure_ (i := 5) (N := some 54) (v := ?_) (a' := ?_) #[true, true, true, true, true, true, false, false, false, false, false, false] rfl rfl (any_of HT_.out (by kernel_rfl)) (fun _ _ _ h => h) (Or.inl ⟨by rfl, ?_⟩) ?_ ?_
                              rotate_left
                              · intro w'
                                go_simp
                                with_reducible rfl
                              rotate_left
                              · simp only [Act.put, List.setIfInBounds_toArray, List.set_cons_zero, List.set_cons_succ, i64_w, i32_w]
                                rfl
                              refine pure_ (i := 6) (N := some 55) (v := ?_) (a' := ?_) #[true, true, true, true, true, true, true, false, false, false, false, false] rfl rfl (any_of HT_.out (by kernel_rfl)) (fun _ _ _ h => h) (Or.inl ⟨by rfl, ?_⟩) ?_ ?_
                              rotate_left
                              · intro w'
                                go_simp
                                with_reducible rfl
                              rotate_left
                              · simp only [Act.put, List.setIfInBounds_toArray, List.set_cons_zero, List.set_cons_succ, i64_w, i32_w]
                                rfl
                              refine pure_ (i := 7) (N := some 56) (v := ?_) (a' := ?_) #[true, true, true, true, true, true, true, true, false, false, false, false] rfl rfl (any_of HT_.out (by kernel_rfl)) (fun _ _ _ h => h) (Or.inl ⟨by rfl, ?_⟩) ?_ ?_
                              rotate_left
                              · intro w'
                                go_simp
                                with_reducible rfl
                              rotate_left
                              · simp only [Act.put, List.setIfInBounds_toArray, List.set_cons_zero, List.set_cons_succ, i64_w, i32_w]
                                rfl
                              refine take_ (i := 8) (N := some 57) (v := ?_) (a' := ?_) #[true, true, true, true, true, true, true, true, true, false, false, false] rfl rfl (take_ofW HT_.out HW_.out (by kernel_rfl)) (fun _ _ _ h => h) (Or.inl ⟨by rfl, ?_⟩) hHeld ?_ ?_
                              rotate_left
                              · rintro w' ⟨s0, s1, s2, s3⟩
                                go_simp
                                with_reducible rfl
                              rotate_left
                              · simp only [Act.put, List.setIfInBounds_toArray, List.set_cons_zero, List.set_cons_succ, i64_w, i32_w]
                                rfl
                              refine take_ (i := 9) (N := some 58) (v := ?_) (a' := ?_) #[true, true, true, true, true, true, true, true, true, true, false, false] rfl rfl (take_ofW HT_.out HW_.out (by kernel_rfl)) (fun _ _ _ h => h) (Or.inl ⟨by rfl, ?_⟩) hHeld ?_ ?_
                              rotate_left
                              · rintro w' ⟨s0, s1, s2, s3⟩
                                go_simp
                                with_reducible rfl
                              rotate_left
                              · simp only [Act.put, List.setIfInBounds_toArray, List.set_cons_zero, List.set_cons_succ, i64_w, i32_w]
                                rfl
                              refine pure_ (i := 10) (N := some 59) (v := ?_) (a' := ?_) #[true, true, true, true, true, true, true, true, true, true, true, false] rfl rfl (any_of HT_.out (by kernel_rfl)) (fun _ _ _ h => h) (Or.inl ⟨by rfl, ?_⟩) ?_ ?_
                              rotate_left
                              · intro w'
                                go_simp
                                with_reducible rfl
                              rotate_left
                              · simp only [Act.put, List.setIfInBounds_toArray, List.set_cons_zero, List.set_cons_succ, i64_w, i32_w]
                                rfl
                              refine pure_ (i := 11) (N := some 60) (v := ?_) (a' := ?_) #[true, true, true, true, true, true, true, true, true, true, true, true] rfl rfl (any_of HT_.out (by kernel_rfl)) (fun _ _ _ h => h) (Or.inl ⟨by rfl, ?_⟩) ?_ ?_
                              rotate_left
                              · intro w'
                                go_simp
                                with_reducible rfl
                              rotate_left
                              · simp only [Act.put, List.setIfInBounds_toArray, List.set_cons_zero, List.set_cons_succ, i64_w, i32_w]
                                rfl
                              refine done_ (done_of HT_.out (by kernel_rfl)) ?_
                              try go_wp2
                              go_roundg k3
                              case measure => have := HK1.out; have := HK2.out; have := HK3.out; omega
                              case rel => exact ⟨(x3_2), (wrap64 (x5_2 + 1)), (by first | rfl | (simp; done) | (simp [*]; done)), H', ⟨by have := HK1.out; have := HK2.out; have := HK3.out; omega⟩, ⟨by (with_reducible repeat (first | apply Kd.R_alloc | apply Kd.R_drewN | apply Kd.R_drew)); exact Kd.R_mono HO_3.out (fun _ hk => trivial)⟩, ⟨by (with_reducible repeat (first | refine blk_drewN ?_ _ | refine blk_drew ?_ | refine blk_alloc ?_ _)); exact BK156.out⟩, ⟨by repeat (first | (with_reducible first | exact HB.out | apply below_alloc | apply pw_below_drewN | apply below_drew1 | refine below_set ?_ GE156.out | refine below_set ?_ GE160.out) | exact HB.out)⟩⟩
                            · rw [if_neg c23] at H
                              have c23b0 : (((rd_T70 x3_2 x7_3).f0) == t158 && (((rd_T70 x3_2 x7_3).f1) == (rd l0_0 x4_1))) = false := by simpa using c23
                              (try (have c23b1 : decide (((rd_T70 x3_2 x7_3).f0) = t158 && (((rd_T70 x3_2 x7_3).f1) == (rd l0_0 x4_1))) = false := by simpa using c23))
                              (try (have c23b2 : (((rd_T70 x3_2 x7_3).f0) == t158 && (((rd_T70 x3_2 x7_3).f1) == (rd l0_0 x4_1))) = false := by simpa using c23))
                              (try (have c23b3 : ¬ (((rd_T70 x3_2 x7_3).f0) = t158 && (((rd_T70 x3_2 x7_3).f1) == (rd l0_0 x4_1))) := by simpa using c23))
                              clear c23
                              have c28b0 := eq_true (of_decide_eq_true (by first | (with_reducible assumption) | assumption) : 0 ≤ x7_3)
                              by_cases c29 : x7_3 ≤ (x3_2.length : Int)
                              · rw [if_pos c29] at H
                                have c29b0 := eq_true c29
                                have c29b1 : decide (x7_3 ≤ (x3_2.length : Int)) = true := decide_eq_true c29
                                clear c29
                                obtain ⟨y164, hy164⟩ : ∃ y_ : List (S70), y_ = (x3_2.take (x7_3 : Int).toNat) := ⟨_, rfl⟩
                                replace H : (if ([] : List (S70)).length + y164.length < 8796093022208 then ((some (([] : List (S70)) ++ y164 : List (S70))).bind fun y168 => (if y168.length < 8796093022208 then ((some (y168 ++ [(⟨t158, (rd l0_0 x4_1)⟩ : S70)] : List (S70))).bind fun y171 => ((some (x3_2.drop (x7_3 : Int).toNat : List (S70))).bind fun y174 => (if y171.length + y174.length < 8796093022208 then (icehouseref09_Points.l1 k3 (y171 ++ y174) x4_1 (wrap64 (x5_2 + 1)) l0_0 a0_1 a0_2) else (none)))) else (none))) else (none)) = some r := by first | (rw [hy164]; with_reducible exact H) | (have H2_ := (Option.bind_some _ _).symm.trans H; rw [hy164]; with_reducible exact H2_) | (have H2_ := (Option.bind_some _ _).symm.trans H; with_reducible exact H2_) | with_reducible exact H | (rw [hy164]; exact H) | exact H
                                have Ny164 := Aside0.mk hy164
                                clear hy164
                                by_cases c30 : ([] : List (S70)).length + y164.length < 8796093022208
                                · rw [if_pos c30] at H
                                  have LMc30 := Aside0.mk c30
                                  clear c30
                                  obtain ⟨y168, hy168⟩ : ∃ y_ : List (S70), y_ = (([] : List (S70)) ++ y164) := ⟨_, rfl⟩
                                  replace H : (if y168.length < 8796093022208 then ((some (y168 ++ [(⟨t158, (rd l0_0 x4_1)⟩ : S70)] : List (S70))).bind fun y171 => ((some (x3_2.drop (x7_3 : Int).toNat : List (S70))).bind fun y174 => (if y171.length + y174.length < 8796093022208 then (icehouseref09_Points.l1 k3 (y171 ++ y174) x4_1 (wrap64 (x5_2 + 1)) l0_0 a0_1 a0_2) else (none)))) else (none)) = some r := by first | (rw [hy168]; with_reducible exact H) | (have H2_ := (Option.bind_some _ _).symm.trans H; rw [hy168]; with_reducible exact H2_) | (have H2_ := (Option.bind_some _ _).symm.trans H; with_reducible exact H2_) | with_reducible exact H | (rw [hy168]; exact H) | exact H
                                  have Ny168 := Aside0.mk hy168
                                  clear hy168
                                  by_cases c31 : y168.length < 8796093022208
                                  · rw [if_pos c31] at H
                                    have LMc31 := Aside0.mk c31
                                    clear c31
                                    obtain ⟨y171, hy171⟩ : ∃ y_ : List (S70), y_ = (y168 ++ [(⟨t158, (rd l0_0 x4_1)⟩ : S70)]) := ⟨_, rfl⟩
                                    replace H : ((some (x3_2.drop (x7_3 : Int).toNat : List (S70))).bind fun y174 => (if y171.length + y174.length < 8796093022208 then (icehouseref09_Points.l1 k3 (y171 ++ y174) x4_1 (wrap64 (x5_2 + 1)) l0_0 a0_1 a0_2) else (none))) = some r := by first | (rw [hy171]; with_reducible exact H) | (have H2_ := (Option.bind_some _ _).symm.trans H; rw [hy171]; with_reducible exact H2_) | (have H2_ := (Option.bind_some _ _).symm.trans H; with_reducible exact H2_) | with_reducible exact H | (rw [hy171]; exact H) | exact H
                                    have Ny171 := Aside0.mk hy171
                                    clear hy171
                                    have c32b0 := eq_true (of_decide_eq_true (by first | (with_reducible assumption) | assumption) : 0 ≤ x7_3)
                                    have c33b0 := eq_true (of_decide_eq_true (by first | (with_reducible assumption) | assumption) : x7_3 ≤ (x3_2.length : Int))
                                    obtain ⟨y174, hy174⟩ : ∃ y_ : List (S70), y_ = (x3_2.drop (x7_3 : Int).toNat) := ⟨_, rfl⟩
                                    replace H : (if y171.length + y174.length < 8796093022208 then (icehouseref09_Points.l1 k3 (y171 ++ y174) x4_1 (wrap64 (x5_2 + 1)) l0_0 a0_1 a0_2) else (none)) = some r := by first | (rw [hy174]; with_reducible exact H) | (have H2_ := (Option.bind_some _ _).symm.trans H; rw [hy174]; with_reducible exact H2_) | (have H2_ := (Option.bind_some _ _).symm.trans H; with_reducible exact H2_) | with_reducible exact H | (rw [hy174]; exact H) | exact H
                                    have Ny174 := Aside0.mk hy174
                                    clear hy174
                                    by_cases c34 : y171.length + y174.length < 8796093022208
                                    · rw [if_pos c34] at H
                                      have LMc34 := Aside0.mk c34
                                      clear c34
                                      obtain ⟨y178, hy178⟩ : ∃ y_ : List (S70), y_ = (y171 ++ y174) := ⟨_, rfl⟩
                                      replace H : (icehouseref09_Points.l1 k3 y178 x4_1 (wrap64 (x5_2 + 1)) l0_0 a0_1 a0_2) = some r := by first | (rw [hy178]; with_reducible exact H) | (have H2_ := (Option.bind_some _ _).symm.trans H; rw [hy178]; with_reducible exact H2_) | (have H2_ := (Option.bind_some _ _).symm.trans H; with_reducible exact H2_) | with_reducible exact H | (rw [hy178]; exact H) | exact H
                                      have Ny178 := Aside0.mk hy178
                                      clear hy178
                                      have H' := Aside0.mk H
                                      clear H
                                      try go_wp2
                                      have n0_ := Aside0.mk (Kd.R_drew HO_3.out)
                                      have n1_ := Aside0.mk (blk_drew BK156.out)
                                      have n2_ := Aside0.mk (blk_drew BK160.out)
                                      have n3_ := Aside0.mk (below_drew1 HB.out)
                                      clear HO_3
                                      clear BK156
                                      clear BK160
                                      clear HB
                                      have HO_3 := n0_
                                      have BK156 := n1_
                                      have BK160 := n2_
                                      have HB := n3_
                                      clear n0_ n1_ n2_ n3_
                                      obtain ⟨Ao36, co36, eo36⟩ := Kd.R_slice HO_3.out
                                      (first | subst eo36 | (injection eo36 with f1_ f2_ f3_; have f4_ := f1_.symm; have f5_ := f3_.symm; clear f1_ f2_ f3_; subst f4_; subst f5_))
                                      have p161 : 0 ≤ (x7_3 : Int) := of_decide_eq_true (by first | (with_reducible assumption) | assumption)
                                      have q161 : x7_3 < (x3_2.length : Int) := of_decide_eq_true (by first | (with_reducible assumption) | assumption)
                                      obtain ⟨ad161, e161, hx161_0, hx161_1⟩ := at_T70 (Kd.R_reads' HO_3.out).2.2 x7_3 p161 q161
                                      cases e161
                                      replace p161 := eq_true p161
                                      replace q161 := eq_true q161
                                      refine start_ (n := 12) (S := fun w' => w'.cell? ⟨gb160, 0, none⟩ = some (.int .u64 t158) ∧ w'.cell? ⟨gb160, 1, none⟩ = some (.int .i64 (rd l0_0 x4_1)) ∧ w'.cell? (ad161.add ((x7_3).toNat * 2)) = some (.int .u64 ((rd_T70 x3_2 x7_3).f0)) ∧ w'.cell? ⟨(ad161.add ((x7_3).toNat * 2)).block, (ad161.add ((x7_3).toNat * 2)).off + 1, none⟩ = some (.int .i64 ((rd_T70 x3_2 x7_3).f1))) (ds := []) #[false, false, false, false, false, false, false, false, false, false, false, false] (by kernel_rfl) rfl rfl ⟨(blk_cell BK160.out 0).trans rfl, (blk_cell BK160.out 1).trans rfl, hx161_0, hx161_1⟩ (fun hHeld => ?_); refine with_tabW icehouseref09_Points.tab10 icehouseref09_Points.bits10 (fun HT_ HW_ => ?_)
                                      generalize wr.drew = w35 at HO_3 BK156 BK160 HB hx161_0 hx161_1 hHeld ⊢
                                      refine pure_ (i := 0) (N := some 35) (v := ?_) (a' := ?_) #[true, false, false, false, false, false, false, false, false, false, false, false] rfl rfl (any_of HT_.out (by kernel_rfl)) (fun _ _ _ h => h) (Or.inl ⟨by rfl, ?_⟩) ?_ ?_
                                      rotate_left
                                      · intro w'
                                        go_simp
                                        with_reducible rfl
                                      rotate_left
                                      · simp only [Act.put, List.setIfInBounds_toArray, List.set_cons_zero, List.set_cons_succ, i64_w, i32_w]
                                        rfl
                                      refine pure_ (i := 1) (N := some 36) (v := ?_) (a' := ?_) #[true, true, false, false, false, false, false, false, false, false, false, false] rfl rfl (any_of HT_.out (by kernel_rfl)) (fun _ _ _ h => h) (Or.inl ⟨by rfl, ?_⟩) ?_ ?_
                                      rotate_left
                                      · intro w'
                                        go_simp
                                        with_reducible rfl
                                      rotate_left
                                      · simp only [Act.put, List.setIfInBounds_toArray, List.set_cons_zero, List.set_cons_succ, i64_w, i32_w]
                                        rfl
                                      refine pure_ (i := 2) (N := some 37) (v := ?_) (a' := ?_) #[true, true, true, false, false, false, false, false, false, false, false, false] rfl rfl (any_of HT_.out (by kernel_rfl)) (fun _ _ _ h => h) (Or.inl ⟨by rfl, ?_⟩) ?_ ?_
                                      rotate_left
                                      · intro w'
                                        go_simp
                                        with_reducible rfl
                                      rotate_left
                                      · simp only [Act.put, List.setIfInBounds_toArray, List.set_cons_zero, List.set_cons_succ, i64_w, i32_w]
                                        rfl
                                      refine pure_ (i := 3) (N := some 38) (v := ?_) (a' := ?_) #[true, true, true, true, false, false, false, false, false, false, false, false] rfl rfl (any_of HT_.out (by kernel_rfl)) (fun _ _ _ h => h) (Or.inl ⟨by rfl, ?_⟩) ?_ ?_
                                      rotate_left
                                      · intro w'
                                        go_simp
                                        with_reducible rfl
                                      rotate_left
                                      · simp only [Act.put, List.setIfInBounds_toArray, List.set_cons_zero, List.set_cons_succ, i64_w, i32_w]
                                        rfl
                                      refine pure_ (i := 4) (N := some 39) (v := ?_) (a' := ?_) #[true, true, true, true, true, false, false, false, false, false, false, false] rfl rfl (any_of HT_.out (by kernel_rfl)) (fun _ _ _ h => h) (Or.inl ⟨by rfl, ?_⟩) ?_ ?_
                                      rotate_left
                                      · intro w'
                                        go_simp
                                        with_reducible rfl
                                      rotate_left
                                      · simp only [Act.put, List.setIfInBounds_toArray, List.set_cons_zero, List.set_cons_succ, i64_w, i32_w]
                                        rfl
                                      refine pure_ (i := 5) (N := some 40) (v := ?_) (a' := ?_) #[true, true, true, true, true, true, false, false, false, false, false, false] rfl rfl (any_of HT_.out (by kernel_rfl)) (fun _ _ _ h => h) (Or.inl ⟨by rfl, ?_⟩) ?_ ?_
                                      rotate_left
                                      · intro w'
                                        go_simp
                                        with_reducible rfl
                                      rotate_left
                                      · simp only [Act.put, List.setIfInBounds_toArray, List.set_cons_zero, List.set_cons_succ, i64_w, i32_w]
                                        rfl
                                      refine pure_ (i := 6) (N := some 41) (v := ?_) (a' := ?_) #[true, true, true, true, true, true, true, false, false, false, false, false] rfl rfl (any_of HT_.out (by kernel_rfl)) (fun _ _ _ h => h) (Or.inl ⟨by rfl, ?_⟩) ?_ ?_
                                      rotate_left
                                      · intro w'
                                        go_simp
                                        with_reducible rfl
                                      rotate_left
                                      · simp only [Act.put, List.setIfInBounds_toArray, List.set_cons_zero, List.set_cons_succ, i64_w, i32_w]
                                        rfl
                                      refine pure_ (i := 7) (N := some 42) (v := ?_) (a' := ?_) #[true, true, true, true, true, true, true, true, false, false, false, false] rfl rfl (any_of HT_.out (by kernel_rfl)) (fun _ _ _ h => h) (Or.inl ⟨by rfl, ?_⟩) ?_ ?_
                                      rotate_left
                                      · intro w'
                                        go_simp
                                        with_reducible rfl
                                      rotate_left
                                      · simp only [Act.put, List.setIfInBounds_toArray, List.set_cons_zero, List.set_cons_succ, i64_w, i32_w]
                                        rfl
                                      refine take_ (i := 8) (N := some 43) (v := ?_) (a' := ?_) #[true, true, true, true, true, true, true, true, true, false, false, false] rfl rfl (take_ofW HT_.out HW_.out (by kernel_rfl)) (fun _ _ _ h => h) (Or.inl ⟨by rfl, ?_⟩) hHeld ?_ ?_
                                      rotate_left
                                      · rintro w' ⟨s0, s1, s2, s3⟩
                                        go_simp
                                        with_reducible rfl
                                      rotate_left
                                      · simp only [Act.put, List.setIfInBounds_toArray, List.set_cons_zero, List.set_cons_succ, i64_w, i32_w]
                                        rfl
                                      refine take_ (i := 9) (N := some 44) (v := ?_) (a' := ?_) #[true, true, true, true, true, true, true, true, true, true, false, false] rfl rfl (take_ofW HT_.out HW_.out (by kernel_rfl)) (fun _ _ _ h => h) (Or.inl ⟨by rfl, ?_⟩) hHeld ?_ ?_
                                      rotate_left
                                      · rintro w' ⟨s0, s1, s2, s3⟩
                                        go_simp
                                        with_reducible rfl
                                      rotate_left
                                      · simp only [Act.put, List.setIfInBounds_toArray, List.set_cons_zero, List.set_cons_succ, i64_w, i32_w]
                                        rfl
                                      refine one_ (i := 10) (N := some 45) #[true, true, true, true, true, true, true, true, true, true, true, false] rfl rfl (one_of HT_.out (by kernel_rfl)) (by decide) (fun K hK => ?_)
                                      refine goes_ Try.func58 (by kernel_rfl) rfl #[.agg #[.int .u64 ((rd_T70 x3_2 x7_3).f0), .int .i64 ((rd_T70 x3_2 x7_3).f1)], .agg #[.int .u64 t158, .int .i64 (rd l0_0 x4_1)]] (by rfl) rfl rfl (by (try simp only [List.map_toArray, List.map_cons, List.map_nil]); first | done | rfl | (simp only [List.length_drop, List.length_take]; rfl)) ?_
                                      with_reducible refine (icehouseref09_less.calls ((rd_T70 x3_2 x7_3).f0) ((rd_T70 x3_2 x7_3).f1) t158 (rd l0_0 x4_1) false _ A18.out).mono ?_
                                      rintro e w37 ⟨rfl, hb⟩
                                      have HS2_ := (hb.cell (World.block_lt_of_cell? _ _ (hHeld.2.2.1))).trans (hHeld.2.2.1)
                                      have HS3_ := (hb.cell (World.block_lt_of_cell? _ _ (hHeld.2.2.2))).trans (hHeld.2.2.2)
                                      refine ⟨_, rfl, ?_⟩
                                      have n0_ := Aside0.mk (Kd.R_below (by (with_reducible repeat (first | apply Kd.R_alloc | apply Kd.R_drewN | apply Kd.R_drew)); exact HO_3.out) hb)
                                      have n1_ := Aside0.mk (blk_below (g := gb156) (o := .cells #[.slice (some ad157) l0_0.length c0_0, .int .i64 a0_1, .int .i64 a0_2] 42 (0, 0)) (by (with_reducible repeat (first | refine blk_drewN ?_ _ | refine blk_drew ?_ | refine blk_alloc ?_ _)); exact BK156.out) hb)
                                      have n2_ := Aside0.mk (blk_below (g := gb160) (o := .cells #[.int .u64 t158, .int .i64 (rd l0_0 x4_1)] 70 (0, 0)) (by (with_reducible repeat (first | refine blk_drewN ?_ _ | refine blk_drew ?_ | refine blk_alloc ?_ _)); exact BK160.out) hb)
                                      have n3_ := Aside0.mk (below_step (by repeat (first | (with_reducible first | exact HB.out | apply below_alloc | apply pw_below_drewN | apply below_drew1 | refine below_set ?_ GE156.out | refine below_set ?_ GE160.out) | exact HB.out)) hb)
                                      clear HO_3
                                      clear BK156
                                      clear BK160
                                      clear HB
                                      have HO_3 := n0_
                                      have BK156 := n1_
                                      have BK160 := n2_
                                      have HB := n3_
                                      clear n0_ n1_ n2_ n3_
                                      (try clear hb)
                                      (try clear hb2)
                                      (try clear hk)
                                      (try clear hi)
                                      refine hK.out _ _ ⟨(blk_cell BK160.out 0).trans rfl, (blk_cell BK160.out 1).trans rfl, HS2_, HS3_⟩ (fun hHeld => ?_)
                                      clear hK K
                                      refine norm_ (a' := ?_) ?_ ?_
                                      rotate_left
                                      · show Act.put _ (some 45) _ = _
                                        simp only [Act.put, List.setIfInBounds_toArray, List.set_cons_zero, List.set_cons_succ, i64_w, i32_w]
                                        rfl
                                      refine pure_ (i := 11) (N := some 46) (v := ?_) (a' := ?_) #[true, true, true, true, true, true, true, true, true, true, true, true] rfl rfl (any_of HT_.out (by kernel_rfl)) (fun _ _ _ h => h) (Or.inl ⟨by rfl, ?_⟩) ?_ ?_
                                      rotate_left
                                      · intro w'
                                        go_simp
                                        with_reducible rfl
                                      rotate_left
                                      · simp only [Act.put, List.setIfInBounds_toArray, List.set_cons_zero, List.set_cons_succ, i64_w, i32_w]
                                        rfl
                                      refine done_ (done_of HT_.out (by kernel_rfl)) ?_
                                      try go_wp2
                                      have n0_ := Aside0.mk (Kd.R_drew HO_3.out)
                                      have n1_ := Aside0.mk (blk_drew BK156.out)
                                      have n2_ := Aside0.mk (blk_drew BK160.out)
                                      have n3_ := Aside0.mk (below_drew1 HB.out)
                                      clear HO_3
                                      clear BK156
                                      clear BK160
                                      clear HB
                                      have HO_3 := n0_
                                      have BK156 := n1_
                                      have BK160 := n2_
                                      have HB := n3_
                                      clear n0_ n1_ n2_ n3_
                                      have p163 : 0 ≤ (x7_3 : Int) := of_decide_eq_true (by first | (with_reducible assumption) | assumption)
                                      have q163 : x7_3 < (x3_2.length : Int) := of_decide_eq_true (by first | (with_reducible assumption) | assumption)
                                      obtain ⟨ad163, e163, hx163_0, hx163_1⟩ := at_T70 (Kd.R_reads' HO_3.out).2.2 x7_3 p163 q163
                                      obtain rfl : ad161 = ad163 := (by injection e163)
                                      replace p163 := eq_true p163
                                      replace q163 := eq_true q163
                                      refine start_ (n := 12) (S := fun w' => w'.cell? ⟨gb160, 0, none⟩ = some (.int .u64 t158) ∧ w'.cell? ⟨gb160, 1, none⟩ = some (.int .i64 (rd l0_0 x4_1)) ∧ w'.cell? (ad161.add ((x7_3).toNat * 2)) = some (.int .u64 ((rd_T70 x3_2 x7_3).f0)) ∧ w'.cell? ⟨(ad161.add ((x7_3).toNat * 2)).block, (ad161.add ((x7_3).toNat * 2)).off + 1, none⟩ = some (.int .i64 ((rd_T70 x3_2 x7_3).f1))) (ds := []) #[false, false, false, false, false, false, false, false, false, false, false, false] (by kernel_rfl) rfl rfl ⟨(blk_cell BK160.out 0).trans rfl, (blk_cell BK160.out 1).trans rfl, hx163_0, hx163_1⟩ (fun hHeld => ?_); refine with_tabW icehouseref09_Points.tab12 icehouseref09_Points.bits12 (fun HT_ HW_ => ?_)
                                      generalize w37.drew = w38 at HO_3 BK156 BK160 HB hx163_0 hx163_1 hHeld ⊢
                                      refine pure_ (i := 0) (N := some 49) (v := ?_) (a' := ?_) #[true, false, false, false, false, false, false, false, false, false, false, false] rfl rfl (any_of HT_.out (by kernel_rfl)) (fun _ _ _ h => h) (Or.inl ⟨by rfl, ?_⟩) ?_ ?_
                                      rotate_left
                                      · intro w'
                                        go_simp
                                        with_reducible rfl
                                      rotate_left
                                      · simp only [Act.put, List.setIfInBounds_toArray, List.set_cons_zero, List.set_cons_succ, i64_w, i32_w]
                                        rfl
                                      refine pure_ (i := 1) (N := some 50) (v := ?_) (a' := ?_) #[true, true, false, false, false, false, false, false, false, false, false, false] rfl rfl (any_of HT_.out (by kernel_rfl)) (fun _ _ _ h => h) (Or.inl ⟨by rfl, ?_⟩) ?_ ?_
                                      rotate_left
                                      · intro w'
                                        go_simp
                                        with_reducible rfl
                                      rotate_left
                                      · simp only [Act.put, List.setIfInBounds_toArray, List.set_cons_zero, List.set_cons_succ, i64_w, i32_w]
                                        rfl
                                      refine pure_ (i := 2) (N := some 51) (v := ?_) (a' := ?_) #[true, true, true, false, false, false, false, false, false, false, false, false] rfl rfl (any_of HT_.out (by kernel_rfl)) (fun _ _ _ h => h) (Or.inl ⟨by rfl, ?_⟩) ?_ ?_
                                      rotate_left
                                      · intro w'
                                        go_simp
                                        with_reducible rfl
                                      rotate_left
                                      · simp only [Act.put, List.setIfInBounds_toArray, List.set_cons_zero, List.set_cons_succ, i64_w, i32_w]
                                        rfl
                                      refine pure_ (i := 3) (N := some 52) (v := ?_) (a' := ?_) #[true, true, true, true, false, false, false, false, false, false, false, false] rfl rfl (any_of HT_.out (by kernel_rfl)) (fun _ _ _ h => h) (Or.inl ⟨by rfl, ?_⟩) ?_ ?_
                                      rotate_left
                                      · intro w'
                                        go_simp
                                        with_reducible rfl
                                      rotate_left
                                      · simp only [Act.put, List.setIfInBounds_toArray, List.set_cons_zero, List.set_cons_succ, i64_w, i32_w]
                                        rfl
                                      refine pure_ (i := 4) (N := some 53) (v := ?_) (a' := ?_) #[true, true, true, true, true, false, false, false, false, false, false, false] rfl rfl (any_of HT_.out (by kernel_rfl)) (fun _ _ _ h => h) (Or.inl ⟨by rfl, ?_⟩) ?_ ?_
                                      rotate_left
                                      · intro w'
                                        go_simp
                                        with_reducible rfl
                                      rotate_left
                                      · simp only [Act.put, List.setIfInBounds_toArray, List.set_cons_zero, List.set_cons_succ, i64_w, i32_w]
                                        rfl
                                      refine pure_ (i := 5) (N := some 54) (v := ?_) (a' := ?_) #[true, true, true, true, true, true, false, false, false, false, false, false] rfl rfl (any_of HT_.out (by kernel_rfl)) (fun _ _ _ h => h) (Or.inl ⟨by rfl, ?_⟩) ?_ ?_
                                      rotate_left
                                      · intro w'
                                        go_simp
                                        with_reducible rfl
                                      rotate_left
                                      · simp only [Act.put, List.setIfInBounds_toArray, List.set_cons_zero, List.set_cons_succ, i64_w, i32_w]
                                        rfl
                                      refine pure_ (i := 6) (N := some 55) (v := ?_) (a' := ?_) #[true, true, true, true, true, true, true, false, false, false, false, false] rfl rfl (any_of HT_.out (by kernel_rfl)) (fun _ _ _ h => h) (Or.inl ⟨by rfl, ?_⟩) ?_ ?_
                                      rotate_left
                                      · intro w'
                                        go_simp
                                        with_reducible rfl
                                      rotate_left
                                      · simp only [Act.put, List.setIfInBounds_toArray, List.set_cons_zero, List.set_cons_succ, i64_w, i32_w]
                                        rfl
                                      refine pure_ (i := 7) (N := some 56) (v := ?_) (a' := ?_) #[true, true, true, true, true, true, true, true, false, false, false, false] rfl rfl (any_of HT_.out (by kernel_rfl)) (fun _ _ _ h => h) (Or.inl ⟨by rfl, ?_⟩) ?_ ?_
                                      rotate_left
                                      · intro w'
                                        go_simp
                                        with_reducible rfl
                                      rotate_left
                                      · simp only [Act.put, List.setIfInBounds_toArray, List.set_cons_zero, List.set_cons_succ, i64_w, i32_w]
                                        rfl
                                      refine take_ (i := 8) (N := some 57) (v := ?_) (a' := ?_) #[true, true, true, true, true, true, true, true, true, false, false, false] rfl rfl (take_ofW HT_.out HW_.out (by kernel_rfl)) (fun _ _ _ h => h) (Or.inl ⟨by rfl, ?_⟩) hHeld ?_ ?_
                                      rotate_left
                                      · rintro w' ⟨s0, s1, s2, s3⟩
                                        go_simp
                                        with_reducible rfl
                                      rotate_left
                                      · simp only [Act.put, List.setIfInBounds_toArray, List.set_cons_zero, List.set_cons_succ, i64_w, i32_w]
                                        rfl
                                      refine take_ (i := 9) (N := some 58) (v := ?_) (a' := ?_) #[true, true, true, true, true, true, true, true, true, true, false, false] rfl rfl (take_ofW HT_.out HW_.out (by kernel_rfl)) (fun _ _ _ h => h) (Or.inl ⟨by rfl, ?_⟩) hHeld ?_ ?_
                                      rotate_left
                                      · rintro w' ⟨s0, s1, s2, s3⟩
                                        go_simp
                                        with_reducible rfl
                                      rotate_left
                                      · simp only [Act.put, List.setIfInBounds_toArray, List.set_cons_zero, List.set_cons_succ, i64_w, i32_w]
                                        rfl
                                      refine pure_ (i := 10) (N := some 59) (v := ?_) (a' := ?_) #[true, true, true, true, true, true, true, true, true, true, true, false] rfl rfl (any_of HT_.out (by kernel_rfl)) (fun _ _ _ h => h) (Or.inl ⟨by rfl, ?_⟩) ?_ ?_
                                      rotate_left
                                      · intro w'
                                        go_simp
                                        with_reducible rfl
                                      rotate_left
                                      · simp only [Act.put, List.setIfInBounds_toArray, List.set_cons_zero, List.set_cons_succ, i64_w, i32_w]
                                        rfl
                                      refine pure_ (i := 11) (N := some 60) (v := ?_) (a' := ?_) #[true, true, true, true, true, true, true, true, true, true, true, true] rfl rfl (any_of HT_.out (by kernel_rfl)) (fun _ _ _ h => h) (Or.inl ⟨by rfl, ?_⟩) ?_ ?_
                                      rotate_left
                                      · intro w'
                                        go_simp
                                        with_reducible rfl
                                      rotate_left
                                      · simp only [Act.put, List.setIfInBounds_toArray, List.set_cons_zero, List.set_cons_succ, i64_w, i32_w]
                                        rfl
                                      refine done_ (done_of HT_.out (by kernel_rfl)) ?_
                                      have q39 : (x7_3 : Int) ≤ ((x3_2.length : Int) : Int) := of_decide_eq_true (by first | (with_reducible assumption) | assumption)
                                      obtain ⟨i039, hi039, _, hsz39, _⟩ := info_parts info70
                                      have hroom39 : x3_2.length ≤ co36 := (Kd.R_reads' HO_3.out).2.1
                                      have hC39 : Kd.C k70 _ (some ad161) x3_2.length x3_2 := (Kd.R_reads' HO_3.out).2.2
                                      have hcut39 := cut_to (P := Try.prog) 65 70 .i64 Try.underlying65 hi039 (some ad161) x3_2.length co36 x7_3 (of_decide_eq_true (by first | (with_reducible assumption) | assumption)) q39 hroom39
                                      have hr39 := Kd.C_take (m := (x7_3 : Int).toNat) hC39 (by omega)
                                      have hy39 : y164.length = (x7_3 : Int).toNat := (by rw [Ny164.out, List.length_take]; omega)
                                      rw [← Ny164.out] at hr39
                                      rw [← hy39] at hcut39
                                      have HR167 := Aside0.mk hr39
                                      have HC167 := Aside0.mk (show y164.length ≤ co36 from by omega)
                                      clear hr39 hC39 hroom39 hi039 hsz39
                                      have KY39 := Aside0.mk hy39
                                      clear hy39
                                      have KL39 := Aside0.mk (show (x7_3 : Int).toNat ≤ x3_2.length from by omega)
                                      replace q39 := eq_true q39
                                      try go_wp2_with (first | ((with_reducible refine gate_builtin (b := .append) (xs := #[.tmp 61, .tmp 64]) rfl ?_); at_builtin; refine Kd.R_append_rows k70 (w0 := w) w.heap.size rfl (.tmp 61) (.tmp 64) 65 70 (.agg #[(.int .u64 0), (.int .i64 0)]) 16 rfl Try.underlying65 info70 rfl (by decide) (by omega) (.slice none 0 0) ([] : List (S70)) y164 _ _ _ (fun k_ => some k_ ≠ (.slice (some ad161) x3_2.length co36 : Value).ownBlock ∧ k_ ≠ gb160) (fun _ => False) rfl rfl ?aO ?aR (fun _ _ h => h) (fun _ h => h.elim) ?aF ?aB ?aS ?aL ?_; (case aR => repeat (first | exact (by repeat (first | (with_reducible exact HR167.out) | (with_reducible refine Kd.C_alloc ?_ _) | (with_reducible refine Kd.C_drewN ?_ _) | (with_reducible refine Kd.C_drew ?_) | exact HR167.out)) | (with_reducible refine Kd.C_alloc ?_ _) | (with_reducible refine Kd.C_drewN ?_ _) | (with_reducible refine Kd.C_drew ?_))); (case aB => exact (by repeat (first | (with_reducible first | exact HB.out | apply below_alloc | apply pw_below_drewN | apply below_drew1 | refine below_set ?_ GE156.out | refine below_set ?_ GE160.out) | exact HB.out))); (case aF => exact (fun k_ hk => ⟨Kd.fresh' (Kd.R_lt (by (with_reducible repeat (first | apply Kd.R_alloc | apply Kd.R_drewN | apply Kd.R_drew)); exact HO_3.out)) k_ hk, Kd.freshB (g := gb160) (o := .cells #[.int .u64 t158, .int .i64 (rd l0_0 x4_1)] 70 (0, 0)) (by (with_reducible repeat (first | refine blk_drewN ?_ _ | refine blk_drew ?_ | refine blk_alloc ?_ _)); exact BK160.out) k_ hk⟩)); (case aO => exact ((Kd.R_nil _ _ _ _ (fun k_ => some k_ ≠ (.slice (some ad161) x3_2.length co36 : Value).ownBlock ∧ k_ ≠ gb160)))); (case aS => exact (below_size (by repeat (first | (with_reducible first | exact HB.out | apply below_alloc | apply pw_below_drewN | apply below_drew1 | refine below_set ?_ GE156.out | refine below_set ?_ GE160.out) | exact HB.out)))); (case aL => have := LMc30.out; omega); intro v169 w40 ho hb hg hat; rw [← Ny168.out] at ho; have n0_ := Aside0.mk (Kd.R_after (Kd.R_apart_nil (by (with_reducible repeat (first | apply Kd.R_alloc | apply Kd.R_drewN | apply Kd.R_drew)); exact HO_3.out)) hg hat); have n1_ := Aside0.mk (blk_grown (g := gb156) (o := .cells #[.slice (some ad157) l0_0.length c0_0, .int .i64 a0_1, .int .i64 a0_2] 42 (0, 0)) (by (with_reducible repeat (first | refine blk_drewN ?_ _ | refine blk_drew ?_ | refine blk_alloc ?_ _)); exact BK156.out) hg (by simp [Value.ownBlock])); have n2_ := Aside0.mk (blk_grown (g := gb160) (o := .cells #[.int .u64 t158, .int .i64 (rd l0_0 x4_1)] 70 (0, 0)) (by (with_reducible repeat (first | refine blk_drewN ?_ _ | refine blk_drew ?_ | refine blk_alloc ?_ _)); exact BK160.out) hg (by simp [Value.ownBlock])); have n3_ := Aside0.mk (hb); have n4_ := Aside0.mk ((show Kd.C k70 w40 (some ad161) y164.length y164 from by rw [Ny164.out]; exact Kd.C_take (m := (x7_3 : Int).toNat) ((Kd.R_reads' (Kd.R_after (Kd.R_apart_nil (by (with_reducible repeat (first | apply Kd.R_alloc | apply Kd.R_drewN | apply Kd.R_drew)); exact HO_3.out)) hg hat)).2.2) KL39.out)); have n5_ := Aside0.mk (ho); clear HO_3; clear BK156; clear BK160; clear HB; clear HR167; have HO_3 := n0_; have BK156 := n1_; have BK160 := n2_; have HB := n3_; have HR167 := n4_; have HO170 := n5_; clear n0_ n1_ n2_ n3_ n4_ n5_; clear ho hb hg hat; have hnb41 := NB160_156.out; have hnc41 := NB156_160.out; have hcz42_0 : w40.cell? ⟨gb160, 0, none⟩ = some (.int .u64 t158) := (blk_cell BK160.out 0).trans rfl; have hcz42_1 : w40.cell? ⟨gb160, 1, none⟩ = some (.int .i64 (rd l0_0 x4_1)) := (blk_cell BK160.out 1).trans rfl; have hfz42_0 := blk_frozen BK160.out 0; have hfz42_1 := blk_frozen BK160.out 1) | ((with_reducible refine gate_builtin (b := .append) (xs := #[.tmp 66, .tmp 68]) rfl ?_); at_builtin; refine Kd.R_append k70 (w0 := w) w.heap.size rfl (.tmp 66) (.tmp 68) 65 70 (.agg #[(.int .u64 0), (.int .i64 0)]) 16 rfl Try.underlying65 info70 rfl (by decide) (by omega) v169 y168 (⟨t158, (rd l0_0 x4_1)⟩ : S70) [.int .u64 t158, .int .i64 (rd l0_0 x4_1)] (fun k_ => some k_ ≠ (.slice (some ad161) x3_2.length co36 : Value).ownBlock ∧ k_ ≠ gb160) (fun _ => False) rfl rfl ?aP (fun _ hk => hk.elim) ?aF ?aO ?aB ?aS ?aL ?_; (case aP => exact k70_mkM _ _ _ (⟨t158, (rd l0_0 x4_1)⟩ : S70)); (case aB => exact (by repeat (first | (with_reducible first | exact HB.out | apply below_alloc | apply pw_below_drewN | apply below_drew1 | refine below_set ?_ GE156.out | refine below_set ?_ GE160.out) | exact HB.out))); (case aF => exact (fun k_ hk => ⟨Kd.fresh' (Kd.R_lt (by (with_reducible repeat (first | apply Kd.R_alloc | apply Kd.R_drewN | apply Kd.R_drew)); exact HO_3.out)) k_ hk, Kd.freshB (g := gb160) (o := .cells #[.int .u64 t158, .int .i64 (rd l0_0 x4_1)] 70 (0, 0)) (by (with_reducible repeat (first | refine blk_drewN ?_ _ | refine blk_drew ?_ | refine blk_alloc ?_ _)); exact BK160.out) k_ hk⟩)); (case aO => exact (by (with_reducible repeat (first | apply Kd.R_alloc | apply Kd.R_drewN | apply Kd.R_drew)); exact HO170.out)); (case aS => exact (below_size (by repeat (first | (with_reducible first | exact HB.out | apply below_alloc | apply pw_below_drewN | apply below_drew1 | refine below_set ?_ GE156.out | refine below_set ?_ GE160.out) | exact HB.out)))); (case aL => have := LMc31.out; omega); intro v172 w43 ho hb hg hat; rw [← Ny171.out] at ho; have n0_ := Aside0.mk (Kd.R_after (ok := (fun k_ => k_ ≠ gb160)) (by (with_reducible repeat (first | apply Kd.R_alloc | apply Kd.R_drewN | apply Kd.R_drew)); exact HO_3.out) hg hat); have n1_ := Aside0.mk (blk_grown (g := gb156) (o := .cells #[.slice (some ad157) l0_0.length c0_0, .int .i64 a0_1, .int .i64 a0_2] 42 (0, 0)) (by (with_reducible repeat (first | refine blk_drewN ?_ _ | refine blk_drew ?_ | refine blk_alloc ?_ _)); exact BK156.out) hg (Kd.R_ne HO170.out BK156.out (by decide))); have n2_ := Aside0.mk (blk_grown (g := gb160) (o := .cells #[.int .u64 t158, .int .i64 (rd l0_0 x4_1)] 70 (0, 0)) (by (with_reducible repeat (first | refine blk_drewN ?_ _ | refine blk_drew ?_ | refine blk_alloc ?_ _)); exact BK160.out) hg (Kd.R_away HO170.out (fun _ hk => hk.2))); have n3_ := Aside0.mk (hb); have n4_ := Aside0.mk ((show Kd.C k70 w43 (some ad161) y164.length y164 from by rw [Ny164.out]; exact Kd.C_take (m := (x7_3 : Int).toNat) ((Kd.R_reads' (Kd.R_after (ok := (fun k_ => k_ ≠ gb160)) (by (with_reducible repeat (first | apply Kd.R_alloc | apply Kd.R_drewN | apply Kd.R_drew)); exact HO_3.out) hg hat)).2.2) KL39.out)); have n5_ := Aside0.mk (ho); clear HO_3; clear BK156; clear BK160; clear HB; clear HR167; clear HO170; have HO_3 := n0_; have BK156 := n1_; have BK160 := n2_; have HB := n3_; have HR167 := n4_; have HO173 := n5_; clear n0_ n1_ n2_ n3_ n4_ n5_; clear ho hb hg hat; have q44 : (x7_3 : Int) ≤ ((x3_2.length : Int) : Int) := of_decide_eq_true (by first | (with_reducible assumption) | assumption); obtain ⟨i044, hi044, _, hsz44, _⟩ := info_parts info70; have hroom44 : x3_2.length ≤ co36 := (Kd.R_reads' HO_3.out).2.1; have hC44 : Kd.C k70 _ (some ad161) x3_2.length x3_2 := (Kd.R_reads' HO_3.out).2.2; have q044 : (0 : Int) ≤ (x7_3 : Int) := of_decide_eq_true (by first | (with_reducible assumption) | assumption); have hcut44 := cut_from (P := Try.prog) 65 70 .i64 Try.underlying65 hi044 2 hsz44 (some ad161) x3_2.length co36 x7_3 q044 q44; have hr44 := Kd.C_drop (m := (x7_3 : Int).toNat) (c := co36) hC44 (by omega) hroom44; obtain ⟨A44, hA44⟩ : ∃ A1, A1 = (if co36 = (x7_3 : Int).toNat then (some ad161) else ((some ad161) : Option Addr).map (·.add ((x7_3 : Int).toNat * 2))) := ⟨_, rfl⟩; obtain ⟨c44, hc44⟩ : ∃ c1, c1 = co36 - (x7_3 : Int).toNat := ⟨_, rfl⟩; have hy44 : y174.length = x3_2.length - (x7_3 : Int).toNat := (by rw [Ny174.out, List.length_drop] <;> omega); rw [show (x3_2).drop (x7_3 : Int).toNat = y174 from Ny174.out.symm] at hr44; replace hr44 : Kd.C k70 _ A44 y174.length y174 := (by rw [hA44]; exact hr44); rw [← hy44, ← hA44, ← hc44] at hcut44; have HR177 := Aside0.mk hr44; have HC177 := Aside0.mk (show y174.length ≤ c44 from by rw [hy44, hc44]; exact Nat.sub_le_sub_right hroom44 _); clear hr44 hC44 hroom44 hi044 hsz44 hc44; have KY44 := Aside0.mk hy44; have KA44 := Aside0.mk hA44; clear hy44 hA44; have KL44 := Aside0.mk (show (x7_3 : Int).toNat ≤ x3_2.length from by omega); replace q44 := eq_true q44) | ((with_reducible refine gate_builtin (b := .append) (xs := #[.tmp 70, .tmp 73]) rfl ?_); at_builtin; refine Kd.R_append_rows k70 (w0 := w) w.heap.size rfl (.tmp 70) (.tmp 73) 65 70 (.agg #[(.int .u64 0), (.int .i64 0)]) 16 rfl Try.underlying65 info70 rfl (by decide) (by omega) v172 y171 y174 _ _ _ (fun k_ => some k_ ≠ (.slice (some ad161) x3_2.length co36 : Value).ownBlock ∧ k_ ≠ gb160) (fun _ => False) rfl rfl ?aO ?aR (fun _ _ h => h) (fun _ h => h.elim) ?aF ?aB ?aS ?aL ?_; (case aR => repeat (first | exact (by repeat (first | (with_reducible exact HR177.out) | (with_reducible refine Kd.C_alloc ?_ _) | (with_reducible refine Kd.C_drewN ?_ _) | (with_reducible refine Kd.C_drew ?_) | exact HR177.out)) | (with_reducible refine Kd.C_alloc ?_ _) | (with_reducible refine Kd.C_drewN ?_ _) | (with_reducible refine Kd.C_drew ?_))); (case aB => exact (by repeat (first | (with_reducible first | exact HB.out | apply below_alloc | apply pw_below_drewN | apply below_drew1 | refine below_set ?_ GE156.out | refine below_set ?_ GE160.out) | exact HB.out))); (case aF => exact (fun k_ hk => ⟨Kd.fresh' (Kd.R_lt (by (with_reducible repeat (first | apply Kd.R_alloc | apply Kd.R_drewN | apply Kd.R_drew)); exact HO_3.out)) k_ hk, Kd.freshB (g := gb160) (o := .cells #[.int .u64 t158, .int .i64 (rd l0_0 x4_1)] 70 (0, 0)) (by (with_reducible repeat (first | refine blk_drewN ?_ _ | refine blk_drew ?_ | refine blk_alloc ?_ _)); exact BK160.out) k_ hk⟩)); (case aO => exact (by (with_reducible repeat (first | apply Kd.R_alloc | apply Kd.R_drewN | apply Kd.R_drew)); exact HO173.out)); (case aS => exact (below_size (by repeat (first | (with_reducible first | exact HB.out | apply below_alloc | apply pw_below_drewN | apply below_drew1 | refine below_set ?_ GE156.out | refine below_set ?_ GE160.out) | exact HB.out)))); (case aL => have := LMc34.out; omega); intro v179 w45 ho hb hg hat; rw [← Ny178.out] at ho; have n0_ := Aside0.mk (Kd.R_after (ok := (fun k_ => k_ ≠ gb160)) (by (with_reducible repeat (first | apply Kd.R_alloc | apply Kd.R_drewN | apply Kd.R_drew)); exact HO_3.out) hg hat); have n1_ := Aside0.mk (blk_grown (g := gb156) (o := .cells #[.slice (some ad157) l0_0.length c0_0, .int .i64 a0_1, .int .i64 a0_2] 42 (0, 0)) (by (with_reducible repeat (first | refine blk_drewN ?_ _ | refine blk_drew ?_ | refine blk_alloc ?_ _)); exact BK156.out) hg (Kd.R_ne HO173.out BK156.out (by decide))); have n2_ := Aside0.mk (blk_grown (g := gb160) (o := .cells #[.int .u64 t158, .int .i64 (rd l0_0 x4_1)] 70 (0, 0)) (by (with_reducible repeat (first | refine blk_drewN ?_ _ | refine blk_drew ?_ | refine blk_alloc ?_ _)); exact BK160.out) hg (Kd.R_away HO173.out (fun _ hk => hk.2))); have n3_ := Aside0.mk (hb); have n4_ := Aside0.mk ((show Kd.C k70 w45 (some ad161) y164.length y164 from by rw [Ny164.out]; exact Kd.C_take (m := (x7_3 : Int).toNat) ((Kd.R_reads' (Kd.R_after (ok := (fun k_ => k_ ≠ gb160)) (by (with_reducible repeat (first | apply Kd.R_alloc | apply Kd.R_drewN | apply Kd.R_drew)); exact HO_3.out) hg hat)).2.2) KL39.out)); have n5_ := Aside0.mk ((show Kd.C k70 w45 A44 y174.length y174 from by rw [Ny174.out, KA44.out]; exact Kd.C_drop (m := (x7_3 : Int).toNat) (c := co36) ((Kd.R_reads' (Kd.R_after (ok := (fun k_ => k_ ≠ gb160)) (by (with_reducible repeat (first | apply Kd.R_alloc | apply Kd.R_drewN | apply Kd.R_drew)); exact HO_3.out) hg hat)).2.2) KL44.out ((Kd.R_reads' (Kd.R_after (ok := (fun k_ => k_ ≠ gb160)) (by (with_reducible repeat (first | apply Kd.R_alloc | apply Kd.R_drewN | apply Kd.R_drew)); exact HO_3.out) hg hat)).2.1))); have n6_ := Aside0.mk (ho); clear HO_3; clear BK156; clear BK160; clear HB; clear HR167; clear HR177; clear HO173; have HO_3 := n0_; have BK156 := n1_; have BK160 := n2_; have HB := n3_; have HR167 := n4_; have HR177 := n5_; have HO180 := n6_; clear n0_ n1_ n2_ n3_ n4_ n5_ n6_; clear ho hb hg hat))
                                      go_roundg k3
                                      case measure => have := HK1.out; have := HK2.out; have := HK3.out; omega
                                      case rel => exact ⟨(y178), (wrap64 (x5_2 + 1)), (by first | rfl | (simp; done) | (simp [*]; done)), H', ⟨by have := HK1.out; have := HK2.out; have := HK3.out; omega⟩, ⟨by (with_reducible repeat (first | apply Kd.R_alloc | apply Kd.R_drewN | apply Kd.R_drew)); exact Kd.R_mono HO180.out (fun _ hk => trivial)⟩, ⟨by (with_reducible repeat (first | refine blk_drewN ?_ _ | refine blk_drew ?_ | refine blk_alloc ?_ _)); exact BK156.out⟩, ⟨by repeat (first | (with_reducible first | exact HB.out | apply below_alloc | apply pw_below_drewN | apply below_drew1 | refine below_set ?_ GE156.out | refine below_set ?_ GE160.out) | exact HB.out)⟩⟩
                                    · rw [if_neg c34] at H
                                      exact absurd H (by simp)
                                  · rw [if_neg c31] at H
                                    exact absurd H (by simp)
                                · rw [if_neg c30] at H
                                  exact absurd H (by simp)
                              · rw [if_neg c29] at H
                                exact absurd H (by simp)
                        · rw [if_neg c17] at H
                          exact absurd H (by simp)
                      · rw [if_neg c16] at H
                        have c16b0 : decide (x7_3 < (x3_2.length : Int)) = false := decide_eq_false c16
                        clear c16
                        by_cases c46 : 0 ≤ x7_3
                        · rw [if_pos c46] at H
                          have c46b0 := eq_true c46
                          have c46b1 : decide (0 ≤ x7_3) = true := decide_eq_true c46
                          clear c46
                          by_cases c47 : x7_3 ≤ (x3_2.length : Int)
                          · rw [if_pos c47] at H
                            have c47b0 := eq_true c47
                            have c47b1 : decide (x7_3 ≤ (x3_2.length : Int)) = true := decide_eq_true c47
                            clear c47
                            obtain ⟨y181, hy181⟩ : ∃ y_ : List (S70), y_ = (x3_2.take (x7_3 : Int).toNat) := ⟨_, rfl⟩
                            replace H : (if ([] : List (S70)).length + y181.length < 8796093022208 then ((some (([] : List (S70)) ++ y181 : List (S70))).bind fun y185 => (if y185.length < 8796093022208 then ((some (y185 ++ [(⟨t158, (rd l0_0 x4_1)⟩ : S70)] : List (S70))).bind fun y188 => ((some (x3_2.drop (x7_3 : Int).toNat : List (S70))).bind fun y191 => (if y188.length + y191.length < 8796093022208 then (icehouseref09_Points.l1 k3 (y188 ++ y191) x4_1 (wrap64 (x5_2 + 1)) l0_0 a0_1 a0_2) else (none)))) else (none))) else (none)) = some r := by first | (rw [hy181]; with_reducible exact H) | (have H2_ := (Option.bind_some _ _).symm.trans H; rw [hy181]; with_reducible exact H2_) | (have H2_ := (Option.bind_some _ _).symm.trans H; with_reducible exact H2_) | with_reducible exact H | (rw [hy181]; exact H) | exact H
                            have Ny181 := Aside0.mk hy181
                            clear hy181
                            by_cases c48 : ([] : List (S70)).length + y181.length < 8796093022208
                            · rw [if_pos c48] at H
                              have LMc48 := Aside0.mk c48
                              clear c48
                              obtain ⟨y185, hy185⟩ : ∃ y_ : List (S70), y_ = (([] : List (S70)) ++ y181) := ⟨_, rfl⟩
                              replace H : (if y185.length < 8796093022208 then ((some (y185 ++ [(⟨t158, (rd l0_0 x4_1)⟩ : S70)] : List (S70))).bind fun y188 => ((some (x3_2.drop (x7_3 : Int).toNat : List (S70))).bind fun y191 => (if y188.length + y191.length < 8796093022208 then (icehouseref09_Points.l1 k3 (y188 ++ y191) x4_1 (wrap64 (x5_2 + 1)) l0_0 a0_1 a0_2) else (none)))) else (none)) = some r := by first | (rw [hy185]; with_reducible exact H) | (have H2_ := (Option.bind_some _ _).symm.trans H; rw [hy185]; with_reducible exact H2_) | (have H2_ := (Option.bind_some _ _).symm.trans H; with_reducible exact H2_) | with_reducible exact H | (rw [hy185]; exact H) | exact H
                              have Ny185 := Aside0.mk hy185
                              clear hy185
                              by_cases c49 : y185.length < 8796093022208
                              · rw [if_pos c49] at H
                                have LMc49 := Aside0.mk c49
                                clear c49
                                obtain ⟨y188, hy188⟩ : ∃ y_ : List (S70), y_ = (y185 ++ [(⟨t158, (rd l0_0 x4_1)⟩ : S70)]) := ⟨_, rfl⟩
                                replace H : ((some (x3_2.drop (x7_3 : Int).toNat : List (S70))).bind fun y191 => (if y188.length + y191.length < 8796093022208 then (icehouseref09_Points.l1 k3 (y188 ++ y191) x4_1 (wrap64 (x5_2 + 1)) l0_0 a0_1 a0_2) else (none))) = some r := by first | (rw [hy188]; with_reducible exact H) | (have H2_ := (Option.bind_some _ _).symm.trans H; rw [hy188]; with_reducible exact H2_) | (have H2_ := (Option.bind_some _ _).symm.trans H; with_reducible exact H2_) | with_reducible exact H | (rw [hy188]; exact H) | exact H
                                have Ny188 := Aside0.mk hy188
                                clear hy188
                                have c50b0 := eq_true (of_decide_eq_true (by first | (with_reducible assumption) | assumption) : 0 ≤ x7_3)
                                have c51b0 := eq_true (of_decide_eq_true (by first | (with_reducible assumption) | assumption) : x7_3 ≤ (x3_2.length : Int))
                                obtain ⟨y191, hy191⟩ : ∃ y_ : List (S70), y_ = (x3_2.drop (x7_3 : Int).toNat) := ⟨_, rfl⟩
                                replace H : (if y188.length + y191.length < 8796093022208 then (icehouseref09_Points.l1 k3 (y188 ++ y191) x4_1 (wrap64 (x5_2 + 1)) l0_0 a0_1 a0_2) else (none)) = some r := by first | (rw [hy191]; with_reducible exact H) | (have H2_ := (Option.bind_some _ _).symm.trans H; rw [hy191]; with_reducible exact H2_) | (have H2_ := (Option.bind_some _ _).symm.trans H; with_reducible exact H2_) | with_reducible exact H | (rw [hy191]; exact H) | exact H
                                have Ny191 := Aside0.mk hy191
                                clear hy191
                                by_cases c52 : y188.length + y191.length < 8796093022208
                                · rw [if_pos c52] at H
                                  have LMc52 := Aside0.mk c52
                                  clear c52
                                  obtain ⟨y195, hy195⟩ : ∃ y_ : List (S70), y_ = (y188 ++ y191) := ⟨_, rfl⟩
                                  replace H : (icehouseref09_Points.l1 k3 y195 x4_1 (wrap64 (x5_2 + 1)) l0_0 a0_1 a0_2) = some r := by first | (rw [hy195]; with_reducible exact H) | (have H2_ := (Option.bind_some _ _).symm.trans H; rw [hy195]; with_reducible exact H2_) | (have H2_ := (Option.bind_some _ _).symm.trans H; with_reducible exact H2_) | with_reducible exact H | (rw [hy195]; exact H) | exact H
                                  have Ny195 := Aside0.mk hy195
                                  clear hy195
                                  have H' := Aside0.mk H
                                  clear H
                                  try go_wp2
                                  have n0_ := Aside0.mk (Kd.R_drew HO_3.out)
                                  have n1_ := Aside0.mk (blk_drew BK156.out)
                                  have n2_ := Aside0.mk (blk_drew BK160.out)
                                  have n3_ := Aside0.mk (below_drew1 HB.out)
                                  clear HO_3
                                  clear BK156
                                  clear BK160
                                  clear HB
                                  have HO_3 := n0_
                                  have BK156 := n1_
                                  have BK160 := n2_
                                  have HB := n3_
                                  clear n0_ n1_ n2_ n3_
                                  obtain ⟨Ao54, co54, eo54⟩ := Kd.R_slice HO_3.out
                                  (first | subst eo54 | (injection eo54 with f1_ f2_ f3_; have f4_ := f1_.symm; have f5_ := f3_.symm; clear f1_ f2_ f3_; subst f4_; subst f5_))
                                  refine start_ (n := 12) (S := fun w' => True) (ds := []) #[false, false, false, false, false, false, false, false, false, false, false, false] (by kernel_rfl) rfl rfl trivial (fun hHeld => ?_); refine with_tabW icehouseref09_Points.tab10 icehouseref09_Points.bits10 (fun HT_ HW_ => ?_)
                                  generalize wr.drew = w53 at HO_3 BK156 BK160 HB hHeld ⊢
                                  refine pure_ (i := 0) (N := some 35) (v := ?_) (a' := ?_) #[true, false, false, false, false, false, false, false, false, false, false, false] rfl rfl (any_of HT_.out (by kernel_rfl)) (fun _ _ _ h => h) (Or.inl ⟨by rfl, ?_⟩) ?_ ?_
                                  rotate_left
                                  · intro w'
                                    go_simp
                                    with_reducible rfl
                                  rotate_left
                                  · simp only [Act.put, List.setIfInBounds_toArray, List.set_cons_zero, List.set_cons_succ, i64_w, i32_w]
                                    rfl
                                  refine pure_ (i := 1) (N := some 36) (v := ?_) (a' := ?_) #[true, true, false, false, false, false, false, false, false, false, false, false] rfl rfl (any_of HT_.out (by kernel_rfl)) (fun _ _ _ h => h) (Or.inl ⟨by rfl, ?_⟩) ?_ ?_
                                  rotate_left
                                  · intro w'
                                    go_simp
                                    with_reducible rfl
                                  rotate_left
                                  · simp only [Act.put, List.setIfInBounds_toArray, List.set_cons_zero, List.set_cons_succ, i64_w, i32_w]
                                    rfl
                                  refine pure_ (i := 2) (N := some 37) (v := ?_) (a' := ?_) #[true, true, true, false, false, false, false, false, false, false, false, false] rfl rfl (any_of HT_.out (by kernel_rfl)) (fun _ _ _ h => h) (Or.inl ⟨by rfl, ?_⟩) ?_ ?_
                                  rotate_left
                                  · intro w'
                                    go_simp
                                    with_reducible rfl
                                  rotate_left
                                  · simp only [Act.put, List.setIfInBounds_toArray, List.set_cons_zero, List.set_cons_succ, i64_w, i32_w]
                                    rfl
                                  refine pure_ (i := 3) (N := some 38) (v := ?_) (a' := ?_) #[true, true, true, true, false, false, false, false, false, false, false, false] rfl rfl (any_of HT_.out (by kernel_rfl)) (fun _ _ _ h => h) (Or.inl ⟨by rfl, ?_⟩) ?_ ?_
                                  rotate_left
                                  · intro w'
                                    go_simp
                                    with_reducible rfl
                                  rotate_left
                                  · simp only [Act.put, List.setIfInBounds_toArray, List.set_cons_zero, List.set_cons_succ, i64_w, i32_w]
                                    rfl
                                  refine pure_ (i := 4) (N := some 39) (v := ?_) (a' := ?_) #[true, true, true, true, true, false, false, false, false, false, false, false] rfl rfl (any_of HT_.out (by kernel_rfl)) (fun _ _ _ h => h) (Or.inl ⟨by rfl, ?_⟩) ?_ ?_
                                  rotate_left
                                  · intro w'
                                    go_simp
                                    with_reducible rfl
                                  rotate_left
                                  · simp only [Act.put, List.setIfInBounds_toArray, List.set_cons_zero, List.set_cons_succ, i64_w, i32_w]
                                    rfl
                                  refine pure_ (i := 5) (N := some 40) (v := undef) (a' := ?_) #[true, true, true, true, true, true, false, false, false, false, false, false] rfl rfl (any_of HT_.out (by kernel_rfl)) (fun _ _ _ h => h) (Or.inr ⟨by rfl, rfl⟩) ?_ ?_
                                  rotate_left
                                  · simp only [Act.put, List.setIfInBounds_toArray, List.set_cons_zero, List.set_cons_succ, i64_w, i32_w]
                                    rfl
                                  refine pure_ (i := 6) (N := some 41) (v := undef) (a' := ?_) #[true, true, true, true, true, true, true, false, false, false, false, false] rfl rfl (any_of HT_.out (by kernel_rfl)) (fun _ _ _ h => h) (Or.inr ⟨by rfl, rfl⟩) ?_ ?_
                                  rotate_left
                                  · simp only [Act.put, List.setIfInBounds_toArray, List.set_cons_zero, List.set_cons_succ, i64_w, i32_w]
                                    rfl
                                  refine pure_ (i := 7) (N := some 42) (v := undef) (a' := ?_) #[true, true, true, true, true, true, true, true, false, false, false, false] rfl rfl (any_of HT_.out (by kernel_rfl)) (fun _ _ _ h => h) (Or.inr ⟨by rfl, rfl⟩) ?_ ?_
                                  rotate_left
                                  · simp only [Act.put, List.setIfInBounds_toArray, List.set_cons_zero, List.set_cons_succ, i64_w, i32_w]
                                    rfl
                                  refine pure_ (i := 8) (N := some 43) (v := undef) (a' := ?_) #[true, true, true, true, true, true, true, true, true, false, false, false] rfl rfl (any_of HT_.out (by kernel_rfl)) (fun _ _ _ h => h) (Or.inr ⟨by rfl, rfl⟩) ?_ ?_
                                  rotate_left
                                  · simp only [Act.put, List.setIfInBounds_toArray, List.set_cons_zero, List.set_cons_succ, i64_w, i32_w]
                                    rfl
                                  refine pure_ (i := 9) (N := some 44) (v := undef) (a' := ?_) #[true, true, true, true, true, true, true, true, true, true, false, false] rfl rfl (any_of HT_.out (by kernel_rfl)) (fun _ _ _ h => h) (Or.inr ⟨by rfl, rfl⟩) ?_ ?_
                                  rotate_left
                                  · simp only [Act.put, List.setIfInBounds_toArray, List.set_cons_zero, List.set_cons_succ, i64_w, i32_w]
                                    rfl
                                  refine pure_ (i := 10) (N := some 45) (v := undef) (a' := ?_) #[true, true, true, true, true, true, true, true, true, true, true, false] rfl rfl (any_of HT_.out (by kernel_rfl)) (fun _ _ _ h => h) (Or.inr ⟨by rfl, rfl⟩) ?_ ?_
                                  rotate_left
                                  · simp only [Act.put, List.setIfInBounds_toArray, List.set_cons_zero, List.set_cons_succ, i64_w, i32_w]
                                    rfl
                                  refine pure_ (i := 11) (N := some 46) (v := ?_) (a' := ?_) #[true, true, true, true, true, true, true, true, true, true, true, true] rfl rfl (any_of HT_.out (by kernel_rfl)) (fun _ _ _ h => h) (Or.inl ⟨by rfl, ?_⟩) ?_ ?_
                                  rotate_left
                                  · intro w'
                                    go_simp
                                    with_reducible rfl
                                  rotate_left
                                  · simp only [Act.put, List.setIfInBounds_toArray, List.set_cons_zero, List.set_cons_succ, i64_w, i32_w]
                                    rfl
                                  refine done_ (done_of HT_.out (by kernel_rfl)) ?_
                                  try go_wp2
                                  have n0_ := Aside0.mk (Kd.R_drew HO_3.out)
                                  have n1_ := Aside0.mk (blk_drew BK156.out)
                                  have n2_ := Aside0.mk (blk_drew BK160.out)
                                  have n3_ := Aside0.mk (below_drew1 HB.out)
                                  clear HO_3
                                  clear BK156
                                  clear BK160
                                  clear HB
                                  have HO_3 := n0_
                                  have BK156 := n1_
                                  have BK160 := n2_
                                  have HB := n3_
                                  clear n0_ n1_ n2_ n3_
                                  refine start_ (n := 12) (S := fun w' => True) (ds := []) #[false, false, false, false, false, false, false, false, false, false, false, false] (by kernel_rfl) rfl rfl trivial (fun hHeld => ?_); refine with_tabW icehouseref09_Points.tab12 icehouseref09_Points.bits12 (fun HT_ HW_ => ?_)
                                  generalize w53.drew = w55 at HO_3 BK156 BK160 HB hHeld ⊢
                                  refine pure_ (i := 0) (N := some 49) (v := ?_) (a' := ?_) #[true, false, false, false, false, false, false, false, false, false, false, false] rfl rfl (any_of HT_.out (by kernel_rfl)) (fun _ _ _ h => h) (Or.inl ⟨by rfl, ?_⟩) ?_ ?_
                                  rotate_left
                                  · intro w'
                                    go_simp
                                    with_reducible rfl
                                  rotate_left
                                  · simp only [Act.put, List.setIfInBounds_toArray, List.set_cons_zero, List.set_cons_succ, i64_w, i32_w]
                                    rfl
                                  refine pure_ (i := 1) (N := some 50) (v := ?_) (a' := ?_) #[true, true, false, false, false, false, false, false, false, false, false, false] rfl rfl (any_of HT_.out (by kernel_rfl)) (fun _ _ _ h => h) (Or.inl ⟨by rfl, ?_⟩) ?_ ?_
                                  rotate_left
                                  · intro w'
                                    go_simp
                                    with_reducible rfl
                                  rotate_left
                                  · simp only [Act.put, List.setIfInBounds_toArray, List.set_cons_zero, List.set_cons_succ, i64_w, i32_w]
                                    rfl
                                  refine pure_ (i := 2) (N := some 51) (v := ?_) (a' := ?_) #[true, true, true, false, false, false, false, false, false, false, false, false] rfl rfl (any_of HT_.out (by kernel_rfl)) (fun _ _ _ h => h) (Or.inl ⟨by rfl, ?_⟩) ?_ ?_
                                  rotate_left
                                  · intro w'
                                    go_simp
                                    with_reducible rfl
                                  rotate_left
                                  · simp only [Act.put, List.setIfInBounds_toArray, List.set_cons_zero, List.set_cons_succ, i64_w, i32_w]
                                    rfl
                                  refine pure_ (i := 3) (N := some 52) (v := ?_) (a' := ?_) #[true, true, true, true, false, false, false, false, false, false, false, false] rfl rfl (any_of HT_.out (by kernel_rfl)) (fun _ _ _ h => h) (Or.inl ⟨by rfl, ?_⟩) ?_ ?_
                                  rotate_left
                                  · intro w'
                                    go_simp
                                    with_reducible rfl
                                  rotate_left
                                  · simp only [Act.put, List.setIfInBounds_toArray, List.set_cons_zero, List.set_cons_succ, i64_w, i32_w]
                                    rfl
                                  refine pure_ (i := 4) (N := some 53) (v := ?_) (a' := ?_) #[true, true, true, true, true, false, false, false, false, false, false, false] rfl rfl (any_of HT_.out (by kernel_rfl)) (fun _ _ _ h => h) (Or.inl ⟨by rfl, ?_⟩) ?_ ?_
                                  rotate_left
                                  · intro w'
                                    go_simp
                                    with_reducible rfl
                                  rotate_left
                                  · simp only [Act.put, List.setIfInBounds_toArray, List.set_cons_zero, List.set_cons_succ, i64_w, i32_w]
                                    rfl
                                  refine pure_ (i := 5) (N := some 54) (v := undef) (a' := ?_) #[true, true, true, true, true, true, false, false, false, false, false, false] rfl rfl (any_of HT_.out (by kernel_rfl)) (fun _ _ _ h => h) (Or.inr ⟨by rfl, rfl⟩) ?_ ?_
                                  rotate_left
                                  · simp only [Act.put, List.setIfInBounds_toArray, List.set_cons_zero, List.set_cons_succ, i64_w, i32_w]
                                    rfl
                                  refine pure_ (i := 6) (N := some 55) (v := undef) (a' := ?_) #[true, true, true, true, true, true, true, false, false, false, false, false] rfl rfl (any_of HT_.out (by kernel_rfl)) (fun _ _ _ h => h) (Or.inr ⟨by rfl, rfl⟩) ?_ ?_
                                  rotate_left
                                  · simp only [Act.put, List.setIfInBounds_toArray, List.set_cons_zero, List.set_cons_succ, i64_w, i32_w]
                                    rfl
                                  refine pure_ (i := 7) (N := some 56) (v := undef) (a' := ?_) #[true, true, true, true, true, true, true, true, false, false, false, false] rfl rfl (any_of HT_.out (by kernel_rfl)) (fun _ _ _ h => h) (Or.inr ⟨by rfl, rfl⟩) ?_ ?_
                                  rotate_left
                                  · simp only [Act.put, List.setIfInBounds_toArray, List.set_cons_zero, List.set_cons_succ, i64_w, i32_w]
                                    rfl
                                  refine pure_ (i := 8) (N := some 57) (v := undef) (a' := ?_) #[true, true, true, true, true, true, true, true, true, false, false, false] rfl rfl (any_of HT_.out (by kernel_rfl)) (fun _ _ _ h => h) (Or.inr ⟨by rfl, rfl⟩) ?_ ?_
                                  rotate_left
                                  · simp only [Act.put, List.setIfInBounds_toArray, List.set_cons_zero, List.set_cons_succ, i64_w, i32_w]
                                    rfl
                                  refine pure_ (i := 9) (N := some 58) (v := undef) (a' := ?_) #[true, true, true, true, true, true, true, true, true, true, false, false] rfl rfl (any_of HT_.out (by kernel_rfl)) (fun _ _ _ h => h) (Or.inr ⟨by rfl, rfl⟩) ?_ ?_
                                  rotate_left
                                  · simp only [Act.put, List.setIfInBounds_toArray, List.set_cons_zero, List.set_cons_succ, i64_w, i32_w]
                                    rfl
                                  refine pure_ (i := 10) (N := some 59) (v := undef) (a' := ?_) #[true, true, true, true, true, true, true, true, true, true, true, false] rfl rfl (any_of HT_.out (by kernel_rfl)) (fun _ _ _ h => h) (Or.inr ⟨by rfl, rfl⟩) ?_ ?_
                                  rotate_left
                                  · simp only [Act.put, List.setIfInBounds_toArray, List.set_cons_zero, List.set_cons_succ, i64_w, i32_w]
                                    rfl
                                  refine pure_ (i := 11) (N := some 60) (v := ?_) (a' := ?_) #[true, true, true, true, true, true, true, true, true, true, true, true] rfl rfl (any_of HT_.out (by kernel_rfl)) (fun _ _ _ h => h) (Or.inl ⟨by rfl, ?_⟩) ?_ ?_
                                  rotate_left
                                  · intro w'
                                    go_simp
                                    with_reducible rfl
                                  rotate_left
                                  · simp only [Act.put, List.setIfInBounds_toArray, List.set_cons_zero, List.set_cons_succ, i64_w, i32_w]
                                    rfl
                                  refine done_ (done_of HT_.out (by kernel_rfl)) ?_
                                  have q56 : (x7_3 : Int) ≤ ((x3_2.length : Int) : Int) := of_decide_eq_true (by first | (with_reducible assumption) | assumption)
                                  obtain ⟨i056, hi056, _, hsz56, _⟩ := info_parts info70
                                  have hroom56 : x3_2.length ≤ co54 := (Kd.R_reads' HO_3.out).2.1
                                  have hC56 : Kd.C k70 _ Ao54 x3_2.length x3_2 := (Kd.R_reads' HO_3.out).2.2
                                  have hcut56 := cut_to (P := Try.prog) 65 70 .i64 Try.underlying65 hi056 Ao54 x3_2.length co54 x7_3 (of_decide_eq_true (by first | (with_reducible assumption) | assumption)) q56 hroom56
                                  have hr56 := Kd.C_take (m := (x7_3 : Int).toNat) hC56 (by omega)
                                  have hy56 : y181.length = (x7_3 : Int).toNat := (by rw [Ny181.out, List.length_take]; omega)
                                  rw [← Ny181.out] at hr56
                                  rw [← hy56] at hcut56
                                  have HR184 := Aside0.mk hr56
                                  have HC184 := Aside0.mk (show y181.length ≤ co54 from by omega)
                                  clear hr56 hC56 hroom56 hi056 hsz56
                                  have KY56 := Aside0.mk hy56
                                  clear hy56
                                  have KL56 := Aside0.mk (show (x7_3 : Int).toNat ≤ x3_2.length from by omega)
                                  replace q56 := eq_true q56
                                  try go_wp2_with (first | ((with_reducible refine gate_builtin (b := .append) (xs := #[.tmp 61, .tmp 64]) rfl ?_); at_builtin; refine Kd.R_append_rows k70 (w0 := w) w.heap.size rfl (.tmp 61) (.tmp 64) 65 70 (.agg #[(.int .u64 0), (.int .i64 0)]) 16 rfl Try.underlying65 info70 rfl (by decide) (by omega) (.slice none 0 0) ([] : List (S70)) y181 _ _ _ (fun k_ => some k_ ≠ (.slice Ao54 x3_2.length co54 : Value).ownBlock ∧ k_ ≠ gb160) (fun _ => False) rfl rfl ?aO ?aR (fun _ _ h => h) (fun _ h => h.elim) ?aF ?aB ?aS ?aL ?_; (case aR => repeat (first | exact (by repeat (first | (with_reducible exact HR184.out) | (with_reducible refine Kd.C_alloc ?_ _) | (with_reducible refine Kd.C_drewN ?_ _) | (with_reducible refine Kd.C_drew ?_) | exact HR184.out)) | (with_reducible refine Kd.C_alloc ?_ _) | (with_reducible refine Kd.C_drewN ?_ _) | (with_reducible refine Kd.C_drew ?_))); (case aB => exact (by repeat (first | (with_reducible first | exact HB.out | apply below_alloc | apply pw_below_drewN | apply below_drew1 | refine below_set ?_ GE156.out | refine below_set ?_ GE160.out) | exact HB.out))); (case aF => exact (fun k_ hk => ⟨Kd.fresh' (Kd.R_lt (by (with_reducible repeat (first | apply Kd.R_alloc | apply Kd.R_drewN | apply Kd.R_drew)); exact HO_3.out)) k_ hk, Kd.freshB (g := gb160) (o := .cells #[.int .u64 t158, .int .i64 (rd l0_0 x4_1)] 70 (0, 0)) (by (with_reducible repeat (first | refine blk_drewN ?_ _ | refine blk_drew ?_ | refine blk_alloc ?_ _)); exact BK160.out) k_ hk⟩)); (case aO => exact ((Kd.R_nil _ _ _ _ (fun k_ => some k_ ≠ (.slice Ao54 x3_2.length co54 : Value).ownBlock ∧ k_ ≠ gb160)))); (case aS => exact (below_size (by repeat (first | (with_reducible first | exact HB.out | apply below_alloc | apply pw_below_drewN | apply below_drew1 | refine below_set ?_ GE156.out | refine below_set ?_ GE160.out) | exact HB.out)))); (case aL => have := LMc48.out; omega); intro v186 w57 ho hb hg hat; rw [← Ny185.out] at ho; have n0_ := Aside0.mk (Kd.R_after (Kd.R_apart_nil (by (with_reducible repeat (first | apply Kd.R_alloc | apply Kd.R_drewN | apply Kd.R_drew)); exact HO_3.out)) hg hat); have n1_ := Aside0.mk (blk_grown (g := gb156) (o := .cells #[.slice (some ad157) l0_0.length c0_0, .int .i64 a0_1, .int .i64 a0_2] 42 (0, 0)) (by (with_reducible repeat (first | refine blk_drewN ?_ _ | refine blk_drew ?_ | refine blk_alloc ?_ _)); exact BK156.out) hg (by simp [Value.ownBlock])); have n2_ := Aside0.mk (blk_grown (g := gb160) (o := .cells #[.int .u64 t158, .int .i64 (rd l0_0 x4_1)] 70 (0, 0)) (by (with_reducible repeat (first | refine blk_drewN ?_ _ | refine blk_drew ?_ | refine blk_alloc ?_ _)); exact BK160.out) hg (by simp [Value.ownBlock])); have n3_ := Aside0.mk (hb); have n4_ := Aside0.mk ((show Kd.C k70 w57 Ao54 y181.length y181 from by rw [Ny181.out]; exact Kd.C_take (m := (x7_3 : Int).toNat) ((Kd.R_reads' (Kd.R_after (Kd.R_apart_nil (by (with_reducible repeat (first | apply Kd.R_alloc | apply Kd.R_drewN | apply Kd.R_drew)); exact HO_3.out)) hg hat)).2.2) KL56.out)); have n5_ := Aside0.mk (ho); clear HO_3; clear BK156; clear BK160; clear HB; clear HR184; have HO_3 := n0_; have BK156 := n1_; have BK160 := n2_; have HB := n3_; have HR184 := n4_; have HO187 := n5_; clear n0_ n1_ n2_ n3_ n4_ n5_; clear ho hb hg hat; have hnb58 := NB160_156.out; have hnc58 := NB156_160.out; have hcz59_0 : w57.cell? ⟨gb160, 0, none⟩ = some (.int .u64 t158) := (blk_cell BK160.out 0).trans rfl; have hcz59_1 : w57.cell? ⟨gb160, 1, none⟩ = some (.int .i64 (rd l0_0 x4_1)) := (blk_cell BK160.out 1).trans rfl; have hfz59_0 := blk_frozen BK160.out 0; have hfz59_1 := blk_frozen BK160.out 1) | ((with_reducible refine gate_builtin (b := .append) (xs := #[.tmp 66, .tmp 68]) rfl ?_); at_builtin; refine Kd.R_append k70 (w0 := w) w.heap.size rfl (.tmp 66) (.tmp 68) 65 70 (.agg #[(.int .u64 0), (.int .i64 0)]) 16 rfl Try.underlying65 info70 rfl (by decide) (by omega) v186 y185 (⟨t158, (rd l0_0 x4_1)⟩ : S70) [.int .u64 t158, .int .i64 (rd l0_0 x4_1)] (fun k_ => some k_ ≠ (.slice Ao54 x3_2.length co54 : Value).ownBlock ∧ k_ ≠ gb160) (fun _ => False) rfl rfl ?aP (fun _ hk => hk.elim) ?aF ?aO ?aB ?aS ?aL ?_; (case aP => exact k70_mkM _ _ _ (⟨t158, (rd l0_0 x4_1)⟩ : S70)); (case aB => exact (by repeat (first | (with_reducible first | exact HB.out | apply below_alloc | apply pw_below_drewN | apply below_drew1 | refine below_set ?_ GE156.out | refine below_set ?_ GE160.out) | exact HB.out))); (case aF => exact (fun k_ hk => ⟨Kd.fresh' (Kd.R_lt (by (with_reducible repeat (first | apply Kd.R_alloc | apply Kd.R_drewN | apply Kd.R_drew)); exact HO_3.out)) k_ hk, Kd.freshB (g := gb160) (o := .cells #[.int .u64 t158, .int .i64 (rd l0_0 x4_1)] 70 (0, 0)) (by (with_reducible repeat (first | refine blk_drewN ?_ _ | refine blk_drew ?_ | refine blk_alloc ?_ _)); exact BK160.out) k_ hk⟩)); (case aO => exact (by (with_reducible repeat (first | apply Kd.R_alloc | apply Kd.R_drewN | apply Kd.R_drew)); exact HO187.out)); (case aS => exact (below_size (by repeat (first | (with_reducible first | exact HB.out | apply below_alloc | apply pw_below_drewN | apply below_drew1 | refine below_set ?_ GE156.out | refine below_set ?_ GE160.out) | exact HB.out)))); (case aL => have := LMc49.out; omega); intro v189 w60 ho hb hg hat; rw [← Ny188.out] at ho; have n0_ := Aside0.mk (Kd.R_after (ok := (fun k_ => k_ ≠ gb160)) (by (with_reducible repeat (first | apply Kd.R_alloc | apply Kd.R_drewN | apply Kd.R_drew)); exact HO_3.out) hg hat); have n1_ := Aside0.mk (blk_grown (g := gb156) (o := .cells #[.slice (some ad157) l0_0.length c0_0, .int .i64 a0_1, .int .i64 a0_2] 42 (0, 0)) (by (with_reducible repeat (first | refine blk_drewN ?_ _ | refine blk_drew ?_ | refine blk_alloc ?_ _)); exact BK156.out) hg (Kd.R_ne HO187.out BK156.out (by decide))); have n2_ := Aside0.mk (blk_grown (g := gb160) (o := .cells #[.int .u64 t158, .int .i64 (rd l0_0 x4_1)] 70 (0, 0)) (by (with_reducible repeat (first | refine blk_drewN ?_ _ | refine blk_drew ?_ | refine blk_alloc ?_ _)); exact BK160.out) hg (Kd.R_away HO187.out (fun _ hk => hk.2))); have n3_ := Aside0.mk (hb); have n4_ := Aside0.mk ((show Kd.C k70 w60 Ao54 y181.length y181 from by rw [Ny181.out]; exact Kd.C_take (m := (x7_3 : Int).toNat) ((Kd.R_reads' (Kd.R_after (ok := (fun k_ => k_ ≠ gb160)) (by (with_reducible repeat (first | apply Kd.R_alloc | apply Kd.R_drewN | apply Kd.R_drew)); exact HO_3.out) hg hat)).2.2) KL56.out)); have n5_ := Aside0.mk (ho); clear HO_3; clear BK156; clear BK160; clear HB; clear HR184; clear HO187; have HO_3 := n0_; have BK156 := n1_; have BK160 := n2_; have HB := n3_; have HR184 := n4_; have HO190 := n5_; clear n0_ n1_ n2_ n3_ n4_ n5_; clear ho hb hg hat; have q61 : (x7_3 : Int) ≤ ((x3_2.length : Int) : Int) := of_decide_eq_true (by first | (with_reducible assumption) | assumption); obtain ⟨i061, hi061, _, hsz61, _⟩ := info_parts info70; have hroom61 : x3_2.length ≤ co54 := (Kd.R_reads' HO_3.out).2.1; have hC61 : Kd.C k70 _ Ao54 x3_2.length x3_2 := (Kd.R_reads' HO_3.out).2.2; have q061 : (0 : Int) ≤ (x7_3 : Int) := of_decide_eq_true (by first | (with_reducible assumption) | assumption); have hcut61 := cut_from (P := Try.prog) 65 70 .i64 Try.underlying65 hi061 2 hsz61 Ao54 x3_2.length co54 x7_3 q061 q61; have hr61 := Kd.C_drop (m := (x7_3 : Int).toNat) (c := co54) hC61 (by omega) hroom61; obtain ⟨A61, hA61⟩ : ∃ A1, A1 = (if co54 = (x7_3 : Int).toNat then Ao54 else (Ao54 : Option Addr).map (·.add ((x7_3 : Int).toNat * 2))) := ⟨_, rfl⟩; obtain ⟨c61, hc61⟩ : ∃ c1, c1 = co54 - (x7_3 : Int).toNat := ⟨_, rfl⟩; have hy61 : y191.length = x3_2.length - (x7_3 : Int).toNat := (by rw [Ny191.out, List.length_drop] <;> omega); rw [show (x3_2).drop (x7_3 : Int).toNat = y191 from Ny191.out.symm] at hr61; replace hr61 : Kd.C k70 _ A61 y191.length y191 := (by rw [hA61]; exact hr61); rw [← hy61, ← hA61, ← hc61] at hcut61; have HR194 := Aside0.mk hr61; have HC194 := Aside0.mk (show y191.length ≤ c61 from by rw [hy61, hc61]; exact Nat.sub_le_sub_right hroom61 _); clear hr61 hC61 hroom61 hi061 hsz61 hc61; have KY61 := Aside0.mk hy61; have KA61 := Aside0.mk hA61; clear hy61 hA61; have KL61 := Aside0.mk (show (x7_3 : Int).toNat ≤ x3_2.length from by omega); replace q61 := eq_true q61) | ((with_reducible refine gate_builtin (b := .append) (xs := #[.tmp 70, .tmp 73]) rfl ?_); at_builtin; refine Kd.R_append_rows k70 (w0 := w) w.heap.size rfl (.tmp 70) (.tmp 73) 65 70 (.agg #[(.int .u64 0), (.int .i64 0)]) 16 rfl Try.underlying65 info70 rfl (by decide) (by omega) v189 y188 y191 _ _ _ (fun k_ => some k_ ≠ (.slice Ao54 x3_2.length co54 : Value).ownBlock ∧ k_ ≠ gb160) (fun _ => False) rfl rfl ?aO ?aR (fun _ _ h => h) (fun _ h => h.elim) ?aF ?aB ?aS ?aL ?_; (case aR => repeat (first | exact (by repeat (first | (with_reducible exact HR194.out) | (with_reducible refine Kd.C_alloc ?_ _) | (with_reducible refine Kd.C_drewN ?_ _) | (with_reducible refine Kd.C_drew ?_) | exact HR194.out)) | (with_reducible refine Kd.C_alloc ?_ _) | (with_reducible refine Kd.C_drewN ?_ _) | (with_reducible refine Kd.C_drew ?_))); (case aB => exact (by repeat (first | (with_reducible first | exact HB.out | apply below_alloc | apply pw_below_drewN | apply below_drew1 | refine below_set ?_ GE156.out | refine below_set ?_ GE160.out) | exact HB.out))); (case aF => exact (fun k_ hk => ⟨Kd.fresh' (Kd.R_lt (by (with_reducible repeat (first | apply Kd.R_alloc | apply Kd.R_drewN | apply Kd.R_drew)); exact HO_3.out)) k_ hk, Kd.freshB (g := gb160) (o := .cells #[.int .u64 t158, .int .i64 (rd l0_0 x4_1)] 70 (0, 0)) (by (with_reducible repeat (first | refine blk_drewN ?_ _ | refine blk_drew ?_ | refine blk_alloc ?_ _)); exact BK160.out) k_ hk⟩)); (case aO => exact (by (with_reducible repeat (first | apply Kd.R_alloc | apply Kd.R_drewN | apply Kd.R_drew)); exact HO190.out)); (case aS => exact (below_size (by repeat (first | (with_reducible first | exact HB.out | apply below_alloc | apply pw_below_drewN | apply below_drew1 | refine below_set ?_ GE156.out | refine below_set ?_ GE160.out) | exact HB.out)))); (case aL => have := LMc52.out; omega); intro v196 w62 ho hb hg hat; rw [← Ny195.out] at ho; have n0_ := Aside0.mk (Kd.R_after (ok := (fun k_ => k_ ≠ gb160)) (by (with_reducible repeat (first | apply Kd.R_alloc | apply Kd.R_drewN | apply Kd.R_drew)); exact HO_3.out) hg hat); have n1_ := Aside0.mk (blk_grown (g := gb156) (o := .cells #[.slice (some ad157) l0_0.length c0_0, .int .i64 a0_1, .int .i64 a0_2] 42 (0, 0)) (by (with_reducible repeat (first | refine blk_drewN ?_ _ | refine blk_drew ?_ | refine blk_alloc ?_ _)); exact BK156.out) hg (Kd.R_ne HO190.out BK156.out (by decide))); have n2_ := Aside0.mk (blk_grown (g := gb160) (o := .cells #[.int .u64 t158, .int .i64 (rd l0_0 x4_1)] 70 (0, 0)) (by (with_reducible repeat (first | refine blk_drewN ?_ _ | refine blk_drew ?_ | refine blk_alloc ?_ _)); exact BK160.out) hg (Kd.R_away HO190.out (fun _ hk => hk.2))); have n3_ := Aside0.mk (hb); have n4_ := Aside0.mk ((show Kd.C k70 w62 Ao54 y181.length y181 from by rw [Ny181.out]; exact Kd.C_take (m := (x7_3 : Int).toNat) ((Kd.R_reads' (Kd.R_after (ok := (fun k_ => k_ ≠ gb160)) (by (with_reducible repeat (first | apply Kd.R_alloc | apply Kd.R_drewN | apply Kd.R_drew)); exact HO_3.out) hg hat)).2.2) KL56.out)); have n5_ := Aside0.mk ((show Kd.C k70 w62 A61 y191.length y191 from by rw [Ny191.out, KA61.out]; exact Kd.C_drop (m := (x7_3 : Int).toNat) (c := co54) ((Kd.R_reads' (Kd.R_after (ok := (fun k_ => k_ ≠ gb160)) (by (with_reducible repeat (first | apply Kd.R_alloc | apply Kd.R_drewN | apply Kd.R_drew)); exact HO_3.out) hg hat)).2.2) KL61.out ((Kd.R_reads' (Kd.R_after (ok := (fun k_ => k_ ≠ gb160)) (by (with_reducible repeat (first | apply Kd.R_alloc | apply Kd.R_drewN | apply Kd.R_drew)); exact HO_3.out) hg hat)).2.1))); have n6_ := Aside0.mk (ho); clear HO_3; clear BK156; clear BK160; clear HB; clear HR184; clear HR194; clear HO190; have HO_3 := n0_; have BK156 := n1_; have BK160 := n2_; have HB := n3_; have HR184 := n4_; have HR194 := n5_; have HO197 := n6_; clear n0_ n1_ n2_ n3_ n4_ n5_ n6_; clear ho hb hg hat))
                                  go_roundg k3
                                  case measure => have := HK1.out; have := HK2.out; have := HK3.out; omega
                                  case rel => exact ⟨(y195), (wrap64 (x5_2 + 1)), (by first | rfl | (simp; done) | (simp [*]; done)), H', ⟨by have := HK1.out; have := HK2.out; have := HK3.out; omega⟩, ⟨by (with_reducible repeat (first | apply Kd.R_alloc | apply Kd.R_drewN | apply Kd.R_drew)); exact Kd.R_mono HO197.out (fun _ hk => trivial)⟩, ⟨by (with_reducible repeat (first | refine blk_drewN ?_ _ | refine blk_drew ?_ | refine blk_alloc ?_ _)); exact BK156.out⟩, ⟨by repeat (first | (with_reducible first | exact HB.out | apply below_alloc | apply pw_below_drewN | apply below_drew1 | refine below_set ?_ GE156.out | refine below_set ?_ GE160.out) | exact HB.out)⟩⟩
                                · rw [if_neg c52] at H
                                  exact absurd H (by simp)
                              · rw [if_neg c49] at H
                                exact absurd H (by simp)
                            · rw [if_neg c48] at H
                              exact absurd H (by simp)
                          · rw [if_neg c47] at H
                            exact absurd H (by simp)
                        · rw [if_neg c46] at H
                          exact absurd H (by simp)
                · rw [if_neg c7] at H
                  exact absurd H (by simp)
              · rw [if_neg c6] at H
                exact absurd H (by simp)
            · rw [if_neg c5] at H
              have c5b0 : decide (x5_2 < a0_1) = false := decide_eq_false c5
              clear c5
              have H' := Aside0.mk H
              clear H
              have hcz63_0 : wr.cell? ⟨gb156, 0, none⟩ = some (.slice A0_0 l0_0.length c0_0) := (blk_cell BK156.out 0).trans rfl
              have hcz63_1 : wr.cell? ⟨gb156, 1, none⟩ = some (.int .i64 a0_1) := (blk_cell BK156.out 1).trans rfl
              have hcz63_2 : wr.cell? ⟨gb156, 2, none⟩ = some (.int .i64 a0_2) := (blk_cell BK156.out 2).trans rfl
              have hfz63_0 := blk_frozen BK156.out 0
              have hfz63_1 := blk_frozen BK156.out 1
              have hfz63_2 := blk_frozen BK156.out 2
              go_wp2
              go_roundg k2
              case measure => have := HK1.out; have := HK2.out; omega
              case rel => exact ⟨(x3_2), (wrap64 (x4_1 + 1)), (by first | rfl | (simp; done) | (simp [*]; done)), H', ⟨by have := HK1.out; have := HK2.out; omega⟩, ⟨by (with_reducible repeat (first | apply Kd.R_alloc | apply Kd.R_drewN | apply Kd.R_drew)); exact HO_3.out⟩, ⟨by (with_reducible repeat (first | refine blk_drewN ?_ _ | refine blk_drew ?_ | refine blk_alloc ?_ _)); exact BK156.out⟩, ⟨by repeat (first | (with_reducible first | exact HB.out | apply below_alloc | apply pw_below_drewN | apply below_drew1 | refine below_set ?_ GE156.out) | exact HB.out)⟩⟩
      · rw [if_neg c3] at H
        have c3b0 : decide (x4_1 < (l0_0.length : Int)) = false := decide_eq_false c3
        clear c3
        obtain rfl := Option.some.inj H
        have hcz64_0 : wr.cell? ⟨gb156, 0, none⟩ = some (.slice A0_0 l0_0.length c0_0) := (blk_cell BK156.out 0).trans rfl
        have hcz64_1 : wr.cell? ⟨gb156, 1, none⟩ = some (.int .i64 a0_1) := (blk_cell BK156.out 1).trans rfl
        have hcz64_2 : wr.cell? ⟨gb156, 2, none⟩ = some (.int .i64 a0_2) := (blk_cell BK156.out 2).trans rfl
        have hfz64_0 := blk_frozen BK156.out 0
        have hfz64_1 := blk_frozen BK156.out 1
        have hfz64_2 := blk_frozen BK156.out 2
        go_wp2
        go_ret
        exact ⟨_, by first | rfl | (simp [errW_none, errW_some] <;> rfl) | (simp [*, errW_none, errW_some] <;> rfl), by (with_reducible repeat (first | apply Kd.R_alloc | apply Kd.R_drewN | apply Kd.R_drew)); exact HO_3.out, by repeat (first | (with_reducible first | exact HB.out | apply below_alloc | apply pw_below_drewN | apply below_drew1 | refine below_set ?_ GE156.out) | exact HB.out)⟩
end Go.Proofs.Yteocngcojijnkaa.QH
namespace Go.Proofs.Yteocngcojijnkaa.QH
open Go.RowKit Go.Proofs.YteocngcojijnkaaW.PrintWords Go.Proofs.YteocngcojijnkaaW.PrintLast Go.Proofs.YteocngcojijnkaaW.PrintMore
attribute [local go_sem] max2_int min2_int max_two min_two max_three min_three max_four min_four   -- for this text's walks alone
set_option linter.unusedVariables false
set_option linter.unusedSimpArgs false
/-! ### icehouseref09_At: function 48 -/
def icehouseref09_At.l0 : Nat → List (S70) → Int → List Int → List Int → Int → Int → Option (List Int)
  | 0, _, _, _, _, _, _ => none
  | k + 1, x5, x6, x7, x199000, x199001, x199002 => if (x7.length : Int) < x199002 then (if 0 ≤ x6 then (if x6 < (x5.length : Int) then ((icehouseref09_Has.f k x7 ((rd_T70 x5 x6).f1)).bind fun t204 => (if t204 = true then (if (x5.length : Int) = 0 then (none) else (icehouseref09_At.l0 k x5 (Int.tmod (wrap64 (x6 + 1)) (x5.length : Int)) x7 x199000 x199001 x199002)) else (if x7.length < 17592186044416 then (if (x5.length : Int) = 0 then (none) else (icehouseref09_At.l0 k x5 (Int.tmod (wrap64 (x6 + 1)) (x5.length : Int)) (x7 ++ [(rd_T70 x5 x6).f1]) x199000 x199001 x199002)) else (none)))) else (none)) else (none)) else (some x7)
def icehouseref09_At.f (k : Nat) (l0_0 : List Int) (a0_1 : Int) (a0_2 : Int) (a1 : Int) : Option (List Int) := (icehouseref09_Points.f k l0_0 a0_1 a0_2).bind fun t199 => ((icehouseref09_First.f k t199 a1).bind fun t202 => (icehouseref09_At.l0 k t199 t202 ([] : List Int) l0_0 a0_1 a0_2))
theorem icehouseref09_At.mono_l : ∀ k, (∀ y0 y1 y2 y3 y4 y5, LeO (icehouseref09_At.l0 k y0 y1 y2 y3 y4 y5) (icehouseref09_At.l0 (k + 1) y0 y1 y2 y3 y4 y5))
  | 0 => fun _ _ _ _ _ _ r h => by simp [icehouseref09_At.l0] at h
  | k + 1 => by
    have ih0 := icehouseref09_At.mono_l k
    · intro y0 y1 y2 y3 y4 y5
      unfold icehouseref09_At.l0
      repeat' first
      | (with_reducible exact ih0 _ _ _ _ _ _)
      | (with_reducible exact icehouseref09_First.mono _ _ _)
      | (with_reducible exact icehouseref09_Has.mono _ _ _)
      | (with_reducible exact icehouseref09_Points.mono _ _ _ _)
      | (with_reducible exact LeO.refl _)
      | (with_reducible exact LeO.none _)
      | (with_reducible refine LeO.ite ?_ ?_)
      | (with_reducible refine LeO.bind ?_ (fun _ => ?_))
      | exact ih0 _ _ _ _ _ _
      | exact icehouseref09_First.mono _ _ _
      | exact icehouseref09_Has.mono _ _ _
      | exact icehouseref09_Points.mono _ _ _ _
      | exact LeO.none _
      | refine LeO.ite ?_ ?_
      | refine LeO.bind ?_ (fun _ => ?_)
theorem icehouseref09_At.mono : ∀ a0 a1 a2 a3 k, LeO (icehouseref09_At.f k a0 a1 a2 a3) (icehouseref09_At.f (k + 1) a0 a1 a2 a3) := by
  intro a0 a1 a2 a3 k
  have ih0 := icehouseref09_At.mono_l k
  unfold icehouseref09_At.f
  repeat' first
      | (with_reducible exact ih0 _ _ _ _ _ _)
      | (with_reducible exact icehouseref09_First.mono _ _ _)
      | (with_reducible exact icehouseref09_Has.mono _ _ _)
      | (with_reducible exact icehouseref09_Points.mono _ _ _ _)
      | (with_reducible exact LeO.refl _)
      | (with_reducible exact LeO.none _)
      | (with_reducible refine LeO.ite ?_ ?_)
      | (with_reducible refine LeO.bind ?_ (fun _ => ?_))
      | exact ih0 _ _ _ _ _ _
      | exact icehouseref09_First.mono _ _ _
      | exact icehouseref09_Has.mono _ _ _
      | exact icehouseref09_Points.mono _ _ _ _
      | exact LeO.none _
      | refine LeO.ite ?_ ?_
      | refine LeO.bind ?_ (fun _ => ?_)
set_option maxHeartbeats 8000000 in
set_option maxRecDepth 100000 in
theorem icehouseref09_At.calls (k : Nat) (A0_0 : Option Addr) (c0_0 : Nat) (l0_0 : List Int) (a0_1 : Int) (a0_2 : Int) (a1 : Int) (r : List Int) (w : World) (hr0_0 : Kd.C (Kd.int .i64) w A0_0 l0_0.length l0_0) (hc0_0 : l0_0.length ≤ c0_0) (h : icehouseref09_At.f k l0_0 a0_1 a0_2 a1 = some r) :
    Calls Try.prog 48 #[.agg #[.slice A0_0 l0_0.length c0_0, .int .i64 a0_1, .int .i64 a0_2], .int .u64 a1] w fun e w' => ∃ v0_ : Value, e = .returned (v0_) ∧ Kd.R (Kd.int .i64) 3 w' w.heap.size (fun _ => True) v0_ r ∧ Below w.heap.size w w' := by
  have hu42 := Try.underlying42
  have HR0_0 := Aside0.mk hr0_0
  have HC0_0 := Aside0.mk hc0_0
  clear hr0_0 hc0_0
  have HB := Aside0.mk (Below.refl w.heap.size w)
  have H : ((icehouseref09_Points.f k l0_0 a0_1 a0_2).bind fun t199 => ((icehouseref09_First.f k t199 a1).bind fun t202 => (icehouseref09_At.l0 k t199 t202 ([] : List Int) l0_0 a0_1 a0_2))) = some r := h
  clear h
  replace H := Option.bind_eq_some_iff.mp H
  obtain ⟨t199, A30, H⟩ := H
  replace H : ((icehouseref09_First.f k t199 a1).bind fun t202 => (icehouseref09_At.l0 k t199 t202 ([] : List Int) l0_0 a0_1 a0_2)) = some r := H
  have A3 := Aside0.mk A30
  clear A30
  replace H := Option.bind_eq_some_iff.mp H
  obtain ⟨t202, A40, H⟩ := H
  replace H : (icehouseref09_At.l0 k t199 t202 ([] : List Int) l0_0 a0_1 a0_2) = some r := H
  have A4 := Aside0.mk A40
  clear A40
  have H' := Aside0.mk H
  clear H
  go_enter Try.func48, Try.ntmps48
  go_wp2_with (first | ((with_reducible refine gate_dst (N := 2) rfl ?_); refine box_event ?hg (N := 2) ?hd (cs := #[.slice A0_0 l0_0.length c0_0, .int .i64 a0_1, .int .i64 a0_2]) (t := 42) ?hr ?_; (case hd => rfl); (case hg => rfl); (case hr => first | (go_simp; done) | (go_simp; rfl)); intro gb198 hg w5 hbox hb; have n0_ := Aside0.mk (below_step (by repeat (first | (with_reducible first | exact HB.out | apply below_alloc | apply pw_below_drewN | apply below_drew1) | exact HB.out)) hb); have n1_ := Aside0.mk (hbox); have n2_ := Aside0.mk ((by rw [hg]; exact (below_size (by repeat (first | (with_reducible first | exact HB.out | apply below_alloc | apply pw_below_drewN | apply below_drew1) | exact HB.out))) : w.heap.size ≤ gb198)); have n3_ := Aside0.mk ((by rw [hg]; exact (below_size (by repeat (first | (with_reducible first | exact HB.out | apply below_alloc | apply pw_below_drewN | apply below_drew1) | exact HB.out))) : w.heap.size ≤ gb198)); clear HB; have HB := n0_; have BK198 := n1_; have GW198 := n2_; have GE198 := n3_; clear n0_ n1_ n2_ n3_; clear hb hbox hg; have hcz6_0 : w5.cell? ⟨gb198, 0, none⟩ = some (.slice A0_0 l0_0.length c0_0) := (blk_cell BK198.out 0).trans rfl; have hcz6_1 : w5.cell? ⟨gb198, 1, none⟩ = some (.int .i64 a0_1) := (blk_cell BK198.out 1).trans rfl; have hcz6_2 : w5.cell? ⟨gb198, 2, none⟩ = some (.int .i64 a0_2) := (blk_cell BK198.out 2).trans rfl; have hfz6_0 := blk_frozen BK198.out 0; have hfz6_1 := blk_frozen BK198.out 1; have hfz6_2 := blk_frozen BK198.out 2) | ((with_reducible refine gate_callee (f := 47) rfl ?_); refine goesL_ (some 9) rfl rfl Try.func47 (by kernel_rfl) rfl #[.agg #[.slice A0_0 l0_0.length c0_0, .int .i64 a0_1, .int .i64 a0_2]] rfl (by (try simp only [List.map_toArray, List.map_cons, List.map_nil]); first | done | rfl | (simp only [List.length_drop, List.length_take]; rfl)) ?_; (with_reducible refine (icehouseref09_Points.calls k _ _ l0_0 a0_1 a0_2 t199 _ ?side1 ?side2 A3.out).mono ?_); (case side1 => repeat (first | exact (Kd.C_below HR0_0.out HB.out) | (with_reducible refine Kd.C_alloc ?_ _) | (with_reducible refine Kd.C_drewN ?_ _) | (with_reducible refine Kd.C_drew ?_))); (case side2 => exact HC0_0.out); rintro e w7 ⟨v200, rfl, ho0, hb⟩; refine ⟨_, rfl, ?_⟩; have n0_ := Aside0.mk (Kd.R_lower ho0 (below_size (by repeat (first | (with_reducible first | exact HB.out | apply below_alloc | apply pw_below_drewN | apply below_drew1 | refine below_set ?_ GE198.out) | exact HB.out)))); have n1_ := Aside0.mk (blk_below (g := gb198) (o := .cells #[.slice A0_0 l0_0.length c0_0, .int .i64 a0_1, .int .i64 a0_2] 42 (0, 0)) (by (with_reducible repeat (first | refine blk_drewN ?_ _ | refine blk_drew ?_ | refine blk_alloc ?_ _)); exact BK198.out) hb); have n2_ := Aside0.mk (below_step (by repeat (first | (with_reducible first | exact HB.out | apply below_alloc | apply pw_below_drewN | apply below_drew1 | refine below_set ?_ GE198.out) | exact HB.out)) hb); clear BK198; clear HB; have HO201 := n0_; have BK198 := n1_; have HB := n2_; clear n0_ n1_ n2_; (try clear hb); (try clear hb2); (try clear hk); (try clear hi); (try clear ho0); obtain ⟨Ao8, co8, eo8⟩ := Kd.R_slice HO201.out; subst eo8) | ((with_reducible refine gate_callee (f := 59) rfl ?_); refine goesL_ (some 12) rfl rfl Try.func59 (by kernel_rfl) rfl #[.slice Ao8 t199.length co8, .int .u64 a1] rfl (by (try simp only [List.map_toArray, List.map_cons, List.map_nil]); first | done | rfl | (simp only [List.length_drop, List.length_take]; rfl)) ?_; (with_reducible refine (icehouseref09_First.calls k _ _ t199 a1 t202 _ ?side1 ?side2 A4.out).mono ?_); (case side1 => repeat (first | exact (Kd.R_reads' HO201.out).2.2 | (with_reducible refine Kd.C_alloc ?_ _) | (with_reducible refine Kd.C_drewN ?_ _) | (with_reducible refine Kd.C_drew ?_))); (case side2 => exact (Kd.R_reads' HO201.out).2.1); rintro e w' ⟨rfl, ⟨nd, rfl⟩⟩; refine ⟨_, rfl, ?_⟩))
  go_loopg [6, 7] k (fun kq v6 v7 w' => ∃ (x6_1 : Int) (x7_1 : List Int), v6 = .int .i64 x6_1 ∧ Aside0 (icehouseref09_At.l0 kq t199 x6_1 x7_1 l0_0 a0_1 a0_2 = some r) ∧ Aside0 (kq ≤ k) ∧ Aside0 (Kd.R k70 70 w' w.heap.size (fun _ => True) (.slice Ao8 t199.length co8) t199) ∧ Aside0 (Kd.R (Kd.int .i64) 3 w' w.heap.size (fun _ => True) v7 x7_1) ∧ Aside0 (w'.heap[gb198]? = some (.cells #[(.slice A0_0 l0_0.length c0_0), .int .i64 a0_1, .int .i64 a0_2] 42 (0, 0))) ∧ Aside0 (Below w.heap.size w w'))
  case atStart => exact ⟨(t202), (([] : List Int)), (by first | rfl | (simp; done) | (simp [*]; done)), H', ⟨Nat.le_refl _⟩, ⟨by (with_reducible repeat (first | apply Kd.R_alloc | apply Kd.R_drewN | apply Kd.R_drew)); exact HO201.out⟩, ⟨by first | exact Kd.R_nil _ _ _ _ _ | exact Kd.N_nil _ _ _ _ _ | exact Kd.V_nil _ _ _ _ _ | exact Kd.Q_nil _ _ _ _ _ | exact Kd.S_nil _ _ _ _ _⟩, ⟨by (with_reducible repeat (first | refine blk_drewN ?_ _ | refine blk_drew ?_ | refine blk_alloc ?_ _)); exact BK198.out⟩, ⟨by repeat (first | (with_reducible first | exact HB.out | apply below_alloc | apply pw_below_drewN | apply below_drew1 | refine below_set ?_ GE198.out) | exact HB.out)⟩⟩
  case round =>
    clear H'
    try clear p2
    try clear c4
    try clear c5
    try clear hcz6_0
    try clear hcz6_1
    try clear hcz6_2
    try clear hfz6_0
    try clear hfz6_1
    try clear hfz6_2
    obtain ⟨x6_1, x7_1, rfl, HA, HK1, HO_5, HO_7, BK198, HB⟩ := hrel
    cases gk with
    | zero => exact absurd HA.out (by simp [icehouseref09_At.l0])
    | succ k1 =>
      have H := HA.out
      clear HA
      simp only [icehouseref09_At.l0] at H
      by_cases c9 : (x7_1.length : Int) < a0_2
      · rw [if_pos c9] at H
        have c9b0 : decide ((x7_1.length : Int) < a0_2) = true := decide_eq_true c9
        clear c9
        by_cases c10 : 0 ≤ x6_1
        · rw [if_pos c10] at H
          have c10b0 : decide (0 ≤ x6_1) = true := decide_eq_true c10
          clear c10
          by_cases c11 : x6_1 < (t199.length : Int)
          · rw [if_pos c11] at H
            have c11b0 : decide (x6_1 < (t199.length : Int)) = true := decide_eq_true c11
            clear c11
            replace H := Option.bind_eq_some_iff.mp H
            obtain ⟨t204, A120, H⟩ := H
            replace H : (if t204 = true then (if (t199.length : Int) = 0 then (none) else (icehouseref09_At.l0 k1 t199 (Int.tmod (wrap64 (x6_1 + 1)) (t199.length : Int)) x7_1 l0_0 a0_1 a0_2)) else (if x7_1.length < 17592186044416 then (if (t199.length : Int) = 0 then (none) else (icehouseref09_At.l0 k1 t199 (Int.tmod (wrap64 (x6_1 + 1)) (t199.length : Int)) (x7_1 ++ [(rd_T70 t199 x6_1).f1]) l0_0 a0_1 a0_2)) else (none))) = some r := H
            have A12 := Aside0.mk A120
            clear A120
            by_cases c13 : t204 = true
            · subst c13
              have H1 : (if (t199.length : Int) = 0 then (none) else (icehouseref09_At.l0 k1 t199 (Int.tmod (wrap64 (x6_1 + 1)) (t199.length : Int)) x7_1 l0_0 a0_1 a0_2)) = some r := by rw [if_pos rfl] at H; exact H
              clear H
              have H := H1
              clear H1
              by_cases c14 : (t199.length : Int) = 0
              · rw [if_pos c14] at H
                exact absurd H (by simp)
              · rw [if_neg c14] at H
                have c14b0 : ((t199.length : Int) == 0) = false := beq_eq_false_iff_ne.mpr c14
                have c14b1 : ((t199.length : Int) != 0) = true := bne_iff_ne.mpr c14
                have c14b2 : ¬ (t199 = []) := fun h_ => c14 (by rw [h_]; rfl)
                have H' := Aside0.mk H
                clear H
                obtain ⟨Ao15, co15, eo15⟩ := Kd.R_slice HO_7.out
                subst eo15
                have hcz16_0 : wr.cell? ⟨gb198, 0, none⟩ = some (.slice A0_0 l0_0.length c0_0) := (blk_cell BK198.out 0).trans rfl
                have hcz16_1 : wr.cell? ⟨gb198, 1, none⟩ = some (.int .i64 a0_1) := (blk_cell BK198.out 1).trans rfl
                have hcz16_2 : wr.cell? ⟨gb198, 2, none⟩ = some (.int .i64 a0_2) := (blk_cell BK198.out 2).trans rfl
                have hfz16_0 := blk_frozen BK198.out 0
                have hfz16_1 := blk_frozen BK198.out 1
                have hfz16_2 := blk_frozen BK198.out 2
                have p203 : 0 ≤ (x6_1 : Int) := of_decide_eq_true (by first | (with_reducible assumption) | assumption)
                have q203 : x6_1 < (t199.length : Int) := of_decide_eq_true (by first | (with_reducible assumption) | assumption)
                obtain ⟨ad203, e203, hx203_0, hx203_1⟩ := at_T70 (Kd.R_reads' HO_5.out).2.2 x6_1 p203 q203
                cases e203
                replace p203 := eq_true p203
                replace q203 := eq_true q203
                go_wp2_with (first | ((with_reducible refine gate_callee (f := 22) rfl ?_); refine goesL_ (some 24) rfl rfl Try.func22 (by kernel_rfl) rfl #[.slice Ao15 x7_1.length co15, .int .i64 ((rd_T70 t199 x6_1).f1)] rfl (by (try simp only [List.map_toArray, List.map_cons, List.map_nil]); first | done | rfl | (simp only [List.length_drop, List.length_take]; rfl)) ?_; (with_reducible refine (icehouseref09_Has.calls k1 _ _ x7_1 ((rd_T70 t199 x6_1).f1) true _ ?side1 ?side2 A12.out).mono ?_); (case side1 => repeat (first | exact (Kd.R_reads' HO_7.out).2.2 | (with_reducible refine Kd.C_alloc ?_ _) | (with_reducible refine Kd.C_drewN ?_ _) | (with_reducible refine Kd.C_drew ?_))); (case side2 => exact (Kd.R_reads' HO_7.out).2.1); rintro e w' ⟨rfl, ⟨nd, rfl⟩⟩; refine ⟨_, rfl, ?_⟩))
                go_roundg k1
                case measure => have := HK1.out; omega
                case rel => exact ⟨(Int.tmod (wrap64 (x6_1 + 1)) (t199.length : Int)), (x7_1), (by first | rfl | (simp; done) | (simp [*]; done)), H', ⟨by have := HK1.out; omega⟩, ⟨by (with_reducible repeat (first | apply Kd.R_alloc | apply Kd.R_drewN | apply Kd.R_drew)); exact HO_5.out⟩, ⟨by (with_reducible repeat (first | apply Kd.R_alloc | apply Kd.R_drewN | apply Kd.R_drew)); exact HO_7.out⟩, ⟨by (with_reducible repeat (first | refine blk_drewN ?_ _ | refine blk_drew ?_ | refine blk_alloc ?_ _)); exact BK198.out⟩, ⟨by repeat (first | (with_reducible first | exact HB.out | apply below_alloc | apply pw_below_drewN | apply below_drew1 | refine below_set ?_ GE198.out) | exact HB.out)⟩⟩
            · replace c13 := Bool.eq_false_iff.mpr c13
              subst c13
              have H1 : (if x7_1.length < 17592186044416 then (if (t199.length : Int) = 0 then (none) else (icehouseref09_At.l0 k1 t199 (Int.tmod (wrap64 (x6_1 + 1)) (t199.length : Int)) (x7_1 ++ [(rd_T70 t199 x6_1).f1]) l0_0 a0_1 a0_2)) else (none)) = some r := by rw [if_neg (show ¬ (false = true) by decide)] at H; exact H
              clear H
              have H := H1
              clear H1
              by_cases c17 : x7_1.length < 17592186044416
              · rw [if_pos c17] at H
                have LMc17 := Aside0.mk c17
                clear c17
                obtain ⟨y206, hy206⟩ : ∃ y_ : List Int, y_ = (x7_1 ++ [(rd_T70 t199 x6_1).f1]) := ⟨_, rfl⟩
                replace H : (if (t199.length : Int) = 0 then (none) else (icehouseref09_At.l0 k1 t199 (Int.tmod (wrap64 (x6_1 + 1)) (t199.length : Int)) y206 l0_0 a0_1 a0_2)) = some r := by first | (rw [hy206]; with_reducible exact H) | (have H2_ := (Option.bind_some _ _).symm.trans H; rw [hy206]; with_reducible exact H2_) | (have H2_ := (Option.bind_some _ _).symm.trans H; with_reducible exact H2_) | with_reducible exact H | (rw [hy206]; exact H) | exact H
                have Ny206 := Aside0.mk hy206
                clear hy206
                by_cases c18 : (t199.length : Int) = 0
                · rw [if_pos c18] at H
                  exact absurd H (by simp)
                · rw [if_neg c18] at H
                  have c18b0 : ((t199.length : Int) == 0) = false := beq_eq_false_iff_ne.mpr c18
                  have c18b1 : ((t199.length : Int) != 0) = true := bne_iff_ne.mpr c18
                  have c18b2 : ¬ (t199 = []) := fun h_ => c18 (by rw [h_]; rfl)
                  have H' := Aside0.mk H
                  clear H
                  obtain ⟨Ao19, co19, eo19⟩ := Kd.R_slice HO_7.out
                  subst eo19
                  have hcz20_0 : wr.cell? ⟨gb198, 0, none⟩ = some (.slice A0_0 l0_0.length c0_0) := (blk_cell BK198.out 0).trans rfl
                  have hcz20_1 : wr.cell? ⟨gb198, 1, none⟩ = some (.int .i64 a0_1) := (blk_cell BK198.out 1).trans rfl
                  have hcz20_2 : wr.cell? ⟨gb198, 2, none⟩ = some (.int .i64 a0_2) := (blk_cell BK198.out 2).trans rfl
                  have hfz20_0 := blk_frozen BK198.out 0
                  have hfz20_1 := blk_frozen BK198.out 1
                  have hfz20_2 := blk_frozen BK198.out 2
                  have p203 : 0 ≤ (x6_1 : Int) := of_decide_eq_true (by first | (with_reducible assumption) | assumption)
                  have q203 : x6_1 < (t199.length : Int) := of_decide_eq_true (by first | (with_reducible assumption) | assumption)
                  obtain ⟨ad203, e203, hx203_0, hx203_1⟩ := at_T70 (Kd.R_reads' HO_5.out).2.2 x6_1 p203 q203
                  cases e203
                  replace p203 := eq_true p203
                  replace q203 := eq_true q203
                  go_wp2_with (first | ((with_reducible refine gate_callee (f := 22) rfl ?_); refine goesL_ (some 24) rfl rfl Try.func22 (by kernel_rfl) rfl #[.slice Ao19 x7_1.length co19, .int .i64 ((rd_T70 t199 x6_1).f1)] rfl (by (try simp only [List.map_toArray, List.map_cons, List.map_nil]); first | done | rfl | (simp only [List.length_drop, List.length_take]; rfl)) ?_; (with_reducible refine (icehouseref09_Has.calls k1 _ _ x7_1 ((rd_T70 t199 x6_1).f1) false _ ?side1 ?side2 A12.out).mono ?_); (case side1 => repeat (first | exact (Kd.R_reads' HO_7.out).2.2 | (with_reducible refine Kd.C_alloc ?_ _) | (with_reducible refine Kd.C_drewN ?_ _) | (with_reducible refine Kd.C_drew ?_))); (case side2 => exact (Kd.R_reads' HO_7.out).2.1); rintro e w' ⟨rfl, ⟨nd, rfl⟩⟩; refine ⟨_, rfl, ?_⟩; have p205 : 0 ≤ (x6_1 : Int) := of_decide_eq_true (by first | (with_reducible assumption) | assumption); have q205 : x6_1 < (t199.length : Int) := of_decide_eq_true (by first | (with_reducible assumption) | assumption); obtain ⟨ad205, e205, hx205_0, hx205_1⟩ := at_T70 (Kd.R_reads' HO_5.out).2.2 x6_1 p205 q205; obtain rfl : ad203 = ad205 := (by injection e205); replace p205 := eq_true p205; replace q205 := eq_true q205) | ((with_reducible refine gate_builtin (b := .append) (xs := #[.tmp 26, .tmp 32]) rfl ?_); at_builtin; refine Kd.R_append (Kd.int .i64) (w0 := w) w.heap.size rfl (.tmp 26) (.tmp 32) 22 3 (.int .i64 0) 8 rfl Try.underlying22 info3 rfl (by decide) (by omega) (.slice Ao19 x7_1.length co19) x7_1 ((rd_T70 t199 x6_1).f1) [.int .i64 ((rd_T70 t199 x6_1).f1)] (fun _ => True) (fun _ => False) rfl rfl ?aP (fun _ hk => hk.elim) ?aF ?aO ?aB ?aS ?aL ?_; (case aP => exact rfl); (case aB => exact (by repeat (first | (with_reducible first | exact HB.out | apply below_alloc | apply pw_below_drewN | apply below_drew1 | refine below_set ?_ GE198.out) | exact HB.out))); (case aF => exact (fun _ _ => trivial)); (case aO => exact (by (with_reducible repeat (first | apply Kd.R_alloc | apply Kd.R_drewN | apply Kd.R_drew)); exact HO_7.out)); (case aS => exact (below_size (by repeat (first | (with_reducible first | exact HB.out | apply below_alloc | apply pw_below_drewN | apply below_drew1 | refine below_set ?_ GE198.out) | exact HB.out)))); (case aL => have := LMc17.out; omega); intro v207 w21 ho hb hg hat; rw [← Ny206.out] at ho; have n0_ := Aside0.mk (Kd.R_over' (by (with_reducible repeat (first | apply Kd.R_alloc | apply Kd.R_drewN | apply Kd.R_drew)); exact HO_5.out) (Kd.R_typed (by (with_reducible repeat (first | apply Kd.R_alloc | apply Kd.R_drewN | apply Kd.R_drew)); exact HO_7.out)) (by decide) hg); have n1_ := Aside0.mk (blk_grown (g := gb198) (o := .cells #[.slice A0_0 l0_0.length c0_0, .int .i64 a0_1, .int .i64 a0_2] 42 (0, 0)) (by (with_reducible repeat (first | refine blk_drewN ?_ _ | refine blk_drew ?_ | refine blk_alloc ?_ _)); exact BK198.out) hg (Kd.R_ne HO_7.out BK198.out (by decide))); have n2_ := Aside0.mk (hb); have n3_ := Aside0.mk (ho); clear HO_5; clear BK198; clear HB; clear HO_7; have HO_5 := n0_; have BK198 := n1_; have HB := n2_; have HO208 := n3_; clear n0_ n1_ n2_ n3_; clear ho hb hg hat))
                  go_roundg k1
                  case measure => have := HK1.out; omega
                  case rel => exact ⟨(Int.tmod (wrap64 (x6_1 + 1)) (t199.length : Int)), (y206), (by first | rfl | (simp; done) | (simp [*]; done)), H', ⟨by have := HK1.out; omega⟩, ⟨by (with_reducible repeat (first | apply Kd.R_alloc | apply Kd.R_drewN | apply Kd.R_drew)); exact HO_5.out⟩, ⟨by (with_reducible repeat (first | apply Kd.R_alloc | apply Kd.R_drewN | apply Kd.R_drew)); exact HO208.out⟩, ⟨by (with_reducible repeat (first | refine blk_drewN ?_ _ | refine blk_drew ?_ | refine blk_alloc ?_ _)); exact BK198.out⟩, ⟨by repeat (first | (with_reducible first | exact HB.out | apply below_alloc | apply pw_below_drewN | apply below_drew1 | refine below_set ?_ GE198.out) | exact HB.out)⟩⟩
              · rw [if_neg c17] at H
                exact absurd H (by simp)
          · rw [if_neg c11] at H
            exact absurd H (by simp)
        · rw [if_neg c10] at H
          exact absurd H (by simp)
      · rw [if_neg c9] at H
        have c9b0 : decide ((x7_1.length : Int) < a0_2) = false := decide_eq_false c9
        clear c9
        obtain rfl := Option.some.inj H
        obtain ⟨Ao22, co22, eo22⟩ := Kd.R_slice HO_7.out
        subst eo22
        have hcz23_0 : wr.cell? ⟨gb198, 0, none⟩ = some (.slice A0_0 l0_0.length c0_0) := (blk_cell BK198.out 0).trans rfl
        have hcz23_1 : wr.cell? ⟨gb198, 1, none⟩ = some (.int .i64 a0_1) := (blk_cell BK198.out 1).trans rfl
        have hcz23_2 : wr.cell? ⟨gb198, 2, none⟩ = some (.int .i64 a0_2) := (blk_cell BK198.out 2).trans rfl
        have hfz23_0 := blk_frozen BK198.out 0
        have hfz23_1 := blk_frozen BK198.out 1
        have hfz23_2 := blk_frozen BK198.out 2
        go_wp2
        go_ret
        exact ⟨_, by first | rfl | (simp [errW_none, errW_some] <;> rfl) | (simp [*, errW_none, errW_some] <;> rfl), by (with_reducible repeat (first | apply Kd.R_alloc | apply Kd.R_drewN | apply Kd.R_drew)); exact HO_7.out, by repeat (first | (with_reducible first | exact HB.out | apply below_alloc | apply pw_below_drewN | apply below_drew1 | refine below_set ?_ GE198.out) | exact HB.out)⟩
/-! ### icehouseref09_Lists: function 41 -/
def icehouseref09_Lists.l0 : Nat → List (S70) → List (List Int) → Int → List Int → Int → Int → Option ((List (List Int)))
  | 0, _, _, _, _, _, _ => none
  | k + 1, x3, x4, x5, x210000, x210001, x210002 => if x5 < (x3.length : Int) then (if 0 ≤ x5 then ((icehouseref09_At.f k x210000 x210001 x210002 ((rd_T70 x3 x5).f0)).bind fun t214 => (if x4.length < 5864062014805 then (icehouseref09_Lists.l0 k x3 (x4 ++ [t214]) (wrap64 (x5 + 1)) x210000 x210001 x210002) else (none))) else (none)) else (some x4)
def icehouseref09_Lists.f (k : Nat) (l0_0 : List Int) (a0_1 : Int) (a0_2 : Int) : Option ((List (List Int))) := (icehouseref09_Points.f k l0_0 a0_1 a0_2).bind fun t210 => (icehouseref09_Lists.l0 k t210 ([] : List (List Int)) 0 l0_0 a0_1 a0_2)
theorem icehouseref09_Lists.mono_l : ∀ k, (∀ y0 y1 y2 y3 y4 y5, LeO (icehouseref09_Lists.l0 k y0 y1 y2 y3 y4 y5) (icehouseref09_Lists.l0 (k + 1) y0 y1 y2 y3 y4 y5))
  | 0 => fun _ _ _ _ _ _ r h => by simp [icehouseref09_Lists.l0] at h
  | k + 1 => by
    have ih0 := icehouseref09_Lists.mono_l k
    · intro y0 y1 y2 y3 y4 y5
      unfold icehouseref09_Lists.l0
      repeat' first
      | (with_reducible exact ih0 _ _ _ _ _ _)
      | (with_reducible exact icehouseref09_At.mono _ _ _ _ _)
      | (with_reducible exact icehouseref09_Points.mono _ _ _ _)
      | (with_reducible exact LeO.refl _)
      | (with_reducible exact LeO.none _)
      | (with_reducible refine LeO.ite ?_ ?_)
      | (with_reducible refine LeO.bind ?_ (fun _ => ?_))
      | exact ih0 _ _ _ _ _ _
      | exact icehouseref09_At.mono _ _ _ _ _
      | exact icehouseref09_Points.mono _ _ _ _
      | exact LeO.none _
      | refine LeO.ite ?_ ?_
      | refine LeO.bind ?_ (fun _ => ?_)
theorem icehouseref09_Lists.mono : ∀ a0 a1 a2 k, LeO (icehouseref09_Lists.f k a0 a1 a2) (icehouseref09_Lists.f (k + 1) a0 a1 a2) := by
  intro a0 a1 a2 k
  have ih0 := icehouseref09_Lists.mono_l k
  unfold icehouseref09_Lists.f
  repeat' first
      | (with_reducible exact ih0 _ _ _ _ _ _)
      | (with_reducible exact icehouseref09_At.mono _ _ _ _ _)
      | (with_reducible exact icehouseref09_Points.mono _ _ _ _)
      | (with_reducible exact LeO.refl _)
      | (with_reducible exact LeO.none _)
      | (with_reducible refine LeO.ite ?_ ?_)
      | (with_reducible refine LeO.bind ?_ (fun _ => ?_))
      | exact ih0 _ _ _ _ _ _
      | exact icehouseref09_At.mono _ _ _ _ _
      | exact icehouseref09_Points.mono _ _ _ _
      | exact LeO.none _
      | refine LeO.ite ?_ ?_
      | refine LeO.bind ?_ (fun _ => ?_)
def icehouseref09_Lists.T6 : Bool × List (List Nat × List Nat) := (true, [([], []), ([], []), ([], []), ([], []), ([2, 3], [2, 3]), ([4], [4]), ([5], [5]), ([1, 6], [1, 6]), ([7], [7]), ([0, 8, 7], [0, 8]), ([9, 9, 0, 1, 2, 3, 4, 5, 6, 7, 8, 9], [0, 9])])
def icehouseref09_Lists.B6 : List Nat := [0, 0, 0, 0, 12, 28, 60, 126, 254, 511, 1023]
theorem icehouseref09_Lists.tab6 : rtab .any (opsOf Try.f41 6) = icehouseref09_Lists.T6 := by kernel_rfl
theorem icehouseref09_Lists.bits6 : waitsOk icehouseref09_Lists.T6.2 icehouseref09_Lists.B6 = true := by kernel_rfl
set_option maxHeartbeats 8000000 in
set_option maxRecDepth 100000 in
theorem icehouseref09_Lists.calls (k : Nat) (A0_0 : Option Addr) (c0_0 : Nat) (l0_0 : List Int) (a0_1 : Int) (a0_2 : Int) (r : List (List Int)) (w : World) (hr0_0 : Kd.C (Kd.int .i64) w A0_0 l0_0.length l0_0) (hc0_0 : l0_0.length ≤ c0_0) (h : icehouseref09_Lists.f k l0_0 a0_1 a0_2 = some r) :
    Calls Try.prog 41 #[.agg #[.slice A0_0 l0_0.length c0_0, .int .i64 a0_1, .int .i64 a0_2]] w fun e w' => ∃ v0_ : Value, e = .returned (v0_) ∧ Kd.S (Kd.slice 3 (Kd.int .i64)) 22 w' w.heap.size (fun _ => True) v0_ r ∧ Below w.heap.size w w' := by
  have hu42 := Try.underlying42
  have HR0_0 := Aside0.mk hr0_0
  have HC0_0 := Aside0.mk hc0_0
  clear hr0_0 hc0_0
  have HB := Aside0.mk (Below.refl w.heap.size w)
  have H : ((icehouseref09_Points.f k l0_0 a0_1 a0_2).bind fun t210 => (icehouseref09_Lists.l0 k t210 ([] : List (List Int)) 0 l0_0 a0_1 a0_2)) = some r := h
  clear h
  replace H := Option.bind_eq_some_iff.mp H
  obtain ⟨t210, A20, H⟩ := H
  replace H : (icehouseref09_Lists.l0 k t210 ([] : List (List Int)) 0 l0_0 a0_1 a0_2) = some r := H
  have A2 := Aside0.mk A20
  clear A20
  have H' := Aside0.mk H
  clear H
  go_enter Try.func41, Try.ntmps41
  go_wp2_with (first | ((with_reducible refine gate_dst (N := 1) rfl ?_); refine box_event ?hg (N := 1) ?hd (cs := #[.slice A0_0 l0_0.length c0_0, .int .i64 a0_1, .int .i64 a0_2]) (t := 42) ?hr ?_; (case hd => rfl); (case hg => rfl); (case hr => first | (go_simp; done) | (go_simp; rfl)); intro gb209 hg w3 hbox hb; have n0_ := Aside0.mk (below_step (by repeat (first | (with_reducible first | exact HB.out | apply below_alloc | apply pw_below_drewN | apply below_drew1) | exact HB.out)) hb); have n1_ := Aside0.mk (hbox); have n2_ := Aside0.mk ((by rw [hg]; exact (below_size (by repeat (first | (with_reducible first | exact HB.out | apply below_alloc | apply pw_below_drewN | apply below_drew1) | exact HB.out))) : w.heap.size ≤ gb209)); have n3_ := Aside0.mk ((by rw [hg]; exact (below_size (by repeat (first | (with_reducible first | exact HB.out | apply below_alloc | apply pw_below_drewN | apply below_drew1) | exact HB.out))) : w.heap.size ≤ gb209)); clear HB; have HB := n0_; have BK209 := n1_; have GW209 := n2_; have GE209 := n3_; clear n0_ n1_ n2_ n3_; clear hb hbox hg; have hcz4_0 : w3.cell? ⟨gb209, 0, none⟩ = some (.slice A0_0 l0_0.length c0_0) := (blk_cell BK209.out 0).trans rfl; have hcz4_1 : w3.cell? ⟨gb209, 1, none⟩ = some (.int .i64 a0_1) := (blk_cell BK209.out 1).trans rfl; have hcz4_2 : w3.cell? ⟨gb209, 2, none⟩ = some (.int .i64 a0_2) := (blk_cell BK209.out 2).trans rfl; have hfz4_0 := blk_frozen BK209.out 0; have hfz4_1 := blk_frozen BK209.out 1; have hfz4_2 := blk_frozen BK209.out 2) | ((with_reducible refine gate_callee (f := 47) rfl ?_); refine goesL_ (some 7) rfl rfl Try.func47 (by kernel_rfl) rfl #[.agg #[.slice A0_0 l0_0.length c0_0, .int .i64 a0_1, .int .i64 a0_2]] rfl (by (try simp only [List.map_toArray, List.map_cons, List.map_nil]); first | done | rfl | (simp only [List.length_drop, List.length_take]; rfl)) ?_; (with_reducible refine (icehouseref09_Points.calls k _ _ l0_0 a0_1 a0_2 t210 _ ?side1 ?side2 A2.out).mono ?_); (case side1 => repeat (first | exact (Kd.C_below HR0_0.out HB.out) | (with_reducible refine Kd.C_alloc ?_ _) | (with_reducible refine Kd.C_drewN ?_ _) | (with_reducible refine Kd.C_drew ?_))); (case side2 => exact HC0_0.out); rintro e w5 ⟨v211, rfl, ho0, hb⟩; refine ⟨_, rfl, ?_⟩; have n0_ := Aside0.mk (Kd.R_lower ho0 (below_size (by repeat (first | (with_reducible first | exact HB.out | apply below_alloc | apply pw_below_drewN | apply below_drew1 | refine below_set ?_ GE209.out) | exact HB.out)))); have n1_ := Aside0.mk (blk_below (g := gb209) (o := .cells #[.slice A0_0 l0_0.length c0_0, .int .i64 a0_1, .int .i64 a0_2] 42 (0, 0)) (by (with_reducible repeat (first | refine blk_drewN ?_ _ | refine blk_drew ?_ | refine blk_alloc ?_ _)); exact BK209.out) hb); have n2_ := Aside0.mk (below_step (by repeat (first | (with_reducible first | exact HB.out | apply below_alloc | apply pw_below_drewN | apply below_drew1 | refine below_set ?_ GE209.out) | exact HB.out)) hb); clear BK209; clear HB; have HO212 := n0_; have BK209 := n1_; have HB := n2_; clear n0_ n1_ n2_; (try clear hb); (try clear hb2); (try clear hk); (try clear hi); (try clear ho0)))
  go_loopg [4, 5] k (fun kq v4 v5 w' => ∃ (x4_1 : List (List Int)) (x5_1 : Int), v5 = .int .i64 x5_1 ∧ Aside0 (icehouseref09_Lists.l0 kq t210 x4_1 x5_1 l0_0 a0_1 a0_2 = some r) ∧ Aside0 (kq ≤ k) ∧ Aside0 (Kd.R k70 70 w' w.heap.size (fun _ => True) v211 t210) ∧ Aside0 (Kd.S (Kd.slice 3 (Kd.int .i64)) 22 w' w.heap.size (fun _ => True) v4 x4_1) ∧ Aside0 (w'.heap[gb209]? = some (.cells #[(.slice A0_0 l0_0.length c0_0), .int .i64 a0_1, .int .i64 a0_2] 42 (0, 0))) ∧ Aside0 (Below w.heap.size w w'))
  case atStart => exact ⟨(([] : List (List Int))), (0), (by first | rfl | (simp; done) | (simp [*]; done)), H', ⟨Nat.le_refl _⟩, ⟨by (with_reducible repeat (first | apply Kd.R_alloc | apply Kd.R_drewN | apply Kd.R_drew)); exact HO212.out⟩, ⟨by first | exact Kd.S_nil _ _ _ _ _ | exact Kd.N_nil _ _ _ _ _ | exact Kd.V_nil _ _ _ _ _ | exact Kd.Q_nil _ _ _ _ _ | exact Kd.R_nil _ _ _ _ _⟩, ⟨by (with_reducible repeat (first | refine blk_drewN ?_ _ | refine blk_drew ?_ | refine blk_alloc ?_ _)); exact BK209.out⟩, ⟨by repeat (first | (with_reducible first | exact HB.out | apply below_alloc | apply pw_below_drewN | apply below_drew1 | refine below_set ?_ GE209.out) | exact HB.out)⟩⟩
  case round =>
    clear H'
    try clear p2
    try clear c4
    try clear hcz4_0
    try clear hcz4_1
    try clear hcz4_2
    try clear hfz4_0
    try clear hfz4_1
    try clear hfz4_2
    obtain ⟨x4_1, x5_1, rfl, HA, HK1, HO_3, HO_4, BK209, HB⟩ := hrel
    cases gk with
    | zero => exact absurd HA.out (by simp [icehouseref09_Lists.l0])
    | succ k1 =>
      have H := HA.out
      clear HA
      simp only [icehouseref09_Lists.l0] at H
      by_cases c6 : x5_1 < (t210.length : Int)
      · rw [if_pos c6] at H
        have c6b0 : decide (x5_1 < (t210.length : Int)) = true := decide_eq_true c6
        clear c6
        by_cases c7 : 0 ≤ x5_1
        · rw [if_pos c7] at H
          have c7b0 : decide (0 ≤ x5_1) = true := decide_eq_true c7
          clear c7
          replace H := Option.bind_eq_some_iff.mp H
          obtain ⟨t214, A80, H⟩ := H
          replace H : (if x4_1.length < 5864062014805 then (icehouseref09_Lists.l0 k1 t210 (x4_1 ++ [t214]) (wrap64 (x5_1 + 1)) l0_0 a0_1 a0_2) else (none)) = some r := H
          have A8 := Aside0.mk A80
          clear A80
          by_cases c9 : x4_1.length < 5864062014805
          · rw [if_pos c9] at H
            have LMc9 := Aside0.mk c9
            clear c9
            obtain ⟨y217, hy217⟩ : ∃ y_ : List (List Int), y_ = (x4_1 ++ [t214]) := ⟨_, rfl⟩
            replace H : (icehouseref09_Lists.l0 k1 t210 y217 (wrap64 (x5_1 + 1)) l0_0 a0_1 a0_2) = some r := by first | (rw [hy217]; with_reducible exact H) | (have H2_ := (Option.bind_some _ _).symm.trans H; rw [hy217]; with_reducible exact H2_) | (have H2_ := (Option.bind_some _ _).symm.trans H; with_reducible exact H2_) | with_reducible exact H | (rw [hy217]; exact H) | exact H
            have Ny217 := Aside0.mk hy217
            clear hy217
            have H' := Aside0.mk H
            clear H
            obtain ⟨Ao10, co10, eo10⟩ := Kd.R_slice HO_3.out
            subst eo10
            try go_wp2
            have n0_ := Aside0.mk (Kd.R_drew HO_3.out)
            have n1_ := Aside0.mk (Kd.S_drew HO_4.out)
            have n2_ := Aside0.mk (blk_drew BK209.out)
            have n3_ := Aside0.mk (below_drew1 HB.out)
            clear HO_3
            clear HO_4
            clear BK209
            clear HB
            have HO_3 := n0_
            have HO_4 := n1_
            have BK209 := n2_
            have HB := n3_
            clear n0_ n1_ n2_ n3_
            have p213 : 0 ≤ (x5_1 : Int) := of_decide_eq_true (by first | (with_reducible assumption) | assumption)
            have q213 : x5_1 < (t210.length : Int) := of_decide_eq_true (by first | (with_reducible assumption) | assumption)
            obtain ⟨ad213, e213, hx213_0, hx213_1⟩ := at_T70 (Kd.R_reads' HO_3.out).2.2 x5_1 p213 q213
            cases e213
            replace p213 := eq_true p213
            replace q213 := eq_true q213
            refine start_ (n := 11) (S := fun w' => w'.cell? ⟨gb209, 0, none⟩ = some (.slice A0_0 l0_0.length c0_0) ∧ w'.cell? ⟨gb209, 1, none⟩ = some (.int .i64 a0_1) ∧ w'.cell? ⟨gb209, 2, none⟩ = some (.int .i64 a0_2) ∧ w'.cell? (ad213.add ((x5_1).toNat * 2)) = some (.int .u64 ((rd_T70 t210 x5_1).f0)) ∧ w'.cell? ⟨(ad213.add ((x5_1).toNat * 2)).block, (ad213.add ((x5_1).toNat * 2)).off + 1, none⟩ = some (.int .i64 ((rd_T70 t210 x5_1).f1))) (ds := [8, 9]) #[false, false, false, false, false, false, false, false, false, false, false] (by kernel_rfl) rfl rfl ⟨(blk_cell BK209.out 0).trans rfl, (blk_cell BK209.out 1).trans rfl, (blk_cell BK209.out 2).trans rfl, hx213_0, hx213_1⟩ (fun hHeld => ?_); refine with_tabW icehouseref09_Lists.tab6 icehouseref09_Lists.bits6 (fun HT_ HW_ => ?_)
            generalize wr.drew = w11 at HO_3 HO_4 BK209 HB hx213_0 hx213_1 hHeld ⊢
            refine pure_ (i := 0) (N := some 14) (v := ?_) (a' := ?_) #[true, false, false, false, false, false, false, false, false, false, false] rfl rfl (any_of HT_.out (by kernel_rfl)) (fun _ _ _ h => h) (Or.inl ⟨by rfl, ?_⟩) ?_ ?_
            rotate_left
            · intro w'
              go_simp
              with_reducible rfl
            rotate_left
            · simp only [Act.put, List.setIfInBounds_toArray, List.set_cons_zero, List.set_cons_succ, i64_w, i32_w]
              rfl
            refine pure_ (i := 2) (N := some 16) (v := ?_) (a' := ?_) #[true, false, true, false, false, false, false, false, false, false, false] rfl rfl (any_of HT_.out (by kernel_rfl)) (fun _ _ _ h => h) (Or.inl ⟨by rfl, ?_⟩) ?_ ?_
            rotate_left
            · intro w'
              go_simp
              with_reducible rfl
            rotate_left
            · simp only [Act.put, List.setIfInBounds_toArray, List.set_cons_zero, List.set_cons_succ, i64_w, i32_w]
              rfl
            refine pure_ (i := 3) (N := some 17) (v := ?_) (a' := ?_) #[true, false, true, true, false, false, false, false, false, false, false] rfl rfl (any_of HT_.out (by kernel_rfl)) (fun _ _ _ h => h) (Or.inl ⟨by rfl, ?_⟩) ?_ ?_
            rotate_left
            · intro w'
              go_simp
              with_reducible rfl
            rotate_left
            · simp only [Act.put, List.setIfInBounds_toArray, List.set_cons_zero, List.set_cons_succ, i64_w, i32_w]
              rfl
            refine pure_ (i := 4) (N := some 18) (v := ?_) (a' := ?_) #[true, false, true, true, true, false, false, false, false, false, false] rfl rfl (any_of HT_.out (by kernel_rfl)) (fun _ _ _ h => h) (Or.inl ⟨by rfl, ?_⟩) ?_ ?_
            rotate_left
            · intro w'
              go_simp
              with_reducible rfl
            rotate_left
            · simp only [Act.put, List.setIfInBounds_toArray, List.set_cons_zero, List.set_cons_succ, i64_w, i32_w]
              rfl
            refine pure_ (i := 5) (N := some 19) (v := ?_) (a' := ?_) #[true, false, true, true, true, true, false, false, false, false, false] rfl rfl (any_of HT_.out (by kernel_rfl)) (fun _ _ _ h => h) (Or.inl ⟨by rfl, ?_⟩) ?_ ?_
            rotate_left
            · intro w'
              go_simp
              with_reducible rfl
            rotate_left
            · simp only [Act.put, List.setIfInBounds_toArray, List.set_cons_zero, List.set_cons_succ, i64_w, i32_w]
              rfl
            refine take_ (i := 1) (N := some 15) (v := ?_) (a' := ?_) #[true, true, true, true, true, true, false, false, false, false, false] rfl rfl (take_ofW HT_.out HW_.out (by kernel_rfl)) (fun _ _ _ h => h) (Or.inl ⟨by rfl, ?_⟩) hHeld ?_ ?_
            rotate_left
            · rintro w' ⟨s0, s1, s2, s3, s4⟩
              go_simp
              with_reducible rfl
            rotate_left
            · simp only [Act.put, List.setIfInBounds_toArray, List.set_cons_zero, List.set_cons_succ, i64_w, i32_w]
              rfl
            refine take_ (i := 6) (N := some 20) (v := ?_) (a' := ?_) #[true, true, true, true, true, true, true, false, false, false, false] rfl rfl (take_ofW HT_.out HW_.out (by kernel_rfl)) (fun _ _ _ h => h) (Or.inl ⟨by rfl, ?_⟩) hHeld ?_ ?_
            rotate_left
            · rintro w' ⟨s0, s1, s2, s3, s4⟩
              go_simp
              with_reducible rfl
            rotate_left
            · simp only [Act.put, List.setIfInBounds_toArray, List.set_cons_zero, List.set_cons_succ, i64_w, i32_w]
              rfl
            refine one_ (i := 7) (N := some 21) #[true, true, true, true, true, true, true, true, false, false, false] rfl rfl (one_of HT_.out (by kernel_rfl)) (by decide) (fun K hK => ?_)
            refine goes_ Try.func48 (by kernel_rfl) rfl #[.agg #[.slice A0_0 l0_0.length c0_0, .int .i64 a0_1, .int .i64 a0_2], .int .u64 ((rd_T70 t210 x5_1).f0)] (by rfl) rfl rfl (by (try simp only [List.map_toArray, List.map_cons, List.map_nil]); first | done | rfl | (simp only [List.length_drop, List.length_take]; rfl)) ?_
            with_reducible refine (icehouseref09_At.calls k1 _ _ l0_0 a0_1 a0_2 ((rd_T70 t210 x5_1).f0) t214 _ ?side1 ?side2 A8.out).mono ?_
            (case side1 => repeat (first | exact (Kd.C_below HR0_0.out HB.out) | (with_reducible refine Kd.C_alloc ?_ _) | (with_reducible refine Kd.C_drewN ?_ _) | (with_reducible refine Kd.C_drew ?_)))
            (case side2 => exact HC0_0.out)
            rintro e w12 ⟨v215, rfl, ho0, hb⟩
            have HS3_ := (hb.cell (World.block_lt_of_cell? _ _ (hHeld.2.2.2.1))).trans (hHeld.2.2.2.1)
            have HS4_ := (hb.cell (World.block_lt_of_cell? _ _ (hHeld.2.2.2.2))).trans (hHeld.2.2.2.2)
            refine ⟨_, rfl, ?_⟩
            have n0_ := Aside0.mk (Kd.R_below (by (with_reducible repeat (first | apply Kd.R_alloc | apply Kd.R_drewN | apply Kd.R_drew)); exact HO_3.out) hb)
            have n1_ := Aside0.mk (Kd.S_elder' (by (with_reducible repeat (first | apply Kd.S_alloc | apply Kd.S_drewN | apply Kd.S_drew)); exact HO_4.out) (Kd.R_base ho0) hb)
            have n2_ := Aside0.mk (Kd.R_lower ho0 (below_size (by repeat (first | (with_reducible first | exact HB.out | apply below_alloc | apply pw_below_drewN | apply below_drew1 | refine below_set ?_ GE209.out) | exact HB.out))))
            have n3_ := Aside0.mk (blk_below (g := gb209) (o := .cells #[.slice A0_0 l0_0.length c0_0, .int .i64 a0_1, .int .i64 a0_2] 42 (0, 0)) (by (with_reducible repeat (first | refine blk_drewN ?_ _ | refine blk_drew ?_ | refine blk_alloc ?_ _)); exact BK209.out) hb)
            have n4_ := Aside0.mk (below_step (by repeat (first | (with_reducible first | exact HB.out | apply below_alloc | apply pw_below_drewN | apply below_drew1 | refine below_set ?_ GE209.out) | exact HB.out)) hb)
            clear HO_3
            clear HO_4
            clear BK209
            clear HB
            have HO_3 := n0_
            have HO_4 := n1_
            have HO216 := n2_
            have BK209 := n3_
            have HB := n4_
            clear n0_ n1_ n2_ n3_ n4_
            (try clear hb)
            (try clear hb2)
            (try clear hk)
            (try clear hi)
            (try clear ho0)
            obtain ⟨Ao14, co14, eo14⟩ := Kd.R_slice HO216.out
            (first | subst eo14 | (injection eo14 with f1_ f2_ f3_; have f4_ := f1_.symm; have f5_ := f3_.symm; clear f1_ f2_ f3_; subst f4_; subst f5_))
            refine hK.out _ _ ⟨(blk_cell BK209.out 0).trans rfl, (blk_cell BK209.out 1).trans rfl, (blk_cell BK209.out 2).trans rfl, HS3_, HS4_⟩ (fun hHeld => ?_)
            clear hK K
            refine norm_ (a' := ?_) ?_ ?_
            rotate_left
            · show Act.put _ (some 21) _ = _
              simp only [Act.put, List.setIfInBounds_toArray, List.set_cons_zero, List.set_cons_succ, i64_w, i32_w]
              rfl
            refine last_ (i := 8) (N := some 22) #[true, true, true, true, true, true, true, true, true, false, false] rfl rfl (one_of HT_.out (by kernel_rfl)) (by decide) (fun K hK => ?_)
            refine value_ (w1 := ?_) (v := ?_) (by rfl) rfl ?_ ?_
            rotate_left 2
            · go_simp
              constructor
              · rfl
              · rfl
            refine hK.out _ _ ?_
            clear hK K
            refine norm_ (a' := ?_) ?_ ?_
            rotate_left
            · show Act.put _ (some 22) _ = _
              simp only [Act.put, List.setIfInBounds_toArray, List.set_cons_zero, List.set_cons_succ, i64_w, i32_w]
              rfl
            refine last_ (i := 9) (N := some 23) #[true, true, true, true, true, true, true, true, true, true, false] rfl rfl (one_of HT_.out (by kernel_rfl)) (by decide) (fun K hK => ?_)
            refine Kd.S_append_step (Kd.slice 3 (Kd.int .i64)) (w0 := w) w.heap.size (by rfl) (.tmp 14) (.tmp 22) 58 22 (.slice none 0 0) 24 rfl Try.underlying58 info22 rfl (by decide) (by omega) u4 x4_1 t214 [.slice Ao14 t214.length co14] (fun _ => True) (fun k_ => some k_ = (.slice Ao14 t214.length co14 : Value).ownBlock) rfl rfl ?aP (fun k_ hk_ => ((Kd.R_mono (ok' := fun k_ => ((fun _ => True)) k_ ∧ some k_ ≠ (u4 : Value).ownBlock) (Kd.R_apart' (HO216.out) (Kd.S_typed HO_4.out) (by decide)) (fun k_ hk => ⟨trivial, hk.2⟩))).1 k_ hk_.symm) ?aF ?aO ?aB ?aS ?aL ?_
            (case aP => exact Kd.M_row (Kd.R_mono (Kd.R_tight rfl (Kd.R_mono (ok' := fun k_ => ((fun _ => True)) k_ ∧ some k_ ≠ (u4 : Value).ownBlock) (Kd.R_apart' (HO216.out) (Kd.S_typed HO_4.out) (by decide)) (fun k_ hk => ⟨trivial, hk.2⟩))) (fun _ h_ => h_)))
            (case aB => exact (by repeat (first | (with_reducible first | exact HB.out | apply below_alloc | apply pw_below_drewN | apply below_drew1 | refine below_set ?_ GE209.out) | exact HB.out)))
            (case aF => exact (fun _ _ => trivial))
            (case aO => exact (by (with_reducible repeat (first | apply Kd.S_alloc | apply Kd.S_drewN | apply Kd.S_drew)); exact Kd.S_mono HO_4.out (fun k_ hk => ⟨trivial, fun e_ => hk.2 e_⟩)))
            (case aS => exact (below_size (by repeat (first | (with_reducible first | exact HB.out | apply below_alloc | apply pw_below_drewN | apply below_drew1 | refine below_set ?_ GE209.out) | exact HB.out))))
            (case aL => have := LMc9.out; omega)
            intro v218 w13 ho hb hg hat
            rw [← Ny217.out] at ho
            have n0_ := Aside0.mk (Kd.R_over' (by (with_reducible repeat (first | apply Kd.R_alloc | apply Kd.R_drewN | apply Kd.R_drew)); exact HO_3.out) (Kd.S_typed (by (with_reducible repeat (first | apply Kd.S_alloc | apply Kd.S_drewN | apply Kd.S_drew)); exact HO_4.out)) (by decide) hg)
            have n1_ := Aside0.mk (blk_grown (g := gb209) (o := .cells #[.slice A0_0 l0_0.length c0_0, .int .i64 a0_1, .int .i64 a0_2] 42 (0, 0)) (by (with_reducible repeat (first | refine blk_drewN ?_ _ | refine blk_drew ?_ | refine blk_alloc ?_ _)); exact BK209.out) hg (Kd.S_ne HO_4.out BK209.out (by decide)))
            have n2_ := Aside0.mk (hb)
            have n3_ := Aside0.mk (ho)
            clear HO_3
            clear BK209
            clear HB
            clear HO_4
            clear HO216
            have HO_3 := n0_
            have BK209 := n1_
            have HB := n2_
            have HO219 := n3_
            clear n0_ n1_ n2_ n3_
            clear ho hb hg hat
            refine hK.out _ _ ?_
            clear hK K
            refine norm_ (a' := ?_) ?_ ?_
            rotate_left
            · show Act.put _ (some 23) _ = _
              simp only [Act.put, List.setIfInBounds_toArray, List.set_cons_zero, List.set_cons_succ, i64_w, i32_w]
              rfl
            refine pure_ (i := 10) (N := some 4) (v := ?_) (a' := ?_) #[true, true, true, true, true, true, true, true, true, true, true] rfl rfl (any_of HT_.out (by kernel_rfl)) (fun _ _ _ h => h) (Or.inl ⟨by rfl, ?_⟩) ?_ ?_
            rotate_left
            · intro w'
              go_simp
              with_reducible rfl
            rotate_left
            · simp only [Act.put, List.setIfInBounds_toArray, List.set_cons_zero, List.set_cons_succ, i64_w, i32_w]
              rfl
            refine done_ (done_of HT_.out (by kernel_rfl)) ?_
            try go_wp2
            go_roundg k1
            case measure => have := HK1.out; omega
            case rel => exact ⟨(y217), (wrap64 (x5_1 + 1)), (by first | rfl | (simp; done) | (simp [*]; done)), H', ⟨by have := HK1.out; omega⟩, ⟨by (with_reducible repeat (first | apply Kd.R_alloc | apply Kd.R_drewN | apply Kd.R_drew)); exact HO_3.out⟩, ⟨by (with_reducible repeat (first | apply Kd.S_alloc | apply Kd.S_drewN | apply Kd.S_drew)); exact HO219.out⟩, ⟨by (with_reducible repeat (first | refine blk_drewN ?_ _ | refine blk_drew ?_ | refine blk_alloc ?_ _)); exact BK209.out⟩, ⟨by repeat (first | (with_reducible first | exact HB.out | apply below_alloc | apply pw_below_drewN | apply below_drew1 | refine below_set ?_ GE209.out) | exact HB.out)⟩⟩
          · rw [if_neg c9] at H
            exact absurd H (by simp)
        · rw [if_neg c7] at H
          exact absurd H (by simp)
      · rw [if_neg c6] at H
        have c6b0 : decide (x5_1 < (t210.length : Int)) = false := decide_eq_false c6
        clear c6
        obtain rfl := Option.some.inj H
        obtain ⟨Ao15, co15, eo15⟩ := Kd.R_slice HO_3.out
        subst eo15
        go_wp2
        go_ret
        exact ⟨_, by first | rfl | (simp [errW_none, errW_some] <;> rfl) | (simp [*, errW_none, errW_some] <;> rfl), by (with_reducible repeat (first | apply Kd.S_alloc | apply Kd.S_drewN | apply Kd.S_drew)); exact HO_4.out, by repeat (first | (with_reducible first | exact HB.out | apply below_alloc | apply pw_below_drewN | apply below_drew1 | refine below_set ?_ GE209.out) | exact HB.out)⟩
end Go.Proofs.Yteocngcojijnkaa.QH
namespace Go.Proofs.Yteocngcojijnkaa.QH
open Go.RowKit Go.Proofs.YteocngcojijnkaaW.PrintWords Go.Proofs.YteocngcojijnkaaW.PrintLast Go.Proofs.YteocngcojijnkaaW.PrintMore
attribute [local go_sem] max2_int min2_int max_two min_two max_three min_three max_four min_four   -- for this text's walks alone
set_option linter.unusedVariables false
set_option linter.unusedSimpArgs false
end Go.Proofs.Yteocngcojijnkaa.QH
namespace Go.Proofs.Yteocngcojijnkaa.Hlp
open Go.RowKit Go.Proofs.YteocngcojijnkaaW.PrintWords Go.Proofs.YteocngcojijnkaaW.PrintLast Go.Proofs.YteocngcojijnkaaW.PrintMore
theorem C_at {α : Type} {enc : α → Value} {h1 : ∀ x, (enc x).oneCell' = true} {w : World} {A : Option Addr} {xs : List α} (h : (Kd.scalar enc h1).C w A xs.length xs) (k : Nat) (hk : k < xs.length) :
    ∃ ad, A = some ad ∧ w.cell? (ad.add k) = some (enc xs[k]) := by
  obtain ⟨ad, e, hc⟩ := h.2.2 (by omega)
  obtain ⟨c, hs, hr, hcell⟩ := hc k _ (List.getElem?_eq_getElem hk)
  obtain rfl : c = [enc xs[k]] := hr
  have := hcell 0 _ rfl
  rw [show (Kd.scalar enc h1).sz = 1 from rfl, Nat.mul_one, Nat.add_zero] at this
  exact ⟨ad, e, this⟩
/-- a row that is read, by its block -/
theorem C_block {α : Type} {enc : α → Value} {h1 : ∀ x, (enc x).oneCell' = true} {w : World} {A : Option Addr} {xs : List α} (h : (Kd.scalar enc h1).C w A xs.length xs) (h0 : 0 < xs.length) :
    ∃ b off, A = some ⟨b, off, none⟩ ∧ ∀ (k : Nat) (hk : k < xs.length), w.cell? ⟨b, off + k, none⟩ = some (enc xs[k]) := by
  obtain ⟨ad, rfl, hc⟩ := C_at h 0 h0
  obtain ⟨b, off, sp⟩ := ad
  cases sp with
  | some x => simp [World.cell?, Addr.add] at hc; split at hc <;> simp at hc
  | none =>
    refine ⟨b, off, rfl, fun k hk => ?_⟩
    obtain ⟨ad, he, hc⟩ := C_at h k hk
    injection he with he
    subst he
    rw [← hc]
    unfold Addr.add
    split <;> simp_all
theorem C_mk {α : Type} {enc : α → Value} {h1 : ∀ x, (enc x).oneCell' = true} {w : World} {b off : Nat} {xs : List α} (hm : xs.length ≤ 9223372036854775807) (h : ∀ (k : Nat) (hk : k < xs.length), w.cell? ⟨b, off + k, none⟩ = some (enc xs[k])) :
    (Kd.scalar enc h1).C w (some ⟨b, off, none⟩) xs.length xs := by
  refine ⟨rfl, hm, fun _ => ⟨_, rfl, fun j p hj => ?_⟩⟩
  obtain ⟨hlt, hp⟩ := List.getElem?_eq_some_iff.1 hj
  subst hp
  refine ⟨[enc xs[j]], rfl, rfl, fun i u hu => ?_⟩
  have hi : i = 0 := by
    have := (List.getElem?_eq_some_iff.1 hu).1
    simp at this; exact this
  subst hi
  simp at hu
  subst hu
  rw [show (Kd.scalar enc h1).sz = 1 from rfl, Nat.mul_one, Nat.add_zero, ← h j hlt]
  unfold Addr.add
  split <;> simp_all
theorem C_empty {α : Type} {enc : α → Value} {h1 : ∀ x, (enc x).oneCell' = true} {w : World} {A : Option Addr} : (Kd.scalar enc h1).C w A ([] : List α).length [] := ⟨rfl, by simp, fun h => absurd h (Nat.lt_irrefl 0)⟩
/-- the rest of a row -/
theorem C_drop {α : Type} {enc : α → Value} {h1 : ∀ x, (enc x).oneCell' = true} {w : World} {b off : Nat} {xs : List α} (h : (Kd.scalar enc h1).C w (some ⟨b, off, none⟩) xs.length xs) (k : Nat) (hk : k ≤ xs.length) :
    (Kd.scalar enc h1).C w (some ⟨b, off + k, none⟩) (xs.drop k).length (xs.drop k) := by
  rcases Nat.eq_zero_or_pos (xs.drop k).length with h0 | h0
  · rw [List.length_eq_zero_iff.1 h0]; exact C_empty
  · obtain ⟨b', off', he, hc⟩ := C_block h (by rw [List.length_drop] at h0; omega)
    injection he with he
    injection he with e1 e2 _
    subst e1; subst e2
    refine C_mk (by have := h.2.1; rw [List.length_drop]; omega) fun j hj => ?_
    rw [List.length_drop] at hj
    rw [Nat.add_assoc, hc (k + j) (by omega), List.getElem_drop]
/-- a block that was just made is a row -/
theorem C_blk {α : Type} {enc : α → Value} {h1 : ∀ x, (enc x).oneCell' = true} {w : World} {g : Nat} {e : TypeId} {fr : Nat × Nat} {xs : List α} {cs : Array Value} (hm : xs.length ≤ 9223372036854775807) (h : w.heap[g]? = some (.cells cs e fr)) (hcs : cs.toList = xs.map enc) :
    (Kd.scalar enc h1).C w (some ⟨g, 0, none⟩) xs.length xs := by
  refine C_mk hm fun k hk => ?_
  rw [Nat.zero_add, cell_of_row w g k cs e fr h, ← Array.getElem?_toList, hcs]
  simp [hk]
end Go.Proofs.Yteocngcojijnkaa.Hlp
namespace Go.Proofs.Yteocngcojijnkaa.Hs
open Go.ChangeShapes Go.WideShapes Go.ChangeAt Go.RowKit Go.Proofs.Yteocngcojijnkaa.QH
open Go.Proofs.YteocngcojijnkaaW.PrintWords Go.Proofs.YteocngcojijnkaaW.PrintLast Go.Proofs.YteocngcojijnkaaW.PrintMore
set_option linter.unusedVariables false
set_option linter.unusedSimpArgs false
def stepH (h c : Int) : Int := IntKind.u64.wrap ((Go.bits .xor .u64 h (IntKind.u64.wrap c)) * 1099511628211)
def sumRow (h : Int) (l : List Int) : Int := l.foldl stepH h
def sumFrom (h : Int) (l : List (List Int)) : Int := l.foldl sumRow h
def begH : Int := 14695981039346656037
def sumH (l : List (List Int)) : Int := sumFrom begH l
theorem drawn_trans {w w1 w2 : World} (h : Drawn0 w w1) (k : Drawn0 w1 w2) : Drawn0 w w2 := by
  obtain ⟨n, rfl⟩ := k
  exact h.step n
theorem C_row {w : World} {A : Option Addr} {l : List (List Int)} (h : Kd.C (Kd.slice 5 (Kd.int .u8)) w A l.length l) (k : Nat) (hk : k < l.length) :
    ∃ ad A0 c0, A = some ad ∧ w.cell? (ad.add k) = some (.slice A0 l[k].length c0) ∧ l[k].length ≤ c0 ∧ (Kd.int .u8).C w A0 l[k].length l[k] := by
  obtain ⟨ad, c, e, _, hK, hc0⟩ := Kd.C_get h ([] : List Int) (k : Int) (by omega) (by omega)
  have hg : l.getD (k : Int).toNat [] = l[k] := by rw [show (k : Int).toNat = k from rfl]; simp [hk]
  rw [hg] at hK
  obtain ⟨A0, c0, rfl, l0, g0⟩ := hK
  have hq := hc0 0 _ rfl
  rw [show (Kd.slice 5 (Kd.int .u8)).sz = 1 from rfl, Nat.mul_one, Nat.add_zero] at hq
  exact ⟨ad, A0, c0, e, hq, l0, g0⟩
/-- what is stirred -/
def stirH (h : Int) : Int := (hash_Stir.f h).getD 0
theorem stir_f (h : Int) : hash_Stir.f h = some (stirH h) := rfl
def hash_Sum.f (l : List (List Int)) : Option Int := some (sumH l)
set_option maxHeartbeats 4000000 in
set_option maxRecDepth 100000 in
theorem hash_Sum.calls (A : Option Addr) (c : Nat) (l : List (List Int)) (r : Int) (w : World) (hr : Kd.C (Kd.slice 5 (Kd.int .u8)) w A l.length l) (hc : l.length ≤ c) (hf : hash_Sum.f l = some r) :
    Calls Try.prog 62 #[.slice A l.length c] w fun e w' => e = .returned (.int .u64 r) ∧ Drawn0 w w' := by
  obtain rfl := Option.some.inj hf
  have HR := Aside0.mk hr
  have hm := hr.2.1
  clear hr hf
  obtain ⟨h0, hh0⟩ : ∃ h0, h0 = begH := ⟨_, rfl⟩
  have HH0 := Aside0.mk hh0
  go_enter Try.func62, Try.ntmps62
  go_wp2
  go_step3
  go_wp2
  go_step3
  go_wp2
  go_loopg [3, 10] l.length (fun q vh vi w' => ∃ (h : Int) (k : Nat), vh = .int .u64 h ∧ vi = .int .i64 k ∧ k ≤ l.length ∧ q = l.length - k ∧ Aside0 (sumH l = sumFrom h (l.drop k)) ∧ Aside0 (Drawn0 w w'))
  case atStart => exact ⟨begH, 0, rfl, rfl, Nat.zero_le _, rfl, ⟨rfl⟩, ⟨Drawn0.refl w⟩⟩
  case round =>
    obtain ⟨h, k, rfl, rfl, hk, rfl, HS, HD⟩ := hrel
    by_cases hlt : k < l.length
    · obtain ⟨ad, A0, c0, hA, hcell, hc0, hrow⟩ := C_row HR.out k hlt
      subst hA
      have t1 : decide ((k : Int) < (l.length : Int)) = true := decide_eq_true (by omega)
      obtain ⟨row, hrw⟩ : ∃ row, l[k] = row := ⟨_, rfl⟩
      rw [hrw] at hcell hc0 hrow
      have HN : Aside0 (sumH l = sumFrom (sumRow h row) (l.drop (k + 1))) := ⟨by rw [HS.out, List.drop_eq_getElem_cons hlt, hrw]; rfl⟩
      have HRow := Aside0.mk hrow
      have hcell := pw_cell_below HD.out.below hcell
      have hmr := hrow.2.1
      clear hrw hrow
      by_cases he : row.length = 0
      · obtain rfl := List.length_eq_zero_iff.1 he
        clear he hk
        go_wp2_with fail
        go_roundg (l.length - (k + 1))
        case measure => omega
        case rel => exact ⟨h, k + 1, rfl, by go_num, by omega, rfl, HN, HD⟩
      · have t2 : ((row.length : Int) == 0) = false := beq_eq_false_iff_ne.2 (by omega)
        clear he hk
        go_wp2_with fail
        go_loopg [3, 19] row.length (fun q vh vi w' => ∃ (h' : Int) (j : Nat), vh = .int .u64 h' ∧ vi = .int .i64 j ∧ j ≤ row.length ∧ q = row.length - j ∧ Aside0 (sumRow h row = sumRow h' (row.drop j)) ∧ Aside0 (Drawn0 w w'))
        case atStart => exact ⟨h, 0, rfl, rfl, Nat.zero_le _, rfl, ⟨rfl⟩, HD⟩
        case round =>
          obtain ⟨h', j, rfl, rfl, hj, rfl, HS', HD'⟩ := hrel
          clear hcell
          by_cases hjl : j < row.length
          · obtain ⟨b, off, hA0, hcl⟩ := Hlp.C_block HRow.out (by omega)
            have hc1 := pw_cell_below HD'.out.below (hcl j hjl)
            subst hA0
            obtain ⟨x, hx⟩ : ∃ x, row[j] = x := ⟨_, rfl⟩
            rw [hx] at hc1
            have HN' : Aside0 (sumRow h row = sumRow (stepH h' x) (row.drop (j + 1))) := ⟨by rw [HS'.out, List.drop_eq_getElem_cons hjl, hx]; rfl⟩
            have t3 : decide ((j : Int) < (row.length : Int)) = true := decide_eq_true (by omega)
            clear hx hcl
            go_wp2_with fail
            (with_reducible refine (hash_Step.calls h' x (stepH h' x) _ rfl).mono ?_)
            rintro e w2 ⟨rfl, hd⟩
            have HD2 := Aside0.mk (drawn_trans HD'.out hd)
            clear hd
            go_wp2_with fail
            go_roundg (row.length - (j + 1))
            case measure => omega
            case rel => exact ⟨stepH h' x, j + 1, rfl, by go_num, hjl, rfl, HN', HD2⟩
          · obtain rfl : j = row.length := by omega
            have t3 : decide ((row.length : Int) < (row.length : Int)) = false := decide_eq_false (by omega)
            rw [List.drop_length] at HS'
            have HH : Aside0 (h' = sumRow h row) := ⟨HS'.out.symm⟩
            go_wp2_with fail
            go_roundg (l.length - (k + 1))
            case measure => omega
            case rel => exact ⟨h', k + 1, rfl, by go_num, by omega, rfl, ⟨by rw [HH.out]; exact HN.out⟩, HD'⟩
    · obtain rfl : k = l.length := by omega
      have t1 : decide ((l.length : Int) < (l.length : Int)) = false := decide_eq_false (by omega)
      rw [List.drop_length] at HS
      have HH : Aside0 (sumH l = h) := ⟨HS.out⟩
      go_wp2_with fail
      rw [Exit.noGoto_ret]
      go_ret
      exact ⟨by rw [HH.out]; rfl, HD.out⟩
end Go.Proofs.Yteocngcojijnkaa.Hs
