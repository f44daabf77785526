/- Written by a program of this session over the kit's print: functions and their contracts. · Written by a program of this session over the kit's print: functions and their contracts. · Written by a program of this session over the kit's print: functions and their contracts. · Written by a program of this session over the kit's print: functions and their contracts. · Written by a program of this session over the kit's print: functions and their contracts. · Written by a program of this session over the kit's print: functions and their contracts. · Written by a program of this session over the kit's print: functions and their contracts. · Written by a program of this session over the kit's print: functions and their contracts. · Helpers on rows that are read: an element's cell, the row's block, a row out of its cells. Conditions: none. · The contract of hash.Sum, of rows of bytes. Conditions: rows that are read. · The contract of ring.first: the library's binary search over the points. Conditions: points that are read; not none. · The contract of ring.compare as the library's sort asks for it. Conditions: none. · The library's sort laid over this program: slices.SortFunc at points. Conditions: none. · Points in a block of one's own, and the library's sort of them. Conditions: fewer than 2^62 points. · The library's Compact of points in a block of one's own. Conditions: none. · Written by a program of this session over the kit's print: functions and their contracts. · Written by a program of this session over the kit's print: functions and their contracts. · Written by a program of this session over the kit's print: functions and their contracts. · How tags stand, plain: by their numbers, one behind the other. And what holds from some count of rounds on. · Whether a ring may be, plain: both checks; the points' words. Conditions: none. · The contract of ring.Points. Conditions: none beyond memory. -/
import Derived.Test.YteocngcojijnkaaProg
import Derived.Below
import Derived.Deep.Draws
import Derived.Deep.AppendLies
import Derived.Maps.AppendAt
import Derived.OwnWalk
import Derived.Laws.BytesArg
import Derived.Laws.MakeOwn
import Derived.Laws.OwnMore
import Derived.Deep.OwnRows
import Derived.Tactics
import Derived.Lib.ConvBytes
import Derived.Laws.Slices
import Derived.WalkKit
import Derived.KernelRfl
import Derived.RowKit3
import Derived.Deep.LoopGhost
import Derived.Deep.QuietTactic
import Derived.BigQuiet
import Derived.WideLaws
import Derived.Deep.DeepCutAuto
import Derived.Deep.CutBlock
import Derived.Deep.RegionHeld3
import Derived.Laws.Rows
import Derived.Lib.AppendStr
import Derived.ArgAppend
import Derived.Laws.IdiomCopy
import Derived.OrdersHeld
import Derived.Laws.BitsLemmas
import Derived.RowKit
import Derived.Test.YteocngcojijnkaaYQuorumOne0
import Derived.Test.YteocngcojijnkaaRows
import Derived.ProofKit
import Derived.OpenShut
import Derived.WalkLawsBesides
import Derived.Lib.Hide
import Derived.WalkMore
import Derived.Shelf.SlSortCmp.NoneTotal
import Derived.Deep.DrawnRows
import Derived.Lib.SliceRun

namespace Go.Proofs.Yteocngcojijnkaa.QH
open Go.RowKit Go.Proofs.YteocngcojijnkaaW.PrintWords Go.Proofs.YteocngcojijnkaaW.PrintLast Go.Proofs.YteocngcojijnkaaW.PrintMore
attribute [local go_sem] max2_int min2_int max_two min_two max_three min_three max_four min_four   -- for this text's walks alone
set_option linter.unusedVariables false
set_option linter.unusedSimpArgs false
def errW : Option Int → Value
  | none => .nilIface
  | some c => .iface 0 (.int .i64 c)
theorem errW_none : errW none = .nilIface := rfl
theorem errW_some (c : Int) : errW (some c) = .iface 0 (.int .i64 c) := rfl
theorem info3 : (Try.prog.info? 3).map (fun i => (i.zero, i.size, i.bytes)) = some (some (.int .i64 0), 1, 8) := by kernel_rfl
theorem info5 : (Try.prog.info? 5).map (fun i => (i.zero, i.size, i.bytes)) = some (some (.int .u8 0), 1, 1) := by kernel_rfl
theorem info22 : (Try.prog.info? 22).map (fun i => (i.zero, i.size, i.bytes)) = some (some (.slice none 0 0), 1, 24) := by kernel_rfl
theorem info70 : (Try.prog.info? 70).map (fun i => (i.zero, i.size, i.bytes)) = some (some (.agg #[(.int .u64 0), (.int .i64 0)]), 2, 16) := by kernel_rfl
-- the values' own types
/-! #### struct type 70 -/
structure S70 where
  f0 : Int
  f1 : Int
def z70 : S70 := ⟨(0 : Int), (0 : Int)⟩
def k70 : Kd S70 := Kd.iso (Kd.pair (Kd.int .u64) (Kd.int .i64)) (fun x : S70 => (x.f0, x.f1))
theorem k70_open {w : World} {x : S70} {cs : List Value} (h : k70.K w x cs) : cs = [.int .u64 x.f0, .int .i64 x.f1] := by
  obtain ⟨_, _, rfl, rfl, rfl⟩ := h
  exact rfl
theorem k70_openM {w : World} {base : Nat} {ok : Nat → Prop} {x : S70} {cs : List Value} (h : k70.M w base ok x cs) : cs = [.int .u64 x.f0, .int .i64 x.f1] := by
  obtain ⟨_, _, rfl, rfl, rfl⟩ := h
  exact rfl
theorem k70_mkM (w : World) (base : Nat) (ok : Nat → Prop) (x : S70)  : k70.M w base ok x [.int .u64 x.f0, .int .i64 x.f1] := ⟨[.int .u64 x.f0], [.int .i64 x.f1], rfl, rfl, rfl⟩
def rd_T70 (xs : List S70) (i : Int) : S70 := xs.getD i.toNat z70
theorem at_T70 {w : World} {A : Option Addr} {n : Nat} {xs : List S70} (h : Kd.C k70 w A n xs) (i : Int) (h0 : 0 ≤ i) (h1 : i < n) : ∃ ad , A = some ad ∧ w.cell? (ad.add (i.toNat * 2)) = some (.int .u64 (rd_T70 xs i).f0) ∧ w.cell? ⟨(ad.add (i.toNat * 2)).block, (ad.add (i.toNat * 2)).off + 1, none⟩ = some (.int .i64 (rd_T70 xs i).f1) := by
  obtain ⟨ad, c, e, _, hK, hc0⟩ := Kd.C_get h z70 i h0 h1
  have hc : ∀ j u, c[j]? = some u → w.cell? (ad.add (i.toNat * 2 + j)) = some u := hc0
  obtain rfl := k70_open hK
  exact ⟨ad, e, hc 0 _ rfl, by rw [← add_field _ _ 1 (by omega)]; exact hc 1 _ rfl⟩
end Go.Proofs.Yteocngcojijnkaa.QH
namespace Go.Proofs.Yteocngcojijnkaa.QH
open Go.RowKit Go.Proofs.YteocngcojijnkaaW.PrintWords Go.Proofs.YteocngcojijnkaaW.PrintLast Go.Proofs.YteocngcojijnkaaW.PrintMore
attribute [local go_sem] max2_int min2_int max_two min_two max_three min_three max_four min_four   -- for this text's walks alone
set_option linter.unusedVariables false
set_option linter.unusedSimpArgs false
theorem eqA70 (d : Nat) (w : World) (x0 y0 : Int) (x1 y1 : Int) :
    (Op.equalIn (d + 2) 70 (.agg #[.int .u64 x0, .int .i64 x1]) (.agg #[.int .u64 y0, .int .i64 y1])).run Try.prog w = .ok (x0 == y0 && (x1 == y1)) w := by
  refine eqA_of Try.underlying70 (by kernel_rfl) ?_
  refine eqf_cons (by rfl) (by go_simp; rfl) (by go_simp; rfl) (by go_simp) ?_
  exact eqf_last (by rfl) (by go_simp; rfl) (by go_simp; rfl) (by go_simp)
end Go.Proofs.Yteocngcojijnkaa.QH
namespace Go.Proofs.Yteocngcojijnkaa.QH
open Go.RowKit Go.Proofs.YteocngcojijnkaaW.PrintWords Go.Proofs.YteocngcojijnkaaW.PrintLast Go.Proofs.YteocngcojijnkaaW.PrintMore
attribute [local go_sem] max2_int min2_int max_two min_two max_three min_three max_four min_four   -- for this text's walks alone
set_option linter.unusedVariables false
set_option linter.unusedSimpArgs false
/-! ### icehouseref09_Check: function 28 -/
mutual
def icehouseref09_Check.j0 : Nat → Int → Bool → List Int → Int → Int → Option (Int)
  | 0, _, _, _, _, _ => none
  | k + 1, x3, x34, x102000, x102001, x102002 => if x34 = true then (some 2) else (icehouseref09_Check.l0 k x3 0 x102000 x102001 x102002)
def icehouseref09_Check.l0 : Nat → Int → Int → List Int → Int → Int → Option (Int)
  | 0, _, _, _, _, _ => none
  | k + 1, x3, x4, x102000, x102001, x102002 => if x4 < x3 then (if 0 ≤ x4 then (if x4 < (x102000.length : Int) then (if (rd x102000 x4) < 0 then (some 2) else (if (rd x102000 x4) > 1048575 then (some 2) else (if x4 > 0 then (if 0 ≤ (wrap64 (x4 - 1)) then (if (wrap64 (x4 - 1)) < (x102000.length : Int) then (if (rd x102000 x4) ≤ (rd x102000 (wrap64 (x4 - 1))) then (some 2) else (icehouseref09_Check.l0 k x3 (wrap64 (x4 + 1)) x102000 x102001 x102002)) else (none)) else (none)) else (icehouseref09_Check.l0 k x3 (wrap64 (x4 + 1)) x102000 x102001 x102002)))) else (none)) else (none)) else (some 0)
end
def icehouseref09_Check.f (k : Nat) (l0_0 : List Int) (a0_1 : Int) (a0_2 : Int) : Option (Int) := if (l0_0.length : Int) < 1 then (icehouseref09_Check.j0 k (l0_0.length : Int) true l0_0 a0_1 a0_2) else (if (l0_0.length : Int) > 64 then (icehouseref09_Check.j0 k (l0_0.length : Int) true l0_0 a0_1 a0_2) else (if a0_1 < 1 then (icehouseref09_Check.j0 k (l0_0.length : Int) true l0_0 a0_1 a0_2) else (if a0_1 > 64 then (icehouseref09_Check.j0 k (l0_0.length : Int) true l0_0 a0_1 a0_2) else (if a0_2 < 1 then (icehouseref09_Check.j0 k (l0_0.length : Int) true l0_0 a0_1 a0_2) else (icehouseref09_Check.j0 k (l0_0.length : Int) (decide (a0_2 > (l0_0.length : Int))) l0_0 a0_1 a0_2)))))
theorem icehouseref09_Check.mono_l : ∀ k, (∀ y0 y1 y2 y3 y4, LeO (icehouseref09_Check.j0 k y0 y1 y2 y3 y4) (icehouseref09_Check.j0 (k + 1) y0 y1 y2 y3 y4)) ∧ (∀ y0 y1 y2 y3 y4, LeO (icehouseref09_Check.l0 k y0 y1 y2 y3 y4) (icehouseref09_Check.l0 (k + 1) y0 y1 y2 y3 y4))
  | 0 => ⟨fun _ _ _ _ _ r h => by simp [icehouseref09_Check.j0] at h, fun _ _ _ _ _ r h => by simp [icehouseref09_Check.l0] at h⟩
  | k + 1 => by
    obtain ⟨ih0, ih1⟩ := icehouseref09_Check.mono_l k
    refine ⟨?_, ?_⟩
    · intro y0 y1 y2 y3 y4
      unfold icehouseref09_Check.j0
      repeat' first
      | (with_reducible exact ih0 _ _ _ _ _)
      | (with_reducible exact ih1 _ _ _ _ _)
      | (with_reducible exact LeO.refl _)
      | (with_reducible exact LeO.none _)
      | (with_reducible refine LeO.ite ?_ ?_)
      | (with_reducible refine LeO.bind ?_ (fun _ => ?_))
      | exact ih0 _ _ _ _ _
      | exact ih1 _ _ _ _ _
      | exact LeO.none _
      | refine LeO.ite ?_ ?_
      | refine LeO.bind ?_ (fun _ => ?_)
    · intro y0 y1 y2 y3 y4
      unfold icehouseref09_Check.l0
      repeat' first
      | (with_reducible exact ih0 _ _ _ _ _)
      | (with_reducible exact ih1 _ _ _ _ _)
      | (with_reducible exact LeO.refl _)
      | (with_reducible exact LeO.none _)
      | (with_reducible refine LeO.ite ?_ ?_)
      | (with_reducible refine LeO.bind ?_ (fun _ => ?_))
      | exact ih0 _ _ _ _ _
      | exact ih1 _ _ _ _ _
      | exact LeO.none _
      | refine LeO.ite ?_ ?_
      | refine LeO.bind ?_ (fun _ => ?_)
theorem icehouseref09_Check.mono : ∀ a0 a1 a2 k, LeO (icehouseref09_Check.f k a0 a1 a2) (icehouseref09_Check.f (k + 1) a0 a1 a2) := by
  intro a0 a1 a2 k
  obtain ⟨ih0, ih1⟩ := icehouseref09_Check.mono_l k
  unfold icehouseref09_Check.f
  repeat' first
      | (with_reducible exact ih0 _ _ _ _ _)
      | (with_reducible exact ih1 _ _ _ _ _)
      | (with_reducible exact LeO.refl _)
      | (with_reducible exact LeO.none _)
      | (with_reducible refine LeO.ite ?_ ?_)
      | (with_reducible refine LeO.bind ?_ (fun _ => ?_))
      | exact ih0 _ _ _ _ _
      | exact ih1 _ _ _ _ _
      | exact LeO.none _
      | refine LeO.ite ?_ ?_
      | refine LeO.bind ?_ (fun _ => ?_)
set_option maxHeartbeats 8000000 in
set_option maxRecDepth 100000 in
theorem icehouseref09_Check.calls (k : Nat) (A0_0 : Option Addr) (c0_0 : Nat) (l0_0 : List Int) (a0_1 : Int) (a0_2 : Int) (r : Int) (w : World) (hr0_0 : Kd.C (Kd.int .i64) w A0_0 l0_0.length l0_0) (hc0_0 : l0_0.length ≤ c0_0) (h : icehouseref09_Check.f k l0_0 a0_1 a0_2 = some r) :
    Calls Try.prog 28 #[.agg #[.slice A0_0 l0_0.length c0_0, .int .i64 a0_1, .int .i64 a0_2]] w fun e w' => e = .returned (.int .i64 r) ∧ Below w.heap.size w w' := by
  have hu42 := Try.underlying42
  have HR0_0 := Aside0.mk hr0_0
  have HC0_0 := Aside0.mk hc0_0
  clear hr0_0 hc0_0
  have HB := Aside0.mk (Below.refl w.heap.size w)
  have H : (if (l0_0.length : Int) < 1 then (icehouseref09_Check.j0 k (l0_0.length : Int) true l0_0 a0_1 a0_2) else (if (l0_0.length : Int) > 64 then (icehouseref09_Check.j0 k (l0_0.length : Int) true l0_0 a0_1 a0_2) else (if a0_1 < 1 then (icehouseref09_Check.j0 k (l0_0.length : Int) true l0_0 a0_1 a0_2) else (if a0_1 > 64 then (icehouseref09_Check.j0 k (l0_0.length : Int) true l0_0 a0_1 a0_2) else (if a0_2 < 1 then (icehouseref09_Check.j0 k (l0_0.length : Int) true l0_0 a0_1 a0_2) else (icehouseref09_Check.j0 k (l0_0.length : Int) (decide (a0_2 > (l0_0.length : Int))) l0_0 a0_1 a0_2)))))) = some r := h
  clear h
  have HC2 := Aside0.mk H
  clear H
  go_enter Try.func28, Try.ntmps28
  go_upto_region 2 with (first | ((with_reducible refine gate_dst (N := 1) rfl ?_); refine box_event ?hg (N := 1) ?hd (cs := #[.slice A0_0 l0_0.length c0_0, .int .i64 a0_1, .int .i64 a0_2]) (t := 42) ?hr ?_; (case hd => rfl); (case hg => rfl); (case hr => first | (go_simp; done) | (go_simp; rfl)); intro gb101 hg w3 hbox hb; have n0_ := Aside0.mk (below_step (by repeat (first | (with_reducible first | exact HB.out | apply below_alloc | apply pw_below_drewN | apply below_drew1) | exact HB.out)) hb); have n1_ := Aside0.mk (hbox); have n2_ := Aside0.mk ((by rw [hg]; exact (below_size (by repeat (first | (with_reducible first | exact HB.out | apply below_alloc | apply pw_below_drewN | apply below_drew1) | exact HB.out))) : w.heap.size ≤ gb101)); have n3_ := Aside0.mk ((by rw [hg]; exact (below_size (by repeat (first | (with_reducible first | exact HB.out | apply below_alloc | apply pw_below_drewN | apply below_drew1) | exact HB.out))) : w.heap.size ≤ gb101)); clear HB; have HB := n0_; have BK101 := n1_; have GW101 := n2_; have GE101 := n3_; clear n0_ n1_ n2_ n3_; clear hb hbox hg; have hcz4_0 : w3.cell? ⟨gb101, 0, none⟩ = some (.slice A0_0 l0_0.length c0_0) := (blk_cell BK101.out 0).trans rfl; have hcz4_1 : w3.cell? ⟨gb101, 1, none⟩ = some (.int .i64 a0_1) := (blk_cell BK101.out 1).trans rfl; have hcz4_2 : w3.cell? ⟨gb101, 2, none⟩ = some (.int .i64 a0_2) := (blk_cell BK101.out 2).trans rfl; have hfz4_0 := blk_frozen BK101.out 0; have hfz4_1 := blk_frozen BK101.out 1; have hfz4_2 := blk_frozen BK101.out 2))
  repeat (go_quiet (first | ((with_reducible refine gate_dst (N := 1) rfl ?_); refine box_event ?hg (N := 1) ?hd (cs := #[.slice A0_0 l0_0.length c0_0, .int .i64 a0_1, .int .i64 a0_2]) (t := 42) ?hr ?_; (case hd => rfl); (case hg => rfl); (case hr => first | (go_simp; done) | (go_simp; rfl)); intro gb101 hg w3 hbox hb; have n0_ := Aside0.mk (below_step (by repeat (first | (with_reducible first | exact HB.out | apply below_alloc | apply pw_below_drewN | apply below_drew1) | exact HB.out)) hb); have n1_ := Aside0.mk (hbox); have n2_ := Aside0.mk ((by rw [hg]; exact (below_size (by repeat (first | (with_reducible first | exact HB.out | apply below_alloc | apply pw_below_drewN | apply below_drew1) | exact HB.out))) : w.heap.size ≤ gb101)); have n3_ := Aside0.mk ((by rw [hg]; exact (below_size (by repeat (first | (with_reducible first | exact HB.out | apply below_alloc | apply pw_below_drewN | apply below_drew1) | exact HB.out))) : w.heap.size ≤ gb101)); clear HB; have HB := n0_; have BK101 := n1_; have GW101 := n2_; have GE101 := n3_; clear n0_ n1_ n2_ n3_; clear hb hbox hg; have hcz4_0 : w3.cell? ⟨gb101, 0, none⟩ = some (.slice A0_0 l0_0.length c0_0) := (blk_cell BK101.out 0).trans rfl; have hcz4_1 : w3.cell? ⟨gb101, 1, none⟩ = some (.int .i64 a0_1) := (blk_cell BK101.out 1).trans rfl; have hcz4_2 : w3.cell? ⟨gb101, 2, none⟩ = some (.int .i64 a0_2) := (blk_cell BK101.out 2).trans rfl; have hfz4_0 := blk_frozen BK101.out 0; have hfz4_1 := blk_frozen BK101.out 1; have hfz4_2 := blk_frozen BK101.out 2)); go_upto_region 2 with (first | ((with_reducible refine gate_dst (N := 1) rfl ?_); refine box_event ?hg (N := 1) ?hd (cs := #[.slice A0_0 l0_0.length c0_0, .int .i64 a0_1, .int .i64 a0_2]) (t := 42) ?hr ?_; (case hd => rfl); (case hg => rfl); (case hr => first | (go_simp; done) | (go_simp; rfl)); intro gb101 hg w3 hbox hb; have n0_ := Aside0.mk (below_step (by repeat (first | (with_reducible first | exact HB.out | apply below_alloc | apply pw_below_drewN | apply below_drew1) | exact HB.out)) hb); have n1_ := Aside0.mk (hbox); have n2_ := Aside0.mk ((by rw [hg]; exact (below_size (by repeat (first | (with_reducible first | exact HB.out | apply below_alloc | apply pw_below_drewN | apply below_drew1) | exact HB.out))) : w.heap.size ≤ gb101)); have n3_ := Aside0.mk ((by rw [hg]; exact (below_size (by repeat (first | (with_reducible first | exact HB.out | apply below_alloc | apply pw_below_drewN | apply below_drew1) | exact HB.out))) : w.heap.size ≤ gb101)); clear HB; have HB := n0_; have BK101 := n1_; have GW101 := n2_; have GE101 := n3_; clear n0_ n1_ n2_ n3_; clear hb hbox hg; have hcz4_0 : w3.cell? ⟨gb101, 0, none⟩ = some (.slice A0_0 l0_0.length c0_0) := (blk_cell BK101.out 0).trans rfl; have hcz4_1 : w3.cell? ⟨gb101, 1, none⟩ = some (.int .i64 a0_1) := (blk_cell BK101.out 1).trans rfl; have hcz4_2 : w3.cell? ⟨gb101, 2, none⟩ = some (.int .i64 a0_2) := (blk_cell BK101.out 2).trans rfl; have hfz4_0 := blk_frozen BK101.out 0; have hfz4_1 := blk_frozen BK101.out 1; have hfz4_2 := blk_frozen BK101.out 2)))
  (try simp only [Act.put, List.setIfInBounds_toArray, List.set_cons_zero, List.set_cons_succ])
  go_cut [34] (fun v34 wc => ∃ (kq : Nat) (x34_1 : Bool), v34 = .bool x34_1 ∧ Aside0 (icehouseref09_Check.j0 kq (l0_0.length : Int) x34_1 l0_0 a0_1 a0_2 = some r) ∧ Aside0 (kq ≤ k) ∧ Aside0 (wc.heap[gb101]? = some (.cells #[(.slice A0_0 l0_0.length c0_0), .int .i64 a0_1, .int .i64 a0_2] 42 (0, 0))) ∧ Aside0 (Below w.heap.size w wc))
  case first =>
    have H := HC2.out
    clear HC2
    by_cases c5 : (l0_0.length : Int) < 1
    · rw [if_pos c5] at H
      have c5b0 : decide ((l0_0.length : Int) < 1) = true := decide_eq_true c5
      have c5b1 : decide (l0_0.length < 1) = true := decide_eq_true (by omega)
      clear c5
      (first | rw [c5b0] | (simp only [i64_w, i32_w]; rw [c5b0]) | skip)
      have H' := Aside0.mk H
      clear H
      go_wp2
      repeat (go_quiet (fail); try go_wp2)
      go_meet
      case rel => exact ⟨_, (true), (by first | rfl | (simp; done) | (simp [*]; done)), H', ⟨by first | omega | exact Nat.le_refl _⟩, ⟨by (with_reducible repeat (first | refine blk_drewN ?_ _ | refine blk_drew ?_ | refine blk_alloc ?_ _)); exact BK101.out⟩, ⟨by repeat (first | (with_reducible first | exact HB.out | apply below_alloc | apply pw_below_drewN | apply below_drew1 | refine below_set ?_ GE101.out) | exact HB.out)⟩⟩
    · rw [if_neg c5] at H
      have c5b0 : decide ((l0_0.length : Int) < 1) = false := decide_eq_false c5
      have c5b1 : decide (l0_0.length < 1) = false := decide_eq_false (by omega)
      clear c5
      (first | rw [c5b0] | (simp only [i64_w, i32_w]; rw [c5b0]) | skip)
      by_cases c6 : (l0_0.length : Int) > 64
      · rw [if_pos c6] at H
        have c6b0 : decide (64 < (l0_0.length : Int)) = true := decide_eq_true c6
        have c6b1 : decide (64 < l0_0.length) = true := decide_eq_true (by omega)
        clear c6
        have H' := Aside0.mk H
        clear H
        go_wp2
        repeat (go_quiet (fail); try go_wp2)
        go_meet
        case rel => exact ⟨_, (true), (by first | rfl | (simp; done) | (simp [*]; done)), H', ⟨by first | omega | exact Nat.le_refl _⟩, ⟨by (with_reducible repeat (first | refine blk_drewN ?_ _ | refine blk_drew ?_ | refine blk_alloc ?_ _)); exact BK101.out⟩, ⟨by repeat (first | (with_reducible first | exact HB.out | apply below_alloc | apply pw_below_drewN | apply below_drew1 | refine below_set ?_ GE101.out) | exact HB.out)⟩⟩
      · rw [if_neg c6] at H
        have c6b0 : decide (64 < (l0_0.length : Int)) = false := decide_eq_false c6
        have c6b1 : decide (64 < l0_0.length) = false := decide_eq_false (by omega)
        clear c6
        by_cases c7 : a0_1 < 1
        · rw [if_pos c7] at H
          have c7b0 : decide (a0_1 < 1) = true := decide_eq_true c7
          clear c7
          have H' := Aside0.mk H
          clear H
          have hcz8_0 : w3.cell? ⟨gb101, 0, none⟩ = some (.slice A0_0 l0_0.length c0_0) := (blk_cell BK101.out 0).trans rfl
          have hcz8_1 : w3.cell? ⟨gb101, 1, none⟩ = some (.int .i64 a0_1) := (blk_cell BK101.out 1).trans rfl
          have hcz8_2 : w3.cell? ⟨gb101, 2, none⟩ = some (.int .i64 a0_2) := (blk_cell BK101.out 2).trans rfl
          have hfz8_0 := blk_frozen BK101.out 0
          have hfz8_1 := blk_frozen BK101.out 1
          have hfz8_2 := blk_frozen BK101.out 2
          go_wp2
          repeat (go_quiet (fail); try go_wp2)
          go_meet
          case rel => exact ⟨_, (true), (by first | rfl | (simp; done) | (simp [*]; done)), H', ⟨by first | omega | exact Nat.le_refl _⟩, ⟨by (with_reducible repeat (first | refine blk_drewN ?_ _ | refine blk_drew ?_ | refine blk_alloc ?_ _)); exact BK101.out⟩, ⟨by repeat (first | (with_reducible first | exact HB.out | apply below_alloc | apply pw_below_drewN | apply below_drew1 | refine below_set ?_ GE101.out) | exact HB.out)⟩⟩
        · rw [if_neg c7] at H
          have c7b0 : decide (a0_1 < 1) = false := decide_eq_false c7
          clear c7
          by_cases c9 : a0_1 > 64
          · rw [if_pos c9] at H
            have c9b0 : decide (64 < a0_1) = true := decide_eq_true c9
            clear c9
            have H' := Aside0.mk H
            clear H
            have hcz10_0 : w3.cell? ⟨gb101, 0, none⟩ = some (.slice A0_0 l0_0.length c0_0) := (blk_cell BK101.out 0).trans rfl
            have hcz10_1 : w3.cell? ⟨gb101, 1, none⟩ = some (.int .i64 a0_1) := (blk_cell BK101.out 1).trans rfl
            have hcz10_2 : w3.cell? ⟨gb101, 2, none⟩ = some (.int .i64 a0_2) := (blk_cell BK101.out 2).trans rfl
            have hfz10_0 := blk_frozen BK101.out 0
            have hfz10_1 := blk_frozen BK101.out 1
            have hfz10_2 := blk_frozen BK101.out 2
            go_wp2
            repeat (go_quiet (fail); try go_wp2)
            go_meet
            case rel => exact ⟨_, (true), (by first | rfl | (simp; done) | (simp [*]; done)), H', ⟨by first | omega | exact Nat.le_refl _⟩, ⟨by (with_reducible repeat (first | refine blk_drewN ?_ _ | refine blk_drew ?_ | refine blk_alloc ?_ _)); exact BK101.out⟩, ⟨by repeat (first | (with_reducible first | exact HB.out | apply below_alloc | apply pw_below_drewN | apply below_drew1 | refine below_set ?_ GE101.out) | exact HB.out)⟩⟩
          · rw [if_neg c9] at H
            have c9b0 : decide (64 < a0_1) = false := decide_eq_false c9
            clear c9
            by_cases c11 : a0_2 < 1
            · rw [if_pos c11] at H
              have c11b0 : decide (a0_2 < 1) = true := decide_eq_true c11
              clear c11
              have H' := Aside0.mk H
              clear H
              have hcz12_0 : w3.cell? ⟨gb101, 0, none⟩ = some (.slice A0_0 l0_0.length c0_0) := (blk_cell BK101.out 0).trans rfl
              have hcz12_1 : w3.cell? ⟨gb101, 1, none⟩ = some (.int .i64 a0_1) := (blk_cell BK101.out 1).trans rfl
              have hcz12_2 : w3.cell? ⟨gb101, 2, none⟩ = some (.int .i64 a0_2) := (blk_cell BK101.out 2).trans rfl
              have hfz12_0 := blk_frozen BK101.out 0
              have hfz12_1 := blk_frozen BK101.out 1
              have hfz12_2 := blk_frozen BK101.out 2
              go_wp2
              repeat (go_quiet (fail); try go_wp2)
              go_meet
              case rel => exact ⟨_, (true), (by first | rfl | (simp; done) | (simp [*]; done)), H', ⟨by first | omega | exact Nat.le_refl _⟩, ⟨by (with_reducible repeat (first | refine blk_drewN ?_ _ | refine blk_drew ?_ | refine blk_alloc ?_ _)); exact BK101.out⟩, ⟨by repeat (first | (with_reducible first | exact HB.out | apply below_alloc | apply pw_below_drewN | apply below_drew1 | refine below_set ?_ GE101.out) | exact HB.out)⟩⟩
            · rw [if_neg c11] at H
              have c11b0 : decide (a0_2 < 1) = false := decide_eq_false c11
              clear c11
              have H' := Aside0.mk H
              clear H
              have hcz13_0 : w3.cell? ⟨gb101, 0, none⟩ = some (.slice A0_0 l0_0.length c0_0) := (blk_cell BK101.out 0).trans rfl
              have hcz13_1 : w3.cell? ⟨gb101, 1, none⟩ = some (.int .i64 a0_1) := (blk_cell BK101.out 1).trans rfl
              have hcz13_2 : w3.cell? ⟨gb101, 2, none⟩ = some (.int .i64 a0_2) := (blk_cell BK101.out 2).trans rfl
              have hfz13_0 := blk_frozen BK101.out 0
              have hfz13_1 := blk_frozen BK101.out 1
              have hfz13_2 := blk_frozen BK101.out 2
              go_wp2
              repeat (go_quiet (fail); try go_wp2)
              go_meet
              case rel => exact ⟨_, (decide (a0_2 > (l0_0.length : Int))), (by first | rfl | (simp; done) | (simp [*]; done)), H', ⟨by first | omega | exact Nat.le_refl _⟩, ⟨by (with_reducible repeat (first | refine blk_drewN ?_ _ | refine blk_drew ?_ | refine blk_alloc ?_ _)); exact BK101.out⟩, ⟨by repeat (first | (with_reducible first | exact HB.out | apply below_alloc | apply pw_below_drewN | apply below_drew1 | refine below_set ?_ GE101.out) | exact HB.out)⟩⟩
  case rest =>
    clear HC2
    try clear c1
    try clear c2
    try clear p2
    try clear c5
    try clear c5b0
    try clear c5b1
    try clear c6
    try clear c6b0
    try clear c6b1
    try clear c7
    try clear c7b0
    try clear c9
    try clear c9b0
    try clear c11
    try clear c11b0
    try clear hcz10_0
    try clear hcz10_1
    try clear hcz10_2
    try clear hcz12_0
    try clear hcz12_1
    try clear hcz12_2
    try clear hcz13_0
    try clear hcz13_1
    try clear hcz13_2
    try clear hcz4_0
    try clear hcz4_1
    try clear hcz4_2
    try clear hcz8_0
    try clear hcz8_1
    try clear hcz8_2
    try clear hfz10_0
    try clear hfz10_1
    try clear hfz10_2
    try clear hfz12_0
    try clear hfz12_1
    try clear hfz12_2
    try clear hfz13_0
    try clear hfz13_1
    try clear hfz13_2
    try clear hfz4_0
    try clear hfz4_1
    try clear hfz4_2
    try clear hfz8_0
    try clear hfz8_1
    try clear hfz8_2
    obtain ⟨kq, x34_1, rfl, HA, HJ1, BK101, HB⟩ := hcut
    cases kq with
    | zero => exact absurd HA.out (by simp [icehouseref09_Check.j0])
    | succ kj1 =>
      have H := HA.out
      clear HA
      simp only [icehouseref09_Check.j0] at H
      by_cases c14 : x34_1 = true
      · subst c14
        have H1 : (some 2) = some r := by rw [if_pos rfl] at H; exact H
        clear H
        have H := H1
        clear H1
        obtain rfl := Option.some.inj H
        go_wp2
        repeat (go_quiet (fail); try go_wp2)
        go_ret
        exact ⟨by first | rfl | (simp [errW_none, errW_some] <;> rfl) | (simp [*, errW_none, errW_some] <;> rfl), by repeat (first | (with_reducible first | exact HB.out | apply below_alloc | apply pw_below_drewN | apply below_drew1 | refine below_set ?_ GE101.out) | exact HB.out)⟩
      · replace c14 := Bool.eq_false_iff.mpr c14
        subst c14
        have H1 : (icehouseref09_Check.l0 kj1 (l0_0.length : Int) 0 l0_0 a0_1 a0_2) = some r := by rw [if_neg (show ¬ (false = true) by decide)] at H; exact H
        clear H
        have H := H1
        clear H1
        have H' := Aside0.mk H
        clear H
        go_wp2
        repeat (go_quiet (fail); try go_wp2)
        go_loopg [4] kj1 (fun kq v4 w' => ∃ (x4_2 : Int), v4 = .int .i64 x4_2 ∧ Aside0 (icehouseref09_Check.l0 kq (l0_0.length : Int) x4_2 l0_0 a0_1 a0_2 = some r) ∧ Aside0 (kq ≤ kj1) ∧ Aside0 (w'.heap[gb101]? = some (.cells #[(.slice A0_0 l0_0.length c0_0), .int .i64 a0_1, .int .i64 a0_2] 42 (0, 0))) ∧ Aside0 (Below w.heap.size w w'))
        case atStart => exact ⟨(0), (by first | rfl | (simp; done) | (simp [*]; done)), H', ⟨Nat.le_refl _⟩, ⟨by (with_reducible repeat (first | refine blk_drewN ?_ _ | refine blk_drew ?_ | refine blk_alloc ?_ _)); exact BK101.out⟩, ⟨by repeat (first | (with_reducible first | exact HB.out | apply below_alloc | apply pw_below_drewN | apply below_drew1 | refine below_set ?_ GE101.out) | exact HB.out)⟩⟩
        case round =>
          clear H'
          try clear c1
          try clear c2
          try clear p2
          try clear c5
          try clear c5b0
          try clear c5b1
          try clear c6
          try clear c6b0
          try clear c6b1
          try clear c7
          try clear c7b0
          try clear c9
          try clear c9b0
          try clear c11
          try clear c11b0
          try clear c14
          try clear hcz10_0
          try clear hcz10_1
          try clear hcz10_2
          try clear hcz12_0
          try clear hcz12_1
          try clear hcz12_2
          try clear hcz13_0
          try clear hcz13_1
          try clear hcz13_2
          try clear hcz4_0
          try clear hcz4_1
          try clear hcz4_2
          try clear hcz8_0
          try clear hcz8_1
          try clear hcz8_2
          try clear hfz10_0
          try clear hfz10_1
          try clear hfz10_2
          try clear hfz12_0
          try clear hfz12_1
          try clear hfz12_2
          try clear hfz13_0
          try clear hfz13_1
          try clear hfz13_2
          try clear hfz4_0
          try clear hfz4_1
          try clear hfz4_2
          try clear hfz8_0
          try clear hfz8_1
          try clear hfz8_2
          try clear p2
          obtain ⟨x4_2, rfl, HA, HK2, BK101, HB⟩ := hrel
          cases gk with
          | zero => exact absurd HA.out (by simp [icehouseref09_Check.l0])
          | succ k2 =>
            have H := HA.out
            clear HA
            simp only [icehouseref09_Check.l0] at H
            by_cases c15 : x4_2 < (l0_0.length : Int)
            · rw [if_pos c15] at H
              have c15b0 : decide (x4_2 < (l0_0.length : Int)) = true := decide_eq_true c15
              clear c15
              by_cases c16 : 0 ≤ x4_2
              · rw [if_pos c16] at H
                have c16b0 : decide (0 ≤ x4_2) = true := decide_eq_true c16
                clear c16
                by_cases c17 : x4_2 < (l0_0.length : Int)
                · rw [if_pos c17] at H
                  have c17b0 : decide (x4_2 < (l0_0.length : Int)) = true := decide_eq_true c17
                  clear c17
                  by_cases c18 : (rd l0_0 x4_2) < 0
                  · rw [if_pos c18] at H
                    have c18b0 : decide ((rd l0_0 x4_2) < 0) = true := decide_eq_true c18
                    clear c18
                    obtain rfl := Option.some.inj H
                    have hcz19_0 : wr.cell? ⟨gb101, 0, none⟩ = some (.slice A0_0 l0_0.length c0_0) := (blk_cell BK101.out 0).trans rfl
                    have hcz19_1 : wr.cell? ⟨gb101, 1, none⟩ = some (.int .i64 a0_1) := (blk_cell BK101.out 1).trans rfl
                    have hcz19_2 : wr.cell? ⟨gb101, 2, none⟩ = some (.int .i64 a0_2) := (blk_cell BK101.out 2).trans rfl
                    have hfz19_0 := blk_frozen BK101.out 0
                    have hfz19_1 := blk_frozen BK101.out 1
                    have hfz19_2 := blk_frozen BK101.out 2
                    have p102 : 0 ≤ (x4_2 : Int) := of_decide_eq_true (by first | (with_reducible assumption) | assumption)
                    have q102 : x4_2 < (l0_0.length : Int) := of_decide_eq_true (by first | (with_reducible assumption) | assumption)
                    obtain ⟨ad102, e102, hx102_0⟩ := Kd.at_int HR0_0.out x4_2 p102 q102
                    cases e102
                    replace hx102_0 := (HB.out.cell (World.block_lt_of_cell? w _ hx102_0)).trans hx102_0
                    replace p102 := eq_true p102
                    replace q102 := eq_true q102
                    go_wp2
                    repeat (go_quiet (fail); try go_wp2)
                    go_ret
                    exact ⟨by first | rfl | (simp [errW_none, errW_some] <;> rfl) | (simp [*, errW_none, errW_some] <;> rfl), by repeat (first | (with_reducible first | exact HB.out | apply below_alloc | apply pw_below_drewN | apply below_drew1 | refine below_set ?_ GE101.out) | exact HB.out)⟩
                  · rw [if_neg c18] at H
                    have c18b0 : decide ((rd l0_0 x4_2) < 0) = false := decide_eq_false c18
                    clear c18
                    by_cases c20 : (rd l0_0 x4_2) > 1048575
                    · rw [if_pos c20] at H
                      have c20b0 : decide (1048575 < (rd l0_0 x4_2)) = true := decide_eq_true c20
                      clear c20
                      obtain rfl := Option.some.inj H
                      have hcz21_0 : wr.cell? ⟨gb101, 0, none⟩ = some (.slice A0_0 l0_0.length c0_0) := (blk_cell BK101.out 0).trans rfl
                      have hcz21_1 : wr.cell? ⟨gb101, 1, none⟩ = some (.int .i64 a0_1) := (blk_cell BK101.out 1).trans rfl
                      have hcz21_2 : wr.cell? ⟨gb101, 2, none⟩ = some (.int .i64 a0_2) := (blk_cell BK101.out 2).trans rfl
                      have hfz21_0 := blk_frozen BK101.out 0
                      have hfz21_1 := blk_frozen BK101.out 1
                      have hfz21_2 := blk_frozen BK101.out 2
                      have p102 : 0 ≤ (x4_2 : Int) := of_decide_eq_true (by first | (with_reducible assumption) | assumption)
                      have q102 : x4_2 < (l0_0.length : Int) := of_decide_eq_true (by first | (with_reducible assumption) | assumption)
                      obtain ⟨ad102, e102, hx102_0⟩ := Kd.at_int HR0_0.out x4_2 p102 q102
                      cases e102
                      replace hx102_0 := (HB.out.cell (World.block_lt_of_cell? w _ hx102_0)).trans hx102_0
                      replace p102 := eq_true p102
                      replace q102 := eq_true q102
                      have p103 : 0 ≤ (x4_2 : Int) := of_decide_eq_true (by first | (with_reducible assumption) | assumption)
                      have q103 : x4_2 < (l0_0.length : Int) := of_decide_eq_true (by first | (with_reducible assumption) | assumption)
                      obtain ⟨ad103, e103, hx103_0⟩ := Kd.at_int HR0_0.out x4_2 p103 q103
                      obtain rfl : ad102 = ad103 := (by injection e103)
                      replace hx103_0 := (HB.out.cell (World.block_lt_of_cell? w _ hx103_0)).trans hx103_0
                      replace p103 := eq_true p103
                      replace q103 := eq_true q103
                      go_wp2
                      repeat (go_quiet (fail); try go_wp2)
                      go_ret
                      exact ⟨by first | rfl | (simp [errW_none, errW_some] <;> rfl) | (simp [*, errW_none, errW_some] <;> rfl), by repeat (first | (with_reducible first | exact HB.out | apply below_alloc | apply pw_below_drewN | apply below_drew1 | refine below_set ?_ GE101.out) | exact HB.out)⟩
                    · rw [if_neg c20] at H
                      have c20b0 : decide (1048575 < (rd l0_0 x4_2)) = false := decide_eq_false c20
                      clear c20
                      by_cases c22 : x4_2 > 0
                      · rw [if_pos c22] at H
                        have c22b0 : decide (0 < x4_2) = true := decide_eq_true c22
                        clear c22
                        obtain ⟨ji23, hji23⟩ : ∃ j_ : Int, (wrap64 (x4_2 - 1)) = j_ := ⟨_, rfl⟩
                        replace H : (if 0 ≤ (ji23) then (if (ji23) < (l0_0.length : Int) then (if (rd l0_0 x4_2) ≤ (rd l0_0 (ji23)) then (some 2) else (icehouseref09_Check.l0 k2 (l0_0.length : Int) (wrap64 (x4_2 + 1)) l0_0 a0_1 a0_2)) else (none)) else (none)) = some r := by first | (rw [hji23] at H; exact H) | (simp only [hji23] at H ⊢; exact H)
                        have hji23w : (IntKind.i64.wrap (x4_2 - 1)) = ji23 := (i64_w _).trans hji23
                        by_cases c24 : 0 ≤ (ji23)
                        · rw [if_pos c24] at H
                          have c24b0 : decide (0 ≤ (ji23)) = true := decide_eq_true c24
                          clear c24
                          by_cases c25 : (ji23) < (l0_0.length : Int)
                          · rw [if_pos c25] at H
                            have c25b0 : decide ((ji23) < (l0_0.length : Int)) = true := decide_eq_true c25
                            clear c25
                            by_cases c26 : (rd l0_0 x4_2) ≤ (rd l0_0 (ji23))
                            · rw [if_pos c26] at H
                              have c26b0 : decide ((rd l0_0 x4_2) ≤ (rd l0_0 (ji23))) = true := decide_eq_true c26
                              clear c26
                              obtain rfl := Option.some.inj H
                              have hcz27_0 : wr.cell? ⟨gb101, 0, none⟩ = some (.slice A0_0 l0_0.length c0_0) := (blk_cell BK101.out 0).trans rfl
                              have hcz27_1 : wr.cell? ⟨gb101, 1, none⟩ = some (.int .i64 a0_1) := (blk_cell BK101.out 1).trans rfl
                              have hcz27_2 : wr.cell? ⟨gb101, 2, none⟩ = some (.int .i64 a0_2) := (blk_cell BK101.out 2).trans rfl
                              have hfz27_0 := blk_frozen BK101.out 0
                              have hfz27_1 := blk_frozen BK101.out 1
                              have hfz27_2 := blk_frozen BK101.out 2
                              have p102 : 0 ≤ (x4_2 : Int) := of_decide_eq_true (by first | (with_reducible assumption) | assumption)
                              have q102 : x4_2 < (l0_0.length : Int) := of_decide_eq_true (by first | (with_reducible assumption) | assumption)
                              obtain ⟨ad102, e102, hx102_0⟩ := Kd.at_int HR0_0.out x4_2 p102 q102
                              cases e102
                              replace hx102_0 := (HB.out.cell (World.block_lt_of_cell? w _ hx102_0)).trans hx102_0
                              replace p102 := eq_true p102
                              replace q102 := eq_true q102
                              have p103 : 0 ≤ (x4_2 : Int) := of_decide_eq_true (by first | (with_reducible assumption) | assumption)
                              have q103 : x4_2 < (l0_0.length : Int) := of_decide_eq_true (by first | (with_reducible assumption) | assumption)
                              obtain ⟨ad103, e103, hx103_0⟩ := Kd.at_int HR0_0.out x4_2 p103 q103
                              obtain rfl : ad102 = ad103 := (by injection e103)
                              replace hx103_0 := (HB.out.cell (World.block_lt_of_cell? w _ hx103_0)).trans hx103_0
                              replace p103 := eq_true p103
                              replace q103 := eq_true q103
                              have p104 : 0 ≤ (x4_2 : Int) := of_decide_eq_true (by first | (with_reducible assumption) | assumption)
                              have q104 : x4_2 < (l0_0.length : Int) := of_decide_eq_true (by first | (with_reducible assumption) | assumption)
                              obtain ⟨ad104, e104, hx104_0⟩ := Kd.at_int HR0_0.out x4_2 p104 q104
                              obtain rfl : ad102 = ad104 := (by injection e104)
                              replace hx104_0 := (HB.out.cell (World.block_lt_of_cell? w _ hx104_0)).trans hx104_0
                              replace p104 := eq_true p104
                              replace q104 := eq_true q104
                              have p105 : 0 ≤ ((ji23) : Int) := of_decide_eq_true (by first | (with_reducible assumption) | assumption)
                              have q105 : (ji23) < (l0_0.length : Int) := of_decide_eq_true (by first | (with_reducible assumption) | assumption)
                              obtain ⟨ad105, e105, hx105_0⟩ := Kd.at_int HR0_0.out (ji23) p105 q105
                              obtain rfl : ad102 = ad105 := (by injection e105)
                              replace hx105_0 := (HB.out.cell (World.block_lt_of_cell? w _ hx105_0)).trans hx105_0
                              replace p105 := eq_true p105
                              replace q105 := eq_true q105
                              go_wp2
                              repeat (go_quiet (fail); try go_wp2)
                              go_ret
                              exact ⟨by first | rfl | (simp [errW_none, errW_some] <;> rfl) | (simp only [← hji23]; first | rfl | (simp [errW_none, errW_some] <;> rfl)) | (simp [*, errW_none, errW_some] <;> rfl), by repeat (first | (with_reducible first | exact HB.out | apply below_alloc | apply pw_below_drewN | apply below_drew1 | refine below_set ?_ GE101.out) | exact HB.out)⟩
                            · rw [if_neg c26] at H
                              have c26b0 : decide ((rd l0_0 x4_2) ≤ (rd l0_0 (ji23))) = false := decide_eq_false c26
                              clear c26
                              have H' := Aside0.mk H
                              clear H
                              have hcz28_0 : wr.cell? ⟨gb101, 0, none⟩ = some (.slice A0_0 l0_0.length c0_0) := (blk_cell BK101.out 0).trans rfl
                              have hcz28_1 : wr.cell? ⟨gb101, 1, none⟩ = some (.int .i64 a0_1) := (blk_cell BK101.out 1).trans rfl
                              have hcz28_2 : wr.cell? ⟨gb101, 2, none⟩ = some (.int .i64 a0_2) := (blk_cell BK101.out 2).trans rfl
                              have hfz28_0 := blk_frozen BK101.out 0
                              have hfz28_1 := blk_frozen BK101.out 1
                              have hfz28_2 := blk_frozen BK101.out 2
                              have p102 : 0 ≤ (x4_2 : Int) := of_decide_eq_true (by first | (with_reducible assumption) | assumption)
                              have q102 : x4_2 < (l0_0.length : Int) := of_decide_eq_true (by first | (with_reducible assumption) | assumption)
                              obtain ⟨ad102, e102, hx102_0⟩ := Kd.at_int HR0_0.out x4_2 p102 q102
                              cases e102
                              replace hx102_0 := (HB.out.cell (World.block_lt_of_cell? w _ hx102_0)).trans hx102_0
                              replace p102 := eq_true p102
                              replace q102 := eq_true q102
                              have p103 : 0 ≤ (x4_2 : Int) := of_decide_eq_true (by first | (with_reducible assumption) | assumption)
                              have q103 : x4_2 < (l0_0.length : Int) := of_decide_eq_true (by first | (with_reducible assumption) | assumption)
                              obtain ⟨ad103, e103, hx103_0⟩ := Kd.at_int HR0_0.out x4_2 p103 q103
                              obtain rfl : ad102 = ad103 := (by injection e103)
                              replace hx103_0 := (HB.out.cell (World.block_lt_of_cell? w _ hx103_0)).trans hx103_0
                              replace p103 := eq_true p103
                              replace q103 := eq_true q103
                              have p104 : 0 ≤ (x4_2 : Int) := of_decide_eq_true (by first | (with_reducible assumption) | assumption)
                              have q104 : x4_2 < (l0_0.length : Int) := of_decide_eq_true (by first | (with_reducible assumption) | assumption)
                              obtain ⟨ad104, e104, hx104_0⟩ := Kd.at_int HR0_0.out x4_2 p104 q104
                              obtain rfl : ad102 = ad104 := (by injection e104)
                              replace hx104_0 := (HB.out.cell (World.block_lt_of_cell? w _ hx104_0)).trans hx104_0
                              replace p104 := eq_true p104
                              replace q104 := eq_true q104
                              have p105 : 0 ≤ ((ji23) : Int) := of_decide_eq_true (by first | (with_reducible assumption) | assumption)
                              have q105 : (ji23) < (l0_0.length : Int) := of_decide_eq_true (by first | (with_reducible assumption) | assumption)
                              obtain ⟨ad105, e105, hx105_0⟩ := Kd.at_int HR0_0.out (ji23) p105 q105
                              obtain rfl : ad102 = ad105 := (by injection e105)
                              replace hx105_0 := (HB.out.cell (World.block_lt_of_cell? w _ hx105_0)).trans hx105_0
                              replace p105 := eq_true p105
                              replace q105 := eq_true q105
                              go_wp2
                              repeat (go_quiet (fail); try go_wp2)
                              go_roundg k2
                              case measure => have := HJ1.out; have := HK2.out; omega
                              case rel => exact ⟨(wrap64 (x4_2 + 1)), (by first | rfl | (simp; done) | (simp [*]; done)), H', ⟨by have := HJ1.out; have := HK2.out; omega⟩, ⟨by (with_reducible repeat (first | refine blk_drewN ?_ _ | refine blk_drew ?_ | refine blk_alloc ?_ _)); exact BK101.out⟩, ⟨by repeat (first | (with_reducible first | exact HB.out | apply below_alloc | apply pw_below_drewN | apply below_drew1 | refine below_set ?_ GE101.out) | exact HB.out)⟩⟩
                          · rw [if_neg c25] at H
                            exact absurd H (by simp)
                        · rw [if_neg c24] at H
                          exact absurd H (by simp)
                      · rw [if_neg c22] at H
                        have c22b0 : decide (0 < x4_2) = false := decide_eq_false c22
                        clear c22
                        have H' := Aside0.mk H
                        clear H
                        have hcz29_0 : wr.cell? ⟨gb101, 0, none⟩ = some (.slice A0_0 l0_0.length c0_0) := (blk_cell BK101.out 0).trans rfl
                        have hcz29_1 : wr.cell? ⟨gb101, 1, none⟩ = some (.int .i64 a0_1) := (blk_cell BK101.out 1).trans rfl
                        have hcz29_2 : wr.cell? ⟨gb101, 2, none⟩ = some (.int .i64 a0_2) := (blk_cell BK101.out 2).trans rfl
                        have hfz29_0 := blk_frozen BK101.out 0
                        have hfz29_1 := blk_frozen BK101.out 1
                        have hfz29_2 := blk_frozen BK101.out 2
                        have p102 : 0 ≤ (x4_2 : Int) := of_decide_eq_true (by first | (with_reducible assumption) | assumption)
                        have q102 : x4_2 < (l0_0.length : Int) := of_decide_eq_true (by first | (with_reducible assumption) | assumption)
                        obtain ⟨ad102, e102, hx102_0⟩ := Kd.at_int HR0_0.out x4_2 p102 q102
                        cases e102
                        replace hx102_0 := (HB.out.cell (World.block_lt_of_cell? w _ hx102_0)).trans hx102_0
                        replace p102 := eq_true p102
                        replace q102 := eq_true q102
                        have p103 : 0 ≤ (x4_2 : Int) := of_decide_eq_true (by first | (with_reducible assumption) | assumption)
                        have q103 : x4_2 < (l0_0.length : Int) := of_decide_eq_true (by first | (with_reducible assumption) | assumption)
                        obtain ⟨ad103, e103, hx103_0⟩ := Kd.at_int HR0_0.out x4_2 p103 q103
                        obtain rfl : ad102 = ad103 := (by injection e103)
                        replace hx103_0 := (HB.out.cell (World.block_lt_of_cell? w _ hx103_0)).trans hx103_0
                        replace p103 := eq_true p103
                        replace q103 := eq_true q103
                        go_wp2
                        repeat (go_quiet (fail); try go_wp2)
                        go_roundg k2
                        case measure => have := HJ1.out; have := HK2.out; omega
                        case rel => exact ⟨(wrap64 (x4_2 + 1)), (by first | rfl | (simp; done) | (simp [*]; done)), H', ⟨by have := HJ1.out; have := HK2.out; omega⟩, ⟨by (with_reducible repeat (first | refine blk_drewN ?_ _ | refine blk_drew ?_ | refine blk_alloc ?_ _)); exact BK101.out⟩, ⟨by repeat (first | (with_reducible first | exact HB.out | apply below_alloc | apply pw_below_drewN | apply below_drew1 | refine below_set ?_ GE101.out) | exact HB.out)⟩⟩
                · rw [if_neg c17] at H
                  exact absurd H (by simp)
              · rw [if_neg c16] at H
                exact absurd H (by simp)
            · rw [if_neg c15] at H
              have c15b0 : decide (x4_2 < (l0_0.length : Int)) = false := decide_eq_false c15
              clear c15
              obtain rfl := Option.some.inj H
              go_wp2
              repeat (go_quiet (fail); try go_wp2)
              go_ret
              exact ⟨by first | rfl | (simp [errW_none, errW_some] <;> rfl) | (simp [*, errW_none, errW_some] <;> rfl), by repeat (first | (with_reducible first | exact HB.out | apply below_alloc | apply pw_below_drewN | apply below_drew1 | refine below_set ?_ GE101.out) | exact HB.out)⟩
/-! ### icehouseref00_SameInts: function 15 -/
def icehouseref00_SameInts.l0 : Nat → List Int → List Int → Int → Option (Bool)
  | 0, _, _, _ => none
  | k + 1, x0, x1, x5 => if x5 < (x0.length : Int) then (if 0 ≤ x5 then (if x5 < (x1.length : Int) then (if (rd x0 x5) = (rd x1 x5) then (icehouseref00_SameInts.l0 k x0 x1 (wrap64 (x5 + 1))) else (some false)) else (none)) else (none)) else (some true)
def icehouseref00_SameInts.f (k : Nat) (l0 : List Int) (l1 : List Int) : Option (Bool) := if (l0.length : Int) = (l1.length : Int) then (icehouseref00_SameInts.l0 k l0 l1 0) else (some false)
theorem icehouseref00_SameInts.mono_l : ∀ k, (∀ y0 y1 y2, LeO (icehouseref00_SameInts.l0 k y0 y1 y2) (icehouseref00_SameInts.l0 (k + 1) y0 y1 y2))
  | 0 => fun _ _ _ r h => by simp [icehouseref00_SameInts.l0] at h
  | k + 1 => by
    have ih0 := icehouseref00_SameInts.mono_l k
    · intro y0 y1 y2
      unfold icehouseref00_SameInts.l0
      repeat' first
      | (with_reducible exact ih0 _ _ _)
      | (with_reducible exact LeO.refl _)
      | (with_reducible exact LeO.none _)
      | (with_reducible refine LeO.ite ?_ ?_)
      | (with_reducible refine LeO.bind ?_ (fun _ => ?_))
      | exact ih0 _ _ _
      | exact LeO.none _
      | refine LeO.ite ?_ ?_
      | refine LeO.bind ?_ (fun _ => ?_)
theorem icehouseref00_SameInts.mono : ∀ a0 a1 k, LeO (icehouseref00_SameInts.f k a0 a1) (icehouseref00_SameInts.f (k + 1) a0 a1) := by
  intro a0 a1 k
  have ih0 := icehouseref00_SameInts.mono_l k
  unfold icehouseref00_SameInts.f
  repeat' first
      | (with_reducible exact ih0 _ _ _)
      | (with_reducible exact LeO.refl _)
      | (with_reducible exact LeO.none _)
      | (with_reducible refine LeO.ite ?_ ?_)
      | (with_reducible refine LeO.bind ?_ (fun _ => ?_))
      | exact ih0 _ _ _
      | exact LeO.none _
      | refine LeO.ite ?_ ?_
      | refine LeO.bind ?_ (fun _ => ?_)
/-! ### ring_rises: function 60 -/
def ring_rises.l0 : Nat → Int → List Int → Int → Int → Option (Bool)
  | 0, _, _, _, _ => none
  | k + 1, x3, x6, x7, x8 => if x8 < x7 then (if 0 ≤ x8 then (if x8 < (x6.length : Int) then (if (rd x6 x8) ≤ x3 then (some false) else (if (rd x6 x8) > 1048575 then (some false) else (ring_rises.l0 k (rd x6 x8) x6 x7 (wrap64 (x8 + 1))))) else (none)) else (none)) else (some true)
def ring_rises.f (k : Nat) (l0 : List Int) : Option (Bool) := ring_rises.l0 k (-1) l0 (l0.length : Int) 0
theorem ring_rises.mono_l : ∀ k, (∀ y0 y1 y2 y3, LeO (ring_rises.l0 k y0 y1 y2 y3) (ring_rises.l0 (k + 1) y0 y1 y2 y3))
  | 0 => fun _ _ _ _ r h => by simp [ring_rises.l0] at h
  | k + 1 => by
    have ih0 := ring_rises.mono_l k
    · intro y0 y1 y2 y3
      unfold ring_rises.l0
      repeat' first
      | (with_reducible exact ih0 _ _ _ _)
      | (with_reducible exact LeO.refl _)
      | (with_reducible exact LeO.none _)
      | (with_reducible refine LeO.ite ?_ ?_)
      | (with_reducible refine LeO.bind ?_ (fun _ => ?_))
      | exact ih0 _ _ _ _
      | exact LeO.none _
      | refine LeO.ite ?_ ?_
      | refine LeO.bind ?_ (fun _ => ?_)
set_option maxHeartbeats 8000000 in
set_option maxRecDepth 100000 in
theorem ring_rises.calls (k : Nat) (A0 : Option Addr) (c0 : Nat) (l0 : List Int) (r : Bool) (w : World) (hr0 : Kd.C (Kd.int .i64) w A0 l0.length l0) (hc0 : l0.length ≤ c0) (h : ring_rises.f k l0 = some r) :
    Calls Try.prog 60 #[.slice A0 l0.length c0] w fun e w' => e = .returned (.bool r) ∧ Drawn0 w w' := by
  have HR0 := Aside0.mk hr0
  have HC0 := Aside0.mk hc0
  clear hr0 hc0
  have H : (ring_rises.l0 k (-1) l0 (l0.length : Int) 0) = some r := h
  clear h
  have H' := Aside0.mk H
  clear H
  go_enter Try.func60, Try.ntmps60
  go_wp2
  go_loopg [3, 8] k (fun kq v3 v8 w' => ∃ (x3_1 : Int) (x8_1 : Int), v3 = .int .i64 x3_1 ∧ v8 = .int .i64 x8_1 ∧ Aside0 (ring_rises.l0 kq x3_1 l0 (l0.length : Int) x8_1 = some r) ∧ Aside0 (kq ≤ k) ∧ Drawn0 w w')
  case atStart => exact ⟨((-1)), (0), (by first | rfl | (simp; done) | (simp [*]; done)), (by first | rfl | (simp; done) | (simp [*]; done)), H', ⟨Nat.le_refl _⟩, by repeat (first | exact Drawn0.refl _ | apply Drawn0.step)⟩
  case round =>
    clear H'
    obtain ⟨x3_1, x8_1, rfl, rfl, HA, HK1, ⟨m1, rfl⟩⟩ := hrel
    cases gk with
    | zero => exact absurd HA.out (by simp [ring_rises.l0])
    | succ k1 =>
      have H := HA.out
      clear HA
      simp only [ring_rises.l0] at H
      by_cases c2 : x8_1 < (l0.length : Int)
      · rw [if_pos c2] at H
        have c2b0 : decide (x8_1 < (l0.length : Int)) = true := decide_eq_true c2
        clear c2
        by_cases c3 : 0 ≤ x8_1
        · rw [if_pos c3] at H
          have c3b0 : decide (0 ≤ x8_1) = true := decide_eq_true c3
          clear c3
          by_cases c4 : x8_1 < (l0.length : Int)
          · rw [if_pos c4] at H
            have c4b0 : decide (x8_1 < (l0.length : Int)) = true := decide_eq_true c4
            clear c4
            by_cases c5 : (rd l0 x8_1) ≤ x3_1
            · rw [if_pos c5] at H
              have c5b0 : decide ((rd l0 x8_1) ≤ x3_1) = true := decide_eq_true c5
              clear c5
              obtain rfl := Option.some.inj H
              have p108 : 0 ≤ (x8_1 : Int) := of_decide_eq_true (by first | (with_reducible assumption) | assumption)
              have q108 : x8_1 < (l0.length : Int) := of_decide_eq_true (by first | (with_reducible assumption) | assumption)
              obtain ⟨ad108, e108, hx108_0⟩ := Kd.at_int HR0.out x8_1 p108 q108
              cases e108
              replace p108 := eq_true p108
              replace q108 := eq_true q108
              go_wp2
              go_ret
              exact ⟨by first | rfl | (simp; done) | (simp [*]; done), by repeat (first | exact Drawn0.refl _ | apply Drawn0.step)⟩
            · rw [if_neg c5] at H
              have c5b0 : decide ((rd l0 x8_1) ≤ x3_1) = false := decide_eq_false c5
              clear c5
              by_cases c6 : (rd l0 x8_1) > 1048575
              · rw [if_pos c6] at H
                have c6b0 : decide (1048575 < (rd l0 x8_1)) = true := decide_eq_true c6
                clear c6
                obtain rfl := Option.some.inj H
                have p108 : 0 ≤ (x8_1 : Int) := of_decide_eq_true (by first | (with_reducible assumption) | assumption)
                have q108 : x8_1 < (l0.length : Int) := of_decide_eq_true (by first | (with_reducible assumption) | assumption)
                obtain ⟨ad108, e108, hx108_0⟩ := Kd.at_int HR0.out x8_1 p108 q108
                cases e108
                replace p108 := eq_true p108
                replace q108 := eq_true q108
                go_wp2
                go_ret
                exact ⟨by first | rfl | (simp; done) | (simp [*]; done), by repeat (first | exact Drawn0.refl _ | apply Drawn0.step)⟩
              · rw [if_neg c6] at H
                have c6b0 : decide (1048575 < (rd l0 x8_1)) = false := decide_eq_false c6
                clear c6
                have H' := Aside0.mk H
                clear H
                have p108 : 0 ≤ (x8_1 : Int) := of_decide_eq_true (by first | (with_reducible assumption) | assumption)
                have q108 : x8_1 < (l0.length : Int) := of_decide_eq_true (by first | (with_reducible assumption) | assumption)
                obtain ⟨ad108, e108, hx108_0⟩ := Kd.at_int HR0.out x8_1 p108 q108
                cases e108
                replace p108 := eq_true p108
                replace q108 := eq_true q108
                go_wp2
                go_roundg k1
                case measure => have := HK1.out; omega
                case rel => exact ⟨(rd l0 x8_1), (wrap64 (x8_1 + 1)), (by first | rfl | (simp; done) | (simp [*]; done)), (by first | rfl | (simp; done) | (simp [*]; done)), H', ⟨by have := HK1.out; omega⟩, by repeat (first | exact Drawn0.refl _ | apply Drawn0.step)⟩
          · rw [if_neg c4] at H
            exact absurd H (by simp)
        · rw [if_neg c3] at H
          exact absurd H (by simp)
      · rw [if_neg c2] at H
        have c2b0 : decide (x8_1 < (l0.length : Int)) = false := decide_eq_false c2
        clear c2
        obtain rfl := Option.some.inj H
        go_wp2
        go_ret
        exact ⟨by first | rfl | (simp; done) | (simp [*]; done), by repeat (first | exact Drawn0.refl _ | apply Drawn0.step)⟩
end Go.Proofs.Yteocngcojijnkaa.QH
namespace Go.Proofs.Yteocngcojijnkaa.QH
open Go.RowKit Go.Proofs.YteocngcojijnkaaW.PrintWords Go.Proofs.YteocngcojijnkaaW.PrintLast Go.Proofs.YteocngcojijnkaaW.PrintMore
attribute [local go_sem] max2_int min2_int max_two min_two max_three min_three max_four min_four   -- for this text's walks alone
set_option linter.unusedVariables false
set_option linter.unusedSimpArgs false
/-! ### ring_Check: function 49 -/
def ring_Check.f (k : Nat) (l0_0 : List Int) (a0_1 : Int) (a0_2 : Int) : Option (Int) := if (l0_0.length : Int) = 0 then (some 2) else (if (l0_0.length : Int) > 64 then (some 2) else ((ring_rises.f k l0_0).bind fun t110 => (if t110 = true then (if a0_1 < 1 then (some 2) else (if a0_1 > 64 then (some 2) else (if a0_2 < 1 then (some 2) else (if a0_2 > (l0_0.length : Int) then (some 2) else (some 0))))) else (some 2))))
set_option maxHeartbeats 8000000 in
set_option maxRecDepth 100000 in
theorem ring_Check.calls (k : Nat) (A0_0 : Option Addr) (c0_0 : Nat) (l0_0 : List Int) (a0_1 : Int) (a0_2 : Int) (r : Int) (w : World) (hr0_0 : Kd.C (Kd.int .i64) w A0_0 l0_0.length l0_0) (hc0_0 : l0_0.length ≤ c0_0) (h : ring_Check.f k l0_0 a0_1 a0_2 = some r) :
    Calls Try.prog 49 #[.agg #[.slice A0_0 l0_0.length c0_0, .int .i64 a0_1, .int .i64 a0_2]] w fun e w' => e = .returned (.int .i64 r) ∧ Below w.heap.size w w' := by
  have hu42 := Try.underlying42
  have HR0_0 := Aside0.mk hr0_0
  have HC0_0 := Aside0.mk hc0_0
  clear hr0_0 hc0_0
  have HB := Aside0.mk (Below.refl w.heap.size w)
  have H : (if (l0_0.length : Int) = 0 then (some 2) else (if (l0_0.length : Int) > 64 then (some 2) else ((ring_rises.f k l0_0).bind fun t110 => (if t110 = true then (if a0_1 < 1 then (some 2) else (if a0_1 > 64 then (some 2) else (if a0_2 < 1 then (some 2) else (if a0_2 > (l0_0.length : Int) then (some 2) else (some 0))))) else (some 2))))) = some r := h
  clear h
  by_cases c2 : (l0_0.length : Int) = 0
  · rw [if_pos c2] at H
    have c2b0 : ((l0_0.length : Int) == 0) = true := beq_iff_eq.mpr c2
    have c2b1 : ((l0_0.length : Int) != 0) = false := bne_eq_false_iff_eq.mpr c2
    clear c2
    obtain rfl := Option.some.inj H
    go_enter Try.func49, Try.ntmps49
    go_wp2_with (first | ((with_reducible refine gate_dst (N := 1) rfl ?_); (try (refine gate_guard (by rfl) ?_; dsimp only)); refine box_event ?hg (N := 1) ?hd (cs := #[.slice A0_0 l0_0.length c0_0, .int .i64 a0_1, .int .i64 a0_2]) (t := 42) ?hr ?_; (case hd => rfl); (case hg => rfl); (case hr => first | (go_simp; done) | (go_simp; rfl)); intro gb109 hg w3 hbox hb; have n0_ := Aside0.mk (below_step (by repeat (first | (with_reducible first | exact HB.out | apply below_alloc | apply pw_below_drewN | apply below_drew1) | exact HB.out)) hb); have n1_ := Aside0.mk (hbox); have n2_ := Aside0.mk ((by rw [hg]; exact (below_size (by repeat (first | (with_reducible first | exact HB.out | apply below_alloc | apply pw_below_drewN | apply below_drew1) | exact HB.out))) : w.heap.size ≤ gb109)); have n3_ := Aside0.mk ((by rw [hg]; exact (below_size (by repeat (first | (with_reducible first | exact HB.out | apply below_alloc | apply pw_below_drewN | apply below_drew1) | exact HB.out))) : w.heap.size ≤ gb109)); clear HB; have HB := n0_; have BK109 := n1_; have GW109 := n2_; have GE109 := n3_; clear n0_ n1_ n2_ n3_; clear hb hbox hg; have hcz4_0 : w3.cell? ⟨gb109, 0, none⟩ = some (.slice A0_0 l0_0.length c0_0) := (blk_cell BK109.out 0).trans rfl; have hcz4_1 : w3.cell? ⟨gb109, 1, none⟩ = some (.int .i64 a0_1) := (blk_cell BK109.out 1).trans rfl; have hcz4_2 : w3.cell? ⟨gb109, 2, none⟩ = some (.int .i64 a0_2) := (blk_cell BK109.out 2).trans rfl; have hfz4_0 := blk_frozen BK109.out 0; have hfz4_1 := blk_frozen BK109.out 1; have hfz4_2 := blk_frozen BK109.out 2))
    go_ret
    exact ⟨by first | rfl | (simp [errW_none, errW_some] <;> rfl) | (simp [*, errW_none, errW_some] <;> rfl), by repeat (first | (with_reducible first | exact HB.out | apply below_alloc | apply pw_below_drewN | apply below_drew1 | refine below_set ?_ GE109.out) | exact HB.out)⟩
  · rw [if_neg c2] at H
    have c2b0 : ((l0_0.length : Int) == 0) = false := beq_eq_false_iff_ne.mpr c2
    have c2b1 : ((l0_0.length : Int) != 0) = true := bne_iff_ne.mpr c2
    have c2b2 : ¬ (l0_0 = []) := fun h_ => c2 (by rw [h_]; rfl)
    by_cases c5 : (l0_0.length : Int) > 64
    · rw [if_pos c5] at H
      have c5b0 : decide (64 < (l0_0.length : Int)) = true := decide_eq_true c5
      have c5b1 : decide (64 < l0_0.length) = true := decide_eq_true (by omega)
      clear c5
      obtain rfl := Option.some.inj H
      go_enter Try.func49, Try.ntmps49
      go_wp2_with (first | ((with_reducible refine gate_dst (N := 1) rfl ?_); (try (refine gate_guard (by rfl) ?_; dsimp only)); refine box_event ?hg (N := 1) ?hd (cs := #[.slice A0_0 l0_0.length c0_0, .int .i64 a0_1, .int .i64 a0_2]) (t := 42) ?hr ?_; (case hd => rfl); (case hg => rfl); (case hr => first | (go_simp; done) | (go_simp; rfl)); intro gb109 hg w6 hbox hb; have n0_ := Aside0.mk (below_step (by repeat (first | (with_reducible first | exact HB.out | apply below_alloc | apply pw_below_drewN | apply below_drew1) | exact HB.out)) hb); have n1_ := Aside0.mk (hbox); have n2_ := Aside0.mk ((by rw [hg]; exact (below_size (by repeat (first | (with_reducible first | exact HB.out | apply below_alloc | apply pw_below_drewN | apply below_drew1) | exact HB.out))) : w.heap.size ≤ gb109)); have n3_ := Aside0.mk ((by rw [hg]; exact (below_size (by repeat (first | (with_reducible first | exact HB.out | apply below_alloc | apply pw_below_drewN | apply below_drew1) | exact HB.out))) : w.heap.size ≤ gb109)); clear HB; have HB := n0_; have BK109 := n1_; have GW109 := n2_; have GE109 := n3_; clear n0_ n1_ n2_ n3_; clear hb hbox hg; have hcz7_0 : w6.cell? ⟨gb109, 0, none⟩ = some (.slice A0_0 l0_0.length c0_0) := (blk_cell BK109.out 0).trans rfl; have hcz7_1 : w6.cell? ⟨gb109, 1, none⟩ = some (.int .i64 a0_1) := (blk_cell BK109.out 1).trans rfl; have hcz7_2 : w6.cell? ⟨gb109, 2, none⟩ = some (.int .i64 a0_2) := (blk_cell BK109.out 2).trans rfl; have hfz7_0 := blk_frozen BK109.out 0; have hfz7_1 := blk_frozen BK109.out 1; have hfz7_2 := blk_frozen BK109.out 2))
      go_ret
      exact ⟨by first | rfl | (simp [errW_none, errW_some] <;> rfl) | (simp [*, errW_none, errW_some] <;> rfl), by repeat (first | (with_reducible first | exact HB.out | apply below_alloc | apply pw_below_drewN | apply below_drew1 | refine below_set ?_ GE109.out) | exact HB.out)⟩
    · rw [if_neg c5] at H
      have c5b0 : decide (64 < (l0_0.length : Int)) = false := decide_eq_false c5
      have c5b1 : decide (64 < l0_0.length) = false := decide_eq_false (by omega)
      clear c5
      replace H := Option.bind_eq_some_iff.mp H
      obtain ⟨t110, A80, H⟩ := H
      replace H : (if t110 = true then (if a0_1 < 1 then (some 2) else (if a0_1 > 64 then (some 2) else (if a0_2 < 1 then (some 2) else (if a0_2 > (l0_0.length : Int) then (some 2) else (some 0))))) else (some 2)) = some r := H
      have A8 := Aside0.mk A80
      clear A80
      by_cases c9 : t110 = true
      · subst c9
        have H1 : (if a0_1 < 1 then (some 2) else (if a0_1 > 64 then (some 2) else (if a0_2 < 1 then (some 2) else (if a0_2 > (l0_0.length : Int) then (some 2) else (some 0))))) = some r := by rw [if_pos rfl] at H; exact H
        clear H
        have H := H1
        clear H1
        by_cases c10 : a0_1 < 1
        · rw [if_pos c10] at H
          have c10b0 : decide (a0_1 < 1) = true := decide_eq_true c10
          clear c10
          obtain rfl := Option.some.inj H
          go_enter Try.func49, Try.ntmps49
          go_wp2_with (first | ((with_reducible refine gate_dst (N := 1) rfl ?_); (try (refine gate_guard (by rfl) ?_; dsimp only)); refine box_event ?hg (N := 1) ?hd (cs := #[.slice A0_0 l0_0.length c0_0, .int .i64 a0_1, .int .i64 a0_2]) (t := 42) ?hr ?_; (case hd => rfl); (case hg => rfl); (case hr => first | (go_simp; done) | (go_simp; rfl)); intro gb109 hg w11 hbox hb; have n0_ := Aside0.mk (below_step (by repeat (first | (with_reducible first | exact HB.out | apply below_alloc | apply pw_below_drewN | apply below_drew1) | exact HB.out)) hb); have n1_ := Aside0.mk (hbox); have n2_ := Aside0.mk ((by rw [hg]; exact (below_size (by repeat (first | (with_reducible first | exact HB.out | apply below_alloc | apply pw_below_drewN | apply below_drew1) | exact HB.out))) : w.heap.size ≤ gb109)); have n3_ := Aside0.mk ((by rw [hg]; exact (below_size (by repeat (first | (with_reducible first | exact HB.out | apply below_alloc | apply pw_below_drewN | apply below_drew1) | exact HB.out))) : w.heap.size ≤ gb109)); clear HB; have HB := n0_; have BK109 := n1_; have GW109 := n2_; have GE109 := n3_; clear n0_ n1_ n2_ n3_; clear hb hbox hg; have hcz12_0 : w11.cell? ⟨gb109, 0, none⟩ = some (.slice A0_0 l0_0.length c0_0) := (blk_cell BK109.out 0).trans rfl; have hcz12_1 : w11.cell? ⟨gb109, 1, none⟩ = some (.int .i64 a0_1) := (blk_cell BK109.out 1).trans rfl; have hcz12_2 : w11.cell? ⟨gb109, 2, none⟩ = some (.int .i64 a0_2) := (blk_cell BK109.out 2).trans rfl; have hfz12_0 := blk_frozen BK109.out 0; have hfz12_1 := blk_frozen BK109.out 1; have hfz12_2 := blk_frozen BK109.out 2) | (go_at_call 60; (with_reducible refine (ring_rises.calls k _ _ l0_0 true _ ?side1 ?side2 A8.out).mono ?_); (case side1 => repeat (first | exact (Kd.C_below HR0_0.out HB.out) | (with_reducible refine Kd.C_alloc ?_ _) | (with_reducible refine Kd.C_drewN ?_ _) | (with_reducible refine Kd.C_drew ?_))); (case side2 => exact HC0_0.out); rintro e w' ⟨rfl, ⟨nd, rfl⟩⟩))
          go_ret
          exact ⟨by first | rfl | (simp [errW_none, errW_some] <;> rfl) | (simp [*, errW_none, errW_some] <;> rfl), by repeat (first | (with_reducible first | exact HB.out | apply below_alloc | apply pw_below_drewN | apply below_drew1 | refine below_set ?_ GE109.out) | exact HB.out)⟩
        · rw [if_neg c10] at H
          have c10b0 : decide (a0_1 < 1) = false := decide_eq_false c10
          clear c10
          by_cases c13 : a0_1 > 64
          · rw [if_pos c13] at H
            have c13b0 : decide (64 < a0_1) = true := decide_eq_true c13
            clear c13
            obtain rfl := Option.some.inj H
            go_enter Try.func49, Try.ntmps49
            go_wp2_with (first | ((with_reducible refine gate_dst (N := 1) rfl ?_); (try (refine gate_guard (by rfl) ?_; dsimp only)); refine box_event ?hg (N := 1) ?hd (cs := #[.slice A0_0 l0_0.length c0_0, .int .i64 a0_1, .int .i64 a0_2]) (t := 42) ?hr ?_; (case hd => rfl); (case hg => rfl); (case hr => first | (go_simp; done) | (go_simp; rfl)); intro gb109 hg w14 hbox hb; have n0_ := Aside0.mk (below_step (by repeat (first | (with_reducible first | exact HB.out | apply below_alloc | apply pw_below_drewN | apply below_drew1) | exact HB.out)) hb); have n1_ := Aside0.mk (hbox); have n2_ := Aside0.mk ((by rw [hg]; exact (below_size (by repeat (first | (with_reducible first | exact HB.out | apply below_alloc | apply pw_below_drewN | apply below_drew1) | exact HB.out))) : w.heap.size ≤ gb109)); have n3_ := Aside0.mk ((by rw [hg]; exact (below_size (by repeat (first | (with_reducible first | exact HB.out | apply below_alloc | apply pw_below_drewN | apply below_drew1) | exact HB.out))) : w.heap.size ≤ gb109)); clear HB; have HB := n0_; have BK109 := n1_; have GW109 := n2_; have GE109 := n3_; clear n0_ n1_ n2_ n3_; clear hb hbox hg; have hcz15_0 : w14.cell? ⟨gb109, 0, none⟩ = some (.slice A0_0 l0_0.length c0_0) := (blk_cell BK109.out 0).trans rfl; have hcz15_1 : w14.cell? ⟨gb109, 1, none⟩ = some (.int .i64 a0_1) := (blk_cell BK109.out 1).trans rfl; have hcz15_2 : w14.cell? ⟨gb109, 2, none⟩ = some (.int .i64 a0_2) := (blk_cell BK109.out 2).trans rfl; have hfz15_0 := blk_frozen BK109.out 0; have hfz15_1 := blk_frozen BK109.out 1; have hfz15_2 := blk_frozen BK109.out 2) | (go_at_call 60; (with_reducible refine (ring_rises.calls k _ _ l0_0 true _ ?side1 ?side2 A8.out).mono ?_); (case side1 => repeat (first | exact (Kd.C_below HR0_0.out HB.out) | (with_reducible refine Kd.C_alloc ?_ _) | (with_reducible refine Kd.C_drewN ?_ _) | (with_reducible refine Kd.C_drew ?_))); (case side2 => exact HC0_0.out); rintro e w' ⟨rfl, ⟨nd, rfl⟩⟩))
            go_ret
            exact ⟨by first | rfl | (simp [errW_none, errW_some] <;> rfl) | (simp [*, errW_none, errW_some] <;> rfl), by repeat (first | (with_reducible first | exact HB.out | apply below_alloc | apply pw_below_drewN | apply below_drew1 | refine below_set ?_ GE109.out) | exact HB.out)⟩
          · rw [if_neg c13] at H
            have c13b0 : decide (64 < a0_1) = false := decide_eq_false c13
            clear c13
            by_cases c16 : a0_2 < 1
            · rw [if_pos c16] at H
              have c16b0 : decide (a0_2 < 1) = true := decide_eq_true c16
              clear c16
              obtain rfl := Option.some.inj H
              go_enter Try.func49, Try.ntmps49
              go_wp2_with (first | ((with_reducible refine gate_dst (N := 1) rfl ?_); (try (refine gate_guard (by rfl) ?_; dsimp only)); refine box_event ?hg (N := 1) ?hd (cs := #[.slice A0_0 l0_0.length c0_0, .int .i64 a0_1, .int .i64 a0_2]) (t := 42) ?hr ?_; (case hd => rfl); (case hg => rfl); (case hr => first | (go_simp; done) | (go_simp; rfl)); intro gb109 hg w17 hbox hb; have n0_ := Aside0.mk (below_step (by repeat (first | (with_reducible first | exact HB.out | apply below_alloc | apply pw_below_drewN | apply below_drew1) | exact HB.out)) hb); have n1_ := Aside0.mk (hbox); have n2_ := Aside0.mk ((by rw [hg]; exact (below_size (by repeat (first | (with_reducible first | exact HB.out | apply below_alloc | apply pw_below_drewN | apply below_drew1) | exact HB.out))) : w.heap.size ≤ gb109)); have n3_ := Aside0.mk ((by rw [hg]; exact (below_size (by repeat (first | (with_reducible first | exact HB.out | apply below_alloc | apply pw_below_drewN | apply below_drew1) | exact HB.out))) : w.heap.size ≤ gb109)); clear HB; have HB := n0_; have BK109 := n1_; have GW109 := n2_; have GE109 := n3_; clear n0_ n1_ n2_ n3_; clear hb hbox hg; have hcz18_0 : w17.cell? ⟨gb109, 0, none⟩ = some (.slice A0_0 l0_0.length c0_0) := (blk_cell BK109.out 0).trans rfl; have hcz18_1 : w17.cell? ⟨gb109, 1, none⟩ = some (.int .i64 a0_1) := (blk_cell BK109.out 1).trans rfl; have hcz18_2 : w17.cell? ⟨gb109, 2, none⟩ = some (.int .i64 a0_2) := (blk_cell BK109.out 2).trans rfl; have hfz18_0 := blk_frozen BK109.out 0; have hfz18_1 := blk_frozen BK109.out 1; have hfz18_2 := blk_frozen BK109.out 2) | (go_at_call 60; (with_reducible refine (ring_rises.calls k _ _ l0_0 true _ ?side1 ?side2 A8.out).mono ?_); (case side1 => repeat (first | exact (Kd.C_below HR0_0.out HB.out) | (with_reducible refine Kd.C_alloc ?_ _) | (with_reducible refine Kd.C_drewN ?_ _) | (with_reducible refine Kd.C_drew ?_))); (case side2 => exact HC0_0.out); rintro e w' ⟨rfl, ⟨nd, rfl⟩⟩))
              go_ret
              exact ⟨by first | rfl | (simp [errW_none, errW_some] <;> rfl) | (simp [*, errW_none, errW_some] <;> rfl), by repeat (first | (with_reducible first | exact HB.out | apply below_alloc | apply pw_below_drewN | apply below_drew1 | refine below_set ?_ GE109.out) | exact HB.out)⟩
            · rw [if_neg c16] at H
              have c16b0 : decide (a0_2 < 1) = false := decide_eq_false c16
              clear c16
              by_cases c19 : a0_2 > (l0_0.length : Int)
              · rw [if_pos c19] at H
                have c19b0 : decide ((l0_0.length : Int) < a0_2) = true := decide_eq_true c19
                clear c19
                obtain rfl := Option.some.inj H
                go_enter Try.func49, Try.ntmps49
                go_wp2_with (first | ((with_reducible refine gate_dst (N := 1) rfl ?_); (try (refine gate_guard (by rfl) ?_; dsimp only)); refine box_event ?hg (N := 1) ?hd (cs := #[.slice A0_0 l0_0.length c0_0, .int .i64 a0_1, .int .i64 a0_2]) (t := 42) ?hr ?_; (case hd => rfl); (case hg => rfl); (case hr => first | (go_simp; done) | (go_simp; rfl)); intro gb109 hg w20 hbox hb; have n0_ := Aside0.mk (below_step (by repeat (first | (with_reducible first | exact HB.out | apply below_alloc | apply pw_below_drewN | apply below_drew1) | exact HB.out)) hb); have n1_ := Aside0.mk (hbox); have n2_ := Aside0.mk ((by rw [hg]; exact (below_size (by repeat (first | (with_reducible first | exact HB.out | apply below_alloc | apply pw_below_drewN | apply below_drew1) | exact HB.out))) : w.heap.size ≤ gb109)); have n3_ := Aside0.mk ((by rw [hg]; exact (below_size (by repeat (first | (with_reducible first | exact HB.out | apply below_alloc | apply pw_below_drewN | apply below_drew1) | exact HB.out))) : w.heap.size ≤ gb109)); clear HB; have HB := n0_; have BK109 := n1_; have GW109 := n2_; have GE109 := n3_; clear n0_ n1_ n2_ n3_; clear hb hbox hg; have hcz21_0 : w20.cell? ⟨gb109, 0, none⟩ = some (.slice A0_0 l0_0.length c0_0) := (blk_cell BK109.out 0).trans rfl; have hcz21_1 : w20.cell? ⟨gb109, 1, none⟩ = some (.int .i64 a0_1) := (blk_cell BK109.out 1).trans rfl; have hcz21_2 : w20.cell? ⟨gb109, 2, none⟩ = some (.int .i64 a0_2) := (blk_cell BK109.out 2).trans rfl; have hfz21_0 := blk_frozen BK109.out 0; have hfz21_1 := blk_frozen BK109.out 1; have hfz21_2 := blk_frozen BK109.out 2) | (go_at_call 60; (with_reducible refine (ring_rises.calls k _ _ l0_0 true _ ?side1 ?side2 A8.out).mono ?_); (case side1 => repeat (first | exact (Kd.C_below HR0_0.out HB.out) | (with_reducible refine Kd.C_alloc ?_ _) | (with_reducible refine Kd.C_drewN ?_ _) | (with_reducible refine Kd.C_drew ?_))); (case side2 => exact HC0_0.out); rintro e w' ⟨rfl, ⟨nd, rfl⟩⟩))
                go_ret
                exact ⟨by first | rfl | (simp [errW_none, errW_some] <;> rfl) | (simp [*, errW_none, errW_some] <;> rfl), by repeat (first | (with_reducible first | exact HB.out | apply below_alloc | apply pw_below_drewN | apply below_drew1 | refine below_set ?_ GE109.out) | exact HB.out)⟩
              · rw [if_neg c19] at H
                have c19b0 : decide ((l0_0.length : Int) < a0_2) = false := decide_eq_false c19
                clear c19
                obtain rfl := Option.some.inj H
                go_enter Try.func49, Try.ntmps49
                go_wp2_with (first | ((with_reducible refine gate_dst (N := 1) rfl ?_); (try (refine gate_guard (by rfl) ?_; dsimp only)); refine box_event ?hg (N := 1) ?hd (cs := #[.slice A0_0 l0_0.length c0_0, .int .i64 a0_1, .int .i64 a0_2]) (t := 42) ?hr ?_; (case hd => rfl); (case hg => rfl); (case hr => first | (go_simp; done) | (go_simp; rfl)); intro gb109 hg w22 hbox hb; have n0_ := Aside0.mk (below_step (by repeat (first | (with_reducible first | exact HB.out | apply below_alloc | apply pw_below_drewN | apply below_drew1) | exact HB.out)) hb); have n1_ := Aside0.mk (hbox); have n2_ := Aside0.mk ((by rw [hg]; exact (below_size (by repeat (first | (with_reducible first | exact HB.out | apply below_alloc | apply pw_below_drewN | apply below_drew1) | exact HB.out))) : w.heap.size ≤ gb109)); have n3_ := Aside0.mk ((by rw [hg]; exact (below_size (by repeat (first | (with_reducible first | exact HB.out | apply below_alloc | apply pw_below_drewN | apply below_drew1) | exact HB.out))) : w.heap.size ≤ gb109)); clear HB; have HB := n0_; have BK109 := n1_; have GW109 := n2_; have GE109 := n3_; clear n0_ n1_ n2_ n3_; clear hb hbox hg; have hcz23_0 : w22.cell? ⟨gb109, 0, none⟩ = some (.slice A0_0 l0_0.length c0_0) := (blk_cell BK109.out 0).trans rfl; have hcz23_1 : w22.cell? ⟨gb109, 1, none⟩ = some (.int .i64 a0_1) := (blk_cell BK109.out 1).trans rfl; have hcz23_2 : w22.cell? ⟨gb109, 2, none⟩ = some (.int .i64 a0_2) := (blk_cell BK109.out 2).trans rfl; have hfz23_0 := blk_frozen BK109.out 0; have hfz23_1 := blk_frozen BK109.out 1; have hfz23_2 := blk_frozen BK109.out 2) | (go_at_call 60; (with_reducible refine (ring_rises.calls k _ _ l0_0 true _ ?side1 ?side2 A8.out).mono ?_); (case side1 => repeat (first | exact (Kd.C_below HR0_0.out HB.out) | (with_reducible refine Kd.C_alloc ?_ _) | (with_reducible refine Kd.C_drewN ?_ _) | (with_reducible refine Kd.C_drew ?_))); (case side2 => exact HC0_0.out); rintro e w' ⟨rfl, ⟨nd, rfl⟩⟩))
                go_ret
                exact ⟨by first | rfl | (simp [errW_none, errW_some] <;> rfl) | (simp [*, errW_none, errW_some] <;> rfl), by repeat (first | (with_reducible first | exact HB.out | apply below_alloc | apply pw_below_drewN | apply below_drew1 | refine below_set ?_ GE109.out) | exact HB.out)⟩
      · replace c9 := Bool.eq_false_iff.mpr c9
        subst c9
        have H1 : (some 2) = some r := by rw [if_neg (show ¬ (false = true) by decide)] at H; exact H
        clear H
        have H := H1
        clear H1
        obtain rfl := Option.some.inj H
        go_enter Try.func49, Try.ntmps49
        go_wp2_with (first | ((with_reducible refine gate_dst (N := 1) rfl ?_); (try (refine gate_guard (by rfl) ?_; dsimp only)); refine box_event ?hg (N := 1) ?hd (cs := #[.slice A0_0 l0_0.length c0_0, .int .i64 a0_1, .int .i64 a0_2]) (t := 42) ?hr ?_; (case hd => rfl); (case hg => rfl); (case hr => first | (go_simp; done) | (go_simp; rfl)); intro gb109 hg w24 hbox hb; have n0_ := Aside0.mk (below_step (by repeat (first | (with_reducible first | exact HB.out | apply below_alloc | apply pw_below_drewN | apply below_drew1) | exact HB.out)) hb); have n1_ := Aside0.mk (hbox); have n2_ := Aside0.mk ((by rw [hg]; exact (below_size (by repeat (first | (with_reducible first | exact HB.out | apply below_alloc | apply pw_below_drewN | apply below_drew1) | exact HB.out))) : w.heap.size ≤ gb109)); have n3_ := Aside0.mk ((by rw [hg]; exact (below_size (by repeat (first | (with_reducible first | exact HB.out | apply below_alloc | apply pw_below_drewN | apply below_drew1) | exact HB.out))) : w.heap.size ≤ gb109)); clear HB; have HB := n0_; have BK109 := n1_; have GW109 := n2_; have GE109 := n3_; clear n0_ n1_ n2_ n3_; clear hb hbox hg; have hcz25_0 : w24.cell? ⟨gb109, 0, none⟩ = some (.slice A0_0 l0_0.length c0_0) := (blk_cell BK109.out 0).trans rfl; have hcz25_1 : w24.cell? ⟨gb109, 1, none⟩ = some (.int .i64 a0_1) := (blk_cell BK109.out 1).trans rfl; have hcz25_2 : w24.cell? ⟨gb109, 2, none⟩ = some (.int .i64 a0_2) := (blk_cell BK109.out 2).trans rfl; have hfz25_0 := blk_frozen BK109.out 0; have hfz25_1 := blk_frozen BK109.out 1; have hfz25_2 := blk_frozen BK109.out 2) | (go_at_call 60; (with_reducible refine (ring_rises.calls k _ _ l0_0 false _ ?side1 ?side2 A8.out).mono ?_); (case side1 => repeat (first | exact (Kd.C_below HR0_0.out HB.out) | (with_reducible refine Kd.C_alloc ?_ _) | (with_reducible refine Kd.C_drewN ?_ _) | (with_reducible refine Kd.C_drew ?_))); (case side2 => exact HC0_0.out); rintro e w' ⟨rfl, ⟨nd, rfl⟩⟩))
        go_ret
        exact ⟨by first | rfl | (simp [errW_none, errW_some] <;> rfl) | (simp [*, errW_none, errW_some] <;> rfl), by repeat (first | (with_reducible first | exact HB.out | apply below_alloc | apply pw_below_drewN | apply below_drew1 | refine below_set ?_ GE109.out) | exact HB.out)⟩
/-! ### hash_fold: function 72 -/
def hash_fold.f (a0 : Int) : Option (Int) := some (Go.bits .xor .u64 a0 (a0 / 8589934592))
set_option maxHeartbeats 8000000 in
set_option maxRecDepth 100000 in
theorem hash_fold.calls (a0 : Int) (r : Int) (w : World) (h : hash_fold.f a0 = some r) :
    Calls Try.prog 72 #[.int .u64 a0] w fun e w' => e = .returned (.int .u64 r) ∧ Drawn0 w w' := by
  have H : (some (Go.bits .xor .u64 a0 (a0 / 8589934592))) = some r := h
  clear h
  obtain rfl := Option.some.inj H
  go_enter Try.func72, Try.ntmps72
  go_wp2
  go_ret
  exact ⟨by first | rfl | (simp; done) | (simp [*]; done), by repeat (first | exact Drawn0.refl _ | apply Drawn0.step)⟩
/-! ### hash_Stir: function 61 -/
def hash_Stir.f (a0 : Int) : Option (Int) := (hash_fold.f a0).bind fun t111 => ((hash_fold.f (IntKind.u64.wrap (t111 * 18397679294719823053))).bind fun t112 => ((hash_fold.f (IntKind.u64.wrap (t112 * 14181476777654086739))).bind fun t113 => (some t113)))
set_option maxHeartbeats 8000000 in
set_option maxRecDepth 100000 in
theorem hash_Stir.calls (a0 : Int) (r : Int) (w : World) (h : hash_Stir.f a0 = some r) :
    Calls Try.prog 61 #[.int .u64 a0] w fun e w' => e = .returned (.int .u64 r) ∧ Drawn0 w w' := by
  have H : ((hash_fold.f a0).bind fun t111 => ((hash_fold.f (IntKind.u64.wrap (t111 * 18397679294719823053))).bind fun t112 => ((hash_fold.f (IntKind.u64.wrap (t112 * 14181476777654086739))).bind fun t113 => (some t113)))) = some r := h
  clear h
  replace H := Option.bind_eq_some_iff.mp H
  obtain ⟨t111, A20, H⟩ := H
  replace H : ((hash_fold.f (IntKind.u64.wrap (t111 * 18397679294719823053))).bind fun t112 => ((hash_fold.f (IntKind.u64.wrap (t112 * 14181476777654086739))).bind fun t113 => (some t113))) = some r := H
  have A2 := Aside0.mk A20
  clear A20
  replace H := Option.bind_eq_some_iff.mp H
  obtain ⟨t112, A30, H⟩ := H
  replace H : ((hash_fold.f (IntKind.u64.wrap (t112 * 14181476777654086739))).bind fun t113 => (some t113)) = some r := H
  have A3 := Aside0.mk A30
  clear A30
  replace H := Option.bind_eq_some_iff.mp H
  obtain ⟨t113, A40, H⟩ := H
  replace H : (some t113) = some r := H
  have A4 := Aside0.mk A40
  clear A40
  obtain rfl := Option.some.inj H
  go_enter Try.func61, Try.ntmps61
  go_wp2_with (first | ((with_reducible refine gate_callee (f := 72) rfl ?_); refine goesL_ (some 4) rfl rfl Try.func72 (by kernel_rfl) rfl #[.int .u64 a0] rfl (by (try simp only [List.map_toArray, List.map_cons, List.map_nil]); first | done | rfl | (simp only [List.length_drop, List.length_take]; rfl)) ?_; (with_reducible refine (hash_fold.calls a0 t111 _ A2.out).mono ?_); rintro e w' ⟨rfl, ⟨nd, rfl⟩⟩; refine ⟨_, rfl, ?_⟩) | ((with_reducible refine gate_callee (f := 72) rfl ?_); refine goesL_ (some 6) rfl rfl Try.func72 (by kernel_rfl) rfl #[.int .u64 (IntKind.u64.wrap (t111 * 18397679294719823053))] rfl (by (try simp only [List.map_toArray, List.map_cons, List.map_nil]); first | done | rfl | (simp only [List.length_drop, List.length_take]; rfl)) ?_; (with_reducible refine (hash_fold.calls (IntKind.u64.wrap (t111 * 18397679294719823053)) t112 _ A3.out).mono ?_); rintro e w' ⟨rfl, ⟨nd, rfl⟩⟩; refine ⟨_, rfl, ?_⟩) | ((with_reducible refine gate_callee (f := 72) rfl ?_); refine goesL_ (some 8) rfl rfl Try.func72 (by kernel_rfl) rfl #[.int .u64 (IntKind.u64.wrap (t112 * 14181476777654086739))] rfl (by (try simp only [List.map_toArray, List.map_cons, List.map_nil]); first | done | rfl | (simp only [List.length_drop, List.length_take]; rfl)) ?_; (with_reducible refine (hash_fold.calls (IntKind.u64.wrap (t112 * 14181476777654086739)) t113 _ A4.out).mono ?_); rintro e w' ⟨rfl, ⟨nd, rfl⟩⟩; refine ⟨_, rfl, ?_⟩))
  go_ret
  exact ⟨by first | rfl | (simp; done) | (simp [*]; done), by repeat (first | exact Drawn0.refl _ | apply Drawn0.step)⟩
/-! ### hash_Step: function 73 -/
def hash_Step.f (a0 : Int) (a1 : Int) : Option (Int) := some (IntKind.u64.wrap ((Go.bits .xor .u64 a0 (IntKind.u64.wrap (a1))) * 1099511628211))
set_option maxHeartbeats 8000000 in
set_option maxRecDepth 100000 in
theorem hash_Step.calls (a0 : Int) (a1 : Int) (r : Int) (w : World) (h : hash_Step.f a0 a1 = some r) :
    Calls Try.prog 73 #[.int .u64 a0, .int .u8 a1] w fun e w' => e = .returned (.int .u64 r) ∧ Drawn0 w w' := by
  have H : (some (IntKind.u64.wrap ((Go.bits .xor .u64 a0 (IntKind.u64.wrap (a1))) * 1099511628211))) = some r := h
  clear h
  obtain rfl := Option.some.inj H
  go_enter Try.func73, Try.ntmps73
  go_wp2
  go_ret
  exact ⟨by first | rfl | (simp; done) | (simp [*]; done), by repeat (first | exact Drawn0.refl _ | apply Drawn0.step)⟩
/-! ### hash_word: function 63 -/
def hash_word.l0 : Nat → Int → List Int → Int → Option (List Int)
  | 0, _, _, _ => none
  | k + 1, x0, x3, x4 => if x4 ≥ 0 then (if 0 ≤ x4 then (if x3.length < 140737488355328 then (hash_word.l0 k x0 (x3 ++ [(shr .u64 (IntKind.u64.wrap (x0)) x4) % 256]) (wrap64 (x4 - 8))) else (none)) else (none)) else (some x3)
def hash_word.f (k : Nat) (a0 : Int) : Option (List Int) := hash_word.l0 k a0 ([] : List Int) 56
theorem hash_word.mono_l : ∀ k, (∀ y0 y1 y2, LeO (hash_word.l0 k y0 y1 y2) (hash_word.l0 (k + 1) y0 y1 y2))
  | 0 => fun _ _ _ r h => by simp [hash_word.l0] at h
  | k + 1 => by
    have ih0 := hash_word.mono_l k
    · intro y0 y1 y2
      unfold hash_word.l0
      repeat' first
      | (with_reducible exact ih0 _ _ _)
      | (with_reducible exact LeO.refl _)
      | (with_reducible exact LeO.none _)
      | (with_reducible refine LeO.ite ?_ ?_)
      | (with_reducible refine LeO.bind ?_ (fun _ => ?_))
      | exact ih0 _ _ _
      | exact LeO.none _
      | refine LeO.ite ?_ ?_
      | refine LeO.bind ?_ (fun _ => ?_)
set_option maxHeartbeats 8000000 in
set_option maxRecDepth 100000 in
theorem hash_word.calls (k : Nat) (a0 : Int) (r : List Int) (w : World) (h : hash_word.f k a0 = some r) :
    Calls Try.prog 63 #[.int .i64 a0] w fun e w' => ∃ v0_ : Value, e = .returned (v0_) ∧ Kd.R (Kd.int .u8) 5 w' w.heap.size (fun _ => True) v0_ r ∧ Below w.heap.size w w' := by
  have HB := Aside0.mk (Below.refl w.heap.size w)
  have H : (hash_word.l0 k a0 ([] : List Int) 56) = some r := h
  clear h
  have H' := Aside0.mk H
  clear H
  go_enter Try.func63, Try.ntmps63
  go_wp2
  go_loopg [3, 4] k (fun kq v3 v4 w' => ∃ (x3_1 : List Int) (x4_1 : Int), v4 = .int .i64 x4_1 ∧ Aside0 (hash_word.l0 kq a0 x3_1 x4_1 = some r) ∧ Aside0 (kq ≤ k) ∧ Aside0 (Kd.R (Kd.int .u8) 5 w' w.heap.size (fun _ => True) v3 x3_1) ∧ Aside0 (Below w.heap.size w w'))
  case atStart => exact ⟨(([] : List Int)), (56), (by first | rfl | (simp; done) | (simp [*]; done)), H', ⟨Nat.le_refl _⟩, ⟨by first | exact Kd.R_nil _ _ _ _ _ | exact Kd.N_nil _ _ _ _ _ | exact Kd.V_nil _ _ _ _ _ | exact Kd.Q_nil _ _ _ _ _ | exact Kd.S_nil _ _ _ _ _⟩, ⟨by repeat (first | (with_reducible first | exact HB.out | apply below_alloc | apply pw_below_drewN | apply below_drew1) | exact HB.out)⟩⟩
  case round =>
    clear H'
    obtain ⟨x3_1, x4_1, rfl, HA, HK1, HO_3, HB⟩ := hrel
    cases gk with
    | zero => exact absurd HA.out (by simp [hash_word.l0])
    | succ k1 =>
      have H := HA.out
      clear HA
      simp only [hash_word.l0] at H
      by_cases c2 : x4_1 ≥ 0
      · rw [if_pos c2] at H
        have c2b0 : decide (0 ≤ x4_1) = true := decide_eq_true c2
        clear c2
        by_cases c3 : 0 ≤ x4_1
        · rw [if_pos c3] at H
          have c3b0 := eq_true c3
          have c3b1 : decide (0 ≤ x4_1) = true := decide_eq_true c3
          clear c3
          obtain ⟨ji4, hji4⟩ : ∃ j_ : Int, (shr .u64 (IntKind.u64.wrap (a0)) x4_1) = j_ := ⟨_, rfl⟩
          replace H : (if x3_1.length < 140737488355328 then (hash_word.l0 k1 a0 (x3_1 ++ [(ji4) % 256]) (wrap64 (x4_1 - 8))) else (none)) = some r := by first | (rw [hji4] at H; exact H) | (simp only [hji4] at H ⊢; exact H)
          have hji4_ : ((IntKind.u64.wrap (a0)) / 2 ^ min x4_1.toNat 64) = ji4 := hji4
          have hji4z : x4_1 ≤ 64 → ((IntKind.u64.wrap (a0)) / 2 ^ x4_1.toNat) = ji4 := shr_small hji4
          by_cases c5 : x3_1.length < 140737488355328
          · rw [if_pos c5] at H
            have LMc5 := Aside0.mk c5
            clear c5
            obtain ⟨y114, hy114⟩ : ∃ y_ : List Int, y_ = (x3_1 ++ [(ji4) % 256]) := ⟨_, rfl⟩
            replace H : (hash_word.l0 k1 a0 y114 (wrap64 (x4_1 - 8))) = some r := by first | (rw [hy114]; with_reducible exact H) | (have H2_ := (Option.bind_some _ _).symm.trans H; rw [hy114]; with_reducible exact H2_) | (have H2_ := (Option.bind_some _ _).symm.trans H; with_reducible exact H2_) | with_reducible exact H | (rw [hy114]; exact H) | exact H
            have Ny114 := Aside0.mk hy114
            clear hy114
            have H' := Aside0.mk H
            clear H
            go_wp2_with (first | ((with_reducible refine gate_builtin (b := .append) (xs := #[.tmp 9, .tmp 15]) rfl ?_); at_builtin; refine Kd.R_append (Kd.int .u8) (w0 := w) w.heap.size rfl (.tmp 9) (.tmp 15) 88 5 (.int .u8 0) 1 rfl Try.underlying88 info5 rfl (by decide) (by omega) u3 x3_1 ((ji4) % 256) [.int .u8 ((ji4) % 256)] (fun _ => True) (fun _ => False) rfl rfl ?aP (fun _ hk => hk.elim) ?aF ?aO ?aB ?aS ?aL ?_; (case aP => exact rfl); (case aB => exact (by repeat (first | (with_reducible first | exact HB.out | apply below_alloc | apply pw_below_drewN | apply below_drew1) | exact HB.out))); (case aF => exact (fun _ _ => trivial)); (case aO => exact (by (with_reducible repeat (first | apply Kd.R_alloc | apply Kd.R_drewN | apply Kd.R_drew)); exact HO_3.out)); (case aS => exact (below_size (by repeat (first | (with_reducible first | exact HB.out | apply below_alloc | apply pw_below_drewN | apply below_drew1) | exact HB.out)))); (case aL => have := LMc5.out; omega); intro v115 w6 ho hb hg hat; rw [← Ny114.out] at ho; have n0_ := Aside0.mk (hb); have n1_ := Aside0.mk (ho); clear HB; clear HO_3; have HB := n0_; have HO116 := n1_; clear n0_ n1_; clear ho hb hg hat))
            go_roundg k1
            case measure => have := HK1.out; omega
            case rel => exact ⟨(y114), (wrap64 (x4_1 - 8)), (by first | rfl | (simp; done) | (simp [*]; done)), H', ⟨by have := HK1.out; omega⟩, ⟨by (with_reducible repeat (first | apply Kd.R_alloc | apply Kd.R_drewN | apply Kd.R_drew)); exact HO116.out⟩, ⟨by repeat (first | (with_reducible first | exact HB.out | apply below_alloc | apply pw_below_drewN | apply below_drew1) | exact HB.out)⟩⟩
          · rw [if_neg c5] at H
            exact absurd H (by simp)
        · rw [if_neg c3] at H
          exact absurd H (by simp)
      · rw [if_neg c2] at H
        have c2b0 : decide (0 ≤ x4_1) = false := decide_eq_false c2
        clear c2
        obtain rfl := Option.some.inj H
        go_wp2
        go_ret
        exact ⟨_, by first | rfl | (simp [errW_none, errW_some] <;> rfl) | (simp [*, errW_none, errW_some] <;> rfl), by (with_reducible repeat (first | apply Kd.R_alloc | apply Kd.R_drewN | apply Kd.R_drew)); exact HO_3.out, by repeat (first | (with_reducible first | exact HB.out | apply below_alloc | apply pw_below_drewN | apply below_drew1) | exact HB.out)⟩
/-! ### cmp_isNaN_uint64: function 68 -/
def cmp_isNaN_uint64.f (a0 : Int) : Option (Bool) := some (a0 != a0)
set_option maxHeartbeats 8000000 in
set_option maxRecDepth 100000 in
theorem cmp_isNaN_uint64.calls (a0 : Int) (r : Bool) (w : World) (h : cmp_isNaN_uint64.f a0 = some r) :
    Calls Try.prog 68 #[.int .u64 a0] w fun e w' => e = .returned (.bool r) ∧ Drawn0 w w' := by
  have H : (some (a0 != a0)) = some r := h
  clear h
  obtain rfl := Option.some.inj H
  go_enter Try.func68, Try.ntmps68
  go_wp2
  go_ret
  exact ⟨by first | rfl | (simp; done) | (simp [*]; done), by repeat (first | exact Drawn0.refl _ | apply Drawn0.step)⟩
/-! ### cmp_Compare_uint64: function 56 -/
def cmp_Compare_uint64.f (a0 : Int) (a1 : Int) : Option (Int) := (cmp_isNaN_uint64.f a0).bind fun t117 => ((cmp_isNaN_uint64.f a1).bind fun t118 => (if t117 = true then (if t118 = true then (some 0) else (some (-1))) else (if t118 = true then (some 1) else (if a0 < a1 then (some (-1)) else (if a0 > a1 then (some 1) else (some 0))))))
set_option maxHeartbeats 8000000 in
set_option maxRecDepth 100000 in
theorem cmp_Compare_uint64.calls (a0 : Int) (a1 : Int) (r : Int) (w : World) (h : cmp_Compare_uint64.f a0 a1 = some r) :
    Calls Try.prog 56 #[.int .u64 a0, .int .u64 a1] w fun e w' => e = .returned (.int .i64 r) ∧ Drawn0 w w' := by
  have H : ((cmp_isNaN_uint64.f a0).bind fun t117 => ((cmp_isNaN_uint64.f a1).bind fun t118 => (if t117 = true then (if t118 = true then (some 0) else (some (-1))) else (if t118 = true then (some 1) else (if a0 < a1 then (some (-1)) else (if a0 > a1 then (some 1) else (some 0))))))) = some r := h
  clear h
  replace H := Option.bind_eq_some_iff.mp H
  obtain ⟨t117, A30, H⟩ := H
  replace H : ((cmp_isNaN_uint64.f a1).bind fun t118 => (if t117 = true then (if t118 = true then (some 0) else (some (-1))) else (if t118 = true then (some 1) else (if a0 < a1 then (some (-1)) else (if a0 > a1 then (some 1) else (some 0)))))) = some r := H
  have A3 := Aside0.mk A30
  clear A30
  replace H := Option.bind_eq_some_iff.mp H
  obtain ⟨t118, A40, H⟩ := H
  replace H : (if t117 = true then (if t118 = true then (some 0) else (some (-1))) else (if t118 = true then (some 1) else (if a0 < a1 then (some (-1)) else (if a0 > a1 then (some 1) else (some 0))))) = some r := H
  have A4 := Aside0.mk A40
  clear A40
  by_cases c5 : t117 = true
  · subst c5
    have H1 : (if t118 = true then (some 0) else (some (-1))) = some r := by rw [if_pos rfl] at H; exact H
    clear H
    have H := H1
    clear H1
    by_cases c6 : t118 = true
    · subst c6
      have H1 : (some 0) = some r := by rw [if_pos rfl] at H; exact H
      clear H
      have H := H1
      clear H1
      obtain rfl := Option.some.inj H
      go_enter Try.func56, Try.ntmps56
      go_wp2_with (first | ((with_reducible refine gate_callee (f := 68) rfl ?_); refine goesL_ (some 8) rfl rfl Try.func68 (by kernel_rfl) rfl #[.int .u64 a0] rfl (by (try simp only [List.map_toArray, List.map_cons, List.map_nil]); first | done | rfl | (simp only [List.length_drop, List.length_take]; rfl)) ?_; (with_reducible refine (cmp_isNaN_uint64.calls a0 true _ A3.out).mono ?_); rintro e w' ⟨rfl, ⟨nd, rfl⟩⟩; refine ⟨_, rfl, ?_⟩) | ((with_reducible refine gate_callee (f := 68) rfl ?_); refine goesL_ (some 10) rfl rfl Try.func68 (by kernel_rfl) rfl #[.int .u64 a1] rfl (by (try simp only [List.map_toArray, List.map_cons, List.map_nil]); first | done | rfl | (simp only [List.length_drop, List.length_take]; rfl)) ?_; (with_reducible refine (cmp_isNaN_uint64.calls a1 true _ A4.out).mono ?_); rintro e w' ⟨rfl, ⟨nd, rfl⟩⟩; refine ⟨_, rfl, ?_⟩))
      go_ret
      exact ⟨by first | rfl | (simp; done) | (simp [*]; done), by repeat (first | exact Drawn0.refl _ | apply Drawn0.step)⟩
    · replace c6 := Bool.eq_false_iff.mpr c6
      subst c6
      have H1 : (some (-1)) = some r := by rw [if_neg (show ¬ (false = true) by decide)] at H; exact H
      clear H
      have H := H1
      clear H1
      obtain rfl := Option.some.inj H
      go_enter Try.func56, Try.ntmps56
      go_wp2_with (first | ((with_reducible refine gate_callee (f := 68) rfl ?_); refine goesL_ (some 8) rfl rfl Try.func68 (by kernel_rfl) rfl #[.int .u64 a0] rfl (by (try simp only [List.map_toArray, List.map_cons, List.map_nil]); first | done | rfl | (simp only [List.length_drop, List.length_take]; rfl)) ?_; (with_reducible refine (cmp_isNaN_uint64.calls a0 true _ A3.out).mono ?_); rintro e w' ⟨rfl, ⟨nd, rfl⟩⟩; refine ⟨_, rfl, ?_⟩) | ((with_reducible refine gate_callee (f := 68) rfl ?_); refine goesL_ (some 10) rfl rfl Try.func68 (by kernel_rfl) rfl #[.int .u64 a1] rfl (by (try simp only [List.map_toArray, List.map_cons, List.map_nil]); first | done | rfl | (simp only [List.length_drop, List.length_take]; rfl)) ?_; (with_reducible refine (cmp_isNaN_uint64.calls a1 false _ A4.out).mono ?_); rintro e w' ⟨rfl, ⟨nd, rfl⟩⟩; refine ⟨_, rfl, ?_⟩))
      go_ret
      exact ⟨by first | rfl | (simp; done) | (simp [*]; done), by repeat (first | exact Drawn0.refl _ | apply Drawn0.step)⟩
  · replace c5 := Bool.eq_false_iff.mpr c5
    subst c5
    have H1 : (if t118 = true then (some 1) else (if a0 < a1 then (some (-1)) else (if a0 > a1 then (some 1) else (some 0)))) = some r := by rw [if_neg (show ¬ (false = true) by decide)] at H; exact H
    clear H
    have H := H1
    clear H1
    by_cases c7 : t118 = true
    · subst c7
      have H1 : (some 1) = some r := by rw [if_pos rfl] at H; exact H
      clear H
      have H := H1
      clear H1
      obtain rfl := Option.some.inj H
      go_enter Try.func56, Try.ntmps56
      go_wp2_with (first | ((with_reducible refine gate_callee (f := 68) rfl ?_); refine goesL_ (some 8) rfl rfl Try.func68 (by kernel_rfl) rfl #[.int .u64 a0] rfl (by (try simp only [List.map_toArray, List.map_cons, List.map_nil]); first | done | rfl | (simp only [List.length_drop, List.length_take]; rfl)) ?_; (with_reducible refine (cmp_isNaN_uint64.calls a0 false _ A3.out).mono ?_); rintro e w' ⟨rfl, ⟨nd, rfl⟩⟩; refine ⟨_, rfl, ?_⟩) | ((with_reducible refine gate_callee (f := 68) rfl ?_); refine goesL_ (some 10) rfl rfl Try.func68 (by kernel_rfl) rfl #[.int .u64 a1] rfl (by (try simp only [List.map_toArray, List.map_cons, List.map_nil]); first | done | rfl | (simp only [List.length_drop, List.length_take]; rfl)) ?_; (with_reducible refine (cmp_isNaN_uint64.calls a1 true _ A4.out).mono ?_); rintro e w' ⟨rfl, ⟨nd, rfl⟩⟩; refine ⟨_, rfl, ?_⟩))
      go_ret
      exact ⟨by first | rfl | (simp; done) | (simp [*]; done), by repeat (first | exact Drawn0.refl _ | apply Drawn0.step)⟩
    · replace c7 := Bool.eq_false_iff.mpr c7
      subst c7
      have H1 : (if a0 < a1 then (some (-1)) else (if a0 > a1 then (some 1) else (some 0))) = some r := by rw [if_neg (show ¬ (false = true) by decide)] at H; exact H
      clear H
      have H := H1
      clear H1
      by_cases c8 : a0 < a1
      · rw [if_pos c8] at H
        have c8b0 : decide (a0 < a1) = true := decide_eq_true c8
        clear c8
        obtain rfl := Option.some.inj H
        go_enter Try.func56, Try.ntmps56
        go_wp2_with (first | ((with_reducible refine gate_callee (f := 68) rfl ?_); refine goesL_ (some 8) rfl rfl Try.func68 (by kernel_rfl) rfl #[.int .u64 a0] rfl (by (try simp only [List.map_toArray, List.map_cons, List.map_nil]); first | done | rfl | (simp only [List.length_drop, List.length_take]; rfl)) ?_; (with_reducible refine (cmp_isNaN_uint64.calls a0 false _ A3.out).mono ?_); rintro e w' ⟨rfl, ⟨nd, rfl⟩⟩; refine ⟨_, rfl, ?_⟩) | ((with_reducible refine gate_callee (f := 68) rfl ?_); refine goesL_ (some 10) rfl rfl Try.func68 (by kernel_rfl) rfl #[.int .u64 a1] rfl (by (try simp only [List.map_toArray, List.map_cons, List.map_nil]); first | done | rfl | (simp only [List.length_drop, List.length_take]; rfl)) ?_; (with_reducible refine (cmp_isNaN_uint64.calls a1 false _ A4.out).mono ?_); rintro e w' ⟨rfl, ⟨nd, rfl⟩⟩; refine ⟨_, rfl, ?_⟩))
        go_ret
        exact ⟨by first | rfl | (simp; done) | (simp [*]; done), by repeat (first | exact Drawn0.refl _ | apply Drawn0.step)⟩
      · rw [if_neg c8] at H
        have c8b0 : decide (a0 < a1) = false := decide_eq_false c8
        clear c8
        by_cases c9 : a0 > a1
        · rw [if_pos c9] at H
          have c9b0 : decide (a1 < a0) = true := decide_eq_true c9
          clear c9
          obtain rfl := Option.some.inj H
          go_enter Try.func56, Try.ntmps56
          go_wp2_with (first | ((with_reducible refine gate_callee (f := 68) rfl ?_); refine goesL_ (some 8) rfl rfl Try.func68 (by kernel_rfl) rfl #[.int .u64 a0] rfl (by (try simp only [List.map_toArray, List.map_cons, List.map_nil]); first | done | rfl | (simp only [List.length_drop, List.length_take]; rfl)) ?_; (with_reducible refine (cmp_isNaN_uint64.calls a0 false _ A3.out).mono ?_); rintro e w' ⟨rfl, ⟨nd, rfl⟩⟩; refine ⟨_, rfl, ?_⟩) | ((with_reducible refine gate_callee (f := 68) rfl ?_); refine goesL_ (some 10) rfl rfl Try.func68 (by kernel_rfl) rfl #[.int .u64 a1] rfl (by (try simp only [List.map_toArray, List.map_cons, List.map_nil]); first | done | rfl | (simp only [List.length_drop, List.length_take]; rfl)) ?_; (with_reducible refine (cmp_isNaN_uint64.calls a1 false _ A4.out).mono ?_); rintro e w' ⟨rfl, ⟨nd, rfl⟩⟩; refine ⟨_, rfl, ?_⟩))
          go_ret
          exact ⟨by first | rfl | (simp; done) | (simp [*]; done), by repeat (first | exact Drawn0.refl _ | apply Drawn0.step)⟩
        · rw [if_neg c9] at H
          have c9b0 : decide (a1 < a0) = false := decide_eq_false c9
          clear c9
          obtain rfl := Option.some.inj H
          go_enter Try.func56, Try.ntmps56
          go_wp2_with (first | ((with_reducible refine gate_callee (f := 68) rfl ?_); refine goesL_ (some 8) rfl rfl Try.func68 (by kernel_rfl) rfl #[.int .u64 a0] rfl (by (try simp only [List.map_toArray, List.map_cons, List.map_nil]); first | done | rfl | (simp only [List.length_drop, List.length_take]; rfl)) ?_; (with_reducible refine (cmp_isNaN_uint64.calls a0 false _ A3.out).mono ?_); rintro e w' ⟨rfl, ⟨nd, rfl⟩⟩; refine ⟨_, rfl, ?_⟩) | ((with_reducible refine gate_callee (f := 68) rfl ?_); refine goesL_ (some 10) rfl rfl Try.func68 (by kernel_rfl) rfl #[.int .u64 a1] rfl (by (try simp only [List.map_toArray, List.map_cons, List.map_nil]); first | done | rfl | (simp only [List.length_drop, List.length_take]; rfl)) ?_; (with_reducible refine (cmp_isNaN_uint64.calls a1 false _ A4.out).mono ?_); rintro e w' ⟨rfl, ⟨nd, rfl⟩⟩; refine ⟨_, rfl, ?_⟩))
          go_ret
          exact ⟨by first | rfl | (simp; done) | (simp [*]; done), by repeat (first | exact Drawn0.refl _ | apply Drawn0.step)⟩
/-! ### cmp_Or_int: function 66 -/
def cmp_Or_int.l0 : Nat → Int → List Int → Int → Int → Option (Int)
  | 0, _, _, _, _ => none
  | k + 1, x3, x6, x7, x8 => if x8 < x7 then (if 0 ≤ x8 then (if x8 < (x6.length : Int) then (if (rd x6 x8) = x3 then (cmp_Or_int.l0 k x3 x6 x7 (wrap64 (x8 + 1))) else (some (rd x6 x8))) else (none)) else (none)) else (some x3)
def cmp_Or_int.f (k : Nat) (l0 : List Int) : Option (Int) := cmp_Or_int.l0 k 0 l0 (l0.length : Int) 0
theorem cmp_Or_int.mono_l : ∀ k, (∀ y0 y1 y2 y3, LeO (cmp_Or_int.l0 k y0 y1 y2 y3) (cmp_Or_int.l0 (k + 1) y0 y1 y2 y3))
  | 0 => fun _ _ _ _ r h => by simp [cmp_Or_int.l0] at h
  | k + 1 => by
    have ih0 := cmp_Or_int.mono_l k
    · intro y0 y1 y2 y3
      unfold cmp_Or_int.l0
      repeat' first
      | (with_reducible exact ih0 _ _ _ _)
      | (with_reducible exact LeO.refl _)
      | (with_reducible exact LeO.none _)
      | (with_reducible refine LeO.ite ?_ ?_)
      | (with_reducible refine LeO.bind ?_ (fun _ => ?_))
      | exact ih0 _ _ _ _
      | exact LeO.none _
      | refine LeO.ite ?_ ?_
      | refine LeO.bind ?_ (fun _ => ?_)
set_option maxHeartbeats 8000000 in
set_option maxRecDepth 100000 in
theorem cmp_Or_int.calls (k : Nat) (A0 : Option Addr) (c0 : Nat) (l0 : List Int) (r : Int) (w : World) (hr0 : Kd.C (Kd.int .i64) w A0 l0.length l0) (hc0 : l0.length ≤ c0) (h : cmp_Or_int.f k l0 = some r) :
    Calls Try.prog 66 #[.slice A0 l0.length c0] w fun e w' => e = .returned (.int .i64 r) ∧ Drawn0 w w' := by
  have HR0 := Aside0.mk hr0
  have HC0 := Aside0.mk hc0
  clear hr0 hc0
  have H : (cmp_Or_int.l0 k 0 l0 (l0.length : Int) 0) = some r := h
  clear h
  have H' := Aside0.mk H
  clear H
  go_enter Try.func66, Try.ntmps66
  go_wp2
  go_loopg [8] k (fun kq v8 w' => ∃ (x8_1 : Int), v8 = .int .i64 x8_1 ∧ Aside0 (cmp_Or_int.l0 kq 0 l0 (l0.length : Int) x8_1 = some r) ∧ Aside0 (kq ≤ k) ∧ Drawn0 w w')
  case atStart => exact ⟨(0), (by first | rfl | (simp; done) | (simp [*]; done)), H', ⟨Nat.le_refl _⟩, by repeat (first | exact Drawn0.refl _ | apply Drawn0.step)⟩
  case round =>
    clear H'
    obtain ⟨x8_1, rfl, HA, HK1, ⟨m1, rfl⟩⟩ := hrel
    cases gk with
    | zero => exact absurd HA.out (by simp [cmp_Or_int.l0])
    | succ k1 =>
      have H := HA.out
      clear HA
      simp only [cmp_Or_int.l0] at H
      by_cases c2 : x8_1 < (l0.length : Int)
      · rw [if_pos c2] at H
        have c2b0 : decide (x8_1 < (l0.length : Int)) = true := decide_eq_true c2
        clear c2
        by_cases c3 : 0 ≤ x8_1
        · rw [if_pos c3] at H
          have c3b0 : decide (0 ≤ x8_1) = true := decide_eq_true c3
          clear c3
          by_cases c4 : x8_1 < (l0.length : Int)
          · rw [if_pos c4] at H
            have c4b0 : decide (x8_1 < (l0.length : Int)) = true := decide_eq_true c4
            clear c4
            by_cases c5 : (rd l0 x8_1) = 0
            · rw [if_pos c5] at H
              have c5b0 : ((rd l0 x8_1) == 0) = true := beq_iff_eq.mpr c5
              have c5b1 : ((rd l0 x8_1) != 0) = false := bne_eq_false_iff_eq.mpr c5
              clear c5
              have H' := Aside0.mk H
              clear H
              have p119 : 0 ≤ (x8_1 : Int) := of_decide_eq_true (by first | (with_reducible assumption) | assumption)
              have q119 : x8_1 < (l0.length : Int) := of_decide_eq_true (by first | (with_reducible assumption) | assumption)
              obtain ⟨ad119, e119, hx119_0⟩ := Kd.at_int HR0.out x8_1 p119 q119
              cases e119
              replace p119 := eq_true p119
              replace q119 := eq_true q119
              go_wp2
              go_roundg k1
              case measure => have := HK1.out; omega
              case rel => exact ⟨(wrap64 (x8_1 + 1)), (by first | rfl | (simp; done) | (simp [*]; done)), H', ⟨by have := HK1.out; omega⟩, by repeat (first | exact Drawn0.refl _ | apply Drawn0.step)⟩
            · rw [if_neg c5] at H
              have c5b0 : ((rd l0 x8_1) == 0) = false := beq_eq_false_iff_ne.mpr c5
              have c5b1 : ((rd l0 x8_1) != 0) = true := bne_iff_ne.mpr c5
              obtain rfl := Option.some.inj H
              have p119 : 0 ≤ (x8_1 : Int) := of_decide_eq_true (by first | (with_reducible assumption) | assumption)
              have q119 : x8_1 < (l0.length : Int) := of_decide_eq_true (by first | (with_reducible assumption) | assumption)
              obtain ⟨ad119, e119, hx119_0⟩ := Kd.at_int HR0.out x8_1 p119 q119
              cases e119
              replace p119 := eq_true p119
              replace q119 := eq_true q119
              go_wp2
              go_ret
              exact ⟨by first | rfl | (simp; done) | (simp [*]; done), by repeat (first | exact Drawn0.refl _ | apply Drawn0.step)⟩
          · rw [if_neg c4] at H
            exact absurd H (by simp)
        · rw [if_neg c3] at H
          exact absurd H (by simp)
      · rw [if_neg c2] at H
        have c2b0 : decide (x8_1 < (l0.length : Int)) = false := decide_eq_false c2
        clear c2
        obtain rfl := Option.some.inj H
        go_wp2
        go_ret
        exact ⟨by first | rfl | (simp; done) | (simp [*]; done), by repeat (first | exact Drawn0.refl _ | apply Drawn0.step)⟩
/-! ### cmp_isNaN_int: function 84 -/
def cmp_isNaN_int.f (a0 : Int) : Option (Bool) := some (a0 != a0)
set_option maxHeartbeats 8000000 in
set_option maxRecDepth 100000 in
theorem cmp_isNaN_int.calls (a0 : Int) (r : Bool) (w : World) (h : cmp_isNaN_int.f a0 = some r) :
    Calls Try.prog 84 #[.int .i64 a0] w fun e w' => e = .returned (.bool r) ∧ Drawn0 w w' := by
  have H : (some (a0 != a0)) = some r := h
  clear h
  obtain rfl := Option.some.inj H
  go_enter Try.func84, Try.ntmps84
  go_wp2
  go_ret
  exact ⟨by first | rfl | (simp; done) | (simp [*]; done), by repeat (first | exact Drawn0.refl _ | apply Drawn0.step)⟩
/-! ### cmp_Compare_int: function 67 -/
def cmp_Compare_int.f (a0 : Int) (a1 : Int) : Option (Int) := (cmp_isNaN_int.f a0).bind fun t120 => ((cmp_isNaN_int.f a1).bind fun t121 => (if t120 = true then (if t121 = true then (some 0) else (some (-1))) else (if t121 = true then (some 1) else (if a0 < a1 then (some (-1)) else (if a0 > a1 then (some 1) else (some 0))))))
set_option maxHeartbeats 8000000 in
set_option maxRecDepth 100000 in
theorem cmp_Compare_int.calls (a0 : Int) (a1 : Int) (r : Int) (w : World) (h : cmp_Compare_int.f a0 a1 = some r) :
    Calls Try.prog 67 #[.int .i64 a0, .int .i64 a1] w fun e w' => e = .returned (.int .i64 r) ∧ Drawn0 w w' := by
  have H : ((cmp_isNaN_int.f a0).bind fun t120 => ((cmp_isNaN_int.f a1).bind fun t121 => (if t120 = true then (if t121 = true then (some 0) else (some (-1))) else (if t121 = true then (some 1) else (if a0 < a1 then (some (-1)) else (if a0 > a1 then (some 1) else (some 0))))))) = some r := h
  clear h
  replace H := Option.bind_eq_some_iff.mp H
  obtain ⟨t120, A30, H⟩ := H
  replace H : ((cmp_isNaN_int.f a1).bind fun t121 => (if t120 = true then (if t121 = true then (some 0) else (some (-1))) else (if t121 = true then (some 1) else (if a0 < a1 then (some (-1)) else (if a0 > a1 then (some 1) else (some 0)))))) = some r := H
  have A3 := Aside0.mk A30
  clear A30
  replace H := Option.bind_eq_some_iff.mp H
  obtain ⟨t121, A40, H⟩ := H
  replace H : (if t120 = true then (if t121 = true then (some 0) else (some (-1))) else (if t121 = true then (some 1) else (if a0 < a1 then (some (-1)) else (if a0 > a1 then (some 1) else (some 0))))) = some r := H
  have A4 := Aside0.mk A40
  clear A40
  by_cases c5 : t120 = true
  · subst c5
    have H1 : (if t121 = true then (some 0) else (some (-1))) = some r := by rw [if_pos rfl] at H; exact H
    clear H
    have H := H1
    clear H1
    by_cases c6 : t121 = true
    · subst c6
      have H1 : (some 0) = some r := by rw [if_pos rfl] at H; exact H
      clear H
      have H := H1
      clear H1
      obtain rfl := Option.some.inj H
      go_enter Try.func67, Try.ntmps67
      go_wp2_with (first | ((with_reducible refine gate_callee (f := 84) rfl ?_); refine goesL_ (some 8) rfl rfl Try.func84 (by kernel_rfl) rfl #[.int .i64 a0] rfl (by (try simp only [List.map_toArray, List.map_cons, List.map_nil]); first | done | rfl | (simp only [List.length_drop, List.length_take]; rfl)) ?_; (with_reducible refine (cmp_isNaN_int.calls a0 true _ A3.out).mono ?_); rintro e w' ⟨rfl, ⟨nd, rfl⟩⟩; refine ⟨_, rfl, ?_⟩) | ((with_reducible refine gate_callee (f := 84) rfl ?_); refine goesL_ (some 10) rfl rfl Try.func84 (by kernel_rfl) rfl #[.int .i64 a1] rfl (by (try simp only [List.map_toArray, List.map_cons, List.map_nil]); first | done | rfl | (simp only [List.length_drop, List.length_take]; rfl)) ?_; (with_reducible refine (cmp_isNaN_int.calls a1 true _ A4.out).mono ?_); rintro e w' ⟨rfl, ⟨nd, rfl⟩⟩; refine ⟨_, rfl, ?_⟩))
      go_ret
      exact ⟨by first | rfl | (simp; done) | (simp [*]; done), by repeat (first | exact Drawn0.refl _ | apply Drawn0.step)⟩
    · replace c6 := Bool.eq_false_iff.mpr c6
      subst c6
      have H1 : (some (-1)) = some r := by rw [if_neg (show ¬ (false = true) by decide)] at H; exact H
      clear H
      have H := H1
      clear H1
      obtain rfl := Option.some.inj H
      go_enter Try.func67, Try.ntmps67
      go_wp2_with (first | ((with_reducible refine gate_callee (f := 84) rfl ?_); refine goesL_ (some 8) rfl rfl Try.func84 (by kernel_rfl) rfl #[.int .i64 a0] rfl (by (try simp only [List.map_toArray, List.map_cons, List.map_nil]); first | done | rfl | (simp only [List.length_drop, List.length_take]; rfl)) ?_; (with_reducible refine (cmp_isNaN_int.calls a0 true _ A3.out).mono ?_); rintro e w' ⟨rfl, ⟨nd, rfl⟩⟩; refine ⟨_, rfl, ?_⟩) | ((with_reducible refine gate_callee (f := 84) rfl ?_); refine goesL_ (some 10) rfl rfl Try.func84 (by kernel_rfl) rfl #[.int .i64 a1] rfl (by (try simp only [List.map_toArray, List.map_cons, List.map_nil]); first | done | rfl | (simp only [List.length_drop, List.length_take]; rfl)) ?_; (with_reducible refine (cmp_isNaN_int.calls a1 false _ A4.out).mono ?_); rintro e w' ⟨rfl, ⟨nd, rfl⟩⟩; refine ⟨_, rfl, ?_⟩))
      go_ret
      exact ⟨by first | rfl | (simp; done) | (simp [*]; done), by repeat (first | exact Drawn0.refl _ | apply Drawn0.step)⟩
  · replace c5 := Bool.eq_false_iff.mpr c5
    subst c5
    have H1 : (if t121 = true then (some 1) else (if a0 < a1 then (some (-1)) else (if a0 > a1 then (some 1) else (some 0)))) = some r := by rw [if_neg (show ¬ (false = true) by decide)] at H; exact H
    clear H
    have H := H1
    clear H1
    by_cases c7 : t121 = true
    · subst c7
      have H1 : (some 1) = some r := by rw [if_pos rfl] at H; exact H
      clear H
      have H := H1
      clear H1
      obtain rfl := Option.some.inj H
      go_enter Try.func67, Try.ntmps67
      go_wp2_with (first | ((with_reducible refine gate_callee (f := 84) rfl ?_); refine goesL_ (some 8) rfl rfl Try.func84 (by kernel_rfl) rfl #[.int .i64 a0] rfl (by (try simp only [List.map_toArray, List.map_cons, List.map_nil]); first | done | rfl | (simp only [List.length_drop, List.length_take]; rfl)) ?_; (with_reducible refine (cmp_isNaN_int.calls a0 false _ A3.out).mono ?_); rintro e w' ⟨rfl, ⟨nd, rfl⟩⟩; refine ⟨_, rfl, ?_⟩) | ((with_reducible refine gate_callee (f := 84) rfl ?_); refine goesL_ (some 10) rfl rfl Try.func84 (by kernel_rfl) rfl #[.int .i64 a1] rfl (by (try simp only [List.map_toArray, List.map_cons, List.map_nil]); first | done | rfl | (simp only [List.length_drop, List.length_take]; rfl)) ?_; (with_reducible refine (cmp_isNaN_int.calls a1 true _ A4.out).mono ?_); rintro e w' ⟨rfl, ⟨nd, rfl⟩⟩; refine ⟨_, rfl, ?_⟩))
      go_ret
      exact ⟨by first | rfl | (simp; done) | (simp [*]; done), by repeat (first | exact Drawn0.refl _ | apply Drawn0.step)⟩
    · replace c7 := Bool.eq_false_iff.mpr c7
      subst c7
      have H1 : (if a0 < a1 then (some (-1)) else (if a0 > a1 then (some 1) else (some 0))) = some r := by rw [if_neg (show ¬ (false = true) by decide)] at H; exact H
      clear H
      have H := H1
      clear H1
      by_cases c8 : a0 < a1
      · rw [if_pos c8] at H
        have c8b0 : decide (a0 < a1) = true := decide_eq_true c8
        clear c8
        obtain rfl := Option.some.inj H
        go_enter Try.func67, Try.ntmps67
        go_wp2_with (first | ((with_reducible refine gate_callee (f := 84) rfl ?_); refine goesL_ (some 8) rfl rfl Try.func84 (by kernel_rfl) rfl #[.int .i64 a0] rfl (by (try simp only [List.map_toArray, List.map_cons, List.map_nil]); first | done | rfl | (simp only [List.length_drop, List.length_take]; rfl)) ?_; (with_reducible refine (cmp_isNaN_int.calls a0 false _ A3.out).mono ?_); rintro e w' ⟨rfl, ⟨nd, rfl⟩⟩; refine ⟨_, rfl, ?_⟩) | ((with_reducible refine gate_callee (f := 84) rfl ?_); refine goesL_ (some 10) rfl rfl Try.func84 (by kernel_rfl) rfl #[.int .i64 a1] rfl (by (try simp only [List.map_toArray, List.map_cons, List.map_nil]); first | done | rfl | (simp only [List.length_drop, List.length_take]; rfl)) ?_; (with_reducible refine (cmp_isNaN_int.calls a1 false _ A4.out).mono ?_); rintro e w' ⟨rfl, ⟨nd, rfl⟩⟩; refine ⟨_, rfl, ?_⟩))
        go_ret
        exact ⟨by first | rfl | (simp; done) | (simp [*]; done), by repeat (first | exact Drawn0.refl _ | apply Drawn0.step)⟩
      · rw [if_neg c8] at H
        have c8b0 : decide (a0 < a1) = false := decide_eq_false c8
        clear c8
        by_cases c9 : a0 > a1
        · rw [if_pos c9] at H
          have c9b0 : decide (a1 < a0) = true := decide_eq_true c9
          clear c9
          obtain rfl := Option.some.inj H
          go_enter Try.func67, Try.ntmps67
          go_wp2_with (first | ((with_reducible refine gate_callee (f := 84) rfl ?_); refine goesL_ (some 8) rfl rfl Try.func84 (by kernel_rfl) rfl #[.int .i64 a0] rfl (by (try simp only [List.map_toArray, List.map_cons, List.map_nil]); first | done | rfl | (simp only [List.length_drop, List.length_take]; rfl)) ?_; (with_reducible refine (cmp_isNaN_int.calls a0 false _ A3.out).mono ?_); rintro e w' ⟨rfl, ⟨nd, rfl⟩⟩; refine ⟨_, rfl, ?_⟩) | ((with_reducible refine gate_callee (f := 84) rfl ?_); refine goesL_ (some 10) rfl rfl Try.func84 (by kernel_rfl) rfl #[.int .i64 a1] rfl (by (try simp only [List.map_toArray, List.map_cons, List.map_nil]); first | done | rfl | (simp only [List.length_drop, List.length_take]; rfl)) ?_; (with_reducible refine (cmp_isNaN_int.calls a1 false _ A4.out).mono ?_); rintro e w' ⟨rfl, ⟨nd, rfl⟩⟩; refine ⟨_, rfl, ?_⟩))
          go_ret
          exact ⟨by first | rfl | (simp; done) | (simp [*]; done), by repeat (first | exact Drawn0.refl _ | apply Drawn0.step)⟩
        · rw [if_neg c9] at H
          have c9b0 : decide (a1 < a0) = false := decide_eq_false c9
          clear c9
          obtain rfl := Option.some.inj H
          go_enter Try.func67, Try.ntmps67
          go_wp2_with (first | ((with_reducible refine gate_callee (f := 84) rfl ?_); refine goesL_ (some 8) rfl rfl Try.func84 (by kernel_rfl) rfl #[.int .i64 a0] rfl (by (try simp only [List.map_toArray, List.map_cons, List.map_nil]); first | done | rfl | (simp only [List.length_drop, List.length_take]; rfl)) ?_; (with_reducible refine (cmp_isNaN_int.calls a0 false _ A3.out).mono ?_); rintro e w' ⟨rfl, ⟨nd, rfl⟩⟩; refine ⟨_, rfl, ?_⟩) | ((with_reducible refine gate_callee (f := 84) rfl ?_); refine goesL_ (some 10) rfl rfl Try.func84 (by kernel_rfl) rfl #[.int .i64 a1] rfl (by (try simp only [List.map_toArray, List.map_cons, List.map_nil]); first | done | rfl | (simp only [List.length_drop, List.length_take]; rfl)) ?_; (with_reducible refine (cmp_isNaN_int.calls a1 false _ A4.out).mono ?_); rintro e w' ⟨rfl, ⟨nd, rfl⟩⟩; refine ⟨_, rfl, ?_⟩))
          go_ret
          exact ⟨by first | rfl | (simp; done) | (simp [*]; done), by repeat (first | exact Drawn0.refl _ | apply Drawn0.step)⟩
/-! ### ring_compare: function 52 -/
def ring_compare.B1 : List Nat := [0, 1, 0, 4, 15, 0, 32, 0, 128, 511, 1023, 2047, 4095]
end Go.Proofs.Yteocngcojijnkaa.QH
namespace Go.Proofs.Yteocngcojijnkaa.QH
open Go.RowKit Go.Proofs.YteocngcojijnkaaW.PrintWords Go.Proofs.YteocngcojijnkaaW.PrintLast Go.Proofs.YteocngcojijnkaaW.PrintMore
attribute [local go_sem] max2_int min2_int max_two min_two max_three min_three max_four min_four   -- for this text's walks alone
set_option linter.unusedVariables false
set_option linter.unusedSimpArgs false
/-! ### slices_Index_int_int: function 36 -/
def slices_Index_int_int.l0 : Nat → List Int → Int → Int → Int → Option (Int)
  | 0, _, _, _, _ => none
  | k + 1, x0, x1, x7, x8 => if x8 < x7 then (if 0 ≤ x8 then (if x8 < (x0.length : Int) then (if x1 = (rd x0 x8) then (some x8) else (slices_Index_int_int.l0 k x0 x1 x7 (wrap64 (x8 + 1)))) else (none)) else (none)) else (some (-1))
def slices_Index_int_int.f (k : Nat) (l0 : List Int) (a1 : Int) : Option (Int) := slices_Index_int_int.l0 k l0 a1 (l0.length : Int) 0
theorem slices_Index_int_int.mono_l : ∀ k, (∀ y0 y1 y2 y3, LeO (slices_Index_int_int.l0 k y0 y1 y2 y3) (slices_Index_int_int.l0 (k + 1) y0 y1 y2 y3))
  | 0 => fun _ _ _ _ r h => by simp [slices_Index_int_int.l0] at h
  | k + 1 => by
    have ih0 := slices_Index_int_int.mono_l k
    · intro y0 y1 y2 y3
      unfold slices_Index_int_int.l0
      repeat' first
      | (with_reducible exact ih0 _ _ _ _)
      | (with_reducible exact LeO.refl _)
      | (with_reducible exact LeO.none _)
      | (with_reducible refine LeO.ite ?_ ?_)
      | (with_reducible refine LeO.bind ?_ (fun _ => ?_))
      | exact ih0 _ _ _ _
      | exact LeO.none _
      | refine LeO.ite ?_ ?_
      | refine LeO.bind ?_ (fun _ => ?_)
theorem slices_Index_int_int.mono : ∀ a0 a1 k, LeO (slices_Index_int_int.f k a0 a1) (slices_Index_int_int.f (k + 1) a0 a1) := by
  intro a0 a1 k
  have ih0 := slices_Index_int_int.mono_l k
  unfold slices_Index_int_int.f
  repeat' first
      | (with_reducible exact ih0 _ _ _ _)
      | (with_reducible exact LeO.refl _)
      | (with_reducible exact LeO.none _)
      | (with_reducible refine LeO.ite ?_ ?_)
      | (with_reducible refine LeO.bind ?_ (fun _ => ?_))
      | exact ih0 _ _ _ _
      | exact LeO.none _
      | refine LeO.ite ?_ ?_
      | refine LeO.bind ?_ (fun _ => ?_)
set_option maxHeartbeats 8000000 in
set_option maxRecDepth 100000 in
theorem slices_Index_int_int.calls (k : Nat) (A0 : Option Addr) (c0 : Nat) (l0 : List Int) (a1 : Int) (r : Int) (w : World) (hr0 : Kd.C (Kd.int .i64) w A0 l0.length l0) (hc0 : l0.length ≤ c0) (h : slices_Index_int_int.f k l0 a1 = some r) :
    Calls Try.prog 36 #[.slice A0 l0.length c0, .int .i64 a1] w fun e w' => e = .returned (.int .i64 r) ∧ Drawn0 w w' := by
  have HR0 := Aside0.mk hr0
  have HC0 := Aside0.mk hc0
  clear hr0 hc0
  have H : (slices_Index_int_int.l0 k l0 a1 (l0.length : Int) 0) = some r := h
  clear h
  have H' := Aside0.mk H
  clear H
  go_enter Try.func36, Try.ntmps36
  go_wp2
  go_loopg [8] k (fun kq v8 w' => ∃ (x8_1 : Int), v8 = .int .i64 x8_1 ∧ Aside0 (slices_Index_int_int.l0 kq l0 a1 (l0.length : Int) x8_1 = some r) ∧ Aside0 (kq ≤ k) ∧ Drawn0 w w')
  case atStart => exact ⟨(0), (by first | rfl | (simp; done) | (simp [*]; done)), H', ⟨Nat.le_refl _⟩, by repeat (first | exact Drawn0.refl _ | apply Drawn0.step)⟩
  case round =>
    clear H'
    try clear p2
    obtain ⟨x8_1, rfl, HA, HK1, ⟨m1, rfl⟩⟩ := hrel
    cases gk with
    | zero => exact absurd HA.out (by simp [slices_Index_int_int.l0])
    | succ k1 =>
      have H := HA.out
      clear HA
      simp only [slices_Index_int_int.l0] at H
      by_cases c3 : x8_1 < (l0.length : Int)
      · rw [if_pos c3] at H
        have c3b0 : decide (x8_1 < (l0.length : Int)) = true := decide_eq_true c3
        clear c3
        by_cases c4 : 0 ≤ x8_1
        · rw [if_pos c4] at H
          have c4b0 : decide (0 ≤ x8_1) = true := decide_eq_true c4
          clear c4
          by_cases c5 : x8_1 < (l0.length : Int)
          · rw [if_pos c5] at H
            have c5b0 : decide (x8_1 < (l0.length : Int)) = true := decide_eq_true c5
            clear c5
            by_cases c6 : a1 = (rd l0 x8_1)
            · rw [if_pos c6] at H
              have c6b0 : (a1 == (rd l0 x8_1)) = true := beq_iff_eq.mpr c6
              have c6b1 : (a1 != (rd l0 x8_1)) = false := bne_eq_false_iff_eq.mpr c6
              clear c6
              obtain rfl := Option.some.inj H
              have p130 : 0 ≤ (x8_1 : Int) := of_decide_eq_true (by first | (with_reducible assumption) | assumption)
              have q130 : x8_1 < (l0.length : Int) := of_decide_eq_true (by first | (with_reducible assumption) | assumption)
              obtain ⟨ad130, e130, hx130_0⟩ := Kd.at_int HR0.out x8_1 p130 q130
              cases e130
              replace p130 := eq_true p130
              replace q130 := eq_true q130
              go_wp2
              go_ret
              exact ⟨by first | rfl | (simp; done) | (simp [*]; done), by repeat (first | exact Drawn0.refl _ | apply Drawn0.step)⟩
            · rw [if_neg c6] at H
              have c6b0 : (a1 == (rd l0 x8_1)) = false := beq_eq_false_iff_ne.mpr c6
              have c6b1 : (a1 != (rd l0 x8_1)) = true := bne_iff_ne.mpr c6
              have H' := Aside0.mk H
              clear H
              have p130 : 0 ≤ (x8_1 : Int) := of_decide_eq_true (by first | (with_reducible assumption) | assumption)
              have q130 : x8_1 < (l0.length : Int) := of_decide_eq_true (by first | (with_reducible assumption) | assumption)
              obtain ⟨ad130, e130, hx130_0⟩ := Kd.at_int HR0.out x8_1 p130 q130
              cases e130
              replace p130 := eq_true p130
              replace q130 := eq_true q130
              go_wp2
              go_roundg k1
              case measure => have := HK1.out; omega
              case rel => exact ⟨(wrap64 (x8_1 + 1)), (by first | rfl | (simp; done) | (simp [*]; done)), H', ⟨by have := HK1.out; omega⟩, by repeat (first | exact Drawn0.refl _ | apply Drawn0.step)⟩
          · rw [if_neg c5] at H
            exact absurd H (by simp)
        · rw [if_neg c4] at H
          exact absurd H (by simp)
      · rw [if_neg c3] at H
        have c3b0 : decide (x8_1 < (l0.length : Int)) = false := decide_eq_false c3
        clear c3
        obtain rfl := Option.some.inj H
        go_wp2
        go_ret
        exact ⟨by first | rfl | (simp; done) | (simp [*]; done), by repeat (first | exact Drawn0.refl _ | apply Drawn0.step)⟩
/-! ### slices_Contains_int_int: function 34 -/
def slices_Contains_int_int.f (k : Nat) (l0 : List Int) (a1 : Int) : Option (Bool) := (slices_Index_int_int.f k l0 a1).bind fun t131 => (some (decide (t131 ≥ 0)))
theorem slices_Contains_int_int.mono : ∀ a0 a1 k, LeO (slices_Contains_int_int.f k a0 a1) (slices_Contains_int_int.f (k + 1) a0 a1) := by
  intro a0 a1 k
  unfold slices_Contains_int_int.f
  repeat' first
      | (with_reducible exact slices_Index_int_int.mono _ _ _)
      | (with_reducible exact LeO.refl _)
      | (with_reducible exact LeO.none _)
      | (with_reducible refine LeO.ite ?_ ?_)
      | (with_reducible refine LeO.bind ?_ (fun _ => ?_))
      | exact slices_Index_int_int.mono _ _ _
      | exact LeO.none _
      | refine LeO.ite ?_ ?_
      | refine LeO.bind ?_ (fun _ => ?_)
set_option maxHeartbeats 8000000 in
set_option maxRecDepth 100000 in
theorem slices_Contains_int_int.calls (k : Nat) (A0 : Option Addr) (c0 : Nat) (l0 : List Int) (a1 : Int) (r : Bool) (w : World) (hr0 : Kd.C (Kd.int .i64) w A0 l0.length l0) (hc0 : l0.length ≤ c0) (h : slices_Contains_int_int.f k l0 a1 = some r) :
    Calls Try.prog 34 #[.slice A0 l0.length c0, .int .i64 a1] w fun e w' => e = .returned (.bool r) ∧ Drawn0 w w' := by
  have HR0 := Aside0.mk hr0
  have HC0 := Aside0.mk hc0
  clear hr0 hc0
  have H : ((slices_Index_int_int.f k l0 a1).bind fun t131 => (some (decide (t131 ≥ 0)))) = some r := h
  clear h
  replace H := Option.bind_eq_some_iff.mp H
  obtain ⟨t131, A30, H⟩ := H
  replace H : (some (decide (t131 ≥ 0))) = some r := H
  have A3 := Aside0.mk A30
  clear A30
  obtain rfl := Option.some.inj H
  go_enter Try.func34, Try.ntmps34
  go_wp2_with (first | ((with_reducible refine gate_callee (f := 36) rfl ?_); refine goesL_ (some 7) rfl rfl Try.func36 (by kernel_rfl) rfl #[.slice A0 l0.length c0, .int .i64 a1] rfl (by (try simp only [List.map_toArray, List.map_cons, List.map_nil]); first | done | rfl | (simp only [List.length_drop, List.length_take]; rfl)) ?_; (with_reducible refine (slices_Index_int_int.calls k _ _ l0 a1 t131 _ ?side1 ?side2 A3.out).mono ?_); (case side1 => repeat (first | exact HR0.out | (with_reducible refine Kd.C_alloc ?_ _) | (with_reducible refine Kd.C_drewN ?_ _) | (with_reducible refine Kd.C_drew ?_))); (case side2 => exact HC0.out); rintro e w' ⟨rfl, ⟨nd, rfl⟩⟩; refine ⟨_, rfl, ?_⟩))
  go_ret
  exact ⟨by first | rfl | (simp; done) | (simp [*]; done), by repeat (first | exact Drawn0.refl _ | apply Drawn0.step)⟩
/-! ### icehouseref09_Has: function 22 -/
def icehouseref09_Has.l0 : Nat → List Int → Int → Int → Option (Bool)
  | 0, _, _, _ => none
  | k + 1, x0, x1, x5 => if x5 < (x0.length : Int) then (if 0 ≤ x5 then (if (rd x0 x5) = x1 then (some true) else (icehouseref09_Has.l0 k x0 x1 (wrap64 (x5 + 1)))) else (none)) else (some false)
def icehouseref09_Has.f (k : Nat) (l0 : List Int) (a1 : Int) : Option (Bool) := icehouseref09_Has.l0 k l0 a1 0
theorem icehouseref09_Has.mono_l : ∀ k, (∀ y0 y1 y2, LeO (icehouseref09_Has.l0 k y0 y1 y2) (icehouseref09_Has.l0 (k + 1) y0 y1 y2))
  | 0 => fun _ _ _ r h => by simp [icehouseref09_Has.l0] at h
  | k + 1 => by
    have ih0 := icehouseref09_Has.mono_l k
    · intro y0 y1 y2
      unfold icehouseref09_Has.l0
      repeat' first
      | (with_reducible exact ih0 _ _ _)
      | (with_reducible exact LeO.refl _)
      | (with_reducible exact LeO.none _)
      | (with_reducible refine LeO.ite ?_ ?_)
      | (with_reducible refine LeO.bind ?_ (fun _ => ?_))
      | exact ih0 _ _ _
      | exact LeO.none _
      | refine LeO.ite ?_ ?_
      | refine LeO.bind ?_ (fun _ => ?_)
theorem icehouseref09_Has.mono : ∀ a0 a1 k, LeO (icehouseref09_Has.f k a0 a1) (icehouseref09_Has.f (k + 1) a0 a1) := by
  intro a0 a1 k
  have ih0 := icehouseref09_Has.mono_l k
  unfold icehouseref09_Has.f
  repeat' first
      | (with_reducible exact ih0 _ _ _)
      | (with_reducible exact LeO.refl _)
      | (with_reducible exact LeO.none _)
      | (with_reducible refine LeO.ite ?_ ?_)
      | (with_reducible refine LeO.bind ?_ (fun _ => ?_))
      | exact ih0 _ _ _
      | exact LeO.none _
      | refine LeO.ite ?_ ?_
      | refine LeO.bind ?_ (fun _ => ?_)
set_option maxHeartbeats 8000000 in
set_option maxRecDepth 100000 in
theorem icehouseref09_Has.calls (k : Nat) (A0 : Option Addr) (c0 : Nat) (l0 : List Int) (a1 : Int) (r : Bool) (w : World) (hr0 : Kd.C (Kd.int .i64) w A0 l0.length l0) (hc0 : l0.length ≤ c0) (h : icehouseref09_Has.f k l0 a1 = some r) :
    Calls Try.prog 22 #[.slice A0 l0.length c0, .int .i64 a1] w fun e w' => e = .returned (.bool r) ∧ Drawn0 w w' := by
  have HR0 := Aside0.mk hr0
  have HC0 := Aside0.mk hc0
  clear hr0 hc0
  have H : (icehouseref09_Has.l0 k l0 a1 0) = some r := h
  clear h
  have H' := Aside0.mk H
  clear H
  go_enter Try.func22, Try.ntmps22
  go_wp2
  go_loopg [5] k (fun kq v5 w' => ∃ (x5_1 : Int), v5 = .int .i64 x5_1 ∧ Aside0 (icehouseref09_Has.l0 kq l0 a1 x5_1 = some r) ∧ Aside0 (kq ≤ k) ∧ Drawn0 w w')
  case atStart => exact ⟨(0), (by first | rfl | (simp; done) | (simp [*]; done)), H', ⟨Nat.le_refl _⟩, by repeat (first | exact Drawn0.refl _ | apply Drawn0.step)⟩
  case round =>
    clear H'
    try clear c2
    try clear p2
    obtain ⟨x5_1, rfl, HA, HK1, ⟨m1, rfl⟩⟩ := hrel
    cases gk with
    | zero => exact absurd HA.out (by simp [icehouseref09_Has.l0])
    | succ k1 =>
      have H := HA.out
      clear HA
      simp only [icehouseref09_Has.l0] at H
      by_cases c3 : x5_1 < (l0.length : Int)
      · rw [if_pos c3] at H
        have c3b0 : decide (x5_1 < (l0.length : Int)) = true := decide_eq_true c3
        clear c3
        by_cases c4 : 0 ≤ x5_1
        · rw [if_pos c4] at H
          have c4b0 : decide (0 ≤ x5_1) = true := decide_eq_true c4
          clear c4
          by_cases c5 : (rd l0 x5_1) = a1
          · rw [if_pos c5] at H
            have c5b0 : ((rd l0 x5_1) == a1) = true := beq_iff_eq.mpr c5
            have c5b1 : ((rd l0 x5_1) != a1) = false := bne_eq_false_iff_eq.mpr c5
            clear c5
            obtain rfl := Option.some.inj H
            have p132 : 0 ≤ (x5_1 : Int) := of_decide_eq_true (by first | (with_reducible assumption) | assumption)
            have q132 : x5_1 < (l0.length : Int) := of_decide_eq_true (by first | (with_reducible assumption) | assumption)
            obtain ⟨ad132, e132, hx132_0⟩ := Kd.at_int HR0.out x5_1 p132 q132
            cases e132
            replace p132 := eq_true p132
            replace q132 := eq_true q132
            go_wp2
            go_ret
            exact ⟨by first | rfl | (simp; done) | (simp [*]; done), by repeat (first | exact Drawn0.refl _ | apply Drawn0.step)⟩
          · rw [if_neg c5] at H
            have c5b0 : ((rd l0 x5_1) == a1) = false := beq_eq_false_iff_ne.mpr c5
            have c5b1 : ((rd l0 x5_1) != a1) = true := bne_iff_ne.mpr c5
            have H' := Aside0.mk H
            clear H
            have p132 : 0 ≤ (x5_1 : Int) := of_decide_eq_true (by first | (with_reducible assumption) | assumption)
            have q132 : x5_1 < (l0.length : Int) := of_decide_eq_true (by first | (with_reducible assumption) | assumption)
            obtain ⟨ad132, e132, hx132_0⟩ := Kd.at_int HR0.out x5_1 p132 q132
            cases e132
            replace p132 := eq_true p132
            replace q132 := eq_true q132
            go_wp2
            go_roundg k1
            case measure => have := HK1.out; omega
            case rel => exact ⟨(wrap64 (x5_1 + 1)), (by first | rfl | (simp; done) | (simp [*]; done)), H', ⟨by have := HK1.out; omega⟩, by repeat (first | exact Drawn0.refl _ | apply Drawn0.step)⟩
        · rw [if_neg c4] at H
          exact absurd H (by simp)
      · rw [if_neg c3] at H
        have c3b0 : decide (x5_1 < (l0.length : Int)) = false := decide_eq_false c3
        clear c3
        obtain rfl := Option.some.inj H
        go_wp2
        go_ret
        exact ⟨by first | rfl | (simp; done) | (simp [*]; done), by repeat (first | exact Drawn0.refl _ | apply Drawn0.step)⟩
/-! ### icehouseref09_First: function 59 -/
def icehouseref09_First.l0 : Nat → List (S70) → Int → Int → Option (Int)
  | 0, _, _, _ => none
  | k + 1, x0, x1, x5 => if x5 < (x0.length : Int) then (if 0 ≤ x5 then (if ((rd_T70 x0 x5).f0) ≥ x1 then (some x5) else (icehouseref09_First.l0 k x0 x1 (wrap64 (x5 + 1)))) else (none)) else (some 0)
def icehouseref09_First.f (k : Nat) (l0 : List (S70)) (a1 : Int) : Option (Int) := icehouseref09_First.l0 k l0 a1 0
theorem icehouseref09_First.mono_l : ∀ k, (∀ y0 y1 y2, LeO (icehouseref09_First.l0 k y0 y1 y2) (icehouseref09_First.l0 (k + 1) y0 y1 y2))
  | 0 => fun _ _ _ r h => by simp [icehouseref09_First.l0] at h
  | k + 1 => by
    have ih0 := icehouseref09_First.mono_l k
    · intro y0 y1 y2
      unfold icehouseref09_First.l0
      repeat' first
      | (with_reducible exact ih0 _ _ _)
      | (with_reducible exact LeO.refl _)
      | (with_reducible exact LeO.none _)
      | (with_reducible refine LeO.ite ?_ ?_)
      | (with_reducible refine LeO.bind ?_ (fun _ => ?_))
      | exact ih0 _ _ _
      | exact LeO.none _
      | refine LeO.ite ?_ ?_
      | refine LeO.bind ?_ (fun _ => ?_)
theorem icehouseref09_First.mono : ∀ a0 a1 k, LeO (icehouseref09_First.f k a0 a1) (icehouseref09_First.f (k + 1) a0 a1) := by
  intro a0 a1 k
  have ih0 := icehouseref09_First.mono_l k
  unfold icehouseref09_First.f
  repeat' first
      | (with_reducible exact ih0 _ _ _)
      | (with_reducible exact LeO.refl _)
      | (with_reducible exact LeO.none _)
      | (with_reducible refine LeO.ite ?_ ?_)
      | (with_reducible refine LeO.bind ?_ (fun _ => ?_))
      | exact ih0 _ _ _
      | exact LeO.none _
      | refine LeO.ite ?_ ?_
      | refine LeO.bind ?_ (fun _ => ?_)
/-! ### icehouseref04_Bytes: function 69 -/
def icehouseref04_Bytes.l0 : Nat → Int → List Int → Int → Option (List Int)
  | 0, _, _, _ => none
  | k + 1, x3, x4, x5 => if x5 ≥ 0 then (if 0 ≤ x5 then (if x5 < (x4.length : Int) then (icehouseref04_Bytes.l0 k (IntKind.u64.wrap (Int.tdiv x3 256)) (x4.set (x5 : Int).toNat ((Int.tmod x3 256) % 256)) (wrap64 (x5 - 1))) else (none)) else (none)) else (some x4)
def icehouseref04_Bytes.f (k : Nat) (a0 : Int) : Option (List Int) := if 8 ≤ 281474976710656 then (icehouseref04_Bytes.l0 k (IntKind.u64.wrap (a0)) (List.replicate 8 0) 7) else (none)
theorem icehouseref04_Bytes.mono_l : ∀ k, (∀ y0 y1 y2, LeO (icehouseref04_Bytes.l0 k y0 y1 y2) (icehouseref04_Bytes.l0 (k + 1) y0 y1 y2))
  | 0 => fun _ _ _ r h => by simp [icehouseref04_Bytes.l0] at h
  | k + 1 => by
    have ih0 := icehouseref04_Bytes.mono_l k
    · intro y0 y1 y2
      unfold icehouseref04_Bytes.l0
      repeat' first
      | (with_reducible exact ih0 _ _ _)
      | (with_reducible exact LeO.refl _)
      | (with_reducible exact LeO.none _)
      | (with_reducible refine LeO.ite ?_ ?_)
      | (with_reducible refine LeO.bind ?_ (fun _ => ?_))
      | exact ih0 _ _ _
      | exact LeO.none _
      | refine LeO.ite ?_ ?_
      | refine LeO.bind ?_ (fun _ => ?_)
theorem icehouseref04_Bytes.mono : ∀ a0 k, LeO (icehouseref04_Bytes.f k a0) (icehouseref04_Bytes.f (k + 1) a0) := by
  intro a0 k
  have ih0 := icehouseref04_Bytes.mono_l k
  unfold icehouseref04_Bytes.f
  repeat' first
      | (with_reducible exact ih0 _ _ _)
      | (with_reducible exact LeO.refl _)
      | (with_reducible exact LeO.none _)
      | (with_reducible refine LeO.ite ?_ ?_)
      | (with_reducible refine LeO.bind ?_ (fun _ => ?_))
      | exact ih0 _ _ _
      | exact LeO.none _
      | refine LeO.ite ?_ ?_
      | refine LeO.bind ?_ (fun _ => ?_)
/-! ### icehouseref04_fold: function 85 -/
def icehouseref04_fold.f (a0 : Int) : Option (Int) := some (Go.bits .xor .u64 a0 (IntKind.u64.wrap (Int.tdiv a0 8589934592)))
/-! ### icehouseref04_Stir: function 70 -/
def icehouseref04_Stir.f (a0 : Int) : Option (Int) := (icehouseref04_fold.f a0).bind fun t138 => ((icehouseref04_fold.f (IntKind.u64.wrap (t138 * 18397679294719823053))).bind fun t139 => ((icehouseref04_fold.f (IntKind.u64.wrap (t139 * 14181476777654086739))).bind fun t140 => (some t140)))
/-! ### icehouseref04_Step: function 86 -/
def icehouseref04_Step.f (a0 : Int) (a1 : Int) : Option (Int) := some (IntKind.u64.wrap ((IntKind.u64.wrap ((IntKind.u64.wrap ((IntKind.u64.wrap (a0 - (Int.tmod a0 256))) + (IntKind.u64.wrap (Go.bits .xor .u8 ((Int.tmod a0 256) % 256) a1)))) * 1099511627776)) + (IntKind.u64.wrap ((IntKind.u64.wrap ((IntKind.u64.wrap (a0 - (Int.tmod a0 256))) + (IntKind.u64.wrap (Go.bits .xor .u8 ((Int.tmod a0 256) % 256) a1)))) * 435))))
/-! ### icehouseref04_Sum: function 71 -/
def icehouseref04_Sum.l0 : Nat → List Int → Int → Int → Option (Int)
  | 0, _, _, _ => none
  | k + 1, x0, x3, x4 => if x4 < (x0.length : Int) then (if 0 ≤ x4 then ((icehouseref04_Step.f x3 (rd x0 x4)).bind fun t142 => (icehouseref04_Sum.l0 k x0 t142 (wrap64 (x4 + 1)))) else (none)) else (some x3)
def icehouseref04_Sum.f (k : Nat) (l0 : List Int) : Option (Int) := icehouseref04_Sum.l0 k l0 14695981039346656037 0
theorem icehouseref04_Sum.mono_l : ∀ k, (∀ y0 y1 y2, LeO (icehouseref04_Sum.l0 k y0 y1 y2) (icehouseref04_Sum.l0 (k + 1) y0 y1 y2))
  | 0 => fun _ _ _ r h => by simp [icehouseref04_Sum.l0] at h
  | k + 1 => by
    have ih0 := icehouseref04_Sum.mono_l k
    · intro y0 y1 y2
      unfold icehouseref04_Sum.l0
      repeat' first
      | (with_reducible exact ih0 _ _ _)
      | (with_reducible exact LeO.refl _)
      | (with_reducible exact LeO.none _)
      | (with_reducible refine LeO.ite ?_ ?_)
      | (with_reducible refine LeO.bind ?_ (fun _ => ?_))
      | exact ih0 _ _ _
      | exact LeO.none _
      | refine LeO.ite ?_ ?_
      | refine LeO.bind ?_ (fun _ => ?_)
theorem icehouseref04_Sum.mono : ∀ a0 k, LeO (icehouseref04_Sum.f k a0) (icehouseref04_Sum.f (k + 1) a0) := by
  intro a0 k
  have ih0 := icehouseref04_Sum.mono_l k
  unfold icehouseref04_Sum.f
  repeat' first
      | (with_reducible exact ih0 _ _ _)
      | (with_reducible exact LeO.refl _)
      | (with_reducible exact LeO.none _)
      | (with_reducible refine LeO.ite ?_ ?_)
      | (with_reducible refine LeO.bind ?_ (fun _ => ?_))
      | exact ih0 _ _ _
      | exact LeO.none _
      | refine LeO.ite ?_ ?_
      | refine LeO.bind ?_ (fun _ => ?_)
/-! ### icehouseref04_Point: function 57 -/
def icehouseref04_Point.f (k : Nat) (a0 : Int) (a1 : Int) : Option (Int) := (icehouseref04_Bytes.f k a0).bind fun t143 => ((icehouseref04_Bytes.f k a1).bind fun t146 => (if t143.length + t146.length < 140737488355328 then ((icehouseref04_Sum.f k (t143 ++ t146)).bind fun t152 => ((icehouseref04_Stir.f t152).bind fun t153 => (some t153))) else (none)))
theorem icehouseref04_Point.mono : ∀ a0 a1 k, LeO (icehouseref04_Point.f k a0 a1) (icehouseref04_Point.f (k + 1) a0 a1) := by
  intro a0 a1 k
  unfold icehouseref04_Point.f
  repeat' first
      | (with_reducible exact icehouseref04_Bytes.mono _ _)
      | (with_reducible exact icehouseref04_Sum.mono _ _)
      | (with_reducible exact LeO.refl _)
      | (with_reducible exact LeO.none _)
      | (with_reducible refine LeO.ite ?_ ?_)
      | (with_reducible refine LeO.bind ?_ (fun _ => ?_))
      | exact icehouseref04_Bytes.mono _ _
      | exact icehouseref04_Sum.mono _ _
      | exact LeO.none _
      | refine LeO.ite ?_ ?_
      | refine LeO.bind ?_ (fun _ => ?_)
/-! ### icehouseref09_less: function 58 -/
def icehouseref09_less.f (a0_0 : Int) (a0_1 : Int) (a1_0 : Int) (a1_1 : Int) : Option (Bool) := if a0_0 < a1_0 then (some true) else (if a0_0 = a1_0 then (some (decide (a0_1 < a1_1))) else (some false))
end Go.Proofs.Yteocngcojijnkaa.QH
namespace Go.Proofs.Yteocngcojijnkaa.QH
open Go.RowKit Go.Proofs.YteocngcojijnkaaW.PrintWords Go.Proofs.YteocngcojijnkaaW.PrintLast Go.Proofs.YteocngcojijnkaaW.PrintMore
attribute [local go_sem] max2_int min2_int max_two min_two max_three min_three max_four min_four   -- for this text's walks alone
set_option linter.unusedVariables false
set_option linter.unusedSimpArgs false
attribute [local go_sem high] eqA70
/-! ### icehouseref09_Points: function 47 -/
mutual
def icehouseref09_Points.l0 : Nat → List (S70) → Int → List Int → Int → Int → Option ((List (S70)))
  | 0, _, _, _, _, _ => none
  | k + 1, x3, x4, x157000, x157001, x157002 => if x4 < (x157000.length : Int) then (icehouseref09_Points.l1 k x3 x4 0 x157000 x157001 x157002) else (some x3)
def icehouseref09_Points.l1 : Nat → List (S70) → Int → Int → List Int → Int → Int → Option ((List (S70)))
  | 0, _, _, _, _, _, _ => none
  | k + 1, x3, x4, x5, x157000, x157001, x157002 => if x5 < x157001 then (if 0 ≤ x4 then (if x4 < (x157000.length : Int) then ((icehouseref04_Point.f k (rd x157000 x4) x5).bind fun t158 => (icehouseref09_Points.l2 k x3 x4 x5 0 x157000 x157001 x157002 t158 (rd x157000 x4))) else (none)) else (none)) else (icehouseref09_Points.l0 k x3 (wrap64 (x4 + 1)) x157000 x157001 x157002)
def icehouseref09_Points.l2 : Nat → List (S70) → Int → Int → Int → List Int → Int → Int → Int → Int → Option ((List (S70)))
  | 0, _, _, _, _, _, _, _, _, _ => none
  | k + 1, x3, x4, x5, x7, x157000, x157001, x157002, x161000, x161001 => if x7 < (x3.length : Int) then (if 0 ≤ x7 then ((icehouseref09_less.f ((rd_T70 x3 x7).f0) ((rd_T70 x3 x7).f1) x161000 x161001).bind fun t162 => (if t162 = true then (icehouseref09_Points.l2 k x3 x4 x5 (wrap64 (x7 + 1)) x157000 x157001 x157002 x161000 x161001) else (if (((rd_T70 x3 x7).f0) == x161000 && (((rd_T70 x3 x7).f1) == x161001)) = true then (icehouseref09_Points.l1 k x3 x4 (wrap64 (x5 + 1)) x157000 x157001 x157002) else (if x7 ≤ (x3.length : Int) then ((some (x3.take (x7 : Int).toNat : List (S70))).bind fun y164 => (if ([] : List (S70)).length + y164.length < 8796093022208 then ((some (([] : List (S70)) ++ y164 : List (S70))).bind fun y168 => (if y168.length < 8796093022208 then ((some (y168 ++ [(⟨x161000, x161001⟩ : S70)] : List (S70))).bind fun y171 => ((some (x3.drop (x7 : Int).toNat : List (S70))).bind fun y174 => (if y171.length + y174.length < 8796093022208 then (icehouseref09_Points.l1 k (y171 ++ y174) x4 (wrap64 (x5 + 1)) x157000 x157001 x157002) else (none)))) else (none))) else (none))) else (none))))) else (none)) else (if 0 ≤ x7 then (if x7 ≤ (x3.length : Int) then ((some (x3.take (x7 : Int).toNat : List (S70))).bind fun y181 => (if ([] : List (S70)).length + y181.length < 8796093022208 then ((some (([] : List (S70)) ++ y181 : List (S70))).bind fun y185 => (if y185.length < 8796093022208 then ((some (y185 ++ [(⟨x161000, x161001⟩ : S70)] : List (S70))).bind fun y188 => ((some (x3.drop (x7 : Int).toNat : List (S70))).bind fun y191 => (if y188.length + y191.length < 8796093022208 then (icehouseref09_Points.l1 k (y188 ++ y191) x4 (wrap64 (x5 + 1)) x157000 x157001 x157002) else (none)))) else (none))) else (none))) else (none)) else (none))
end
def icehouseref09_Points.f (k : Nat) (l0_0 : List Int) (a0_1 : Int) (a0_2 : Int) : Option ((List (S70))) := icehouseref09_Points.l0 k ([] : List (S70)) 0 l0_0 a0_1 a0_2
theorem icehouseref09_Points.mono_l : ∀ k, (∀ y0 y1 y2 y3 y4, LeO (icehouseref09_Points.l0 k y0 y1 y2 y3 y4) (icehouseref09_Points.l0 (k + 1) y0 y1 y2 y3 y4)) ∧ (∀ y0 y1 y2 y3 y4 y5, LeO (icehouseref09_Points.l1 k y0 y1 y2 y3 y4 y5) (icehouseref09_Points.l1 (k + 1) y0 y1 y2 y3 y4 y5)) ∧ (∀ y0 y1 y2 y3 y4 y5 y6 y7 y8, LeO (icehouseref09_Points.l2 k y0 y1 y2 y3 y4 y5 y6 y7 y8) (icehouseref09_Points.l2 (k + 1) y0 y1 y2 y3 y4 y5 y6 y7 y8))
  | 0 => ⟨fun _ _ _ _ _ r h => by simp [icehouseref09_Points.l0] at h, fun _ _ _ _ _ _ r h => by simp [icehouseref09_Points.l1] at h, fun _ _ _ _ _ _ _ _ _ r h => by simp [icehouseref09_Points.l2] at h⟩
  | k + 1 => by
    obtain ⟨ih0, ih1, ih2⟩ := icehouseref09_Points.mono_l k
    refine ⟨?_, ?_, ?_⟩
    · intro y0 y1 y2 y3 y4
      unfold icehouseref09_Points.l0
      repeat' first
      | (with_reducible exact ih0 _ _ _ _ _)
      | (with_reducible exact ih1 _ _ _ _ _ _)
      | (with_reducible exact ih2 _ _ _ _ _ _ _ _ _)
      | (with_reducible exact icehouseref04_Point.mono _ _ _)
      | (with_reducible exact LeO.refl _)
      | (with_reducible exact LeO.none _)
      | (with_reducible refine LeO.ite ?_ ?_)
      | (with_reducible refine LeO.bind ?_ (fun _ => ?_))
      | exact ih0 _ _ _ _ _
      | exact ih1 _ _ _ _ _ _
      | exact ih2 _ _ _ _ _ _ _ _ _
      | exact icehouseref04_Point.mono _ _ _
      | exact LeO.none _
      | refine LeO.ite ?_ ?_
      | refine LeO.bind ?_ (fun _ => ?_)
    · intro y0 y1 y2 y3 y4 y5
      unfold icehouseref09_Points.l1
      repeat' first
      | (with_reducible exact ih0 _ _ _ _ _)
      | (with_reducible exact ih1 _ _ _ _ _ _)
      | (with_reducible exact ih2 _ _ _ _ _ _ _ _ _)
      | (with_reducible exact icehouseref04_Point.mono _ _ _)
      | (with_reducible exact LeO.refl _)
      | (with_reducible exact LeO.none _)
      | (with_reducible refine LeO.ite ?_ ?_)
      | (with_reducible refine LeO.bind ?_ (fun _ => ?_))
      | exact ih0 _ _ _ _ _
      | exact ih1 _ _ _ _ _ _
      | exact ih2 _ _ _ _ _ _ _ _ _
      | exact icehouseref04_Point.mono _ _ _
      | exact LeO.none _
      | refine LeO.ite ?_ ?_
      | refine LeO.bind ?_ (fun _ => ?_)
    · intro y0 y1 y2 y3 y4 y5 y6 y7 y8
      unfold icehouseref09_Points.l2
      repeat' first
      | (with_reducible exact ih0 _ _ _ _ _)
      | (with_reducible exact ih1 _ _ _ _ _ _)
      | (with_reducible exact ih2 _ _ _ _ _ _ _ _ _)
      | (with_reducible exact icehouseref04_Point.mono _ _ _)
      | (with_reducible exact LeO.refl _)
      | (with_reducible exact LeO.none _)
      | (with_reducible refine LeO.ite ?_ ?_)
      | (with_reducible refine LeO.bind ?_ (fun _ => ?_))
      | exact ih0 _ _ _ _ _
      | exact ih1 _ _ _ _ _ _
      | exact ih2 _ _ _ _ _ _ _ _ _
      | exact icehouseref04_Point.mono _ _ _
      | exact LeO.none _
      | refine LeO.ite ?_ ?_
      | refine LeO.bind ?_ (fun _ => ?_)
theorem icehouseref09_Points.mono : ∀ a0 a1 a2 k, LeO (icehouseref09_Points.f k a0 a1 a2) (icehouseref09_Points.f (k + 1) a0 a1 a2) := by
  intro a0 a1 a2 k
  obtain ⟨ih0, ih1, ih2⟩ := icehouseref09_Points.mono_l k
  unfold icehouseref09_Points.f
  repeat' first
      | (with_reducible exact ih0 _ _ _ _ _)
      | (with_reducible exact ih1 _ _ _ _ _ _)
      | (with_reducible exact ih2 _ _ _ _ _ _ _ _ _)
      | (with_reducible exact icehouseref04_Point.mono _ _ _)
      | (with_reducible exact LeO.refl _)
      | (with_reducible exact LeO.none _)
      | (with_reducible refine LeO.ite ?_ ?_)
      | (with_reducible refine LeO.bind ?_ (fun _ => ?_))
      | exact ih0 _ _ _ _ _
      | exact ih1 _ _ _ _ _ _
      | exact ih2 _ _ _ _ _ _ _ _ _
      | exact icehouseref04_Point.mono _ _ _
      | exact LeO.none _
      | refine LeO.ite ?_ ?_
      | refine LeO.bind ?_ (fun _ => ?_)
end Go.Proofs.Yteocngcojijnkaa.QH
namespace Go.Proofs.Yteocngcojijnkaa.QH
open Go.RowKit Go.Proofs.YteocngcojijnkaaW.PrintWords Go.Proofs.YteocngcojijnkaaW.PrintLast Go.Proofs.YteocngcojijnkaaW.PrintMore
attribute [local go_sem] max2_int min2_int max_two min_two max_three min_three max_four min_four   -- for this text's walks alone
set_option linter.unusedVariables false
set_option linter.unusedSimpArgs false
/-! ### icehouseref09_At: function 48 -/
def icehouseref09_At.l0 : Nat → List (S70) → Int → List Int → List Int → Int → Int → Option (List Int)
  | 0, _, _, _, _, _, _ => none
  | k + 1, x5, x6, x7, x199000, x199001, x199002 => if (x7.length : Int) < x199002 then (if 0 ≤ x6 then (if x6 < (x5.length : Int) then ((icehouseref09_Has.f k x7 ((rd_T70 x5 x6).f1)).bind fun t204 => (if t204 = true then (if (x5.length : Int) = 0 then (none) else (icehouseref09_At.l0 k x5 (Int.tmod (wrap64 (x6 + 1)) (x5.length : Int)) x7 x199000 x199001 x199002)) else (if x7.length < 17592186044416 then (if (x5.length : Int) = 0 then (none) else (icehouseref09_At.l0 k x5 (Int.tmod (wrap64 (x6 + 1)) (x5.length : Int)) (x7 ++ [(rd_T70 x5 x6).f1]) x199000 x199001 x199002)) else (none)))) else (none)) else (none)) else (some x7)
def icehouseref09_At.f (k : Nat) (l0_0 : List Int) (a0_1 : Int) (a0_2 : Int) (a1 : Int) : Option (List Int) := (icehouseref09_Points.f k l0_0 a0_1 a0_2).bind fun t199 => ((icehouseref09_First.f k t199 a1).bind fun t202 => (icehouseref09_At.l0 k t199 t202 ([] : List Int) l0_0 a0_1 a0_2))
theorem icehouseref09_At.mono_l : ∀ k, (∀ y0 y1 y2 y3 y4 y5, LeO (icehouseref09_At.l0 k y0 y1 y2 y3 y4 y5) (icehouseref09_At.l0 (k + 1) y0 y1 y2 y3 y4 y5))
  | 0 => fun _ _ _ _ _ _ r h => by simp [icehouseref09_At.l0] at h
  | k + 1 => by
    have ih0 := icehouseref09_At.mono_l k
    · intro y0 y1 y2 y3 y4 y5
      unfold icehouseref09_At.l0
      repeat' first
      | (with_reducible exact ih0 _ _ _ _ _ _)
      | (with_reducible exact icehouseref09_First.mono _ _ _)
      | (with_reducible exact icehouseref09_Has.mono _ _ _)
      | (with_reducible exact icehouseref09_Points.mono _ _ _ _)
      | (with_reducible exact LeO.refl _)
      | (with_reducible exact LeO.none _)
      | (with_reducible refine LeO.ite ?_ ?_)
      | (with_reducible refine LeO.bind ?_ (fun _ => ?_))
      | exact ih0 _ _ _ _ _ _
      | exact icehouseref09_First.mono _ _ _
      | exact icehouseref09_Has.mono _ _ _
      | exact icehouseref09_Points.mono _ _ _ _
      | exact LeO.none _
      | refine LeO.ite ?_ ?_
      | refine LeO.bind ?_ (fun _ => ?_)
theorem icehouseref09_At.mono : ∀ a0 a1 a2 a3 k, LeO (icehouseref09_At.f k a0 a1 a2 a3) (icehouseref09_At.f (k + 1) a0 a1 a2 a3) := by
  intro a0 a1 a2 a3 k
  have ih0 := icehouseref09_At.mono_l k
  unfold icehouseref09_At.f
  repeat' first
      | (with_reducible exact ih0 _ _ _ _ _ _)
      | (with_reducible exact icehouseref09_First.mono _ _ _)
      | (with_reducible exact icehouseref09_Has.mono _ _ _)
      | (with_reducible exact icehouseref09_Points.mono _ _ _ _)
      | (with_reducible exact LeO.refl _)
      | (with_reducible exact LeO.none _)
      | (with_reducible refine LeO.ite ?_ ?_)
      | (with_reducible refine LeO.bind ?_ (fun _ => ?_))
      | exact ih0 _ _ _ _ _ _
      | exact icehouseref09_First.mono _ _ _
      | exact icehouseref09_Has.mono _ _ _
      | exact icehouseref09_Points.mono _ _ _ _
      | exact LeO.none _
      | refine LeO.ite ?_ ?_
      | refine LeO.bind ?_ (fun _ => ?_)
/-! ### icehouseref09_Lists: function 41 -/
def icehouseref09_Lists.l0 : Nat → List (S70) → List (List Int) → Int → List Int → Int → Int → Option ((List (List Int)))
  | 0, _, _, _, _, _, _ => none
  | k + 1, x3, x4, x5, x210000, x210001, x210002 => if x5 < (x3.length : Int) then (if 0 ≤ x5 then ((icehouseref09_At.f k x210000 x210001 x210002 ((rd_T70 x3 x5).f0)).bind fun t214 => (if x4.length < 5864062014805 then (icehouseref09_Lists.l0 k x3 (x4 ++ [t214]) (wrap64 (x5 + 1)) x210000 x210001 x210002) else (none))) else (none)) else (some x4)
def icehouseref09_Lists.f (k : Nat) (l0_0 : List Int) (a0_1 : Int) (a0_2 : Int) : Option ((List (List Int))) := (icehouseref09_Points.f k l0_0 a0_1 a0_2).bind fun t210 => (icehouseref09_Lists.l0 k t210 ([] : List (List Int)) 0 l0_0 a0_1 a0_2)
theorem icehouseref09_Lists.mono_l : ∀ k, (∀ y0 y1 y2 y3 y4 y5, LeO (icehouseref09_Lists.l0 k y0 y1 y2 y3 y4 y5) (icehouseref09_Lists.l0 (k + 1) y0 y1 y2 y3 y4 y5))
  | 0 => fun _ _ _ _ _ _ r h => by simp [icehouseref09_Lists.l0] at h
  | k + 1 => by
    have ih0 := icehouseref09_Lists.mono_l k
    · intro y0 y1 y2 y3 y4 y5
      unfold icehouseref09_Lists.l0
      repeat' first
      | (with_reducible exact ih0 _ _ _ _ _ _)
      | (with_reducible exact icehouseref09_At.mono _ _ _ _ _)
      | (with_reducible exact icehouseref09_Points.mono _ _ _ _)
      | (with_reducible exact LeO.refl _)
      | (with_reducible exact LeO.none _)
      | (with_reducible refine LeO.ite ?_ ?_)
      | (with_reducible refine LeO.bind ?_ (fun _ => ?_))
      | exact ih0 _ _ _ _ _ _
      | exact icehouseref09_At.mono _ _ _ _ _
      | exact icehouseref09_Points.mono _ _ _ _
      | exact LeO.none _
      | refine LeO.ite ?_ ?_
      | refine LeO.bind ?_ (fun _ => ?_)
theorem icehouseref09_Lists.mono : ∀ a0 a1 a2 k, LeO (icehouseref09_Lists.f k a0 a1 a2) (icehouseref09_Lists.f (k + 1) a0 a1 a2) := by
  intro a0 a1 a2 k
  have ih0 := icehouseref09_Lists.mono_l k
  unfold icehouseref09_Lists.f
  repeat' first
      | (with_reducible exact ih0 _ _ _ _ _ _)
      | (with_reducible exact icehouseref09_At.mono _ _ _ _ _)
      | (with_reducible exact icehouseref09_Points.mono _ _ _ _)
      | (with_reducible exact LeO.refl _)
      | (with_reducible exact LeO.none _)
      | (with_reducible refine LeO.ite ?_ ?_)
      | (with_reducible refine LeO.bind ?_ (fun _ => ?_))
      | exact ih0 _ _ _ _ _ _
      | exact icehouseref09_At.mono _ _ _ _ _
      | exact icehouseref09_Points.mono _ _ _ _
      | exact LeO.none _
      | refine LeO.ite ?_ ?_
      | refine LeO.bind ?_ (fun _ => ?_)
def icehouseref09_Lists.T6 : Bool × List (List Nat × List Nat) := (true, [([], []), ([], []), ([], []), ([], []), ([2, 3], [2, 3]), ([4], [4]), ([5], [5]), ([1, 6], [1, 6]), ([7], [7]), ([0, 8, 7], [0, 8]), ([9, 9, 0, 1, 2, 3, 4, 5, 6, 7, 8, 9], [0, 9])])
def icehouseref09_Lists.B6 : List Nat := [0, 0, 0, 0, 12, 28, 60, 126, 254, 511, 1023]
theorem icehouseref09_Lists.tab6 : rtab .any (opsOf Try.f41 6) = icehouseref09_Lists.T6 := by kernel_rfl
theorem icehouseref09_Lists.bits6 : waitsOk icehouseref09_Lists.T6.2 icehouseref09_Lists.B6 = true := by kernel_rfl
end Go.Proofs.Yteocngcojijnkaa.QH
namespace Go.Proofs.Yteocngcojijnkaa.QH
open Go.RowKit Go.Proofs.YteocngcojijnkaaW.PrintWords Go.Proofs.YteocngcojijnkaaW.PrintLast Go.Proofs.YteocngcojijnkaaW.PrintMore
attribute [local go_sem] max2_int min2_int max_two min_two max_three min_three max_four min_four   -- for this text's walks alone
set_option linter.unusedVariables false
set_option linter.unusedSimpArgs false
end Go.Proofs.Yteocngcojijnkaa.QH
namespace Go.Proofs.Yteocngcojijnkaa.Hlp
open Go.RowKit Go.Proofs.YteocngcojijnkaaW.PrintWords Go.Proofs.YteocngcojijnkaaW.PrintLast Go.Proofs.YteocngcojijnkaaW.PrintMore
theorem C_at {α : Type} {enc : α → Value} {h1 : ∀ x, (enc x).oneCell' = true} {w : World} {A : Option Addr} {xs : List α} (h : (Kd.scalar enc h1).C w A xs.length xs) (k : Nat) (hk : k < xs.length) :
    ∃ ad, A = some ad ∧ w.cell? (ad.add k) = some (enc xs[k]) := by
  obtain ⟨ad, e, hc⟩ := h.2.2 (by omega)
  obtain ⟨c, hs, hr, hcell⟩ := hc k _ (List.getElem?_eq_getElem hk)
  obtain rfl : c = [enc xs[k]] := hr
  have := hcell 0 _ rfl
  rw [show (Kd.scalar enc h1).sz = 1 from rfl, Nat.mul_one, Nat.add_zero] at this
  exact ⟨ad, e, this⟩
/-- a row that is read, by its block -/
theorem C_block {α : Type} {enc : α → Value} {h1 : ∀ x, (enc x).oneCell' = true} {w : World} {A : Option Addr} {xs : List α} (h : (Kd.scalar enc h1).C w A xs.length xs) (h0 : 0 < xs.length) :
    ∃ b off, A = some ⟨b, off, none⟩ ∧ ∀ (k : Nat) (hk : k < xs.length), w.cell? ⟨b, off + k, none⟩ = some (enc xs[k]) := by
  obtain ⟨ad, rfl, hc⟩ := C_at h 0 h0
  obtain ⟨b, off, sp⟩ := ad
  cases sp with
  | some x => simp [World.cell?, Addr.add] at hc; split at hc <;> simp at hc
  | none =>
    refine ⟨b, off, rfl, fun k hk => ?_⟩
    obtain ⟨ad, he, hc⟩ := C_at h k hk
    injection he with he
    subst he
    rw [← hc]
    unfold Addr.add
    split <;> simp_all
theorem C_mk {α : Type} {enc : α → Value} {h1 : ∀ x, (enc x).oneCell' = true} {w : World} {b off : Nat} {xs : List α} (hm : xs.length ≤ 9223372036854775807) (h : ∀ (k : Nat) (hk : k < xs.length), w.cell? ⟨b, off + k, none⟩ = some (enc xs[k])) :
    (Kd.scalar enc h1).C w (some ⟨b, off, none⟩) xs.length xs := by
  refine ⟨rfl, hm, fun _ => ⟨_, rfl, fun j p hj => ?_⟩⟩
  obtain ⟨hlt, hp⟩ := List.getElem?_eq_some_iff.1 hj
  subst hp
  refine ⟨[enc xs[j]], rfl, rfl, fun i u hu => ?_⟩
  have hi : i = 0 := by
    have := (List.getElem?_eq_some_iff.1 hu).1
    simp at this; exact this
  subst hi
  simp at hu
  subst hu
  rw [show (Kd.scalar enc h1).sz = 1 from rfl, Nat.mul_one, Nat.add_zero, ← h j hlt]
  unfold Addr.add
  split <;> simp_all
/-- a block that was just made is a row -/
theorem C_blk {α : Type} {enc : α → Value} {h1 : ∀ x, (enc x).oneCell' = true} {w : World} {g : Nat} {e : TypeId} {fr : Nat × Nat} {xs : List α} {cs : Array Value} (hm : xs.length ≤ 9223372036854775807) (h : w.heap[g]? = some (.cells cs e fr)) (hcs : cs.toList = xs.map enc) :
    (Kd.scalar enc h1).C w (some ⟨g, 0, none⟩) xs.length xs := by
  refine C_mk hm fun k hk => ?_
  rw [Nat.zero_add, cell_of_row w g k cs e fr h, ← Array.getElem?_toList, hcs]
  simp [hk]
end Go.Proofs.Yteocngcojijnkaa.Hlp
namespace Go.Proofs.Yteocngcojijnkaa.Hs
open Go.ChangeShapes Go.WideShapes Go.ChangeAt Go.RowKit Go.Proofs.Yteocngcojijnkaa.QH
open Go.Proofs.YteocngcojijnkaaW.PrintWords Go.Proofs.YteocngcojijnkaaW.PrintLast Go.Proofs.YteocngcojijnkaaW.PrintMore
set_option linter.unusedVariables false
set_option linter.unusedSimpArgs false
def stepH (h c : Int) : Int := IntKind.u64.wrap ((Go.bits .xor .u64 h (IntKind.u64.wrap c)) * 1099511628211)
def sumRow (h : Int) (l : List Int) : Int := l.foldl stepH h
def sumFrom (h : Int) (l : List (List Int)) : Int := l.foldl sumRow h
def begH : Int := 14695981039346656037
def sumH (l : List (List Int)) : Int := sumFrom begH l
theorem drawn_trans {w w1 w2 : World} (h : Drawn0 w w1) (k : Drawn0 w1 w2) : Drawn0 w w2 := by
  obtain ⟨n, rfl⟩ := k
  exact h.step n
theorem C_row {w : World} {A : Option Addr} {l : List (List Int)} (h : Kd.C (Kd.slice 5 (Kd.int .u8)) w A l.length l) (k : Nat) (hk : k < l.length) :
    ∃ ad A0 c0, A = some ad ∧ w.cell? (ad.add k) = some (.slice A0 l[k].length c0) ∧ l[k].length ≤ c0 ∧ (Kd.int .u8).C w A0 l[k].length l[k] := by
  obtain ⟨ad, c, e, _, hK, hc0⟩ := Kd.C_get h ([] : List Int) (k : Int) (by omega) (by omega)
  have hg : l.getD (k : Int).toNat [] = l[k] := by rw [show (k : Int).toNat = k from rfl]; simp [hk]
  rw [hg] at hK
  obtain ⟨A0, c0, rfl, l0, g0⟩ := hK
  have hq := hc0 0 _ rfl
  rw [show (Kd.slice 5 (Kd.int .u8)).sz = 1 from rfl, Nat.mul_one, Nat.add_zero] at hq
  exact ⟨ad, A0, c0, e, hq, l0, g0⟩
/-- what is stirred -/
def stirH (h : Int) : Int := (hash_Stir.f h).getD 0
theorem stir_f (h : Int) : hash_Stir.f h = some (stirH h) := rfl
def hash_Sum.f (l : List (List Int)) : Option Int := some (sumH l)
set_option maxHeartbeats 4000000 in
set_option maxRecDepth 100000 in
theorem hash_Sum.calls (A : Option Addr) (c : Nat) (l : List (List Int)) (r : Int) (w : World) (hr : Kd.C (Kd.slice 5 (Kd.int .u8)) w A l.length l) (hc : l.length ≤ c) (hf : hash_Sum.f l = some r) :
    Calls Try.prog 62 #[.slice A l.length c] w fun e w' => e = .returned (.int .u64 r) ∧ Drawn0 w w' := by
  obtain rfl := Option.some.inj hf
  have HR := Aside0.mk hr
  have hm := hr.2.1
  clear hr hf
  obtain ⟨h0, hh0⟩ : ∃ h0, h0 = begH := ⟨_, rfl⟩
  have HH0 := Aside0.mk hh0
  go_enter Try.func62, Try.ntmps62
  go_wp2
  go_step3
  go_wp2
  go_step3
  go_wp2
  go_loopg [3, 10] l.length (fun q vh vi w' => ∃ (h : Int) (k : Nat), vh = .int .u64 h ∧ vi = .int .i64 k ∧ k ≤ l.length ∧ q = l.length - k ∧ Aside0 (sumH l = sumFrom h (l.drop k)) ∧ Aside0 (Drawn0 w w'))
  case atStart => exact ⟨begH, 0, rfl, rfl, Nat.zero_le _, rfl, ⟨rfl⟩, ⟨Drawn0.refl w⟩⟩
  case round =>
    obtain ⟨h, k, rfl, rfl, hk, rfl, HS, HD⟩ := hrel
    by_cases hlt : k < l.length
    · obtain ⟨ad, A0, c0, hA, hcell, hc0, hrow⟩ := C_row HR.out k hlt
      subst hA
      have t1 : decide ((k : Int) < (l.length : Int)) = true := decide_eq_true (by omega)
      obtain ⟨row, hrw⟩ : ∃ row, l[k] = row := ⟨_, rfl⟩
      rw [hrw] at hcell hc0 hrow
      have HN : Aside0 (sumH l = sumFrom (sumRow h row) (l.drop (k + 1))) := ⟨by rw [HS.out, List.drop_eq_getElem_cons hlt, hrw]; rfl⟩
      have HRow := Aside0.mk hrow
      have hcell := pw_cell_below HD.out.below hcell
      have hmr := hrow.2.1
      clear hrw hrow
      by_cases he : row.length = 0
      · obtain rfl := List.length_eq_zero_iff.1 he
        clear he hk
        go_wp2_with fail
        go_roundg (l.length - (k + 1))
        case measure => omega
        case rel => exact ⟨h, k + 1, rfl, by go_num, by omega, rfl, HN, HD⟩
      · have t2 : ((row.length : Int) == 0) = false := beq_eq_false_iff_ne.2 (by omega)
        clear he hk
        go_wp2_with fail
        go_loopg [3, 19] row.length (fun q vh vi w' => ∃ (h' : Int) (j : Nat), vh = .int .u64 h' ∧ vi = .int .i64 j ∧ j ≤ row.length ∧ q = row.length - j ∧ Aside0 (sumRow h row = sumRow h' (row.drop j)) ∧ Aside0 (Drawn0 w w'))
        case atStart => exact ⟨h, 0, rfl, rfl, Nat.zero_le _, rfl, ⟨rfl⟩, HD⟩
        case round =>
          obtain ⟨h', j, rfl, rfl, hj, rfl, HS', HD'⟩ := hrel
          clear hcell
          by_cases hjl : j < row.length
          · obtain ⟨b, off, hA0, hcl⟩ := Hlp.C_block HRow.out (by omega)
            have hc1 := pw_cell_below HD'.out.below (hcl j hjl)
            subst hA0
            obtain ⟨x, hx⟩ : ∃ x, row[j] = x := ⟨_, rfl⟩
            rw [hx] at hc1
            have HN' : Aside0 (sumRow h row = sumRow (stepH h' x) (row.drop (j + 1))) := ⟨by rw [HS'.out, List.drop_eq_getElem_cons hjl, hx]; rfl⟩
            have t3 : decide ((j : Int) < (row.length : Int)) = true := decide_eq_true (by omega)
            clear hx hcl
            go_wp2_with fail
            (with_reducible refine (hash_Step.calls h' x (stepH h' x) _ rfl).mono ?_)
            rintro e w2 ⟨rfl, hd⟩
            have HD2 := Aside0.mk (drawn_trans HD'.out hd)
            clear hd
            go_wp2_with fail
            go_roundg (row.length - (j + 1))
            case measure => omega
            case rel => exact ⟨stepH h' x, j + 1, rfl, by go_num, hjl, rfl, HN', HD2⟩
          · obtain rfl : j = row.length := by omega
            have t3 : decide ((row.length : Int) < (row.length : Int)) = false := decide_eq_false (by omega)
            rw [List.drop_length] at HS'
            have HH : Aside0 (h' = sumRow h row) := ⟨HS'.out.symm⟩
            go_wp2_with fail
            go_roundg (l.length - (k + 1))
            case measure => omega
            case rel => exact ⟨h', k + 1, rfl, by go_num, by omega, rfl, ⟨by rw [HH.out]; exact HN.out⟩, HD'⟩
    · obtain rfl : k = l.length := by omega
      have t1 : decide ((l.length : Int) < (l.length : Int)) = false := decide_eq_false (by omega)
      rw [List.drop_length] at HS
      have HH : Aside0 (sumH l = h) := ⟨HS.out⟩
      go_wp2_with fail
      rw [Exit.noGoto_ret]
      go_ret
      exact ⟨by rw [HH.out]; rfl, HD.out⟩
end Go.Proofs.Yteocngcojijnkaa.Hs
namespace Go.Proofs.Yteocngcojijnkaa.Hs
open Go.ChangeShapes Go.WideShapes Go.ChangeAt Go.RowKit Go.Proofs.Yteocngcojijnkaa.QH
open Go.Proofs.YteocngcojijnkaaW.PrintWords Go.Proofs.YteocngcojijnkaaW.PrintLast Go.Proofs.YteocngcojijnkaaW.PrintMore
set_option linter.unusedVariables false
set_option linter.unusedSimpArgs false
def cmpI (a b : Int) : Int := if a < b then -1 else if a > b then 1 else 0
theorem cmp_f (a b : Int) : cmp_Compare_uint64.f a b = some (cmpI a b) := by
  unfold cmp_Compare_uint64.f cmp_isNaN_uint64.f cmpI
  by_cases h1 : a < b
  · simp [h1]
  · by_cases h2 : a > b
    · simp [h1, h2]
    · simp [h1, h2]
set_option maxHeartbeats 4000000 in
set_option maxRecDepth 100000 in
theorem fclo_ (a n h : Int) (w : World) :
    Calls Try.prog 55 #[.agg #[.int .u64 a, .int .i64 n], .int .u64 h] w fun e w' => e = .returned (.int .i64 (cmpI a h)) ∧ Below w.heap.size w w' := by
  have BE := Aside0.mk (blk_new w (.cells #[.int .u64 a, .int .i64 n] 70))
  have HB := Aside0.mk (below_alloc (Below.refl w.heap.size w) (.cells #[.int .u64 a, .int .i64 n] 70))
  go_enter Try.func55, Try.ntmps55
  go_wp2_with fail
  (with_reducible refine (cmp_Compare_uint64.calls _ _ _ _ (cmp_f a h)).mono ?_)
  rintro e w3 ⟨rfl, hd⟩
  have HD := Aside0.mk hd
  clear hd
  go_wp2_with fail
  go_ret
  exact ⟨rfl, below_then HB.out HB.out.size HD.out.below⟩
theorem C_pt {w : World} {A : Option Addr} {l : List S70} (h : Kd.C k70 w A l.length l) (k : Nat) (hk : k < l.length) :
    ∃ b off, A = some ⟨b, off, none⟩ ∧ w.cell? ⟨b, off + k * 2, none⟩ = some (.int .u64 l[k].f0) ∧ w.cell? ⟨b, off + k * 2 + 1, none⟩ = some (.int .i64 l[k].f1) := by
  obtain ⟨ad, rfl, h0, _⟩ := at_T70 h 0 (by omega) (by omega)
  obtain ⟨b, off, sp⟩ := ad
  cases sp with
  | some x => simp [World.cell?, Addr.add] at h0; split at h0 <;> simp at h0
  | none =>
    obtain ⟨ad, he, h1, h2⟩ := at_T70 h (k : Int) (by omega) (by omega)
    obtain rfl := Option.some.inj he
    have hg : rd_T70 l (k : Int) = l[k] := by unfold rd_T70; rw [show (k : Int).toNat = k from rfl]; simp [hk]
    rw [hg, show (k : Int).toNat = k from rfl] at h1 h2
    have e1 : (⟨b, off, none⟩ : Addr).add (k * 2) = ⟨b, off + k * 2, none⟩ := by
      unfold Addr.add
      split
      · rename_i h0; rw [h0]; simp
      · rfl
    rw [e1] at h1 h2
    exact ⟨b, off, rfl, h1, h2⟩
/-- where the search ends: those ahead are smaller, that one is not -/
def Found (l : List S70) (h : Int) (i : Nat) : Prop := (∀ k, k + 1 = i → ∀ (hk : k < l.length), l[k].f0 < h) ∧ ∀ (hi : i < l.length), h ≤ l[i].f0
set_option maxHeartbeats 4000000 in
set_option maxRecDepth 100000 in
theorem search_ (A : Option Addr) (c : Nat) (l : List S70) (h : Int) (w : World) (hr : Kd.C k70 w A l.length l) (hc : l.length ≤ c) (hm : l.length ≤ 4611686018427387903) :
    Calls Try.prog 54 #[.slice A l.length c, .int .u64 h, .func (.func 55) #[] #[]] w fun e w' => ∃ (i : Nat) (b : Bool), e = .returned (.tuple #[.int .i64 i, .bool b]) ∧ i ≤ l.length ∧ Found l h i ∧ Below w.heap.size w w' := by
  have HR := Aside0.mk hr
  have HC := Aside0.mk hc
  clear hr hc
  go_enter Try.func54, Try.ntmps54
  go_wp2
  go_loopg [9, 10] l.length (fun q vi vj w' => ∃ (i j : Nat), vi = .int .i64 i ∧ vj = .int .i64 j ∧ i ≤ j ∧ j ≤ l.length ∧ q = j - i ∧ Aside0 ((∀ k, k + 1 = i → ∀ (hk : k < l.length), l[k].f0 < h) ∧ ∀ (hj : j < l.length), h ≤ l[j].f0) ∧ Aside0 (Below w.heap.size w w'))
  case atStart => exact ⟨0, l.length, rfl, rfl, Nat.zero_le _, Nat.le_refl _, rfl, ⟨fun k hk => absurd hk (by omega), fun hj => absurd hj (Nat.lt_irrefl _)⟩, ⟨Below.refl _ _⟩⟩
  case round =>
    obtain ⟨i, j, rfl, rfl, hij, hj, rfl, HF, HB⟩ := hrel
    by_cases hlt : i < j
    · have t1 : decide ((i : Int) < (j : Int)) = true := decide_eq_true (by omega)
      have hm1 : (i + j) / 2 < l.length := by omega
      obtain ⟨b, off, hA, hc1, hc2⟩ := C_pt (Kd.C_below HR.out HB.out) ((i + j) / 2) hm1
      subst hA
      obtain ⟨k, hk⟩ : ∃ k, (i + j) / 2 = k := ⟨_, rfl⟩
      have HK : Aside0 (i ≤ k ∧ k < j) := ⟨by omega, by omega⟩
      obtain ⟨x, hx⟩ : ∃ x, l[(i + j) / 2].f0 = x := ⟨_, rfl⟩
      obtain ⟨y, hy⟩ : ∃ y, l[(i + j) / 2].f1 = y := ⟨_, rfl⟩
      rw [hx] at hc1
      rw [hy] at hc2
      have HX : Aside0 (∀ (hk : k < l.length), l[k].f0 = x) := ⟨fun hk' => by subst hk; exact hx⟩
      have HKe := Aside0.mk hk
      clear hx hy hk
      go_wp2_with fail
      (with_reducible refine (fclo_ x y h _).mono ?_)
      rintro e w3 ⟨rfl, hb⟩
      have HB1 := Aside0.mk (below_then HB.out HB.out.size hb)
      clear hb
      have t0 := HK.out
      by_cases hxh : x < h
      · have hcm : cmpI x h = -1 := if_pos hxh
        have HXH := Aside0.mk hxh
        rw [hcm]
        clear hcm hxh
        go_wp2_with fail
        go_roundg (j - (k + 1))
        case measure => omega
        case rel => exact ⟨k + 1, j, by rw [show (((i : Int) + (j : Int)) / 2) = ((k : Nat) : Int) from by have := HKe.out; omega]; go_num, rfl, by omega, hj, rfl, ⟨fun k' hk' hlt' => by
          obtain rfl : k' = k := by omega
          rw [HX.out]; exact HXH.out, HF.out.2⟩, HB1⟩
      · have hcm : decide (cmpI x h < 0) = false := decide_eq_false (by unfold cmpI; rw [if_neg hxh]; split <;> omega)
        have HXH := Aside0.mk hxh
        obtain ⟨z, hz⟩ : ∃ z, cmpI x h = z := ⟨_, rfl⟩
        rw [hz] at hcm ⊢
        clear hxh hz
        go_wp2_with fail
        go_roundg (k - i)
        case measure => omega
        case rel => exact ⟨i, k, rfl, by rw [show (((i : Int) + (j : Int)) / 2) = ((k : Nat) : Int) from by have := HKe.out; omega], by omega, by omega, rfl, ⟨HF.out.1, fun hk' => by rw [HX.out]; have := HXH.out; omega⟩, HB1⟩
    · obtain rfl : i = j := by omega
      have t1 : decide ((i : Int) < (i : Int)) = false := decide_eq_false (by omega)
      by_cases hin : i < l.length
      · have t2 : decide ((i : Int) < (l.length : Int)) = true := decide_eq_true (by omega)
        obtain ⟨b, off, hA, hc1, hc2⟩ := C_pt (Kd.C_below HR.out HB.out) i hin
        subst hA
        go_wp2_with fail
        (with_reducible refine (fclo_ _ _ h _).mono ?_)
        rintro e w3 ⟨rfl, hb⟩
        have HB1 := Aside0.mk (below_then HB.out HB.out.size hb)
        clear hb
        go_wp2_with fail
        go_ret2
        exact ⟨i, _, rfl, hj, HF.out, HB1.out⟩
      · have t2 : decide ((i : Int) < (l.length : Int)) = false := decide_eq_false (by omega)
        have t3 : decide (i < l.length) = false := decide_eq_false hin
        go_wp2_with fail
        go_ret2
        exact ⟨i, _, rfl, hj, HF.out, HB.out⟩
/-- the place from which a word is kept -/
def firstL (l : List S70) (h : Int) : Nat := (l.takeWhile fun p => decide (p.f0 < h)).length % l.length
def Rise (l : List S70) : Prop := l.Pairwise fun p q => p.f0 ≤ q.f0
theorem tw_all {α : Type} {p : α → Bool} : ∀ {l : List α}, (∀ x ∈ l, p x = true) → l.takeWhile p = l
  | [], _ => rfl
  | x :: l, h => by rw [List.takeWhile_cons_of_pos (h x List.mem_cons_self), tw_all (fun y hy => h y (List.mem_cons_of_mem _ hy))]
theorem found_is {l : List S70} {h : Int} {i : Nat} (hs : Rise l) (hf : Found l h i) (hi : i ≤ l.length) : (l.takeWhile fun p => decide (p.f0 < h)).length = i := by
  obtain ⟨h1, h2⟩ := hf
  have ha : ∀ k (hk : k < i), l[k].f0 < h := by
    intro k hk
    have h3 := h1 (i - 1) (by omega) (by omega)
    by_cases he : k = i - 1
    · subst he; exact h3
    · have := List.pairwise_iff_getElem.1 hs k (i - 1) (by omega) (by omega) (by omega)
      omega
  have e : l = l.take i ++ l.drop i := (List.take_append_drop i l).symm
  have ht : (l.take i).takeWhile (fun p => decide (p.f0 < h)) = l.take i := by
    apply tw_all
    intro x hx
    obtain ⟨k, hk, rfl⟩ := List.getElem_of_mem hx
    rw [List.length_take] at hk
    rw [List.getElem_take]
    exact decide_eq_true (ha k (by omega))
  have hd : (l.drop i).takeWhile (fun p => decide (p.f0 < h)) = [] := by
    by_cases hi' : i < l.length
    · rw [List.drop_eq_getElem_cons hi', List.takeWhile_cons_of_neg]
      have := h2 hi'
      simp; omega
    · rw [List.drop_eq_nil_of_le (by omega)]; rfl
  rw [e, List.takeWhile_append, ht, hd, List.append_nil]
  have : (l.take i).length = i := by rw [List.length_take]; omega
  simp [this]
def ring_first.f (l : List S70) (h : Int) : Option Int := if 0 < l.length ∧ l.length ≤ 4611686018427387903 ∧ l.Pairwise (fun p q => p.f0 ≤ q.f0) then some (firstL l h : Nat) else none
set_option maxHeartbeats 4000000 in
set_option maxRecDepth 100000 in
theorem ring_first.calls (A : Option Addr) (c : Nat) (l : List S70) (h : Int) (r : Int) (w : World) (hr : Kd.C k70 w A l.length l) (hc : l.length ≤ c) (hf : ring_first.f l h = some r) :
    Calls Try.prog 45 #[.slice A l.length c, .int .u64 h] w fun e w' => e = .returned (.int .i64 r) ∧ Below w.heap.size w w' := by
  unfold ring_first.f at hf
  split at hf
  · rename_i hh
    obtain ⟨h0, hm, hs⟩ := hh
    have HF := Aside0.mk (Option.some.inj hf)
    have HS := Aside0.mk hs
    have HR := Aside0.mk hr
    have HC := Aside0.mk hc
    clear hr hf hs hc
    go_enter Try.func45, Try.ntmps45
    go_wp2_with fail
    (with_reducible refine (search_ A c l h _ HR.out HC.out hm).mono ?_)
    rintro e w3 ⟨i, b, rfl, hi, hfo, hb⟩
    have HB := Aside0.mk hb
    have HE := Aside0.mk (found_is HS.out hfo hi)
    have t1 : (0 : Int) < (l.length : Int) := by omega
    clear hb hfo
    go_wp2_with fail
    go_ret
    refine ⟨?_, HB.out⟩
    rw [← HF.out]
    unfold firstL
    rw [HE.out]
    simp
  · cases hf
end Go.Proofs.Yteocngcojijnkaa.Hs
namespace Go.Proofs.Yteocngcojijnkaa.Hs
open Go.ChangeShapes Go.WideShapes Go.ChangeAt Go.RowKit Go.Proofs.Yteocngcojijnkaa.QH
open Go.Proofs.YteocngcojijnkaaW.PrintWords Go.Proofs.YteocngcojijnkaaW.PrintLast Go.Proofs.YteocngcojijnkaaW.PrintMore
set_option linter.unusedVariables false
set_option linter.unusedSimpArgs false
/-- draws, and blocks of its own -/
def G (w w' : World) : Prop := ∃ (q : Nat) (os : Array Obj), w' = Go.Sort.grow (w.drewN q) os
theorem G.refl (w : World) : G w w := ⟨0, #[], by rw [Go.Sort.grow_empty]; rfl⟩
theorem G.drewN {w w' : World} (h : G w w') (n : Nat) : G w (w'.drewN n) := by
  obtain ⟨q, os, rfl⟩ := h
  exact ⟨q + n, os, by simp [Go.Sort.grow, World.drewN, Nat.add_assoc]⟩
theorem G.alloc {w w' : World} (h : G w w') (o : Obj) : G w (w'.alloc o) := by
  obtain ⟨q, os, rfl⟩ := h
  exact ⟨q, os.push o, by simp [Go.Sort.grow, World.alloc]⟩
theorem G.drawn {w w' w'' : World} (h : G w w') (k : Drawn0 w' w'') : G w w'' := by
  obtain ⟨n, rfl⟩ := k
  exact h.drewN n
def cmp2 (a b c d : Int) : Int := if cmpI a c ≠ 0 then cmpI a c else cmpI b d
theorem cmpi_f (a b : Int) : cmp_Compare_int.f a b = some (cmpI a b) := by
  unfold cmp_Compare_int.f cmp_isNaN_int.f cmpI
  by_cases h1 : a < b
  · simp [h1]
  · by_cases h2 : a > b
    · simp [h1, h2]
    · simp [h1, h2]
theorem or_f (x y : Int) : cmp_Or_int.f 3 [x, y] = some (if x ≠ 0 then x else y) := by
  unfold cmp_Or_int.f
  simp only [cmp_Or_int.l0, List.length_cons, List.length_nil]
  by_cases h : x = 0
  · subst h
    by_cases h2 : y = 0
    · subst h2; simp [rd, wrap64]
    · simp [rd, wrap64, h2]
  · simp [rd, wrap64, h]
set_option maxHeartbeats 4000000 in
set_option maxRecDepth 100000 in
theorem compare_ (a b c d : Int) (w : World) :
    Calls Try.prog 52 #[.agg #[.int .u64 a, .int .i64 b], .agg #[.int .u64 c, .int .i64 d]] w fun e w' => e = .returned (.int .i64 (cmp2 a b c d)) ∧ G w w' := by
  have G0 := Aside0.mk (((G.refl w).alloc (.cells #[.int .u64 a, .int .i64 b] 70)).alloc (.cells #[.int .u64 c, .int .i64 d] 70))
  go_enter Try.func52, Try.ntmps52
  go_upto_region 1 with fail
  obtain ⟨x, hx⟩ : ∃ x, cmpI a c = x := ⟨_, rfl⟩
  obtain ⟨y, hy⟩ : ∃ y, cmpI b d = y := ⟨_, rfl⟩
  obtain ⟨z, hz⟩ : ∃ z, (if x ≠ 0 then x else y) = z := ⟨_, rfl⟩
  have HZ : Aside0 (z = cmp2 a b c d) := ⟨by unfold cmp2; rw [hx, hy, hz]⟩
  have HX : Aside0 (∀ w, Calls Try.prog 56 #[.int .u64 a, .int .u64 c] w fun e w' => e = .returned (.int .i64 x) ∧ Drawn0 w w') := ⟨fun w => cmp_Compare_uint64.calls _ _ _ _ (by rw [cmp_f, hx])⟩
  have HY : Aside0 (∀ w, Calls Try.prog 67 #[.int .i64 b, .int .i64 d] w fun e w' => e = .returned (.int .i64 y) ∧ Drawn0 w w') := ⟨fun w => cmp_Compare_int.calls _ _ _ _ (by rw [cmpi_f, hy])⟩
  clear hx hy
  obtain ⟨W, hW⟩ : ∃ W, W = (w.alloc (.cells #[.int .u64 a, .int .i64 b] 70)).alloc (.cells #[.int .u64 c, .int .i64 d] 70) := ⟨_, rfl⟩
  have hsz : (w.alloc (.cells #[.int .u64 a, .int .i64 b] 70)).heap.size = w.heap.size + 1 := Array.size_push ..
  have b1 : W.heap[w.heap.size]? = some (.cells #[.int .u64 a, .int .i64 b] 70 (0, 0)) := by rw [hW]; exact blk_alloc (blk_new w _) _
  have b2 : W.heap[w.heap.size + 1]? = some (.cells #[.int .u64 c, .int .i64 d] 70 (0, 0)) := by rw [hW, ← hsz]; exact blk_new _ _
  obtain ⟨g, hg⟩ : ∃ g, w.heap.size = g := ⟨_, rfl⟩
  rw [hg] at b1 b2
  have c1 : W.cell? ⟨g, 0, none⟩ = some (.int .u64 a) := (blk_cell b1 0).trans rfl
  have c2 : W.cell? ⟨g, 1, none⟩ = some (.int .i64 b) := (blk_cell b1 1).trans rfl
  have c3 : W.cell? ⟨g + 1, 0, none⟩ = some (.int .u64 c) := (blk_cell b2 0).trans rfl
  have c4 : W.cell? ⟨g + 1, 1, none⟩ = some (.int .i64 d) := (blk_cell b2 1).trans rfl
  have HO : Aside0 (∀ (n : Nat) (o : TypeId), Calls Try.prog 66 #[.slice (some ⟨W.heap.size, 0, none⟩) 2 2] ((W.drewN n).alloc (.cells #[.int .i64 x, .int .i64 y] o)) fun e w' => e = .returned (.int .i64 z) ∧ Drawn0 ((W.drewN n).alloc (.cells #[.int .i64 x, .int .i64 y] o)) w') := ⟨fun n o => cmp_Or_int.calls 3 _ 2 [x, y] _ _ (Hlp.C_blk (by simp) (blk_new (W.drewN n) _) rfl) (by simp) (by rw [or_f x y, hz])⟩
  rw [← hW] at G0 ⊢
  rw [hg]
  clear hW b1 b2 hsz hg hz
  go_region_held3 (fun W => W.cell? ⟨g, 0, none⟩ = some (.int .u64 a) ∧ W.cell? ⟨g, 1, none⟩ = some (.int .i64 b) ∧ W.cell? ⟨g + 1, 0, none⟩ = some (.int .u64 c) ∧ W.cell? ⟨g + 1, 1, none⟩ = some (.int .i64 d)) (go_keep) (first
    | (go_at_call 56; (with_reducible refine (HX.out _).mono ?_); rintro e w' ⟨rfl, ⟨nd, rfl⟩⟩)
    | (go_at_call 67; (with_reducible refine (HY.out _).mono ?_); rintro e w' ⟨rfl, ⟨nd, rfl⟩⟩)
    | (go_at_call 66; (with_reducible refine (HO.out _ _).mono ?_); rintro e w' ⟨rfl, ⟨nd, rfl⟩⟩))
  all_goals
    go_wp2_with fail
    go_ret
    refine ⟨by rw [← HZ.out]; rfl, ?_⟩
    repeat (first | exact G0.out | refine G.drewN ?_ _ | refine G.alloc ?_ _)
end Go.Proofs.Yteocngcojijnkaa.Hs
namespace Go.Proofs.Yteocngcojijnkaa.Hs
open Go.RowKit Go.Shelf
set_option linter.unusedVariables false
def srtRen : Go.Shelf.Ren := ⟨fun | 6 => 51 | 14 => 64 | 15 => 65 | 20 => 74 | 21 => 75 | 22 => 76 | 23 => 77 | 24 => 78 | 25 => 79 | 26 => 80 | 27 => 81 | 28 => 82 | 29 => 83 | 46 => 87 | 47 => 88 | 48 => 89 | 49 => 90 | 50 => 91 | 57 => 92 | n => n, fun | 0 => 0 | 3 => 3 | 4 => 4 | 5 => 5 | 9 => 9 | 22 => 65 | 24 => 70 | 25 => 79 | 39 => 92 | 45 => 100 | 46 => 101 | 50 => 81 | 53 => 107 | 55 => 68 | 66 => 109 | 70 => 113 | 76 => 115 | 77 => 116 | n => n, fun n => n⟩
set_option maxRecDepth 100000 in
theorem srtLays : SlLaysF0.n6 Try.prog srtRen := {
  mixed := by kernel_rfl
  f6 := ⟨"slices.SortFunc[[]icehouse/api.Point,icehouse/api.Point]", by decide, by kernel_rfl⟩
  f14 := ⟨"slices.pdqsortCmpFunc[icehouse/api.Point]", by decide, by kernel_rfl⟩
  f15 := by kernel_rfl
  f20 := ⟨"slices.insertionSortCmpFunc[icehouse/api.Point]", by decide, by kernel_rfl⟩
  f21 := ⟨"slices.heapSortCmpFunc[icehouse/api.Point]", by decide, by kernel_rfl⟩
  f22 := ⟨"slices.breakPatternsCmpFunc[icehouse/api.Point]", by decide, by kernel_rfl⟩
  f23 := ⟨"slices.choosePivotCmpFunc[icehouse/api.Point]", by decide, by kernel_rfl⟩
  f24 := ⟨"slices.reverseRangeCmpFunc[icehouse/api.Point]", by decide, by kernel_rfl⟩
  f25 := ⟨"slices.partialInsertionSortCmpFunc[icehouse/api.Point]", by decide, by kernel_rfl⟩
  f26 := ⟨"slices.partitionEqualCmpFunc[icehouse/api.Point]", by decide, by kernel_rfl⟩
  f27 := ⟨"slices.partitionCmpFunc[icehouse/api.Point]", by decide, by kernel_rfl⟩
  f28 := by kernel_rfl
  f29 := by kernel_rfl
  f46 := ⟨"slices.siftDownCmpFunc[icehouse/api.Point]", by decide, by kernel_rfl⟩
  f47 := by kernel_rfl
  f48 := by kernel_rfl
  f49 := ⟨"slices.medianAdjacentCmpFunc[icehouse/api.Point]", by decide, by kernel_rfl⟩
  f50 := ⟨"slices.medianCmpFunc[icehouse/api.Point]", by decide, by kernel_rfl⟩
  f57 := ⟨"slices.order2CmpFunc[icehouse/api.Point]", by decide, by kernel_rfl⟩
  t0 := by kernel_rfl
  a0 := fun _ => by kernel_rfl
  z0 := fun _ => by kernel_rfl
  v0 := fun _ => by kernel_rfl
  t3 := by kernel_rfl
  a3 := fun _ => by kernel_rfl
  z3 := fun _ => by kernel_rfl
  v3 := fun _ => by kernel_rfl
  t4 := by kernel_rfl
  a4 := fun _ => by kernel_rfl
  z4 := fun _ => by kernel_rfl
  v4 := fun _ => by kernel_rfl
  t5 := by kernel_rfl
  a5 := fun _ => by kernel_rfl
  z5 := fun _ => by kernel_rfl
  v5 := fun _ => by kernel_rfl
  t9 := by kernel_rfl
  a9 := fun _ => by kernel_rfl
  z9 := fun _ => by kernel_rfl
  v9 := fun _ => by kernel_rfl
  t22 := by kernel_rfl
  a22 := fun _ => by kernel_rfl
  z22 := fun _ => by kernel_rfl
  v22 := fun _ => by kernel_rfl
  t25 := by kernel_rfl
  a25 := fun _ => by kernel_rfl
  z25 := fun _ => by kernel_rfl
  v25 := fun _ => by kernel_rfl
  t39 := by kernel_rfl
  a39 := fun _ => by kernel_rfl
  z39 := fun _ => by kernel_rfl
  v39 := fun _ => by kernel_rfl
  t45 := by kernel_rfl
  a45 := fun _ => by kernel_rfl
  z45 := fun _ => by kernel_rfl
  v45 := fun _ => by kernel_rfl
  t46 := by kernel_rfl
  a46 := fun _ => by kernel_rfl
  z46 := fun _ => by kernel_rfl
  v46 := fun _ => by kernel_rfl
  t50 := by kernel_rfl
  a50 := fun _ => by kernel_rfl
  z50 := fun _ => by kernel_rfl
  v50 := fun _ => by kernel_rfl
  t53 := by kernel_rfl
  a53 := fun _ => by kernel_rfl
  z53 := fun _ => by kernel_rfl
  v53 := fun _ => by kernel_rfl
  t55 := by kernel_rfl
  a55 := fun _ => by kernel_rfl
  z55 := fun _ => by kernel_rfl
  v55 := fun _ => by kernel_rfl
  t66 := by kernel_rfl
  a66 := fun _ => by kernel_rfl
  z66 := fun _ => by kernel_rfl
  v66 := fun _ => by kernel_rfl
  t70 := by kernel_rfl
  a70 := fun _ => by kernel_rfl
  z70 := fun _ => by kernel_rfl
  v70 := fun _ => by kernel_rfl
  t76 := by kernel_rfl
  a76 := fun _ => by kernel_rfl
  z76 := fun _ => by kernel_rfl
  v76 := fun _ => by kernel_rfl
  t77 := by kernel_rfl
  a77 := fun _ => by kernel_rfl
  z77 := fun _ => by kernel_rfl
  v77 := fun _ => by kernel_rfl }
end Go.Proofs.Yteocngcojijnkaa.Hs
namespace Go.Proofs.Yteocngcojijnkaa.Hs
open Go.ChangeShapes Go.WideShapes Go.ChangeAt Go.RowKit Go.Proofs.Yteocngcojijnkaa.QH
open Go.Proofs.YteocngcojijnkaaW.PrintWords Go.Proofs.YteocngcojijnkaaW.PrintLast Go.Proofs.YteocngcojijnkaaW.PrintMore
set_option linter.unusedVariables false
set_option linter.unusedSimpArgs false
instance instS70 : Inhabited S70 := ⟨z70⟩
abbrev TP : TypeId := 70
/-- a block of one's own, with these points at its head -/
structure PB (w : World) (g cap : Nat) (l : List S70) : Prop where
  blk : ∃ cur : Array Value, w.heap[g]? = some (.cells cur TP (0, 0)) ∧ cur.size = cap * 2 ∧ ∀ (k : Nat) (hk : k < l.length), cur[k * 2]? = some (.int .u64 l[k].f0) ∧ cur[k * 2 + 1]? = some (.int .i64 l[k].f1)
  len : l.length ≤ cap
  max : cap ≤ maxLen
theorem PB.R {w : World} {g cap base : Nat} {l : List S70} {ok : Nat → Prop} (h : PB w g cap l) (hb : base ≤ g) (hok : ok g) : Kd.R k70 TP w base ok (.slice (some ⟨g, 0, none⟩) l.length cap) l := by
  obtain ⟨cur, h1, h2, h3⟩ := h.blk
  have hl := h.len
  have hlen : (cur.toList.take (l.length * 2)).length = l.length * 2 := by rw [List.length_take, Array.length_toList (xs := cur), h2]; omega
  refine ⟨fun k hk => ?_, cur.toList.take (l.length * 2), ⟨hlen, .inr ⟨g, cap, cur, rfl, hb, h1, hl, h.max, h2, rfl⟩⟩, ?_⟩
  · simp only [Value.ownBlock, Option.some.injEq] at hk
    subst hk; exact hok
  · refine ⟨hlen, fun j p hj => ?_⟩
    obtain ⟨hlt, hp⟩ := List.getElem?_eq_some_iff.1 hj
    subst hp
    obtain ⟨e1, e2⟩ := h3 j hlt
    have he : ((cur.toList.take (l.length * 2)).drop (j * 2)).take 2 = [.int .u64 l[j].f0, .int .i64 l[j].f1] := by
      apply List.ext_getElem?
      intro i
      rw [List.getElem?_take]
      split
      · rename_i hi
        rw [List.getElem?_drop, List.getElem?_take, if_pos (by omega), Array.getElem?_toList]
        rcases (show i = 0 ∨ i = 1 by omega) with rfl | rfl
        · simpa using e1
        · simpa using e2
      · rename_i hi
        rw [List.getElem?_eq_none (by simp; omega)]
    rw [show k70.sz = 2 from rfl, he]
    exact k70_mkM _ _ _ _
theorem PB.of_R {w : World} {base : Nat} {l : List S70} {ok : Nat → Prop} {v : Value} (h : Kd.R k70 TP w base ok v l) (h0 : 0 < l.length) : ∃ g cap, v = .slice (some ⟨g, 0, none⟩) l.length cap ∧ base ≤ g ∧ ok g ∧ PB w g cap l := by
  obtain ⟨hok, inner, ⟨hlen, hown⟩, hreps⟩ := h
  rcases hown with ⟨_, hz⟩ | ⟨g, cap, cur, rfl, hb, h1, hl, hm, h2, h3⟩
  · omega
  · refine ⟨g, cap, rfl, hb, hok g rfl, ⟨cur, h1, h2, fun k hk => ?_⟩, hl, hm⟩
    have hp := hreps.2 k l[k] (List.getElem?_eq_getElem hk)
    have ho := k70_openM hp
    rw [← h3] at ho
    have e1 := congrArg (fun z => z[0]?) ho
    have e2 := congrArg (fun z => z[1]?) ho
    have hs : k70.sz = 2 := rfl
    rw [hs] at e1 e2
    simp only [List.getElem?_take, List.getElem?_drop, Array.getElem?_toList] at e1 e2
    rw [if_pos (by omega), if_pos (by omega)] at e1 e2
    exact ⟨by simpa using e1, by simpa using e2⟩
theorem PB.cells {w : World} {g cap : Nat} {l : List S70} (h : PB w g cap l) (k : Nat) (hk : k < l.length) : w.cell? ⟨g, k * 2, none⟩ = some (.int .u64 l[k].f0) ∧ w.cell? ⟨g, k * 2 + 1, none⟩ = some (.int .i64 l[k].f1) := by
  obtain ⟨cur, h1, h2, h3⟩ := h.blk
  obtain ⟨e1, e2⟩ := h3 k hk
  exact ⟨(blk_cell h1 _).trans e1, (blk_cell h1 _).trans e2⟩
theorem PB.frozen {w : World} {g cap : Nat} {l : List S70} (h : PB w g cap l) (k : Nat) : w.frozen? ⟨g, k, none⟩ = false := by
  obtain ⟨cur, h1, h2, h3⟩ := h.blk
  exact blk_frozen h1 k
theorem PB.lt {w : World} {g cap : Nat} {l : List S70} (h : PB w g cap l) : g < w.heap.size := by
  obtain ⟨cur, h1, h2, h3⟩ := h.blk
  exact blk_lt h1
theorem PB.step {w w' : World} {g cap : Nat} {l : List S70} (h : PB w g cap l) (hb : w'.heap[g]? = w.heap[g]?) : PB w' g cap l := by
  obtain ⟨cur, h1, h2, h3⟩ := h.blk
  exact ⟨⟨cur, hb.trans h1, h2, h3⟩, h.len, h.max⟩
def encP (p : S70) : List Value := [.int .u64 p.f0, .int .i64 p.f1]
def cfP (p q : S70) : Int := cmp2 p.f0 p.f1 q.f0 q.f1
theorem cfP_lt (p q : S70) : cfP p q < 0 ↔ (p.f0 < q.f0 ∨ p.f0 = q.f0 ∧ p.f1 < q.f1) := by
  unfold cfP cmp2 cmpI
  repeat' split
  all_goals omega
theorem ltP_true (p q : S70) : ltOf cfP p q = true ↔ (p.f0 < q.f0 ∨ p.f0 = q.f0 ∧ p.f1 < q.f1) := by
  unfold ltOf
  rw [decide_eq_true_iff]
  exact cfP_lt p q
theorem ltP_false (p q : S70) : ltOf cfP p q = false ↔ ¬ (p.f0 < q.f0 ∨ p.f0 = q.f0 ∧ p.f1 < q.f1) := by
  rw [← ltP_true]
  simp
theorem swoP : Go.Sort.SWO (ltOf cfP) where
  irrefl := fun p => (ltP_false p p).2 (by omega)
  trans := fun p q r h1 h2 => (ltP_true p r).2 (by have := (ltP_true p q).1 h1; have := (ltP_true q r).1 h2; omega)
  ntrans := fun p q r h1 h2 => (ltP_false p r).2 (by have := (ltP_false p q).1 h1; have := (ltP_false q r).1 h2; omega)
theorem totP (p q : S70) (h1 : ltOf cfP p q = false) (h2 : ltOf cfP q p = false) : p = q := by
  have := (ltP_false p q).1 h1
  have := (ltP_false q p).1 h2
  obtain ⟨a, b⟩ := p
  obtain ⟨c, d⟩ := q
  simp only at *
  have h3 : a = c := by omega
  have h4 : b = d := by omega
  rw [h3, h4]
theorem get2 (d : Array S70) (j : Nat) (hj : j < d.size * 2) : (Go.Sort.flatK encP 2 d)[j]! = if j % 2 = 0 then Value.int .u64 (d[j / 2]'(by omega)).f0 else Value.int .i64 (d[j / 2]'(by omega)).f1 := by
  rw [Go.Sort.get_flatK encP 2 d j hj, getElem!_pos d (j / 2) (by omega)]
  rcases (show j % 2 = 0 ∨ j % 2 = 1 by omega) with h | h
  · rw [h, if_pos rfl]; rfl
  · rw [h, if_neg (by omega)]; rfl
theorem PB.holds {w : World} {g cap : Nat} {l : List S70} (h : PB w g cap l) : Go.Sort.HoldsK encP 2 w g 0 l.toArray := by
  intro j hj
  rw [Go.Sort.size_flatK, List.size_toArray] at hj
  rw [get2 _ _ (by simpa using hj), Nat.zero_add]
  refine ⟨?_, h.frozen j⟩
  obtain ⟨e1, e2⟩ := h.cells (j / 2) (by omega)
  rcases (show j % 2 = 0 ∨ j % 2 = 1 by omega) with h' | h'
  · have e3 : j / 2 * 2 = j := by omega
    rw [e3] at e1
    rw [if_pos h', e1]
    simp
  · have e3 : j / 2 * 2 + 1 = j := by omega
    rw [e3] at e2
    rw [if_neg (by omega), e2]
    simp
theorem put_get (F cur : Array Value) (k : Nat) (hk : k < F.size) (hc : k < cur.size) : (Go.Sort.putCells id 0 F cur)[k]? = some F[k]! := by
  unfold Go.Sort.putCells
  rw [Array.getElem?_mapIdx, Array.getElem?_eq_getElem hc]
  simp [hk]
/-- a row sorted in its place -/
theorem PB.put {w : World} {g cap n : Nat} {l l' : List S70} {os : Array Obj} (h : PB w g cap l) (hl : l'.length = l.length) : PB (sortWorldK encP 2 w g 0 n l'.toArray os) g cap l' ∧ w.grownBy (sortWorldK encP 2 w g 0 n l'.toArray os) (some g) := by
  obtain ⟨cur, h1, h2, h3⟩ := h.blk
  have hlt := blk_lt h1
  have hlen := h.len
  have hs : (Go.Sort.flatK encP 2 l'.toArray).size = l'.length * 2 := by rw [Go.Sort.size_flatK, List.size_toArray]
  have hh : ∀ k, k < w.heap.size → (sortWorldK encP 2 w g 0 n l'.toArray os).heap[k]? = (Go.Sort.mapBlock w g (Go.Sort.putCells id 0 (Go.Sort.flatK encP 2 l'.toArray))).heap[k]? := by
    intro k hk
    unfold sortWorldK Go.Sort.grow Go.Sort.putRowK Go.Sort.putRow
    exact Array.getElem?_append_left (by unfold Go.Sort.mapBlock Go.Sort.ahead; simpa using hk)
  refine ⟨⟨⟨Go.Sort.putCells id 0 (Go.Sort.flatK encP 2 l'.toArray) cur, ?_, ?_, fun k hk => ?_⟩, by omega, h.max⟩, rfl, rfl, rfl, ?_, fun k hk hne => ?_⟩
  · rw [hh g hlt]
    unfold Go.Sort.mapBlock
    rw [Array.getElem?_modify, if_pos rfl, h1]
    rfl
  · unfold Go.Sort.putCells
    rw [Array.size_mapIdx, h2]
  · rw [put_get _ _ _ (by omega) (by omega), put_get _ _ _ (by omega) (by omega), get2 _ _ (by simp; omega), get2 _ _ (by simp; omega)]
    rw [if_pos (by omega), if_neg (by omega)]
    constructor
    · have e : k * 2 / 2 = k := by omega
      simp [e]
    · have e : (k * 2 + 1) / 2 = k := by omega
      simp [e]
  · unfold sortWorldK Go.Sort.grow Go.Sort.putRowK Go.Sort.putRow Go.Sort.mapBlock Go.Sort.ahead
    simp
  · rw [hh k hk]
    unfold Go.Sort.mapBlock
    rw [Array.getElem?_modify, if_neg (fun e => hne (by rw [e]))]
def sortP (l : List S70) : List S70 := l.mergeSort fun x y => !(ltOf cfP) y x
theorem sortP_len (l : List S70) : (sortP l).length = l.length := List.length_mergeSort _
set_option maxRecDepth 100000 in
theorem sort_ {w : World} {g cap : Nat} {l : List S70} (h : PB w g cap l) (hm : l.length < 4611686018427387904) :
    Calls Try.prog 51 #[.slice (some ⟨g, 0, none⟩) l.length cap, .func (.func 52) #[] #[]] w fun e w' => e = .returned (.tuple #[]) ∧ PB w' g cap (sortP l) ∧ w.grownBy w' (some g) := by
  have h1 := AnyQ.slices_SortFunc_total srtLays 2 (fun w => by kernel_rfl) (fun w => by kernel_rfl) encP (fun _ => rfl) (fun x v hv => by
    rcases List.mem_cons.1 hv with rfl | hv
    · rfl
    · rw [List.mem_singleton.1 hv]; rfl) cfP swoP 52 #[] g 0 cap l.toArray w (enters_of Try.func52 (by kernel_rfl) rfl) (fun m os dk hdk x y => (compare_ x.f0 x.f1 y.f0 y.f1 _).mono fun e w' hh => hh) h.holds h.lt (by simpa using hm) totP
  refine h1.mono ?_
  rintro e w' ⟨rfl, n, os, rfl⟩
  obtain ⟨k1, k2⟩ := h.put (n := n) (os := os) (l' := sortP l) (sortP_len l)
  exact ⟨rfl, k1, k2⟩
end Go.Proofs.Yteocngcojijnkaa.Hs
namespace Go.Proofs.Yteocngcojijnkaa.Hs
open Go.ChangeShapes Go.WideShapes Go.ChangeAt Go.RowKit Go.Proofs.Yteocngcojijnkaa.QH
open Go.Proofs.YteocngcojijnkaaW.PrintWords Go.Proofs.YteocngcojijnkaaW.PrintLast Go.Proofs.YteocngcojijnkaaW.PrintMore
attribute [local go_sem high] eqA70
set_option linter.unusedVariables false
set_option linter.unusedSimpArgs false
theorem same_iff (p q : S70) : (p.f0 == q.f0 && (p.f1 == q.f1)) = true ↔ p = q := by
  obtain ⟨a, b⟩ := p
  obtain ⟨c, d⟩ := q
  simp
instance decS70 (p q : S70) : Decidable (p = q) := decidable_of_iff _ (same_iff p q)
/-- neighbours that are one struck -/
def compP : List S70 → List S70
  | [] => []
  | [x] => [x]
  | x :: y :: l => if x = y then compP (y :: l) else x :: compP (y :: l)
theorem comp_snoc (x y : S70) : ∀ a : List S70, compP (a ++ [y, x]) = if y = x then compP (a ++ [y]) else compP (a ++ [y]) ++ [x]
  | [] => by
    show (if y = x then [x] else y :: [x]) = if y = x then [y] else [y] ++ [x]
    by_cases h : y = x
    · rw [if_pos h, if_pos h, h]
    · rw [if_neg h, if_neg h]; rfl
  | [b] => by
    have ih := comp_snoc x y []
    show (if b = y then compP ([] ++ [y, x]) else b :: compP ([] ++ [y, x])) = if y = x then (if b = y then compP ([] ++ [y]) else b :: compP ([] ++ [y])) else (if b = y then compP ([] ++ [y]) else b :: compP ([] ++ [y])) ++ [x]
    rw [ih]
    repeat' split
    all_goals rfl
  | b :: c :: a => by
    have ih := comp_snoc x y (c :: a)
    show (if b = c then compP (c :: a ++ [y, x]) else b :: compP (c :: a ++ [y, x])) = if y = x then (if b = c then compP (c :: a ++ [y]) else b :: compP (c :: a ++ [y])) else (if b = c then compP (c :: a ++ [y]) else b :: compP (c :: a ++ [y])) ++ [x]
    rw [ih]
    repeat' split
    all_goals rfl
theorem comp_step {l : List S70} {m : Nat} (h1 : 1 ≤ m) (hm : m < l.length) : compP (l.take (m + 1)) = if l[m - 1]'(by omega) = l[m] then compP (l.take m) else compP (l.take m) ++ [l[m]] := by
  have e1 : l.take m = l.take (m - 1) ++ [l[m - 1]'(by omega)] := by
    have := List.take_succ_eq_append_getElem (l := l) (i := m - 1) (by omega)
    rwa [show m - 1 + 1 = m from by omega] at this
  have e2 : l.take (m + 1) = l.take (m - 1) ++ [l[m - 1]'(by omega), l[m]] := by
    rw [List.take_succ_eq_append_getElem hm, e1, List.append_assoc]; rfl
  rw [e2, e1]
  exact comp_snoc _ _ _
/-- none is its neighbour: nothing is struck -/
theorem comp_none {l : List S70} : ∀ (m : Nat), m ≤ l.length → (∀ (j : Nat) (hj : j + 1 < m) (hj2 : j + 1 < l.length), l[j] ≠ l[j + 1]) → compP (l.take m) = l.take m
  | 0, _, _ => rfl
  | 1, _, _ => by
    cases l with
    | nil => rfl
    | cons x l => rfl
  | m + 2, hm, h => by
    rw [comp_step (m := m + 1) (by omega) (by omega), comp_none (m + 1) (by omega) (fun j hj hj2 => h j (by omega) hj2), List.take_succ_eq_append_getElem (i := m + 1) (by omega)]
    exact if_neg (h m (by omega) (by omega))
theorem PB.set {w : World} {g cap : Nat} {l : List S70} (h : PB w g cap l) (i : Nat) (hi : i < l.length) (p : S70) :
    PB ((w.setCell ⟨g, i * 2, none⟩ (.int .u64 p.f0)).setCell ⟨g, i * 2 + 1, none⟩ (.int .i64 p.f1)) g cap (l.set i p) ∧ w.grownBy ((w.setCell ⟨g, i * 2, none⟩ (.int .u64 p.f0)).setCell ⟨g, i * 2 + 1, none⟩ (.int .i64 p.f1)) (some g) := by
  obtain ⟨cur, h1, h2, h3⟩ := h.blk
  have hl := h.len
  refine ⟨⟨⟨_, blk_set (blk_set h1 _ _) _ _, by simp [h2], fun k hk => ?_⟩, by rw [List.length_set]; exact hl, h.max⟩, ?_⟩
  · rw [List.length_set] at hk
    obtain ⟨e1, e2⟩ := h3 k hk
    simp only [Array.getElem?_setIfInBounds, Array.size_setIfInBounds, List.getElem_set]
    by_cases he : i = k
    · subst he
      rw [if_neg (by omega), if_pos rfl, if_pos (by omega), if_pos rfl, if_pos (by omega)]
      simp
      omega
    · have n1 : ¬ (i * 2 + 1 = k * 2) := by omega
      have n2 : ¬ (i * 2 = k * 2) := by omega
      have n3 : ¬ (i * 2 + 1 = k * 2 + 1) := by omega
      have n4 : ¬ (i * 2 = k * 2 + 1) := by omega
      simp only [n1, n2, n3, n4, he, if_false]
      exact ⟨e1, e2⟩
  · refine ⟨rfl, rfl, rfl, by simp [World.setCell], fun k hk hne => ?_⟩
    have hkg : k ≠ g := fun e => hne (by rw [e])
    rw [Below.heap_setCell _ _ _ _ (by simpa using hkg), Below.heap_setCell _ _ _ _ (by simpa using hkg)]
/-- the rest cleared: what stands ahead of it stays -/
theorem PB.clear {w : World} {g cap : Nat} {l : List S70} (h : PB w g cap l) (i : Nat) (hi : i ≤ l.length) (cs : List Value) (hcs : i * 2 + cs.length ≤ cap * 2) : PB (w.setCells g (i * 2) cs) g cap (l.take i) ∧ w.grownBy (w.setCells g (i * 2) cs) (some g) := by
  obtain ⟨cur, h1, h2, h3⟩ := h.blk
  have hl := h.len
  have hs := setCells_same g cs (i * 2) w
  obtain ⟨cur', k1, k2, k3⟩ := setCells_row cs (i * 2) w cur h1 (by omega)
  have hat : ∀ j, j < i * 2 → cur'[j]? = cur[j]? := by
    intro j hj
    rw [← Array.getElem?_toList, k3, List.append_assoc, List.getElem?_append_left (by rw [List.length_take, Array.length_toList (xs := cur)]; omega), List.getElem?_take, if_pos hj, Array.getElem?_toList]
  refine ⟨⟨⟨cur', k1, by omega, fun k hk => ?_⟩, by rw [List.length_take]; omega, h.max⟩, hs.1, hs.2.1, hs.2.2.1, by rw [hs.2.2.2]; exact Nat.le_refl _, fun k hk hne => setCells_far _ _ k (fun e => hne (by rw [e]))⟩
  rw [List.length_take] at hk
  obtain ⟨e1, e2⟩ := h3 k (by omega)
  rw [hat _ (by omega), hat _ (by omega), List.getElem_take]
  exact ⟨e1, e2⟩
theorem grown_trans {w w1 w2 : World} {r : Option Nat} (h : w.grownBy w1 r) (k : w1.grownBy w2 r) : w.grownBy w2 r :=
  ⟨k.os.trans h.os, k.tape.trans h.tape, k.output.trans h.output, Nat.le_trans h.size k.size, fun j hj hne => (k.block j (Nat.lt_of_lt_of_le hj h.size) hne).trans (h.block j hj hne)⟩
theorem run_clear2 (w : World) (ty : TypeId) (b o n c : Nat) (hn : 0 < n) (hc : ∀ j, j < n * 2 → (w.cell? ⟨b, o + j, none⟩).isSome = true) (hf : ∀ j, j < n * 2 → w.frozen? ⟨b, o + j, none⟩ = false) :
    ∃ cs : List Value, cs.length = n * 2 ∧ (Builtin.clear_ #[65] ty #[.slice (some ⟨b, o, none⟩) n c]).run Try.prog w = .ok (.tuple #[]) (w.setCells b o cs) := by
  have hv : ∀ w, (zeroValue TP).run Try.prog w = .ok (.agg #[.int .u64 0, .int .i64 0]) w := fun w => by kernel_rfl
  obtain ⟨cs, hcs⟩ : ∃ cs, cs = (Builtin.zeroCells #[Value.int .u64 0, .int .i64 0] n).toList := ⟨_, rfl⟩
  have hlen : cs.length = n * 2 := by rw [hcs]; simp [Builtin.zeroCells]
  have hone : ∀ v ∈ cs, v.oneCell' = true := by
    intro v hv'
    rw [hcs] at hv'
    simp only [Builtin.zeroCells, Array.toList_map, List.mem_map] at hv'
    obtain ⟨i, _, rfl⟩ := hv'
    rcases (show i % 2 = 0 ∨ i % 2 = 1 by omega) with h | h <;> simp [h, Value.oneCell']
  have hst := run_storeCells_cells (P := Try.prog) b o cs 0 w (by rw [hlen]; simpa using hc) (by rw [hlen]; simpa using hf) hone
  simp only [Nat.add_zero] at hst
  refine ⟨cs, hlen, ?_⟩
  obtain ⟨m, rfl⟩ : ∃ m, n = m + 1 := ⟨n - 1, by omega⟩
  have hzc : (Builtin.zeroCells (Value.agg #[.int .u64 0, .int .i64 0]).cells (m + 1)).toList = cs := hcs.symm
  simp [Builtin.clear_, run_underlying Try.underlying65, hv, hzc, hst]
set_option maxHeartbeats 4000000 in
set_option maxRecDepth 100000 in
theorem compact_ {w : World} {g cap : Nat} {l : List S70} (h : PB w g cap l) (hm : l.length ≤ 17592186044000) :
    Calls Try.prog 53 #[.slice (some ⟨g, 0, none⟩) l.length cap] w fun e w' => ∃ l' : List S70, e = .returned (.slice (some ⟨g, 0, none⟩) l'.length cap) ∧ l' = compP l ∧ PB w' g cap l' ∧ w.grownBy w' (some g) := by
  have H := Aside0.mk h
  have hcap := h.len
  have hmax := h.max
  unfold maxLen at hmax
  clear h
  by_cases hs : l.length < 2
  · have t1 : decide ((l.length : Int) < 2) = true := decide_eq_true (by omega)
    have hc : compP l = l := by
      match l, hs with
      | [], _ => rfl
      | [x], _ => rfl
    have HC := Aside0.mk hc
    clear hc
    go_enter Try.func53, Try.ntmps53
    go_wp2
    go_ret
    exact ⟨l, rfl, HC.out.symm, H.out, ⟨rfl, rfl, rfl, Nat.le_refl _, fun _ _ _ => rfl⟩⟩
  · have t1 : decide ((l.length : Int) < 2) = false := decide_eq_false (by omega)
    go_enter Try.func53, Try.ntmps53
    go_wp2
    go_loopg [3] (l.length - 1) (fun q vk w' => ∃ k : Nat, vk = .int .i64 k ∧ 1 ≤ k ∧ k ≤ l.length ∧ q = l.length - k ∧ Aside0 (∀ (j : Nat) (hj : j + 1 < k) (hj2 : j + 1 < l.length), l[j] ≠ l[j + 1]) ∧ Aside0 (Drawn0 w w'))
    case atStart => exact ⟨1, by go_num, Nat.le_refl _, by omega, rfl, ⟨fun j hj => by omega⟩, ⟨Drawn0.refl w⟩⟩
    case round =>
      obtain ⟨k, rfl, hk1, hk, rfl, HN, HD⟩ := hrel
      by_cases hlt : k < l.length
      · have t2 : decide ((k : Int) < (l.length : Int)) = true := decide_eq_true (by omega)
        obtain ⟨c1, c2⟩ := H.out.cells k hlt
        obtain ⟨c3, c4⟩ := H.out.cells (k - 1) (by omega)
        have c1 := pw_cell_below HD.out.below c1
        have c2 := pw_cell_below HD.out.below c2
        have c3 := pw_cell_below HD.out.below c3
        have c4 := pw_cell_below HD.out.below c4
        obtain ⟨x0, hx0⟩ : ∃ x, l[k].f0 = x := ⟨_, rfl⟩
        obtain ⟨x1, hx1⟩ : ∃ x, l[k].f1 = x := ⟨_, rfl⟩
        obtain ⟨y0, hy0⟩ : ∃ x, (l[k - 1]'(by omega)).f0 = x := ⟨_, rfl⟩
        obtain ⟨y1, hy1⟩ : ∃ x, (l[k - 1]'(by omega)).f1 = x := ⟨_, rfl⟩
        rw [hx0] at c1
        rw [hx1] at c2
        rw [hy0] at c3
        rw [hy1] at c4
        have hsame := same_iff l[k] (l[k - 1]'(by omega))
        rw [hx0, hx1, hy0, hy1] at hsame
        have HS := Aside0.mk hsame
        clear hx0 hx1 hy0 hy1 hsame
        have i1 : (0 : Int) ≤ (k : Int) := by omega
        have i2 : (k : Int) < (l.length : Int) := by omega
        have i3 : (0 : Int) ≤ (k : Int) - 1 := by omega
        have i4 : (k : Int) - 1 < (l.length : Int) := by omega
        by_cases he : (x0 == y0 && (x1 == y1)) = true
        · have HP := Aside0.mk (H.out.step (w' := wr) (by obtain ⟨n, e⟩ := HD.out; rw [e]; rfl))
          have HE := Aside0.mk (HS.out.1 he)
          have HG : Aside0 (w.grownBy wr (some g)) := ⟨⟨HD.out.below.os, HD.out.below.tape, HD.out.below.output, HD.out.below.size, fun k hk _ => HD.out.below.block k hk⟩⟩
          have i5 : (k : Int) ≤ (l.length : Int) := by omega
          go_wp2_with fail
          go_quiet (fail)
          go_wp2_with fail
          have hl0 : compP (l.take (k + 1)) = l.take k := by
            have hc := comp_none k (by omega) HN.out
            rw [comp_step hk1 hlt, if_pos HE.out.symm, hc]
          have HL0 := Aside0.mk hl0
          have HH := HP.out
          have HG1 : Aside0 (∀ q, w.grownBy (wr.drewN q) (some g)) := ⟨fun q => ⟨HG.out.os, HG.out.tape, HG.out.output, HG.out.size, HG.out.block⟩⟩
          have HP1 : Aside0 (∀ q, PB (wr.drewN q) g cap l) := ⟨fun q => HP.out.step rfl⟩
          obtain ⟨n, hn⟩ : ∃ n, l.length - k = n := ⟨_, rfl⟩
          have hln : l.length = k + n := by omega
          have HLn := Aside0.mk hln
          rw [hn]
          clear hl0 HH HN HS HE HP HG HD he c1 c2 c3 c4 i1 i2 i3 i4 i5 hn hln
          go_loopg [3, 5] (n - 1) (fun q v3 v5 w' => ∃ (i j : Nat) (ys : List S70), v3 = .int .i64 i ∧ v5 = .int .i64 j ∧ 1 ≤ j ∧ j ≤ n ∧ 1 ≤ i ∧ i + 1 ≤ k + j ∧ q = n - j ∧ Aside0 (ys.length = l.length ∧ ys.take i = compP (l.take (k + j)) ∧ ys.drop (k + j - 1) = l.drop (k + j - 1)) ∧ Aside0 (PB w' g cap ys) ∧ Aside0 (w.grownBy w' (some g)))
          case atStart => exact ⟨k, 1, l, rfl, by go_num, Nat.le_refl _, by have := HLn.out; omega, hk1, Nat.le_refl _, rfl, ⟨rfl, HL0.out.symm, rfl⟩, ⟨HP1.out _⟩, ⟨HG1.out _⟩⟩
          case round =>
            obtain ⟨i, j, ys, rfl, rfl, hj1, hjn, hi1, hij, rfl, HY, HP, HG⟩ := hrel
            clear HL0 HG1 HP1
            have hyl : ys.length = k + n := by rw [HY.out.1, HLn.out]
            have hll := HLn.out
            by_cases hjl : j < n
            · have t3 : decide ((j : Int) < (n : Int)) = true := decide_eq_true (by omega)
              have hdr := HY.out.2.2
              have hkj : k + j < l.length := by omega
              have hkj1 : k + j - 1 < l.length := by omega
              have hp : ys[k + j]'(by omega) = l[k + j]'hkj := by
                have e := congrArg (fun z => z[1]?) hdr
                simp only [List.getElem?_drop] at e
                rw [show k + j - 1 + 1 = k + j by omega, List.getElem?_eq_getElem (by omega), List.getElem?_eq_getElem (by omega)] at e
                exact Option.some.inj e
              have hq : ys[k + j - 1]'(by omega) = l[k + j - 1]'hkj1 := by
                have e := congrArg (fun z => z[0]?) hdr
                simp only [List.getElem?_drop] at e
                rw [Nat.add_zero, List.getElem?_eq_getElem (by omega), List.getElem?_eq_getElem (by omega)] at e
                exact Option.some.inj e
              have hdr1 : ys.drop (k + j) = l.drop (k + j) := by
                have e := congrArg (List.drop 1) hdr
                rw [List.drop_drop, List.drop_drop, show k + j - 1 + 1 = k + j by omega] at e
                exact e
              obtain ⟨c1, c2⟩ := HP.out.cells (k + j) (by omega)
              obtain ⟨c3, c4⟩ := HP.out.cells (k + j - 1) (by omega)
              obtain ⟨d1, d2⟩ := HP.out.cells i (by omega)
              have f1 := HP.out.frozen (i * 2)
              have f2 := HP.out.frozen (i * 2 + 1)
              obtain ⟨p, hpp⟩ : ∃ x, ys[k + j]'(by omega) = x := ⟨_, rfl⟩
              obtain ⟨q, hqq⟩ : ∃ x, ys[k + j - 1]'(by omega) = x := ⟨_, rfl⟩
              rw [hpp] at c1 c2 hp
              rw [hqq] at c3 c4 hq
              rw [show (k + j) * 2 = k * 2 + j * 2 by omega] at c1 c2
              rw [show (k + j - 1) * 2 = k * 2 + (j - 1) * 2 by omega] at c3 c4
              have hsame := same_iff p q
              obtain ⟨p0, p1⟩ := p
              obtain ⟨q0, q1⟩ := q
              have HC := Aside0.mk (comp_step (l := l) (m := k + j) (Nat.le_trans hk1 (Nat.le_add_right k j)) hkj)
              have HPQ := Aside0.mk (And.intro hp hq)
              have HSm := Aside0.mk hsame
              have HDr := Aside0.mk hdr1
              obtain ⟨z0, hz0⟩ : ∃ z, (ys[i]'(by omega)).f0 = z := ⟨_, rfl⟩
              obtain ⟨z1, hz1⟩ : ∃ z, (ys[i]'(by omega)).f1 = z := ⟨_, rfl⟩
              rw [hz0] at d1
              rw [hz1] at d2
              clear hp hq hpp hqq hdr hdr1 hsame hz0 hz1
              have HHl := Aside0.mk hll
              have HHy := Aside0.mk hyl
              have i6 : (i : Int) < (l.length : Int) := by omega
              have i7 : (0 : Int) ≤ (j : Int) - 1 := by omega
              have i8 : (j : Int) - 1 < (n : Int) := by omega
              have i9 : (j : Int) < (n : Int) := by omega
              clear hll hyl
              by_cases he : (p0 == q0 && (p1 == q1)) = true
              · have HEq := Aside0.mk (HSm.out.1 he)
                go_wp2_with fail
                go_quiet (fail)
                go_wp2_with fail
                go_roundg (n - (j + 1))
                case measure => omega
                case rel => exact ⟨i, j + 1, ys, rfl, by go_num, by omega, hjl, hi1, by omega, rfl, ⟨HY.out.1, by rw [show k + (j + 1) = k + j + 1 by omega, HC.out, if_pos (by rw [← HPQ.out.1, ← HPQ.out.2]; exact HEq.out.symm)]; exact HY.out.2.1, by rw [show k + (j + 1) - 1 = k + j by omega]; exact HDr.out⟩, ⟨HP.out.step rfl⟩, ⟨⟨HG.out.os, HG.out.tape, HG.out.output, HG.out.size, HG.out.block⟩⟩⟩
              · have HEq := Aside0.mk (fun e => he (HSm.out.2 e))
                have he : (p0 == q0 && (p1 == q1)) = false := by simpa using he
                go_wp2_with fail
                go_quiet (fail)
                go_wp2_with fail
                go_roundg (n - (j + 1))
                case measure => omega
                case rel =>
                  have hset := (HP.out.step (w' := wr.drewN nq) rfl).set i (by rw [HHy.out]; omega) ⟨p0, p1⟩
                  refine ⟨i + 1, j + 1, ys.set i ⟨p0, p1⟩, by go_num, by go_num, by omega, hjl, by omega, by omega, rfl, ⟨by rw [List.length_set]; exact HY.out.1, ?_, ?_⟩, ⟨hset.1⟩, ⟨grown_trans (w1 := wr.drewN nq) ⟨HG.out.os, HG.out.tape, HG.out.output, HG.out.size, HG.out.block⟩ hset.2⟩⟩
                  · rw [show k + (j + 1) = k + j + 1 by omega, HC.out, if_neg (by rw [← HPQ.out.1, ← HPQ.out.2]; exact fun e => HEq.out e.symm), ← HY.out.2.1, ← HPQ.out.1]
                    have hi : i < (ys.set i ⟨p0, p1⟩).length := by rw [List.length_set, HHy.out]; omega
                    rw [List.take_succ_eq_append_getElem hi, List.getElem_set_self, List.take_set_of_le (Nat.le_refl i)]
                  · rw [show k + (j + 1) - 1 = k + j by omega, List.drop_set_of_lt (by omega)]
                    exact HDr.out
            · obtain rfl : j = n := by omega
              have t3 : decide ((j : Int) < (j : Int)) = false := decide_eq_false (by omega)
              have i6 : (i : Int) < (l.length : Int) := by omega
              have i7 : (i : Int) ≤ (l.length : Int) := by omega
              obtain ⟨cs, hcs, hcl⟩ := run_clear2 wr 0 g (i * 2) (l.length - i) (cap - i) (by omega) (fun x hx => by
                rcases (show x % 2 = 0 ∨ x % 2 = 1 by omega) with h' | h'
                · obtain ⟨e1, e2⟩ := HP.out.cells (i + x / 2) (by omega)
                  rw [show (i + x / 2) * 2 = i * 2 + x by omega] at e1
                  rw [e1]; rfl
                · obtain ⟨e1, e2⟩ := HP.out.cells (i + x / 2) (by omega)
                  rw [show (i + x / 2) * 2 + 1 = i * 2 + x by omega] at e2
                  rw [e2]; rfl) (fun x _ => HP.out.frozen _)
              have HCl := Aside0.mk (HP.out.clear i (by omega) cs (by have := HP.out.len; omega))
              have hti : ys.take i = compP l := by
                have := HY.out.2.1
                rwa [← hll, List.take_length] at this
              have HT := Aside0.mk hti
              have HTl : Aside0 ((ys.take i).length = i) := ⟨by rw [List.length_take]; omega⟩
              have HHl := Aside0.mk hll
              have HHy := Aside0.mk hyl
              clear hti hll hyl hcs
              go_wp2_with fail
              go_ret
              exact ⟨ys.take i, by rw [HTl.out]; rfl, HT.out, HCl.out.1, grown_trans HG.out HCl.out.2⟩
        · have HE := Aside0.mk (fun e => he (HS.out.2 e))
          have he : (x0 == y0 && (x1 == y1)) = false := by simpa using he
          go_wp2_with fail
          go_quiet (fail)
          go_wp2_with fail
          go_roundg (l.length - (k + 1))
          case measure => omega
          case rel => exact ⟨k + 1, by go_num, by omega, hlt, by omega, ⟨fun j hj hj2 => by
            by_cases hjk : j + 1 = k
            · subst hjk
              exact fun e => HE.out e.symm
            · exact HN.out j (by omega) hj2⟩, ⟨HD.out.step _⟩⟩
      · obtain rfl : k = l.length := by omega
        have t2 : decide ((l.length : Int) < (l.length : Int)) = false := decide_eq_false (by omega)
        have hc := comp_none l.length (Nat.le_refl _) (fun j hj hj2 => HN.out j hj hj2)
        rw [List.take_length] at hc
        have HC := Aside0.mk hc
        clear hc
        have HP := Aside0.mk (H.out.step (w' := wr) (by obtain ⟨n, e⟩ := HD.out; rw [e]; rfl))
        have HG : Aside0 (w.grownBy wr (some g)) := ⟨⟨HD.out.below.os, HD.out.below.tape, HD.out.below.output, HD.out.below.size, fun k hk _ => HD.out.below.block k hk⟩⟩
        go_wp2_with fail
        go_ret
        exact ⟨l, rfl, HC.out.symm, HP.out, HG.out⟩
end Go.Proofs.Yteocngcojijnkaa.Hs
namespace Go.Proofs.Yteocngcojijnkaa.QP
open Go.RowKit Go.Proofs.YteocngcojijnkaaW.PrintWords Go.Proofs.YteocngcojijnkaaW.PrintLast Go.Proofs.YteocngcojijnkaaW.PrintMore
attribute [local go_sem] max2_int min2_int max_two min_two max_three min_three max_four min_four   -- for this text's walks alone
set_option linter.unusedVariables false
set_option linter.unusedSimpArgs false
def errW : Option Int → Value
  | none => .nilIface
  | some c => .iface 0 (.int .i64 c)
theorem errW_none : errW none = .nilIface := rfl
theorem errW_some (c : Int) : errW (some c) = .iface 0 (.int .i64 c) := rfl
def rd_L1 (xs : List (List Int)) (i : Int) : (List Int) := xs.getD i.toNat ([] : List Int)
end Go.Proofs.Yteocngcojijnkaa.QP
namespace Go.Proofs.Yteocngcojijnkaa.QP
open Go.RowKit Go.Proofs.YteocngcojijnkaaW.PrintWords Go.Proofs.YteocngcojijnkaaW.PrintLast Go.Proofs.YteocngcojijnkaaW.PrintMore
attribute [local go_sem] max2_int min2_int max_two min_two max_three min_three max_four min_four   -- for this text's walks alone
set_option linter.unusedVariables false
set_option linter.unusedSimpArgs false
/-! ### hash_Point: function 50 -/
def hash_Point.f (k : Nat) (a0 : Int) (a1 : Int) : Option (Int) := (QH.hash_word.f k a0).bind fun t101 => ((QH.hash_word.f k a1).bind fun t104 => ((Hs.hash_Sum.f (([t101, t104] : List (List Int)))).bind fun t110 => ((QH.hash_Stir.f t110).bind fun t111 => (some t111))))
set_option maxHeartbeats 8000000 in
set_option maxRecDepth 100000 in
theorem hash_Point.calls (k : Nat) (a0 : Int) (a1 : Int) (r : Int) (w : World) (h : hash_Point.f k a0 a1 = some r) :
    Calls Try.prog 50 #[.int .i64 a0, .int .i64 a1] w fun e w' => e = .returned (.int .u64 r) ∧ Below w.heap.size w w' := by
  have HB := Aside0.mk (Below.refl w.heap.size w)
  have H : ((QH.hash_word.f k a0).bind fun t101 => ((QH.hash_word.f k a1).bind fun t104 => ((Hs.hash_Sum.f (([t101, t104] : List (List Int)))).bind fun t110 => ((QH.hash_Stir.f t110).bind fun t111 => (some t111))))) = some r := h
  clear h
  replace H := Option.bind_eq_some_iff.mp H
  obtain ⟨t101, A30, H⟩ := H
  replace H : ((QH.hash_word.f k a1).bind fun t104 => ((Hs.hash_Sum.f (([t101, t104] : List (List Int)))).bind fun t110 => ((QH.hash_Stir.f t110).bind fun t111 => (some t111)))) = some r := H
  have A3 := Aside0.mk A30
  clear A30
  replace H := Option.bind_eq_some_iff.mp H
  obtain ⟨t104, A40, H⟩ := H
  replace H : ((Hs.hash_Sum.f (([t101, t104] : List (List Int)))).bind fun t110 => ((QH.hash_Stir.f t110).bind fun t111 => (some t111))) = some r := H
  have A4 := Aside0.mk A40
  clear A40
  obtain ⟨y107, hy107⟩ : ∃ y_ : List (List Int), y_ = (([t101, t104] : List (List Int))) := ⟨_, rfl⟩
  replace H : ((Hs.hash_Sum.f y107).bind fun t110 => ((QH.hash_Stir.f t110).bind fun t111 => (some t111))) = some r := by first | (rw [hy107]; with_reducible exact H) | (have H2_ := (Option.bind_some _ _).symm.trans H; rw [hy107]; with_reducible exact H2_) | (have H2_ := (Option.bind_some _ _).symm.trans H; with_reducible exact H2_) | with_reducible exact H | (rw [hy107]; exact H) | exact H
  have Ny107 := Aside0.mk hy107
  clear hy107
  replace H := Option.bind_eq_some_iff.mp H
  obtain ⟨t110, A50, H⟩ := H
  replace H : ((QH.hash_Stir.f t110).bind fun t111 => (some t111)) = some r := H
  have A5 := Aside0.mk A50
  clear A50
  replace H := Option.bind_eq_some_iff.mp H
  obtain ⟨t111, A60, H⟩ := H
  replace H : (some t111) = some r := H
  have A6 := Aside0.mk A60
  clear A60
  obtain rfl := Option.some.inj H
  go_enter Try.func50, Try.ntmps50
  go_wp2_with (first | ((with_reducible refine gate_callee (f := 63) rfl ?_); refine goesL_ (some 6) rfl rfl Try.func63 (by kernel_rfl) rfl #[.int .i64 a0] rfl (by (try simp only [List.map_toArray, List.map_cons, List.map_nil]); first | done | rfl | (simp only [List.length_drop, List.length_take]; rfl)) ?_; (with_reducible refine (QH.hash_word.calls k a0 t101 _ A3.out).mono ?_); rintro e w7 ⟨v102, rfl, ho0, hb⟩; refine ⟨_, rfl, ?_⟩; have n0_ := Aside0.mk (Kd.R_lower ho0 (below_size (by repeat (first | (with_reducible first | exact HB.out | apply below_alloc | apply pw_below_drewN | apply below_drew1) | exact HB.out)))); have n1_ := Aside0.mk (below_step (by repeat (first | (with_reducible first | exact HB.out | apply below_alloc | apply pw_below_drewN | apply below_drew1) | exact HB.out)) hb); clear HB; have HO103 := n0_; have HB := n1_; clear n0_ n1_; (try clear hb); (try clear hb2); (try clear hk); (try clear hi); (try clear ho0)) | ((with_reducible refine gate_callee (f := 63) rfl ?_); refine goesL_ (some 8) rfl rfl Try.func63 (by kernel_rfl) rfl #[.int .i64 a1] rfl (by (try simp only [List.map_toArray, List.map_cons, List.map_nil]); first | done | rfl | (simp only [List.length_drop, List.length_take]; rfl)) ?_; (with_reducible refine (QH.hash_word.calls k a1 t104 _ A4.out).mono ?_); rintro e w8 ⟨v105, rfl, ho0, hb⟩; refine ⟨_, rfl, ?_⟩; have n0_ := Aside0.mk (Kd.R_elder' (by (with_reducible repeat (first | apply Kd.R_alloc | apply Kd.R_drewN | apply Kd.R_drew)); exact HO103.out) (Kd.R_base ho0) hb); have n1_ := Aside0.mk (Kd.R_lower (Kd.R_new' ho0 (Kd.R_lt (by (with_reducible repeat (first | apply Kd.R_alloc | apply Kd.R_drewN | apply Kd.R_drew)); exact HO103.out))) (below_size (by repeat (first | (with_reducible first | exact HB.out | apply below_alloc | apply pw_below_drewN | apply below_drew1) | exact HB.out)))); have n2_ := Aside0.mk (below_step (by repeat (first | (with_reducible first | exact HB.out | apply below_alloc | apply pw_below_drewN | apply below_drew1) | exact HB.out)) hb); clear HO103; clear HB; have HO103 := n0_; have HO106 := n1_; have HB := n2_; clear n0_ n1_ n2_; (try clear hb); (try clear hb2); (try clear hk); (try clear hi); (try clear ho0); obtain ⟨Ao9, co9, eo9⟩ := Kd.R_slice HO103.out; subst eo9; obtain ⟨Ao10, co10, eo10⟩ := Kd.R_slice HO106.out; subst eo10) | ((with_reducible refine gate_dst (N := 9) rfl ?_); refine Kd.N_lit (Kd.slice 5 (Kd.int .u8)) _ 88 ?hg (N' := 9) ?hd (xs := ([t101, t104] : List (List Int))) (inner := [.slice Ao9 t101.length co9, .slice Ao10 t104.length co10]) (ok := (fun _ => True)) (okp := (fun _ => True)) ?hr ?hp (fun _ hk => hk) ((show ∀ k_, w8.heap.size ≤ k_ → (fun _ => True) k_ from fun k_ hk => trivial) _ (Nat.le_refl _)) (Below.refl _ _) (Nat.le_refl _) (by simp) ?_; (case hd => rfl); (case hg => rfl); (case hr => first | (go_simp; done) | (go_simp; rfl)); (case hp => exact (Reps.one (show Kd.FK (Kd.slice 5 (Kd.int .u8)) _ _ t101 [.slice Ao9 t101.length co9] from (Kd.FK_slice_mk (Kd.R_reads' (Kd.R_mono (ok' := (fun _ => True)) (HO103.out) (fun k_ hk => trivial))).2.1 (Kd.R_F (Kd.R_mono (ok' := (fun _ => True)) (HO103.out) (fun k_ hk => trivial))))) (Reps.one (show Kd.FK (Kd.slice 5 (Kd.int .u8)) _ _ t104 [.slice Ao10 t104.length co10] from (Kd.FK_slice_mk (Kd.R_reads' (Kd.R_mono (ok' := (fun _ => True)) (HO106.out) (fun k_ hk => trivial))).2.1 (Kd.R_F (Kd.R_mono (ok' := (fun _ => True)) (HO106.out) (fun k_ hk => trivial))))) (Reps.none _ _)))); intro v108 w11 ho12 hb hg_ hnew_; clear hg_ hnew_; (first | rw [← Ny107.out] at ho12 | (simp only [Int.reduceToNat] at ho12; rw [← Ny107.out] at ho12)); have n0_ := Aside0.mk (Kd.N_lower ho12 (below_size (by repeat (first | (with_reducible first | exact HB.out | apply below_alloc | apply pw_below_drewN | apply below_drew1) | exact HB.out)))); have n1_ := Aside0.mk (below_step (by repeat (first | (with_reducible first | exact HB.out | apply below_alloc | apply pw_below_drewN | apply below_drew1) | exact HB.out)) hb); clear HB; clear HO103; clear HO106; have HO109 := n0_; have HB := n1_; clear n0_ n1_; clear hb ho12; obtain ⟨Ao13, co13, eo13⟩ := Kd.N_slice HO109.out; subst eo13) | ((with_reducible refine gate_callee (f := 62) rfl ?_); refine goesL_ (some 10) rfl rfl Try.func62 (by kernel_rfl) rfl #[.slice Ao13 y107.length co13] rfl (by (try simp only [List.map_toArray, List.map_cons, List.map_nil]); first | done | rfl | (simp only [List.length_drop, List.length_take]; rfl)) ?_; (with_reducible refine (Hs.hash_Sum.calls _ _ y107 t110 _ ?side1 ?side2 A5.out).mono ?_); (case side1 => repeat (first | exact (Kd.N_reads' HO109.out).2.2 | (with_reducible refine Kd.C_alloc ?_ _) | (with_reducible refine Kd.C_drewN ?_ _) | (with_reducible refine Kd.C_drew ?_))); (case side2 => exact (Kd.N_reads' HO109.out).2.1); rintro e w' ⟨rfl, ⟨nd, rfl⟩⟩; refine ⟨_, rfl, ?_⟩) | ((with_reducible refine gate_callee (f := 61) rfl ?_); refine goesL_ (some 11) rfl rfl Try.func61 (by kernel_rfl) rfl #[.int .u64 t110] rfl (by (try simp only [List.map_toArray, List.map_cons, List.map_nil]); first | done | rfl | (simp only [List.length_drop, List.length_take]; rfl)) ?_; (with_reducible refine (QH.hash_Stir.calls t110 t111 _ A6.out).mono ?_); rintro e w' ⟨rfl, ⟨nd, rfl⟩⟩; refine ⟨_, rfl, ?_⟩))
  go_ret
  exact ⟨by first | rfl | (simp [errW_none, errW_some] <;> rfl) | (simp [*, errW_none, errW_some] <;> rfl), by repeat (first | (with_reducible first | exact HB.out | apply below_alloc | apply pw_below_drewN | apply below_drew1) | exact HB.out)⟩

-- NOT PRINTED: function 55 (ring_first_1)
end Go.Proofs.Yteocngcojijnkaa.QP
namespace Go.Proofs.Yteocngcojijnkaa.QP
open Go.RowKit Go.Proofs.YteocngcojijnkaaW.PrintWords Go.Proofs.YteocngcojijnkaaW.PrintLast Go.Proofs.YteocngcojijnkaaW.PrintMore
attribute [local go_sem] max2_int min2_int max_two min_two max_three min_three max_four min_four   -- for this text's walks alone
set_option linter.unusedVariables false
set_option linter.unusedSimpArgs false
end Go.Proofs.Yteocngcojijnkaa.QP
namespace Go.Proofs.Yteocngcojijnkaa.Lex
/-- from some count of rounds on -/
def Since {α : Type} (f : Nat → Option α) (r : α) : Prop := ∃ K, ∀ k, K ≤ k → f k = some r
theorem Since.one {α β : Type} {f : Nat → Option α} {r : α} {F : Nat → Option β} {q : β} (h : Since f r) (hF : ∀ k, f k = some r → F (k + 1) = some q) : Since F q := by
  obtain ⟨K, h⟩ := h
  refine ⟨K + 1, fun k hk => ?_⟩
  obtain ⟨k, rfl⟩ : ∃ j, k = j + 1 := ⟨k - 1, by omega⟩
  exact hF k (h k (by omega))
theorem Since.two {α α' β : Type} {f : Nat → Option α} {r : α} {g : Nat → Option α'} {r' : α'} {F : Nat → Option β} {q : β} (h : Since f r) (h' : Since g r') (hF : ∀ k, f k = some r → g k = some r' → F (k + 1) = some q) : Since F q := by
  obtain ⟨K, h⟩ := h
  obtain ⟨K', h'⟩ := h'
  refine ⟨K + K' + 1, fun k hk => ?_⟩
  obtain ⟨k, rfl⟩ : ∃ j, k = j + 1 := ⟨k - 1, by omega⟩
  exact hF k (h k (by omega)) (h' k (by omega))
theorem Since.none {β : Type} {F : Nat → Option β} {q : β} (hF : ∀ k, F (k + 1) = some q) : Since F q := by
  refine ⟨1, fun k hk => ?_⟩
  obtain ⟨k, rfl⟩ : ∃ j, k = j + 1 := ⟨k - 1, by omega⟩
  exact hF k
theorem Since.map {α β : Type} {f : Nat → Option α} {r : α} {F : Nat → Option β} {q : β} (h : Since f r) (hF : ∀ k, f k = some r → F k = some q) : Since F q := by
  obtain ⟨K, h⟩ := h
  exact ⟨K, fun k hk => hF k (h k hk)⟩
theorem Since.and {α α' β : Type} {f : Nat → Option α} {r : α} {g : Nat → Option α'} {r' : α'} {F : Nat → Option β} {q : β} (h : Since f r) (h' : Since g r') (hF : ∀ k, f k = some r → g k = some r' → F k = some q) : Since F q := by
  obtain ⟨K, h⟩ := h
  obtain ⟨K', h'⟩ := h'
  exact ⟨K + K', fun k hk => hF k (h k (by omega)) (h' k (by omega))⟩
end Go.Proofs.Yteocngcojijnkaa.Lex
namespace Go.Proofs.Yteocngcojijnkaa.Hs
open Go.RowKit Go.Proofs.Yteocngcojijnkaa.QH Go.Proofs.Yteocngcojijnkaa.Lex
open Go.Proofs.YteocngcojijnkaaW.PrintWords Go.Proofs.YteocngcojijnkaaW.PrintLast Go.Proofs.YteocngcojijnkaaW.PrintMore
set_option linter.unusedVariables false
set_option linter.unusedSimpArgs false
theorem w_succ' (i : Nat) (h : i < 9223372036854775807) : wrap64 ((i : Int) + 1) = ((i + 1 : Nat) : Int) := by unfold wrap64; omega
/-- rising from a number on, and none too great -/
def risesB : Int → List Int → Bool
  | _, [] => true
  | last, n :: l => !decide (n ≤ last) && (!decide (n > 1048575) && risesB n l)
def okB (l : List Int) (each keep : Int) : Bool := decide (0 < l.length) && (decide (l.length ≤ 64) && (risesB (-1) l && (decide (1 ≤ each) && (decide (each ≤ 64) && (decide (1 ≤ keep) && decide (keep ≤ (l.length : Int)))))))
def chk (l : List Int) (each keep : Int) : Int := if okB l each keep = true then 0 else 2
theorem rises_l0 (l : List Int) (hl : l.length ≤ 9223372036854775807) : ∀ (n i : Nat) (last : Int), l.length - i = n → i ≤ l.length →
    Since (fun k => ring_rises.l0 k last l (l.length : Int) (i : Int)) (risesB last (l.drop i)) := by
  intro n
  induction n with
  | zero =>
    intro i last hn hi
    have hf : ¬ ((i : Int) < (l.length : Int)) := by omega
    rw [List.drop_eq_nil_of_le (by omega)]
    exact Since.none fun k => by simp only [ring_rises.l0, if_neg hf]; rfl
  | succ n ih =>
    intro i last hn hi
    have h1 : i < l.length := by omega
    have f1 : (i : Int) < (l.length : Int) := by omega
    have f0 : (0 : Int) ≤ (i : Int) := by omega
    have r1 : rd l (i : Int) = l[i] := by simp [rd, h1]
    rw [List.drop_eq_getElem_cons h1]
    unfold risesB
    by_cases c1 : l[i] ≤ last
    · refine Since.none fun k => ?_
      simp only [ring_rises.l0, if_pos f1, if_pos f0, r1, if_pos c1]
      simp [c1]
    · by_cases c2 : l[i] > 1048575
      · refine Since.none fun k => ?_
        simp only [ring_rises.l0, if_pos f1, if_pos f0, r1, if_neg c1, if_pos c2]
        simp [c2]
      · refine Since.one (ih (i + 1) l[i] (by omega) (by omega)) fun k h => ?_
        simp only [ring_rises.l0, if_pos f1, if_pos f0, r1, if_neg c1, if_neg c2, w_succ' i (by omega)]
        rw [h]
        simp [c1, c2]
theorem check_ev (l : List Int) (each keep : Int) (hl : l.length ≤ 9223372036854775807) : Since (fun k => ring_Check.f k l each keep) (chk l each keep) := by
  have hr := rises_l0 l hl _ 0 (-1) rfl (Nat.zero_le _)
  rw [List.drop_zero] at hr
  refine hr.map fun k h => ?_
  unfold ring_Check.f ring_rises.f chk okB
  rw [show ring_rises.l0 k (-1) l (l.length : Int) 0 = some (risesB (-1) l) from h]
  by_cases c1 : (l.length : Int) = 0
  · have : l = [] := List.length_eq_zero_iff.1 (by omega)
    subst this
    simp
  · by_cases c2 : (l.length : Int) > 64
    · have c3 : ¬ (l.length ≤ 64) := by omega
      simp only [if_neg c1, if_pos c2]
      simp [c3]
    · have c3 : l.length ≤ 64 := by omega
      have c4 : 0 < l.length := by omega
      simp only [if_neg c1, if_neg c2, Option.bind_some]
      cases hb : risesB (-1) l
      · simp
      · by_cases d1 : each < 1
        · have : ¬ (1 ≤ each) := by omega
          simp [d1, this]
        · by_cases d2 : each > 64
          · have : ¬ (each ≤ 64) := by omega
            simp [d1, d2, this]
          · by_cases d3 : keep < 1
            · have : ¬ (1 ≤ keep) := by omega
              simp [d1, d2, d3, this]
            · by_cases d4 : keep > (l.length : Int)
              · have : ¬ (keep ≤ (l.length : Int)) := by omega
                simp [d1, d2, d3, d4, this]
              · have e1 : 1 ≤ each := by omega
                have e2 : each ≤ 64 := by omega
                have e3 : 1 ≤ keep := by omega
                have e4 : keep ≤ (l.length : Int) := by omega
                simp [d1, d2, d3, d4, e1, e2, e3, e4, c3, c4]
/-! the reference's -/
theorem rchk_l0 (l : List Int) (each keep : Int) (hl : l.length ≤ 9223372036854775807) : ∀ (n i : Nat), l.length - i = n → i ≤ l.length → ∀ last : Int, (i = 0 → last = -1) → (∀ h : 0 < i, ∀ h2 : i - 1 < l.length, last = l[i - 1] ∧ 0 ≤ last) →
    Since (fun k => icehouseref09_Check.l0 k (l.length : Int) (i : Int) l each keep) (if risesB last (l.drop i) = true then 0 else 2) := by
  intro n
  induction n with
  | zero =>
    intro i hn hi last _ _
    have hf : ¬ ((i : Int) < (l.length : Int)) := by omega
    rw [List.drop_eq_nil_of_le (by omega)]
    exact Since.none fun k => by simp only [icehouseref09_Check.l0, if_neg hf]; rfl
  | succ n ih =>
    intro i hn hi last h0 hs
    have h1 : i < l.length := by omega
    have f1 : (i : Int) < (l.length : Int) := by omega
    have f0 : (0 : Int) ≤ (i : Int) := by omega
    have r1 : rd l (i : Int) = l[i] := by simp [rd, h1]
    rw [List.drop_eq_getElem_cons h1]
    unfold risesB
    by_cases c1 : l[i] < 0
    · have : l[i] ≤ last := by
        rcases Nat.eq_zero_or_pos i with h | h
        · have := h0 h; omega
        · have := (hs h (by omega)).2; omega
      refine Since.none fun k => ?_
      simp only [icehouseref09_Check.l0, if_pos f1, if_pos f0, r1, if_pos c1]
      simp [this]
    · by_cases c2 : l[i] > 1048575
      · refine Since.none fun k => ?_
        simp only [icehouseref09_Check.l0, if_pos f1, if_pos f0, r1, if_neg c1, if_pos c2]
        simp [c2]
      · have hn1 := ih (i + 1) (by omega) (by omega) l[i] (by omega) (fun _ _ => ⟨by simp, by omega⟩)
        rcases Nat.eq_zero_or_pos i with h | h
        · subst h
          have hl0 := h0 rfl
          have c3 : ¬ (l[0] ≤ last) := by omega
          refine Since.one hn1 fun k h => ?_
          simp only [icehouseref09_Check.l0, if_pos f1, if_pos f0, r1, if_neg c1, if_neg c2, w_succ' 0 (by omega)]
          rw [if_neg (by omega), h]
          simp [c3, c2]
        · obtain ⟨hl1, hl2⟩ := hs h (by omega)
          have g1 : wrap64 ((i : Int) - 1) = ((i - 1 : Nat) : Int) := by unfold wrap64; omega
          have r2 : rd l ((i - 1 : Nat) : Int) = l[i - 1] := by simp [rd, show i - 1 < l.length by omega]
          have g2 : (0 : Int) ≤ ((i - 1 : Nat) : Int) := by omega
          have g3 : ((i - 1 : Nat) : Int) < (l.length : Int) := by omega
          have g4 : (i : Int) > 0 := by omega
          by_cases c3 : l[i] ≤ l[i - 1]
          · refine Since.none fun k => ?_
            simp only [icehouseref09_Check.l0, if_pos f1, if_pos f0, r1, if_neg c1, if_neg c2, if_pos g4, g1, if_pos g2, if_pos g3, r2, if_pos c3]
            rw [hl1]
            simp [c3]
          · refine Since.one hn1 fun k h => ?_
            simp only [icehouseref09_Check.l0, if_pos f1, if_pos f0, r1, if_neg c1, if_neg c2, if_pos g4, g1, if_pos g2, if_pos g3, r2, if_neg c3, w_succ' i (by omega)]
            rw [h, hl1]
            simp [c3, c2]
theorem rcheck_ev (l : List Int) (each keep : Int) (hl : l.length ≤ 9223372036854775807) : Since (fun k => icehouseref09_Check.f k l each keep) (chk l each keep) := by
  have hr := rchk_l0 l each keep hl _ 0 rfl (Nat.zero_le _) (-1) (fun _ => rfl) (fun h => absurd h (Nat.lt_irrefl 0))
  rw [List.drop_zero] at hr
  refine Since.one hr fun k h => ?_
  unfold icehouseref09_Check.f chk okB
  by_cases c1 : (l.length : Int) < 1
  · have : ¬ (0 < l.length) := by omega
    simp [c1, this, icehouseref09_Check.j0]
  · by_cases c2 : (l.length : Int) > 64
    · have c3 : ¬ (l.length ≤ 64) := by omega
      simp only [if_neg c1, if_pos c2]
      simp [c3, icehouseref09_Check.j0]
    · have c3 : l.length ≤ 64 := by omega
      have c4 : 0 < l.length := by omega
      by_cases d1 : each < 1
      · have : ¬ (1 ≤ each) := by omega
        simp [c1, c2, d1, this, icehouseref09_Check.j0]
      · by_cases d2 : each > 64
        · have : ¬ (each ≤ 64) := by omega
          simp [c1, c2, d1, d2, this, icehouseref09_Check.j0]
        · by_cases d3 : keep < 1
          · have : ¬ (1 ≤ keep) := by omega
            simp [c1, c2, d1, d2, d3, this, icehouseref09_Check.j0]
          · by_cases d4 : keep > (l.length : Int)
            · have : ¬ (keep ≤ (l.length : Int)) := by omega
              simp [c1, c2, d1, d2, d3, d4, this, icehouseref09_Check.j0]
            · have e1 : 1 ≤ each := by omega
              have e2 : each ≤ 64 := by omega
              have e3 : 1 ≤ keep := by omega
              have e4 : keep ≤ (l.length : Int) := by omega
              simp only [if_neg c1, if_neg c2, if_neg d1, if_neg d2, if_neg d3, decide_eq_false d4, icehouseref09_Check.j0]
              rw [if_neg (by decide), show icehouseref09_Check.l0 k (l.length : Int) 0 l each keep = _ from h]
              simp [e1, e2, e3, e4, c3, c4]
/-! a point's word -/
def ptH (n j : Int) : Int := (QP.hash_Point.f 9 n j).getD 0
theorem word_some (n : Int) : ∃ l, hash_word.f 9 n = some l := by
  unfold hash_word.f
  simp [hash_word.l0, wrap64]
theorem pt_f (n j : Int) : QP.hash_Point.f 9 n j = some (ptH n j) := by
  have h : ∃ r, QP.hash_Point.f 9 n j = some r := by
    obtain ⟨a, ha⟩ := word_some n
    obtain ⟨b, hb⟩ := word_some j
    unfold QP.hash_Point.f
    rw [ha, hb]
    exact ⟨_, rfl⟩
  obtain ⟨r, hr⟩ := h
  unfold ptH
  rw [hr]; rfl
/-- all points, as they are laid -/
def rowP (n : Int) (each : Nat) : List S70 := (List.range each).map fun j : Nat => ⟨ptH n (j : Int), n⟩
def rawP (l : List Int) (each : Int) : List S70 := l.flatMap fun n => rowP n each.toNat
theorem rowP_succ (n : Int) (k : Nat) : rowP n (k + 1) = rowP n k ++ [⟨ptH n (k : Int), n⟩] := by unfold rowP; rw [List.range_succ, List.map_append]; rfl
theorem rawP_snoc (l : List Int) (x each : Int) : rawP (l ++ [x]) each = rawP l each ++ rowP x each.toNat := by unfold rawP; rw [List.flatMap_append]; simp
theorem rowP_len (n : Int) (k : Nat) : (rowP n k).length = k := by unfold rowP; simp
theorem rawP_len (l : List Int) (each : Int) : (rawP l each).length = l.length * each.toNat := by
  induction l with
  | nil => simp [rawP]
  | cons x l ih =>
    have e : rawP (x :: l) each = rowP x each.toNat ++ rawP l each := by unfold rawP; simp
    rw [e, List.length_append, ih, rowP_len, List.length_cons, Nat.add_mul]
    omega
end Go.Proofs.Yteocngcojijnkaa.Hs
namespace Go.Proofs.Yteocngcojijnkaa.Hs
open Go.ChangeShapes Go.WideShapes Go.ChangeAt Go.RowKit Go.Proofs.Yteocngcojijnkaa.QH Go.Proofs.Yteocngcojijnkaa.Lex
open Go.Proofs.YteocngcojijnkaaW.PrintWords Go.Proofs.YteocngcojijnkaaW.PrintLast Go.Proofs.YteocngcojijnkaaW.PrintMore
set_option linter.unusedVariables false
set_option linter.unusedSimpArgs false
abbrev TR : TypeId := 42
/-- the points of a ring -/
def ptsP (l : List Int) (each : Int) : List S70 := compP (sortP (rawP l each))
def ring_Points.f (l : List Int) (each keep : Int) : Option (List S70 × Int) := some (if okB l each keep = true then (ptsP l each, 0) else ([], 2))
theorem grown_below {w w1 w2 : World} {B g : Nat} (h : Below B w w1) (hB : B ≤ w1.heap.size) (hg : w1.grownBy w2 (some g)) (hb : B ≤ g) : Below B w w2 :=
  pw_below_grown h (some g) hB hg (by intro k hk; injection hk with hk; omega)
theorem okB_len {l : List Int} {each keep : Int} (h : okB l each keep = true) : 0 < l.length ∧ l.length ≤ 64 ∧ 1 ≤ each ∧ each ≤ 64 ∧ 1 ≤ keep ∧ keep ≤ (l.length : Int) ∧ risesB (-1) l = true := by
  unfold okB at h
  simp only [Bool.and_eq_true, decide_eq_true_eq] at h
  exact ⟨h.1, h.2.1, h.2.2.2.1, h.2.2.2.2.1, h.2.2.2.2.2.1, h.2.2.2.2.2.2, h.2.2.1⟩
set_option maxHeartbeats 4000000 in
set_option maxRecDepth 100000 in
theorem points_no (A : Option Addr) (c : Nat) (l : List Int) (each keep : Int) (w : World) (hr : Kd.C (Kd.int .i64) w A l.length l) (hc : l.length ≤ c) (ho : okB l each keep = false) :
    Calls Try.prog 43 #[.agg #[.slice A l.length c, .int .i64 each, .int .i64 keep]] w fun e w' => ∃ v0_ : Value, e = .returned (.tuple #[v0_, .int .i64 2]) ∧ Kd.R k70 TP w' w.heap.size (fun _ => True) v0_ [] ∧ Below w.heap.size w w' := by
  have hu := Try.underlying42
  have HR := Aside0.mk (Kd.C_alloc hr (.cells #[.slice A l.length c, .int .i64 each, .int .i64 keep] TR))
  have HB := Aside0.mk (below_alloc (Below.refl w.heap.size w) (.cells #[.slice A l.length c, .int .i64 each, .int .i64 keep] TR))
  obtain ⟨K, hK⟩ := check_ev l each keep hr.2.1
  have hk := hK K (Nat.le_refl K)
  unfold chk at hk
  rw [ho, if_neg (by decide)] at hk
  have HK := Aside0.mk hk
  clear hr hK hk ho
  go_enter Try.func43, Try.ntmps43
  go_wp2_with fail
  (with_reducible refine (ring_Check.calls K A c l each keep 2 _ HR.out hc HK.out).mono ?_)
  rintro e w1 ⟨rfl, hb⟩
  have HB1 := Aside0.mk (below_then HB.out HB.out.size hb)
  clear hb
  go_wp2_with fail
  go_ret2
  exact ⟨_, rfl, Kd.R_nil _ _ _ _ _, HB1.out⟩
set_option maxHeartbeats 4000000 in
set_option maxRecDepth 100000 in
theorem points_yes (A : Option Addr) (c : Nat) (l : List Int) (each keep : Int) (w : World) (hr : Kd.C (Kd.int .i64) w A l.length l) (hc : l.length ≤ c) (ho : okB l each keep = true) :
    Calls Try.prog 43 #[.agg #[.slice A l.length c, .int .i64 each, .int .i64 keep]] w fun e w' => ∃ v0_ : Value, e = .returned (.tuple #[v0_, .int .i64 0]) ∧ Kd.R k70 TP w' w.heap.size (fun _ => True) v0_ (ptsP l each) ∧ Below w.heap.size w w' := by
  have hu := Try.underlying42
  obtain ⟨k0, k1, k2, k3, k4, k5, _⟩ := okB_len ho
  obtain ⟨K, hK⟩ := check_ev l each keep hr.2.1
  have hk := hK K (Nat.le_refl K)
  unfold chk at hk
  rw [ho, if_pos rfl] at hk
  have HK := Aside0.mk hk
  clear hK hk ho
  have HR := Aside0.mk hr
  have HRa := Aside0.mk (Kd.C_alloc hr (.cells #[.slice A l.length c, .int .i64 each, .int .i64 keep] TR))
  have HB := Aside0.mk (below_alloc (Below.refl w.heap.size w) (.cells #[.slice A l.length c, .int .i64 each, .int .i64 keep] TR))
  have BK := Aside0.mk (blk_new w (.cells #[.slice A l.length c, .int .i64 each, .int .i64 keep] TR))
  clear hr
  go_enter Try.func43, Try.ntmps43
  go_wp2_with fail
  (with_reducible refine (ring_Check.calls K A c l each keep 0 _ HRa.out hc HK.out).mono ?_)
  rintro e w1 ⟨rfl, hb⟩
  have HB1 := Aside0.mk (below_then HB.out HB.out.size hb)
  have BK1 := Aside0.mk (blk_below BK.out hb)
  have b0 : w1.cell? ⟨w.heap.size, 0, none⟩ = some (.slice A l.length c) := (blk_cell BK1.out 0).trans rfl
  clear hb
  go_wp2_with fail
  clear b0
  go_loopg [5, 17] l.length (fun q vo vk w' => ∃ (k d : Nat) (B : Option Addr) (acc : List S70), vo = .slice B acc.length d ∧ vk = .int .i64 k ∧ k ≤ l.length ∧ q = l.length - k ∧ Aside0 (acc = rawP (l.take k) each) ∧ Aside0 (Kd.R k70 TP w' w.heap.size (fun _ => True) (.slice B acc.length d) acc) ∧ Aside0 (Below w.heap.size w w') ∧ Aside0 (w'.heap[w.heap.size]? = some (.cells #[.slice A l.length c, .int .i64 each, .int .i64 keep] TR (0, 0))))
  case atStart => exact ⟨0, 0, none, [], rfl, rfl, Nat.zero_le _, rfl, ⟨rfl⟩, ⟨Kd.R_nil _ _ _ _ _⟩, HB1, BK1⟩
  case round =>
    obtain ⟨k, d, B, acc, rfl, rfl, hk, rfl, HA, HO, HB2, BK2⟩ := hrel
    clear HB HB1 BK BK1
    have hal : acc.length = k * each.toNat := by rw [HA.out, rawP_len, List.length_take, Nat.min_eq_left hk]
    have hb64 : k * each.toNat ≤ 64 * 64 := Nat.mul_le_mul (by omega) (by omega)
    by_cases hlt : k < l.length
    · have t1 : decide ((k : Int) < (l.length : Int)) = true := decide_eq_true (by omega)
      obtain ⟨b, off, hA, hcl⟩ := Hlp.C_block (Kd.C_below HR.out HB2.out) (by omega)
      have hcell := hcl k hlt
      subst hA
      obtain ⟨x, hx⟩ : ∃ x, l[k] = x := ⟨_, rfl⟩
      rw [hx] at hcell
      have HX := Aside0.mk hx
      have b1 : wr.cell? ⟨w.heap.size, 1, none⟩ = some (.int .i64 each) := (blk_cell BK2.out 1).trans rfl
      have i1 : (k : Int) < (l.length : Int) := by omega
      have HAL := Aside0.mk (And.intro hal hb64)
      clear hx hcl hal hb64
      go_wp2_with fail
      clear hcell b1
      go_loopg [5, 23] each.toNat (fun q vo vk w' => ∃ (j d : Nat) (B : Option Addr) (acc2 : List S70), vo = .slice B acc2.length d ∧ vk = .int .i64 j ∧ (j : Int) ≤ each ∧ q = each.toNat - j ∧ Aside0 (acc2 = acc ++ rowP x j) ∧ Aside0 (Kd.R k70 TP w' w.heap.size (fun _ => True) (.slice B acc2.length d) acc2) ∧ Aside0 (Below w.heap.size w w') ∧ Aside0 (w'.heap[w.heap.size]? = some (.cells #[.slice (some ⟨b, off, none⟩) l.length c, .int .i64 each, .int .i64 keep] TR (0, 0))))
      case atStart => exact ⟨0, d, B, acc, rfl, rfl, by omega, rfl, ⟨by simp [rowP]⟩, HO, HB2, BK2⟩
      case round =>
        obtain ⟨j, d2, B2, acc2, rfl, rfl, hj, rfl, HA2, HO2, HB3, BK3⟩ := hrel
        clear HO HB2 BK2
        have hal2 : acc2.length = acc.length + j := by rw [HA2.out, List.length_append, rowP_len]
        have hle : (acc2.length + 1) * 16 ≤ 140737488355328 := by have := HAL.out; omega
        by_cases hjl : (j : Int) < each
        · have t2 : decide ((j : Int) < each) = true := decide_eq_true hjl
          obtain ⟨acc3, hacc3⟩ : ∃ a, a = acc2 ++ [(⟨ptH x (j : Int), x⟩ : S70)] := ⟨_, rfl⟩
          have HA3 := Aside0.mk hacc3
          obtain ⟨p, hp⟩ : ∃ p, ptH x (j : Int) = p := ⟨_, rfl⟩
          have HPt : Aside0 (∀ W, Calls Try.prog 50 #[.int .i64 x, .int .i64 j] W fun e w' => e = .returned (.int .u64 p) ∧ Below W.heap.size W w') := ⟨fun W => QP.hash_Point.calls 9 x (j : Int) p W (by rw [pt_f, hp])⟩
          have HPe := Aside0.mk hp
          rw [hp] at HA3
          clear hacc3 hp hal2
          go_wp2_with fail
          (with_reducible refine (HPt.out _).mono ?_)
          rintro e w2 ⟨rfl, hb⟩
          have HB4 := Aside0.mk (below_then HB3.out HB3.out.size hb)
          have BK4 := Aside0.mk (blk_below BK3.out hb)
          have HO4 := Aside0.mk (Kd.R_below HO2.out hb)
          clear hb
          go_wp2_with ((with_reducible refine gate_builtin (b := .append) (xs := #[.tmp 26, .tmp 32]) rfl ?_); at_builtin; refine Kd.R_append k70 (w0 := w) w.heap.size rfl (.tmp 26) (.tmp 32) 65 TP (.agg #[(.int .u64 0), (.int .i64 0)]) 16 rfl Try.underlying65 info70 rfl (by decide) (by omega) (.slice B2 acc2.length d2) acc2 (⟨p, x⟩ : S70) [.int .u64 p, .int .i64 x] (fun _ => True) (fun _ => False) rfl rfl (k70_mkM _ _ _ (⟨p, x⟩ : S70)) (fun _ hk => hk.elim) (fun _ _ => trivial) HO4.out HB4.out HB4.out.size hle ?_; intro v3 w3 ho hb hg hat; rw [← HA3.out] at ho; have BK5 := Aside0.mk (blk_grown BK4.out hg (Kd.R_ne HO4.out BK4.out (by decide))); obtain ⟨B5, d5, hv5, hd5, _⟩ := Kd.R_reads ho; subst hv5; have HO5 := Aside0.mk ho; have HB5 := Aside0.mk hb; clear ho hb hg hat)
          go_roundg (each.toNat - (j + 1))
          case measure => omega
          case rel => exact ⟨j + 1, d5, B5, acc3, rfl, by go_num, by omega, rfl, ⟨by rw [HA3.out, HA2.out, rowP_succ, List.append_assoc, HPe.out]⟩, HO5, HB5, BK5⟩
        · obtain rfl : j = each.toNat := by omega
          have t2 : decide (((each.toNat : Nat) : Int) < each) = false := decide_eq_false (by omega)
          have HA4 : Aside0 (acc2 = rawP (l.take (k + 1)) each) := ⟨by rw [HA2.out, HA.out, List.take_succ_eq_append_getElem hlt, rawP_snoc, HX.out]⟩
          clear hal2 hle
          go_wp2_with fail
          go_roundg (l.length - (k + 1))
          case measure => omega
          case rel => exact ⟨k + 1, d2, B2, acc2, rfl, by go_num, hlt, rfl, HA4, HO2, HB3, BK3⟩
    · obtain rfl : k = l.length := by omega
      have t1 : decide ((l.length : Int) < (l.length : Int)) = false := decide_eq_false (by omega)
      rw [List.take_length] at HA
      have hpos : 0 < acc.length := by
        rw [hal]
        exact Nat.mul_pos k0 (by omega)
      obtain ⟨g, cap, hv, hg, _, hPB⟩ := PB.of_R HO.out hpos
      injection hv with hv1 _ hv3
      subst hv1
      subst hv3
      have HPB := Aside0.mk hPB
      have HG := Aside0.mk hg
      have hal2 : acc.length ≤ 4096 := by omega
      clear hPB hg hal hb64 hpos
      go_wp2_with fail
      (with_reducible refine (sort_ HPB.out (by omega)).mono ?_)
      rintro e w3 ⟨rfl, hp3, hg3⟩
      have HP3 := Aside0.mk hp3
      have HB3 := Aside0.mk (grown_below HB2.out HB2.out.size hg3 HG.out)
      have HL3 := Aside0.mk (sortP_len acc)
      have HS3 : Aside0 (∀ W, PB W g d (sortP acc) → Calls Try.prog 53 #[.slice (some ⟨g, 0, none⟩) acc.length d] W fun e w' => ∃ l' : List S70, e = .returned (.slice (some ⟨g, 0, none⟩) l'.length d) ∧ l' = compP (sortP acc) ∧ PB w' g d l' ∧ W.grownBy w' (some g)) := ⟨fun W hW => by
        have := compact_ hW (by rw [sortP_len]; omega)
        rwa [sortP_len] at this⟩
      clear hp3 hg3
      go_wp2_with fail
      (with_reducible refine (HS3.out _ HP3.out).mono ?_)
      rintro e w4 ⟨l', rfl, hl', hp4, hg4⟩
      have HP4 := Aside0.mk hp4
      have HL4 := Aside0.mk hl'
      have HB4 := Aside0.mk (grown_below HB3.out HB3.out.size hg4 HG.out)
      clear hl' hp4 hg4
      go_wp2_with fail
      go_ret2
      have he : l' = ptsP l each := by rw [HL4.out, HA.out]; rfl
      refine ⟨_, rfl, ?_, HB4.out⟩
      rw [← he]
      exact HP4.out.R HG.out trivial
theorem ring_Points.calls (A : Option Addr) (c : Nat) (l : List Int) (each keep : Int) (r1 : List S70) (r2 : Int) (w : World) (hr : Kd.C (Kd.int .i64) w A l.length l) (hc : l.length ≤ c) (hf : ring_Points.f l each keep = some (r1, r2)) :
    Calls Try.prog 43 #[.agg #[.slice A l.length c, .int .i64 each, .int .i64 keep]] w fun e w' => ∃ v0_ : Value, e = .returned (.tuple #[v0_, .int .i64 r2]) ∧ Kd.R k70 TP w' w.heap.size (fun _ => True) v0_ r1 ∧ Below w.heap.size w w' := by
  unfold ring_Points.f at hf
  have hf := Option.some.inj hf
  cases ho : okB l each keep
  · rw [ho, if_neg (by decide)] at hf
    injection hf with h1 h2
    subst h1; subst h2
    exact points_no A c l each keep w hr hc ho
  · rw [ho, if_pos rfl] at hf
    injection hf with h1 h2
    subst h1; subst h2
    exact points_yes A c l each keep w hr hc ho
end Go.Proofs.Yteocngcojijnkaa.Hs
