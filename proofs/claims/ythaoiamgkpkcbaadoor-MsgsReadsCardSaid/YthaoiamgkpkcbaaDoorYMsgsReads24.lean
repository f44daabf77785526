/- Written by a program of this session over the kit's print: functions and their contracts. -/
import Derived.Test.YthaoiamgkpkcbaaDoorYMsgsReads21
import Derived.Test.YthaoiamgkpkcbaaDoorYMsgsReads22
import Derived.Test.YthaoiamgkpkcbaaDoorYMsgsReads23

namespace Go.Proofs.YthaoiamgkpkcbaaDoor.QS
open Go.Proofs.YthaoiamgkpkcbaaDoor.QL
open Go.RowKit Go.Proofs.YthaoiamgkpkcbaaDoorW.PrintWords Go.Proofs.YthaoiamgkpkcbaaDoorW.PrintLast Go.Proofs.YthaoiamgkpkcbaaDoorW.PrintMore
attribute [local go_sem] max2_int min2_int max_two min_two max_three min_three max_four min_four   -- for this text's walks alone
set_option linter.unusedVariables false
set_option linter.unusedSimpArgs false
/-! ### icehouseref12_Same: function 19 -/
def icehouseref12_Same.j0 : Nat → Bool → Int → Int → Int → Int → Int → Int → Bool → ByteArray → Int → Int → Int → Bool → List Int → List (S28) → List Int → Int → Int → Int → Int → Int → Int → Int → Int → Bool → ByteArray → Int → Int → Int → Bool → List Int → List (S28) → List Int → Int → Int → Option (Bool)
  | 0, _, _, _, _, _, _, _, _, _, _, _, _, _, _, _, _, _, _, _, _, _, _, _, _, _, _, _, _, _, _, _, _, _, _, _ => none
  | k + 1, x51, x117000, x117001, x117002, x117003, x117004, x117005, x117006, x117007, x117008, x117009, x117010, x117011, x117012, x117013, x117014, x117015, x117016, x118000, x118001, x118002, x118003, x118004, x118005, x118006, x118007, x118008, x118009, x118010, x118011, x118012, x118013, x118014, x118015, x118016 => if x51 = true then (some false) else ((icehouseref03_Same.f k x117007 x117008 x117009 x117010 x117011 x117012 x118007 x118008 x118009 x118010 x118011 x118012).bind fun t118 => (if t118 = true then ((icehouseref03_SameAll.f k x117013 x118013).bind fun t119 => (if t119 = true then ((icehouseref09_Same.f k x117014 x117015 x117016 x118014 x118015 x118016).bind fun t120 => (some t120)) else (some false))) else (some false)))
def icehouseref12_Same.f (k : Nat) (a0_0 : Int) (a0_1 : Int) (a0_2 : Int) (a0_3 : Int) (a0_4 : Int) (a0_5 : Int) (a0_6 : Bool) (a0_7 : ByteArray) (a0_8 : Int) (a0_9 : Int) (a0_10 : Int) (a0_11 : Bool) (l0_12 : List Int) (l0_13 : List (S28)) (l0_14 : List Int) (a0_15 : Int) (a0_16 : Int) (a1_0 : Int) (a1_1 : Int) (a1_2 : Int) (a1_3 : Int) (a1_4 : Int) (a1_5 : Int) (a1_6 : Bool) (a1_7 : ByteArray) (a1_8 : Int) (a1_9 : Int) (a1_10 : Int) (a1_11 : Bool) (l1_12 : List Int) (l1_13 : List (S28)) (l1_14 : List Int) (a1_15 : Int) (a1_16 : Int) : Option (Bool) := if a0_0 = a1_0 then (if a0_1 = a1_1 then (if a0_2 = a1_2 then (if a0_3 = a1_3 then (if a0_4 = a1_4 then (if a0_5 = a1_5 then (icehouseref12_Same.j0 k (a0_6 != a1_6) a0_0 a0_1 a0_2 a0_3 a0_4 a0_5 a0_6 a0_7 a0_8 a0_9 a0_10 a0_11 l0_12 l0_13 l0_14 a0_15 a0_16 a1_0 a1_1 a1_2 a1_3 a1_4 a1_5 a1_6 a1_7 a1_8 a1_9 a1_10 a1_11 l1_12 l1_13 l1_14 a1_15 a1_16) else (icehouseref12_Same.j0 k true a0_0 a0_1 a0_2 a0_3 a0_4 a0_5 a0_6 a0_7 a0_8 a0_9 a0_10 a0_11 l0_12 l0_13 l0_14 a0_15 a0_16 a1_0 a1_1 a1_2 a1_3 a1_4 a1_5 a1_6 a1_7 a1_8 a1_9 a1_10 a1_11 l1_12 l1_13 l1_14 a1_15 a1_16)) else (icehouseref12_Same.j0 k true a0_0 a0_1 a0_2 a0_3 a0_4 a0_5 a0_6 a0_7 a0_8 a0_9 a0_10 a0_11 l0_12 l0_13 l0_14 a0_15 a0_16 a1_0 a1_1 a1_2 a1_3 a1_4 a1_5 a1_6 a1_7 a1_8 a1_9 a1_10 a1_11 l1_12 l1_13 l1_14 a1_15 a1_16)) else (icehouseref12_Same.j0 k true a0_0 a0_1 a0_2 a0_3 a0_4 a0_5 a0_6 a0_7 a0_8 a0_9 a0_10 a0_11 l0_12 l0_13 l0_14 a0_15 a0_16 a1_0 a1_1 a1_2 a1_3 a1_4 a1_5 a1_6 a1_7 a1_8 a1_9 a1_10 a1_11 l1_12 l1_13 l1_14 a1_15 a1_16)) else (icehouseref12_Same.j0 k true a0_0 a0_1 a0_2 a0_3 a0_4 a0_5 a0_6 a0_7 a0_8 a0_9 a0_10 a0_11 l0_12 l0_13 l0_14 a0_15 a0_16 a1_0 a1_1 a1_2 a1_3 a1_4 a1_5 a1_6 a1_7 a1_8 a1_9 a1_10 a1_11 l1_12 l1_13 l1_14 a1_15 a1_16)) else (icehouseref12_Same.j0 k true a0_0 a0_1 a0_2 a0_3 a0_4 a0_5 a0_6 a0_7 a0_8 a0_9 a0_10 a0_11 l0_12 l0_13 l0_14 a0_15 a0_16 a1_0 a1_1 a1_2 a1_3 a1_4 a1_5 a1_6 a1_7 a1_8 a1_9 a1_10 a1_11 l1_12 l1_13 l1_14 a1_15 a1_16)) else (icehouseref12_Same.j0 k true a0_0 a0_1 a0_2 a0_3 a0_4 a0_5 a0_6 a0_7 a0_8 a0_9 a0_10 a0_11 l0_12 l0_13 l0_14 a0_15 a0_16 a1_0 a1_1 a1_2 a1_3 a1_4 a1_5 a1_6 a1_7 a1_8 a1_9 a1_10 a1_11 l1_12 l1_13 l1_14 a1_15 a1_16)
set_option maxHeartbeats 8000000 in
set_option maxRecDepth 100000 in
theorem icehouseref12_Same.calls (k : Nat) (a0_0 : Int) (a0_1 : Int) (a0_2 : Int) (a0_3 : Int) (a0_4 : Int) (a0_5 : Int) (a0_6 : Bool) (a0_7 : ByteArray) (a0_8 : Int) (a0_9 : Int) (a0_10 : Int) (a0_11 : Bool) (A0_12 : Option Addr) (c0_12 : Nat) (l0_12 : List Int) (A0_13 : Option Addr) (c0_13 : Nat) (l0_13 : List (S28)) (A0_14 : Option Addr) (c0_14 : Nat) (l0_14 : List Int) (a0_15 : Int) (a0_16 : Int) (a1_0 : Int) (a1_1 : Int) (a1_2 : Int) (a1_3 : Int) (a1_4 : Int) (a1_5 : Int) (a1_6 : Bool) (a1_7 : ByteArray) (a1_8 : Int) (a1_9 : Int) (a1_10 : Int) (a1_11 : Bool) (A1_12 : Option Addr) (c1_12 : Nat) (l1_12 : List Int) (A1_13 : Option Addr) (c1_13 : Nat) (l1_13 : List (S28)) (A1_14 : Option Addr) (c1_14 : Nat) (l1_14 : List Int) (a1_15 : Int) (a1_16 : Int) (r : Bool) (w : World) (hr0_12 : Kd.C (Kd.int .u8) w A0_12 l0_12.length l0_12) (hc0_12 : l0_12.length ≤ c0_12) (hr0_13 : Kd.C k28 w A0_13 l0_13.length l0_13) (hc0_13 : l0_13.length ≤ c0_13) (hr0_14 : Kd.C (Kd.int .i64) w A0_14 l0_14.length l0_14) (hc0_14 : l0_14.length ≤ c0_14) (hr1_12 : Kd.C (Kd.int .u8) w A1_12 l1_12.length l1_12) (hc1_12 : l1_12.length ≤ c1_12) (hr1_13 : Kd.C k28 w A1_13 l1_13.length l1_13) (hc1_13 : l1_13.length ≤ c1_13) (hr1_14 : Kd.C (Kd.int .i64) w A1_14 l1_14.length l1_14) (hc1_14 : l1_14.length ≤ c1_14) (h : icehouseref12_Same.f k a0_0 a0_1 a0_2 a0_3 a0_4 a0_5 a0_6 a0_7 a0_8 a0_9 a0_10 a0_11 l0_12 l0_13 l0_14 a0_15 a0_16 a1_0 a1_1 a1_2 a1_3 a1_4 a1_5 a1_6 a1_7 a1_8 a1_9 a1_10 a1_11 l1_12 l1_13 l1_14 a1_15 a1_16 = some r) :
    Calls Tryd.prog 19 #[.agg #[.int .i64 a0_0, .int .i64 a0_1, .int .i64 a0_2, .int .i64 a0_3, .int .i64 a0_4, .int .i64 a0_5, .bool a0_6, .string a0_7, .int .i64 a0_8, .int .i64 a0_9, .int .i64 a0_10, .bool a0_11, .slice A0_12 l0_12.length c0_12, .slice A0_13 l0_13.length c0_13, .slice A0_14 l0_14.length c0_14, .int .i64 a0_15, .int .i64 a0_16], .agg #[.int .i64 a1_0, .int .i64 a1_1, .int .i64 a1_2, .int .i64 a1_3, .int .i64 a1_4, .int .i64 a1_5, .bool a1_6, .string a1_7, .int .i64 a1_8, .int .i64 a1_9, .int .i64 a1_10, .bool a1_11, .slice A1_12 l1_12.length c1_12, .slice A1_13 l1_13.length c1_13, .slice A1_14 l1_14.length c1_14, .int .i64 a1_15, .int .i64 a1_16]] w fun e w' => e = .returned (.bool r) ∧ Below w.heap.size w w' := by
  have hu34 := Tryd.underlying34
  have hu28 := Tryd.underlying28
  have hu32 := Tryd.underlying32
  have HR0_12 := Aside0.mk hr0_12
  have HC0_12 := Aside0.mk hc0_12
  clear hr0_12 hc0_12
  have HR0_13 := Aside0.mk hr0_13
  have HC0_13 := Aside0.mk hc0_13
  clear hr0_13 hc0_13
  have HR0_14 := Aside0.mk hr0_14
  have HC0_14 := Aside0.mk hc0_14
  clear hr0_14 hc0_14
  have HR1_12 := Aside0.mk hr1_12
  have HC1_12 := Aside0.mk hc1_12
  clear hr1_12 hc1_12
  have HR1_13 := Aside0.mk hr1_13
  have HC1_13 := Aside0.mk hc1_13
  clear hr1_13 hc1_13
  have HR1_14 := Aside0.mk hr1_14
  have HC1_14 := Aside0.mk hc1_14
  clear hr1_14 hc1_14
  have HB := Aside0.mk (Below.refl w.heap.size w)
  have H : (if a0_0 = a1_0 then (if a0_1 = a1_1 then (if a0_2 = a1_2 then (if a0_3 = a1_3 then (if a0_4 = a1_4 then (if a0_5 = a1_5 then (icehouseref12_Same.j0 k (a0_6 != a1_6) a0_0 a0_1 a0_2 a0_3 a0_4 a0_5 a0_6 a0_7 a0_8 a0_9 a0_10 a0_11 l0_12 l0_13 l0_14 a0_15 a0_16 a1_0 a1_1 a1_2 a1_3 a1_4 a1_5 a1_6 a1_7 a1_8 a1_9 a1_10 a1_11 l1_12 l1_13 l1_14 a1_15 a1_16) else (icehouseref12_Same.j0 k true a0_0 a0_1 a0_2 a0_3 a0_4 a0_5 a0_6 a0_7 a0_8 a0_9 a0_10 a0_11 l0_12 l0_13 l0_14 a0_15 a0_16 a1_0 a1_1 a1_2 a1_3 a1_4 a1_5 a1_6 a1_7 a1_8 a1_9 a1_10 a1_11 l1_12 l1_13 l1_14 a1_15 a1_16)) else (icehouseref12_Same.j0 k true a0_0 a0_1 a0_2 a0_3 a0_4 a0_5 a0_6 a0_7 a0_8 a0_9 a0_10 a0_11 l0_12 l0_13 l0_14 a0_15 a0_16 a1_0 a1_1 a1_2 a1_3 a1_4 a1_5 a1_6 a1_7 a1_8 a1_9 a1_10 a1_11 l1_12 l1_13 l1_14 a1_15 a1_16)) else (icehouseref12_Same.j0 k true a0_0 a0_1 a0_2 a0_3 a0_4 a0_5 a0_6 a0_7 a0_8 a0_9 a0_10 a0_11 l0_12 l0_13 l0_14 a0_15 a0_16 a1_0 a1_1 a1_2 a1_3 a1_4 a1_5 a1_6 a1_7 a1_8 a1_9 a1_10 a1_11 l1_12 l1_13 l1_14 a1_15 a1_16)) else (icehouseref12_Same.j0 k true a0_0 a0_1 a0_2 a0_3 a0_4 a0_5 a0_6 a0_7 a0_8 a0_9 a0_10 a0_11 l0_12 l0_13 l0_14 a0_15 a0_16 a1_0 a1_1 a1_2 a1_3 a1_4 a1_5 a1_6 a1_7 a1_8 a1_9 a1_10 a1_11 l1_12 l1_13 l1_14 a1_15 a1_16)) else (icehouseref12_Same.j0 k true a0_0 a0_1 a0_2 a0_3 a0_4 a0_5 a0_6 a0_7 a0_8 a0_9 a0_10 a0_11 l0_12 l0_13 l0_14 a0_15 a0_16 a1_0 a1_1 a1_2 a1_3 a1_4 a1_5 a1_6 a1_7 a1_8 a1_9 a1_10 a1_11 l1_12 l1_13 l1_14 a1_15 a1_16)) else (icehouseref12_Same.j0 k true a0_0 a0_1 a0_2 a0_3 a0_4 a0_5 a0_6 a0_7 a0_8 a0_9 a0_10 a0_11 l0_12 l0_13 l0_14 a0_15 a0_16 a1_0 a1_1 a1_2 a1_3 a1_4 a1_5 a1_6 a1_7 a1_8 a1_9 a1_10 a1_11 l1_12 l1_13 l1_14 a1_15 a1_16)) = some r := h
  clear h
  have HC3 := Aside0.mk H
  clear H
  go_enter Tryd.func19, Tryd.ntmps19
  go_upto_region 1 with (first | ((with_reducible refine gate_dst (N := 2) rfl ?_); refine box_event ?hg (N := 2) ?hd (cs := #[.int .i64 a0_0, .int .i64 a0_1, .int .i64 a0_2, .int .i64 a0_3, .int .i64 a0_4, .int .i64 a0_5, .bool a0_6, .string a0_7, .int .i64 a0_8, .int .i64 a0_9, .int .i64 a0_10, .bool a0_11, .slice A0_12 l0_12.length c0_12, .slice A0_13 l0_13.length c0_13, .slice A0_14 l0_14.length c0_14, .int .i64 a0_15, .int .i64 a0_16]) (t := 34) ?hr ?_; (case hd => rfl); (case hg => rfl); (case hr => first | (go_simp; done) | (go_simp; rfl)); intro gb116 hg w4 hbox hb; have n0_ := Aside0.mk (below_step (by repeat (first | (with_reducible first | exact HB.out | apply below_alloc | apply pw_below_drewN | apply below_drew1) | exact HB.out)) hb); have n1_ := Aside0.mk (hbox); have n2_ := Aside0.mk ((by rw [hg]; exact (below_size (by repeat (first | (with_reducible first | exact HB.out | apply below_alloc | apply pw_below_drewN | apply below_drew1) | exact HB.out))) : w.heap.size ≤ gb116)); have n3_ := Aside0.mk ((by rw [hg]; exact (below_size (by repeat (first | (with_reducible first | exact HB.out | apply below_alloc | apply pw_below_drewN | apply below_drew1) | exact HB.out))) : w.heap.size ≤ gb116)); clear HB; have HB := n0_; have BK116 := n1_; have GW116 := n2_; have GE116 := n3_; clear n0_ n1_ n2_ n3_; clear hb hbox hg) | ((with_reducible refine gate_dst (N := 3) rfl ?_); refine box_event ?hg (N := 3) ?hd (cs := #[.int .i64 a1_0, .int .i64 a1_1, .int .i64 a1_2, .int .i64 a1_3, .int .i64 a1_4, .int .i64 a1_5, .bool a1_6, .string a1_7, .int .i64 a1_8, .int .i64 a1_9, .int .i64 a1_10, .bool a1_11, .slice A1_12 l1_12.length c1_12, .slice A1_13 l1_13.length c1_13, .slice A1_14 l1_14.length c1_14, .int .i64 a1_15, .int .i64 a1_16]) (t := 34) ?hr ?_; (case hd => rfl); (case hg => rfl); (case hr => first | (go_simp; done) | (go_simp; rfl)); intro gb117 hg w5 hbox hb; have n0_ := Aside0.mk (blk_below (g := gb116) (o := .cells #[.int .i64 a0_0, .int .i64 a0_1, .int .i64 a0_2, .int .i64 a0_3, .int .i64 a0_4, .int .i64 a0_5, .bool a0_6, .string a0_7, .int .i64 a0_8, .int .i64 a0_9, .int .i64 a0_10, .bool a0_11, .slice A0_12 l0_12.length c0_12, .slice A0_13 l0_13.length c0_13, .slice A0_14 l0_14.length c0_14, .int .i64 a0_15, .int .i64 a0_16] 34 (0, 0)) (by (with_reducible repeat (first | refine blk_drewN ?_ _ | refine blk_drew ?_ | refine blk_alloc ?_ _)); exact BK116.out) hb); have n1_ := Aside0.mk (below_step (by repeat (first | (with_reducible first | exact HB.out | apply below_alloc | apply pw_below_drewN | apply below_drew1 | refine below_set ?_ GE116.out) | exact HB.out)) hb); have n2_ := Aside0.mk (hbox); have n3_ := Aside0.mk ((by rw [hg]; exact (below_size (by repeat (first | (with_reducible first | exact HB.out | apply below_alloc | apply pw_below_drewN | apply below_drew1 | refine below_set ?_ GE116.out) | exact HB.out))) : w.heap.size ≤ gb117)); have n4_ := Aside0.mk ((by rw [hg]; exact (below_size (by repeat (first | (with_reducible first | exact HB.out | apply below_alloc | apply pw_below_drewN | apply below_drew1 | refine below_set ?_ GE116.out) | exact HB.out))) : w.heap.size ≤ gb117)); have n5_ := Aside0.mk ((by rw [hg]; exact Nat.ne_of_lt (blk_lt (g := gb116) (o := .cells #[.int .i64 a0_0, .int .i64 a0_1, .int .i64 a0_2, .int .i64 a0_3, .int .i64 a0_4, .int .i64 a0_5, .bool a0_6, .string a0_7, .int .i64 a0_8, .int .i64 a0_9, .int .i64 a0_10, .bool a0_11, .slice A0_12 l0_12.length c0_12, .slice A0_13 l0_13.length c0_13, .slice A0_14 l0_14.length c0_14, .int .i64 a0_15, .int .i64 a0_16] 34 (0, 0)) (by (with_reducible repeat (first | refine blk_drewN ?_ _ | refine blk_drew ?_ | refine blk_alloc ?_ _)); exact BK116.out)) : gb116 ≠ gb117)); have n6_ := Aside0.mk ((by rw [hg]; exact Nat.ne_of_gt (blk_lt (g := gb116) (o := .cells #[.int .i64 a0_0, .int .i64 a0_1, .int .i64 a0_2, .int .i64 a0_3, .int .i64 a0_4, .int .i64 a0_5, .bool a0_6, .string a0_7, .int .i64 a0_8, .int .i64 a0_9, .int .i64 a0_10, .bool a0_11, .slice A0_12 l0_12.length c0_12, .slice A0_13 l0_13.length c0_13, .slice A0_14 l0_14.length c0_14, .int .i64 a0_15, .int .i64 a0_16] 34 (0, 0)) (by (with_reducible repeat (first | refine blk_drewN ?_ _ | refine blk_drew ?_ | refine blk_alloc ?_ _)); exact BK116.out)) : gb117 ≠ gb116)); clear BK116; clear HB; have BK116 := n0_; have HB := n1_; have BK117 := n2_; have GW117 := n3_; have GE117 := n4_; have NB116_117 := n5_; have NB117_116 := n6_; clear n0_ n1_ n2_ n3_ n4_ n5_ n6_; clear hb hbox hg))
  (try simp only [Act.put, List.setIfInBounds_toArray, List.set_cons_zero, List.set_cons_succ])
  go_cut [51] (fun v51 wc => ∃ (kq : Nat) (x51_2 : Bool), v51 = .bool x51_2 ∧ Aside0 (icehouseref12_Same.j0 kq x51_2 a0_0 a0_1 a0_2 a0_3 a0_4 a0_5 a0_6 a0_7 a0_8 a0_9 a0_10 a0_11 l0_12 l0_13 l0_14 a0_15 a0_16 a1_0 a1_1 a1_2 a1_3 a1_4 a1_5 a1_6 a1_7 a1_8 a1_9 a1_10 a1_11 l1_12 l1_13 l1_14 a1_15 a1_16 = some r) ∧ Aside0 (kq ≤ k) ∧ Aside0 (wc.heap[gb116]? = some (.cells #[.int .i64 a0_0, .int .i64 a0_1, .int .i64 a0_2, .int .i64 a0_3, .int .i64 a0_4, .int .i64 a0_5, .bool a0_6, .string a0_7, .int .i64 a0_8, .int .i64 a0_9, .int .i64 a0_10, .bool a0_11, (.slice A0_12 l0_12.length c0_12), (.slice A0_13 l0_13.length c0_13), (.slice A0_14 l0_14.length c0_14), .int .i64 a0_15, .int .i64 a0_16] 34 (0, 0))) ∧ Aside0 (wc.heap[gb117]? = some (.cells #[.int .i64 a1_0, .int .i64 a1_1, .int .i64 a1_2, .int .i64 a1_3, .int .i64 a1_4, .int .i64 a1_5, .bool a1_6, .string a1_7, .int .i64 a1_8, .int .i64 a1_9, .int .i64 a1_10, .bool a1_11, (.slice A1_12 l1_12.length c1_12), (.slice A1_13 l1_13.length c1_13), (.slice A1_14 l1_14.length c1_14), .int .i64 a1_15, .int .i64 a1_16] 34 (0, 0))) ∧ Aside0 (Below w.heap.size w wc))
  case first =>
    have H := HC3.out
    clear HC3
    by_cases c6 : a0_0 = a1_0
    · rw [if_pos c6] at H
      have c6b0 : (a0_0 == a1_0) = true := beq_iff_eq.mpr c6
      have c6b1 : (a0_0 != a1_0) = false := bne_eq_false_iff_eq.mpr c6
      clear c6
      (first | rw [c6b0] | (simp only [i64_w, i32_w]; rw [c6b0]) | skip)
      by_cases c7 : a0_1 = a1_1
      · rw [if_pos c7] at H
        have c7b0 : (a0_1 == a1_1) = true := beq_iff_eq.mpr c7
        have c7b1 : (a0_1 != a1_1) = false := bne_eq_false_iff_eq.mpr c7
        clear c7
        by_cases c8 : a0_2 = a1_2
        · rw [if_pos c8] at H
          have c8b0 : (a0_2 == a1_2) = true := beq_iff_eq.mpr c8
          have c8b1 : (a0_2 != a1_2) = false := bne_eq_false_iff_eq.mpr c8
          clear c8
          by_cases c9 : a0_3 = a1_3
          · rw [if_pos c9] at H
            have c9b0 : (a0_3 == a1_3) = true := beq_iff_eq.mpr c9
            have c9b1 : (a0_3 != a1_3) = false := bne_eq_false_iff_eq.mpr c9
            clear c9
            by_cases c10 : a0_4 = a1_4
            · rw [if_pos c10] at H
              have c10b0 : (a0_4 == a1_4) = true := beq_iff_eq.mpr c10
              have c10b1 : (a0_4 != a1_4) = false := bne_eq_false_iff_eq.mpr c10
              clear c10
              by_cases c11 : a0_5 = a1_5
              · rw [if_pos c11] at H
                have c11b0 : (a0_5 == a1_5) = true := beq_iff_eq.mpr c11
                have c11b1 : (a0_5 != a1_5) = false := bne_eq_false_iff_eq.mpr c11
                clear c11
                have H' := Aside0.mk H
                clear H
                have hnb12 := NB116_117.out
                have hnc12 := NB117_116.out
                have hcz13_0 : w5.cell? ⟨gb116, 0, none⟩ = some (.int .i64 a0_0) := (blk_cell BK116.out 0).trans rfl
                have hcz13_1 : w5.cell? ⟨gb116, 1, none⟩ = some (.int .i64 a0_1) := (blk_cell BK116.out 1).trans rfl
                have hcz13_2 : w5.cell? ⟨gb116, 2, none⟩ = some (.int .i64 a0_2) := (blk_cell BK116.out 2).trans rfl
                have hcz13_3 : w5.cell? ⟨gb116, 3, none⟩ = some (.int .i64 a0_3) := (blk_cell BK116.out 3).trans rfl
                have hcz13_4 : w5.cell? ⟨gb116, 4, none⟩ = some (.int .i64 a0_4) := (blk_cell BK116.out 4).trans rfl
                have hcz13_5 : w5.cell? ⟨gb116, 5, none⟩ = some (.int .i64 a0_5) := (blk_cell BK116.out 5).trans rfl
                have hcz13_6 : w5.cell? ⟨gb116, 6, none⟩ = some (.bool a0_6) := (blk_cell BK116.out 6).trans rfl
                have hcz13_7 : w5.cell? ⟨gb116, 7, none⟩ = some (.string a0_7) := (blk_cell BK116.out 7).trans rfl
                have hcz13_8 : w5.cell? ⟨gb116, 8, none⟩ = some (.int .i64 a0_8) := (blk_cell BK116.out 8).trans rfl
                have hcz13_9 : w5.cell? ⟨gb116, 9, none⟩ = some (.int .i64 a0_9) := (blk_cell BK116.out 9).trans rfl
                have hcz13_10 : w5.cell? ⟨gb116, 10, none⟩ = some (.int .i64 a0_10) := (blk_cell BK116.out 10).trans rfl
                have hcz13_11 : w5.cell? ⟨gb116, 11, none⟩ = some (.bool a0_11) := (blk_cell BK116.out 11).trans rfl
                have hcz13_12 : w5.cell? ⟨gb116, 12, none⟩ = some (.slice A0_12 l0_12.length c0_12) := (blk_cell BK116.out 12).trans rfl
                have hcz13_13 : w5.cell? ⟨gb116, 13, none⟩ = some (.slice A0_13 l0_13.length c0_13) := (blk_cell BK116.out 13).trans rfl
                have hcz13_14 : w5.cell? ⟨gb116, 14, none⟩ = some (.slice A0_14 l0_14.length c0_14) := (blk_cell BK116.out 14).trans rfl
                have hcz13_15 : w5.cell? ⟨gb116, 15, none⟩ = some (.int .i64 a0_15) := (blk_cell BK116.out 15).trans rfl
                have hcz13_16 : w5.cell? ⟨gb116, 16, none⟩ = some (.int .i64 a0_16) := (blk_cell BK116.out 16).trans rfl
                have hfz13_0 := blk_frozen BK116.out 0
                have hfz13_1 := blk_frozen BK116.out 1
                have hfz13_2 := blk_frozen BK116.out 2
                have hfz13_3 := blk_frozen BK116.out 3
                have hfz13_4 := blk_frozen BK116.out 4
                have hfz13_5 := blk_frozen BK116.out 5
                have hfz13_6 := blk_frozen BK116.out 6
                have hfz13_7 := blk_frozen BK116.out 7
                have hfz13_8 := blk_frozen BK116.out 8
                have hfz13_9 := blk_frozen BK116.out 9
                have hfz13_10 := blk_frozen BK116.out 10
                have hfz13_11 := blk_frozen BK116.out 11
                have hfz13_12 := blk_frozen BK116.out 12
                have hfz13_13 := blk_frozen BK116.out 13
                have hfz13_14 := blk_frozen BK116.out 14
                have hfz13_15 := blk_frozen BK116.out 15
                have hfz13_16 := blk_frozen BK116.out 16
                have hcz14_0 : w5.cell? ⟨gb117, 0, none⟩ = some (.int .i64 a1_0) := (blk_cell BK117.out 0).trans rfl
                have hcz14_1 : w5.cell? ⟨gb117, 1, none⟩ = some (.int .i64 a1_1) := (blk_cell BK117.out 1).trans rfl
                have hcz14_2 : w5.cell? ⟨gb117, 2, none⟩ = some (.int .i64 a1_2) := (blk_cell BK117.out 2).trans rfl
                have hcz14_3 : w5.cell? ⟨gb117, 3, none⟩ = some (.int .i64 a1_3) := (blk_cell BK117.out 3).trans rfl
                have hcz14_4 : w5.cell? ⟨gb117, 4, none⟩ = some (.int .i64 a1_4) := (blk_cell BK117.out 4).trans rfl
                have hcz14_5 : w5.cell? ⟨gb117, 5, none⟩ = some (.int .i64 a1_5) := (blk_cell BK117.out 5).trans rfl
                have hcz14_6 : w5.cell? ⟨gb117, 6, none⟩ = some (.bool a1_6) := (blk_cell BK117.out 6).trans rfl
                have hcz14_7 : w5.cell? ⟨gb117, 7, none⟩ = some (.string a1_7) := (blk_cell BK117.out 7).trans rfl
                have hcz14_8 : w5.cell? ⟨gb117, 8, none⟩ = some (.int .i64 a1_8) := (blk_cell BK117.out 8).trans rfl
                have hcz14_9 : w5.cell? ⟨gb117, 9, none⟩ = some (.int .i64 a1_9) := (blk_cell BK117.out 9).trans rfl
                have hcz14_10 : w5.cell? ⟨gb117, 10, none⟩ = some (.int .i64 a1_10) := (blk_cell BK117.out 10).trans rfl
                have hcz14_11 : w5.cell? ⟨gb117, 11, none⟩ = some (.bool a1_11) := (blk_cell BK117.out 11).trans rfl
                have hcz14_12 : w5.cell? ⟨gb117, 12, none⟩ = some (.slice A1_12 l1_12.length c1_12) := (blk_cell BK117.out 12).trans rfl
                have hcz14_13 : w5.cell? ⟨gb117, 13, none⟩ = some (.slice A1_13 l1_13.length c1_13) := (blk_cell BK117.out 13).trans rfl
                have hcz14_14 : w5.cell? ⟨gb117, 14, none⟩ = some (.slice A1_14 l1_14.length c1_14) := (blk_cell BK117.out 14).trans rfl
                have hcz14_15 : w5.cell? ⟨gb117, 15, none⟩ = some (.int .i64 a1_15) := (blk_cell BK117.out 15).trans rfl
                have hcz14_16 : w5.cell? ⟨gb117, 16, none⟩ = some (.int .i64 a1_16) := (blk_cell BK117.out 16).trans rfl
                have hfz14_0 := blk_frozen BK117.out 0
                have hfz14_1 := blk_frozen BK117.out 1
                have hfz14_2 := blk_frozen BK117.out 2
                have hfz14_3 := blk_frozen BK117.out 3
                have hfz14_4 := blk_frozen BK117.out 4
                have hfz14_5 := blk_frozen BK117.out 5
                have hfz14_6 := blk_frozen BK117.out 6
                have hfz14_7 := blk_frozen BK117.out 7
                have hfz14_8 := blk_frozen BK117.out 8
                have hfz14_9 := blk_frozen BK117.out 9
                have hfz14_10 := blk_frozen BK117.out 10
                have hfz14_11 := blk_frozen BK117.out 11
                have hfz14_12 := blk_frozen BK117.out 12
                have hfz14_13 := blk_frozen BK117.out 13
                have hfz14_14 := blk_frozen BK117.out 14
                have hfz14_15 := blk_frozen BK117.out 15
                have hfz14_16 := blk_frozen BK117.out 16
                go_wp2
                go_meet
                case rel => exact ⟨_, ((a0_6 != a1_6)), (by first | rfl | (simp; done) | (simp [*]; done)), H', ⟨by first | omega | exact Nat.le_refl _⟩, ⟨by (with_reducible repeat (first | refine blk_drewN ?_ _ | refine blk_drew ?_ | refine blk_alloc ?_ _)); exact BK116.out⟩, ⟨by (with_reducible repeat (first | refine blk_drewN ?_ _ | refine blk_drew ?_ | refine blk_alloc ?_ _)); exact BK117.out⟩, ⟨by repeat (first | (with_reducible first | exact HB.out | apply below_alloc | apply pw_below_drewN | apply below_drew1 | refine below_set ?_ GE116.out | refine below_set ?_ GE117.out) | exact HB.out)⟩⟩
              · rw [if_neg c11] at H
                have c11b0 : (a0_5 == a1_5) = false := beq_eq_false_iff_ne.mpr c11
                have c11b1 : (a0_5 != a1_5) = true := bne_iff_ne.mpr c11
                have H' := Aside0.mk H
                clear H
                have hnb15 := NB116_117.out
                have hnc15 := NB117_116.out
                have hcz16_0 : w5.cell? ⟨gb116, 0, none⟩ = some (.int .i64 a0_0) := (blk_cell BK116.out 0).trans rfl
                have hcz16_1 : w5.cell? ⟨gb116, 1, none⟩ = some (.int .i64 a0_1) := (blk_cell BK116.out 1).trans rfl
                have hcz16_2 : w5.cell? ⟨gb116, 2, none⟩ = some (.int .i64 a0_2) := (blk_cell BK116.out 2).trans rfl
                have hcz16_3 : w5.cell? ⟨gb116, 3, none⟩ = some (.int .i64 a0_3) := (blk_cell BK116.out 3).trans rfl
                have hcz16_4 : w5.cell? ⟨gb116, 4, none⟩ = some (.int .i64 a0_4) := (blk_cell BK116.out 4).trans rfl
                have hcz16_5 : w5.cell? ⟨gb116, 5, none⟩ = some (.int .i64 a0_5) := (blk_cell BK116.out 5).trans rfl
                have hcz16_6 : w5.cell? ⟨gb116, 6, none⟩ = some (.bool a0_6) := (blk_cell BK116.out 6).trans rfl
                have hcz16_7 : w5.cell? ⟨gb116, 7, none⟩ = some (.string a0_7) := (blk_cell BK116.out 7).trans rfl
                have hcz16_8 : w5.cell? ⟨gb116, 8, none⟩ = some (.int .i64 a0_8) := (blk_cell BK116.out 8).trans rfl
                have hcz16_9 : w5.cell? ⟨gb116, 9, none⟩ = some (.int .i64 a0_9) := (blk_cell BK116.out 9).trans rfl
                have hcz16_10 : w5.cell? ⟨gb116, 10, none⟩ = some (.int .i64 a0_10) := (blk_cell BK116.out 10).trans rfl
                have hcz16_11 : w5.cell? ⟨gb116, 11, none⟩ = some (.bool a0_11) := (blk_cell BK116.out 11).trans rfl
                have hcz16_12 : w5.cell? ⟨gb116, 12, none⟩ = some (.slice A0_12 l0_12.length c0_12) := (blk_cell BK116.out 12).trans rfl
                have hcz16_13 : w5.cell? ⟨gb116, 13, none⟩ = some (.slice A0_13 l0_13.length c0_13) := (blk_cell BK116.out 13).trans rfl
                have hcz16_14 : w5.cell? ⟨gb116, 14, none⟩ = some (.slice A0_14 l0_14.length c0_14) := (blk_cell BK116.out 14).trans rfl
                have hcz16_15 : w5.cell? ⟨gb116, 15, none⟩ = some (.int .i64 a0_15) := (blk_cell BK116.out 15).trans rfl
                have hcz16_16 : w5.cell? ⟨gb116, 16, none⟩ = some (.int .i64 a0_16) := (blk_cell BK116.out 16).trans rfl
                have hfz16_0 := blk_frozen BK116.out 0
                have hfz16_1 := blk_frozen BK116.out 1
                have hfz16_2 := blk_frozen BK116.out 2
                have hfz16_3 := blk_frozen BK116.out 3
                have hfz16_4 := blk_frozen BK116.out 4
                have hfz16_5 := blk_frozen BK116.out 5
                have hfz16_6 := blk_frozen BK116.out 6
                have hfz16_7 := blk_frozen BK116.out 7
                have hfz16_8 := blk_frozen BK116.out 8
                have hfz16_9 := blk_frozen BK116.out 9
                have hfz16_10 := blk_frozen BK116.out 10
                have hfz16_11 := blk_frozen BK116.out 11
                have hfz16_12 := blk_frozen BK116.out 12
                have hfz16_13 := blk_frozen BK116.out 13
                have hfz16_14 := blk_frozen BK116.out 14
                have hfz16_15 := blk_frozen BK116.out 15
                have hfz16_16 := blk_frozen BK116.out 16
                have hcz17_0 : w5.cell? ⟨gb117, 0, none⟩ = some (.int .i64 a1_0) := (blk_cell BK117.out 0).trans rfl
                have hcz17_1 : w5.cell? ⟨gb117, 1, none⟩ = some (.int .i64 a1_1) := (blk_cell BK117.out 1).trans rfl
                have hcz17_2 : w5.cell? ⟨gb117, 2, none⟩ = some (.int .i64 a1_2) := (blk_cell BK117.out 2).trans rfl
                have hcz17_3 : w5.cell? ⟨gb117, 3, none⟩ = some (.int .i64 a1_3) := (blk_cell BK117.out 3).trans rfl
                have hcz17_4 : w5.cell? ⟨gb117, 4, none⟩ = some (.int .i64 a1_4) := (blk_cell BK117.out 4).trans rfl
                have hcz17_5 : w5.cell? ⟨gb117, 5, none⟩ = some (.int .i64 a1_5) := (blk_cell BK117.out 5).trans rfl
                have hcz17_6 : w5.cell? ⟨gb117, 6, none⟩ = some (.bool a1_6) := (blk_cell BK117.out 6).trans rfl
                have hcz17_7 : w5.cell? ⟨gb117, 7, none⟩ = some (.string a1_7) := (blk_cell BK117.out 7).trans rfl
                have hcz17_8 : w5.cell? ⟨gb117, 8, none⟩ = some (.int .i64 a1_8) := (blk_cell BK117.out 8).trans rfl
                have hcz17_9 : w5.cell? ⟨gb117, 9, none⟩ = some (.int .i64 a1_9) := (blk_cell BK117.out 9).trans rfl
                have hcz17_10 : w5.cell? ⟨gb117, 10, none⟩ = some (.int .i64 a1_10) := (blk_cell BK117.out 10).trans rfl
                have hcz17_11 : w5.cell? ⟨gb117, 11, none⟩ = some (.bool a1_11) := (blk_cell BK117.out 11).trans rfl
                have hcz17_12 : w5.cell? ⟨gb117, 12, none⟩ = some (.slice A1_12 l1_12.length c1_12) := (blk_cell BK117.out 12).trans rfl
                have hcz17_13 : w5.cell? ⟨gb117, 13, none⟩ = some (.slice A1_13 l1_13.length c1_13) := (blk_cell BK117.out 13).trans rfl
                have hcz17_14 : w5.cell? ⟨gb117, 14, none⟩ = some (.slice A1_14 l1_14.length c1_14) := (blk_cell BK117.out 14).trans rfl
                have hcz17_15 : w5.cell? ⟨gb117, 15, none⟩ = some (.int .i64 a1_15) := (blk_cell BK117.out 15).trans rfl
                have hcz17_16 : w5.cell? ⟨gb117, 16, none⟩ = some (.int .i64 a1_16) := (blk_cell BK117.out 16).trans rfl
                have hfz17_0 := blk_frozen BK117.out 0
                have hfz17_1 := blk_frozen BK117.out 1
                have hfz17_2 := blk_frozen BK117.out 2
                have hfz17_3 := blk_frozen BK117.out 3
                have hfz17_4 := blk_frozen BK117.out 4
                have hfz17_5 := blk_frozen BK117.out 5
                have hfz17_6 := blk_frozen BK117.out 6
                have hfz17_7 := blk_frozen BK117.out 7
                have hfz17_8 := blk_frozen BK117.out 8
                have hfz17_9 := blk_frozen BK117.out 9
                have hfz17_10 := blk_frozen BK117.out 10
                have hfz17_11 := blk_frozen BK117.out 11
                have hfz17_12 := blk_frozen BK117.out 12
                have hfz17_13 := blk_frozen BK117.out 13
                have hfz17_14 := blk_frozen BK117.out 14
                have hfz17_15 := blk_frozen BK117.out 15
                have hfz17_16 := blk_frozen BK117.out 16
                go_wp2
                go_meet
                case rel => exact ⟨_, (true), (by first | rfl | (simp; done) | (simp [*]; done)), H', ⟨by first | omega | exact Nat.le_refl _⟩, ⟨by (with_reducible repeat (first | refine blk_drewN ?_ _ | refine blk_drew ?_ | refine blk_alloc ?_ _)); exact BK116.out⟩, ⟨by (with_reducible repeat (first | refine blk_drewN ?_ _ | refine blk_drew ?_ | refine blk_alloc ?_ _)); exact BK117.out⟩, ⟨by repeat (first | (with_reducible first | exact HB.out | apply below_alloc | apply pw_below_drewN | apply below_drew1 | refine below_set ?_ GE116.out | refine below_set ?_ GE117.out) | exact HB.out)⟩⟩
            · rw [if_neg c10] at H
              have c10b0 : (a0_4 == a1_4) = false := beq_eq_false_iff_ne.mpr c10
              have c10b1 : (a0_4 != a1_4) = true := bne_iff_ne.mpr c10
              have H' := Aside0.mk H
              clear H
              have hnb18 := NB116_117.out
              have hnc18 := NB117_116.out
              have hcz19_0 : w5.cell? ⟨gb116, 0, none⟩ = some (.int .i64 a0_0) := (blk_cell BK116.out 0).trans rfl
              have hcz19_1 : w5.cell? ⟨gb116, 1, none⟩ = some (.int .i64 a0_1) := (blk_cell BK116.out 1).trans rfl
              have hcz19_2 : w5.cell? ⟨gb116, 2, none⟩ = some (.int .i64 a0_2) := (blk_cell BK116.out 2).trans rfl
              have hcz19_3 : w5.cell? ⟨gb116, 3, none⟩ = some (.int .i64 a0_3) := (blk_cell BK116.out 3).trans rfl
              have hcz19_4 : w5.cell? ⟨gb116, 4, none⟩ = some (.int .i64 a0_4) := (blk_cell BK116.out 4).trans rfl
              have hcz19_5 : w5.cell? ⟨gb116, 5, none⟩ = some (.int .i64 a0_5) := (blk_cell BK116.out 5).trans rfl
              have hcz19_6 : w5.cell? ⟨gb116, 6, none⟩ = some (.bool a0_6) := (blk_cell BK116.out 6).trans rfl
              have hcz19_7 : w5.cell? ⟨gb116, 7, none⟩ = some (.string a0_7) := (blk_cell BK116.out 7).trans rfl
              have hcz19_8 : w5.cell? ⟨gb116, 8, none⟩ = some (.int .i64 a0_8) := (blk_cell BK116.out 8).trans rfl
              have hcz19_9 : w5.cell? ⟨gb116, 9, none⟩ = some (.int .i64 a0_9) := (blk_cell BK116.out 9).trans rfl
              have hcz19_10 : w5.cell? ⟨gb116, 10, none⟩ = some (.int .i64 a0_10) := (blk_cell BK116.out 10).trans rfl
              have hcz19_11 : w5.cell? ⟨gb116, 11, none⟩ = some (.bool a0_11) := (blk_cell BK116.out 11).trans rfl
              have hcz19_12 : w5.cell? ⟨gb116, 12, none⟩ = some (.slice A0_12 l0_12.length c0_12) := (blk_cell BK116.out 12).trans rfl
              have hcz19_13 : w5.cell? ⟨gb116, 13, none⟩ = some (.slice A0_13 l0_13.length c0_13) := (blk_cell BK116.out 13).trans rfl
              have hcz19_14 : w5.cell? ⟨gb116, 14, none⟩ = some (.slice A0_14 l0_14.length c0_14) := (blk_cell BK116.out 14).trans rfl
              have hcz19_15 : w5.cell? ⟨gb116, 15, none⟩ = some (.int .i64 a0_15) := (blk_cell BK116.out 15).trans rfl
              have hcz19_16 : w5.cell? ⟨gb116, 16, none⟩ = some (.int .i64 a0_16) := (blk_cell BK116.out 16).trans rfl
              have hfz19_0 := blk_frozen BK116.out 0
              have hfz19_1 := blk_frozen BK116.out 1
              have hfz19_2 := blk_frozen BK116.out 2
              have hfz19_3 := blk_frozen BK116.out 3
              have hfz19_4 := blk_frozen BK116.out 4
              have hfz19_5 := blk_frozen BK116.out 5
              have hfz19_6 := blk_frozen BK116.out 6
              have hfz19_7 := blk_frozen BK116.out 7
              have hfz19_8 := blk_frozen BK116.out 8
              have hfz19_9 := blk_frozen BK116.out 9
              have hfz19_10 := blk_frozen BK116.out 10
              have hfz19_11 := blk_frozen BK116.out 11
              have hfz19_12 := blk_frozen BK116.out 12
              have hfz19_13 := blk_frozen BK116.out 13
              have hfz19_14 := blk_frozen BK116.out 14
              have hfz19_15 := blk_frozen BK116.out 15
              have hfz19_16 := blk_frozen BK116.out 16
              have hcz20_0 : w5.cell? ⟨gb117, 0, none⟩ = some (.int .i64 a1_0) := (blk_cell BK117.out 0).trans rfl
              have hcz20_1 : w5.cell? ⟨gb117, 1, none⟩ = some (.int .i64 a1_1) := (blk_cell BK117.out 1).trans rfl
              have hcz20_2 : w5.cell? ⟨gb117, 2, none⟩ = some (.int .i64 a1_2) := (blk_cell BK117.out 2).trans rfl
              have hcz20_3 : w5.cell? ⟨gb117, 3, none⟩ = some (.int .i64 a1_3) := (blk_cell BK117.out 3).trans rfl
              have hcz20_4 : w5.cell? ⟨gb117, 4, none⟩ = some (.int .i64 a1_4) := (blk_cell BK117.out 4).trans rfl
              have hcz20_5 : w5.cell? ⟨gb117, 5, none⟩ = some (.int .i64 a1_5) := (blk_cell BK117.out 5).trans rfl
              have hcz20_6 : w5.cell? ⟨gb117, 6, none⟩ = some (.bool a1_6) := (blk_cell BK117.out 6).trans rfl
              have hcz20_7 : w5.cell? ⟨gb117, 7, none⟩ = some (.string a1_7) := (blk_cell BK117.out 7).trans rfl
              have hcz20_8 : w5.cell? ⟨gb117, 8, none⟩ = some (.int .i64 a1_8) := (blk_cell BK117.out 8).trans rfl
              have hcz20_9 : w5.cell? ⟨gb117, 9, none⟩ = some (.int .i64 a1_9) := (blk_cell BK117.out 9).trans rfl
              have hcz20_10 : w5.cell? ⟨gb117, 10, none⟩ = some (.int .i64 a1_10) := (blk_cell BK117.out 10).trans rfl
              have hcz20_11 : w5.cell? ⟨gb117, 11, none⟩ = some (.bool a1_11) := (blk_cell BK117.out 11).trans rfl
              have hcz20_12 : w5.cell? ⟨gb117, 12, none⟩ = some (.slice A1_12 l1_12.length c1_12) := (blk_cell BK117.out 12).trans rfl
              have hcz20_13 : w5.cell? ⟨gb117, 13, none⟩ = some (.slice A1_13 l1_13.length c1_13) := (blk_cell BK117.out 13).trans rfl
              have hcz20_14 : w5.cell? ⟨gb117, 14, none⟩ = some (.slice A1_14 l1_14.length c1_14) := (blk_cell BK117.out 14).trans rfl
              have hcz20_15 : w5.cell? ⟨gb117, 15, none⟩ = some (.int .i64 a1_15) := (blk_cell BK117.out 15).trans rfl
              have hcz20_16 : w5.cell? ⟨gb117, 16, none⟩ = some (.int .i64 a1_16) := (blk_cell BK117.out 16).trans rfl
              have hfz20_0 := blk_frozen BK117.out 0
              have hfz20_1 := blk_frozen BK117.out 1
              have hfz20_2 := blk_frozen BK117.out 2
              have hfz20_3 := blk_frozen BK117.out 3
              have hfz20_4 := blk_frozen BK117.out 4
              have hfz20_5 := blk_frozen BK117.out 5
              have hfz20_6 := blk_frozen BK117.out 6
              have hfz20_7 := blk_frozen BK117.out 7
              have hfz20_8 := blk_frozen BK117.out 8
              have hfz20_9 := blk_frozen BK117.out 9
              have hfz20_10 := blk_frozen BK117.out 10
              have hfz20_11 := blk_frozen BK117.out 11
              have hfz20_12 := blk_frozen BK117.out 12
              have hfz20_13 := blk_frozen BK117.out 13
              have hfz20_14 := blk_frozen BK117.out 14
              have hfz20_15 := blk_frozen BK117.out 15
              have hfz20_16 := blk_frozen BK117.out 16
              go_wp2
              go_meet
              case rel => exact ⟨_, (true), (by first | rfl | (simp; done) | (simp [*]; done)), H', ⟨by first | omega | exact Nat.le_refl _⟩, ⟨by (with_reducible repeat (first | refine blk_drewN ?_ _ | refine blk_drew ?_ | refine blk_alloc ?_ _)); exact BK116.out⟩, ⟨by (with_reducible repeat (first | refine blk_drewN ?_ _ | refine blk_drew ?_ | refine blk_alloc ?_ _)); exact BK117.out⟩, ⟨by repeat (first | (with_reducible first | exact HB.out | apply below_alloc | apply pw_below_drewN | apply below_drew1 | refine below_set ?_ GE116.out | refine below_set ?_ GE117.out) | exact HB.out)⟩⟩
          · rw [if_neg c9] at H
            have c9b0 : (a0_3 == a1_3) = false := beq_eq_false_iff_ne.mpr c9
            have c9b1 : (a0_3 != a1_3) = true := bne_iff_ne.mpr c9
            have H' := Aside0.mk H
            clear H
            have hnb21 := NB116_117.out
            have hnc21 := NB117_116.out
            have hcz22_0 : w5.cell? ⟨gb116, 0, none⟩ = some (.int .i64 a0_0) := (blk_cell BK116.out 0).trans rfl
            have hcz22_1 : w5.cell? ⟨gb116, 1, none⟩ = some (.int .i64 a0_1) := (blk_cell BK116.out 1).trans rfl
            have hcz22_2 : w5.cell? ⟨gb116, 2, none⟩ = some (.int .i64 a0_2) := (blk_cell BK116.out 2).trans rfl
            have hcz22_3 : w5.cell? ⟨gb116, 3, none⟩ = some (.int .i64 a0_3) := (blk_cell BK116.out 3).trans rfl
            have hcz22_4 : w5.cell? ⟨gb116, 4, none⟩ = some (.int .i64 a0_4) := (blk_cell BK116.out 4).trans rfl
            have hcz22_5 : w5.cell? ⟨gb116, 5, none⟩ = some (.int .i64 a0_5) := (blk_cell BK116.out 5).trans rfl
            have hcz22_6 : w5.cell? ⟨gb116, 6, none⟩ = some (.bool a0_6) := (blk_cell BK116.out 6).trans rfl
            have hcz22_7 : w5.cell? ⟨gb116, 7, none⟩ = some (.string a0_7) := (blk_cell BK116.out 7).trans rfl
            have hcz22_8 : w5.cell? ⟨gb116, 8, none⟩ = some (.int .i64 a0_8) := (blk_cell BK116.out 8).trans rfl
            have hcz22_9 : w5.cell? ⟨gb116, 9, none⟩ = some (.int .i64 a0_9) := (blk_cell BK116.out 9).trans rfl
            have hcz22_10 : w5.cell? ⟨gb116, 10, none⟩ = some (.int .i64 a0_10) := (blk_cell BK116.out 10).trans rfl
            have hcz22_11 : w5.cell? ⟨gb116, 11, none⟩ = some (.bool a0_11) := (blk_cell BK116.out 11).trans rfl
            have hcz22_12 : w5.cell? ⟨gb116, 12, none⟩ = some (.slice A0_12 l0_12.length c0_12) := (blk_cell BK116.out 12).trans rfl
            have hcz22_13 : w5.cell? ⟨gb116, 13, none⟩ = some (.slice A0_13 l0_13.length c0_13) := (blk_cell BK116.out 13).trans rfl
            have hcz22_14 : w5.cell? ⟨gb116, 14, none⟩ = some (.slice A0_14 l0_14.length c0_14) := (blk_cell BK116.out 14).trans rfl
            have hcz22_15 : w5.cell? ⟨gb116, 15, none⟩ = some (.int .i64 a0_15) := (blk_cell BK116.out 15).trans rfl
            have hcz22_16 : w5.cell? ⟨gb116, 16, none⟩ = some (.int .i64 a0_16) := (blk_cell BK116.out 16).trans rfl
            have hfz22_0 := blk_frozen BK116.out 0
            have hfz22_1 := blk_frozen BK116.out 1
            have hfz22_2 := blk_frozen BK116.out 2
            have hfz22_3 := blk_frozen BK116.out 3
            have hfz22_4 := blk_frozen BK116.out 4
            have hfz22_5 := blk_frozen BK116.out 5
            have hfz22_6 := blk_frozen BK116.out 6
            have hfz22_7 := blk_frozen BK116.out 7
            have hfz22_8 := blk_frozen BK116.out 8
            have hfz22_9 := blk_frozen BK116.out 9
            have hfz22_10 := blk_frozen BK116.out 10
            have hfz22_11 := blk_frozen BK116.out 11
            have hfz22_12 := blk_frozen BK116.out 12
            have hfz22_13 := blk_frozen BK116.out 13
            have hfz22_14 := blk_frozen BK116.out 14
            have hfz22_15 := blk_frozen BK116.out 15
            have hfz22_16 := blk_frozen BK116.out 16
            have hcz23_0 : w5.cell? ⟨gb117, 0, none⟩ = some (.int .i64 a1_0) := (blk_cell BK117.out 0).trans rfl
            have hcz23_1 : w5.cell? ⟨gb117, 1, none⟩ = some (.int .i64 a1_1) := (blk_cell BK117.out 1).trans rfl
            have hcz23_2 : w5.cell? ⟨gb117, 2, none⟩ = some (.int .i64 a1_2) := (blk_cell BK117.out 2).trans rfl
            have hcz23_3 : w5.cell? ⟨gb117, 3, none⟩ = some (.int .i64 a1_3) := (blk_cell BK117.out 3).trans rfl
            have hcz23_4 : w5.cell? ⟨gb117, 4, none⟩ = some (.int .i64 a1_4) := (blk_cell BK117.out 4).trans rfl
            have hcz23_5 : w5.cell? ⟨gb117, 5, none⟩ = some (.int .i64 a1_5) := (blk_cell BK117.out 5).trans rfl
            have hcz23_6 : w5.cell? ⟨gb117, 6, none⟩ = some (.bool a1_6) := (blk_cell BK117.out 6).trans rfl
            have hcz23_7 : w5.cell? ⟨gb117, 7, none⟩ = some (.string a1_7) := (blk_cell BK117.out 7).trans rfl
            have hcz23_8 : w5.cell? ⟨gb117, 8, none⟩ = some (.int .i64 a1_8) := (blk_cell BK117.out 8).trans rfl
            have hcz23_9 : w5.cell? ⟨gb117, 9, none⟩ = some (.int .i64 a1_9) := (blk_cell BK117.out 9).trans rfl
            have hcz23_10 : w5.cell? ⟨gb117, 10, none⟩ = some (.int .i64 a1_10) := (blk_cell BK117.out 10).trans rfl
            have hcz23_11 : w5.cell? ⟨gb117, 11, none⟩ = some (.bool a1_11) := (blk_cell BK117.out 11).trans rfl
            have hcz23_12 : w5.cell? ⟨gb117, 12, none⟩ = some (.slice A1_12 l1_12.length c1_12) := (blk_cell BK117.out 12).trans rfl
            have hcz23_13 : w5.cell? ⟨gb117, 13, none⟩ = some (.slice A1_13 l1_13.length c1_13) := (blk_cell BK117.out 13).trans rfl
            have hcz23_14 : w5.cell? ⟨gb117, 14, none⟩ = some (.slice A1_14 l1_14.length c1_14) := (blk_cell BK117.out 14).trans rfl
            have hcz23_15 : w5.cell? ⟨gb117, 15, none⟩ = some (.int .i64 a1_15) := (blk_cell BK117.out 15).trans rfl
            have hcz23_16 : w5.cell? ⟨gb117, 16, none⟩ = some (.int .i64 a1_16) := (blk_cell BK117.out 16).trans rfl
            have hfz23_0 := blk_frozen BK117.out 0
            have hfz23_1 := blk_frozen BK117.out 1
            have hfz23_2 := blk_frozen BK117.out 2
            have hfz23_3 := blk_frozen BK117.out 3
            have hfz23_4 := blk_frozen BK117.out 4
            have hfz23_5 := blk_frozen BK117.out 5
            have hfz23_6 := blk_frozen BK117.out 6
            have hfz23_7 := blk_frozen BK117.out 7
            have hfz23_8 := blk_frozen BK117.out 8
            have hfz23_9 := blk_frozen BK117.out 9
            have hfz23_10 := blk_frozen BK117.out 10
            have hfz23_11 := blk_frozen BK117.out 11
            have hfz23_12 := blk_frozen BK117.out 12
            have hfz23_13 := blk_frozen BK117.out 13
            have hfz23_14 := blk_frozen BK117.out 14
            have hfz23_15 := blk_frozen BK117.out 15
            have hfz23_16 := blk_frozen BK117.out 16
            go_wp2
            go_meet
            case rel => exact ⟨_, (true), (by first | rfl | (simp; done) | (simp [*]; done)), H', ⟨by first | omega | exact Nat.le_refl _⟩, ⟨by (with_reducible repeat (first | refine blk_drewN ?_ _ | refine blk_drew ?_ | refine blk_alloc ?_ _)); exact BK116.out⟩, ⟨by (with_reducible repeat (first | refine blk_drewN ?_ _ | refine blk_drew ?_ | refine blk_alloc ?_ _)); exact BK117.out⟩, ⟨by repeat (first | (with_reducible first | exact HB.out | apply below_alloc | apply pw_below_drewN | apply below_drew1 | refine below_set ?_ GE116.out | refine below_set ?_ GE117.out) | exact HB.out)⟩⟩
        · rw [if_neg c8] at H
          have c8b0 : (a0_2 == a1_2) = false := beq_eq_false_iff_ne.mpr c8
          have c8b1 : (a0_2 != a1_2) = true := bne_iff_ne.mpr c8
          have H' := Aside0.mk H
          clear H
          have hnb24 := NB116_117.out
          have hnc24 := NB117_116.out
          have hcz25_0 : w5.cell? ⟨gb116, 0, none⟩ = some (.int .i64 a0_0) := (blk_cell BK116.out 0).trans rfl
          have hcz25_1 : w5.cell? ⟨gb116, 1, none⟩ = some (.int .i64 a0_1) := (blk_cell BK116.out 1).trans rfl
          have hcz25_2 : w5.cell? ⟨gb116, 2, none⟩ = some (.int .i64 a0_2) := (blk_cell BK116.out 2).trans rfl
          have hcz25_3 : w5.cell? ⟨gb116, 3, none⟩ = some (.int .i64 a0_3) := (blk_cell BK116.out 3).trans rfl
          have hcz25_4 : w5.cell? ⟨gb116, 4, none⟩ = some (.int .i64 a0_4) := (blk_cell BK116.out 4).trans rfl
          have hcz25_5 : w5.cell? ⟨gb116, 5, none⟩ = some (.int .i64 a0_5) := (blk_cell BK116.out 5).trans rfl
          have hcz25_6 : w5.cell? ⟨gb116, 6, none⟩ = some (.bool a0_6) := (blk_cell BK116.out 6).trans rfl
          have hcz25_7 : w5.cell? ⟨gb116, 7, none⟩ = some (.string a0_7) := (blk_cell BK116.out 7).trans rfl
          have hcz25_8 : w5.cell? ⟨gb116, 8, none⟩ = some (.int .i64 a0_8) := (blk_cell BK116.out 8).trans rfl
          have hcz25_9 : w5.cell? ⟨gb116, 9, none⟩ = some (.int .i64 a0_9) := (blk_cell BK116.out 9).trans rfl
          have hcz25_10 : w5.cell? ⟨gb116, 10, none⟩ = some (.int .i64 a0_10) := (blk_cell BK116.out 10).trans rfl
          have hcz25_11 : w5.cell? ⟨gb116, 11, none⟩ = some (.bool a0_11) := (blk_cell BK116.out 11).trans rfl
          have hcz25_12 : w5.cell? ⟨gb116, 12, none⟩ = some (.slice A0_12 l0_12.length c0_12) := (blk_cell BK116.out 12).trans rfl
          have hcz25_13 : w5.cell? ⟨gb116, 13, none⟩ = some (.slice A0_13 l0_13.length c0_13) := (blk_cell BK116.out 13).trans rfl
          have hcz25_14 : w5.cell? ⟨gb116, 14, none⟩ = some (.slice A0_14 l0_14.length c0_14) := (blk_cell BK116.out 14).trans rfl
          have hcz25_15 : w5.cell? ⟨gb116, 15, none⟩ = some (.int .i64 a0_15) := (blk_cell BK116.out 15).trans rfl
          have hcz25_16 : w5.cell? ⟨gb116, 16, none⟩ = some (.int .i64 a0_16) := (blk_cell BK116.out 16).trans rfl
          have hfz25_0 := blk_frozen BK116.out 0
          have hfz25_1 := blk_frozen BK116.out 1
          have hfz25_2 := blk_frozen BK116.out 2
          have hfz25_3 := blk_frozen BK116.out 3
          have hfz25_4 := blk_frozen BK116.out 4
          have hfz25_5 := blk_frozen BK116.out 5
          have hfz25_6 := blk_frozen BK116.out 6
          have hfz25_7 := blk_frozen BK116.out 7
          have hfz25_8 := blk_frozen BK116.out 8
          have hfz25_9 := blk_frozen BK116.out 9
          have hfz25_10 := blk_frozen BK116.out 10
          have hfz25_11 := blk_frozen BK116.out 11
          have hfz25_12 := blk_frozen BK116.out 12
          have hfz25_13 := blk_frozen BK116.out 13
          have hfz25_14 := blk_frozen BK116.out 14
          have hfz25_15 := blk_frozen BK116.out 15
          have hfz25_16 := blk_frozen BK116.out 16
          have hcz26_0 : w5.cell? ⟨gb117, 0, none⟩ = some (.int .i64 a1_0) := (blk_cell BK117.out 0).trans rfl
          have hcz26_1 : w5.cell? ⟨gb117, 1, none⟩ = some (.int .i64 a1_1) := (blk_cell BK117.out 1).trans rfl
          have hcz26_2 : w5.cell? ⟨gb117, 2, none⟩ = some (.int .i64 a1_2) := (blk_cell BK117.out 2).trans rfl
          have hcz26_3 : w5.cell? ⟨gb117, 3, none⟩ = some (.int .i64 a1_3) := (blk_cell BK117.out 3).trans rfl
          have hcz26_4 : w5.cell? ⟨gb117, 4, none⟩ = some (.int .i64 a1_4) := (blk_cell BK117.out 4).trans rfl
          have hcz26_5 : w5.cell? ⟨gb117, 5, none⟩ = some (.int .i64 a1_5) := (blk_cell BK117.out 5).trans rfl
          have hcz26_6 : w5.cell? ⟨gb117, 6, none⟩ = some (.bool a1_6) := (blk_cell BK117.out 6).trans rfl
          have hcz26_7 : w5.cell? ⟨gb117, 7, none⟩ = some (.string a1_7) := (blk_cell BK117.out 7).trans rfl
          have hcz26_8 : w5.cell? ⟨gb117, 8, none⟩ = some (.int .i64 a1_8) := (blk_cell BK117.out 8).trans rfl
          have hcz26_9 : w5.cell? ⟨gb117, 9, none⟩ = some (.int .i64 a1_9) := (blk_cell BK117.out 9).trans rfl
          have hcz26_10 : w5.cell? ⟨gb117, 10, none⟩ = some (.int .i64 a1_10) := (blk_cell BK117.out 10).trans rfl
          have hcz26_11 : w5.cell? ⟨gb117, 11, none⟩ = some (.bool a1_11) := (blk_cell BK117.out 11).trans rfl
          have hcz26_12 : w5.cell? ⟨gb117, 12, none⟩ = some (.slice A1_12 l1_12.length c1_12) := (blk_cell BK117.out 12).trans rfl
          have hcz26_13 : w5.cell? ⟨gb117, 13, none⟩ = some (.slice A1_13 l1_13.length c1_13) := (blk_cell BK117.out 13).trans rfl
          have hcz26_14 : w5.cell? ⟨gb117, 14, none⟩ = some (.slice A1_14 l1_14.length c1_14) := (blk_cell BK117.out 14).trans rfl
          have hcz26_15 : w5.cell? ⟨gb117, 15, none⟩ = some (.int .i64 a1_15) := (blk_cell BK117.out 15).trans rfl
          have hcz26_16 : w5.cell? ⟨gb117, 16, none⟩ = some (.int .i64 a1_16) := (blk_cell BK117.out 16).trans rfl
          have hfz26_0 := blk_frozen BK117.out 0
          have hfz26_1 := blk_frozen BK117.out 1
          have hfz26_2 := blk_frozen BK117.out 2
          have hfz26_3 := blk_frozen BK117.out 3
          have hfz26_4 := blk_frozen BK117.out 4
          have hfz26_5 := blk_frozen BK117.out 5
          have hfz26_6 := blk_frozen BK117.out 6
          have hfz26_7 := blk_frozen BK117.out 7
          have hfz26_8 := blk_frozen BK117.out 8
          have hfz26_9 := blk_frozen BK117.out 9
          have hfz26_10 := blk_frozen BK117.out 10
          have hfz26_11 := blk_frozen BK117.out 11
          have hfz26_12 := blk_frozen BK117.out 12
          have hfz26_13 := blk_frozen BK117.out 13
          have hfz26_14 := blk_frozen BK117.out 14
          have hfz26_15 := blk_frozen BK117.out 15
          have hfz26_16 := blk_frozen BK117.out 16
          go_wp2
          go_meet
          case rel => exact ⟨_, (true), (by first | rfl | (simp; done) | (simp [*]; done)), H', ⟨by first | omega | exact Nat.le_refl _⟩, ⟨by (with_reducible repeat (first | refine blk_drewN ?_ _ | refine blk_drew ?_ | refine blk_alloc ?_ _)); exact BK116.out⟩, ⟨by (with_reducible repeat (first | refine blk_drewN ?_ _ | refine blk_drew ?_ | refine blk_alloc ?_ _)); exact BK117.out⟩, ⟨by repeat (first | (with_reducible first | exact HB.out | apply below_alloc | apply pw_below_drewN | apply below_drew1 | refine below_set ?_ GE116.out | refine below_set ?_ GE117.out) | exact HB.out)⟩⟩
      · rw [if_neg c7] at H
        have c7b0 : (a0_1 == a1_1) = false := beq_eq_false_iff_ne.mpr c7
        have c7b1 : (a0_1 != a1_1) = true := bne_iff_ne.mpr c7
        have H' := Aside0.mk H
        clear H
        have hnb27 := NB116_117.out
        have hnc27 := NB117_116.out
        have hcz28_0 : w5.cell? ⟨gb116, 0, none⟩ = some (.int .i64 a0_0) := (blk_cell BK116.out 0).trans rfl
        have hcz28_1 : w5.cell? ⟨gb116, 1, none⟩ = some (.int .i64 a0_1) := (blk_cell BK116.out 1).trans rfl
        have hcz28_2 : w5.cell? ⟨gb116, 2, none⟩ = some (.int .i64 a0_2) := (blk_cell BK116.out 2).trans rfl
        have hcz28_3 : w5.cell? ⟨gb116, 3, none⟩ = some (.int .i64 a0_3) := (blk_cell BK116.out 3).trans rfl
        have hcz28_4 : w5.cell? ⟨gb116, 4, none⟩ = some (.int .i64 a0_4) := (blk_cell BK116.out 4).trans rfl
        have hcz28_5 : w5.cell? ⟨gb116, 5, none⟩ = some (.int .i64 a0_5) := (blk_cell BK116.out 5).trans rfl
        have hcz28_6 : w5.cell? ⟨gb116, 6, none⟩ = some (.bool a0_6) := (blk_cell BK116.out 6).trans rfl
        have hcz28_7 : w5.cell? ⟨gb116, 7, none⟩ = some (.string a0_7) := (blk_cell BK116.out 7).trans rfl
        have hcz28_8 : w5.cell? ⟨gb116, 8, none⟩ = some (.int .i64 a0_8) := (blk_cell BK116.out 8).trans rfl
        have hcz28_9 : w5.cell? ⟨gb116, 9, none⟩ = some (.int .i64 a0_9) := (blk_cell BK116.out 9).trans rfl
        have hcz28_10 : w5.cell? ⟨gb116, 10, none⟩ = some (.int .i64 a0_10) := (blk_cell BK116.out 10).trans rfl
        have hcz28_11 : w5.cell? ⟨gb116, 11, none⟩ = some (.bool a0_11) := (blk_cell BK116.out 11).trans rfl
        have hcz28_12 : w5.cell? ⟨gb116, 12, none⟩ = some (.slice A0_12 l0_12.length c0_12) := (blk_cell BK116.out 12).trans rfl
        have hcz28_13 : w5.cell? ⟨gb116, 13, none⟩ = some (.slice A0_13 l0_13.length c0_13) := (blk_cell BK116.out 13).trans rfl
        have hcz28_14 : w5.cell? ⟨gb116, 14, none⟩ = some (.slice A0_14 l0_14.length c0_14) := (blk_cell BK116.out 14).trans rfl
        have hcz28_15 : w5.cell? ⟨gb116, 15, none⟩ = some (.int .i64 a0_15) := (blk_cell BK116.out 15).trans rfl
        have hcz28_16 : w5.cell? ⟨gb116, 16, none⟩ = some (.int .i64 a0_16) := (blk_cell BK116.out 16).trans rfl
        have hfz28_0 := blk_frozen BK116.out 0
        have hfz28_1 := blk_frozen BK116.out 1
        have hfz28_2 := blk_frozen BK116.out 2
        have hfz28_3 := blk_frozen BK116.out 3
        have hfz28_4 := blk_frozen BK116.out 4
        have hfz28_5 := blk_frozen BK116.out 5
        have hfz28_6 := blk_frozen BK116.out 6
        have hfz28_7 := blk_frozen BK116.out 7
        have hfz28_8 := blk_frozen BK116.out 8
        have hfz28_9 := blk_frozen BK116.out 9
        have hfz28_10 := blk_frozen BK116.out 10
        have hfz28_11 := blk_frozen BK116.out 11
        have hfz28_12 := blk_frozen BK116.out 12
        have hfz28_13 := blk_frozen BK116.out 13
        have hfz28_14 := blk_frozen BK116.out 14
        have hfz28_15 := blk_frozen BK116.out 15
        have hfz28_16 := blk_frozen BK116.out 16
        have hcz29_0 : w5.cell? ⟨gb117, 0, none⟩ = some (.int .i64 a1_0) := (blk_cell BK117.out 0).trans rfl
        have hcz29_1 : w5.cell? ⟨gb117, 1, none⟩ = some (.int .i64 a1_1) := (blk_cell BK117.out 1).trans rfl
        have hcz29_2 : w5.cell? ⟨gb117, 2, none⟩ = some (.int .i64 a1_2) := (blk_cell BK117.out 2).trans rfl
        have hcz29_3 : w5.cell? ⟨gb117, 3, none⟩ = some (.int .i64 a1_3) := (blk_cell BK117.out 3).trans rfl
        have hcz29_4 : w5.cell? ⟨gb117, 4, none⟩ = some (.int .i64 a1_4) := (blk_cell BK117.out 4).trans rfl
        have hcz29_5 : w5.cell? ⟨gb117, 5, none⟩ = some (.int .i64 a1_5) := (blk_cell BK117.out 5).trans rfl
        have hcz29_6 : w5.cell? ⟨gb117, 6, none⟩ = some (.bool a1_6) := (blk_cell BK117.out 6).trans rfl
        have hcz29_7 : w5.cell? ⟨gb117, 7, none⟩ = some (.string a1_7) := (blk_cell BK117.out 7).trans rfl
        have hcz29_8 : w5.cell? ⟨gb117, 8, none⟩ = some (.int .i64 a1_8) := (blk_cell BK117.out 8).trans rfl
        have hcz29_9 : w5.cell? ⟨gb117, 9, none⟩ = some (.int .i64 a1_9) := (blk_cell BK117.out 9).trans rfl
        have hcz29_10 : w5.cell? ⟨gb117, 10, none⟩ = some (.int .i64 a1_10) := (blk_cell BK117.out 10).trans rfl
        have hcz29_11 : w5.cell? ⟨gb117, 11, none⟩ = some (.bool a1_11) := (blk_cell BK117.out 11).trans rfl
        have hcz29_12 : w5.cell? ⟨gb117, 12, none⟩ = some (.slice A1_12 l1_12.length c1_12) := (blk_cell BK117.out 12).trans rfl
        have hcz29_13 : w5.cell? ⟨gb117, 13, none⟩ = some (.slice A1_13 l1_13.length c1_13) := (blk_cell BK117.out 13).trans rfl
        have hcz29_14 : w5.cell? ⟨gb117, 14, none⟩ = some (.slice A1_14 l1_14.length c1_14) := (blk_cell BK117.out 14).trans rfl
        have hcz29_15 : w5.cell? ⟨gb117, 15, none⟩ = some (.int .i64 a1_15) := (blk_cell BK117.out 15).trans rfl
        have hcz29_16 : w5.cell? ⟨gb117, 16, none⟩ = some (.int .i64 a1_16) := (blk_cell BK117.out 16).trans rfl
        have hfz29_0 := blk_frozen BK117.out 0
        have hfz29_1 := blk_frozen BK117.out 1
        have hfz29_2 := blk_frozen BK117.out 2
        have hfz29_3 := blk_frozen BK117.out 3
        have hfz29_4 := blk_frozen BK117.out 4
        have hfz29_5 := blk_frozen BK117.out 5
        have hfz29_6 := blk_frozen BK117.out 6
        have hfz29_7 := blk_frozen BK117.out 7
        have hfz29_8 := blk_frozen BK117.out 8
        have hfz29_9 := blk_frozen BK117.out 9
        have hfz29_10 := blk_frozen BK117.out 10
        have hfz29_11 := blk_frozen BK117.out 11
        have hfz29_12 := blk_frozen BK117.out 12
        have hfz29_13 := blk_frozen BK117.out 13
        have hfz29_14 := blk_frozen BK117.out 14
        have hfz29_15 := blk_frozen BK117.out 15
        have hfz29_16 := blk_frozen BK117.out 16
        go_wp2
        go_meet
        case rel => exact ⟨_, (true), (by first | rfl | (simp; done) | (simp [*]; done)), H', ⟨by first | omega | exact Nat.le_refl _⟩, ⟨by (with_reducible repeat (first | refine blk_drewN ?_ _ | refine blk_drew ?_ | refine blk_alloc ?_ _)); exact BK116.out⟩, ⟨by (with_reducible repeat (first | refine blk_drewN ?_ _ | refine blk_drew ?_ | refine blk_alloc ?_ _)); exact BK117.out⟩, ⟨by repeat (first | (with_reducible first | exact HB.out | apply below_alloc | apply pw_below_drewN | apply below_drew1 | refine below_set ?_ GE116.out | refine below_set ?_ GE117.out) | exact HB.out)⟩⟩
    · rw [if_neg c6] at H
      have c6b0 : (a0_0 == a1_0) = false := beq_eq_false_iff_ne.mpr c6
      have c6b1 : (a0_0 != a1_0) = true := bne_iff_ne.mpr c6
      (first | rw [c6b0] | (simp only [i64_w, i32_w]; rw [c6b0]) | skip)
      have H' := Aside0.mk H
      clear H
      have hnb30 := NB116_117.out
      have hnc30 := NB117_116.out
      have hcz31_0 : w5.cell? ⟨gb116, 0, none⟩ = some (.int .i64 a0_0) := (blk_cell BK116.out 0).trans rfl
      have hcz31_1 : w5.cell? ⟨gb116, 1, none⟩ = some (.int .i64 a0_1) := (blk_cell BK116.out 1).trans rfl
      have hcz31_2 : w5.cell? ⟨gb116, 2, none⟩ = some (.int .i64 a0_2) := (blk_cell BK116.out 2).trans rfl
      have hcz31_3 : w5.cell? ⟨gb116, 3, none⟩ = some (.int .i64 a0_3) := (blk_cell BK116.out 3).trans rfl
      have hcz31_4 : w5.cell? ⟨gb116, 4, none⟩ = some (.int .i64 a0_4) := (blk_cell BK116.out 4).trans rfl
      have hcz31_5 : w5.cell? ⟨gb116, 5, none⟩ = some (.int .i64 a0_5) := (blk_cell BK116.out 5).trans rfl
      have hcz31_6 : w5.cell? ⟨gb116, 6, none⟩ = some (.bool a0_6) := (blk_cell BK116.out 6).trans rfl
      have hcz31_7 : w5.cell? ⟨gb116, 7, none⟩ = some (.string a0_7) := (blk_cell BK116.out 7).trans rfl
      have hcz31_8 : w5.cell? ⟨gb116, 8, none⟩ = some (.int .i64 a0_8) := (blk_cell BK116.out 8).trans rfl
      have hcz31_9 : w5.cell? ⟨gb116, 9, none⟩ = some (.int .i64 a0_9) := (blk_cell BK116.out 9).trans rfl
      have hcz31_10 : w5.cell? ⟨gb116, 10, none⟩ = some (.int .i64 a0_10) := (blk_cell BK116.out 10).trans rfl
      have hcz31_11 : w5.cell? ⟨gb116, 11, none⟩ = some (.bool a0_11) := (blk_cell BK116.out 11).trans rfl
      have hcz31_12 : w5.cell? ⟨gb116, 12, none⟩ = some (.slice A0_12 l0_12.length c0_12) := (blk_cell BK116.out 12).trans rfl
      have hcz31_13 : w5.cell? ⟨gb116, 13, none⟩ = some (.slice A0_13 l0_13.length c0_13) := (blk_cell BK116.out 13).trans rfl
      have hcz31_14 : w5.cell? ⟨gb116, 14, none⟩ = some (.slice A0_14 l0_14.length c0_14) := (blk_cell BK116.out 14).trans rfl
      have hcz31_15 : w5.cell? ⟨gb116, 15, none⟩ = some (.int .i64 a0_15) := (blk_cell BK116.out 15).trans rfl
      have hcz31_16 : w5.cell? ⟨gb116, 16, none⟩ = some (.int .i64 a0_16) := (blk_cell BK116.out 16).trans rfl
      have hfz31_0 := blk_frozen BK116.out 0
      have hfz31_1 := blk_frozen BK116.out 1
      have hfz31_2 := blk_frozen BK116.out 2
      have hfz31_3 := blk_frozen BK116.out 3
      have hfz31_4 := blk_frozen BK116.out 4
      have hfz31_5 := blk_frozen BK116.out 5
      have hfz31_6 := blk_frozen BK116.out 6
      have hfz31_7 := blk_frozen BK116.out 7
      have hfz31_8 := blk_frozen BK116.out 8
      have hfz31_9 := blk_frozen BK116.out 9
      have hfz31_10 := blk_frozen BK116.out 10
      have hfz31_11 := blk_frozen BK116.out 11
      have hfz31_12 := blk_frozen BK116.out 12
      have hfz31_13 := blk_frozen BK116.out 13
      have hfz31_14 := blk_frozen BK116.out 14
      have hfz31_15 := blk_frozen BK116.out 15
      have hfz31_16 := blk_frozen BK116.out 16
      have hcz32_0 : w5.cell? ⟨gb117, 0, none⟩ = some (.int .i64 a1_0) := (blk_cell BK117.out 0).trans rfl
      have hcz32_1 : w5.cell? ⟨gb117, 1, none⟩ = some (.int .i64 a1_1) := (blk_cell BK117.out 1).trans rfl
      have hcz32_2 : w5.cell? ⟨gb117, 2, none⟩ = some (.int .i64 a1_2) := (blk_cell BK117.out 2).trans rfl
      have hcz32_3 : w5.cell? ⟨gb117, 3, none⟩ = some (.int .i64 a1_3) := (blk_cell BK117.out 3).trans rfl
      have hcz32_4 : w5.cell? ⟨gb117, 4, none⟩ = some (.int .i64 a1_4) := (blk_cell BK117.out 4).trans rfl
      have hcz32_5 : w5.cell? ⟨gb117, 5, none⟩ = some (.int .i64 a1_5) := (blk_cell BK117.out 5).trans rfl
      have hcz32_6 : w5.cell? ⟨gb117, 6, none⟩ = some (.bool a1_6) := (blk_cell BK117.out 6).trans rfl
      have hcz32_7 : w5.cell? ⟨gb117, 7, none⟩ = some (.string a1_7) := (blk_cell BK117.out 7).trans rfl
      have hcz32_8 : w5.cell? ⟨gb117, 8, none⟩ = some (.int .i64 a1_8) := (blk_cell BK117.out 8).trans rfl
      have hcz32_9 : w5.cell? ⟨gb117, 9, none⟩ = some (.int .i64 a1_9) := (blk_cell BK117.out 9).trans rfl
      have hcz32_10 : w5.cell? ⟨gb117, 10, none⟩ = some (.int .i64 a1_10) := (blk_cell BK117.out 10).trans rfl
      have hcz32_11 : w5.cell? ⟨gb117, 11, none⟩ = some (.bool a1_11) := (blk_cell BK117.out 11).trans rfl
      have hcz32_12 : w5.cell? ⟨gb117, 12, none⟩ = some (.slice A1_12 l1_12.length c1_12) := (blk_cell BK117.out 12).trans rfl
      have hcz32_13 : w5.cell? ⟨gb117, 13, none⟩ = some (.slice A1_13 l1_13.length c1_13) := (blk_cell BK117.out 13).trans rfl
      have hcz32_14 : w5.cell? ⟨gb117, 14, none⟩ = some (.slice A1_14 l1_14.length c1_14) := (blk_cell BK117.out 14).trans rfl
      have hcz32_15 : w5.cell? ⟨gb117, 15, none⟩ = some (.int .i64 a1_15) := (blk_cell BK117.out 15).trans rfl
      have hcz32_16 : w5.cell? ⟨gb117, 16, none⟩ = some (.int .i64 a1_16) := (blk_cell BK117.out 16).trans rfl
      have hfz32_0 := blk_frozen BK117.out 0
      have hfz32_1 := blk_frozen BK117.out 1
      have hfz32_2 := blk_frozen BK117.out 2
      have hfz32_3 := blk_frozen BK117.out 3
      have hfz32_4 := blk_frozen BK117.out 4
      have hfz32_5 := blk_frozen BK117.out 5
      have hfz32_6 := blk_frozen BK117.out 6
      have hfz32_7 := blk_frozen BK117.out 7
      have hfz32_8 := blk_frozen BK117.out 8
      have hfz32_9 := blk_frozen BK117.out 9
      have hfz32_10 := blk_frozen BK117.out 10
      have hfz32_11 := blk_frozen BK117.out 11
      have hfz32_12 := blk_frozen BK117.out 12
      have hfz32_13 := blk_frozen BK117.out 13
      have hfz32_14 := blk_frozen BK117.out 14
      have hfz32_15 := blk_frozen BK117.out 15
      have hfz32_16 := blk_frozen BK117.out 16
      go_wp2
      go_meet
      case rel => exact ⟨_, (true), (by first | rfl | (simp; done) | (simp [*]; done)), H', ⟨by first | omega | exact Nat.le_refl _⟩, ⟨by (with_reducible repeat (first | refine blk_drewN ?_ _ | refine blk_drew ?_ | refine blk_alloc ?_ _)); exact BK116.out⟩, ⟨by (with_reducible repeat (first | refine blk_drewN ?_ _ | refine blk_drew ?_ | refine blk_alloc ?_ _)); exact BK117.out⟩, ⟨by repeat (first | (with_reducible first | exact HB.out | apply below_alloc | apply pw_below_drewN | apply below_drew1 | refine below_set ?_ GE116.out | refine below_set ?_ GE117.out) | exact HB.out)⟩⟩
  case rest =>
    clear HC3
    try clear c1
    try clear c2
    try clear p2
    try clear c3
    try clear c6
    try clear c6b0
    try clear c6b1
    try clear c7
    try clear c7b0
    try clear c7b1
    try clear c8
    try clear c8b0
    try clear c8b1
    try clear c9
    try clear c9b0
    try clear c9b1
    try clear c10
    try clear c10b0
    try clear c10b1
    try clear c11
    try clear c11b0
    try clear c11b1
    try clear c12
    try clear c15
    try clear c18
    try clear c19
    try clear c21
    try clear c24
    try clear c27
    try clear c30
    try clear hcz13_0
    try clear hcz13_1
    try clear hcz13_10
    try clear hcz13_11
    try clear hcz13_12
    try clear hcz13_13
    try clear hcz13_14
    try clear hcz13_15
    try clear hcz13_16
    try clear hcz13_2
    try clear hcz13_3
    try clear hcz13_4
    try clear hcz13_5
    try clear hcz13_6
    try clear hcz13_7
    try clear hcz13_8
    try clear hcz13_9
    try clear hcz14_0
    try clear hcz14_1
    try clear hcz14_10
    try clear hcz14_11
    try clear hcz14_12
    try clear hcz14_13
    try clear hcz14_14
    try clear hcz14_15
    try clear hcz14_16
    try clear hcz14_2
    try clear hcz14_3
    try clear hcz14_4
    try clear hcz14_5
    try clear hcz14_6
    try clear hcz14_7
    try clear hcz14_8
    try clear hcz14_9
    try clear hcz16_0
    try clear hcz16_1
    try clear hcz16_10
    try clear hcz16_11
    try clear hcz16_12
    try clear hcz16_13
    try clear hcz16_14
    try clear hcz16_15
    try clear hcz16_16
    try clear hcz16_2
    try clear hcz16_3
    try clear hcz16_4
    try clear hcz16_5
    try clear hcz16_6
    try clear hcz16_7
    try clear hcz16_8
    try clear hcz16_9
    try clear hcz17_0
    try clear hcz17_1
    try clear hcz17_10
    try clear hcz17_11
    try clear hcz17_12
    try clear hcz17_13
    try clear hcz17_14
    try clear hcz17_15
    try clear hcz17_16
    try clear hcz17_2
    try clear hcz17_3
    try clear hcz17_4
    try clear hcz17_5
    try clear hcz17_6
    try clear hcz17_7
    try clear hcz17_8
    try clear hcz17_9
    try clear hcz19_0
    try clear hcz19_1
    try clear hcz19_10
    try clear hcz19_11
    try clear hcz19_12
    try clear hcz19_13
    try clear hcz19_14
    try clear hcz19_15
    try clear hcz19_16
    try clear hcz19_2
    try clear hcz19_3
    try clear hcz19_4
    try clear hcz19_5
    try clear hcz19_6
    try clear hcz19_7
    try clear hcz19_8
    try clear hcz19_9
    try clear hcz20_0
    try clear hcz20_1
    try clear hcz20_10
    try clear hcz20_11
    try clear hcz20_12
    try clear hcz20_13
    try clear hcz20_14
    try clear hcz20_15
    try clear hcz20_16
    try clear hcz20_2
    try clear hcz20_3
    try clear hcz20_4
    try clear hcz20_5
    try clear hcz20_6
    try clear hcz20_7
    try clear hcz20_8
    try clear hcz20_9
    try clear hcz22_0
    try clear hcz22_1
    try clear hcz22_10
    try clear hcz22_11
    try clear hcz22_12
    try clear hcz22_13
    try clear hcz22_14
    try clear hcz22_15
    try clear hcz22_16
    try clear hcz22_2
    try clear hcz22_3
    try clear hcz22_4
    try clear hcz22_5
    try clear hcz22_6
    try clear hcz22_7
    try clear hcz22_8
    try clear hcz22_9
    try clear hcz23_0
    try clear hcz23_1
    try clear hcz23_10
    try clear hcz23_11
    try clear hcz23_12
    try clear hcz23_13
    try clear hcz23_14
    try clear hcz23_15
    try clear hcz23_16
    try clear hcz23_2
    try clear hcz23_3
    try clear hcz23_4
    try clear hcz23_5
    try clear hcz23_6
    try clear hcz23_7
    try clear hcz23_8
    try clear hcz23_9
    try clear hcz25_0
    try clear hcz25_1
    try clear hcz25_10
    try clear hcz25_11
    try clear hcz25_12
    try clear hcz25_13
    try clear hcz25_14
    try clear hcz25_15
    try clear hcz25_16
    try clear hcz25_2
    try clear hcz25_3
    try clear hcz25_4
    try clear hcz25_5
    try clear hcz25_6
    try clear hcz25_7
    try clear hcz25_8
    try clear hcz25_9
    try clear hcz26_0
    try clear hcz26_1
    try clear hcz26_10
    try clear hcz26_11
    try clear hcz26_12
    try clear hcz26_13
    try clear hcz26_14
    try clear hcz26_15
    try clear hcz26_16
    try clear hcz26_2
    try clear hcz26_3
    try clear hcz26_4
    try clear hcz26_5
    try clear hcz26_6
    try clear hcz26_7
    try clear hcz26_8
    try clear hcz26_9
    try clear hcz28_0
    try clear hcz28_1
    try clear hcz28_10
    try clear hcz28_11
    try clear hcz28_12
    try clear hcz28_13
    try clear hcz28_14
    try clear hcz28_15
    try clear hcz28_16
    try clear hcz28_2
    try clear hcz28_3
    try clear hcz28_4
    try clear hcz28_5
    try clear hcz28_6
    try clear hcz28_7
    try clear hcz28_8
    try clear hcz28_9
    try clear hcz29_0
    try clear hcz29_1
    try clear hcz29_10
    try clear hcz29_11
    try clear hcz29_12
    try clear hcz29_13
    try clear hcz29_14
    try clear hcz29_15
    try clear hcz29_16
    try clear hcz29_2
    try clear hcz29_3
    try clear hcz29_4
    try clear hcz29_5
    try clear hcz29_6
    try clear hcz29_7
    try clear hcz29_8
    try clear hcz29_9
    try clear hcz31_0
    try clear hcz31_1
    try clear hcz31_10
    try clear hcz31_11
    try clear hcz31_12
    try clear hcz31_13
    try clear hcz31_14
    try clear hcz31_15
    try clear hcz31_16
    try clear hcz31_2
    try clear hcz31_3
    try clear hcz31_4
    try clear hcz31_5
    try clear hcz31_6
    try clear hcz31_7
    try clear hcz31_8
    try clear hcz31_9
    try clear hcz32_0
    try clear hcz32_1
    try clear hcz32_10
    try clear hcz32_11
    try clear hcz32_12
    try clear hcz32_13
    try clear hcz32_14
    try clear hcz32_15
    try clear hcz32_16
    try clear hcz32_2
    try clear hcz32_3
    try clear hcz32_4
    try clear hcz32_5
    try clear hcz32_6
    try clear hcz32_7
    try clear hcz32_8
    try clear hcz32_9
    try clear hfz13_0
    try clear hfz13_1
    try clear hfz13_10
    try clear hfz13_11
    try clear hfz13_12
    try clear hfz13_13
    try clear hfz13_14
    try clear hfz13_15
    try clear hfz13_16
    try clear hfz13_2
    try clear hfz13_3
    try clear hfz13_4
    try clear hfz13_5
    try clear hfz13_6
    try clear hfz13_7
    try clear hfz13_8
    try clear hfz13_9
    try clear hfz14_0
    try clear hfz14_1
    try clear hfz14_10
    try clear hfz14_11
    try clear hfz14_12
    try clear hfz14_13
    try clear hfz14_14
    try clear hfz14_15
    try clear hfz14_16
    try clear hfz14_2
    try clear hfz14_3
    try clear hfz14_4
    try clear hfz14_5
    try clear hfz14_6
    try clear hfz14_7
    try clear hfz14_8
    try clear hfz14_9
    try clear hfz16_0
    try clear hfz16_1
    try clear hfz16_10
    try clear hfz16_11
    try clear hfz16_12
    try clear hfz16_13
    try clear hfz16_14
    try clear hfz16_15
    try clear hfz16_16
    try clear hfz16_2
    try clear hfz16_3
    try clear hfz16_4
    try clear hfz16_5
    try clear hfz16_6
    try clear hfz16_7
    try clear hfz16_8
    try clear hfz16_9
    try clear hfz17_0
    try clear hfz17_1
    try clear hfz17_10
    try clear hfz17_11
    try clear hfz17_12
    try clear hfz17_13
    try clear hfz17_14
    try clear hfz17_15
    try clear hfz17_16
    try clear hfz17_2
    try clear hfz17_3
    try clear hfz17_4
    try clear hfz17_5
    try clear hfz17_6
    try clear hfz17_7
    try clear hfz17_8
    try clear hfz17_9
    try clear hfz19_0
    try clear hfz19_1
    try clear hfz19_10
    try clear hfz19_11
    try clear hfz19_12
    try clear hfz19_13
    try clear hfz19_14
    try clear hfz19_15
    try clear hfz19_16
    try clear hfz19_2
    try clear hfz19_3
    try clear hfz19_4
    try clear hfz19_5
    try clear hfz19_6
    try clear hfz19_7
    try clear hfz19_8
    try clear hfz19_9
    try clear hfz20_0
    try clear hfz20_1
    try clear hfz20_10
    try clear hfz20_11
    try clear hfz20_12
    try clear hfz20_13
    try clear hfz20_14
    try clear hfz20_15
    try clear hfz20_16
    try clear hfz20_2
    try clear hfz20_3
    try clear hfz20_4
    try clear hfz20_5
    try clear hfz20_6
    try clear hfz20_7
    try clear hfz20_8
    try clear hfz20_9
    try clear hfz22_0
    try clear hfz22_1
    try clear hfz22_10
    try clear hfz22_11
    try clear hfz22_12
    try clear hfz22_13
    try clear hfz22_14
    try clear hfz22_15
    try clear hfz22_16
    try clear hfz22_2
    try clear hfz22_3
    try clear hfz22_4
    try clear hfz22_5
    try clear hfz22_6
    try clear hfz22_7
    try clear hfz22_8
    try clear hfz22_9
    try clear hfz23_0
    try clear hfz23_1
    try clear hfz23_10
    try clear hfz23_11
    try clear hfz23_12
    try clear hfz23_13
    try clear hfz23_14
    try clear hfz23_15
    try clear hfz23_16
    try clear hfz23_2
    try clear hfz23_3
    try clear hfz23_4
    try clear hfz23_5
    try clear hfz23_6
    try clear hfz23_7
    try clear hfz23_8
    try clear hfz23_9
    try clear hfz25_0
    try clear hfz25_1
    try clear hfz25_10
    try clear hfz25_11
    try clear hfz25_12
    try clear hfz25_13
    try clear hfz25_14
    try clear hfz25_15
    try clear hfz25_16
    try clear hfz25_2
    try clear hfz25_3
    try clear hfz25_4
    try clear hfz25_5
    try clear hfz25_6
    try clear hfz25_7
    try clear hfz25_8
    try clear hfz25_9
    try clear hfz26_0
    try clear hfz26_1
    try clear hfz26_10
    try clear hfz26_11
    try clear hfz26_12
    try clear hfz26_13
    try clear hfz26_14
    try clear hfz26_15
    try clear hfz26_16
    try clear hfz26_2
    try clear hfz26_3
    try clear hfz26_4
    try clear hfz26_5
    try clear hfz26_6
    try clear hfz26_7
    try clear hfz26_8
    try clear hfz26_9
    try clear hfz28_0
    try clear hfz28_1
    try clear hfz28_10
    try clear hfz28_11
    try clear hfz28_12
    try clear hfz28_13
    try clear hfz28_14
    try clear hfz28_15
    try clear hfz28_16
    try clear hfz28_2
    try clear hfz28_3
    try clear hfz28_4
    try clear hfz28_5
    try clear hfz28_6
    try clear hfz28_7
    try clear hfz28_8
    try clear hfz28_9
    try clear hfz29_0
    try clear hfz29_1
    try clear hfz29_10
    try clear hfz29_11
    try clear hfz29_12
    try clear hfz29_13
    try clear hfz29_14
    try clear hfz29_15
    try clear hfz29_16
    try clear hfz29_2
    try clear hfz29_3
    try clear hfz29_4
    try clear hfz29_5
    try clear hfz29_6
    try clear hfz29_7
    try clear hfz29_8
    try clear hfz29_9
    try clear hfz31_0
    try clear hfz31_1
    try clear hfz31_10
    try clear hfz31_11
    try clear hfz31_12
    try clear hfz31_13
    try clear hfz31_14
    try clear hfz31_15
    try clear hfz31_16
    try clear hfz31_2
    try clear hfz31_3
    try clear hfz31_4
    try clear hfz31_5
    try clear hfz31_6
    try clear hfz31_7
    try clear hfz31_8
    try clear hfz31_9
    try clear hfz32_0
    try clear hfz32_1
    try clear hfz32_10
    try clear hfz32_11
    try clear hfz32_12
    try clear hfz32_13
    try clear hfz32_14
    try clear hfz32_15
    try clear hfz32_16
    try clear hfz32_2
    try clear hfz32_3
    try clear hfz32_4
    try clear hfz32_5
    try clear hfz32_6
    try clear hfz32_7
    try clear hfz32_8
    try clear hfz32_9
    obtain ⟨kq, x51_2, rfl, HA, HJ2, BK116, BK117, HB⟩ := hcut
    cases kq with
    | zero => exact absurd HA.out (by simp [icehouseref12_Same.j0])
    | succ kj2 =>
      have H := HA.out
      clear HA
      simp only [icehouseref12_Same.j0] at H
      by_cases c33 : x51_2 = true
      · subst c33
        have H1 : (some false) = some r := by rw [if_pos rfl] at H; exact H
        clear H
        have H := H1
        clear H1
        obtain rfl := Option.some.inj H
        go_wp2
        go_ret
        exact ⟨by first | rfl | (simp [errW_none, errW_some] <;> rfl) | (simp [*, errW_none, errW_some] <;> rfl), by repeat (first | (with_reducible first | exact HB.out | apply below_alloc | apply pw_below_drewN | apply below_drew1 | refine below_set ?_ GE116.out | refine below_set ?_ GE117.out) | exact HB.out)⟩
      · replace c33 := Bool.eq_false_iff.mpr c33
        subst c33
        have H1 : ((icehouseref03_Same.f kj2 a0_7 a0_8 a0_9 a0_10 a0_11 l0_12 a1_7 a1_8 a1_9 a1_10 a1_11 l1_12).bind fun t118 => (if t118 = true then ((icehouseref03_SameAll.f kj2 l0_13 l1_13).bind fun t119 => (if t119 = true then ((icehouseref09_Same.f kj2 l0_14 a0_15 a0_16 l1_14 a1_15 a1_16).bind fun t120 => (some t120)) else (some false))) else (some false))) = some r := by rw [if_neg (show ¬ (false = true) by decide)] at H; exact H
        clear H
        have H := H1
        clear H1
        replace H := Option.bind_eq_some_iff.mp H
        obtain ⟨t118, A340, H⟩ := H
        replace H : (if t118 = true then ((icehouseref03_SameAll.f kj2 l0_13 l1_13).bind fun t119 => (if t119 = true then ((icehouseref09_Same.f kj2 l0_14 a0_15 a0_16 l1_14 a1_15 a1_16).bind fun t120 => (some t120)) else (some false))) else (some false)) = some r := H
        have A34 := Aside0.mk A340
        clear A340
        by_cases c35 : t118 = true
        · subst c35
          have H1 : ((icehouseref03_SameAll.f kj2 l0_13 l1_13).bind fun t119 => (if t119 = true then ((icehouseref09_Same.f kj2 l0_14 a0_15 a0_16 l1_14 a1_15 a1_16).bind fun t120 => (some t120)) else (some false))) = some r := by rw [if_pos rfl] at H; exact H
          clear H
          have H := H1
          clear H1
          replace H := Option.bind_eq_some_iff.mp H
          obtain ⟨t119, A360, H⟩ := H
          replace H : (if t119 = true then ((icehouseref09_Same.f kj2 l0_14 a0_15 a0_16 l1_14 a1_15 a1_16).bind fun t120 => (some t120)) else (some false)) = some r := H
          have A36 := Aside0.mk A360
          clear A360
          by_cases c37 : t119 = true
          · subst c37
            have H1 : ((icehouseref09_Same.f kj2 l0_14 a0_15 a0_16 l1_14 a1_15 a1_16).bind fun t120 => (some t120)) = some r := by rw [if_pos rfl] at H; exact H
            clear H
            have H := H1
            clear H1
            replace H := Option.bind_eq_some_iff.mp H
            obtain ⟨t120, A380, H⟩ := H
            replace H : (some t120) = some r := H
            have A38 := Aside0.mk A380
            clear A380
            obtain rfl := Option.some.inj H
            have hnb39 := NB116_117.out
            have hnc39 := NB117_116.out
            have hcz40_0 : wc.cell? ⟨gb116, 0, none⟩ = some (.int .i64 a0_0) := (blk_cell BK116.out 0).trans rfl
            have hcz40_1 : wc.cell? ⟨gb116, 1, none⟩ = some (.int .i64 a0_1) := (blk_cell BK116.out 1).trans rfl
            have hcz40_2 : wc.cell? ⟨gb116, 2, none⟩ = some (.int .i64 a0_2) := (blk_cell BK116.out 2).trans rfl
            have hcz40_3 : wc.cell? ⟨gb116, 3, none⟩ = some (.int .i64 a0_3) := (blk_cell BK116.out 3).trans rfl
            have hcz40_4 : wc.cell? ⟨gb116, 4, none⟩ = some (.int .i64 a0_4) := (blk_cell BK116.out 4).trans rfl
            have hcz40_5 : wc.cell? ⟨gb116, 5, none⟩ = some (.int .i64 a0_5) := (blk_cell BK116.out 5).trans rfl
            have hcz40_6 : wc.cell? ⟨gb116, 6, none⟩ = some (.bool a0_6) := (blk_cell BK116.out 6).trans rfl
            have hcz40_7 : wc.cell? ⟨gb116, 7, none⟩ = some (.string a0_7) := (blk_cell BK116.out 7).trans rfl
            have hcz40_8 : wc.cell? ⟨gb116, 8, none⟩ = some (.int .i64 a0_8) := (blk_cell BK116.out 8).trans rfl
            have hcz40_9 : wc.cell? ⟨gb116, 9, none⟩ = some (.int .i64 a0_9) := (blk_cell BK116.out 9).trans rfl
            have hcz40_10 : wc.cell? ⟨gb116, 10, none⟩ = some (.int .i64 a0_10) := (blk_cell BK116.out 10).trans rfl
            have hcz40_11 : wc.cell? ⟨gb116, 11, none⟩ = some (.bool a0_11) := (blk_cell BK116.out 11).trans rfl
            have hcz40_12 : wc.cell? ⟨gb116, 12, none⟩ = some (.slice A0_12 l0_12.length c0_12) := (blk_cell BK116.out 12).trans rfl
            have hcz40_13 : wc.cell? ⟨gb116, 13, none⟩ = some (.slice A0_13 l0_13.length c0_13) := (blk_cell BK116.out 13).trans rfl
            have hcz40_14 : wc.cell? ⟨gb116, 14, none⟩ = some (.slice A0_14 l0_14.length c0_14) := (blk_cell BK116.out 14).trans rfl
            have hcz40_15 : wc.cell? ⟨gb116, 15, none⟩ = some (.int .i64 a0_15) := (blk_cell BK116.out 15).trans rfl
            have hcz40_16 : wc.cell? ⟨gb116, 16, none⟩ = some (.int .i64 a0_16) := (blk_cell BK116.out 16).trans rfl
            have hfz40_0 := blk_frozen BK116.out 0
            have hfz40_1 := blk_frozen BK116.out 1
            have hfz40_2 := blk_frozen BK116.out 2
            have hfz40_3 := blk_frozen BK116.out 3
            have hfz40_4 := blk_frozen BK116.out 4
            have hfz40_5 := blk_frozen BK116.out 5
            have hfz40_6 := blk_frozen BK116.out 6
            have hfz40_7 := blk_frozen BK116.out 7
            have hfz40_8 := blk_frozen BK116.out 8
            have hfz40_9 := blk_frozen BK116.out 9
            have hfz40_10 := blk_frozen BK116.out 10
            have hfz40_11 := blk_frozen BK116.out 11
            have hfz40_12 := blk_frozen BK116.out 12
            have hfz40_13 := blk_frozen BK116.out 13
            have hfz40_14 := blk_frozen BK116.out 14
            have hfz40_15 := blk_frozen BK116.out 15
            have hfz40_16 := blk_frozen BK116.out 16
            have hcz41_0 : wc.cell? ⟨gb117, 0, none⟩ = some (.int .i64 a1_0) := (blk_cell BK117.out 0).trans rfl
            have hcz41_1 : wc.cell? ⟨gb117, 1, none⟩ = some (.int .i64 a1_1) := (blk_cell BK117.out 1).trans rfl
            have hcz41_2 : wc.cell? ⟨gb117, 2, none⟩ = some (.int .i64 a1_2) := (blk_cell BK117.out 2).trans rfl
            have hcz41_3 : wc.cell? ⟨gb117, 3, none⟩ = some (.int .i64 a1_3) := (blk_cell BK117.out 3).trans rfl
            have hcz41_4 : wc.cell? ⟨gb117, 4, none⟩ = some (.int .i64 a1_4) := (blk_cell BK117.out 4).trans rfl
            have hcz41_5 : wc.cell? ⟨gb117, 5, none⟩ = some (.int .i64 a1_5) := (blk_cell BK117.out 5).trans rfl
            have hcz41_6 : wc.cell? ⟨gb117, 6, none⟩ = some (.bool a1_6) := (blk_cell BK117.out 6).trans rfl
            have hcz41_7 : wc.cell? ⟨gb117, 7, none⟩ = some (.string a1_7) := (blk_cell BK117.out 7).trans rfl
            have hcz41_8 : wc.cell? ⟨gb117, 8, none⟩ = some (.int .i64 a1_8) := (blk_cell BK117.out 8).trans rfl
            have hcz41_9 : wc.cell? ⟨gb117, 9, none⟩ = some (.int .i64 a1_9) := (blk_cell BK117.out 9).trans rfl
            have hcz41_10 : wc.cell? ⟨gb117, 10, none⟩ = some (.int .i64 a1_10) := (blk_cell BK117.out 10).trans rfl
            have hcz41_11 : wc.cell? ⟨gb117, 11, none⟩ = some (.bool a1_11) := (blk_cell BK117.out 11).trans rfl
            have hcz41_12 : wc.cell? ⟨gb117, 12, none⟩ = some (.slice A1_12 l1_12.length c1_12) := (blk_cell BK117.out 12).trans rfl
            have hcz41_13 : wc.cell? ⟨gb117, 13, none⟩ = some (.slice A1_13 l1_13.length c1_13) := (blk_cell BK117.out 13).trans rfl
            have hcz41_14 : wc.cell? ⟨gb117, 14, none⟩ = some (.slice A1_14 l1_14.length c1_14) := (blk_cell BK117.out 14).trans rfl
            have hcz41_15 : wc.cell? ⟨gb117, 15, none⟩ = some (.int .i64 a1_15) := (blk_cell BK117.out 15).trans rfl
            have hcz41_16 : wc.cell? ⟨gb117, 16, none⟩ = some (.int .i64 a1_16) := (blk_cell BK117.out 16).trans rfl
            have hfz41_0 := blk_frozen BK117.out 0
            have hfz41_1 := blk_frozen BK117.out 1
            have hfz41_2 := blk_frozen BK117.out 2
            have hfz41_3 := blk_frozen BK117.out 3
            have hfz41_4 := blk_frozen BK117.out 4
            have hfz41_5 := blk_frozen BK117.out 5
            have hfz41_6 := blk_frozen BK117.out 6
            have hfz41_7 := blk_frozen BK117.out 7
            have hfz41_8 := blk_frozen BK117.out 8
            have hfz41_9 := blk_frozen BK117.out 9
            have hfz41_10 := blk_frozen BK117.out 10
            have hfz41_11 := blk_frozen BK117.out 11
            have hfz41_12 := blk_frozen BK117.out 12
            have hfz41_13 := blk_frozen BK117.out 13
            have hfz41_14 := blk_frozen BK117.out 14
            have hfz41_15 := blk_frozen BK117.out 15
            have hfz41_16 := blk_frozen BK117.out 16
            go_wp2_with (first | ((with_reducible refine gate_callee (f := 55) rfl ?_); refine goesL_ (some 56) rfl rfl Tryd.func55 (by kernel_rfl) rfl #[.agg #[.string a0_7, .int .i64 a0_8, .int .i64 a0_9, .int .i64 a0_10, .bool a0_11, .slice A0_12 l0_12.length c0_12], .agg #[.string a1_7, .int .i64 a1_8, .int .i64 a1_9, .int .i64 a1_10, .bool a1_11, .slice A1_12 l1_12.length c1_12]] rfl (by (try simp only [List.map_toArray, List.map_cons, List.map_nil]); first | done | rfl | (simp only [List.length_drop, List.length_take]; rfl)) ?_; (with_reducible refine (icehouseref03_Same.calls kj2 a0_7 a0_8 a0_9 a0_10 a0_11 _ _ l0_12 a1_7 a1_8 a1_9 a1_10 a1_11 _ _ l1_12 true _ ?side1 ?side2 ?side3 ?side4 A34.out).mono ?_); (case side1 => repeat (first | exact (Kd.C_below HR0_12.out HB.out) | (with_reducible refine Kd.C_alloc ?_ _) | (with_reducible refine Kd.C_drewN ?_ _) | (with_reducible refine Kd.C_drew ?_))); (case side2 => exact HC0_12.out); (case side3 => repeat (first | exact (Kd.C_below HR1_12.out HB.out) | (with_reducible refine Kd.C_alloc ?_ _) | (with_reducible refine Kd.C_drewN ?_ _) | (with_reducible refine Kd.C_drew ?_))); (case side4 => exact HC1_12.out); rintro e w42 ⟨rfl, hb⟩; refine ⟨_, rfl, ?_⟩; have n0_ := Aside0.mk (blk_below (g := gb116) (o := .cells #[.int .i64 a0_0, .int .i64 a0_1, .int .i64 a0_2, .int .i64 a0_3, .int .i64 a0_4, .int .i64 a0_5, .bool a0_6, .string a0_7, .int .i64 a0_8, .int .i64 a0_9, .int .i64 a0_10, .bool a0_11, .slice A0_12 l0_12.length c0_12, .slice A0_13 l0_13.length c0_13, .slice A0_14 l0_14.length c0_14, .int .i64 a0_15, .int .i64 a0_16] 34 (0, 0)) (by (with_reducible repeat (first | refine blk_drewN ?_ _ | refine blk_drew ?_ | refine blk_alloc ?_ _)); exact BK116.out) hb); have n1_ := Aside0.mk (blk_below (g := gb117) (o := .cells #[.int .i64 a1_0, .int .i64 a1_1, .int .i64 a1_2, .int .i64 a1_3, .int .i64 a1_4, .int .i64 a1_5, .bool a1_6, .string a1_7, .int .i64 a1_8, .int .i64 a1_9, .int .i64 a1_10, .bool a1_11, .slice A1_12 l1_12.length c1_12, .slice A1_13 l1_13.length c1_13, .slice A1_14 l1_14.length c1_14, .int .i64 a1_15, .int .i64 a1_16] 34 (0, 0)) (by (with_reducible repeat (first | refine blk_drewN ?_ _ | refine blk_drew ?_ | refine blk_alloc ?_ _)); exact BK117.out) hb); have n2_ := Aside0.mk (below_step (by repeat (first | (with_reducible first | exact HB.out | apply below_alloc | apply pw_below_drewN | apply below_drew1 | refine below_set ?_ GE116.out | refine below_set ?_ GE117.out) | exact HB.out)) hb); clear BK116; clear BK117; clear HB; have BK116 := n0_; have BK117 := n1_; have HB := n2_; clear n0_ n1_ n2_; (try clear hb); (try clear hb2); (try clear hk); (try clear hi); have hcz43_0 : w42.cell? ⟨gb116, 0, none⟩ = some (.int .i64 a0_0) := (blk_cell BK116.out 0).trans rfl; have hcz43_1 : w42.cell? ⟨gb116, 1, none⟩ = some (.int .i64 a0_1) := (blk_cell BK116.out 1).trans rfl; have hcz43_2 : w42.cell? ⟨gb116, 2, none⟩ = some (.int .i64 a0_2) := (blk_cell BK116.out 2).trans rfl; have hcz43_3 : w42.cell? ⟨gb116, 3, none⟩ = some (.int .i64 a0_3) := (blk_cell BK116.out 3).trans rfl; have hcz43_4 : w42.cell? ⟨gb116, 4, none⟩ = some (.int .i64 a0_4) := (blk_cell BK116.out 4).trans rfl; have hcz43_5 : w42.cell? ⟨gb116, 5, none⟩ = some (.int .i64 a0_5) := (blk_cell BK116.out 5).trans rfl; have hcz43_6 : w42.cell? ⟨gb116, 6, none⟩ = some (.bool a0_6) := (blk_cell BK116.out 6).trans rfl; have hcz43_7 : w42.cell? ⟨gb116, 7, none⟩ = some (.string a0_7) := (blk_cell BK116.out 7).trans rfl; have hcz43_8 : w42.cell? ⟨gb116, 8, none⟩ = some (.int .i64 a0_8) := (blk_cell BK116.out 8).trans rfl; have hcz43_9 : w42.cell? ⟨gb116, 9, none⟩ = some (.int .i64 a0_9) := (blk_cell BK116.out 9).trans rfl; have hcz43_10 : w42.cell? ⟨gb116, 10, none⟩ = some (.int .i64 a0_10) := (blk_cell BK116.out 10).trans rfl; have hcz43_11 : w42.cell? ⟨gb116, 11, none⟩ = some (.bool a0_11) := (blk_cell BK116.out 11).trans rfl; have hcz43_12 : w42.cell? ⟨gb116, 12, none⟩ = some (.slice A0_12 l0_12.length c0_12) := (blk_cell BK116.out 12).trans rfl; have hcz43_13 : w42.cell? ⟨gb116, 13, none⟩ = some (.slice A0_13 l0_13.length c0_13) := (blk_cell BK116.out 13).trans rfl; have hcz43_14 : w42.cell? ⟨gb116, 14, none⟩ = some (.slice A0_14 l0_14.length c0_14) := (blk_cell BK116.out 14).trans rfl; have hcz43_15 : w42.cell? ⟨gb116, 15, none⟩ = some (.int .i64 a0_15) := (blk_cell BK116.out 15).trans rfl; have hcz43_16 : w42.cell? ⟨gb116, 16, none⟩ = some (.int .i64 a0_16) := (blk_cell BK116.out 16).trans rfl; have hfz43_0 := blk_frozen BK116.out 0; have hfz43_1 := blk_frozen BK116.out 1; have hfz43_2 := blk_frozen BK116.out 2; have hfz43_3 := blk_frozen BK116.out 3; have hfz43_4 := blk_frozen BK116.out 4; have hfz43_5 := blk_frozen BK116.out 5; have hfz43_6 := blk_frozen BK116.out 6; have hfz43_7 := blk_frozen BK116.out 7; have hfz43_8 := blk_frozen BK116.out 8; have hfz43_9 := blk_frozen BK116.out 9; have hfz43_10 := blk_frozen BK116.out 10; have hfz43_11 := blk_frozen BK116.out 11; have hfz43_12 := blk_frozen BK116.out 12; have hfz43_13 := blk_frozen BK116.out 13; have hfz43_14 := blk_frozen BK116.out 14; have hfz43_15 := blk_frozen BK116.out 15; have hfz43_16 := blk_frozen BK116.out 16; have hcz44_0 : w42.cell? ⟨gb117, 0, none⟩ = some (.int .i64 a1_0) := (blk_cell BK117.out 0).trans rfl; have hcz44_1 : w42.cell? ⟨gb117, 1, none⟩ = some (.int .i64 a1_1) := (blk_cell BK117.out 1).trans rfl; have hcz44_2 : w42.cell? ⟨gb117, 2, none⟩ = some (.int .i64 a1_2) := (blk_cell BK117.out 2).trans rfl; have hcz44_3 : w42.cell? ⟨gb117, 3, none⟩ = some (.int .i64 a1_3) := (blk_cell BK117.out 3).trans rfl; have hcz44_4 : w42.cell? ⟨gb117, 4, none⟩ = some (.int .i64 a1_4) := (blk_cell BK117.out 4).trans rfl; have hcz44_5 : w42.cell? ⟨gb117, 5, none⟩ = some (.int .i64 a1_5) := (blk_cell BK117.out 5).trans rfl; have hcz44_6 : w42.cell? ⟨gb117, 6, none⟩ = some (.bool a1_6) := (blk_cell BK117.out 6).trans rfl; have hcz44_7 : w42.cell? ⟨gb117, 7, none⟩ = some (.string a1_7) := (blk_cell BK117.out 7).trans rfl; have hcz44_8 : w42.cell? ⟨gb117, 8, none⟩ = some (.int .i64 a1_8) := (blk_cell BK117.out 8).trans rfl; have hcz44_9 : w42.cell? ⟨gb117, 9, none⟩ = some (.int .i64 a1_9) := (blk_cell BK117.out 9).trans rfl; have hcz44_10 : w42.cell? ⟨gb117, 10, none⟩ = some (.int .i64 a1_10) := (blk_cell BK117.out 10).trans rfl; have hcz44_11 : w42.cell? ⟨gb117, 11, none⟩ = some (.bool a1_11) := (blk_cell BK117.out 11).trans rfl; have hcz44_12 : w42.cell? ⟨gb117, 12, none⟩ = some (.slice A1_12 l1_12.length c1_12) := (blk_cell BK117.out 12).trans rfl; have hcz44_13 : w42.cell? ⟨gb117, 13, none⟩ = some (.slice A1_13 l1_13.length c1_13) := (blk_cell BK117.out 13).trans rfl; have hcz44_14 : w42.cell? ⟨gb117, 14, none⟩ = some (.slice A1_14 l1_14.length c1_14) := (blk_cell BK117.out 14).trans rfl; have hcz44_15 : w42.cell? ⟨gb117, 15, none⟩ = some (.int .i64 a1_15) := (blk_cell BK117.out 15).trans rfl; have hcz44_16 : w42.cell? ⟨gb117, 16, none⟩ = some (.int .i64 a1_16) := (blk_cell BK117.out 16).trans rfl; have hfz44_0 := blk_frozen BK117.out 0; have hfz44_1 := blk_frozen BK117.out 1; have hfz44_2 := blk_frozen BK117.out 2; have hfz44_3 := blk_frozen BK117.out 3; have hfz44_4 := blk_frozen BK117.out 4; have hfz44_5 := blk_frozen BK117.out 5; have hfz44_6 := blk_frozen BK117.out 6; have hfz44_7 := blk_frozen BK117.out 7; have hfz44_8 := blk_frozen BK117.out 8; have hfz44_9 := blk_frozen BK117.out 9; have hfz44_10 := blk_frozen BK117.out 10; have hfz44_11 := blk_frozen BK117.out 11; have hfz44_12 := blk_frozen BK117.out 12; have hfz44_13 := blk_frozen BK117.out 13; have hfz44_14 := blk_frozen BK117.out 14; have hfz44_15 := blk_frozen BK117.out 15; have hfz44_16 := blk_frozen BK117.out 16) | (go_at_call 56; (with_reducible refine (icehouseref03_SameAll.calls kj2 _ _ l0_13 _ _ l1_13 true _ ?side1 ?side2 ?side3 ?side4 A36.out).mono ?_); (case side1 => repeat (first | exact (Kd.C_below HR0_13.out HB.out) | (with_reducible refine Kd.C_alloc ?_ _) | (with_reducible refine Kd.C_drewN ?_ _) | (with_reducible refine Kd.C_drew ?_))); (case side2 => exact HC0_13.out); (case side3 => repeat (first | exact (Kd.C_below HR1_13.out HB.out) | (with_reducible refine Kd.C_alloc ?_ _) | (with_reducible refine Kd.C_drewN ?_ _) | (with_reducible refine Kd.C_drew ?_))); (case side4 => exact HC1_13.out); rintro e w45 ⟨rfl, hb⟩; have n0_ := Aside0.mk (blk_below (g := gb116) (o := .cells #[.int .i64 a0_0, .int .i64 a0_1, .int .i64 a0_2, .int .i64 a0_3, .int .i64 a0_4, .int .i64 a0_5, .bool a0_6, .string a0_7, .int .i64 a0_8, .int .i64 a0_9, .int .i64 a0_10, .bool a0_11, .slice A0_12 l0_12.length c0_12, .slice A0_13 l0_13.length c0_13, .slice A0_14 l0_14.length c0_14, .int .i64 a0_15, .int .i64 a0_16] 34 (0, 0)) (by (with_reducible repeat (first | refine blk_drewN ?_ _ | refine blk_drew ?_ | refine blk_alloc ?_ _)); exact BK116.out) hb); have n1_ := Aside0.mk (blk_below (g := gb117) (o := .cells #[.int .i64 a1_0, .int .i64 a1_1, .int .i64 a1_2, .int .i64 a1_3, .int .i64 a1_4, .int .i64 a1_5, .bool a1_6, .string a1_7, .int .i64 a1_8, .int .i64 a1_9, .int .i64 a1_10, .bool a1_11, .slice A1_12 l1_12.length c1_12, .slice A1_13 l1_13.length c1_13, .slice A1_14 l1_14.length c1_14, .int .i64 a1_15, .int .i64 a1_16] 34 (0, 0)) (by (with_reducible repeat (first | refine blk_drewN ?_ _ | refine blk_drew ?_ | refine blk_alloc ?_ _)); exact BK117.out) hb); have n2_ := Aside0.mk (below_step (by repeat (first | (with_reducible first | exact HB.out | apply below_alloc | apply pw_below_drewN | apply below_drew1 | refine below_set ?_ GE116.out | refine below_set ?_ GE117.out) | exact HB.out)) hb); clear BK116; clear BK117; clear HB; have BK116 := n0_; have BK117 := n1_; have HB := n2_; clear n0_ n1_ n2_; (try clear hb); (try clear hb2); (try clear hk); (try clear hi); have hcz46_0 : w45.cell? ⟨gb116, 0, none⟩ = some (.int .i64 a0_0) := (blk_cell BK116.out 0).trans rfl; have hcz46_1 : w45.cell? ⟨gb116, 1, none⟩ = some (.int .i64 a0_1) := (blk_cell BK116.out 1).trans rfl; have hcz46_2 : w45.cell? ⟨gb116, 2, none⟩ = some (.int .i64 a0_2) := (blk_cell BK116.out 2).trans rfl; have hcz46_3 : w45.cell? ⟨gb116, 3, none⟩ = some (.int .i64 a0_3) := (blk_cell BK116.out 3).trans rfl; have hcz46_4 : w45.cell? ⟨gb116, 4, none⟩ = some (.int .i64 a0_4) := (blk_cell BK116.out 4).trans rfl; have hcz46_5 : w45.cell? ⟨gb116, 5, none⟩ = some (.int .i64 a0_5) := (blk_cell BK116.out 5).trans rfl; have hcz46_6 : w45.cell? ⟨gb116, 6, none⟩ = some (.bool a0_6) := (blk_cell BK116.out 6).trans rfl; have hcz46_7 : w45.cell? ⟨gb116, 7, none⟩ = some (.string a0_7) := (blk_cell BK116.out 7).trans rfl; have hcz46_8 : w45.cell? ⟨gb116, 8, none⟩ = some (.int .i64 a0_8) := (blk_cell BK116.out 8).trans rfl; have hcz46_9 : w45.cell? ⟨gb116, 9, none⟩ = some (.int .i64 a0_9) := (blk_cell BK116.out 9).trans rfl; have hcz46_10 : w45.cell? ⟨gb116, 10, none⟩ = some (.int .i64 a0_10) := (blk_cell BK116.out 10).trans rfl; have hcz46_11 : w45.cell? ⟨gb116, 11, none⟩ = some (.bool a0_11) := (blk_cell BK116.out 11).trans rfl; have hcz46_12 : w45.cell? ⟨gb116, 12, none⟩ = some (.slice A0_12 l0_12.length c0_12) := (blk_cell BK116.out 12).trans rfl; have hcz46_13 : w45.cell? ⟨gb116, 13, none⟩ = some (.slice A0_13 l0_13.length c0_13) := (blk_cell BK116.out 13).trans rfl; have hcz46_14 : w45.cell? ⟨gb116, 14, none⟩ = some (.slice A0_14 l0_14.length c0_14) := (blk_cell BK116.out 14).trans rfl; have hcz46_15 : w45.cell? ⟨gb116, 15, none⟩ = some (.int .i64 a0_15) := (blk_cell BK116.out 15).trans rfl; have hcz46_16 : w45.cell? ⟨gb116, 16, none⟩ = some (.int .i64 a0_16) := (blk_cell BK116.out 16).trans rfl; have hfz46_0 := blk_frozen BK116.out 0; have hfz46_1 := blk_frozen BK116.out 1; have hfz46_2 := blk_frozen BK116.out 2; have hfz46_3 := blk_frozen BK116.out 3; have hfz46_4 := blk_frozen BK116.out 4; have hfz46_5 := blk_frozen BK116.out 5; have hfz46_6 := blk_frozen BK116.out 6; have hfz46_7 := blk_frozen BK116.out 7; have hfz46_8 := blk_frozen BK116.out 8; have hfz46_9 := blk_frozen BK116.out 9; have hfz46_10 := blk_frozen BK116.out 10; have hfz46_11 := blk_frozen BK116.out 11; have hfz46_12 := blk_frozen BK116.out 12; have hfz46_13 := blk_frozen BK116.out 13; have hfz46_14 := blk_frozen BK116.out 14; have hfz46_15 := blk_frozen BK116.out 15; have hfz46_16 := blk_frozen BK116.out 16; have hcz47_0 : w45.cell? ⟨gb117, 0, none⟩ = some (.int .i64 a1_0) := (blk_cell BK117.out 0).trans rfl; have hcz47_1 : w45.cell? ⟨gb117, 1, none⟩ = some (.int .i64 a1_1) := (blk_cell BK117.out 1).trans rfl; have hcz47_2 : w45.cell? ⟨gb117, 2, none⟩ = some (.int .i64 a1_2) := (blk_cell BK117.out 2).trans rfl; have hcz47_3 : w45.cell? ⟨gb117, 3, none⟩ = some (.int .i64 a1_3) := (blk_cell BK117.out 3).trans rfl; have hcz47_4 : w45.cell? ⟨gb117, 4, none⟩ = some (.int .i64 a1_4) := (blk_cell BK117.out 4).trans rfl; have hcz47_5 : w45.cell? ⟨gb117, 5, none⟩ = some (.int .i64 a1_5) := (blk_cell BK117.out 5).trans rfl; have hcz47_6 : w45.cell? ⟨gb117, 6, none⟩ = some (.bool a1_6) := (blk_cell BK117.out 6).trans rfl; have hcz47_7 : w45.cell? ⟨gb117, 7, none⟩ = some (.string a1_7) := (blk_cell BK117.out 7).trans rfl; have hcz47_8 : w45.cell? ⟨gb117, 8, none⟩ = some (.int .i64 a1_8) := (blk_cell BK117.out 8).trans rfl; have hcz47_9 : w45.cell? ⟨gb117, 9, none⟩ = some (.int .i64 a1_9) := (blk_cell BK117.out 9).trans rfl; have hcz47_10 : w45.cell? ⟨gb117, 10, none⟩ = some (.int .i64 a1_10) := (blk_cell BK117.out 10).trans rfl; have hcz47_11 : w45.cell? ⟨gb117, 11, none⟩ = some (.bool a1_11) := (blk_cell BK117.out 11).trans rfl; have hcz47_12 : w45.cell? ⟨gb117, 12, none⟩ = some (.slice A1_12 l1_12.length c1_12) := (blk_cell BK117.out 12).trans rfl; have hcz47_13 : w45.cell? ⟨gb117, 13, none⟩ = some (.slice A1_13 l1_13.length c1_13) := (blk_cell BK117.out 13).trans rfl; have hcz47_14 : w45.cell? ⟨gb117, 14, none⟩ = some (.slice A1_14 l1_14.length c1_14) := (blk_cell BK117.out 14).trans rfl; have hcz47_15 : w45.cell? ⟨gb117, 15, none⟩ = some (.int .i64 a1_15) := (blk_cell BK117.out 15).trans rfl; have hcz47_16 : w45.cell? ⟨gb117, 16, none⟩ = some (.int .i64 a1_16) := (blk_cell BK117.out 16).trans rfl; have hfz47_0 := blk_frozen BK117.out 0; have hfz47_1 := blk_frozen BK117.out 1; have hfz47_2 := blk_frozen BK117.out 2; have hfz47_3 := blk_frozen BK117.out 3; have hfz47_4 := blk_frozen BK117.out 4; have hfz47_5 := blk_frozen BK117.out 5; have hfz47_6 := blk_frozen BK117.out 6; have hfz47_7 := blk_frozen BK117.out 7; have hfz47_8 := blk_frozen BK117.out 8; have hfz47_9 := blk_frozen BK117.out 9; have hfz47_10 := blk_frozen BK117.out 10; have hfz47_11 := blk_frozen BK117.out 11; have hfz47_12 := blk_frozen BK117.out 12; have hfz47_13 := blk_frozen BK117.out 13; have hfz47_14 := blk_frozen BK117.out 14; have hfz47_15 := blk_frozen BK117.out 15; have hfz47_16 := blk_frozen BK117.out 16) | (go_at_call 45; (with_reducible refine (icehouseref09_Same.calls kj2 _ _ l0_14 a0_15 a0_16 _ _ l1_14 a1_15 a1_16 t120 _ ?side1 ?side2 ?side3 ?side4 A38.out).mono ?_); (case side1 => repeat (first | exact (Kd.C_below HR0_14.out HB.out) | (with_reducible refine Kd.C_alloc ?_ _) | (with_reducible refine Kd.C_drewN ?_ _) | (with_reducible refine Kd.C_drew ?_))); (case side2 => exact HC0_14.out); (case side3 => repeat (first | exact (Kd.C_below HR1_14.out HB.out) | (with_reducible refine Kd.C_alloc ?_ _) | (with_reducible refine Kd.C_drewN ?_ _) | (with_reducible refine Kd.C_drew ?_))); (case side4 => exact HC1_14.out); rintro e w48 ⟨rfl, hb⟩; have n0_ := Aside0.mk (blk_below (g := gb116) (o := .cells #[.int .i64 a0_0, .int .i64 a0_1, .int .i64 a0_2, .int .i64 a0_3, .int .i64 a0_4, .int .i64 a0_5, .bool a0_6, .string a0_7, .int .i64 a0_8, .int .i64 a0_9, .int .i64 a0_10, .bool a0_11, .slice A0_12 l0_12.length c0_12, .slice A0_13 l0_13.length c0_13, .slice A0_14 l0_14.length c0_14, .int .i64 a0_15, .int .i64 a0_16] 34 (0, 0)) (by (with_reducible repeat (first | refine blk_drewN ?_ _ | refine blk_drew ?_ | refine blk_alloc ?_ _)); exact BK116.out) hb); have n1_ := Aside0.mk (blk_below (g := gb117) (o := .cells #[.int .i64 a1_0, .int .i64 a1_1, .int .i64 a1_2, .int .i64 a1_3, .int .i64 a1_4, .int .i64 a1_5, .bool a1_6, .string a1_7, .int .i64 a1_8, .int .i64 a1_9, .int .i64 a1_10, .bool a1_11, .slice A1_12 l1_12.length c1_12, .slice A1_13 l1_13.length c1_13, .slice A1_14 l1_14.length c1_14, .int .i64 a1_15, .int .i64 a1_16] 34 (0, 0)) (by (with_reducible repeat (first | refine blk_drewN ?_ _ | refine blk_drew ?_ | refine blk_alloc ?_ _)); exact BK117.out) hb); have n2_ := Aside0.mk (below_step (by repeat (first | (with_reducible first | exact HB.out | apply below_alloc | apply pw_below_drewN | apply below_drew1 | refine below_set ?_ GE116.out | refine below_set ?_ GE117.out) | exact HB.out)) hb); clear BK116; clear BK117; clear HB; have BK116 := n0_; have BK117 := n1_; have HB := n2_; clear n0_ n1_ n2_; (try clear hb); (try clear hb2); (try clear hk); (try clear hi)))
            go_ret
            exact ⟨by first | rfl | (simp [errW_none, errW_some] <;> rfl) | (simp [*, errW_none, errW_some] <;> rfl), by repeat (first | (with_reducible first | exact HB.out | apply below_alloc | apply pw_below_drewN | apply below_drew1 | refine below_set ?_ GE116.out | refine below_set ?_ GE117.out) | exact HB.out)⟩
          · replace c37 := Bool.eq_false_iff.mpr c37
            subst c37
            have H1 : (some false) = some r := by rw [if_neg (show ¬ (false = true) by decide)] at H; exact H
            clear H
            have H := H1
            clear H1
            obtain rfl := Option.some.inj H
            have hnb49 := NB116_117.out
            have hnc49 := NB117_116.out
            have hcz50_0 : wc.cell? ⟨gb116, 0, none⟩ = some (.int .i64 a0_0) := (blk_cell BK116.out 0).trans rfl
            have hcz50_1 : wc.cell? ⟨gb116, 1, none⟩ = some (.int .i64 a0_1) := (blk_cell BK116.out 1).trans rfl
            have hcz50_2 : wc.cell? ⟨gb116, 2, none⟩ = some (.int .i64 a0_2) := (blk_cell BK116.out 2).trans rfl
            have hcz50_3 : wc.cell? ⟨gb116, 3, none⟩ = some (.int .i64 a0_3) := (blk_cell BK116.out 3).trans rfl
            have hcz50_4 : wc.cell? ⟨gb116, 4, none⟩ = some (.int .i64 a0_4) := (blk_cell BK116.out 4).trans rfl
            have hcz50_5 : wc.cell? ⟨gb116, 5, none⟩ = some (.int .i64 a0_5) := (blk_cell BK116.out 5).trans rfl
            have hcz50_6 : wc.cell? ⟨gb116, 6, none⟩ = some (.bool a0_6) := (blk_cell BK116.out 6).trans rfl
            have hcz50_7 : wc.cell? ⟨gb116, 7, none⟩ = some (.string a0_7) := (blk_cell BK116.out 7).trans rfl
            have hcz50_8 : wc.cell? ⟨gb116, 8, none⟩ = some (.int .i64 a0_8) := (blk_cell BK116.out 8).trans rfl
            have hcz50_9 : wc.cell? ⟨gb116, 9, none⟩ = some (.int .i64 a0_9) := (blk_cell BK116.out 9).trans rfl
            have hcz50_10 : wc.cell? ⟨gb116, 10, none⟩ = some (.int .i64 a0_10) := (blk_cell BK116.out 10).trans rfl
            have hcz50_11 : wc.cell? ⟨gb116, 11, none⟩ = some (.bool a0_11) := (blk_cell BK116.out 11).trans rfl
            have hcz50_12 : wc.cell? ⟨gb116, 12, none⟩ = some (.slice A0_12 l0_12.length c0_12) := (blk_cell BK116.out 12).trans rfl
            have hcz50_13 : wc.cell? ⟨gb116, 13, none⟩ = some (.slice A0_13 l0_13.length c0_13) := (blk_cell BK116.out 13).trans rfl
            have hcz50_14 : wc.cell? ⟨gb116, 14, none⟩ = some (.slice A0_14 l0_14.length c0_14) := (blk_cell BK116.out 14).trans rfl
            have hcz50_15 : wc.cell? ⟨gb116, 15, none⟩ = some (.int .i64 a0_15) := (blk_cell BK116.out 15).trans rfl
            have hcz50_16 : wc.cell? ⟨gb116, 16, none⟩ = some (.int .i64 a0_16) := (blk_cell BK116.out 16).trans rfl
            have hfz50_0 := blk_frozen BK116.out 0
            have hfz50_1 := blk_frozen BK116.out 1
            have hfz50_2 := blk_frozen BK116.out 2
            have hfz50_3 := blk_frozen BK116.out 3
            have hfz50_4 := blk_frozen BK116.out 4
            have hfz50_5 := blk_frozen BK116.out 5
            have hfz50_6 := blk_frozen BK116.out 6
            have hfz50_7 := blk_frozen BK116.out 7
            have hfz50_8 := blk_frozen BK116.out 8
            have hfz50_9 := blk_frozen BK116.out 9
            have hfz50_10 := blk_frozen BK116.out 10
            have hfz50_11 := blk_frozen BK116.out 11
            have hfz50_12 := blk_frozen BK116.out 12
            have hfz50_13 := blk_frozen BK116.out 13
            have hfz50_14 := blk_frozen BK116.out 14
            have hfz50_15 := blk_frozen BK116.out 15
            have hfz50_16 := blk_frozen BK116.out 16
            have hcz51_0 : wc.cell? ⟨gb117, 0, none⟩ = some (.int .i64 a1_0) := (blk_cell BK117.out 0).trans rfl
            have hcz51_1 : wc.cell? ⟨gb117, 1, none⟩ = some (.int .i64 a1_1) := (blk_cell BK117.out 1).trans rfl
            have hcz51_2 : wc.cell? ⟨gb117, 2, none⟩ = some (.int .i64 a1_2) := (blk_cell BK117.out 2).trans rfl
            have hcz51_3 : wc.cell? ⟨gb117, 3, none⟩ = some (.int .i64 a1_3) := (blk_cell BK117.out 3).trans rfl
            have hcz51_4 : wc.cell? ⟨gb117, 4, none⟩ = some (.int .i64 a1_4) := (blk_cell BK117.out 4).trans rfl
            have hcz51_5 : wc.cell? ⟨gb117, 5, none⟩ = some (.int .i64 a1_5) := (blk_cell BK117.out 5).trans rfl
            have hcz51_6 : wc.cell? ⟨gb117, 6, none⟩ = some (.bool a1_6) := (blk_cell BK117.out 6).trans rfl
            have hcz51_7 : wc.cell? ⟨gb117, 7, none⟩ = some (.string a1_7) := (blk_cell BK117.out 7).trans rfl
            have hcz51_8 : wc.cell? ⟨gb117, 8, none⟩ = some (.int .i64 a1_8) := (blk_cell BK117.out 8).trans rfl
            have hcz51_9 : wc.cell? ⟨gb117, 9, none⟩ = some (.int .i64 a1_9) := (blk_cell BK117.out 9).trans rfl
            have hcz51_10 : wc.cell? ⟨gb117, 10, none⟩ = some (.int .i64 a1_10) := (blk_cell BK117.out 10).trans rfl
            have hcz51_11 : wc.cell? ⟨gb117, 11, none⟩ = some (.bool a1_11) := (blk_cell BK117.out 11).trans rfl
            have hcz51_12 : wc.cell? ⟨gb117, 12, none⟩ = some (.slice A1_12 l1_12.length c1_12) := (blk_cell BK117.out 12).trans rfl
            have hcz51_13 : wc.cell? ⟨gb117, 13, none⟩ = some (.slice A1_13 l1_13.length c1_13) := (blk_cell BK117.out 13).trans rfl
            have hcz51_14 : wc.cell? ⟨gb117, 14, none⟩ = some (.slice A1_14 l1_14.length c1_14) := (blk_cell BK117.out 14).trans rfl
            have hcz51_15 : wc.cell? ⟨gb117, 15, none⟩ = some (.int .i64 a1_15) := (blk_cell BK117.out 15).trans rfl
            have hcz51_16 : wc.cell? ⟨gb117, 16, none⟩ = some (.int .i64 a1_16) := (blk_cell BK117.out 16).trans rfl
            have hfz51_0 := blk_frozen BK117.out 0
            have hfz51_1 := blk_frozen BK117.out 1
            have hfz51_2 := blk_frozen BK117.out 2
            have hfz51_3 := blk_frozen BK117.out 3
            have hfz51_4 := blk_frozen BK117.out 4
            have hfz51_5 := blk_frozen BK117.out 5
            have hfz51_6 := blk_frozen BK117.out 6
            have hfz51_7 := blk_frozen BK117.out 7
            have hfz51_8 := blk_frozen BK117.out 8
            have hfz51_9 := blk_frozen BK117.out 9
            have hfz51_10 := blk_frozen BK117.out 10
            have hfz51_11 := blk_frozen BK117.out 11
            have hfz51_12 := blk_frozen BK117.out 12
            have hfz51_13 := blk_frozen BK117.out 13
            have hfz51_14 := blk_frozen BK117.out 14
            have hfz51_15 := blk_frozen BK117.out 15
            have hfz51_16 := blk_frozen BK117.out 16
            go_wp2_with (first | ((with_reducible refine gate_callee (f := 55) rfl ?_); refine goesL_ (some 56) rfl rfl Tryd.func55 (by kernel_rfl) rfl #[.agg #[.string a0_7, .int .i64 a0_8, .int .i64 a0_9, .int .i64 a0_10, .bool a0_11, .slice A0_12 l0_12.length c0_12], .agg #[.string a1_7, .int .i64 a1_8, .int .i64 a1_9, .int .i64 a1_10, .bool a1_11, .slice A1_12 l1_12.length c1_12]] rfl (by (try simp only [List.map_toArray, List.map_cons, List.map_nil]); first | done | rfl | (simp only [List.length_drop, List.length_take]; rfl)) ?_; (with_reducible refine (icehouseref03_Same.calls kj2 a0_7 a0_8 a0_9 a0_10 a0_11 _ _ l0_12 a1_7 a1_8 a1_9 a1_10 a1_11 _ _ l1_12 true _ ?side1 ?side2 ?side3 ?side4 A34.out).mono ?_); (case side1 => repeat (first | exact (Kd.C_below HR0_12.out HB.out) | (with_reducible refine Kd.C_alloc ?_ _) | (with_reducible refine Kd.C_drewN ?_ _) | (with_reducible refine Kd.C_drew ?_))); (case side2 => exact HC0_12.out); (case side3 => repeat (first | exact (Kd.C_below HR1_12.out HB.out) | (with_reducible refine Kd.C_alloc ?_ _) | (with_reducible refine Kd.C_drewN ?_ _) | (with_reducible refine Kd.C_drew ?_))); (case side4 => exact HC1_12.out); rintro e w52 ⟨rfl, hb⟩; refine ⟨_, rfl, ?_⟩; have n0_ := Aside0.mk (blk_below (g := gb116) (o := .cells #[.int .i64 a0_0, .int .i64 a0_1, .int .i64 a0_2, .int .i64 a0_3, .int .i64 a0_4, .int .i64 a0_5, .bool a0_6, .string a0_7, .int .i64 a0_8, .int .i64 a0_9, .int .i64 a0_10, .bool a0_11, .slice A0_12 l0_12.length c0_12, .slice A0_13 l0_13.length c0_13, .slice A0_14 l0_14.length c0_14, .int .i64 a0_15, .int .i64 a0_16] 34 (0, 0)) (by (with_reducible repeat (first | refine blk_drewN ?_ _ | refine blk_drew ?_ | refine blk_alloc ?_ _)); exact BK116.out) hb); have n1_ := Aside0.mk (blk_below (g := gb117) (o := .cells #[.int .i64 a1_0, .int .i64 a1_1, .int .i64 a1_2, .int .i64 a1_3, .int .i64 a1_4, .int .i64 a1_5, .bool a1_6, .string a1_7, .int .i64 a1_8, .int .i64 a1_9, .int .i64 a1_10, .bool a1_11, .slice A1_12 l1_12.length c1_12, .slice A1_13 l1_13.length c1_13, .slice A1_14 l1_14.length c1_14, .int .i64 a1_15, .int .i64 a1_16] 34 (0, 0)) (by (with_reducible repeat (first | refine blk_drewN ?_ _ | refine blk_drew ?_ | refine blk_alloc ?_ _)); exact BK117.out) hb); have n2_ := Aside0.mk (below_step (by repeat (first | (with_reducible first | exact HB.out | apply below_alloc | apply pw_below_drewN | apply below_drew1 | refine below_set ?_ GE116.out | refine below_set ?_ GE117.out) | exact HB.out)) hb); clear BK116; clear BK117; clear HB; have BK116 := n0_; have BK117 := n1_; have HB := n2_; clear n0_ n1_ n2_; (try clear hb); (try clear hb2); (try clear hk); (try clear hi); have hcz53_0 : w52.cell? ⟨gb116, 0, none⟩ = some (.int .i64 a0_0) := (blk_cell BK116.out 0).trans rfl; have hcz53_1 : w52.cell? ⟨gb116, 1, none⟩ = some (.int .i64 a0_1) := (blk_cell BK116.out 1).trans rfl; have hcz53_2 : w52.cell? ⟨gb116, 2, none⟩ = some (.int .i64 a0_2) := (blk_cell BK116.out 2).trans rfl; have hcz53_3 : w52.cell? ⟨gb116, 3, none⟩ = some (.int .i64 a0_3) := (blk_cell BK116.out 3).trans rfl; have hcz53_4 : w52.cell? ⟨gb116, 4, none⟩ = some (.int .i64 a0_4) := (blk_cell BK116.out 4).trans rfl; have hcz53_5 : w52.cell? ⟨gb116, 5, none⟩ = some (.int .i64 a0_5) := (blk_cell BK116.out 5).trans rfl; have hcz53_6 : w52.cell? ⟨gb116, 6, none⟩ = some (.bool a0_6) := (blk_cell BK116.out 6).trans rfl; have hcz53_7 : w52.cell? ⟨gb116, 7, none⟩ = some (.string a0_7) := (blk_cell BK116.out 7).trans rfl; have hcz53_8 : w52.cell? ⟨gb116, 8, none⟩ = some (.int .i64 a0_8) := (blk_cell BK116.out 8).trans rfl; have hcz53_9 : w52.cell? ⟨gb116, 9, none⟩ = some (.int .i64 a0_9) := (blk_cell BK116.out 9).trans rfl; have hcz53_10 : w52.cell? ⟨gb116, 10, none⟩ = some (.int .i64 a0_10) := (blk_cell BK116.out 10).trans rfl; have hcz53_11 : w52.cell? ⟨gb116, 11, none⟩ = some (.bool a0_11) := (blk_cell BK116.out 11).trans rfl; have hcz53_12 : w52.cell? ⟨gb116, 12, none⟩ = some (.slice A0_12 l0_12.length c0_12) := (blk_cell BK116.out 12).trans rfl; have hcz53_13 : w52.cell? ⟨gb116, 13, none⟩ = some (.slice A0_13 l0_13.length c0_13) := (blk_cell BK116.out 13).trans rfl; have hcz53_14 : w52.cell? ⟨gb116, 14, none⟩ = some (.slice A0_14 l0_14.length c0_14) := (blk_cell BK116.out 14).trans rfl; have hcz53_15 : w52.cell? ⟨gb116, 15, none⟩ = some (.int .i64 a0_15) := (blk_cell BK116.out 15).trans rfl; have hcz53_16 : w52.cell? ⟨gb116, 16, none⟩ = some (.int .i64 a0_16) := (blk_cell BK116.out 16).trans rfl; have hfz53_0 := blk_frozen BK116.out 0; have hfz53_1 := blk_frozen BK116.out 1; have hfz53_2 := blk_frozen BK116.out 2; have hfz53_3 := blk_frozen BK116.out 3; have hfz53_4 := blk_frozen BK116.out 4; have hfz53_5 := blk_frozen BK116.out 5; have hfz53_6 := blk_frozen BK116.out 6; have hfz53_7 := blk_frozen BK116.out 7; have hfz53_8 := blk_frozen BK116.out 8; have hfz53_9 := blk_frozen BK116.out 9; have hfz53_10 := blk_frozen BK116.out 10; have hfz53_11 := blk_frozen BK116.out 11; have hfz53_12 := blk_frozen BK116.out 12; have hfz53_13 := blk_frozen BK116.out 13; have hfz53_14 := blk_frozen BK116.out 14; have hfz53_15 := blk_frozen BK116.out 15; have hfz53_16 := blk_frozen BK116.out 16; have hcz54_0 : w52.cell? ⟨gb117, 0, none⟩ = some (.int .i64 a1_0) := (blk_cell BK117.out 0).trans rfl; have hcz54_1 : w52.cell? ⟨gb117, 1, none⟩ = some (.int .i64 a1_1) := (blk_cell BK117.out 1).trans rfl; have hcz54_2 : w52.cell? ⟨gb117, 2, none⟩ = some (.int .i64 a1_2) := (blk_cell BK117.out 2).trans rfl; have hcz54_3 : w52.cell? ⟨gb117, 3, none⟩ = some (.int .i64 a1_3) := (blk_cell BK117.out 3).trans rfl; have hcz54_4 : w52.cell? ⟨gb117, 4, none⟩ = some (.int .i64 a1_4) := (blk_cell BK117.out 4).trans rfl; have hcz54_5 : w52.cell? ⟨gb117, 5, none⟩ = some (.int .i64 a1_5) := (blk_cell BK117.out 5).trans rfl; have hcz54_6 : w52.cell? ⟨gb117, 6, none⟩ = some (.bool a1_6) := (blk_cell BK117.out 6).trans rfl; have hcz54_7 : w52.cell? ⟨gb117, 7, none⟩ = some (.string a1_7) := (blk_cell BK117.out 7).trans rfl; have hcz54_8 : w52.cell? ⟨gb117, 8, none⟩ = some (.int .i64 a1_8) := (blk_cell BK117.out 8).trans rfl; have hcz54_9 : w52.cell? ⟨gb117, 9, none⟩ = some (.int .i64 a1_9) := (blk_cell BK117.out 9).trans rfl; have hcz54_10 : w52.cell? ⟨gb117, 10, none⟩ = some (.int .i64 a1_10) := (blk_cell BK117.out 10).trans rfl; have hcz54_11 : w52.cell? ⟨gb117, 11, none⟩ = some (.bool a1_11) := (blk_cell BK117.out 11).trans rfl; have hcz54_12 : w52.cell? ⟨gb117, 12, none⟩ = some (.slice A1_12 l1_12.length c1_12) := (blk_cell BK117.out 12).trans rfl; have hcz54_13 : w52.cell? ⟨gb117, 13, none⟩ = some (.slice A1_13 l1_13.length c1_13) := (blk_cell BK117.out 13).trans rfl; have hcz54_14 : w52.cell? ⟨gb117, 14, none⟩ = some (.slice A1_14 l1_14.length c1_14) := (blk_cell BK117.out 14).trans rfl; have hcz54_15 : w52.cell? ⟨gb117, 15, none⟩ = some (.int .i64 a1_15) := (blk_cell BK117.out 15).trans rfl; have hcz54_16 : w52.cell? ⟨gb117, 16, none⟩ = some (.int .i64 a1_16) := (blk_cell BK117.out 16).trans rfl; have hfz54_0 := blk_frozen BK117.out 0; have hfz54_1 := blk_frozen BK117.out 1; have hfz54_2 := blk_frozen BK117.out 2; have hfz54_3 := blk_frozen BK117.out 3; have hfz54_4 := blk_frozen BK117.out 4; have hfz54_5 := blk_frozen BK117.out 5; have hfz54_6 := blk_frozen BK117.out 6; have hfz54_7 := blk_frozen BK117.out 7; have hfz54_8 := blk_frozen BK117.out 8; have hfz54_9 := blk_frozen BK117.out 9; have hfz54_10 := blk_frozen BK117.out 10; have hfz54_11 := blk_frozen BK117.out 11; have hfz54_12 := blk_frozen BK117.out 12; have hfz54_13 := blk_frozen BK117.out 13; have hfz54_14 := blk_frozen BK117.out 14; have hfz54_15 := blk_frozen BK117.out 15; have hfz54_16 := blk_frozen BK117.out 16) | (go_at_call 56; (with_reducible refine (icehouseref03_SameAll.calls kj2 _ _ l0_13 _ _ l1_13 false _ ?side1 ?side2 ?side3 ?side4 A36.out).mono ?_); (case side1 => repeat (first | exact (Kd.C_below HR0_13.out HB.out) | (with_reducible refine Kd.C_alloc ?_ _) | (with_reducible refine Kd.C_drewN ?_ _) | (with_reducible refine Kd.C_drew ?_))); (case side2 => exact HC0_13.out); (case side3 => repeat (first | exact (Kd.C_below HR1_13.out HB.out) | (with_reducible refine Kd.C_alloc ?_ _) | (with_reducible refine Kd.C_drewN ?_ _) | (with_reducible refine Kd.C_drew ?_))); (case side4 => exact HC1_13.out); rintro e w55 ⟨rfl, hb⟩; have n0_ := Aside0.mk (blk_below (g := gb116) (o := .cells #[.int .i64 a0_0, .int .i64 a0_1, .int .i64 a0_2, .int .i64 a0_3, .int .i64 a0_4, .int .i64 a0_5, .bool a0_6, .string a0_7, .int .i64 a0_8, .int .i64 a0_9, .int .i64 a0_10, .bool a0_11, .slice A0_12 l0_12.length c0_12, .slice A0_13 l0_13.length c0_13, .slice A0_14 l0_14.length c0_14, .int .i64 a0_15, .int .i64 a0_16] 34 (0, 0)) (by (with_reducible repeat (first | refine blk_drewN ?_ _ | refine blk_drew ?_ | refine blk_alloc ?_ _)); exact BK116.out) hb); have n1_ := Aside0.mk (blk_below (g := gb117) (o := .cells #[.int .i64 a1_0, .int .i64 a1_1, .int .i64 a1_2, .int .i64 a1_3, .int .i64 a1_4, .int .i64 a1_5, .bool a1_6, .string a1_7, .int .i64 a1_8, .int .i64 a1_9, .int .i64 a1_10, .bool a1_11, .slice A1_12 l1_12.length c1_12, .slice A1_13 l1_13.length c1_13, .slice A1_14 l1_14.length c1_14, .int .i64 a1_15, .int .i64 a1_16] 34 (0, 0)) (by (with_reducible repeat (first | refine blk_drewN ?_ _ | refine blk_drew ?_ | refine blk_alloc ?_ _)); exact BK117.out) hb); have n2_ := Aside0.mk (below_step (by repeat (first | (with_reducible first | exact HB.out | apply below_alloc | apply pw_below_drewN | apply below_drew1 | refine below_set ?_ GE116.out | refine below_set ?_ GE117.out) | exact HB.out)) hb); clear BK116; clear BK117; clear HB; have BK116 := n0_; have BK117 := n1_; have HB := n2_; clear n0_ n1_ n2_; (try clear hb); (try clear hb2); (try clear hk); (try clear hi)))
            go_ret
            exact ⟨by first | rfl | (simp [errW_none, errW_some] <;> rfl) | (simp [*, errW_none, errW_some] <;> rfl), by repeat (first | (with_reducible first | exact HB.out | apply below_alloc | apply pw_below_drewN | apply below_drew1 | refine below_set ?_ GE116.out | refine below_set ?_ GE117.out) | exact HB.out)⟩
        · replace c35 := Bool.eq_false_iff.mpr c35
          subst c35
          have H1 : (some false) = some r := by rw [if_neg (show ¬ (false = true) by decide)] at H; exact H
          clear H
          have H := H1
          clear H1
          obtain rfl := Option.some.inj H
          have hnb56 := NB116_117.out
          have hnc56 := NB117_116.out
          have hcz57_0 : wc.cell? ⟨gb116, 0, none⟩ = some (.int .i64 a0_0) := (blk_cell BK116.out 0).trans rfl
          have hcz57_1 : wc.cell? ⟨gb116, 1, none⟩ = some (.int .i64 a0_1) := (blk_cell BK116.out 1).trans rfl
          have hcz57_2 : wc.cell? ⟨gb116, 2, none⟩ = some (.int .i64 a0_2) := (blk_cell BK116.out 2).trans rfl
          have hcz57_3 : wc.cell? ⟨gb116, 3, none⟩ = some (.int .i64 a0_3) := (blk_cell BK116.out 3).trans rfl
          have hcz57_4 : wc.cell? ⟨gb116, 4, none⟩ = some (.int .i64 a0_4) := (blk_cell BK116.out 4).trans rfl
          have hcz57_5 : wc.cell? ⟨gb116, 5, none⟩ = some (.int .i64 a0_5) := (blk_cell BK116.out 5).trans rfl
          have hcz57_6 : wc.cell? ⟨gb116, 6, none⟩ = some (.bool a0_6) := (blk_cell BK116.out 6).trans rfl
          have hcz57_7 : wc.cell? ⟨gb116, 7, none⟩ = some (.string a0_7) := (blk_cell BK116.out 7).trans rfl
          have hcz57_8 : wc.cell? ⟨gb116, 8, none⟩ = some (.int .i64 a0_8) := (blk_cell BK116.out 8).trans rfl
          have hcz57_9 : wc.cell? ⟨gb116, 9, none⟩ = some (.int .i64 a0_9) := (blk_cell BK116.out 9).trans rfl
          have hcz57_10 : wc.cell? ⟨gb116, 10, none⟩ = some (.int .i64 a0_10) := (blk_cell BK116.out 10).trans rfl
          have hcz57_11 : wc.cell? ⟨gb116, 11, none⟩ = some (.bool a0_11) := (blk_cell BK116.out 11).trans rfl
          have hcz57_12 : wc.cell? ⟨gb116, 12, none⟩ = some (.slice A0_12 l0_12.length c0_12) := (blk_cell BK116.out 12).trans rfl
          have hcz57_13 : wc.cell? ⟨gb116, 13, none⟩ = some (.slice A0_13 l0_13.length c0_13) := (blk_cell BK116.out 13).trans rfl
          have hcz57_14 : wc.cell? ⟨gb116, 14, none⟩ = some (.slice A0_14 l0_14.length c0_14) := (blk_cell BK116.out 14).trans rfl
          have hcz57_15 : wc.cell? ⟨gb116, 15, none⟩ = some (.int .i64 a0_15) := (blk_cell BK116.out 15).trans rfl
          have hcz57_16 : wc.cell? ⟨gb116, 16, none⟩ = some (.int .i64 a0_16) := (blk_cell BK116.out 16).trans rfl
          have hfz57_0 := blk_frozen BK116.out 0
          have hfz57_1 := blk_frozen BK116.out 1
          have hfz57_2 := blk_frozen BK116.out 2
          have hfz57_3 := blk_frozen BK116.out 3
          have hfz57_4 := blk_frozen BK116.out 4
          have hfz57_5 := blk_frozen BK116.out 5
          have hfz57_6 := blk_frozen BK116.out 6
          have hfz57_7 := blk_frozen BK116.out 7
          have hfz57_8 := blk_frozen BK116.out 8
          have hfz57_9 := blk_frozen BK116.out 9
          have hfz57_10 := blk_frozen BK116.out 10
          have hfz57_11 := blk_frozen BK116.out 11
          have hfz57_12 := blk_frozen BK116.out 12
          have hfz57_13 := blk_frozen BK116.out 13
          have hfz57_14 := blk_frozen BK116.out 14
          have hfz57_15 := blk_frozen BK116.out 15
          have hfz57_16 := blk_frozen BK116.out 16
          have hcz58_0 : wc.cell? ⟨gb117, 0, none⟩ = some (.int .i64 a1_0) := (blk_cell BK117.out 0).trans rfl
          have hcz58_1 : wc.cell? ⟨gb117, 1, none⟩ = some (.int .i64 a1_1) := (blk_cell BK117.out 1).trans rfl
          have hcz58_2 : wc.cell? ⟨gb117, 2, none⟩ = some (.int .i64 a1_2) := (blk_cell BK117.out 2).trans rfl
          have hcz58_3 : wc.cell? ⟨gb117, 3, none⟩ = some (.int .i64 a1_3) := (blk_cell BK117.out 3).trans rfl
          have hcz58_4 : wc.cell? ⟨gb117, 4, none⟩ = some (.int .i64 a1_4) := (blk_cell BK117.out 4).trans rfl
          have hcz58_5 : wc.cell? ⟨gb117, 5, none⟩ = some (.int .i64 a1_5) := (blk_cell BK117.out 5).trans rfl
          have hcz58_6 : wc.cell? ⟨gb117, 6, none⟩ = some (.bool a1_6) := (blk_cell BK117.out 6).trans rfl
          have hcz58_7 : wc.cell? ⟨gb117, 7, none⟩ = some (.string a1_7) := (blk_cell BK117.out 7).trans rfl
          have hcz58_8 : wc.cell? ⟨gb117, 8, none⟩ = some (.int .i64 a1_8) := (blk_cell BK117.out 8).trans rfl
          have hcz58_9 : wc.cell? ⟨gb117, 9, none⟩ = some (.int .i64 a1_9) := (blk_cell BK117.out 9).trans rfl
          have hcz58_10 : wc.cell? ⟨gb117, 10, none⟩ = some (.int .i64 a1_10) := (blk_cell BK117.out 10).trans rfl
          have hcz58_11 : wc.cell? ⟨gb117, 11, none⟩ = some (.bool a1_11) := (blk_cell BK117.out 11).trans rfl
          have hcz58_12 : wc.cell? ⟨gb117, 12, none⟩ = some (.slice A1_12 l1_12.length c1_12) := (blk_cell BK117.out 12).trans rfl
          have hcz58_13 : wc.cell? ⟨gb117, 13, none⟩ = some (.slice A1_13 l1_13.length c1_13) := (blk_cell BK117.out 13).trans rfl
          have hcz58_14 : wc.cell? ⟨gb117, 14, none⟩ = some (.slice A1_14 l1_14.length c1_14) := (blk_cell BK117.out 14).trans rfl
          have hcz58_15 : wc.cell? ⟨gb117, 15, none⟩ = some (.int .i64 a1_15) := (blk_cell BK117.out 15).trans rfl
          have hcz58_16 : wc.cell? ⟨gb117, 16, none⟩ = some (.int .i64 a1_16) := (blk_cell BK117.out 16).trans rfl
          have hfz58_0 := blk_frozen BK117.out 0
          have hfz58_1 := blk_frozen BK117.out 1
          have hfz58_2 := blk_frozen BK117.out 2
          have hfz58_3 := blk_frozen BK117.out 3
          have hfz58_4 := blk_frozen BK117.out 4
          have hfz58_5 := blk_frozen BK117.out 5
          have hfz58_6 := blk_frozen BK117.out 6
          have hfz58_7 := blk_frozen BK117.out 7
          have hfz58_8 := blk_frozen BK117.out 8
          have hfz58_9 := blk_frozen BK117.out 9
          have hfz58_10 := blk_frozen BK117.out 10
          have hfz58_11 := blk_frozen BK117.out 11
          have hfz58_12 := blk_frozen BK117.out 12
          have hfz58_13 := blk_frozen BK117.out 13
          have hfz58_14 := blk_frozen BK117.out 14
          have hfz58_15 := blk_frozen BK117.out 15
          have hfz58_16 := blk_frozen BK117.out 16
          go_wp2_with (first | ((with_reducible refine gate_callee (f := 55) rfl ?_); refine goesL_ (some 56) rfl rfl Tryd.func55 (by kernel_rfl) rfl #[.agg #[.string a0_7, .int .i64 a0_8, .int .i64 a0_9, .int .i64 a0_10, .bool a0_11, .slice A0_12 l0_12.length c0_12], .agg #[.string a1_7, .int .i64 a1_8, .int .i64 a1_9, .int .i64 a1_10, .bool a1_11, .slice A1_12 l1_12.length c1_12]] rfl (by (try simp only [List.map_toArray, List.map_cons, List.map_nil]); first | done | rfl | (simp only [List.length_drop, List.length_take]; rfl)) ?_; (with_reducible refine (icehouseref03_Same.calls kj2 a0_7 a0_8 a0_9 a0_10 a0_11 _ _ l0_12 a1_7 a1_8 a1_9 a1_10 a1_11 _ _ l1_12 false _ ?side1 ?side2 ?side3 ?side4 A34.out).mono ?_); (case side1 => repeat (first | exact (Kd.C_below HR0_12.out HB.out) | (with_reducible refine Kd.C_alloc ?_ _) | (with_reducible refine Kd.C_drewN ?_ _) | (with_reducible refine Kd.C_drew ?_))); (case side2 => exact HC0_12.out); (case side3 => repeat (first | exact (Kd.C_below HR1_12.out HB.out) | (with_reducible refine Kd.C_alloc ?_ _) | (with_reducible refine Kd.C_drewN ?_ _) | (with_reducible refine Kd.C_drew ?_))); (case side4 => exact HC1_12.out); rintro e w59 ⟨rfl, hb⟩; refine ⟨_, rfl, ?_⟩; have n0_ := Aside0.mk (blk_below (g := gb116) (o := .cells #[.int .i64 a0_0, .int .i64 a0_1, .int .i64 a0_2, .int .i64 a0_3, .int .i64 a0_4, .int .i64 a0_5, .bool a0_6, .string a0_7, .int .i64 a0_8, .int .i64 a0_9, .int .i64 a0_10, .bool a0_11, .slice A0_12 l0_12.length c0_12, .slice A0_13 l0_13.length c0_13, .slice A0_14 l0_14.length c0_14, .int .i64 a0_15, .int .i64 a0_16] 34 (0, 0)) (by (with_reducible repeat (first | refine blk_drewN ?_ _ | refine blk_drew ?_ | refine blk_alloc ?_ _)); exact BK116.out) hb); have n1_ := Aside0.mk (blk_below (g := gb117) (o := .cells #[.int .i64 a1_0, .int .i64 a1_1, .int .i64 a1_2, .int .i64 a1_3, .int .i64 a1_4, .int .i64 a1_5, .bool a1_6, .string a1_7, .int .i64 a1_8, .int .i64 a1_9, .int .i64 a1_10, .bool a1_11, .slice A1_12 l1_12.length c1_12, .slice A1_13 l1_13.length c1_13, .slice A1_14 l1_14.length c1_14, .int .i64 a1_15, .int .i64 a1_16] 34 (0, 0)) (by (with_reducible repeat (first | refine blk_drewN ?_ _ | refine blk_drew ?_ | refine blk_alloc ?_ _)); exact BK117.out) hb); have n2_ := Aside0.mk (below_step (by repeat (first | (with_reducible first | exact HB.out | apply below_alloc | apply pw_below_drewN | apply below_drew1 | refine below_set ?_ GE116.out | refine below_set ?_ GE117.out) | exact HB.out)) hb); clear BK116; clear BK117; clear HB; have BK116 := n0_; have BK117 := n1_; have HB := n2_; clear n0_ n1_ n2_; (try clear hb); (try clear hb2); (try clear hk); (try clear hi)))
          go_ret
          exact ⟨by first | rfl | (simp [errW_none, errW_some] <;> rfl) | (simp [*, errW_none, errW_some] <;> rfl), by repeat (first | (with_reducible first | exact HB.out | apply below_alloc | apply pw_below_drewN | apply below_drew1 | refine below_set ?_ GE116.out | refine below_set ?_ GE117.out) | exact HB.out)⟩
end Go.Proofs.YthaoiamgkpkcbaaDoor.QS
