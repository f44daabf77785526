/- Written by a program of this session over the kit's print: functions and their contracts. · Written by a program of this session over the kit's print: functions and their contracts. · Written by a program of this session over the kit's print: functions and their contracts. · Points of rings and who keeps a word, plain. No program. Conditions: none. · Who keeps a word, plain: what ring.At comes to. Conditions: a ring that may be. · The reference's words of points and keys are the program's. Plain. Conditions: none. · The reference's points are the program's. Plain. Conditions: a ring that may be. · What the chapter's examples fix holds, plain. Conditions: none. · Who keeps a word: the reference's answer is the program's. Plain. Conditions: a ring that may be. · Written by a program of this session over the kit's print: functions and their contracts. -/
import Derived.Test.YtdfjeanlhafipaaYRingKeeps3
import Derived.Lib.Hide
import Derived.Laws.BitsAllLaws
import Derived.Test.YtdfjeanlhafipaaProg
import Derived.Below
import Derived.Deep.Draws
import Derived.Deep.AppendLies
import Derived.Maps.AppendAt
import Derived.OwnWalk
import Derived.Laws.BytesArg
import Derived.Laws.MakeOwn
import Derived.Laws.OwnMore
import Derived.Deep.OwnRows
import Derived.Tactics
import Derived.Lib.ConvBytes
import Derived.Laws.Slices
import Derived.WalkKit
import Derived.KernelRfl
import Derived.RowKit3
import Derived.Deep.LoopGhost
import Derived.Deep.QuietTactic
import Derived.BigQuiet
import Derived.WideLaws
import Derived.Deep.DeepCutAuto
import Derived.Deep.CutBlock
import Derived.Deep.RegionHeld3
import Derived.Laws.Rows
import Derived.Lib.AppendStr
import Derived.ArgAppend
import Derived.Laws.IdiomCopy
import Derived.OrdersHeld
import Derived.Laws.BitsLemmas
import Derived.RowKit
import Derived.Test.YtdfjeanlhafipaaYRingKeeps2
import Derived.Test.YtdfjeanlhafipaaYRingKeeps0

namespace Go.Proofs.Ytdfjeanlhafipaa.QR
open Go.Proofs.Ytdfjeanlhafipaa.QH
open Go.RowKit Go.Proofs.YtdfjeanlhafipaaW.PrintWords Go.Proofs.YtdfjeanlhafipaaW.PrintLast Go.Proofs.YtdfjeanlhafipaaW.PrintMore
attribute [local go_sem] max2_int min2_int max_two min_two max_three min_three max_four min_four   -- for this text's walks alone
set_option linter.unusedVariables false
set_option linter.unusedSimpArgs false
/-! ### ring_At: function 13 -/
def ring_At.f (l0_0 : List Int) (a0_1 : Int) (a0_2 : Int) (a1 : Int) : Option (List Int × Int) := (Hs.ring_Points.f l0_0 a0_1 a0_2).bind fun bt102 => (if bt102.2 = 0 then ((Hs.ring_first.f bt102.1 a1).bind fun t106 => ((Hs.ring_meet.f bt102.1 t106 a0_2).bind fun t107 => (some (t107, 0)))) else (some (([] : List Int), bt102.2)))
def ring_At.T4 : Bool × List (List Nat × List Nat) := (true, [([], []), ([], []), ([], []), ([1, 2], [1, 2]), ([], []), ([4], [4]), ([0, 3, 5, 3], [0, 3, 5]), ([6, 6, 0, 1, 2, 3, 4, 5, 6], [6]), ([7, 0, 1, 2, 3, 4, 5, 6, 7], [])])
def ring_At.B4 : List Nat := [0, 0, 0, 6, 0, 16, 63, 127, 255]
theorem ring_At.tab4 : rtab .any (opsOf Try.f13 4) = ring_At.T4 := by kernel_rfl
theorem ring_At.bits4 : waitsOk ring_At.T4.2 ring_At.B4 = true := by kernel_rfl
set_option maxHeartbeats 8000000 in
set_option maxRecDepth 100000 in
theorem ring_At.calls (A0_0 : Option Addr) (c0_0 : Nat) (l0_0 : List Int) (a0_1 : Int) (a0_2 : Int) (a1 : Int) (r1 : List Int) (r2 : Int) (w : World) (hr0_0 : Kd.C (Kd.int .i64) w A0_0 l0_0.length l0_0) (hc0_0 : l0_0.length ≤ c0_0) (h : ring_At.f l0_0 a0_1 a0_2 a1 = some (r1, r2)) :
    Calls Try.prog 13 #[.agg #[.slice A0_0 l0_0.length c0_0, .int .i64 a0_1, .int .i64 a0_2], .int .u64 a1] w fun e w' => ∃ v0_ : Value, e = .returned (.tuple #[v0_, .int .i64 r2]) ∧ Kd.R (Kd.int .i64) 3 w' w.heap.size (fun _ => True) v0_ r1 ∧ Below w.heap.size w w' := by
  have hu24 := Try.underlying24
  have HR0_0 := Aside0.mk hr0_0
  have HC0_0 := Aside0.mk hc0_0
  clear hr0_0 hc0_0
  have HB := Aside0.mk (Below.refl w.heap.size w)
  have H : ((Hs.ring_Points.f l0_0 a0_1 a0_2).bind fun bt102 => (if bt102.2 = 0 then ((Hs.ring_first.f bt102.1 a1).bind fun t106 => ((Hs.ring_meet.f bt102.1 t106 a0_2).bind fun t107 => (some (t107, 0)))) else (some (([] : List Int), bt102.2)))) = some (r1, r2) := h
  clear h
  replace H := Option.bind_eq_some_iff.mp H
  obtain ⟨⟨t102, t105⟩, A30, H⟩ := H
  replace H : (if t105 = 0 then ((Hs.ring_first.f t102 a1).bind fun t106 => ((Hs.ring_meet.f t102 t106 a0_2).bind fun t107 => (some (t107, 0)))) else (some (([] : List Int), t105))) = some (r1, r2) := H
  have A3 := Aside0.mk A30
  clear A30
  by_cases c4 : t105 = 0
  · rw [if_pos c4] at H
    have c4b0 : (t105 == 0) = true := beq_iff_eq.mpr c4
    have c4b1 : (t105 != 0) = false := bne_eq_false_iff_eq.mpr c4
    clear c4
    replace H := Option.bind_eq_some_iff.mp H
    obtain ⟨t106, A50, H⟩ := H
    replace H : ((Hs.ring_meet.f t102 t106 a0_2).bind fun t107 => (some (t107, 0))) = some (r1, r2) := H
    have A5 := Aside0.mk A50
    clear A50
    replace H := Option.bind_eq_some_iff.mp H
    obtain ⟨t107, A60, H⟩ := H
    replace H : (some (t107, 0)) = some (r1, r2) := H
    have A6 := Aside0.mk A60
    clear A60
    simp only [Option.some.injEq, Prod.mk.injEq] at H
    obtain ⟨rfl, rfl⟩ := H
    go_enter Try.func13, Try.ntmps13
    try go_wp2_with (first | ((with_reducible refine gate_dst (N := 2) rfl ?_); refine box_event ?hg (N := 2) ?hd (cs := #[.slice A0_0 l0_0.length c0_0, .int .i64 a0_1, .int .i64 a0_2]) (t := 24) ?hr ?_; (case hd => rfl); (case hg => rfl); (case hr => first | (go_simp; done) | (go_simp; rfl)); intro gb101 hg w7 hbox hb; have n0_ := Aside0.mk (below_step (by repeat (first | (with_reducible first | exact HB.out | apply below_alloc | apply pw_below_drewN | apply below_drew1) | exact HB.out)) hb); have n1_ := Aside0.mk (hbox); have n2_ := Aside0.mk ((by rw [hg]; exact (below_size (by repeat (first | (with_reducible first | exact HB.out | apply below_alloc | apply pw_below_drewN | apply below_drew1) | exact HB.out))) : w.heap.size ≤ gb101)); have n3_ := Aside0.mk ((by rw [hg]; exact (below_size (by repeat (first | (with_reducible first | exact HB.out | apply below_alloc | apply pw_below_drewN | apply below_drew1) | exact HB.out))) : w.heap.size ≤ gb101)); clear HB; have HB := n0_; have BK101 := n1_; have GW101 := n2_; have GE101 := n3_; clear n0_ n1_ n2_ n3_; clear hb hbox hg; have hcz8_0 : w7.cell? ⟨gb101, 0, none⟩ = some (.slice A0_0 l0_0.length c0_0) := (blk_cell BK101.out 0).trans rfl; have hcz8_1 : w7.cell? ⟨gb101, 1, none⟩ = some (.int .i64 a0_1) := (blk_cell BK101.out 1).trans rfl; have hcz8_2 : w7.cell? ⟨gb101, 2, none⟩ = some (.int .i64 a0_2) := (blk_cell BK101.out 2).trans rfl; have hfz8_0 := blk_frozen BK101.out 0; have hfz8_1 := blk_frozen BK101.out 1; have hfz8_2 := blk_frozen BK101.out 2) | ((with_reducible refine gate_callee (f := 23) rfl ?_); refine goesL_ (some 10) rfl rfl Try.func23 (by kernel_rfl) rfl #[.agg #[.slice A0_0 l0_0.length c0_0, .int .i64 a0_1, .int .i64 a0_2]] rfl (by (try simp only [List.map_toArray, List.map_cons, List.map_nil]); first | done | rfl | (simp only [List.length_drop, List.length_take]; rfl)) ?_; (with_reducible refine (Hs.ring_Points.calls _ _ l0_0 a0_1 a0_2 t102 t105 _ ?side1 ?side2 A3.out).mono ?_); (case side1 => repeat (first | exact (Kd.C_below HR0_0.out HB.out) | (with_reducible refine Kd.C_alloc ?_ _) | (with_reducible refine Kd.C_drewN ?_ _) | (with_reducible refine Kd.C_drew ?_))); (case side2 => exact HC0_0.out); rintro e w9 ⟨v103, rfl, ho0, hb⟩; refine ⟨_, rfl, ?_⟩; have n0_ := Aside0.mk (Kd.R_lower ho0 (below_size (by repeat (first | (with_reducible first | exact HB.out | apply below_alloc | apply pw_below_drewN | apply below_drew1 | refine below_set ?_ GE101.out) | exact HB.out)))); have n1_ := Aside0.mk (blk_below (g := gb101) (o := .cells #[.slice A0_0 l0_0.length c0_0, .int .i64 a0_1, .int .i64 a0_2] 24 (0, 0)) (by (with_reducible repeat (first | refine blk_drewN ?_ _ | refine blk_drew ?_ | refine blk_alloc ?_ _)); exact BK101.out) hb); have n2_ := Aside0.mk (below_step (by repeat (first | (with_reducible first | exact HB.out | apply below_alloc | apply pw_below_drewN | apply below_drew1 | refine below_set ?_ GE101.out) | exact HB.out)) hb); clear BK101; clear HB; have HO104 := n0_; have BK101 := n1_; have HB := n2_; clear n0_ n1_ n2_; (try clear hb); (try clear hb2); (try clear hk); (try clear hi); (try clear ho0)))
    have n0_ := Aside0.mk (Kd.R_drew HO104.out)
    have n1_ := Aside0.mk (blk_drew BK101.out)
    have n2_ := Aside0.mk (below_drew1 HB.out)
    clear HO104
    clear BK101
    clear HB
    have HO104 := n0_
    have BK101 := n1_
    have HB := n2_
    clear n0_ n1_ n2_
    obtain ⟨Ao11, co11, eo11⟩ := Kd.R_slice HO104.out
    (first | subst eo11 | (injection eo11 with f1_ f2_ f3_; have f4_ := f1_.symm; have f5_ := f3_.symm; clear f1_ f2_ f3_; subst f4_; subst f5_))
    refine start_ (n := 9) (S := fun w' => w'.cell? ⟨gb101, 0, none⟩ = some (.slice A0_0 l0_0.length c0_0) ∧ w'.cell? ⟨gb101, 1, none⟩ = some (.int .i64 a0_1) ∧ w'.cell? ⟨gb101, 2, none⟩ = some (.int .i64 a0_2)) (ds := []) #[false, false, false, false, false, false, false, false, false] (by kernel_rfl) rfl rfl ⟨(blk_cell BK101.out 0).trans rfl, (blk_cell BK101.out 1).trans rfl, (blk_cell BK101.out 2).trans rfl⟩ (fun hHeld => ?_); refine with_tabW ring_At.tab4 ring_At.bits4 (fun HT_ HW_ => ?_)
    generalize w9.drew = w10 at HO104 BK101 HB hHeld ⊢
    refine pure_ (i := 0) (N := some 16) (v := ?_) (a' := ?_) #[true, false, false, false, false, false, false, false, false] rfl rfl (any_of HT_.out (by kernel_rfl)) (fun _ _ _ h => h) (Or.inl ⟨by rfl, ?_⟩) ?_ ?_
    rotate_left
    · intro w'
      go_simp
      with_reducible rfl
    rotate_left
    · simp only [Act.put, List.setIfInBounds_toArray, List.set_cons_zero, List.set_cons_succ, i64_w, i32_w]
      rfl
    refine pure_ (i := 1) (N := some 17) (v := ?_) (a' := ?_) #[true, true, false, false, false, false, false, false, false] rfl rfl (any_of HT_.out (by kernel_rfl)) (fun _ _ _ h => h) (Or.inl ⟨by rfl, ?_⟩) ?_ ?_
    rotate_left
    · intro w'
      go_simp
      with_reducible rfl
    rotate_left
    · simp only [Act.put, List.setIfInBounds_toArray, List.set_cons_zero, List.set_cons_succ, i64_w, i32_w]
      rfl
    refine pure_ (i := 2) (N := some 18) (v := ?_) (a' := ?_) #[true, true, true, false, false, false, false, false, false] rfl rfl (any_of HT_.out (by kernel_rfl)) (fun _ _ _ h => h) (Or.inl ⟨by rfl, ?_⟩) ?_ ?_
    rotate_left
    · intro w'
      go_simp
      with_reducible rfl
    rotate_left
    · simp only [Act.put, List.setIfInBounds_toArray, List.set_cons_zero, List.set_cons_succ, i64_w, i32_w]
      rfl
    refine pure_ (i := 4) (N := some 20) (v := ?_) (a' := ?_) #[true, true, true, false, true, false, false, false, false] rfl rfl (any_of HT_.out (by kernel_rfl)) (fun _ _ _ h => h) (Or.inl ⟨by rfl, ?_⟩) ?_ ?_
    rotate_left
    · intro w'
      go_simp
      with_reducible rfl
    rotate_left
    · simp only [Act.put, List.setIfInBounds_toArray, List.set_cons_zero, List.set_cons_succ, i64_w, i32_w]
      rfl
    refine take_ (i := 5) (N := some 21) (v := ?_) (a' := ?_) #[true, true, true, false, true, true, false, false, false] rfl rfl (take_ofW HT_.out HW_.out (by kernel_rfl)) (fun _ _ _ h => h) (Or.inl ⟨by rfl, ?_⟩) hHeld ?_ ?_
    rotate_left
    · rintro w' ⟨s0, s1, s2⟩
      go_simp
      with_reducible rfl
    rotate_left
    · simp only [Act.put, List.setIfInBounds_toArray, List.set_cons_zero, List.set_cons_succ, i64_w, i32_w]
      rfl
    refine one_ (i := 3) (N := some 19) #[true, true, true, true, true, true, false, false, false] rfl rfl (one_of HT_.out (by kernel_rfl)) (by decide) (fun K hK => ?_)
    refine goes_ Try.func34 (by kernel_rfl) rfl #[.slice Ao11 t102.length co11, .int .u64 a1] (by rfl) rfl rfl (by (try simp only [List.map_toArray, List.map_cons, List.map_nil]); first | done | rfl | (simp only [List.length_drop, List.length_take]; rfl)) ?_
    with_reducible refine (Hs.ring_first.calls _ _ t102 a1 t106 _ ?side1 ?side2 A5.out).mono ?_
    (case side1 => repeat (first | exact (Kd.R_reads' HO104.out).2.2 | (with_reducible refine Kd.C_alloc ?_ _) | (with_reducible refine Kd.C_drewN ?_ _) | (with_reducible refine Kd.C_drew ?_)))
    (case side2 => exact (Kd.R_reads' HO104.out).2.1)
    rintro e w12 ⟨rfl, hb⟩
    refine ⟨_, rfl, ?_⟩
    have n0_ := Aside0.mk (Kd.R_below (by (with_reducible repeat (first | apply Kd.R_alloc | apply Kd.R_drewN | apply Kd.R_drew)); exact HO104.out) hb)
    have n1_ := Aside0.mk (blk_below (g := gb101) (o := .cells #[.slice A0_0 l0_0.length c0_0, .int .i64 a0_1, .int .i64 a0_2] 24 (0, 0)) (by (with_reducible repeat (first | refine blk_drewN ?_ _ | refine blk_drew ?_ | refine blk_alloc ?_ _)); exact BK101.out) hb)
    have n2_ := Aside0.mk (below_step (by repeat (first | (with_reducible first | exact HB.out | apply below_alloc | apply pw_below_drewN | apply below_drew1 | refine below_set ?_ GE101.out) | exact HB.out)) hb)
    clear HO104
    clear BK101
    clear HB
    have HO104 := n0_
    have BK101 := n1_
    have HB := n2_
    clear n0_ n1_ n2_
    (try clear hb)
    (try clear hb2)
    (try clear hk)
    (try clear hi)
    refine hK.out _ _ ⟨(blk_cell BK101.out 0).trans rfl, (blk_cell BK101.out 1).trans rfl, (blk_cell BK101.out 2).trans rfl⟩ (fun hHeld => ?_)
    clear hK K
    refine norm_ (a' := ?_) ?_ ?_
    rotate_left
    · show Act.put _ (some 19) _ = _
      simp only [Act.put, List.setIfInBounds_toArray, List.set_cons_zero, List.set_cons_succ, i64_w, i32_w]
      rfl
    refine one_ (i := 6) (N := some 22) #[true, true, true, true, true, true, true, false, false] rfl rfl (one_of HT_.out (by kernel_rfl)) (by decide) (fun K hK => ?_)
    refine goes_ Try.func33 (by kernel_rfl) rfl #[.slice Ao11 t102.length co11, .int .i64 t106, .int .i64 a0_2] (by rfl) rfl rfl (by (try simp only [List.map_toArray, List.map_cons, List.map_nil]); first | done | rfl | (simp only [List.length_drop, List.length_take]; rfl)) ?_
    with_reducible refine (Hs.ring_meet.calls _ _ t102 t106 a0_2 t107 _ ?side1 ?side2 A6.out).mono ?_
    (case side1 => repeat (first | exact (Kd.R_reads' HO104.out).2.2 | (with_reducible refine Kd.C_alloc ?_ _) | (with_reducible refine Kd.C_drewN ?_ _) | (with_reducible refine Kd.C_drew ?_)))
    (case side2 => exact (Kd.R_reads' HO104.out).2.1)
    rintro e w13 ⟨v108, rfl, ho0, hb⟩
    refine ⟨_, rfl, ?_⟩
    have n0_ := Aside0.mk (Kd.R_below (by (with_reducible repeat (first | apply Kd.R_alloc | apply Kd.R_drewN | apply Kd.R_drew)); exact HO104.out) hb)
    have n1_ := Aside0.mk (Kd.R_lower ho0 (below_size (by repeat (first | (with_reducible first | exact HB.out | apply below_alloc | apply pw_below_drewN | apply below_drew1 | refine below_set ?_ GE101.out) | exact HB.out))))
    have n2_ := Aside0.mk (blk_below (g := gb101) (o := .cells #[.slice A0_0 l0_0.length c0_0, .int .i64 a0_1, .int .i64 a0_2] 24 (0, 0)) (by (with_reducible repeat (first | refine blk_drewN ?_ _ | refine blk_drew ?_ | refine blk_alloc ?_ _)); exact BK101.out) hb)
    have n3_ := Aside0.mk (below_step (by repeat (first | (with_reducible first | exact HB.out | apply below_alloc | apply pw_below_drewN | apply below_drew1 | refine below_set ?_ GE101.out) | exact HB.out)) hb)
    clear HO104
    clear BK101
    clear HB
    have HO104 := n0_
    have HO109 := n1_
    have BK101 := n2_
    have HB := n3_
    clear n0_ n1_ n2_ n3_
    (try clear hb)
    (try clear hb2)
    (try clear hk)
    (try clear hi)
    (try clear ho0)
    refine hK.out _ _ ⟨(blk_cell BK101.out 0).trans rfl, (blk_cell BK101.out 1).trans rfl, (blk_cell BK101.out 2).trans rfl⟩ (fun hHeld => ?_)
    clear hK K
    refine norm_ (a' := ?_) ?_ ?_
    rotate_left
    · show Act.put _ (some 22) _ = _
      simp only [Act.put, List.setIfInBounds_toArray, List.set_cons_zero, List.set_cons_succ, i64_w, i32_w]
      rfl
    refine pure_ (i := 7) (N := some 4) (v := ?_) (a' := ?_) #[true, true, true, true, true, true, true, true, false] rfl rfl (any_of HT_.out (by kernel_rfl)) (fun _ _ _ h => h) (Or.inl ⟨by rfl, ?_⟩) ?_ ?_
    rotate_left
    · intro w'
      go_simp
      with_reducible rfl
    rotate_left
    · simp only [Act.put, List.setIfInBounds_toArray, List.set_cons_zero, List.set_cons_succ, i64_w, i32_w]
      rfl
    refine pure_ (i := 8) (N := some 5) (v := ?_) (a' := ?_) #[true, true, true, true, true, true, true, true, true] rfl rfl (any_of HT_.out (by kernel_rfl)) (fun _ _ _ h => h) (Or.inl ⟨by rfl, ?_⟩) ?_ ?_
    rotate_left
    · intro w'
      go_simp
      with_reducible rfl
    rotate_left
    · simp only [Act.put, List.setIfInBounds_toArray, List.set_cons_zero, List.set_cons_succ, i64_w, i32_w]
      rfl
    refine done_ (done_of HT_.out (by kernel_rfl)) ?_
    try go_wp2
    go_ret2
    exact ⟨_, by first | rfl | (simp [errW_none, errW_some] <;> rfl) | (simp [*, errW_none, errW_some] <;> rfl), by (with_reducible repeat (first | apply Kd.R_alloc | apply Kd.R_drewN | apply Kd.R_drew)); exact HO109.out, by repeat (first | (with_reducible first | exact HB.out | apply below_alloc | apply pw_below_drewN | apply below_drew1 | refine below_set ?_ GE101.out) | exact HB.out)⟩
  · rw [if_neg c4] at H
    have c4b0 : (t105 == 0) = false := beq_eq_false_iff_ne.mpr c4
    have c4b1 : (t105 != 0) = true := bne_iff_ne.mpr c4
    simp only [Option.some.injEq, Prod.mk.injEq] at H
    obtain ⟨rfl, rfl⟩ := H
    go_enter Try.func13, Try.ntmps13
    go_wp2_with (first | ((with_reducible refine gate_dst (N := 2) rfl ?_); refine box_event ?hg (N := 2) ?hd (cs := #[.slice A0_0 l0_0.length c0_0, .int .i64 a0_1, .int .i64 a0_2]) (t := 24) ?hr ?_; (case hd => rfl); (case hg => rfl); (case hr => first | (go_simp; done) | (go_simp; rfl)); intro gb101 hg w14 hbox hb; have n0_ := Aside0.mk (below_step (by repeat (first | (with_reducible first | exact HB.out | apply below_alloc | apply pw_below_drewN | apply below_drew1) | exact HB.out)) hb); have n1_ := Aside0.mk (hbox); have n2_ := Aside0.mk ((by rw [hg]; exact (below_size (by repeat (first | (with_reducible first | exact HB.out | apply below_alloc | apply pw_below_drewN | apply below_drew1) | exact HB.out))) : w.heap.size ≤ gb101)); have n3_ := Aside0.mk ((by rw [hg]; exact (below_size (by repeat (first | (with_reducible first | exact HB.out | apply below_alloc | apply pw_below_drewN | apply below_drew1) | exact HB.out))) : w.heap.size ≤ gb101)); clear HB; have HB := n0_; have BK101 := n1_; have GW101 := n2_; have GE101 := n3_; clear n0_ n1_ n2_ n3_; clear hb hbox hg; have hcz15_0 : w14.cell? ⟨gb101, 0, none⟩ = some (.slice A0_0 l0_0.length c0_0) := (blk_cell BK101.out 0).trans rfl; have hcz15_1 : w14.cell? ⟨gb101, 1, none⟩ = some (.int .i64 a0_1) := (blk_cell BK101.out 1).trans rfl; have hcz15_2 : w14.cell? ⟨gb101, 2, none⟩ = some (.int .i64 a0_2) := (blk_cell BK101.out 2).trans rfl; have hfz15_0 := blk_frozen BK101.out 0; have hfz15_1 := blk_frozen BK101.out 1; have hfz15_2 := blk_frozen BK101.out 2) | ((with_reducible refine gate_callee (f := 23) rfl ?_); refine goesL_ (some 10) rfl rfl Try.func23 (by kernel_rfl) rfl #[.agg #[.slice A0_0 l0_0.length c0_0, .int .i64 a0_1, .int .i64 a0_2]] rfl (by (try simp only [List.map_toArray, List.map_cons, List.map_nil]); first | done | rfl | (simp only [List.length_drop, List.length_take]; rfl)) ?_; (with_reducible refine (Hs.ring_Points.calls _ _ l0_0 a0_1 a0_2 t102 t105 _ ?side1 ?side2 A3.out).mono ?_); (case side1 => repeat (first | exact (Kd.C_below HR0_0.out HB.out) | (with_reducible refine Kd.C_alloc ?_ _) | (with_reducible refine Kd.C_drewN ?_ _) | (with_reducible refine Kd.C_drew ?_))); (case side2 => exact HC0_0.out); rintro e w16 ⟨v103, rfl, ho0, hb⟩; refine ⟨_, rfl, ?_⟩; have n0_ := Aside0.mk (Kd.R_lower ho0 (below_size (by repeat (first | (with_reducible first | exact HB.out | apply below_alloc | apply pw_below_drewN | apply below_drew1 | refine below_set ?_ GE101.out) | exact HB.out)))); have n1_ := Aside0.mk (blk_below (g := gb101) (o := .cells #[.slice A0_0 l0_0.length c0_0, .int .i64 a0_1, .int .i64 a0_2] 24 (0, 0)) (by (with_reducible repeat (first | refine blk_drewN ?_ _ | refine blk_drew ?_ | refine blk_alloc ?_ _)); exact BK101.out) hb); have n2_ := Aside0.mk (below_step (by repeat (first | (with_reducible first | exact HB.out | apply below_alloc | apply pw_below_drewN | apply below_drew1 | refine below_set ?_ GE101.out) | exact HB.out)) hb); clear BK101; clear HB; have HO104 := n0_; have BK101 := n1_; have HB := n2_; clear n0_ n1_ n2_; (try clear hb); (try clear hb2); (try clear hk); (try clear hi); (try clear ho0)))
    go_ret2
    exact ⟨_, by first | rfl | (simp [errW_none, errW_some] <;> rfl) | (simp [*, errW_none, errW_some] <;> rfl), by first | exact Kd.R_nil _ _ _ _ _ | exact Kd.N_nil _ _ _ _ _ | exact Kd.V_nil _ _ _ _ _ | exact Kd.Q_nil _ _ _ _ _ | exact Kd.S_nil _ _ _ _ _, by repeat (first | (with_reducible first | exact HB.out | apply below_alloc | apply pw_below_drewN | apply below_drew1 | refine below_set ?_ GE101.out) | exact HB.out)⟩
/-! ### ring_Keepers: function 16 -/
def ring_Keepers.f (l0_0 : List Int) (a0_1 : Int) (a0_2 : Int) (a1 : ByteArray) : Option (List Int × Int) := (Hs.hash_Key.f a1).bind fun t111 => ((ring_At.f l0_0 a0_1 a0_2 t111).bind fun bt112 => (some (bt112.1, bt112.2)))
def ring_Keepers.T1 : Bool × List (List Nat × List Nat) := (true, [([], []), ([], []), ([1], [1]), ([0, 2, 2], [0, 2]), ([3], [3]), ([3], [3]), ([4, 3, 0, 1, 2, 3, 4, 5], [4]), ([5, 6, 0, 1, 2, 3, 4, 5, 6], [5])])
def ring_Keepers.B1 : List Nat := [0, 0, 2, 7, 15, 15, 63, 127]
theorem ring_Keepers.tab1 : rtab .any (opsOf Try.f16 1) = ring_Keepers.T1 := by kernel_rfl
theorem ring_Keepers.bits1 : waitsOk ring_Keepers.T1.2 ring_Keepers.B1 = true := by kernel_rfl
set_option maxHeartbeats 8000000 in
set_option maxRecDepth 100000 in
theorem ring_Keepers.calls (A0_0 : Option Addr) (c0_0 : Nat) (l0_0 : List Int) (a0_1 : Int) (a0_2 : Int) (a1 : ByteArray) (r1 : List Int) (r2 : Int) (w : World) (hr0_0 : Kd.C (Kd.int .i64) w A0_0 l0_0.length l0_0) (hc0_0 : l0_0.length ≤ c0_0) (h : ring_Keepers.f l0_0 a0_1 a0_2 a1 = some (r1, r2)) :
    Calls Try.prog 16 #[.agg #[.slice A0_0 l0_0.length c0_0, .int .i64 a0_1, .int .i64 a0_2], .string a1] w fun e w' => ∃ v0_ : Value, e = .returned (.tuple #[v0_, .int .i64 r2]) ∧ Kd.R (Kd.int .i64) 3 w' w.heap.size (fun _ => True) v0_ r1 ∧ Below w.heap.size w w' := by
  have hu24 := Try.underlying24
  have HR0_0 := Aside0.mk hr0_0
  have HC0_0 := Aside0.mk hc0_0
  clear hr0_0 hc0_0
  have HB := Aside0.mk (Below.refl w.heap.size w)
  have H : ((Hs.hash_Key.f a1).bind fun t111 => ((ring_At.f l0_0 a0_1 a0_2 t111).bind fun bt112 => (some (bt112.1, bt112.2)))) = some (r1, r2) := h
  clear h
  replace H := Option.bind_eq_some_iff.mp H
  obtain ⟨t111, A30, H⟩ := H
  replace H : ((ring_At.f l0_0 a0_1 a0_2 t111).bind fun bt112 => (some (bt112.1, bt112.2))) = some (r1, r2) := H
  have A3 := Aside0.mk A30
  clear A30
  replace H := Option.bind_eq_some_iff.mp H
  obtain ⟨⟨t112, t115⟩, A40, H⟩ := H
  replace H : (some (t112, t115)) = some (r1, r2) := H
  have A4 := Aside0.mk A40
  clear A40
  simp only [Option.some.injEq, Prod.mk.injEq] at H
  obtain ⟨rfl, rfl⟩ := H
  go_enter Try.func16, Try.ntmps16
  try go_wp2_with (first | ((with_reducible refine gate_dst (N := 2) rfl ?_); refine box_event ?hg (N := 2) ?hd (cs := #[.slice A0_0 l0_0.length c0_0, .int .i64 a0_1, .int .i64 a0_2]) (t := 24) ?hr ?_; (case hd => rfl); (case hg => rfl); (case hr => first | (go_simp; done) | (go_simp; rfl)); intro gb110 hg w5 hbox hb; have n0_ := Aside0.mk (below_step (by repeat (first | (with_reducible first | exact HB.out | apply below_alloc | apply pw_below_drewN | apply below_drew1) | exact HB.out)) hb); have n1_ := Aside0.mk (hbox); have n2_ := Aside0.mk ((by rw [hg]; exact (below_size (by repeat (first | (with_reducible first | exact HB.out | apply below_alloc | apply pw_below_drewN | apply below_drew1) | exact HB.out))) : w.heap.size ≤ gb110)); have n3_ := Aside0.mk ((by rw [hg]; exact (below_size (by repeat (first | (with_reducible first | exact HB.out | apply below_alloc | apply pw_below_drewN | apply below_drew1) | exact HB.out))) : w.heap.size ≤ gb110)); clear HB; have HB := n0_; have BK110 := n1_; have GW110 := n2_; have GE110 := n3_; clear n0_ n1_ n2_ n3_; clear hb hbox hg))
  have n0_ := Aside0.mk (blk_drew BK110.out)
  have n1_ := Aside0.mk (below_drew1 HB.out)
  clear BK110
  clear HB
  have BK110 := n0_
  have HB := n1_
  clear n0_ n1_
  refine start_ (n := 8) (S := fun w' => w'.cell? ⟨gb110, 0, none⟩ = some (.slice A0_0 l0_0.length c0_0) ∧ w'.cell? ⟨gb110, 1, none⟩ = some (.int .i64 a0_1) ∧ w'.cell? ⟨gb110, 2, none⟩ = some (.int .i64 a0_2)) (ds := []) #[false, false, false, false, false, false, false, false] (by kernel_rfl) rfl rfl ⟨(blk_cell BK110.out 0).trans rfl, (blk_cell BK110.out 1).trans rfl, (blk_cell BK110.out 2).trans rfl⟩ (fun hHeld => ?_); refine with_tabW ring_Keepers.tab1 ring_Keepers.bits1 (fun HT_ HW_ => ?_)
  generalize w5.drew = w6 at BK110 HB hHeld ⊢
  refine pure_ (i := 1) (N := some 7) (v := ?_) (a' := ?_) #[false, true, false, false, false, false, false, false] rfl rfl (any_of HT_.out (by kernel_rfl)) (fun _ _ _ h => h) (Or.inl ⟨by rfl, ?_⟩) ?_ ?_
  rotate_left
  · intro w'
    go_simp
    with_reducible rfl
  rotate_left
  · simp only [Act.put, List.setIfInBounds_toArray, List.set_cons_zero, List.set_cons_succ, i64_w, i32_w]
    rfl
  refine take_ (i := 0) (N := some 6) (v := ?_) (a' := ?_) #[true, true, false, false, false, false, false, false] rfl rfl (take_ofW HT_.out HW_.out (by kernel_rfl)) (fun _ _ _ h => h) (Or.inl ⟨by rfl, ?_⟩) hHeld ?_ ?_
  rotate_left
  · rintro w' ⟨s0, s1, s2⟩
    go_simp
    with_reducible rfl
  rotate_left
  · simp only [Act.put, List.setIfInBounds_toArray, List.set_cons_zero, List.set_cons_succ, i64_w, i32_w]
    rfl
  refine one_ (i := 2) (N := some 8) #[true, true, true, false, false, false, false, false] rfl rfl (one_of HT_.out (by kernel_rfl)) (by decide) (fun K hK => ?_)
  refine goes_ Try.func35 (by kernel_rfl) rfl #[.string a1] (by rfl) rfl rfl (by (try simp only [List.map_toArray, List.map_cons, List.map_nil]); first | done | rfl | (simp only [List.length_drop, List.length_take]; rfl)) ?_
  with_reducible refine (Hs.hash_Key.calls a1 t111 _ A3.out).mono ?_
  rintro e w7 ⟨rfl, hb⟩
  refine ⟨_, rfl, ?_⟩
  have n0_ := Aside0.mk (blk_below (g := gb110) (o := .cells #[.slice A0_0 l0_0.length c0_0, .int .i64 a0_1, .int .i64 a0_2] 24 (0, 0)) (by (with_reducible repeat (first | refine blk_drewN ?_ _ | refine blk_drew ?_ | refine blk_alloc ?_ _)); exact BK110.out) hb)
  have n1_ := Aside0.mk (below_step (by repeat (first | (with_reducible first | exact HB.out | apply below_alloc | apply pw_below_drewN | apply below_drew1 | refine below_set ?_ GE110.out) | exact HB.out)) hb)
  clear BK110
  clear HB
  have BK110 := n0_
  have HB := n1_
  clear n0_ n1_
  (try clear hb)
  (try clear hb2)
  (try clear hk)
  (try clear hi)
  refine hK.out _ _ ⟨(blk_cell BK110.out 0).trans rfl, (blk_cell BK110.out 1).trans rfl, (blk_cell BK110.out 2).trans rfl⟩ (fun hHeld => ?_)
  clear hK K
  refine norm_ (a' := ?_) ?_ ?_
  rotate_left
  · show Act.put _ (some 8) _ = _
    simp only [Act.put, List.setIfInBounds_toArray, List.set_cons_zero, List.set_cons_succ, i64_w, i32_w]
    rfl
  refine one_ (i := 3) (N := some 9) #[true, true, true, true, false, false, false, false] rfl rfl (one_of HT_.out (by kernel_rfl)) (by decide) (fun K hK => ?_)
  refine goes_ Try.func13 (by kernel_rfl) rfl #[.agg #[.slice A0_0 l0_0.length c0_0, .int .i64 a0_1, .int .i64 a0_2], .int .u64 t111] (by rfl) rfl rfl (by (try simp only [List.map_toArray, List.map_cons, List.map_nil]); first | done | rfl | (simp only [List.length_drop, List.length_take]; rfl)) ?_
  with_reducible refine (ring_At.calls _ _ l0_0 a0_1 a0_2 t111 t112 t115 _ ?side1 ?side2 A4.out).mono ?_
  (case side1 => repeat (first | exact (Kd.C_below HR0_0.out HB.out) | (with_reducible refine Kd.C_alloc ?_ _) | (with_reducible refine Kd.C_drewN ?_ _) | (with_reducible refine Kd.C_drew ?_)))
  (case side2 => exact HC0_0.out)
  rintro e w8 ⟨v113, rfl, ho0, hb⟩
  refine ⟨_, rfl, ?_⟩
  have n0_ := Aside0.mk (Kd.R_lower ho0 (below_size (by repeat (first | (with_reducible first | exact HB.out | apply below_alloc | apply pw_below_drewN | apply below_drew1 | refine below_set ?_ GE110.out) | exact HB.out))))
  have n1_ := Aside0.mk (blk_below (g := gb110) (o := .cells #[.slice A0_0 l0_0.length c0_0, .int .i64 a0_1, .int .i64 a0_2] 24 (0, 0)) (by (with_reducible repeat (first | refine blk_drewN ?_ _ | refine blk_drew ?_ | refine blk_alloc ?_ _)); exact BK110.out) hb)
  have n2_ := Aside0.mk (below_step (by repeat (first | (with_reducible first | exact HB.out | apply below_alloc | apply pw_below_drewN | apply below_drew1 | refine below_set ?_ GE110.out) | exact HB.out)) hb)
  clear BK110
  clear HB
  have HO114 := n0_
  have BK110 := n1_
  have HB := n2_
  clear n0_ n1_ n2_
  (try clear hb)
  (try clear hb2)
  (try clear hk)
  (try clear hi)
  (try clear ho0)
  refine hK.out _ _ ⟨(blk_cell BK110.out 0).trans rfl, (blk_cell BK110.out 1).trans rfl, (blk_cell BK110.out 2).trans rfl⟩ (fun hHeld => ?_)
  clear hK K
  refine norm_ (a' := ?_) ?_ ?_
  rotate_left
  · show Act.put _ (some 9) _ = _
    simp only [Act.put, List.setIfInBounds_toArray, List.set_cons_zero, List.set_cons_succ, i64_w, i32_w]
    rfl
  refine pure_ (i := 4) (N := some 10) (v := ?_) (a' := ?_) #[true, true, true, true, true, false, false, false] rfl rfl (any_of HT_.out (by kernel_rfl)) (fun _ _ _ h => h) (Or.inl ⟨by rfl, ?_⟩) ?_ ?_
  rotate_left
  · intro w'
    go_simp
    with_reducible rfl
  rotate_left
  · simp only [Act.put, List.setIfInBounds_toArray, List.set_cons_zero, List.set_cons_succ, i64_w, i32_w]
    rfl
  refine pure_ (i := 5) (N := some 11) (v := ?_) (a' := ?_) #[true, true, true, true, true, true, false, false] rfl rfl (any_of HT_.out (by kernel_rfl)) (fun _ _ _ h => h) (Or.inl ⟨by rfl, ?_⟩) ?_ ?_
  rotate_left
  · intro w'
    go_simp
    with_reducible rfl
  rotate_left
  · simp only [Act.put, List.setIfInBounds_toArray, List.set_cons_zero, List.set_cons_succ, i64_w, i32_w]
    rfl
  refine pure_ (i := 6) (N := some 4) (v := ?_) (a' := ?_) #[true, true, true, true, true, true, true, false] rfl rfl (any_of HT_.out (by kernel_rfl)) (fun _ _ _ h => h) (Or.inl ⟨by rfl, ?_⟩) ?_ ?_
  rotate_left
  · intro w'
    go_simp
    with_reducible rfl
  rotate_left
  · simp only [Act.put, List.setIfInBounds_toArray, List.set_cons_zero, List.set_cons_succ, i64_w, i32_w]
    rfl
  refine pure_ (i := 7) (N := some 5) (v := ?_) (a' := ?_) #[true, true, true, true, true, true, true, true] rfl rfl (any_of HT_.out (by kernel_rfl)) (fun _ _ _ h => h) (Or.inl ⟨by rfl, ?_⟩) ?_ ?_
  rotate_left
  · intro w'
    go_simp
    with_reducible rfl
  rotate_left
  · simp only [Act.put, List.setIfInBounds_toArray, List.set_cons_zero, List.set_cons_succ, i64_w, i32_w]
    rfl
  refine done_ (done_of HT_.out (by kernel_rfl)) ?_
  try go_wp2
  go_ret2
  exact ⟨_, by first | rfl | (simp [errW_none, errW_some] <;> rfl) | (simp [*, errW_none, errW_some] <;> rfl), by (with_reducible repeat (first | apply Kd.R_alloc | apply Kd.R_drewN | apply Kd.R_drew)); exact HO114.out, by repeat (first | (with_reducible first | exact HB.out | apply below_alloc | apply pw_below_drewN | apply below_drew1 | refine below_set ?_ GE110.out) | exact HB.out)⟩
/-! ### ring_Segment: function 17 -/
def ring_Segment.f (l0_0 : List Int) (a0_1 : Int) (a0_2 : Int) (a1 : Int) : Option (Int × Int) := (Hs.ring_Points.f l0_0 a0_1 a0_2).bind fun bt117 => (if bt117.2 = 0 then ((Hs.ring_first.f bt117.1 a1).bind fun t121 => (some (t121, 0))) else (some (0, bt117.2)))
set_option maxHeartbeats 8000000 in
set_option maxRecDepth 100000 in
theorem ring_Segment.calls (A0_0 : Option Addr) (c0_0 : Nat) (l0_0 : List Int) (a0_1 : Int) (a0_2 : Int) (a1 : Int) (r1 : Int) (r2 : Int) (w : World) (hr0_0 : Kd.C (Kd.int .i64) w A0_0 l0_0.length l0_0) (hc0_0 : l0_0.length ≤ c0_0) (h : ring_Segment.f l0_0 a0_1 a0_2 a1 = some (r1, r2)) :
    Calls Try.prog 17 #[.agg #[.slice A0_0 l0_0.length c0_0, .int .i64 a0_1, .int .i64 a0_2], .int .u64 a1] w fun e w' => e = .returned (.tuple #[.int .i64 r1, .int .i64 r2]) ∧ Below w.heap.size w w' := by
  have hu24 := Try.underlying24
  have HR0_0 := Aside0.mk hr0_0
  have HC0_0 := Aside0.mk hc0_0
  clear hr0_0 hc0_0
  have HB := Aside0.mk (Below.refl w.heap.size w)
  have H : ((Hs.ring_Points.f l0_0 a0_1 a0_2).bind fun bt117 => (if bt117.2 = 0 then ((Hs.ring_first.f bt117.1 a1).bind fun t121 => (some (t121, 0))) else (some (0, bt117.2)))) = some (r1, r2) := h
  clear h
  replace H := Option.bind_eq_some_iff.mp H
  obtain ⟨⟨t117, t120⟩, A30, H⟩ := H
  replace H : (if t120 = 0 then ((Hs.ring_first.f t117 a1).bind fun t121 => (some (t121, 0))) else (some (0, t120))) = some (r1, r2) := H
  have A3 := Aside0.mk A30
  clear A30
  by_cases c4 : t120 = 0
  · rw [if_pos c4] at H
    have c4b0 : (t120 == 0) = true := beq_iff_eq.mpr c4
    have c4b1 : (t120 != 0) = false := bne_eq_false_iff_eq.mpr c4
    clear c4
    replace H := Option.bind_eq_some_iff.mp H
    obtain ⟨t121, A50, H⟩ := H
    replace H : (some (t121, 0)) = some (r1, r2) := H
    have A5 := Aside0.mk A50
    clear A50
    simp only [Option.some.injEq, Prod.mk.injEq] at H
    obtain ⟨rfl, rfl⟩ := H
    go_enter Try.func17, Try.ntmps17
    go_wp2_with (first | ((with_reducible refine gate_dst (N := 2) rfl ?_); refine box_event ?hg (N := 2) ?hd (cs := #[.slice A0_0 l0_0.length c0_0, .int .i64 a0_1, .int .i64 a0_2]) (t := 24) ?hr ?_; (case hd => rfl); (case hg => rfl); (case hr => first | (go_simp; done) | (go_simp; rfl)); intro gb116 hg w6 hbox hb; have n0_ := Aside0.mk (below_step (by repeat (first | (with_reducible first | exact HB.out | apply below_alloc | apply pw_below_drewN | apply below_drew1) | exact HB.out)) hb); have n1_ := Aside0.mk (hbox); have n2_ := Aside0.mk ((by rw [hg]; exact (below_size (by repeat (first | (with_reducible first | exact HB.out | apply below_alloc | apply pw_below_drewN | apply below_drew1) | exact HB.out))) : w.heap.size ≤ gb116)); have n3_ := Aside0.mk ((by rw [hg]; exact (below_size (by repeat (first | (with_reducible first | exact HB.out | apply below_alloc | apply pw_below_drewN | apply below_drew1) | exact HB.out))) : w.heap.size ≤ gb116)); clear HB; have HB := n0_; have BK116 := n1_; have GW116 := n2_; have GE116 := n3_; clear n0_ n1_ n2_ n3_; clear hb hbox hg; have hcz7_0 : w6.cell? ⟨gb116, 0, none⟩ = some (.slice A0_0 l0_0.length c0_0) := (blk_cell BK116.out 0).trans rfl; have hcz7_1 : w6.cell? ⟨gb116, 1, none⟩ = some (.int .i64 a0_1) := (blk_cell BK116.out 1).trans rfl; have hcz7_2 : w6.cell? ⟨gb116, 2, none⟩ = some (.int .i64 a0_2) := (blk_cell BK116.out 2).trans rfl; have hfz7_0 := blk_frozen BK116.out 0; have hfz7_1 := blk_frozen BK116.out 1; have hfz7_2 := blk_frozen BK116.out 2) | ((with_reducible refine gate_callee (f := 23) rfl ?_); refine goesL_ (some 10) rfl rfl Try.func23 (by kernel_rfl) rfl #[.agg #[.slice A0_0 l0_0.length c0_0, .int .i64 a0_1, .int .i64 a0_2]] rfl (by (try simp only [List.map_toArray, List.map_cons, List.map_nil]); first | done | rfl | (simp only [List.length_drop, List.length_take]; rfl)) ?_; (with_reducible refine (Hs.ring_Points.calls _ _ l0_0 a0_1 a0_2 t117 t120 _ ?side1 ?side2 A3.out).mono ?_); (case side1 => repeat (first | exact (Kd.C_below HR0_0.out HB.out) | (with_reducible refine Kd.C_alloc ?_ _) | (with_reducible refine Kd.C_drewN ?_ _) | (with_reducible refine Kd.C_drew ?_))); (case side2 => exact HC0_0.out); rintro e w8 ⟨v118, rfl, ho0, hb⟩; refine ⟨_, rfl, ?_⟩; have n0_ := Aside0.mk (Kd.R_lower ho0 (below_size (by repeat (first | (with_reducible first | exact HB.out | apply below_alloc | apply pw_below_drewN | apply below_drew1 | refine below_set ?_ GE116.out) | exact HB.out)))); have n1_ := Aside0.mk (blk_below (g := gb116) (o := .cells #[.slice A0_0 l0_0.length c0_0, .int .i64 a0_1, .int .i64 a0_2] 24 (0, 0)) (by (with_reducible repeat (first | refine blk_drewN ?_ _ | refine blk_drew ?_ | refine blk_alloc ?_ _)); exact BK116.out) hb); have n2_ := Aside0.mk (below_step (by repeat (first | (with_reducible first | exact HB.out | apply below_alloc | apply pw_below_drewN | apply below_drew1 | refine below_set ?_ GE116.out) | exact HB.out)) hb); clear BK116; clear HB; have HO119 := n0_; have BK116 := n1_; have HB := n2_; clear n0_ n1_ n2_; (try clear hb); (try clear hb2); (try clear hk); (try clear hi); (try clear ho0); obtain ⟨Ao9, co9, eo9⟩ := Kd.R_slice HO119.out; subst eo9) | ((with_reducible refine gate_callee (f := 34) rfl ?_); refine goesL_ (some 18) rfl rfl Try.func34 (by kernel_rfl) rfl #[.slice Ao9 t117.length co9, .int .u64 a1] rfl (by (try simp only [List.map_toArray, List.map_cons, List.map_nil]); first | done | rfl | (simp only [List.length_drop, List.length_take]; rfl)) ?_; (with_reducible refine (Hs.ring_first.calls _ _ t117 a1 t121 _ ?side1 ?side2 A5.out).mono ?_); (case side1 => repeat (first | exact (Kd.R_reads' HO119.out).2.2 | (with_reducible refine Kd.C_alloc ?_ _) | (with_reducible refine Kd.C_drewN ?_ _) | (with_reducible refine Kd.C_drew ?_))); (case side2 => exact (Kd.R_reads' HO119.out).2.1); rintro e w10 ⟨rfl, hb⟩; refine ⟨_, rfl, ?_⟩; have n0_ := Aside0.mk (Kd.R_below (by (with_reducible repeat (first | apply Kd.R_alloc | apply Kd.R_drewN | apply Kd.R_drew)); exact HO119.out) hb); have n1_ := Aside0.mk (blk_below (g := gb116) (o := .cells #[.slice A0_0 l0_0.length c0_0, .int .i64 a0_1, .int .i64 a0_2] 24 (0, 0)) (by (with_reducible repeat (first | refine blk_drewN ?_ _ | refine blk_drew ?_ | refine blk_alloc ?_ _)); exact BK116.out) hb); have n2_ := Aside0.mk (below_step (by repeat (first | (with_reducible first | exact HB.out | apply below_alloc | apply pw_below_drewN | apply below_drew1 | refine below_set ?_ GE116.out) | exact HB.out)) hb); clear HO119; clear BK116; clear HB; have HO119 := n0_; have BK116 := n1_; have HB := n2_; clear n0_ n1_ n2_; (try clear hb); (try clear hb2); (try clear hk); (try clear hi)))
    go_ret2
    exact ⟨by first | rfl | (simp [errW_none, errW_some] <;> rfl) | (simp [*, errW_none, errW_some] <;> rfl), by repeat (first | (with_reducible first | exact HB.out | apply below_alloc | apply pw_below_drewN | apply below_drew1 | refine below_set ?_ GE116.out) | exact HB.out)⟩
  · rw [if_neg c4] at H
    have c4b0 : (t120 == 0) = false := beq_eq_false_iff_ne.mpr c4
    have c4b1 : (t120 != 0) = true := bne_iff_ne.mpr c4
    simp only [Option.some.injEq, Prod.mk.injEq] at H
    obtain ⟨rfl, rfl⟩ := H
    go_enter Try.func17, Try.ntmps17
    go_wp2_with (first | ((with_reducible refine gate_dst (N := 2) rfl ?_); refine box_event ?hg (N := 2) ?hd (cs := #[.slice A0_0 l0_0.length c0_0, .int .i64 a0_1, .int .i64 a0_2]) (t := 24) ?hr ?_; (case hd => rfl); (case hg => rfl); (case hr => first | (go_simp; done) | (go_simp; rfl)); intro gb116 hg w11 hbox hb; have n0_ := Aside0.mk (below_step (by repeat (first | (with_reducible first | exact HB.out | apply below_alloc | apply pw_below_drewN | apply below_drew1) | exact HB.out)) hb); have n1_ := Aside0.mk (hbox); have n2_ := Aside0.mk ((by rw [hg]; exact (below_size (by repeat (first | (with_reducible first | exact HB.out | apply below_alloc | apply pw_below_drewN | apply below_drew1) | exact HB.out))) : w.heap.size ≤ gb116)); have n3_ := Aside0.mk ((by rw [hg]; exact (below_size (by repeat (first | (with_reducible first | exact HB.out | apply below_alloc | apply pw_below_drewN | apply below_drew1) | exact HB.out))) : w.heap.size ≤ gb116)); clear HB; have HB := n0_; have BK116 := n1_; have GW116 := n2_; have GE116 := n3_; clear n0_ n1_ n2_ n3_; clear hb hbox hg; have hcz12_0 : w11.cell? ⟨gb116, 0, none⟩ = some (.slice A0_0 l0_0.length c0_0) := (blk_cell BK116.out 0).trans rfl; have hcz12_1 : w11.cell? ⟨gb116, 1, none⟩ = some (.int .i64 a0_1) := (blk_cell BK116.out 1).trans rfl; have hcz12_2 : w11.cell? ⟨gb116, 2, none⟩ = some (.int .i64 a0_2) := (blk_cell BK116.out 2).trans rfl; have hfz12_0 := blk_frozen BK116.out 0; have hfz12_1 := blk_frozen BK116.out 1; have hfz12_2 := blk_frozen BK116.out 2) | ((with_reducible refine gate_callee (f := 23) rfl ?_); refine goesL_ (some 10) rfl rfl Try.func23 (by kernel_rfl) rfl #[.agg #[.slice A0_0 l0_0.length c0_0, .int .i64 a0_1, .int .i64 a0_2]] rfl (by (try simp only [List.map_toArray, List.map_cons, List.map_nil]); first | done | rfl | (simp only [List.length_drop, List.length_take]; rfl)) ?_; (with_reducible refine (Hs.ring_Points.calls _ _ l0_0 a0_1 a0_2 t117 t120 _ ?side1 ?side2 A3.out).mono ?_); (case side1 => repeat (first | exact (Kd.C_below HR0_0.out HB.out) | (with_reducible refine Kd.C_alloc ?_ _) | (with_reducible refine Kd.C_drewN ?_ _) | (with_reducible refine Kd.C_drew ?_))); (case side2 => exact HC0_0.out); rintro e w13 ⟨v118, rfl, ho0, hb⟩; refine ⟨_, rfl, ?_⟩; have n0_ := Aside0.mk (Kd.R_lower ho0 (below_size (by repeat (first | (with_reducible first | exact HB.out | apply below_alloc | apply pw_below_drewN | apply below_drew1 | refine below_set ?_ GE116.out) | exact HB.out)))); have n1_ := Aside0.mk (blk_below (g := gb116) (o := .cells #[.slice A0_0 l0_0.length c0_0, .int .i64 a0_1, .int .i64 a0_2] 24 (0, 0)) (by (with_reducible repeat (first | refine blk_drewN ?_ _ | refine blk_drew ?_ | refine blk_alloc ?_ _)); exact BK116.out) hb); have n2_ := Aside0.mk (below_step (by repeat (first | (with_reducible first | exact HB.out | apply below_alloc | apply pw_below_drewN | apply below_drew1 | refine below_set ?_ GE116.out) | exact HB.out)) hb); clear BK116; clear HB; have HO119 := n0_; have BK116 := n1_; have HB := n2_; clear n0_ n1_ n2_; (try clear hb); (try clear hb2); (try clear hk); (try clear hi); (try clear ho0)))
    go_ret2
    exact ⟨by first | rfl | (simp [errW_none, errW_some] <;> rfl) | (simp [*, errW_none, errW_some] <;> rfl), by repeat (first | (with_reducible first | exact HB.out | apply below_alloc | apply pw_below_drewN | apply below_drew1 | refine below_set ?_ GE116.out) | exact HB.out)⟩
/-! ### ring_Lists: function 24 -/
def ring_Lists.l0 : Nat → List (S51) → Int → List (List Int) → List (S51) → Int → Int → List Int → Int → Int → Option ((List (List Int)) × Int)
  | 0, _, _, _, _, _, _, _, _, _ => none
  | k + 1, x4, x5, x6, x14, x15, x16, x123000, x123001, x123002 => if x16 < x15 then (if 0 ≤ x16 then (if x16 < (x14.length : Int) then ((Hs.ring_first.f x4 ((rd_T51 x14 x16).f0)).bind fun t129 => ((Hs.ring_meet.f x4 t129 x123002).bind fun t130 => (if x6.length < 5864062014805 then (ring_Lists.l0 k x4 x5 (x6 ++ [t130]) x14 x15 (wrap64 (x16 + 1)) x123000 x123001 x123002) else (none)))) else (none)) else (none)) else (some (x6, x5))
theorem ring_Lists.mono_l : ∀ k, (∀ y0 y1 y2 y3 y4 y5 y6 y7 y8, LeO (ring_Lists.l0 k y0 y1 y2 y3 y4 y5 y6 y7 y8) (ring_Lists.l0 (k + 1) y0 y1 y2 y3 y4 y5 y6 y7 y8))
  | 0 => fun _ _ _ _ _ _ _ _ _ r h => by simp [ring_Lists.l0] at h
  | k + 1 => by
    have ih0 := ring_Lists.mono_l k
    · intro y0 y1 y2 y3 y4 y5 y6 y7 y8
      unfold ring_Lists.l0
      repeat' first
      | (with_reducible exact ih0 _ _ _ _ _ _ _ _ _)
      | (with_reducible exact LeO.refl _)
      | (with_reducible exact LeO.none _)
      | (with_reducible refine LeO.ite ?_ ?_)
      | (with_reducible refine LeO.bind ?_ (fun _ => ?_))
      | exact ih0 _ _ _ _ _ _ _ _ _
      | exact LeO.none _
      | refine LeO.ite ?_ ?_
      | refine LeO.bind ?_ (fun _ => ?_)
/-! ### icehouseref09_Keepers: function 20 -/
def icehouseref09_Keepers.f (k : Nat) (l0_0 : List Int) (a0_1 : Int) (a0_2 : Int) (a1 : ByteArray) : Option (List Int) := (Hs.icehouseref04_Key.f k a1).bind fun t137 => ((QH.icehouseref09_At.f k l0_0 a0_1 a0_2 t137).bind fun t138 => (some t138))
theorem icehouseref09_Keepers.mono : ∀ a0 a1 a2 a3 k, LeO (icehouseref09_Keepers.f k a0 a1 a2 a3) (icehouseref09_Keepers.f (k + 1) a0 a1 a2 a3) := by
  intro a0 a1 a2 a3 k
  unfold icehouseref09_Keepers.f
  repeat' first
      | (with_reducible exact Hs.icehouseref04_Key.mono _ _)
      | (with_reducible exact QH.icehouseref09_At.mono _ _ _ _ _)
      | (with_reducible exact LeO.refl _)
      | (with_reducible exact LeO.none _)
      | (with_reducible refine LeO.ite ?_ ?_)
      | (with_reducible refine LeO.bind ?_ (fun _ => ?_))
      | exact Hs.icehouseref04_Key.mono _ _
      | exact QH.icehouseref09_At.mono _ _ _ _ _
      | exact LeO.none _
      | refine LeO.ite ?_ ?_
      | refine LeO.bind ?_ (fun _ => ?_)
set_option maxHeartbeats 8000000 in
set_option maxRecDepth 100000 in
theorem icehouseref09_Keepers.calls (k : Nat) (A0_0 : Option Addr) (c0_0 : Nat) (l0_0 : List Int) (a0_1 : Int) (a0_2 : Int) (a1 : ByteArray) (r : List Int) (w : World) (hr0_0 : Kd.C (Kd.int .i64) w A0_0 l0_0.length l0_0) (hc0_0 : l0_0.length ≤ c0_0) (h : icehouseref09_Keepers.f k l0_0 a0_1 a0_2 a1 = some r) :
    Calls Try.prog 20 #[.agg #[.slice A0_0 l0_0.length c0_0, .int .i64 a0_1, .int .i64 a0_2], .string a1] w fun e w' => ∃ v0_ : Value, e = .returned (v0_) ∧ Kd.R (Kd.int .i64) 3 w' w.heap.size (fun _ => True) v0_ r ∧ Below w.heap.size w w' := by
  have hu24 := Try.underlying24
  have HR0_0 := Aside0.mk hr0_0
  have HC0_0 := Aside0.mk hc0_0
  clear hr0_0 hc0_0
  have HB := Aside0.mk (Below.refl w.heap.size w)
  have H : ((Hs.icehouseref04_Key.f k a1).bind fun t137 => ((QH.icehouseref09_At.f k l0_0 a0_1 a0_2 t137).bind fun t138 => (some t138))) = some r := h
  clear h
  replace H := Option.bind_eq_some_iff.mp H
  obtain ⟨t137, A30, H⟩ := H
  replace H : ((QH.icehouseref09_At.f k l0_0 a0_1 a0_2 t137).bind fun t138 => (some t138)) = some r := H
  have A3 := Aside0.mk A30
  clear A30
  replace H := Option.bind_eq_some_iff.mp H
  obtain ⟨t138, A40, H⟩ := H
  replace H : (some t138) = some r := H
  have A4 := Aside0.mk A40
  clear A40
  obtain rfl := Option.some.inj H
  go_enter Try.func20, Try.ntmps20
  try go_wp2_with (first | ((with_reducible refine gate_dst (N := 2) rfl ?_); refine box_event ?hg (N := 2) ?hd (cs := #[.slice A0_0 l0_0.length c0_0, .int .i64 a0_1, .int .i64 a0_2]) (t := 24) ?hr ?_; (case hd => rfl); (case hg => rfl); (case hr => first | (go_simp; done) | (go_simp; rfl)); intro gb136 hg w5 hbox hb; have n0_ := Aside0.mk (below_step (by repeat (first | (with_reducible first | exact HB.out | apply below_alloc | apply pw_below_drewN | apply below_drew1) | exact HB.out)) hb); have n1_ := Aside0.mk (hbox); have n2_ := Aside0.mk ((by rw [hg]; exact (below_size (by repeat (first | (with_reducible first | exact HB.out | apply below_alloc | apply pw_below_drewN | apply below_drew1) | exact HB.out))) : w.heap.size ≤ gb136)); have n3_ := Aside0.mk ((by rw [hg]; exact (below_size (by repeat (first | (with_reducible first | exact HB.out | apply below_alloc | apply pw_below_drewN | apply below_drew1) | exact HB.out))) : w.heap.size ≤ gb136)); clear HB; have HB := n0_; have BK136 := n1_; have GW136 := n2_; have GE136 := n3_; clear n0_ n1_ n2_ n3_; clear hb hbox hg))
  have n0_ := Aside0.mk (blk_drew BK136.out)
  have n1_ := Aside0.mk (below_drew1 HB.out)
  clear BK136
  clear HB
  have BK136 := n0_
  have HB := n1_
  clear n0_ n1_
  refine start_ (n := 5) (S := fun w' => w'.cell? ⟨gb136, 0, none⟩ = some (.slice A0_0 l0_0.length c0_0) ∧ w'.cell? ⟨gb136, 1, none⟩ = some (.int .i64 a0_1) ∧ w'.cell? ⟨gb136, 2, none⟩ = some (.int .i64 a0_2)) (ds := []) #[false, false, false, false, false] (by kernel_rfl) rfl rfl ⟨(blk_cell BK136.out 0).trans rfl, (blk_cell BK136.out 1).trans rfl, (blk_cell BK136.out 2).trans rfl⟩ (fun hHeld => ?_)
  generalize w5.drew = w6 at BK136 HB hHeld ⊢
  refine pure_ (i := 1) (N := some 6) (v := ?_) (a' := ?_) #[false, true, false, false, false] rfl rfl (by kernel_rfl) (fun _ _ _ h => h) (Or.inl ⟨by rfl, ?_⟩) ?_ ?_
  rotate_left
  · intro w'
    go_simp
    with_reducible rfl
  rotate_left
  · simp only [Act.put, List.setIfInBounds_toArray, List.set_cons_zero, List.set_cons_succ, i64_w, i32_w]
    rfl
  refine take_ (i := 0) (N := some 5) (v := ?_) (a' := ?_) #[true, true, false, false, false] rfl rfl (by kernel_rfl) (fun _ _ _ h => h) (Or.inl ⟨by rfl, ?_⟩) hHeld ?_ ?_
  rotate_left
  · rintro w' ⟨s0, s1, s2⟩
    go_simp
    with_reducible rfl
  rotate_left
  · simp only [Act.put, List.setIfInBounds_toArray, List.set_cons_zero, List.set_cons_succ, i64_w, i32_w]
    rfl
  refine one_ (i := 2) (N := some 7) #[true, true, true, false, false] rfl rfl (by kernel_rfl) (by decide) (fun K hK => ?_)
  refine goes_ Try.func37 (by kernel_rfl) rfl #[.string a1] (by rfl) rfl rfl (by (try simp only [List.map_toArray, List.map_cons, List.map_nil]); first | done | rfl | (simp only [List.length_drop, List.length_take]; rfl)) ?_
  with_reducible refine (Hs.icehouseref04_Key.calls k a1 t137 _ A3.out).mono ?_
  rintro e w7 ⟨rfl, hb⟩
  refine ⟨_, rfl, ?_⟩
  have n0_ := Aside0.mk (blk_below (g := gb136) (o := .cells #[.slice A0_0 l0_0.length c0_0, .int .i64 a0_1, .int .i64 a0_2] 24 (0, 0)) (by (with_reducible repeat (first | refine blk_drewN ?_ _ | refine blk_drew ?_ | refine blk_alloc ?_ _)); exact BK136.out) hb)
  have n1_ := Aside0.mk (below_step (by repeat (first | (with_reducible first | exact HB.out | apply below_alloc | apply pw_below_drewN | apply below_drew1 | refine below_set ?_ GE136.out) | exact HB.out)) hb)
  clear BK136
  clear HB
  have BK136 := n0_
  have HB := n1_
  clear n0_ n1_
  (try clear hb)
  (try clear hb2)
  (try clear hk)
  (try clear hi)
  refine hK.out _ _ ⟨(blk_cell BK136.out 0).trans rfl, (blk_cell BK136.out 1).trans rfl, (blk_cell BK136.out 2).trans rfl⟩ (fun hHeld => ?_)
  clear hK K
  refine norm_ (a' := ?_) ?_ ?_
  rotate_left
  · show Act.put _ (some 7) _ = _
    simp only [Act.put, List.setIfInBounds_toArray, List.set_cons_zero, List.set_cons_succ, i64_w, i32_w]
    rfl
  refine one_ (i := 3) (N := some 8) #[true, true, true, true, false] rfl rfl (by kernel_rfl) (by decide) (fun K hK => ?_)
  refine goes_ Try.func19 (by kernel_rfl) rfl #[.agg #[.slice A0_0 l0_0.length c0_0, .int .i64 a0_1, .int .i64 a0_2], .int .u64 t137] (by rfl) rfl rfl (by (try simp only [List.map_toArray, List.map_cons, List.map_nil]); first | done | rfl | (simp only [List.length_drop, List.length_take]; rfl)) ?_
  with_reducible refine (QH.icehouseref09_At.calls k _ _ l0_0 a0_1 a0_2 t137 t138 _ ?side1 ?side2 A4.out).mono ?_
  (case side1 => repeat (first | exact (Kd.C_below HR0_0.out HB.out) | (with_reducible refine Kd.C_alloc ?_ _) | (with_reducible refine Kd.C_drewN ?_ _) | (with_reducible refine Kd.C_drew ?_)))
  (case side2 => exact HC0_0.out)
  rintro e w8 ⟨v139, rfl, ho0, hb⟩
  refine ⟨_, rfl, ?_⟩
  have n0_ := Aside0.mk (Kd.R_lower ho0 (below_size (by repeat (first | (with_reducible first | exact HB.out | apply below_alloc | apply pw_below_drewN | apply below_drew1 | refine below_set ?_ GE136.out) | exact HB.out))))
  have n1_ := Aside0.mk (blk_below (g := gb136) (o := .cells #[.slice A0_0 l0_0.length c0_0, .int .i64 a0_1, .int .i64 a0_2] 24 (0, 0)) (by (with_reducible repeat (first | refine blk_drewN ?_ _ | refine blk_drew ?_ | refine blk_alloc ?_ _)); exact BK136.out) hb)
  have n2_ := Aside0.mk (below_step (by repeat (first | (with_reducible first | exact HB.out | apply below_alloc | apply pw_below_drewN | apply below_drew1 | refine below_set ?_ GE136.out) | exact HB.out)) hb)
  clear BK136
  clear HB
  have HO140 := n0_
  have BK136 := n1_
  have HB := n2_
  clear n0_ n1_ n2_
  (try clear hb)
  (try clear hb2)
  (try clear hk)
  (try clear hi)
  (try clear ho0)
  refine hK.out _ _ ⟨(blk_cell BK136.out 0).trans rfl, (blk_cell BK136.out 1).trans rfl, (blk_cell BK136.out 2).trans rfl⟩ (fun hHeld => ?_)
  clear hK K
  refine norm_ (a' := ?_) ?_ ?_
  rotate_left
  · show Act.put _ (some 8) _ = _
    simp only [Act.put, List.setIfInBounds_toArray, List.set_cons_zero, List.set_cons_succ, i64_w, i32_w]
    rfl
  refine pure_ (i := 4) (N := some 4) (v := ?_) (a' := ?_) #[true, true, true, true, true] rfl rfl (by kernel_rfl) (fun _ _ _ h => h) (Or.inl ⟨by rfl, ?_⟩) ?_ ?_
  rotate_left
  · intro w'
    go_simp
    with_reducible rfl
  rotate_left
  · simp only [Act.put, List.setIfInBounds_toArray, List.set_cons_zero, List.set_cons_succ, i64_w, i32_w]
    rfl
  refine done_ (by kernel_rfl) ?_
  try go_wp2
  go_ret
  exact ⟨_, by first | rfl | (simp [errW_none, errW_some] <;> rfl) | (simp [*, errW_none, errW_some] <;> rfl), by (with_reducible repeat (first | apply Kd.R_alloc | apply Kd.R_drewN | apply Kd.R_drew)); exact HO140.out, by repeat (first | (with_reducible first | exact HB.out | apply below_alloc | apply pw_below_drewN | apply below_drew1 | refine below_set ?_ GE136.out) | exact HB.out)⟩
end Go.Proofs.Ytdfjeanlhafipaa.QR
namespace Go.Proofs.Ytdfjeanlhafipaa.QR
open Go.Proofs.Ytdfjeanlhafipaa.QH
open Go.RowKit Go.Proofs.YtdfjeanlhafipaaW.PrintWords Go.Proofs.YtdfjeanlhafipaaW.PrintLast Go.Proofs.YtdfjeanlhafipaaW.PrintMore
attribute [local go_sem] max2_int min2_int max_two min_two max_three min_three max_four min_four   -- for this text's walks alone
set_option linter.unusedVariables false
set_option linter.unusedSimpArgs false
/-! ### icehouselaw09_known: function 12 -/
def icehouselaw09_known.f (k : Nat)  : Option (Bool) := (ring_Keepers.f (([7] : List Int)) 3 1 (⟨#[107]⟩ : ByteArray)).bind fun bt144 => ((ring_Keepers.f (([1, 2, 3] : List Int)) 2 3 (⟨#[107]⟩ : ByteArray)).bind fun bt151 => ((Hs.ring_Points.f ([] : List Int) 0 0).bind fun bt155 => ((QH.icehouseref00_SameInts.f k bt144.1 (([7] : List Int))).bind fun t162 => (if t162 = true then (if bt144.2 = 0 then (if (bt151.1.length : Int) = 3 then (if bt151.2 = 0 then (some (bt155.2 == 2)) else (some false)) else (some false)) else (some false)) else (some false)))))
theorem icehouselaw09_known.mono : ∀ k, LeO (icehouselaw09_known.f k ) (icehouselaw09_known.f (k + 1) ) := by
  intro  k
  unfold icehouselaw09_known.f
  repeat' first
      | (with_reducible exact QH.icehouseref00_SameInts.mono _ _ _)
      | (with_reducible exact LeO.refl _)
      | (with_reducible exact LeO.none _)
      | (with_reducible refine LeO.ite ?_ ?_)
      | (with_reducible refine LeO.bind ?_ (fun _ => ?_))
      | exact QH.icehouseref00_SameInts.mono _ _ _
      | exact LeO.none _
      | refine LeO.ite ?_ ?_
      | refine LeO.bind ?_ (fun _ => ?_)
set_option maxHeartbeats 8000000 in
set_option maxRecDepth 100000 in
theorem icehouselaw09_known.calls (k : Nat)  (r : Bool) (w : World) (h : icehouselaw09_known.f k  = some r) :
    Calls Try.prog 12 #[] w fun e w' => e = .returned (.bool r) ∧ Below w.heap.size w w' := by
  have hu24 := Try.underlying24
  have HB := Aside0.mk (Below.refl w.heap.size w)
  have H : ((ring_Keepers.f (([7] : List Int)) 3 1 (⟨#[107]⟩ : ByteArray)).bind fun bt144 => ((ring_Keepers.f (([1, 2, 3] : List Int)) 2 3 (⟨#[107]⟩ : ByteArray)).bind fun bt151 => ((Hs.ring_Points.f ([] : List Int) 0 0).bind fun bt155 => ((QH.icehouseref00_SameInts.f k bt144.1 (([7] : List Int))).bind fun t162 => (if t162 = true then (if bt144.2 = 0 then (if (bt151.1.length : Int) = 3 then (if bt151.2 = 0 then (some (bt155.2 == 2)) else (some false)) else (some false)) else (some false)) else (some false)))))) = some r := h
  clear h
  obtain ⟨y141, hy141⟩ : ∃ y_ : List Int, y_ = (([7] : List Int)) := ⟨_, rfl⟩
  replace H : ((ring_Keepers.f y141 3 1 (⟨#[107]⟩ : ByteArray)).bind fun bt144 => ((ring_Keepers.f (([1, 2, 3] : List Int)) 2 3 (⟨#[107]⟩ : ByteArray)).bind fun bt151 => ((Hs.ring_Points.f ([] : List Int) 0 0).bind fun bt155 => ((QH.icehouseref00_SameInts.f k bt144.1 (([7] : List Int))).bind fun t162 => (if t162 = true then (if bt144.2 = 0 then (if (bt151.1.length : Int) = 3 then (if bt151.2 = 0 then (some (bt155.2 == 2)) else (some false)) else (some false)) else (some false)) else (some false)))))) = some r := by first | (rw [hy141]; with_reducible exact H) | (have H2_ := (Option.bind_some _ _).symm.trans H; rw [hy141]; with_reducible exact H2_) | (have H2_ := (Option.bind_some _ _).symm.trans H; with_reducible exact H2_) | with_reducible exact H | (rw [hy141]; exact H) | exact H
  have Ny141 := Aside0.mk hy141
  clear hy141
  replace H := Option.bind_eq_some_iff.mp H
  obtain ⟨⟨t144, t147⟩, A10, H⟩ := H
  replace H : ((ring_Keepers.f (([1, 2, 3] : List Int)) 2 3 (⟨#[107]⟩ : ByteArray)).bind fun bt151 => ((Hs.ring_Points.f ([] : List Int) 0 0).bind fun bt155 => ((QH.icehouseref00_SameInts.f k t144 (([7] : List Int))).bind fun t162 => (if t162 = true then (if t147 = 0 then (if (bt151.1.length : Int) = 3 then (if bt151.2 = 0 then (some (bt155.2 == 2)) else (some false)) else (some false)) else (some false)) else (some false))))) = some r := H
  have A1 := Aside0.mk A10
  clear A10
  obtain ⟨y148, hy148⟩ : ∃ y_ : List Int, y_ = (([1, 2, 3] : List Int)) := ⟨_, rfl⟩
  replace H : ((ring_Keepers.f y148 2 3 (⟨#[107]⟩ : ByteArray)).bind fun bt151 => ((Hs.ring_Points.f ([] : List Int) 0 0).bind fun bt155 => ((QH.icehouseref00_SameInts.f k t144 (([7] : List Int))).bind fun t162 => (if t162 = true then (if t147 = 0 then (if (bt151.1.length : Int) = 3 then (if bt151.2 = 0 then (some (bt155.2 == 2)) else (some false)) else (some false)) else (some false)) else (some false))))) = some r := by first | (rw [hy148]; with_reducible exact H) | (have H2_ := (Option.bind_some _ _).symm.trans H; rw [hy148]; with_reducible exact H2_) | (have H2_ := (Option.bind_some _ _).symm.trans H; with_reducible exact H2_) | with_reducible exact H | (rw [hy148]; exact H) | exact H
  have Ny148 := Aside0.mk hy148
  clear hy148
  replace H := Option.bind_eq_some_iff.mp H
  obtain ⟨⟨t151, t154⟩, A20, H⟩ := H
  replace H : ((Hs.ring_Points.f ([] : List Int) 0 0).bind fun bt155 => ((QH.icehouseref00_SameInts.f k t144 (([7] : List Int))).bind fun t162 => (if t162 = true then (if t147 = 0 then (if (t151.length : Int) = 3 then (if t154 = 0 then (some (bt155.2 == 2)) else (some false)) else (some false)) else (some false)) else (some false)))) = some r := H
  have A2 := Aside0.mk A20
  clear A20
  replace H := Option.bind_eq_some_iff.mp H
  obtain ⟨⟨t155, t158⟩, A30, H⟩ := H
  replace H : ((QH.icehouseref00_SameInts.f k t144 (([7] : List Int))).bind fun t162 => (if t162 = true then (if t147 = 0 then (if (t151.length : Int) = 3 then (if t154 = 0 then (some (t158 == 2)) else (some false)) else (some false)) else (some false)) else (some false))) = some r := H
  have A3 := Aside0.mk A30
  clear A30
  obtain ⟨y159, hy159⟩ : ∃ y_ : List Int, y_ = (([7] : List Int)) := ⟨_, rfl⟩
  replace H : ((QH.icehouseref00_SameInts.f k t144 y159).bind fun t162 => (if t162 = true then (if t147 = 0 then (if (t151.length : Int) = 3 then (if t154 = 0 then (some (t158 == 2)) else (some false)) else (some false)) else (some false)) else (some false))) = some r := by first | (rw [hy159]; with_reducible exact H) | (have H2_ := (Option.bind_some _ _).symm.trans H; rw [hy159]; with_reducible exact H2_) | (have H2_ := (Option.bind_some _ _).symm.trans H; with_reducible exact H2_) | with_reducible exact H | (rw [hy159]; exact H) | exact H
  have Ny159 := Aside0.mk hy159
  clear hy159
  replace H := Option.bind_eq_some_iff.mp H
  obtain ⟨t162, A40, H⟩ := H
  replace H : (if t162 = true then (if t147 = 0 then (if (t151.length : Int) = 3 then (if t154 = 0 then (some (t158 == 2)) else (some false)) else (some false)) else (some false)) else (some false)) = some r := H
  have A4 := Aside0.mk A40
  clear A40
  by_cases c5 : t162 = true
  · subst c5
    have H1 : (if t147 = 0 then (if (t151.length : Int) = 3 then (if t154 = 0 then (some (t158 == 2)) else (some false)) else (some false)) else (some false)) = some r := by rw [if_pos rfl] at H; exact H
    clear H
    have H := H1
    clear H1
    by_cases c6 : t147 = 0
    · rw [if_pos c6] at H
      have c6b0 : (t147 == 0) = true := beq_iff_eq.mpr c6
      have c6b1 : (t147 != 0) = false := bne_eq_false_iff_eq.mpr c6
      clear c6
      by_cases c7 : (t151.length : Int) = 3
      · rw [if_pos c7] at H
        have c7b0 : ((t151.length : Int) == 3) = true := beq_iff_eq.mpr c7
        have c7b1 : ((t151.length : Int) != 3) = false := bne_eq_false_iff_eq.mpr c7
        clear c7
        by_cases c8 : t154 = 0
        · rw [if_pos c8] at H
          have c8b0 : (t154 == 0) = true := beq_iff_eq.mpr c8
          have c8b1 : (t154 != 0) = false := bne_eq_false_iff_eq.mpr c8
          clear c8
          obtain rfl := Option.some.inj H
          go_enter Try.func12, Try.ntmps12
          go_wp2_with (first | ((with_reducible refine gate_dst (N := 8) rfl ?_); (try (refine gate_guard (by rfl) ?_; dsimp only)); refine Kd.R_lit (Kd.int .i64) _ 3 ?hg (N := 8) ?hd (xs := ([7] : List Int)) (inner := [.int .i64 7]) (ok := fun _ => True) (okp := fun _ => True) ?hr ?hp (fun _ hk => hk) trivial (Below.refl _ _) (Nat.le_refl _) (by simp) ?_; (case hd => rfl); (case hg => rfl); (case hr => first | (go_simp; done) | (go_simp; rfl)); (case hp => exact (Reps.one (show Kd.M (Kd.int .i64) _ _ _ 7 [.int .i64 7] from rfl) (Reps.none _ _))); intro v142 w9 ho10 hb hg_ hnew_; clear hg_ hnew_; (first | rw [← Ny141.out] at ho10 | (simp only [Int.reduceToNat] at ho10; rw [← Ny141.out] at ho10)); have n0_ := Aside0.mk (Kd.R_lower ho10 (below_size (by repeat (first | (with_reducible first | exact HB.out | apply below_alloc | apply pw_below_drewN | apply below_drew1) | exact HB.out)))); have n1_ := Aside0.mk (below_step (by repeat (first | (with_reducible first | exact HB.out | apply below_alloc | apply pw_below_drewN | apply below_drew1) | exact HB.out)) hb); clear HB; have HO143 := n0_; have HB := n1_; clear n0_ n1_; clear hb ho10; obtain ⟨Ao11, co11, eo11⟩ := Kd.R_slice HO143.out; subst eo11) | ((with_reducible refine gate_callee (f := 16) rfl ?_); refine goesL_ (some 10) rfl rfl Try.func16 (by kernel_rfl) rfl #[.agg #[.slice Ao11 y141.length co11, .int .i64 3, .int .i64 1], .string (⟨#[107]⟩ : ByteArray)] rfl (by (try simp only [List.map_toArray, List.map_cons, List.map_nil]); first | done | rfl | (simp only [List.length_drop, List.length_take]; rfl)) ?_; (with_reducible refine (ring_Keepers.calls _ _ y141 3 1 (⟨#[107]⟩ : ByteArray) t144 t147 _ ?side1 ?side2 A1.out).mono ?_); (case side1 => repeat (first | exact (Kd.R_reads' HO143.out).2.2 | (with_reducible refine Kd.C_alloc ?_ _) | (with_reducible refine Kd.C_drewN ?_ _) | (with_reducible refine Kd.C_drew ?_))); (case side2 => exact (Kd.R_reads' HO143.out).2.1); rintro e w12 ⟨v145, rfl, ho0, hb⟩; refine ⟨_, rfl, ?_⟩; have n0_ := Aside0.mk (Kd.R_elder' (by (with_reducible repeat (first | apply Kd.R_alloc | apply Kd.R_drewN | apply Kd.R_drew)); exact HO143.out) (Kd.R_base ho0) hb); have n1_ := Aside0.mk (Kd.R_lower (Kd.R_new' ho0 (Kd.R_lt (by (with_reducible repeat (first | apply Kd.R_alloc | apply Kd.R_drewN | apply Kd.R_drew)); exact HO143.out))) (below_size (by repeat (first | (with_reducible first | exact HB.out | apply below_alloc | apply pw_below_drewN | apply below_drew1) | exact HB.out)))); have n2_ := Aside0.mk (below_step (by repeat (first | (with_reducible first | exact HB.out | apply below_alloc | apply pw_below_drewN | apply below_drew1) | exact HB.out)) hb); clear HO143; clear HB; have HO143 := n0_; have HO146 := n1_; have HB := n2_; clear n0_ n1_ n2_; (try clear hb); (try clear hb2); (try clear hk); (try clear hi); (try clear ho0)) | ((with_reducible refine gate_dst (N := 14) rfl ?_); (try (refine gate_guard (by rfl) ?_; dsimp only)); refine Kd.R_lit (Kd.int .i64) _ 3 ?hg (N := 14) ?hd (xs := ([1, 2, 3] : List Int)) (inner := [.int .i64 1, .int .i64 2, .int .i64 3]) (ok := fun _ => True) (okp := fun _ => True) ?hr ?hp (fun _ hk => hk) trivial (Below.refl _ _) (Nat.le_refl _) (by simp) ?_; (case hd => rfl); (case hg => rfl); (case hr => first | (go_simp; done) | (go_simp; rfl)); (case hp => exact (Reps.one (show Kd.M (Kd.int .i64) _ _ _ 1 [.int .i64 1] from rfl) (Reps.one (show Kd.M (Kd.int .i64) _ _ _ 2 [.int .i64 2] from rfl) (Reps.one (show Kd.M (Kd.int .i64) _ _ _ 3 [.int .i64 3] from rfl) (Reps.none _ _))))); intro v149 w13 ho14 hb hg_ hnew_; clear hg_ hnew_; (first | rw [← Ny148.out] at ho14 | (simp only [Int.reduceToNat] at ho14; rw [← Ny148.out] at ho14)); have n0_ := Aside0.mk (Kd.R_elder' (by (with_reducible repeat (first | apply Kd.R_alloc | apply Kd.R_drewN | apply Kd.R_drew)); exact HO143.out) (Kd.R_base ho14) hb); have n1_ := Aside0.mk (Kd.R_elder' (by (with_reducible repeat (first | apply Kd.R_alloc | apply Kd.R_drewN | apply Kd.R_drew)); exact HO146.out) (Kd.R_base ho14) hb); have n2_ := Aside0.mk (Kd.R_lower (Kd.R_new' (Kd.R_new' ho14 (Kd.R_lt (by (with_reducible repeat (first | apply Kd.R_alloc | apply Kd.R_drewN | apply Kd.R_drew)); exact HO143.out))) (Kd.R_lt (by (with_reducible repeat (first | apply Kd.R_alloc | apply Kd.R_drewN | apply Kd.R_drew)); exact HO146.out))) (below_size (by repeat (first | (with_reducible first | exact HB.out | apply below_alloc | apply pw_below_drewN | apply below_drew1) | exact HB.out)))); have n3_ := Aside0.mk (below_step (by repeat (first | (with_reducible first | exact HB.out | apply below_alloc | apply pw_below_drewN | apply below_drew1) | exact HB.out)) hb); clear HO143; clear HO146; clear HB; have HO143 := n0_; have HO146 := n1_; have HO150 := n2_; have HB := n3_; clear n0_ n1_ n2_ n3_; clear hb ho14; obtain ⟨Ao15, co15, eo15⟩ := Kd.R_slice HO150.out; subst eo15) | ((with_reducible refine gate_callee (f := 16) rfl ?_); refine goesL_ (some 16) rfl rfl Try.func16 (by kernel_rfl) rfl #[.agg #[.slice Ao15 y148.length co15, .int .i64 2, .int .i64 3], .string (⟨#[107]⟩ : ByteArray)] rfl (by (try simp only [List.map_toArray, List.map_cons, List.map_nil]); first | done | rfl | (simp only [List.length_drop, List.length_take]; rfl)) ?_; (with_reducible refine (ring_Keepers.calls _ _ y148 2 3 (⟨#[107]⟩ : ByteArray) t151 t154 _ ?side1 ?side2 A2.out).mono ?_); (case side1 => repeat (first | exact (Kd.R_reads' HO150.out).2.2 | (with_reducible refine Kd.C_alloc ?_ _) | (with_reducible refine Kd.C_drewN ?_ _) | (with_reducible refine Kd.C_drew ?_))); (case side2 => exact (Kd.R_reads' HO150.out).2.1); rintro e w16 ⟨v152, rfl, ho0, hb⟩; refine ⟨_, rfl, ?_⟩; have n0_ := Aside0.mk (Kd.R_elder' (by (with_reducible repeat (first | apply Kd.R_alloc | apply Kd.R_drewN | apply Kd.R_drew)); exact HO143.out) (Kd.R_base ho0) hb); have n1_ := Aside0.mk (Kd.R_elder' (by (with_reducible repeat (first | apply Kd.R_alloc | apply Kd.R_drewN | apply Kd.R_drew)); exact HO146.out) (Kd.R_base ho0) hb); have n2_ := Aside0.mk (Kd.R_elder' (by (with_reducible repeat (first | apply Kd.R_alloc | apply Kd.R_drewN | apply Kd.R_drew)); exact HO150.out) (Kd.R_base ho0) hb); have n3_ := Aside0.mk (Kd.R_lower (Kd.R_new' (Kd.R_new' (Kd.R_new' ho0 (Kd.R_lt (by (with_reducible repeat (first | apply Kd.R_alloc | apply Kd.R_drewN | apply Kd.R_drew)); exact HO143.out))) (Kd.R_lt (by (with_reducible repeat (first | apply Kd.R_alloc | apply Kd.R_drewN | apply Kd.R_drew)); exact HO146.out))) (Kd.R_lt (by (with_reducible repeat (first | apply Kd.R_alloc | apply Kd.R_drewN | apply Kd.R_drew)); exact HO150.out))) (below_size (by repeat (first | (with_reducible first | exact HB.out | apply below_alloc | apply pw_below_drewN | apply below_drew1) | exact HB.out)))); have n4_ := Aside0.mk (below_step (by repeat (first | (with_reducible first | exact HB.out | apply below_alloc | apply pw_below_drewN | apply below_drew1) | exact HB.out)) hb); clear HO143; clear HO146; clear HO150; clear HB; have HO143 := n0_; have HO146 := n1_; have HO150 := n2_; have HO153 := n3_; have HB := n4_; clear n0_ n1_ n2_ n3_ n4_; (try clear hb); (try clear hb2); (try clear hk); (try clear hi); (try clear ho0)) | ((with_reducible refine gate_callee (f := 23) rfl ?_); refine goesL_ (some 21) rfl rfl Try.func23 (by kernel_rfl) rfl #[.agg #[.slice none 0 0, .int .i64 0, .int .i64 0]] rfl (by (try simp only [List.map_toArray, List.map_cons, List.map_nil]); first | done | rfl | (simp only [List.length_drop, List.length_take]; rfl)) ?_; (refine (Hs.ring_Points.calls _ _ ([] : List Int) 0 0 t155 t158 _ ?side1 ?side2 A3.out).mono ?_); (case side1 => exact Kd.C_nil _ _); (case side2 => exact Nat.le_refl _); rintro e w17 ⟨v156, rfl, ho0, hb⟩; refine ⟨_, rfl, ?_⟩; have n0_ := Aside0.mk (Kd.R_below (by (with_reducible repeat (first | apply Kd.R_alloc | apply Kd.R_drewN | apply Kd.R_drew)); exact HO143.out) hb); have n1_ := Aside0.mk (Kd.R_below (by (with_reducible repeat (first | apply Kd.R_alloc | apply Kd.R_drewN | apply Kd.R_drew)); exact HO146.out) hb); have n2_ := Aside0.mk (Kd.R_below (by (with_reducible repeat (first | apply Kd.R_alloc | apply Kd.R_drewN | apply Kd.R_drew)); exact HO150.out) hb); have n3_ := Aside0.mk (Kd.R_below (by (with_reducible repeat (first | apply Kd.R_alloc | apply Kd.R_drewN | apply Kd.R_drew)); exact HO153.out) hb); have n4_ := Aside0.mk (Kd.R_lower ho0 (below_size (by repeat (first | (with_reducible first | exact HB.out | apply below_alloc | apply pw_below_drewN | apply below_drew1) | exact HB.out)))); have n5_ := Aside0.mk (below_step (by repeat (first | (with_reducible first | exact HB.out | apply below_alloc | apply pw_below_drewN | apply below_drew1) | exact HB.out)) hb); clear HO143; clear HO146; clear HO150; clear HO153; clear HB; have HO143 := n0_; have HO146 := n1_; have HO150 := n2_; have HO153 := n3_; have HO157 := n4_; have HB := n5_; clear n0_ n1_ n2_ n3_ n4_ n5_; (try clear hb); (try clear hb2); (try clear hk); (try clear hi); (try clear ho0)) | ((with_reducible refine gate_dst (N := 25) rfl ?_); (try (refine gate_guard (by rfl) ?_; dsimp only)); refine Kd.R_lit (Kd.int .i64) _ 3 ?hg (N := 25) ?hd (xs := ([7] : List Int)) (inner := [.int .i64 7]) (ok := fun _ => True) (okp := fun _ => True) ?hr ?hp (fun _ hk => hk) trivial (Below.refl _ _) (Nat.le_refl _) (by simp) ?_; (case hd => rfl); (case hg => rfl); (case hr => first | (go_simp; done) | (go_simp; rfl)); (case hp => exact (Reps.one (show Kd.M (Kd.int .i64) _ _ _ 7 [.int .i64 7] from rfl) (Reps.none _ _))); intro v160 w18 ho19 hb hg_ hnew_; clear hg_ hnew_; (first | rw [← Ny159.out] at ho19 | (simp only [Int.reduceToNat] at ho19; rw [← Ny159.out] at ho19)); have n0_ := Aside0.mk (Kd.R_elder' (by (with_reducible repeat (first | apply Kd.R_alloc | apply Kd.R_drewN | apply Kd.R_drew)); exact HO143.out) (Kd.R_base ho19) hb); have n1_ := Aside0.mk (Kd.R_elder' (by (with_reducible repeat (first | apply Kd.R_alloc | apply Kd.R_drewN | apply Kd.R_drew)); exact HO146.out) (Kd.R_base ho19) hb); have n2_ := Aside0.mk (Kd.R_elder' (by (with_reducible repeat (first | apply Kd.R_alloc | apply Kd.R_drewN | apply Kd.R_drew)); exact HO150.out) (Kd.R_base ho19) hb); have n3_ := Aside0.mk (Kd.R_elder' (by (with_reducible repeat (first | apply Kd.R_alloc | apply Kd.R_drewN | apply Kd.R_drew)); exact HO153.out) (Kd.R_base ho19) hb); have n4_ := Aside0.mk (Kd.R_below (by (with_reducible repeat (first | apply Kd.R_alloc | apply Kd.R_drewN | apply Kd.R_drew)); exact HO157.out) hb); have n5_ := Aside0.mk (Kd.R_lower (Kd.R_new' (Kd.R_new' (Kd.R_new' (Kd.R_new' ho19 (Kd.R_lt (by (with_reducible repeat (first | apply Kd.R_alloc | apply Kd.R_drewN | apply Kd.R_drew)); exact HO143.out))) (Kd.R_lt (by (with_reducible repeat (first | apply Kd.R_alloc | apply Kd.R_drewN | apply Kd.R_drew)); exact HO146.out))) (Kd.R_lt (by (with_reducible repeat (first | apply Kd.R_alloc | apply Kd.R_drewN | apply Kd.R_drew)); exact HO150.out))) (Kd.R_lt (by (with_reducible repeat (first | apply Kd.R_alloc | apply Kd.R_drewN | apply Kd.R_drew)); exact HO153.out))) (below_size (by repeat (first | (with_reducible first | exact HB.out | apply below_alloc | apply pw_below_drewN | apply below_drew1) | exact HB.out)))); have n6_ := Aside0.mk (below_step (by repeat (first | (with_reducible first | exact HB.out | apply below_alloc | apply pw_below_drewN | apply below_drew1) | exact HB.out)) hb); clear HO143; clear HO146; clear HO150; clear HO153; clear HO157; clear HB; have HO143 := n0_; have HO146 := n1_; have HO150 := n2_; have HO153 := n3_; have HO157 := n4_; have HO161 := n5_; have HB := n6_; clear n0_ n1_ n2_ n3_ n4_ n5_ n6_; clear hb ho19; obtain ⟨Ao20, co20, eo20⟩ := Kd.R_slice HO146.out; subst eo20; obtain ⟨Ao21, co21, eo21⟩ := Kd.R_slice HO161.out; subst eo21) | ((with_reducible refine gate_callee (f := 14) rfl ?_); refine goesL_ (some 26) rfl rfl Try.func14 (by kernel_rfl) rfl #[.slice Ao20 t144.length co20, .slice Ao21 y159.length co21] rfl (by (try simp only [List.map_toArray, List.map_cons, List.map_nil]); first | done | rfl | (simp only [List.length_drop, List.length_take]; rfl)) ?_; (with_reducible refine (QH.icehouseref00_SameInts.calls k _ _ t144 _ _ y159 true _ ?side1 ?side2 ?side3 ?side4 A4.out).mono ?_); (case side1 => repeat (first | exact (Kd.R_reads' HO146.out).2.2 | (with_reducible refine Kd.C_alloc ?_ _) | (with_reducible refine Kd.C_drewN ?_ _) | (with_reducible refine Kd.C_drew ?_))); (case side2 => exact (Kd.R_reads' HO146.out).2.1); (case side3 => repeat (first | exact (Kd.R_reads' HO161.out).2.2 | (with_reducible refine Kd.C_alloc ?_ _) | (with_reducible refine Kd.C_drewN ?_ _) | (with_reducible refine Kd.C_drew ?_))); (case side4 => exact (Kd.R_reads' HO161.out).2.1); rintro e w' ⟨rfl, ⟨nd, rfl⟩⟩; refine ⟨_, rfl, ?_⟩; obtain ⟨Ao22, co22, eo22⟩ := Kd.R_slice HO153.out; subst eo22))
          go_ret
          exact ⟨by first | rfl | (simp [errW_none, errW_some] <;> rfl) | (simp [*, errW_none, errW_some] <;> rfl), by repeat (first | (with_reducible first | exact HB.out | apply below_alloc | apply pw_below_drewN | apply below_drew1) | exact HB.out)⟩
        · rw [if_neg c8] at H
          have c8b0 : (t154 == 0) = false := beq_eq_false_iff_ne.mpr c8
          have c8b1 : (t154 != 0) = true := bne_iff_ne.mpr c8
          obtain rfl := Option.some.inj H
          go_enter Try.func12, Try.ntmps12
          go_wp2_with (first | ((with_reducible refine gate_dst (N := 8) rfl ?_); (try (refine gate_guard (by rfl) ?_; dsimp only)); refine Kd.R_lit (Kd.int .i64) _ 3 ?hg (N := 8) ?hd (xs := ([7] : List Int)) (inner := [.int .i64 7]) (ok := fun _ => True) (okp := fun _ => True) ?hr ?hp (fun _ hk => hk) trivial (Below.refl _ _) (Nat.le_refl _) (by simp) ?_; (case hd => rfl); (case hg => rfl); (case hr => first | (go_simp; done) | (go_simp; rfl)); (case hp => exact (Reps.one (show Kd.M (Kd.int .i64) _ _ _ 7 [.int .i64 7] from rfl) (Reps.none _ _))); intro v142 w23 ho24 hb hg_ hnew_; clear hg_ hnew_; (first | rw [← Ny141.out] at ho24 | (simp only [Int.reduceToNat] at ho24; rw [← Ny141.out] at ho24)); have n0_ := Aside0.mk (Kd.R_lower ho24 (below_size (by repeat (first | (with_reducible first | exact HB.out | apply below_alloc | apply pw_below_drewN | apply below_drew1) | exact HB.out)))); have n1_ := Aside0.mk (below_step (by repeat (first | (with_reducible first | exact HB.out | apply below_alloc | apply pw_below_drewN | apply below_drew1) | exact HB.out)) hb); clear HB; have HO143 := n0_; have HB := n1_; clear n0_ n1_; clear hb ho24; obtain ⟨Ao25, co25, eo25⟩ := Kd.R_slice HO143.out; subst eo25) | ((with_reducible refine gate_callee (f := 16) rfl ?_); refine goesL_ (some 10) rfl rfl Try.func16 (by kernel_rfl) rfl #[.agg #[.slice Ao25 y141.length co25, .int .i64 3, .int .i64 1], .string (⟨#[107]⟩ : ByteArray)] rfl (by (try simp only [List.map_toArray, List.map_cons, List.map_nil]); first | done | rfl | (simp only [List.length_drop, List.length_take]; rfl)) ?_; (with_reducible refine (ring_Keepers.calls _ _ y141 3 1 (⟨#[107]⟩ : ByteArray) t144 t147 _ ?side1 ?side2 A1.out).mono ?_); (case side1 => repeat (first | exact (Kd.R_reads' HO143.out).2.2 | (with_reducible refine Kd.C_alloc ?_ _) | (with_reducible refine Kd.C_drewN ?_ _) | (with_reducible refine Kd.C_drew ?_))); (case side2 => exact (Kd.R_reads' HO143.out).2.1); rintro e w26 ⟨v145, rfl, ho0, hb⟩; refine ⟨_, rfl, ?_⟩; have n0_ := Aside0.mk (Kd.R_elder' (by (with_reducible repeat (first | apply Kd.R_alloc | apply Kd.R_drewN | apply Kd.R_drew)); exact HO143.out) (Kd.R_base ho0) hb); have n1_ := Aside0.mk (Kd.R_lower (Kd.R_new' ho0 (Kd.R_lt (by (with_reducible repeat (first | apply Kd.R_alloc | apply Kd.R_drewN | apply Kd.R_drew)); exact HO143.out))) (below_size (by repeat (first | (with_reducible first | exact HB.out | apply below_alloc | apply pw_below_drewN | apply below_drew1) | exact HB.out)))); have n2_ := Aside0.mk (below_step (by repeat (first | (with_reducible first | exact HB.out | apply below_alloc | apply pw_below_drewN | apply below_drew1) | exact HB.out)) hb); clear HO143; clear HB; have HO143 := n0_; have HO146 := n1_; have HB := n2_; clear n0_ n1_ n2_; (try clear hb); (try clear hb2); (try clear hk); (try clear hi); (try clear ho0)) | ((with_reducible refine gate_dst (N := 14) rfl ?_); (try (refine gate_guard (by rfl) ?_; dsimp only)); refine Kd.R_lit (Kd.int .i64) _ 3 ?hg (N := 14) ?hd (xs := ([1, 2, 3] : List Int)) (inner := [.int .i64 1, .int .i64 2, .int .i64 3]) (ok := fun _ => True) (okp := fun _ => True) ?hr ?hp (fun _ hk => hk) trivial (Below.refl _ _) (Nat.le_refl _) (by simp) ?_; (case hd => rfl); (case hg => rfl); (case hr => first | (go_simp; done) | (go_simp; rfl)); (case hp => exact (Reps.one (show Kd.M (Kd.int .i64) _ _ _ 1 [.int .i64 1] from rfl) (Reps.one (show Kd.M (Kd.int .i64) _ _ _ 2 [.int .i64 2] from rfl) (Reps.one (show Kd.M (Kd.int .i64) _ _ _ 3 [.int .i64 3] from rfl) (Reps.none _ _))))); intro v149 w27 ho28 hb hg_ hnew_; clear hg_ hnew_; (first | rw [← Ny148.out] at ho28 | (simp only [Int.reduceToNat] at ho28; rw [← Ny148.out] at ho28)); have n0_ := Aside0.mk (Kd.R_elder' (by (with_reducible repeat (first | apply Kd.R_alloc | apply Kd.R_drewN | apply Kd.R_drew)); exact HO143.out) (Kd.R_base ho28) hb); have n1_ := Aside0.mk (Kd.R_elder' (by (with_reducible repeat (first | apply Kd.R_alloc | apply Kd.R_drewN | apply Kd.R_drew)); exact HO146.out) (Kd.R_base ho28) hb); have n2_ := Aside0.mk (Kd.R_lower (Kd.R_new' (Kd.R_new' ho28 (Kd.R_lt (by (with_reducible repeat (first | apply Kd.R_alloc | apply Kd.R_drewN | apply Kd.R_drew)); exact HO143.out))) (Kd.R_lt (by (with_reducible repeat (first | apply Kd.R_alloc | apply Kd.R_drewN | apply Kd.R_drew)); exact HO146.out))) (below_size (by repeat (first | (with_reducible first | exact HB.out | apply below_alloc | apply pw_below_drewN | apply below_drew1) | exact HB.out)))); have n3_ := Aside0.mk (below_step (by repeat (first | (with_reducible first | exact HB.out | apply below_alloc | apply pw_below_drewN | apply below_drew1) | exact HB.out)) hb); clear HO143; clear HO146; clear HB; have HO143 := n0_; have HO146 := n1_; have HO150 := n2_; have HB := n3_; clear n0_ n1_ n2_ n3_; clear hb ho28; obtain ⟨Ao29, co29, eo29⟩ := Kd.R_slice HO150.out; subst eo29) | ((with_reducible refine gate_callee (f := 16) rfl ?_); refine goesL_ (some 16) rfl rfl Try.func16 (by kernel_rfl) rfl #[.agg #[.slice Ao29 y148.length co29, .int .i64 2, .int .i64 3], .string (⟨#[107]⟩ : ByteArray)] rfl (by (try simp only [List.map_toArray, List.map_cons, List.map_nil]); first | done | rfl | (simp only [List.length_drop, List.length_take]; rfl)) ?_; (with_reducible refine (ring_Keepers.calls _ _ y148 2 3 (⟨#[107]⟩ : ByteArray) t151 t154 _ ?side1 ?side2 A2.out).mono ?_); (case side1 => repeat (first | exact (Kd.R_reads' HO150.out).2.2 | (with_reducible refine Kd.C_alloc ?_ _) | (with_reducible refine Kd.C_drewN ?_ _) | (with_reducible refine Kd.C_drew ?_))); (case side2 => exact (Kd.R_reads' HO150.out).2.1); rintro e w30 ⟨v152, rfl, ho0, hb⟩; refine ⟨_, rfl, ?_⟩; have n0_ := Aside0.mk (Kd.R_elder' (by (with_reducible repeat (first | apply Kd.R_alloc | apply Kd.R_drewN | apply Kd.R_drew)); exact HO143.out) (Kd.R_base ho0) hb); have n1_ := Aside0.mk (Kd.R_elder' (by (with_reducible repeat (first | apply Kd.R_alloc | apply Kd.R_drewN | apply Kd.R_drew)); exact HO146.out) (Kd.R_base ho0) hb); have n2_ := Aside0.mk (Kd.R_elder' (by (with_reducible repeat (first | apply Kd.R_alloc | apply Kd.R_drewN | apply Kd.R_drew)); exact HO150.out) (Kd.R_base ho0) hb); have n3_ := Aside0.mk (Kd.R_lower (Kd.R_new' (Kd.R_new' (Kd.R_new' ho0 (Kd.R_lt (by (with_reducible repeat (first | apply Kd.R_alloc | apply Kd.R_drewN | apply Kd.R_drew)); exact HO143.out))) (Kd.R_lt (by (with_reducible repeat (first | apply Kd.R_alloc | apply Kd.R_drewN | apply Kd.R_drew)); exact HO146.out))) (Kd.R_lt (by (with_reducible repeat (first | apply Kd.R_alloc | apply Kd.R_drewN | apply Kd.R_drew)); exact HO150.out))) (below_size (by repeat (first | (with_reducible first | exact HB.out | apply below_alloc | apply pw_below_drewN | apply below_drew1) | exact HB.out)))); have n4_ := Aside0.mk (below_step (by repeat (first | (with_reducible first | exact HB.out | apply below_alloc | apply pw_below_drewN | apply below_drew1) | exact HB.out)) hb); clear HO143; clear HO146; clear HO150; clear HB; have HO143 := n0_; have HO146 := n1_; have HO150 := n2_; have HO153 := n3_; have HB := n4_; clear n0_ n1_ n2_ n3_ n4_; (try clear hb); (try clear hb2); (try clear hk); (try clear hi); (try clear ho0)) | ((with_reducible refine gate_callee (f := 23) rfl ?_); refine goesL_ (some 21) rfl rfl Try.func23 (by kernel_rfl) rfl #[.agg #[.slice none 0 0, .int .i64 0, .int .i64 0]] rfl (by (try simp only [List.map_toArray, List.map_cons, List.map_nil]); first | done | rfl | (simp only [List.length_drop, List.length_take]; rfl)) ?_; (refine (Hs.ring_Points.calls _ _ ([] : List Int) 0 0 t155 t158 _ ?side1 ?side2 A3.out).mono ?_); (case side1 => exact Kd.C_nil _ _); (case side2 => exact Nat.le_refl _); rintro e w31 ⟨v156, rfl, ho0, hb⟩; refine ⟨_, rfl, ?_⟩; have n0_ := Aside0.mk (Kd.R_below (by (with_reducible repeat (first | apply Kd.R_alloc | apply Kd.R_drewN | apply Kd.R_drew)); exact HO143.out) hb); have n1_ := Aside0.mk (Kd.R_below (by (with_reducible repeat (first | apply Kd.R_alloc | apply Kd.R_drewN | apply Kd.R_drew)); exact HO146.out) hb); have n2_ := Aside0.mk (Kd.R_below (by (with_reducible repeat (first | apply Kd.R_alloc | apply Kd.R_drewN | apply Kd.R_drew)); exact HO150.out) hb); have n3_ := Aside0.mk (Kd.R_below (by (with_reducible repeat (first | apply Kd.R_alloc | apply Kd.R_drewN | apply Kd.R_drew)); exact HO153.out) hb); have n4_ := Aside0.mk (Kd.R_lower ho0 (below_size (by repeat (first | (with_reducible first | exact HB.out | apply below_alloc | apply pw_below_drewN | apply below_drew1) | exact HB.out)))); have n5_ := Aside0.mk (below_step (by repeat (first | (with_reducible first | exact HB.out | apply below_alloc | apply pw_below_drewN | apply below_drew1) | exact HB.out)) hb); clear HO143; clear HO146; clear HO150; clear HO153; clear HB; have HO143 := n0_; have HO146 := n1_; have HO150 := n2_; have HO153 := n3_; have HO157 := n4_; have HB := n5_; clear n0_ n1_ n2_ n3_ n4_ n5_; (try clear hb); (try clear hb2); (try clear hk); (try clear hi); (try clear ho0)) | ((with_reducible refine gate_dst (N := 25) rfl ?_); (try (refine gate_guard (by rfl) ?_; dsimp only)); refine Kd.R_lit (Kd.int .i64) _ 3 ?hg (N := 25) ?hd (xs := ([7] : List Int)) (inner := [.int .i64 7]) (ok := fun _ => True) (okp := fun _ => True) ?hr ?hp (fun _ hk => hk) trivial (Below.refl _ _) (Nat.le_refl _) (by simp) ?_; (case hd => rfl); (case hg => rfl); (case hr => first | (go_simp; done) | (go_simp; rfl)); (case hp => exact (Reps.one (show Kd.M (Kd.int .i64) _ _ _ 7 [.int .i64 7] from rfl) (Reps.none _ _))); intro v160 w32 ho33 hb hg_ hnew_; clear hg_ hnew_; (first | rw [← Ny159.out] at ho33 | (simp only [Int.reduceToNat] at ho33; rw [← Ny159.out] at ho33)); have n0_ := Aside0.mk (Kd.R_elder' (by (with_reducible repeat (first | apply Kd.R_alloc | apply Kd.R_drewN | apply Kd.R_drew)); exact HO143.out) (Kd.R_base ho33) hb); have n1_ := Aside0.mk (Kd.R_elder' (by (with_reducible repeat (first | apply Kd.R_alloc | apply Kd.R_drewN | apply Kd.R_drew)); exact HO146.out) (Kd.R_base ho33) hb); have n2_ := Aside0.mk (Kd.R_elder' (by (with_reducible repeat (first | apply Kd.R_alloc | apply Kd.R_drewN | apply Kd.R_drew)); exact HO150.out) (Kd.R_base ho33) hb); have n3_ := Aside0.mk (Kd.R_elder' (by (with_reducible repeat (first | apply Kd.R_alloc | apply Kd.R_drewN | apply Kd.R_drew)); exact HO153.out) (Kd.R_base ho33) hb); have n4_ := Aside0.mk (Kd.R_below (by (with_reducible repeat (first | apply Kd.R_alloc | apply Kd.R_drewN | apply Kd.R_drew)); exact HO157.out) hb); have n5_ := Aside0.mk (Kd.R_lower (Kd.R_new' (Kd.R_new' (Kd.R_new' (Kd.R_new' ho33 (Kd.R_lt (by (with_reducible repeat (first | apply Kd.R_alloc | apply Kd.R_drewN | apply Kd.R_drew)); exact HO143.out))) (Kd.R_lt (by (with_reducible repeat (first | apply Kd.R_alloc | apply Kd.R_drewN | apply Kd.R_drew)); exact HO146.out))) (Kd.R_lt (by (with_reducible repeat (first | apply Kd.R_alloc | apply Kd.R_drewN | apply Kd.R_drew)); exact HO150.out))) (Kd.R_lt (by (with_reducible repeat (first | apply Kd.R_alloc | apply Kd.R_drewN | apply Kd.R_drew)); exact HO153.out))) (below_size (by repeat (first | (with_reducible first | exact HB.out | apply below_alloc | apply pw_below_drewN | apply below_drew1) | exact HB.out)))); have n6_ := Aside0.mk (below_step (by repeat (first | (with_reducible first | exact HB.out | apply below_alloc | apply pw_below_drewN | apply below_drew1) | exact HB.out)) hb); clear HO143; clear HO146; clear HO150; clear HO153; clear HO157; clear HB; have HO143 := n0_; have HO146 := n1_; have HO150 := n2_; have HO153 := n3_; have HO157 := n4_; have HO161 := n5_; have HB := n6_; clear n0_ n1_ n2_ n3_ n4_ n5_ n6_; clear hb ho33; obtain ⟨Ao34, co34, eo34⟩ := Kd.R_slice HO146.out; subst eo34; obtain ⟨Ao35, co35, eo35⟩ := Kd.R_slice HO161.out; subst eo35) | ((with_reducible refine gate_callee (f := 14) rfl ?_); refine goesL_ (some 26) rfl rfl Try.func14 (by kernel_rfl) rfl #[.slice Ao34 t144.length co34, .slice Ao35 y159.length co35] rfl (by (try simp only [List.map_toArray, List.map_cons, List.map_nil]); first | done | rfl | (simp only [List.length_drop, List.length_take]; rfl)) ?_; (with_reducible refine (QH.icehouseref00_SameInts.calls k _ _ t144 _ _ y159 true _ ?side1 ?side2 ?side3 ?side4 A4.out).mono ?_); (case side1 => repeat (first | exact (Kd.R_reads' HO146.out).2.2 | (with_reducible refine Kd.C_alloc ?_ _) | (with_reducible refine Kd.C_drewN ?_ _) | (with_reducible refine Kd.C_drew ?_))); (case side2 => exact (Kd.R_reads' HO146.out).2.1); (case side3 => repeat (first | exact (Kd.R_reads' HO161.out).2.2 | (with_reducible refine Kd.C_alloc ?_ _) | (with_reducible refine Kd.C_drewN ?_ _) | (with_reducible refine Kd.C_drew ?_))); (case side4 => exact (Kd.R_reads' HO161.out).2.1); rintro e w' ⟨rfl, ⟨nd, rfl⟩⟩; refine ⟨_, rfl, ?_⟩; obtain ⟨Ao36, co36, eo36⟩ := Kd.R_slice HO153.out; subst eo36))
          go_ret
          exact ⟨by first | rfl | (simp [errW_none, errW_some] <;> rfl) | (simp [*, errW_none, errW_some] <;> rfl), by repeat (first | (with_reducible first | exact HB.out | apply below_alloc | apply pw_below_drewN | apply below_drew1) | exact HB.out)⟩
      · rw [if_neg c7] at H
        have c7b0 : ((t151.length : Int) == 3) = false := beq_eq_false_iff_ne.mpr c7
        have c7b1 : ((t151.length : Int) != 3) = true := bne_iff_ne.mpr c7
        obtain rfl := Option.some.inj H
        go_enter Try.func12, Try.ntmps12
        go_wp2_with (first | ((with_reducible refine gate_dst (N := 8) rfl ?_); (try (refine gate_guard (by rfl) ?_; dsimp only)); refine Kd.R_lit (Kd.int .i64) _ 3 ?hg (N := 8) ?hd (xs := ([7] : List Int)) (inner := [.int .i64 7]) (ok := fun _ => True) (okp := fun _ => True) ?hr ?hp (fun _ hk => hk) trivial (Below.refl _ _) (Nat.le_refl _) (by simp) ?_; (case hd => rfl); (case hg => rfl); (case hr => first | (go_simp; done) | (go_simp; rfl)); (case hp => exact (Reps.one (show Kd.M (Kd.int .i64) _ _ _ 7 [.int .i64 7] from rfl) (Reps.none _ _))); intro v142 w37 ho38 hb hg_ hnew_; clear hg_ hnew_; (first | rw [← Ny141.out] at ho38 | (simp only [Int.reduceToNat] at ho38; rw [← Ny141.out] at ho38)); have n0_ := Aside0.mk (Kd.R_lower ho38 (below_size (by repeat (first | (with_reducible first | exact HB.out | apply below_alloc | apply pw_below_drewN | apply below_drew1) | exact HB.out)))); have n1_ := Aside0.mk (below_step (by repeat (first | (with_reducible first | exact HB.out | apply below_alloc | apply pw_below_drewN | apply below_drew1) | exact HB.out)) hb); clear HB; have HO143 := n0_; have HB := n1_; clear n0_ n1_; clear hb ho38; obtain ⟨Ao39, co39, eo39⟩ := Kd.R_slice HO143.out; subst eo39) | ((with_reducible refine gate_callee (f := 16) rfl ?_); refine goesL_ (some 10) rfl rfl Try.func16 (by kernel_rfl) rfl #[.agg #[.slice Ao39 y141.length co39, .int .i64 3, .int .i64 1], .string (⟨#[107]⟩ : ByteArray)] rfl (by (try simp only [List.map_toArray, List.map_cons, List.map_nil]); first | done | rfl | (simp only [List.length_drop, List.length_take]; rfl)) ?_; (with_reducible refine (ring_Keepers.calls _ _ y141 3 1 (⟨#[107]⟩ : ByteArray) t144 t147 _ ?side1 ?side2 A1.out).mono ?_); (case side1 => repeat (first | exact (Kd.R_reads' HO143.out).2.2 | (with_reducible refine Kd.C_alloc ?_ _) | (with_reducible refine Kd.C_drewN ?_ _) | (with_reducible refine Kd.C_drew ?_))); (case side2 => exact (Kd.R_reads' HO143.out).2.1); rintro e w40 ⟨v145, rfl, ho0, hb⟩; refine ⟨_, rfl, ?_⟩; have n0_ := Aside0.mk (Kd.R_elder' (by (with_reducible repeat (first | apply Kd.R_alloc | apply Kd.R_drewN | apply Kd.R_drew)); exact HO143.out) (Kd.R_base ho0) hb); have n1_ := Aside0.mk (Kd.R_lower (Kd.R_new' ho0 (Kd.R_lt (by (with_reducible repeat (first | apply Kd.R_alloc | apply Kd.R_drewN | apply Kd.R_drew)); exact HO143.out))) (below_size (by repeat (first | (with_reducible first | exact HB.out | apply below_alloc | apply pw_below_drewN | apply below_drew1) | exact HB.out)))); have n2_ := Aside0.mk (below_step (by repeat (first | (with_reducible first | exact HB.out | apply below_alloc | apply pw_below_drewN | apply below_drew1) | exact HB.out)) hb); clear HO143; clear HB; have HO143 := n0_; have HO146 := n1_; have HB := n2_; clear n0_ n1_ n2_; (try clear hb); (try clear hb2); (try clear hk); (try clear hi); (try clear ho0)) | ((with_reducible refine gate_dst (N := 14) rfl ?_); (try (refine gate_guard (by rfl) ?_; dsimp only)); refine Kd.R_lit (Kd.int .i64) _ 3 ?hg (N := 14) ?hd (xs := ([1, 2, 3] : List Int)) (inner := [.int .i64 1, .int .i64 2, .int .i64 3]) (ok := fun _ => True) (okp := fun _ => True) ?hr ?hp (fun _ hk => hk) trivial (Below.refl _ _) (Nat.le_refl _) (by simp) ?_; (case hd => rfl); (case hg => rfl); (case hr => first | (go_simp; done) | (go_simp; rfl)); (case hp => exact (Reps.one (show Kd.M (Kd.int .i64) _ _ _ 1 [.int .i64 1] from rfl) (Reps.one (show Kd.M (Kd.int .i64) _ _ _ 2 [.int .i64 2] from rfl) (Reps.one (show Kd.M (Kd.int .i64) _ _ _ 3 [.int .i64 3] from rfl) (Reps.none _ _))))); intro v149 w41 ho42 hb hg_ hnew_; clear hg_ hnew_; (first | rw [← Ny148.out] at ho42 | (simp only [Int.reduceToNat] at ho42; rw [← Ny148.out] at ho42)); have n0_ := Aside0.mk (Kd.R_elder' (by (with_reducible repeat (first | apply Kd.R_alloc | apply Kd.R_drewN | apply Kd.R_drew)); exact HO143.out) (Kd.R_base ho42) hb); have n1_ := Aside0.mk (Kd.R_elder' (by (with_reducible repeat (first | apply Kd.R_alloc | apply Kd.R_drewN | apply Kd.R_drew)); exact HO146.out) (Kd.R_base ho42) hb); have n2_ := Aside0.mk (Kd.R_lower (Kd.R_new' (Kd.R_new' ho42 (Kd.R_lt (by (with_reducible repeat (first | apply Kd.R_alloc | apply Kd.R_drewN | apply Kd.R_drew)); exact HO143.out))) (Kd.R_lt (by (with_reducible repeat (first | apply Kd.R_alloc | apply Kd.R_drewN | apply Kd.R_drew)); exact HO146.out))) (below_size (by repeat (first | (with_reducible first | exact HB.out | apply below_alloc | apply pw_below_drewN | apply below_drew1) | exact HB.out)))); have n3_ := Aside0.mk (below_step (by repeat (first | (with_reducible first | exact HB.out | apply below_alloc | apply pw_below_drewN | apply below_drew1) | exact HB.out)) hb); clear HO143; clear HO146; clear HB; have HO143 := n0_; have HO146 := n1_; have HO150 := n2_; have HB := n3_; clear n0_ n1_ n2_ n3_; clear hb ho42; obtain ⟨Ao43, co43, eo43⟩ := Kd.R_slice HO150.out; subst eo43) | ((with_reducible refine gate_callee (f := 16) rfl ?_); refine goesL_ (some 16) rfl rfl Try.func16 (by kernel_rfl) rfl #[.agg #[.slice Ao43 y148.length co43, .int .i64 2, .int .i64 3], .string (⟨#[107]⟩ : ByteArray)] rfl (by (try simp only [List.map_toArray, List.map_cons, List.map_nil]); first | done | rfl | (simp only [List.length_drop, List.length_take]; rfl)) ?_; (with_reducible refine (ring_Keepers.calls _ _ y148 2 3 (⟨#[107]⟩ : ByteArray) t151 t154 _ ?side1 ?side2 A2.out).mono ?_); (case side1 => repeat (first | exact (Kd.R_reads' HO150.out).2.2 | (with_reducible refine Kd.C_alloc ?_ _) | (with_reducible refine Kd.C_drewN ?_ _) | (with_reducible refine Kd.C_drew ?_))); (case side2 => exact (Kd.R_reads' HO150.out).2.1); rintro e w44 ⟨v152, rfl, ho0, hb⟩; refine ⟨_, rfl, ?_⟩; have n0_ := Aside0.mk (Kd.R_elder' (by (with_reducible repeat (first | apply Kd.R_alloc | apply Kd.R_drewN | apply Kd.R_drew)); exact HO143.out) (Kd.R_base ho0) hb); have n1_ := Aside0.mk (Kd.R_elder' (by (with_reducible repeat (first | apply Kd.R_alloc | apply Kd.R_drewN | apply Kd.R_drew)); exact HO146.out) (Kd.R_base ho0) hb); have n2_ := Aside0.mk (Kd.R_elder' (by (with_reducible repeat (first | apply Kd.R_alloc | apply Kd.R_drewN | apply Kd.R_drew)); exact HO150.out) (Kd.R_base ho0) hb); have n3_ := Aside0.mk (Kd.R_lower (Kd.R_new' (Kd.R_new' (Kd.R_new' ho0 (Kd.R_lt (by (with_reducible repeat (first | apply Kd.R_alloc | apply Kd.R_drewN | apply Kd.R_drew)); exact HO143.out))) (Kd.R_lt (by (with_reducible repeat (first | apply Kd.R_alloc | apply Kd.R_drewN | apply Kd.R_drew)); exact HO146.out))) (Kd.R_lt (by (with_reducible repeat (first | apply Kd.R_alloc | apply Kd.R_drewN | apply Kd.R_drew)); exact HO150.out))) (below_size (by repeat (first | (with_reducible first | exact HB.out | apply below_alloc | apply pw_below_drewN | apply below_drew1) | exact HB.out)))); have n4_ := Aside0.mk (below_step (by repeat (first | (with_reducible first | exact HB.out | apply below_alloc | apply pw_below_drewN | apply below_drew1) | exact HB.out)) hb); clear HO143; clear HO146; clear HO150; clear HB; have HO143 := n0_; have HO146 := n1_; have HO150 := n2_; have HO153 := n3_; have HB := n4_; clear n0_ n1_ n2_ n3_ n4_; (try clear hb); (try clear hb2); (try clear hk); (try clear hi); (try clear ho0)) | ((with_reducible refine gate_callee (f := 23) rfl ?_); refine goesL_ (some 21) rfl rfl Try.func23 (by kernel_rfl) rfl #[.agg #[.slice none 0 0, .int .i64 0, .int .i64 0]] rfl (by (try simp only [List.map_toArray, List.map_cons, List.map_nil]); first | done | rfl | (simp only [List.length_drop, List.length_take]; rfl)) ?_; (refine (Hs.ring_Points.calls _ _ ([] : List Int) 0 0 t155 t158 _ ?side1 ?side2 A3.out).mono ?_); (case side1 => exact Kd.C_nil _ _); (case side2 => exact Nat.le_refl _); rintro e w45 ⟨v156, rfl, ho0, hb⟩; refine ⟨_, rfl, ?_⟩; have n0_ := Aside0.mk (Kd.R_below (by (with_reducible repeat (first | apply Kd.R_alloc | apply Kd.R_drewN | apply Kd.R_drew)); exact HO143.out) hb); have n1_ := Aside0.mk (Kd.R_below (by (with_reducible repeat (first | apply Kd.R_alloc | apply Kd.R_drewN | apply Kd.R_drew)); exact HO146.out) hb); have n2_ := Aside0.mk (Kd.R_below (by (with_reducible repeat (first | apply Kd.R_alloc | apply Kd.R_drewN | apply Kd.R_drew)); exact HO150.out) hb); have n3_ := Aside0.mk (Kd.R_below (by (with_reducible repeat (first | apply Kd.R_alloc | apply Kd.R_drewN | apply Kd.R_drew)); exact HO153.out) hb); have n4_ := Aside0.mk (Kd.R_lower ho0 (below_size (by repeat (first | (with_reducible first | exact HB.out | apply below_alloc | apply pw_below_drewN | apply below_drew1) | exact HB.out)))); have n5_ := Aside0.mk (below_step (by repeat (first | (with_reducible first | exact HB.out | apply below_alloc | apply pw_below_drewN | apply below_drew1) | exact HB.out)) hb); clear HO143; clear HO146; clear HO150; clear HO153; clear HB; have HO143 := n0_; have HO146 := n1_; have HO150 := n2_; have HO153 := n3_; have HO157 := n4_; have HB := n5_; clear n0_ n1_ n2_ n3_ n4_ n5_; (try clear hb); (try clear hb2); (try clear hk); (try clear hi); (try clear ho0)) | ((with_reducible refine gate_dst (N := 25) rfl ?_); (try (refine gate_guard (by rfl) ?_; dsimp only)); refine Kd.R_lit (Kd.int .i64) _ 3 ?hg (N := 25) ?hd (xs := ([7] : List Int)) (inner := [.int .i64 7]) (ok := fun _ => True) (okp := fun _ => True) ?hr ?hp (fun _ hk => hk) trivial (Below.refl _ _) (Nat.le_refl _) (by simp) ?_; (case hd => rfl); (case hg => rfl); (case hr => first | (go_simp; done) | (go_simp; rfl)); (case hp => exact (Reps.one (show Kd.M (Kd.int .i64) _ _ _ 7 [.int .i64 7] from rfl) (Reps.none _ _))); intro v160 w46 ho47 hb hg_ hnew_; clear hg_ hnew_; (first | rw [← Ny159.out] at ho47 | (simp only [Int.reduceToNat] at ho47; rw [← Ny159.out] at ho47)); have n0_ := Aside0.mk (Kd.R_elder' (by (with_reducible repeat (first | apply Kd.R_alloc | apply Kd.R_drewN | apply Kd.R_drew)); exact HO143.out) (Kd.R_base ho47) hb); have n1_ := Aside0.mk (Kd.R_elder' (by (with_reducible repeat (first | apply Kd.R_alloc | apply Kd.R_drewN | apply Kd.R_drew)); exact HO146.out) (Kd.R_base ho47) hb); have n2_ := Aside0.mk (Kd.R_elder' (by (with_reducible repeat (first | apply Kd.R_alloc | apply Kd.R_drewN | apply Kd.R_drew)); exact HO150.out) (Kd.R_base ho47) hb); have n3_ := Aside0.mk (Kd.R_elder' (by (with_reducible repeat (first | apply Kd.R_alloc | apply Kd.R_drewN | apply Kd.R_drew)); exact HO153.out) (Kd.R_base ho47) hb); have n4_ := Aside0.mk (Kd.R_below (by (with_reducible repeat (first | apply Kd.R_alloc | apply Kd.R_drewN | apply Kd.R_drew)); exact HO157.out) hb); have n5_ := Aside0.mk (Kd.R_lower (Kd.R_new' (Kd.R_new' (Kd.R_new' (Kd.R_new' ho47 (Kd.R_lt (by (with_reducible repeat (first | apply Kd.R_alloc | apply Kd.R_drewN | apply Kd.R_drew)); exact HO143.out))) (Kd.R_lt (by (with_reducible repeat (first | apply Kd.R_alloc | apply Kd.R_drewN | apply Kd.R_drew)); exact HO146.out))) (Kd.R_lt (by (with_reducible repeat (first | apply Kd.R_alloc | apply Kd.R_drewN | apply Kd.R_drew)); exact HO150.out))) (Kd.R_lt (by (with_reducible repeat (first | apply Kd.R_alloc | apply Kd.R_drewN | apply Kd.R_drew)); exact HO153.out))) (below_size (by repeat (first | (with_reducible first | exact HB.out | apply below_alloc | apply pw_below_drewN | apply below_drew1) | exact HB.out)))); have n6_ := Aside0.mk (below_step (by repeat (first | (with_reducible first | exact HB.out | apply below_alloc | apply pw_below_drewN | apply below_drew1) | exact HB.out)) hb); clear HO143; clear HO146; clear HO150; clear HO153; clear HO157; clear HB; have HO143 := n0_; have HO146 := n1_; have HO150 := n2_; have HO153 := n3_; have HO157 := n4_; have HO161 := n5_; have HB := n6_; clear n0_ n1_ n2_ n3_ n4_ n5_ n6_; clear hb ho47; obtain ⟨Ao48, co48, eo48⟩ := Kd.R_slice HO146.out; subst eo48; obtain ⟨Ao49, co49, eo49⟩ := Kd.R_slice HO161.out; subst eo49) | ((with_reducible refine gate_callee (f := 14) rfl ?_); refine goesL_ (some 26) rfl rfl Try.func14 (by kernel_rfl) rfl #[.slice Ao48 t144.length co48, .slice Ao49 y159.length co49] rfl (by (try simp only [List.map_toArray, List.map_cons, List.map_nil]); first | done | rfl | (simp only [List.length_drop, List.length_take]; rfl)) ?_; (with_reducible refine (QH.icehouseref00_SameInts.calls k _ _ t144 _ _ y159 true _ ?side1 ?side2 ?side3 ?side4 A4.out).mono ?_); (case side1 => repeat (first | exact (Kd.R_reads' HO146.out).2.2 | (with_reducible refine Kd.C_alloc ?_ _) | (with_reducible refine Kd.C_drewN ?_ _) | (with_reducible refine Kd.C_drew ?_))); (case side2 => exact (Kd.R_reads' HO146.out).2.1); (case side3 => repeat (first | exact (Kd.R_reads' HO161.out).2.2 | (with_reducible refine Kd.C_alloc ?_ _) | (with_reducible refine Kd.C_drewN ?_ _) | (with_reducible refine Kd.C_drew ?_))); (case side4 => exact (Kd.R_reads' HO161.out).2.1); rintro e w' ⟨rfl, ⟨nd, rfl⟩⟩; refine ⟨_, rfl, ?_⟩; obtain ⟨Ao50, co50, eo50⟩ := Kd.R_slice HO153.out; subst eo50))
        go_ret
        exact ⟨by first | rfl | (simp [errW_none, errW_some] <;> rfl) | (simp [*, errW_none, errW_some] <;> rfl), by repeat (first | (with_reducible first | exact HB.out | apply below_alloc | apply pw_below_drewN | apply below_drew1) | exact HB.out)⟩
    · rw [if_neg c6] at H
      have c6b0 : (t147 == 0) = false := beq_eq_false_iff_ne.mpr c6
      have c6b1 : (t147 != 0) = true := bne_iff_ne.mpr c6
      obtain rfl := Option.some.inj H
      go_enter Try.func12, Try.ntmps12
      go_wp2_with (first | ((with_reducible refine gate_dst (N := 8) rfl ?_); (try (refine gate_guard (by rfl) ?_; dsimp only)); refine Kd.R_lit (Kd.int .i64) _ 3 ?hg (N := 8) ?hd (xs := ([7] : List Int)) (inner := [.int .i64 7]) (ok := fun _ => True) (okp := fun _ => True) ?hr ?hp (fun _ hk => hk) trivial (Below.refl _ _) (Nat.le_refl _) (by simp) ?_; (case hd => rfl); (case hg => rfl); (case hr => first | (go_simp; done) | (go_simp; rfl)); (case hp => exact (Reps.one (show Kd.M (Kd.int .i64) _ _ _ 7 [.int .i64 7] from rfl) (Reps.none _ _))); intro v142 w51 ho52 hb hg_ hnew_; clear hg_ hnew_; (first | rw [← Ny141.out] at ho52 | (simp only [Int.reduceToNat] at ho52; rw [← Ny141.out] at ho52)); have n0_ := Aside0.mk (Kd.R_lower ho52 (below_size (by repeat (first | (with_reducible first | exact HB.out | apply below_alloc | apply pw_below_drewN | apply below_drew1) | exact HB.out)))); have n1_ := Aside0.mk (below_step (by repeat (first | (with_reducible first | exact HB.out | apply below_alloc | apply pw_below_drewN | apply below_drew1) | exact HB.out)) hb); clear HB; have HO143 := n0_; have HB := n1_; clear n0_ n1_; clear hb ho52; obtain ⟨Ao53, co53, eo53⟩ := Kd.R_slice HO143.out; subst eo53) | ((with_reducible refine gate_callee (f := 16) rfl ?_); refine goesL_ (some 10) rfl rfl Try.func16 (by kernel_rfl) rfl #[.agg #[.slice Ao53 y141.length co53, .int .i64 3, .int .i64 1], .string (⟨#[107]⟩ : ByteArray)] rfl (by (try simp only [List.map_toArray, List.map_cons, List.map_nil]); first | done | rfl | (simp only [List.length_drop, List.length_take]; rfl)) ?_; (with_reducible refine (ring_Keepers.calls _ _ y141 3 1 (⟨#[107]⟩ : ByteArray) t144 t147 _ ?side1 ?side2 A1.out).mono ?_); (case side1 => repeat (first | exact (Kd.R_reads' HO143.out).2.2 | (with_reducible refine Kd.C_alloc ?_ _) | (with_reducible refine Kd.C_drewN ?_ _) | (with_reducible refine Kd.C_drew ?_))); (case side2 => exact (Kd.R_reads' HO143.out).2.1); rintro e w54 ⟨v145, rfl, ho0, hb⟩; refine ⟨_, rfl, ?_⟩; have n0_ := Aside0.mk (Kd.R_elder' (by (with_reducible repeat (first | apply Kd.R_alloc | apply Kd.R_drewN | apply Kd.R_drew)); exact HO143.out) (Kd.R_base ho0) hb); have n1_ := Aside0.mk (Kd.R_lower (Kd.R_new' ho0 (Kd.R_lt (by (with_reducible repeat (first | apply Kd.R_alloc | apply Kd.R_drewN | apply Kd.R_drew)); exact HO143.out))) (below_size (by repeat (first | (with_reducible first | exact HB.out | apply below_alloc | apply pw_below_drewN | apply below_drew1) | exact HB.out)))); have n2_ := Aside0.mk (below_step (by repeat (first | (with_reducible first | exact HB.out | apply below_alloc | apply pw_below_drewN | apply below_drew1) | exact HB.out)) hb); clear HO143; clear HB; have HO143 := n0_; have HO146 := n1_; have HB := n2_; clear n0_ n1_ n2_; (try clear hb); (try clear hb2); (try clear hk); (try clear hi); (try clear ho0)) | ((with_reducible refine gate_dst (N := 14) rfl ?_); (try (refine gate_guard (by rfl) ?_; dsimp only)); refine Kd.R_lit (Kd.int .i64) _ 3 ?hg (N := 14) ?hd (xs := ([1, 2, 3] : List Int)) (inner := [.int .i64 1, .int .i64 2, .int .i64 3]) (ok := fun _ => True) (okp := fun _ => True) ?hr ?hp (fun _ hk => hk) trivial (Below.refl _ _) (Nat.le_refl _) (by simp) ?_; (case hd => rfl); (case hg => rfl); (case hr => first | (go_simp; done) | (go_simp; rfl)); (case hp => exact (Reps.one (show Kd.M (Kd.int .i64) _ _ _ 1 [.int .i64 1] from rfl) (Reps.one (show Kd.M (Kd.int .i64) _ _ _ 2 [.int .i64 2] from rfl) (Reps.one (show Kd.M (Kd.int .i64) _ _ _ 3 [.int .i64 3] from rfl) (Reps.none _ _))))); intro v149 w55 ho56 hb hg_ hnew_; clear hg_ hnew_; (first | rw [← Ny148.out] at ho56 | (simp only [Int.reduceToNat] at ho56; rw [← Ny148.out] at ho56)); have n0_ := Aside0.mk (Kd.R_elder' (by (with_reducible repeat (first | apply Kd.R_alloc | apply Kd.R_drewN | apply Kd.R_drew)); exact HO143.out) (Kd.R_base ho56) hb); have n1_ := Aside0.mk (Kd.R_elder' (by (with_reducible repeat (first | apply Kd.R_alloc | apply Kd.R_drewN | apply Kd.R_drew)); exact HO146.out) (Kd.R_base ho56) hb); have n2_ := Aside0.mk (Kd.R_lower (Kd.R_new' (Kd.R_new' ho56 (Kd.R_lt (by (with_reducible repeat (first | apply Kd.R_alloc | apply Kd.R_drewN | apply Kd.R_drew)); exact HO143.out))) (Kd.R_lt (by (with_reducible repeat (first | apply Kd.R_alloc | apply Kd.R_drewN | apply Kd.R_drew)); exact HO146.out))) (below_size (by repeat (first | (with_reducible first | exact HB.out | apply below_alloc | apply pw_below_drewN | apply below_drew1) | exact HB.out)))); have n3_ := Aside0.mk (below_step (by repeat (first | (with_reducible first | exact HB.out | apply below_alloc | apply pw_below_drewN | apply below_drew1) | exact HB.out)) hb); clear HO143; clear HO146; clear HB; have HO143 := n0_; have HO146 := n1_; have HO150 := n2_; have HB := n3_; clear n0_ n1_ n2_ n3_; clear hb ho56; obtain ⟨Ao57, co57, eo57⟩ := Kd.R_slice HO150.out; subst eo57) | ((with_reducible refine gate_callee (f := 16) rfl ?_); refine goesL_ (some 16) rfl rfl Try.func16 (by kernel_rfl) rfl #[.agg #[.slice Ao57 y148.length co57, .int .i64 2, .int .i64 3], .string (⟨#[107]⟩ : ByteArray)] rfl (by (try simp only [List.map_toArray, List.map_cons, List.map_nil]); first | done | rfl | (simp only [List.length_drop, List.length_take]; rfl)) ?_; (with_reducible refine (ring_Keepers.calls _ _ y148 2 3 (⟨#[107]⟩ : ByteArray) t151 t154 _ ?side1 ?side2 A2.out).mono ?_); (case side1 => repeat (first | exact (Kd.R_reads' HO150.out).2.2 | (with_reducible refine Kd.C_alloc ?_ _) | (with_reducible refine Kd.C_drewN ?_ _) | (with_reducible refine Kd.C_drew ?_))); (case side2 => exact (Kd.R_reads' HO150.out).2.1); rintro e w58 ⟨v152, rfl, ho0, hb⟩; refine ⟨_, rfl, ?_⟩; have n0_ := Aside0.mk (Kd.R_elder' (by (with_reducible repeat (first | apply Kd.R_alloc | apply Kd.R_drewN | apply Kd.R_drew)); exact HO143.out) (Kd.R_base ho0) hb); have n1_ := Aside0.mk (Kd.R_elder' (by (with_reducible repeat (first | apply Kd.R_alloc | apply Kd.R_drewN | apply Kd.R_drew)); exact HO146.out) (Kd.R_base ho0) hb); have n2_ := Aside0.mk (Kd.R_elder' (by (with_reducible repeat (first | apply Kd.R_alloc | apply Kd.R_drewN | apply Kd.R_drew)); exact HO150.out) (Kd.R_base ho0) hb); have n3_ := Aside0.mk (Kd.R_lower (Kd.R_new' (Kd.R_new' (Kd.R_new' ho0 (Kd.R_lt (by (with_reducible repeat (first | apply Kd.R_alloc | apply Kd.R_drewN | apply Kd.R_drew)); exact HO143.out))) (Kd.R_lt (by (with_reducible repeat (first | apply Kd.R_alloc | apply Kd.R_drewN | apply Kd.R_drew)); exact HO146.out))) (Kd.R_lt (by (with_reducible repeat (first | apply Kd.R_alloc | apply Kd.R_drewN | apply Kd.R_drew)); exact HO150.out))) (below_size (by repeat (first | (with_reducible first | exact HB.out | apply below_alloc | apply pw_below_drewN | apply below_drew1) | exact HB.out)))); have n4_ := Aside0.mk (below_step (by repeat (first | (with_reducible first | exact HB.out | apply below_alloc | apply pw_below_drewN | apply below_drew1) | exact HB.out)) hb); clear HO143; clear HO146; clear HO150; clear HB; have HO143 := n0_; have HO146 := n1_; have HO150 := n2_; have HO153 := n3_; have HB := n4_; clear n0_ n1_ n2_ n3_ n4_; (try clear hb); (try clear hb2); (try clear hk); (try clear hi); (try clear ho0)) | ((with_reducible refine gate_callee (f := 23) rfl ?_); refine goesL_ (some 21) rfl rfl Try.func23 (by kernel_rfl) rfl #[.agg #[.slice none 0 0, .int .i64 0, .int .i64 0]] rfl (by (try simp only [List.map_toArray, List.map_cons, List.map_nil]); first | done | rfl | (simp only [List.length_drop, List.length_take]; rfl)) ?_; (refine (Hs.ring_Points.calls _ _ ([] : List Int) 0 0 t155 t158 _ ?side1 ?side2 A3.out).mono ?_); (case side1 => exact Kd.C_nil _ _); (case side2 => exact Nat.le_refl _); rintro e w59 ⟨v156, rfl, ho0, hb⟩; refine ⟨_, rfl, ?_⟩; have n0_ := Aside0.mk (Kd.R_below (by (with_reducible repeat (first | apply Kd.R_alloc | apply Kd.R_drewN | apply Kd.R_drew)); exact HO143.out) hb); have n1_ := Aside0.mk (Kd.R_below (by (with_reducible repeat (first | apply Kd.R_alloc | apply Kd.R_drewN | apply Kd.R_drew)); exact HO146.out) hb); have n2_ := Aside0.mk (Kd.R_below (by (with_reducible repeat (first | apply Kd.R_alloc | apply Kd.R_drewN | apply Kd.R_drew)); exact HO150.out) hb); have n3_ := Aside0.mk (Kd.R_below (by (with_reducible repeat (first | apply Kd.R_alloc | apply Kd.R_drewN | apply Kd.R_drew)); exact HO153.out) hb); have n4_ := Aside0.mk (Kd.R_lower ho0 (below_size (by repeat (first | (with_reducible first | exact HB.out | apply below_alloc | apply pw_below_drewN | apply below_drew1) | exact HB.out)))); have n5_ := Aside0.mk (below_step (by repeat (first | (with_reducible first | exact HB.out | apply below_alloc | apply pw_below_drewN | apply below_drew1) | exact HB.out)) hb); clear HO143; clear HO146; clear HO150; clear HO153; clear HB; have HO143 := n0_; have HO146 := n1_; have HO150 := n2_; have HO153 := n3_; have HO157 := n4_; have HB := n5_; clear n0_ n1_ n2_ n3_ n4_ n5_; (try clear hb); (try clear hb2); (try clear hk); (try clear hi); (try clear ho0)) | ((with_reducible refine gate_dst (N := 25) rfl ?_); (try (refine gate_guard (by rfl) ?_; dsimp only)); refine Kd.R_lit (Kd.int .i64) _ 3 ?hg (N := 25) ?hd (xs := ([7] : List Int)) (inner := [.int .i64 7]) (ok := fun _ => True) (okp := fun _ => True) ?hr ?hp (fun _ hk => hk) trivial (Below.refl _ _) (Nat.le_refl _) (by simp) ?_; (case hd => rfl); (case hg => rfl); (case hr => first | (go_simp; done) | (go_simp; rfl)); (case hp => exact (Reps.one (show Kd.M (Kd.int .i64) _ _ _ 7 [.int .i64 7] from rfl) (Reps.none _ _))); intro v160 w60 ho61 hb hg_ hnew_; clear hg_ hnew_; (first | rw [← Ny159.out] at ho61 | (simp only [Int.reduceToNat] at ho61; rw [← Ny159.out] at ho61)); have n0_ := Aside0.mk (Kd.R_elder' (by (with_reducible repeat (first | apply Kd.R_alloc | apply Kd.R_drewN | apply Kd.R_drew)); exact HO143.out) (Kd.R_base ho61) hb); have n1_ := Aside0.mk (Kd.R_elder' (by (with_reducible repeat (first | apply Kd.R_alloc | apply Kd.R_drewN | apply Kd.R_drew)); exact HO146.out) (Kd.R_base ho61) hb); have n2_ := Aside0.mk (Kd.R_elder' (by (with_reducible repeat (first | apply Kd.R_alloc | apply Kd.R_drewN | apply Kd.R_drew)); exact HO150.out) (Kd.R_base ho61) hb); have n3_ := Aside0.mk (Kd.R_elder' (by (with_reducible repeat (first | apply Kd.R_alloc | apply Kd.R_drewN | apply Kd.R_drew)); exact HO153.out) (Kd.R_base ho61) hb); have n4_ := Aside0.mk (Kd.R_below (by (with_reducible repeat (first | apply Kd.R_alloc | apply Kd.R_drewN | apply Kd.R_drew)); exact HO157.out) hb); have n5_ := Aside0.mk (Kd.R_lower (Kd.R_new' (Kd.R_new' (Kd.R_new' (Kd.R_new' ho61 (Kd.R_lt (by (with_reducible repeat (first | apply Kd.R_alloc | apply Kd.R_drewN | apply Kd.R_drew)); exact HO143.out))) (Kd.R_lt (by (with_reducible repeat (first | apply Kd.R_alloc | apply Kd.R_drewN | apply Kd.R_drew)); exact HO146.out))) (Kd.R_lt (by (with_reducible repeat (first | apply Kd.R_alloc | apply Kd.R_drewN | apply Kd.R_drew)); exact HO150.out))) (Kd.R_lt (by (with_reducible repeat (first | apply Kd.R_alloc | apply Kd.R_drewN | apply Kd.R_drew)); exact HO153.out))) (below_size (by repeat (first | (with_reducible first | exact HB.out | apply below_alloc | apply pw_below_drewN | apply below_drew1) | exact HB.out)))); have n6_ := Aside0.mk (below_step (by repeat (first | (with_reducible first | exact HB.out | apply below_alloc | apply pw_below_drewN | apply below_drew1) | exact HB.out)) hb); clear HO143; clear HO146; clear HO150; clear HO153; clear HO157; clear HB; have HO143 := n0_; have HO146 := n1_; have HO150 := n2_; have HO153 := n3_; have HO157 := n4_; have HO161 := n5_; have HB := n6_; clear n0_ n1_ n2_ n3_ n4_ n5_ n6_; clear hb ho61; obtain ⟨Ao62, co62, eo62⟩ := Kd.R_slice HO146.out; subst eo62; obtain ⟨Ao63, co63, eo63⟩ := Kd.R_slice HO161.out; subst eo63) | ((with_reducible refine gate_callee (f := 14) rfl ?_); refine goesL_ (some 26) rfl rfl Try.func14 (by kernel_rfl) rfl #[.slice Ao62 t144.length co62, .slice Ao63 y159.length co63] rfl (by (try simp only [List.map_toArray, List.map_cons, List.map_nil]); first | done | rfl | (simp only [List.length_drop, List.length_take]; rfl)) ?_; (with_reducible refine (QH.icehouseref00_SameInts.calls k _ _ t144 _ _ y159 true _ ?side1 ?side2 ?side3 ?side4 A4.out).mono ?_); (case side1 => repeat (first | exact (Kd.R_reads' HO146.out).2.2 | (with_reducible refine Kd.C_alloc ?_ _) | (with_reducible refine Kd.C_drewN ?_ _) | (with_reducible refine Kd.C_drew ?_))); (case side2 => exact (Kd.R_reads' HO146.out).2.1); (case side3 => repeat (first | exact (Kd.R_reads' HO161.out).2.2 | (with_reducible refine Kd.C_alloc ?_ _) | (with_reducible refine Kd.C_drewN ?_ _) | (with_reducible refine Kd.C_drew ?_))); (case side4 => exact (Kd.R_reads' HO161.out).2.1); rintro e w' ⟨rfl, ⟨nd, rfl⟩⟩; refine ⟨_, rfl, ?_⟩))
      go_ret
      exact ⟨by first | rfl | (simp [errW_none, errW_some] <;> rfl) | (simp [*, errW_none, errW_some] <;> rfl), by repeat (first | (with_reducible first | exact HB.out | apply below_alloc | apply pw_below_drewN | apply below_drew1) | exact HB.out)⟩
  · replace c5 := Bool.eq_false_iff.mpr c5
    subst c5
    have H1 : (some false) = some r := by rw [if_neg (show ¬ (false = true) by decide)] at H; exact H
    clear H
    have H := H1
    clear H1
    obtain rfl := Option.some.inj H
    go_enter Try.func12, Try.ntmps12
    go_wp2_with (first | ((with_reducible refine gate_dst (N := 8) rfl ?_); (try (refine gate_guard (by rfl) ?_; dsimp only)); refine Kd.R_lit (Kd.int .i64) _ 3 ?hg (N := 8) ?hd (xs := ([7] : List Int)) (inner := [.int .i64 7]) (ok := fun _ => True) (okp := fun _ => True) ?hr ?hp (fun _ hk => hk) trivial (Below.refl _ _) (Nat.le_refl _) (by simp) ?_; (case hd => rfl); (case hg => rfl); (case hr => first | (go_simp; done) | (go_simp; rfl)); (case hp => exact (Reps.one (show Kd.M (Kd.int .i64) _ _ _ 7 [.int .i64 7] from rfl) (Reps.none _ _))); intro v142 w64 ho65 hb hg_ hnew_; clear hg_ hnew_; (first | rw [← Ny141.out] at ho65 | (simp only [Int.reduceToNat] at ho65; rw [← Ny141.out] at ho65)); have n0_ := Aside0.mk (Kd.R_lower ho65 (below_size (by repeat (first | (with_reducible first | exact HB.out | apply below_alloc | apply pw_below_drewN | apply below_drew1) | exact HB.out)))); have n1_ := Aside0.mk (below_step (by repeat (first | (with_reducible first | exact HB.out | apply below_alloc | apply pw_below_drewN | apply below_drew1) | exact HB.out)) hb); clear HB; have HO143 := n0_; have HB := n1_; clear n0_ n1_; clear hb ho65; obtain ⟨Ao66, co66, eo66⟩ := Kd.R_slice HO143.out; subst eo66) | ((with_reducible refine gate_callee (f := 16) rfl ?_); refine goesL_ (some 10) rfl rfl Try.func16 (by kernel_rfl) rfl #[.agg #[.slice Ao66 y141.length co66, .int .i64 3, .int .i64 1], .string (⟨#[107]⟩ : ByteArray)] rfl (by (try simp only [List.map_toArray, List.map_cons, List.map_nil]); first | done | rfl | (simp only [List.length_drop, List.length_take]; rfl)) ?_; (with_reducible refine (ring_Keepers.calls _ _ y141 3 1 (⟨#[107]⟩ : ByteArray) t144 t147 _ ?side1 ?side2 A1.out).mono ?_); (case side1 => repeat (first | exact (Kd.R_reads' HO143.out).2.2 | (with_reducible refine Kd.C_alloc ?_ _) | (with_reducible refine Kd.C_drewN ?_ _) | (with_reducible refine Kd.C_drew ?_))); (case side2 => exact (Kd.R_reads' HO143.out).2.1); rintro e w67 ⟨v145, rfl, ho0, hb⟩; refine ⟨_, rfl, ?_⟩; have n0_ := Aside0.mk (Kd.R_elder' (by (with_reducible repeat (first | apply Kd.R_alloc | apply Kd.R_drewN | apply Kd.R_drew)); exact HO143.out) (Kd.R_base ho0) hb); have n1_ := Aside0.mk (Kd.R_lower (Kd.R_new' ho0 (Kd.R_lt (by (with_reducible repeat (first | apply Kd.R_alloc | apply Kd.R_drewN | apply Kd.R_drew)); exact HO143.out))) (below_size (by repeat (first | (with_reducible first | exact HB.out | apply below_alloc | apply pw_below_drewN | apply below_drew1) | exact HB.out)))); have n2_ := Aside0.mk (below_step (by repeat (first | (with_reducible first | exact HB.out | apply below_alloc | apply pw_below_drewN | apply below_drew1) | exact HB.out)) hb); clear HO143; clear HB; have HO143 := n0_; have HO146 := n1_; have HB := n2_; clear n0_ n1_ n2_; (try clear hb); (try clear hb2); (try clear hk); (try clear hi); (try clear ho0)) | ((with_reducible refine gate_dst (N := 14) rfl ?_); (try (refine gate_guard (by rfl) ?_; dsimp only)); refine Kd.R_lit (Kd.int .i64) _ 3 ?hg (N := 14) ?hd (xs := ([1, 2, 3] : List Int)) (inner := [.int .i64 1, .int .i64 2, .int .i64 3]) (ok := fun _ => True) (okp := fun _ => True) ?hr ?hp (fun _ hk => hk) trivial (Below.refl _ _) (Nat.le_refl _) (by simp) ?_; (case hd => rfl); (case hg => rfl); (case hr => first | (go_simp; done) | (go_simp; rfl)); (case hp => exact (Reps.one (show Kd.M (Kd.int .i64) _ _ _ 1 [.int .i64 1] from rfl) (Reps.one (show Kd.M (Kd.int .i64) _ _ _ 2 [.int .i64 2] from rfl) (Reps.one (show Kd.M (Kd.int .i64) _ _ _ 3 [.int .i64 3] from rfl) (Reps.none _ _))))); intro v149 w68 ho69 hb hg_ hnew_; clear hg_ hnew_; (first | rw [← Ny148.out] at ho69 | (simp only [Int.reduceToNat] at ho69; rw [← Ny148.out] at ho69)); have n0_ := Aside0.mk (Kd.R_elder' (by (with_reducible repeat (first | apply Kd.R_alloc | apply Kd.R_drewN | apply Kd.R_drew)); exact HO143.out) (Kd.R_base ho69) hb); have n1_ := Aside0.mk (Kd.R_elder' (by (with_reducible repeat (first | apply Kd.R_alloc | apply Kd.R_drewN | apply Kd.R_drew)); exact HO146.out) (Kd.R_base ho69) hb); have n2_ := Aside0.mk (Kd.R_lower (Kd.R_new' (Kd.R_new' ho69 (Kd.R_lt (by (with_reducible repeat (first | apply Kd.R_alloc | apply Kd.R_drewN | apply Kd.R_drew)); exact HO143.out))) (Kd.R_lt (by (with_reducible repeat (first | apply Kd.R_alloc | apply Kd.R_drewN | apply Kd.R_drew)); exact HO146.out))) (below_size (by repeat (first | (with_reducible first | exact HB.out | apply below_alloc | apply pw_below_drewN | apply below_drew1) | exact HB.out)))); have n3_ := Aside0.mk (below_step (by repeat (first | (with_reducible first | exact HB.out | apply below_alloc | apply pw_below_drewN | apply below_drew1) | exact HB.out)) hb); clear HO143; clear HO146; clear HB; have HO143 := n0_; have HO146 := n1_; have HO150 := n2_; have HB := n3_; clear n0_ n1_ n2_ n3_; clear hb ho69; obtain ⟨Ao70, co70, eo70⟩ := Kd.R_slice HO150.out; subst eo70) | ((with_reducible refine gate_callee (f := 16) rfl ?_); refine goesL_ (some 16) rfl rfl Try.func16 (by kernel_rfl) rfl #[.agg #[.slice Ao70 y148.length co70, .int .i64 2, .int .i64 3], .string (⟨#[107]⟩ : ByteArray)] rfl (by (try simp only [List.map_toArray, List.map_cons, List.map_nil]); first | done | rfl | (simp only [List.length_drop, List.length_take]; rfl)) ?_; (with_reducible refine (ring_Keepers.calls _ _ y148 2 3 (⟨#[107]⟩ : ByteArray) t151 t154 _ ?side1 ?side2 A2.out).mono ?_); (case side1 => repeat (first | exact (Kd.R_reads' HO150.out).2.2 | (with_reducible refine Kd.C_alloc ?_ _) | (with_reducible refine Kd.C_drewN ?_ _) | (with_reducible refine Kd.C_drew ?_))); (case side2 => exact (Kd.R_reads' HO150.out).2.1); rintro e w71 ⟨v152, rfl, ho0, hb⟩; refine ⟨_, rfl, ?_⟩; have n0_ := Aside0.mk (Kd.R_elder' (by (with_reducible repeat (first | apply Kd.R_alloc | apply Kd.R_drewN | apply Kd.R_drew)); exact HO143.out) (Kd.R_base ho0) hb); have n1_ := Aside0.mk (Kd.R_elder' (by (with_reducible repeat (first | apply Kd.R_alloc | apply Kd.R_drewN | apply Kd.R_drew)); exact HO146.out) (Kd.R_base ho0) hb); have n2_ := Aside0.mk (Kd.R_elder' (by (with_reducible repeat (first | apply Kd.R_alloc | apply Kd.R_drewN | apply Kd.R_drew)); exact HO150.out) (Kd.R_base ho0) hb); have n3_ := Aside0.mk (Kd.R_lower (Kd.R_new' (Kd.R_new' (Kd.R_new' ho0 (Kd.R_lt (by (with_reducible repeat (first | apply Kd.R_alloc | apply Kd.R_drewN | apply Kd.R_drew)); exact HO143.out))) (Kd.R_lt (by (with_reducible repeat (first | apply Kd.R_alloc | apply Kd.R_drewN | apply Kd.R_drew)); exact HO146.out))) (Kd.R_lt (by (with_reducible repeat (first | apply Kd.R_alloc | apply Kd.R_drewN | apply Kd.R_drew)); exact HO150.out))) (below_size (by repeat (first | (with_reducible first | exact HB.out | apply below_alloc | apply pw_below_drewN | apply below_drew1) | exact HB.out)))); have n4_ := Aside0.mk (below_step (by repeat (first | (with_reducible first | exact HB.out | apply below_alloc | apply pw_below_drewN | apply below_drew1) | exact HB.out)) hb); clear HO143; clear HO146; clear HO150; clear HB; have HO143 := n0_; have HO146 := n1_; have HO150 := n2_; have HO153 := n3_; have HB := n4_; clear n0_ n1_ n2_ n3_ n4_; (try clear hb); (try clear hb2); (try clear hk); (try clear hi); (try clear ho0)) | ((with_reducible refine gate_callee (f := 23) rfl ?_); refine goesL_ (some 21) rfl rfl Try.func23 (by kernel_rfl) rfl #[.agg #[.slice none 0 0, .int .i64 0, .int .i64 0]] rfl (by (try simp only [List.map_toArray, List.map_cons, List.map_nil]); first | done | rfl | (simp only [List.length_drop, List.length_take]; rfl)) ?_; (refine (Hs.ring_Points.calls _ _ ([] : List Int) 0 0 t155 t158 _ ?side1 ?side2 A3.out).mono ?_); (case side1 => exact Kd.C_nil _ _); (case side2 => exact Nat.le_refl _); rintro e w72 ⟨v156, rfl, ho0, hb⟩; refine ⟨_, rfl, ?_⟩; have n0_ := Aside0.mk (Kd.R_below (by (with_reducible repeat (first | apply Kd.R_alloc | apply Kd.R_drewN | apply Kd.R_drew)); exact HO143.out) hb); have n1_ := Aside0.mk (Kd.R_below (by (with_reducible repeat (first | apply Kd.R_alloc | apply Kd.R_drewN | apply Kd.R_drew)); exact HO146.out) hb); have n2_ := Aside0.mk (Kd.R_below (by (with_reducible repeat (first | apply Kd.R_alloc | apply Kd.R_drewN | apply Kd.R_drew)); exact HO150.out) hb); have n3_ := Aside0.mk (Kd.R_below (by (with_reducible repeat (first | apply Kd.R_alloc | apply Kd.R_drewN | apply Kd.R_drew)); exact HO153.out) hb); have n4_ := Aside0.mk (Kd.R_lower ho0 (below_size (by repeat (first | (with_reducible first | exact HB.out | apply below_alloc | apply pw_below_drewN | apply below_drew1) | exact HB.out)))); have n5_ := Aside0.mk (below_step (by repeat (first | (with_reducible first | exact HB.out | apply below_alloc | apply pw_below_drewN | apply below_drew1) | exact HB.out)) hb); clear HO143; clear HO146; clear HO150; clear HO153; clear HB; have HO143 := n0_; have HO146 := n1_; have HO150 := n2_; have HO153 := n3_; have HO157 := n4_; have HB := n5_; clear n0_ n1_ n2_ n3_ n4_ n5_; (try clear hb); (try clear hb2); (try clear hk); (try clear hi); (try clear ho0)) | ((with_reducible refine gate_dst (N := 25) rfl ?_); (try (refine gate_guard (by rfl) ?_; dsimp only)); refine Kd.R_lit (Kd.int .i64) _ 3 ?hg (N := 25) ?hd (xs := ([7] : List Int)) (inner := [.int .i64 7]) (ok := fun _ => True) (okp := fun _ => True) ?hr ?hp (fun _ hk => hk) trivial (Below.refl _ _) (Nat.le_refl _) (by simp) ?_; (case hd => rfl); (case hg => rfl); (case hr => first | (go_simp; done) | (go_simp; rfl)); (case hp => exact (Reps.one (show Kd.M (Kd.int .i64) _ _ _ 7 [.int .i64 7] from rfl) (Reps.none _ _))); intro v160 w73 ho74 hb hg_ hnew_; clear hg_ hnew_; (first | rw [← Ny159.out] at ho74 | (simp only [Int.reduceToNat] at ho74; rw [← Ny159.out] at ho74)); have n0_ := Aside0.mk (Kd.R_elder' (by (with_reducible repeat (first | apply Kd.R_alloc | apply Kd.R_drewN | apply Kd.R_drew)); exact HO143.out) (Kd.R_base ho74) hb); have n1_ := Aside0.mk (Kd.R_elder' (by (with_reducible repeat (first | apply Kd.R_alloc | apply Kd.R_drewN | apply Kd.R_drew)); exact HO146.out) (Kd.R_base ho74) hb); have n2_ := Aside0.mk (Kd.R_elder' (by (with_reducible repeat (first | apply Kd.R_alloc | apply Kd.R_drewN | apply Kd.R_drew)); exact HO150.out) (Kd.R_base ho74) hb); have n3_ := Aside0.mk (Kd.R_elder' (by (with_reducible repeat (first | apply Kd.R_alloc | apply Kd.R_drewN | apply Kd.R_drew)); exact HO153.out) (Kd.R_base ho74) hb); have n4_ := Aside0.mk (Kd.R_below (by (with_reducible repeat (first | apply Kd.R_alloc | apply Kd.R_drewN | apply Kd.R_drew)); exact HO157.out) hb); have n5_ := Aside0.mk (Kd.R_lower (Kd.R_new' (Kd.R_new' (Kd.R_new' (Kd.R_new' ho74 (Kd.R_lt (by (with_reducible repeat (first | apply Kd.R_alloc | apply Kd.R_drewN | apply Kd.R_drew)); exact HO143.out))) (Kd.R_lt (by (with_reducible repeat (first | apply Kd.R_alloc | apply Kd.R_drewN | apply Kd.R_drew)); exact HO146.out))) (Kd.R_lt (by (with_reducible repeat (first | apply Kd.R_alloc | apply Kd.R_drewN | apply Kd.R_drew)); exact HO150.out))) (Kd.R_lt (by (with_reducible repeat (first | apply Kd.R_alloc | apply Kd.R_drewN | apply Kd.R_drew)); exact HO153.out))) (below_size (by repeat (first | (with_reducible first | exact HB.out | apply below_alloc | apply pw_below_drewN | apply below_drew1) | exact HB.out)))); have n6_ := Aside0.mk (below_step (by repeat (first | (with_reducible first | exact HB.out | apply below_alloc | apply pw_below_drewN | apply below_drew1) | exact HB.out)) hb); clear HO143; clear HO146; clear HO150; clear HO153; clear HO157; clear HB; have HO143 := n0_; have HO146 := n1_; have HO150 := n2_; have HO153 := n3_; have HO157 := n4_; have HO161 := n5_; have HB := n6_; clear n0_ n1_ n2_ n3_ n4_ n5_ n6_; clear hb ho74; obtain ⟨Ao75, co75, eo75⟩ := Kd.R_slice HO146.out; subst eo75; obtain ⟨Ao76, co76, eo76⟩ := Kd.R_slice HO161.out; subst eo76) | ((with_reducible refine gate_callee (f := 14) rfl ?_); refine goesL_ (some 26) rfl rfl Try.func14 (by kernel_rfl) rfl #[.slice Ao75 t144.length co75, .slice Ao76 y159.length co76] rfl (by (try simp only [List.map_toArray, List.map_cons, List.map_nil]); first | done | rfl | (simp only [List.length_drop, List.length_take]; rfl)) ?_; (with_reducible refine (QH.icehouseref00_SameInts.calls k _ _ t144 _ _ y159 false _ ?side1 ?side2 ?side3 ?side4 A4.out).mono ?_); (case side1 => repeat (first | exact (Kd.R_reads' HO146.out).2.2 | (with_reducible refine Kd.C_alloc ?_ _) | (with_reducible refine Kd.C_drewN ?_ _) | (with_reducible refine Kd.C_drew ?_))); (case side2 => exact (Kd.R_reads' HO146.out).2.1); (case side3 => repeat (first | exact (Kd.R_reads' HO161.out).2.2 | (with_reducible refine Kd.C_alloc ?_ _) | (with_reducible refine Kd.C_drewN ?_ _) | (with_reducible refine Kd.C_drew ?_))); (case side4 => exact (Kd.R_reads' HO161.out).2.1); rintro e w' ⟨rfl, ⟨nd, rfl⟩⟩; refine ⟨_, rfl, ?_⟩))
    go_ret
    exact ⟨by first | rfl | (simp [errW_none, errW_some] <;> rfl) | (simp [*, errW_none, errW_some] <;> rfl), by repeat (first | (with_reducible first | exact HB.out | apply below_alloc | apply pw_below_drewN | apply below_drew1) | exact HB.out)⟩
end Go.Proofs.Ytdfjeanlhafipaa.QR
namespace Go.Proofs.Ytdfjeanlhafipaa.QR
open Go.Proofs.Ytdfjeanlhafipaa.QH
open Go.RowKit Go.Proofs.YtdfjeanlhafipaaW.PrintWords Go.Proofs.YtdfjeanlhafipaaW.PrintLast Go.Proofs.YtdfjeanlhafipaaW.PrintMore
attribute [local go_sem] max2_int min2_int max_two min_two max_three min_three max_four min_four   -- for this text's walks alone
set_option linter.unusedVariables false
set_option linter.unusedSimpArgs false
end Go.Proofs.Ytdfjeanlhafipaa.QR
namespace Go.Proofs.Ytdfjeanlhafipaa.Rg
/-- a point: the word at which it stands, its node -/
abbrev Pt := Int × Int
def lt2 (p q : Pt) : Prop := p.1 < q.1 ∨ p.1 = q.1 ∧ p.2 < q.2
theorem lt2_irrefl (p : Pt) : ¬ lt2 p p := fun h => by
  rcases h with h | ⟨_, h⟩ <;> omega
theorem lt2_trans {p q r : Pt} (h : lt2 p q) (k : lt2 q r) : lt2 p r := by
  unfold lt2 at *
  omega
theorem lt2_asymm {p q : Pt} (h : lt2 p q) : ¬ lt2 q p := fun k => lt2_irrefl p (lt2_trans h k)
theorem lt2_total (p q : Pt) : lt2 p q ∨ p = q ∨ lt2 q p := by
  obtain ⟨a, b⟩ := p
  obtain ⟨c, d⟩ := q
  unfold lt2
  simp only [Prod.mk.injEq]
  omega
/-- rising, each once -/
def Srt (l : List Pt) : Prop := l.Pairwise lt2
theorem Srt.filter {l : List Pt} (h : Srt l) (p : Pt → Bool) : Srt (l.filter p) := List.Pairwise.filter p h
/-- two rising rows of the same points are one -/
theorem srt_unique : ∀ {l m : List Pt}, Srt l → Srt m → (∀ x, x ∈ l ↔ x ∈ m) → l = m
  | [], [], _, _, _ => rfl
  | [], y :: m, _, _, h => absurd ((h y).2 List.mem_cons_self) (by simp)
  | x :: l, [], _, _, h => absurd ((h x).1 List.mem_cons_self) (by simp)
  | x :: l, y :: m, hl, hm, h => by
    obtain ⟨h1, h2⟩ := List.pairwise_cons.1 hl
    obtain ⟨k1, k2⟩ := List.pairwise_cons.1 hm
    have hxy : x = y := by
      rcases List.mem_cons.1 ((h x).1 List.mem_cons_self) with e | e
      · exact e
      · rcases List.mem_cons.1 ((h y).2 List.mem_cons_self) with e' | e'
        · exact e'.symm
        · exact absurd (k1 x e) (lt2_asymm (h1 y e'))
    subst hxy
    rw [srt_unique h2 k2 (fun z => ?_)]
    constructor
    · intro hz
      rcases List.mem_cons.1 ((h z).1 (List.mem_cons_of_mem _ hz)) with e | e
      · subst e; exact absurd (h1 z hz) (lt2_irrefl z)
      · exact e
    · intro hz
      rcases List.mem_cons.1 ((h z).2 (List.mem_cons_of_mem _ hz)) with e | e
      · subst e; exact absurd (k1 z hz) (lt2_irrefl z)
      · exact e
/-- from a word on, and round -/
def rotH (l : List Pt) (h : Int) : List Pt := l.filter (fun p => decide (h ≤ p.1)) ++ l.filter (fun p => !decide (h ≤ p.1))
/-- each once, where it came first -/
def dd : List Int → List Int
  | [] => []
  | x :: l => x :: (dd l).filter (fun y => decide (y ≠ x))
theorem dd_mem : ∀ (l : List Int) (x : Int), x ∈ dd l ↔ x ∈ l
  | [], x => Iff.rfl
  | y :: l, x => by
    show x ∈ y :: (dd l).filter _ ↔ x ∈ y :: l
    simp only [List.mem_cons, List.mem_filter, decide_eq_true_iff, dd_mem l x]
    constructor
    · rintro (h | ⟨h, _⟩)
      · exact .inl h
      · exact .inr h
    · rintro (h | h)
      · exact .inl h
      · by_cases e : x = y
        · exact .inl e
        · exact .inr ⟨h, e⟩
theorem dd_nodup : ∀ l : List Int, (dd l).Nodup
  | [] => List.nodup_nil
  | x :: l => by
    show (x :: (dd l).filter _).Nodup
    rw [List.nodup_cons]
    exact ⟨fun h => by have := (List.mem_filter.1 h).2; simp at this, (dd_nodup l).filter _⟩
/-- the nodes in their order from a word on -/
def ord (l : List Pt) (h : Int) : List Int := dd ((rotH l h).map Prod.snd)
theorem dd_snoc : ∀ (l : List Int) (x : Int), dd (l ++ [x]) = if x ∈ l then dd l else dd l ++ [x]
  | [], x => by simp [dd]
  | y :: l, x => by
    show y :: (dd (l ++ [x])).filter _ = _
    rw [dd_snoc l x]
    by_cases h : x ∈ l
    · rw [if_pos h, if_pos (List.mem_cons_of_mem _ h)]; rfl
    · rw [if_neg h, List.filter_append]
      by_cases e : x = y
      · subst e
        have hf : [x].filter (fun y => decide (y ≠ x)) = [] := by simp
        rw [if_pos List.mem_cons_self, hf, List.append_nil]
        rfl
      · have hf : [x].filter (fun z => decide (z ≠ y)) = [x] := by simp [e]
        rw [if_neg (by simp [e, h]), hf]
        rfl
/-- of a rising row, those below a word stand ahead of the others -/
theorem srt_split (h : Int) : ∀ {l : List Pt}, Srt l → l.filter (fun p => !decide (h ≤ p.1)) ++ l.filter (fun p => decide (h ≤ p.1)) = l
  | [], _ => rfl
  | x :: l, hl => by
    obtain ⟨h1, h2⟩ := List.pairwise_cons.1 hl
    by_cases hx : h ≤ x.1
    · have hall : ∀ y ∈ l, h ≤ y.1 := fun y hy => by
        have := h1 y hy
        unfold lt2 at this
        omega
      have e1 : l.filter (fun p => !decide (h ≤ p.1)) = [] := List.filter_eq_nil_iff.2 (fun y hy => by simp [hall y hy])
      have e2 : l.filter (fun p => decide (h ≤ p.1)) = l := List.filter_eq_self.2 (fun y hy => by simp [hall y hy])
      rw [List.filter_cons_of_neg (by simp [hx]), List.filter_cons_of_pos (by simp [hx]), e1, e2]
      rfl
    · rw [List.filter_cons_of_pos (by simp [hx]), List.filter_cons_of_neg (by simp [hx]), List.cons_append, srt_split h h2]
/-- how many points stand below a word -/
def low (l : List Pt) (h : Int) : Nat := (l.filter (fun p => !decide (h ≤ p.1))).length
theorem rotH_at {l : List Pt} (hl : Srt l) (h : Int) : rotH l h = l.drop (low l h) ++ l.take (low l h) := by
  have e := srt_split h hl
  have hd : l.drop (low l h) = l.filter (fun p => decide (h ≤ p.1)) := by
    have : (l.filter (fun p => !decide (h ≤ p.1)) ++ l.filter (fun p => decide (h ≤ p.1))).drop (low l h) = l.filter (fun p => decide (h ≤ p.1)) := by unfold low; exact List.drop_left
    rwa [e] at this
  have ht : l.take (low l h) = l.filter (fun p => !decide (h ≤ p.1)) := by
    have : (l.filter (fun p => !decide (h ≤ p.1)) ++ l.filter (fun p => decide (h ≤ p.1))).take (low l h) = l.filter (fun p => !decide (h ≤ p.1)) := by unfold low; exact List.take_left
    rwa [e] at this
  unfold rotH
  rw [hd, ht]
theorem low_le (l : List Pt) (h : Int) : low l h ≤ l.length := List.length_filter_le _ _
/-- the place from which a word is kept, as the program reckons it -/
theorem rotH_mod {l : List Pt} (hl : Srt l) (h : Int) : rotH l h = l.drop (low l h % l.length) ++ l.take (low l h % l.length) := by
  rw [rotH_at hl]
  rcases Nat.lt_or_ge (low l h) l.length with hlt | hge
  · rw [Nat.mod_eq_of_lt hlt]
  · have : low l h = l.length := Nat.le_antisymm (low_le l h) hge
    rw [this, Nat.mod_self]
    simp
theorem dd_pre : ∀ (b a : List Int), ∃ t, dd (a ++ b) = dd a ++ t
  | [], a => ⟨[], by simp⟩
  | x :: b, a => by
    obtain ⟨t, ht⟩ := dd_pre b (a ++ [x])
    rw [List.append_assoc] at ht
    rw [dd_snoc] at ht
    by_cases h : x ∈ a
    · rw [if_pos h] at ht; exact ⟨t, ht⟩
    · rw [if_neg h, List.append_assoc] at ht; exact ⟨x :: t, ht⟩
/-- the walk of meet: those found, those to come -/
def meetS (keep : Nat) : List Int → List Int → List Int
  | acc, [] => acc
  | acc, x :: l => if x ∈ acc then meetS keep acc l else if acc.length + 1 = keep then acc ++ [x] else meetS keep (acc ++ [x]) l
theorem meetS_eq (keep : Nat) : ∀ (l pre : List Int), (dd pre).length < keep → meetS keep (dd pre) l = (dd (pre ++ l)).take keep
  | [], pre, h => by
    rw [List.append_nil]
    exact (List.take_of_length_le (Nat.le_of_lt h)).symm
  | x :: l, pre, h => by
    have e : pre ++ x :: l = (pre ++ [x]) ++ l := by simp
    unfold meetS
    by_cases hx : x ∈ pre
    · have hd : dd (pre ++ [x]) = dd pre := by rw [dd_snoc, if_pos hx]
      rw [if_pos ((dd_mem pre x).2 hx), e, ← meetS_eq keep l (pre ++ [x]) (by rw [hd]; exact h), hd]
    · have hd : dd (pre ++ [x]) = dd pre ++ [x] := by rw [dd_snoc, if_neg hx]
      rw [if_neg (fun h' => hx ((dd_mem pre x).1 h'))]
      by_cases hk : (dd pre).length + 1 = keep
      · obtain ⟨t, ht⟩ := dd_pre l (pre ++ [x])
        rw [if_pos hk, e, ht, hd, List.take_append_of_le_length (by rw [List.length_append]; simp; omega), List.take_of_length_le (by rw [List.length_append]; simp; omega)]
      · rw [if_neg hk, e, ← meetS_eq keep l (pre ++ [x]) (by rw [hd, List.length_append]; simp; omega), hd]
theorem meetS_all {keep : Nat} (hk : 0 < keep) (l : List Int) : meetS keep [] l = (dd l).take keep := meetS_eq keep l [] hk
/-- who keeps a word -/
def keepers (l : List Pt) (h : Int) (keep : Nat) : List Int := (ord l h).take keep
/-! the points of a ring -/
instance (p q : Pt) : Decidable (lt2 p q) := by unfold lt2; infer_instance
/-- laid at its place -/
def ins (p : Pt) : List Pt → List Pt
  | [] => [p]
  | x :: l => if lt2 x p then x :: ins p l else if x = p then x :: l else p :: x :: l
theorem ins_mem (p : Pt) : ∀ (l : List Pt) (y : Pt), y ∈ ins p l ↔ y = p ∨ y ∈ l
  | [], y => by simp [ins]
  | x :: l, y => by
    unfold ins
    by_cases h : lt2 x p
    · rw [if_pos h, List.mem_cons, ins_mem p l y, List.mem_cons]
      constructor
      · rintro (h | h | h)
        · exact .inr (.inl h)
        · exact .inl h
        · exact .inr (.inr h)
      · rintro (h | h | h)
        · exact .inr (.inl h)
        · exact .inl h
        · exact .inr (.inr h)
    · rw [if_neg h]
      by_cases e : x = p
      · rw [if_pos e]
        constructor
        · exact .inr
        · rintro (h | h)
          · rw [h, ← e]; exact List.mem_cons_self
          · exact h
      · rw [if_neg e, List.mem_cons]
theorem ins_srt (p : Pt) : ∀ {l : List Pt}, Srt l → Srt (ins p l)
  | [], _ => List.pairwise_singleton _ _
  | x :: l, h => by
    obtain ⟨h1, h2⟩ := List.pairwise_cons.1 h
    unfold ins
    by_cases hx : lt2 x p
    · rw [if_pos hx]
      refine List.pairwise_cons.2 ⟨fun y hy => ?_, ins_srt p h2⟩
      rcases (ins_mem p l y).1 hy with rfl | hy
      · exact hx
      · exact h1 y hy
    · rw [if_neg hx]
      by_cases e : x = p
      · rw [if_pos e]; exact h
      · rw [if_neg e]
        have hp : lt2 p x := by
          rcases lt2_total x p with h | h | h
          · exact absurd h hx
          · exact absurd h e
          · exact h
        refine List.pairwise_cons.2 ⟨fun y hy => ?_, h⟩
        rcases List.mem_cons.1 hy with rfl | hy
        · exact hp
        · exact lt2_trans hp (h1 y hy)
def pts (raw : List Pt) : List Pt := raw.foldl (fun acc p => ins p acc) []
theorem fold_ins : ∀ (raw acc : List Pt), Srt acc → Srt (raw.foldl (fun acc p => ins p acc) acc) ∧ ∀ y, y ∈ raw.foldl (fun acc p => ins p acc) acc ↔ y ∈ raw ∨ y ∈ acc
  | [], acc, h => ⟨h, fun y => by simp⟩
  | x :: raw, acc, h => by
    obtain ⟨h1, h2⟩ := fold_ins raw (ins x acc) (ins_srt x h)
    refine ⟨h1, fun y => (h2 y).trans ?_⟩
    rw [ins_mem, List.mem_cons]
    constructor
    · rintro (h | h | h)
      · exact .inl (.inr h)
      · exact .inl (.inl h)
      · exact .inr h
    · rintro ((h | h) | h)
      · exact .inr (.inl h)
      · exact .inl h
      · exact .inr (.inr h)
theorem pts_srt (raw : List Pt) : Srt (pts raw) := (fold_ins raw [] List.Pairwise.nil).1
theorem pts_mem (raw : List Pt) (y : Pt) : y ∈ pts raw ↔ y ∈ raw := ((fold_ins raw [] List.Pairwise.nil).2 y).trans (by simp)
/-- neighbours that are one struck, as slices.Compact does -/
def comp : List Pt → List Pt
  | [] => []
  | [x] => [x]
  | x :: y :: l => if x = y then comp (y :: l) else x :: comp (y :: l)
theorem comp_mem : ∀ (l : List Pt) (z : Pt), z ∈ comp l ↔ z ∈ l
  | [], z => Iff.rfl
  | [x], z => Iff.rfl
  | x :: y :: l, z => by
    unfold comp
    by_cases h : x = y
    · subst h
      rw [if_pos rfl, comp_mem (x :: l) z]
      simp
    · rw [if_neg h, List.mem_cons, comp_mem (y :: l) z, List.mem_cons (a := z) (b := x)]
def le2 (p q : Pt) : Prop := p = q ∨ lt2 p q
theorem comp_srt : ∀ {l : List Pt}, l.Pairwise le2 → Srt (comp l)
  | [], _ => List.Pairwise.nil
  | [x], _ => List.pairwise_singleton _ _
  | x :: y :: l, h => by
    obtain ⟨h1, h2⟩ := List.pairwise_cons.1 h
    unfold comp
    by_cases e : x = y
    · rw [if_pos e]; exact comp_srt h2
    · rw [if_neg e]
      refine List.pairwise_cons.2 ⟨fun z hz => ?_, comp_srt h2⟩
      have hxy : lt2 x y := (h1 y List.mem_cons_self).resolve_left e
      rcases List.mem_cons.1 ((comp_mem (y :: l) z).1 hz) with rfl | hz
      · exact hxy
      · rcases (List.pairwise_cons.1 h2).1 z hz with rfl | h3
        · exact hxy
        · exact lt2_trans hxy h3
/-- sorted, and doubles struck: the points -/
theorem comp_pts {raw l : List Pt} (hs : l.Pairwise le2) (hm : ∀ x, x ∈ l ↔ x ∈ raw) : comp l = pts raw :=
  srt_unique (comp_srt hs) (pts_srt raw) (fun x => ((comp_mem l x).trans (hm x)).trans (pts_mem raw x).symm)
end Go.Proofs.Ytdfjeanlhafipaa.Rg
namespace Go.Proofs.Ytdfjeanlhafipaa.Hs
open Go.RowKit Go.Proofs.Ytdfjeanlhafipaa.QH Go.Proofs.Ytdfjeanlhafipaa.Lex Go.Proofs.Ytdfjeanlhafipaa.Rg
open Go.Proofs.YtdfjeanlhafipaaW.PrintWords Go.Proofs.YtdfjeanlhafipaaW.PrintLast Go.Proofs.YtdfjeanlhafipaaW.PrintMore
set_option linter.unusedVariables false
set_option linter.unusedSimpArgs false
def toPt (p : S51) : Pt := (p.f0, p.f1)
theorem toPt_inj {p q : S51} (h : toPt p = toPt q) : p = q := by
  obtain ⟨a, b⟩ := p
  obtain ⟨c, d⟩ := q
  unfold toPt at h
  injection h with h1 h2
  simp only at h1 h2
  rw [h1, h2]
theorem compP_map : ∀ l : List S51, (compP l).map toPt = comp (l.map toPt)
  | [] => rfl
  | [x] => rfl
  | x :: y :: l => by
    have ih := compP_map (y :: l)
    show (if x = y then compP (y :: l) else x :: compP (y :: l)).map toPt = if toPt x = toPt y then comp ((y :: l).map toPt) else toPt x :: comp ((y :: l).map toPt)
    by_cases h : x = y
    · rw [if_pos h, if_pos (congrArg toPt h), ih]
    · rw [if_neg h, if_neg (fun e => h (toPt_inj e)), List.map_cons, ih]
theorem sortP_le (l : List S51) : ((sortP l).map toPt).Pairwise le2 := by
  have h : (sortP l).Pairwise (fun x y => (!(ltOf cfP) y x) = true) := by
    unfold sortP
    refine List.pairwise_mergeSort (le := fun x y => !(ltOf cfP) y x) (fun a b c h1 h2 => ?_) (fun a b => ?_) l
    · simp only [Bool.not_eq_true', ltP_false] at h1 h2 ⊢
      omega
    · rcases hc : ltOf cfP b a with _ | _
      · simp
      · have := (ltP_true b a).1 hc
        have h2 : ltOf cfP a b = false := (ltP_false a b).2 (by omega)
        simp [h2]
  rw [List.pairwise_map]
  refine h.imp (fun {a b} hab => ?_)
  have := (ltP_false b a).1 (by simpa using hab)
  unfold le2 lt2 toPt
  simp only [Prod.mk.injEq]
  omega
theorem sortP_mem (l : List S51) (x : S51) : x ∈ sortP l ↔ x ∈ l := (List.mergeSort_perm l _).mem_iff
/-- the points of a ring, plain -/
def ptsR (l : List Int) (each : Int) : List Pt := pts ((rawP l each).map toPt)
theorem ptsP_map (l : List Int) (each : Int) : (ptsP l each).map toPt = ptsR l each := by
  unfold ptsP ptsR
  rw [compP_map]
  refine comp_pts (sortP_le _) (fun x => ?_)
  simp only [List.mem_map, sortP_mem]
theorem ptsR_srt (l : List Int) (each : Int) : Srt (ptsR l each) := pts_srt _
theorem ptsP_len (l : List Int) (each : Int) : (ptsP l each).length = (ptsR l each).length := by rw [← ptsP_map, List.length_map]
theorem compP_len : ∀ l : List S51, (compP l).length ≤ l.length
  | [] => Nat.le_refl _
  | [x] => Nat.le_refl _
  | x :: y :: l => by
    have ih := compP_len (y :: l)
    show (if x = y then compP (y :: l) else x :: compP (y :: l)).length ≤ _
    split
    · rw [List.length_cons]; omega
    · rw [List.length_cons, List.length_cons]; omega
theorem mem_rawP (l : List Int) (each : Int) (p : S51) : p ∈ rawP l each ↔ ∃ n ∈ l, ∃ j : Nat, j < each.toNat ∧ p = ⟨ptH n (j : Int), n⟩ := by
  unfold rawP rowP
  simp only [List.mem_flatMap, List.mem_map, List.mem_range]
  constructor
  · rintro ⟨n, hn, j, hj, rfl⟩; exact ⟨n, hn, j, hj, rfl⟩
  · rintro ⟨n, hn, j, hj, rfl⟩; exact ⟨n, hn, j, hj, rfl⟩
theorem mem_ptsR (l : List Int) (each : Int) (p : Pt) : p ∈ ptsR l each ↔ ∃ n ∈ l, ∃ j : Nat, j < each.toNat ∧ p = (ptH n (j : Int), n) := by
  unfold ptsR
  rw [pts_mem, List.mem_map]
  constructor
  · rintro ⟨q, hq, rfl⟩
    obtain ⟨n, hn, j, hj, rfl⟩ := (mem_rawP l each q).1 hq
    exact ⟨n, hn, j, hj, rfl⟩
  · rintro ⟨n, hn, j, hj, rfl⟩
    exact ⟨_, (mem_rawP l each _).2 ⟨n, hn, j, hj, rfl⟩, rfl⟩
theorem ptsR_pos {l : List Int} {each : Int} (h : 0 < l.length) (he : 1 ≤ each) : 0 < (ptsR l each).length := by
  obtain ⟨n, hn⟩ := List.exists_mem_of_length_pos h
  exact List.length_pos_of_mem ((mem_ptsR l each _).2 ⟨n, hn, 0, by omega, rfl⟩)
/-- where a word begins: those below it, in a rising row -/
theorem tw_low : ∀ {l : List Pt} {h : Int}, Srt l → (l.takeWhile fun p => decide (p.1 < h)).length = low l h
  | [], h, _ => rfl
  | x :: l, h, hs => by
    obtain ⟨h1, h2⟩ := List.pairwise_cons.1 hs
    unfold low
    by_cases hx : x.1 < h
    · rw [List.takeWhile_cons_of_pos (by simpa using hx), List.filter_cons_of_pos (by simp; omega), List.length_cons, List.length_cons, tw_low h2]
      rfl
    · have hall : l.filter (fun p => !decide (h ≤ p.1)) = [] := List.filter_eq_nil_iff.2 (fun y hy => by
        have := h1 y hy
        unfold lt2 at this
        simp; omega)
      rw [List.takeWhile_cons_of_neg (by simpa using hx), List.filter_cons_of_neg (by simp; omega), hall]
theorem tw_map (h : Int) : ∀ l : List S51, (l.takeWhile fun p => decide (p.f0 < h)).length = ((l.map toPt).takeWhile fun p => decide (p.1 < h)).length
  | [] => rfl
  | x :: l => by
    have ih := tw_map h l
    rw [List.map_cons]
    by_cases hx : x.f0 < h
    · rw [List.takeWhile_cons_of_pos (by simpa using hx), List.takeWhile_cons_of_pos (by unfold toPt; simpa using hx), List.length_cons, List.length_cons, ih]
    · rw [List.takeWhile_cons_of_neg (by simpa using hx), List.takeWhile_cons_of_neg (by unfold toPt; simpa using hx)]
      rfl
theorem firstL_eq (l : List Int) (each h : Int) : firstL (ptsP l each) h = low (ptsR l each) h % (ptsR l each).length := by
  unfold firstL
  rw [tw_map, ptsP_map, tw_low (ptsR_srt l each), ptsP_len]
theorem rotL_eq (l : List Int) (each h : Int) : rotL (ptsP l each) (firstL (ptsP l each) h) = (rotH (ptsR l each) h).map Prod.snd := by
  rw [rotH_mod (ptsR_srt l each) h, ← firstL_eq]
  unfold rotL
  rw [← ptsP_map, ← List.map_drop, ← List.map_take, ← List.map_append, List.map_map]
  rfl
theorem meetS_nat (k : Nat) : ∀ (l acc : List Int), Hs.meetS (k : Int) acc l = Rg.meetS k acc l
  | [], acc => rfl
  | x :: l, acc => by
    unfold Hs.meetS Rg.meetS
    rw [meetS_nat k l acc, meetS_nat k l (acc ++ [x])]
    by_cases h : acc.length + 1 = k
    · rw [if_pos h, if_pos (show (acc.length : Int) + 1 = (k : Int) by omega)]
    · rw [if_neg h, if_neg (show ¬ ((acc.length : Int) + 1 = (k : Int)) by omega)]
/-- who keeps a word of a ring -/
def keepR (l : List Int) (each h : Int) (k : Nat) : List Int := keepers (ptsR l each) h k
theorem points_at {l : List Int} {each keep : Int} (ho : okB l each keep = true) : ring_Points.f l each keep = some (ptsP l each, 0) := by unfold ring_Points.f; rw [if_pos ho]
theorem points_out {l : List Int} {each keep : Int} (ho : okB l each keep = false) : ring_Points.f l each keep = some ([], 2) := by unfold ring_Points.f; rw [ho]; rfl
theorem rawP_small {l : List Int} {each keep : Int} (ho : okB l each keep = true) : (ptsP l each).length ≤ 4096 := by
  obtain ⟨k0, k1, k2, k3, k4, k5, _⟩ := okB_len ho
  refine Nat.le_trans (compP_len _) ?_
  rw [sortP_len, rawP_len]
  exact Nat.le_trans (Nat.mul_le_mul k1 (show each.toNat ≤ 64 by omega)) (by omega)
theorem first_at {l : List Int} {each keep : Int} (ho : okB l each keep = true) (h : Int) : ring_first.f (ptsP l each) h = some ((firstL (ptsP l each) h : Nat) : Int) := by
  obtain ⟨k0, k1, k2, k3, k4, k5, _⟩ := okB_len ho
  unfold ring_first.f
  rw [if_pos]
  refine ⟨by rw [ptsP_len]; exact ptsR_pos k0 k2, by have := rawP_small ho; omega, ?_⟩
  have hs := ptsR_srt l each
  rw [← ptsP_map] at hs
  unfold Srt at hs
  rw [List.pairwise_map] at hs
  refine hs.imp (fun {a b} hab => ?_)
  unfold lt2 toPt at hab
  simp only at hab
  omega
theorem firstL_lt {l : List Int} {each keep : Int} (ho : okB l each keep = true) (h : Int) : firstL (ptsP l each) h < (ptsP l each).length := by
  obtain ⟨k0, k1, k2, k3, k4, k5, _⟩ := okB_len ho
  exact Nat.mod_lt _ (by rw [ptsP_len]; exact ptsR_pos k0 k2)
theorem meet_at {l : List Int} {each keep : Int} (ho : okB l each keep = true) (h : Int) : ring_meet.f (ptsP l each) ((firstL (ptsP l each) h : Nat) : Int) keep = some (keepR l each h keep.toNat) := by
  obtain ⟨k0, k1, k2, k3, k4, k5, _⟩ := okB_len ho
  have hlt := firstL_lt ho h
  have hsm := rawP_small ho
  unfold ring_meet.f
  rw [if_pos ⟨by omega, by omega, by omega⟩]
  have e : ((keep.toNat : Nat) : Int) = keep := by omega
  have := meetS_nat keep.toNat (rotL (ptsP l each) (firstL (ptsP l each) h)) []
  rw [e] at this
  rw [Int.toNat_natCast, this, rotL_eq, meetS_all (by omega)]
  rfl
theorem at_ok {l : List Int} {each keep : Int} (ho : okB l each keep = true) (h : Int) : QR.ring_At.f l each keep h = some (keepR l each h keep.toNat, 0) := by
  unfold QR.ring_At.f
  rw [points_at ho, Option.bind_some, if_pos rfl, first_at ho, Option.bind_some, meet_at ho]
  rfl
theorem at_out {l : List Int} {each keep : Int} (ho : okB l each keep = false) (h : Int) : QR.ring_At.f l each keep h = some ([], 2) := by
  unfold QR.ring_At.f
  rw [points_out ho]
  rfl
/-! all nodes stand in the order, each once -/
theorem ord_mem (l : List Int) (each h : Int) (he : 1 ≤ each) (x : Int) : x ∈ ord (ptsR l each) h ↔ x ∈ l := by
  unfold ord rotH
  rw [dd_mem, List.map_append, List.mem_append, List.mem_map, List.mem_map]
  constructor
  · rintro (⟨p, hp, rfl⟩ | ⟨p, hp, rfl⟩)
    all_goals
      obtain ⟨n, hn, j, hj, rfl⟩ := (mem_ptsR l each p).1 (List.mem_filter.1 hp).1
      exact hn
  · intro hx
    have hm := (mem_ptsR l each _).2 ⟨x, hx, 0, by omega, rfl⟩
    by_cases hh : h ≤ ptH x ((0 : Nat) : Int)
    · exact .inl ⟨_, List.mem_filter.2 ⟨hm, by simpa using hh⟩, rfl⟩
    · exact .inr ⟨_, List.mem_filter.2 ⟨hm, by simpa using hh⟩, rfl⟩
theorem rises_lt : ∀ {l : List Int} {last : Int}, risesB last l = true → (∀ x ∈ l, last < x) ∧ l.Pairwise (· < ·)
  | [], _, _ => ⟨fun x hx => absurd hx (List.not_mem_nil), List.Pairwise.nil⟩
  | n :: l, last, h => by
    unfold risesB at h
    simp only [Bool.and_eq_true, Bool.not_eq_true', decide_eq_false_iff_not] at h
    obtain ⟨h1, h2⟩ := rises_lt h.2.2
    refine ⟨fun x hx => ?_, List.pairwise_cons.2 ⟨h1, h2⟩⟩
    rcases List.mem_cons.1 hx with rfl | hx
    · omega
    · have := h1 x hx; omega
theorem nodup_of_lt {l : List Int} (h : l.Pairwise (· < ·)) : l.Nodup := h.imp (fun {a b} hab e => by omega)
theorem ord_len {l : List Int} {each keep : Int} (ho : okB l each keep = true) (h : Int) : (ord (ptsR l each) h).length = l.length := by
  obtain ⟨k0, k1, k2, k3, k4, k5, k6⟩ := okB_len ho
  exact ((List.perm_ext_iff_of_nodup (dd_nodup _) (nodup_of_lt (rises_lt k6).2)).2 (fun x => ord_mem l each h k2 x)).length_eq
theorem keepR_len {l : List Int} {each keep : Int} (ho : okB l each keep = true) (h : Int) (k : Nat) (hk : k ≤ l.length) : (keepR l each h k).length = k := by
  unfold keepR keepers
  rw [List.length_take, ord_len ho]
  omega
theorem keepR_mem {l : List Int} {each : Int} (he : 1 ≤ each) {h : Int} {k : Nat} {x : Int} (hx : x ∈ keepR l each h k) : x ∈ l := by
  unfold keepR keepers at hx
  exact (ord_mem l each h he x).1 (List.mem_of_mem_take hx)
/-! the reference's small ones -/
theorem same_l0 (l m : List Int) (hlm : l.length = m.length) (hl : l.length ≤ 9223372036854775807) : ∀ (n i : Nat), l.length - i = n → i ≤ l.length →
    Since (fun k => icehouseref00_SameInts.l0 k l m (i : Int)) (decide (l.drop i = m.drop i)) := by
  intro n
  induction n with
  | zero =>
    intro i hn hi
    have hf : ¬ ((i : Int) < (l.length : Int)) := by omega
    rw [List.drop_eq_nil_of_le (by omega), List.drop_eq_nil_of_le (by omega)]
    exact Since.none fun k => by simp only [icehouseref00_SameInts.l0, if_neg hf]; rfl
  | succ n ih =>
    intro i hn hi
    have h1 : i < l.length := by omega
    have h2 : i < m.length := by omega
    have f1 : (i : Int) < (l.length : Int) := by omega
    have f2 : (i : Int) < (m.length : Int) := by omega
    have f0 : (0 : Int) ≤ (i : Int) := by omega
    have r1 : rd l (i : Int) = l[i] := by simp [rd, h1]
    have r2 : rd m (i : Int) = m[i] := by simp [rd, h2]
    have d1 := List.drop_eq_getElem_cons h1
    have d2 := List.drop_eq_getElem_cons h2
    by_cases c1 : l[i] = m[i]
    · refine Since.one (ih (i + 1) (by omega) (by omega)) fun k h => ?_
      simp only [icehouseref00_SameInts.l0, if_pos f1, if_pos f0, if_pos f2, r1, r2, if_pos c1, w_succ' i (by omega)]
      rw [h]
      congr 1
      refine decide_eq_decide.2 ?_
      rw [d1, d2, c1]
      exact ⟨fun h => by rw [h], fun h => (List.cons.inj h).2⟩
    · refine Since.none fun k => ?_
      simp only [icehouseref00_SameInts.l0, if_pos f1, if_pos f0, if_pos f2, r1, r2, if_neg c1]
      congr 1
      refine (decide_eq_false (fun h => c1 ?_)).symm
      rw [d1, d2] at h
      exact (List.cons.inj h).1
theorem same_ev (l m : List Int) (hl : l.length ≤ 9223372036854775807) : Since (fun k => icehouseref00_SameInts.f k l m) (decide (l = m)) := by
  by_cases h : l.length = m.length
  · have := same_l0 l m h hl _ 0 rfl (Nat.zero_le _)
    rw [List.drop_zero, List.drop_zero] at this
    refine this.map fun k hk => ?_
    simp only [icehouseref00_SameInts.f]
    rw [if_pos (by omega)]
    exact hk
  · refine ⟨0, fun k _ => ?_⟩
    simp only [icehouseref00_SameInts.f]
    rw [if_neg (by omega)]
    have : l ≠ m := fun e => h (by rw [e])
    simp [this]
end Go.Proofs.Ytdfjeanlhafipaa.Hs
namespace Go.Proofs.Ytdfjeanlhafipaa.Hs
open Go.RowKit Go.Proofs.Ytdfjeanlhafipaa.QH Go.Proofs.Ytdfjeanlhafipaa.Lex
open Go.Proofs.YtdfjeanlhafipaaW.PrintWords Go.Proofs.YtdfjeanlhafipaaW.PrintLast Go.Proofs.YtdfjeanlhafipaaW.PrintMore
set_option linter.unusedVariables false
set_option linter.unusedSimpArgs false
theorem wu (x : Int) : IntKind.u64.wrap x = x % 18446744073709551616 := by simp [IntKind.wrap, IntKind.bits, IntKind.signed]
theorem wu_in {x : Int} (h0 : 0 ≤ x) (h1 : x < 18446744073709551616) : IntKind.u64.wrap x = x := by rw [wu]; exact Int.emod_eq_of_lt h0 h1
theorem wu_bd (x : Int) : 0 ≤ IntKind.u64.wrap x ∧ IntKind.u64.wrap x < 18446744073709551616 := by rw [wu]; omega
theorem xor_low (a c : Nat) (hc : c < 256) : a ^^^ c = a / 256 * 256 + (a % 256 ^^^ c) := by
  have h1 : (a ^^^ c) / 2 ^ 8 = a / 2 ^ 8 ^^^ c / 2 ^ 8 := Nat.xor_div_two_pow
  have h2 : (a ^^^ c) % 2 ^ 8 = a % 2 ^ 8 ^^^ c % 2 ^ 8 := Nat.xor_mod_two_pow
  rw [Nat.div_eq_of_lt (show c < 2 ^ 8 by omega), Nat.xor_zero] at h1
  rw [Nat.mod_eq_of_lt (show c < 2 ^ 8 by omega)] at h2
  have h3 := Nat.div_add_mod (a ^^^ c) (2 ^ 8)
  rw [h1, h2] at h3
  simp only [show (2 : Nat) ^ 8 = 256 from rfl] at h3
  omega
theorem xor_lt (a c : Nat) (ha : a < 18446744073709551616) (hc : c < 18446744073709551616) : a ^^^ c < 18446744073709551616 := Nat.xor_lt_two_pow (n := 64) ha hc
theorem step_same {h c : Int} (h0 : 0 ≤ h) (h1 : h < 18446744073709551616) (c0 : 0 ≤ c) (c1 : c < 256) : icehouseref04_Step.f h c = some (stepH h c) := by
  obtain ⟨H, rfl⟩ := Int.eq_ofNat_of_zero_le h0
  obtain ⟨C, rfl⟩ := Int.eq_ofNat_of_zero_le c0
  have hx := xor_low H C (by omega)
  have hl := xor_lt H C (by omega) (by omega)
  have hr : H % 256 ^^^ C < 256 := Nat.xor_lt_two_pow (n := 8) (by omega) (by omega)
  have e1 : IntKind.u64.wrap (C : Int) = (C : Int) := wu_in (by omega) (by omega)
  have e2 : Go.bits .xor .u64 (H : Int) (C : Int) = ((H ^^^ C : Nat) : Int) := u64_xor_nat H C (by omega) (by omega)
  have e3 : Int.tmod (H : Int) 256 = ((H % 256 : Nat) : Int) := by rw [Int.tmod_eq_emod_of_nonneg (by omega)]; omega
  have e4 : ((H % 256 : Nat) : Int) % 256 = ((H % 256 : Nat) : Int) := by omega
  have e5 : Go.bits .xor .u8 ((H % 256 : Nat) : Int) (C : Int) = ((H % 256 ^^^ C : Nat) : Int) := u8_xor_nat (H % 256) C (by omega) (by omega)
  unfold icehouseref04_Step.f stepH
  rw [e1, e2, e3, e4, e5]
  congr 1
  generalize H ^^^ C = N at *
  generalize H % 256 ^^^ C = r at *
  have e6 : IntKind.u64.wrap (r : Int) = (r : Int) := wu_in (by omega) (by omega)
  have e7 : IntKind.u64.wrap ((H : Int) - ((H % 256 : Nat) : Int)) = (H : Int) - ((H % 256 : Nat) : Int) := wu_in (by omega) (by omega)
  have e8 : IntKind.u64.wrap ((H : Int) - ((H % 256 : Nat) : Int) + (r : Int)) = (N : Int) := by rw [wu_in (by omega) (by omega)]; omega
  rw [e6, e7, e8, wu, wu, wu, wu]
  omega
theorem stepH_bd (h c : Int) : 0 ≤ stepH h c ∧ stepH h c < 18446744073709551616 := wu_bd _
theorem sumRow_bd : ∀ (l : List Int) (h : Int), 0 ≤ h → h < 18446744073709551616 → 0 ≤ sumRow h l ∧ sumRow h l < 18446744073709551616
  | [], h, h0, h1 => ⟨h0, h1⟩
  | c :: l, h, h0, h1 => sumRow_bd l (stepH h c) (stepH_bd h c).1 (stepH_bd h c).2
theorem rsum_l0 (l : List Int) (hb : ∀ x ∈ l, 0 ≤ x ∧ x < 256) (hl : l.length ≤ 9223372036854775807) : ∀ (n i : Nat) (h : Int), l.length - i = n → i ≤ l.length → 0 ≤ h → h < 18446744073709551616 →
    Since (fun k => icehouseref04_Sum.l0 k l h (i : Int)) (sumRow h (l.drop i)) := by
  intro n
  induction n with
  | zero =>
    intro i h hn hi h0 h1
    have hf : ¬ ((i : Int) < (l.length : Int)) := by omega
    rw [List.drop_eq_nil_of_le (by omega)]
    exact Since.none fun k => by simp only [icehouseref04_Sum.l0, if_neg hf]; rfl
  | succ n ih =>
    intro i h hn hi h0 h1
    have hi1 : i < l.length := by omega
    have f1 : (i : Int) < (l.length : Int) := by omega
    have f0 : (0 : Int) ≤ (i : Int) := by omega
    have r1 : rd l (i : Int) = l[i] := by simp [rd, hi1]
    have hc := hb l[i] (List.getElem_mem hi1)
    refine Since.one (ih (i + 1) (stepH h l[i]) (by omega) (by omega) (stepH_bd _ _).1 (stepH_bd _ _).2) fun k hk => ?_
    simp only [icehouseref04_Sum.l0, if_pos f1, if_pos f0, r1, step_same h0 h1 hc.1 hc.2, Option.bind_some, w_succ' i (by omega)]
    rw [hk, List.drop_eq_getElem_cons hi1]
    rfl
theorem rsum_ev (l : List Int) (hb : ∀ x ∈ l, 0 ≤ x ∧ x < 256) (hl : l.length ≤ 9223372036854775807) : Since (fun k => icehouseref04_Sum.f k l) (sumRow begH l) := by
  have := rsum_l0 l hb hl _ 0 begH rfl (Nat.zero_le _) (by decide) (by decide)
  rw [List.drop_zero] at this
  exact this
theorem fold_same {h : Int} (h0 : 0 ≤ h) (h1 : h < 18446744073709551616) : icehouseref04_fold.f h = hash_fold.f h := by
  unfold icehouseref04_fold.f hash_fold.f
  rw [Int.tdiv_eq_ediv_of_nonneg h0, wu_in (by omega) (by omega)]
theorem fold_bd {h : Int} (h0 : 0 ≤ h) (h1 : h < 18446744073709551616) : ∃ r, hash_fold.f h = some r ∧ 0 ≤ r ∧ r < 18446744073709551616 := by
  obtain ⟨H, rfl⟩ := Int.eq_ofNat_of_zero_le h0
  refine ⟨((H ^^^ (H / 8589934592) : Nat) : Int), ?_, by omega, ?_⟩
  · unfold hash_fold.f
    rw [show ((H : Int) / 8589934592) = ((H / 8589934592 : Nat) : Int) by omega, u64_xor_nat H (H / 8589934592) (by omega) (by omega)]
  · have := xor_lt H (H / 8589934592) (by omega) (by omega)
    omega
theorem stir_same {h : Int} (h0 : 0 ≤ h) (h1 : h < 18446744073709551616) : icehouseref04_Stir.f h = some (stirH h) := by
  rw [← stir_f]
  unfold icehouseref04_Stir.f hash_Stir.f
  obtain ⟨a, ha, a0, a1⟩ := fold_bd h0 h1
  rw [fold_same h0 h1, ha, Option.bind_some, Option.bind_some]
  have hw := wu_bd (a * 18397679294719823053)
  obtain ⟨b, hb, b0, b1⟩ := fold_bd hw.1 hw.2
  rw [fold_same hw.1 hw.2, hb, Option.bind_some, Option.bind_some]
  have hw := wu_bd (b * 14181476777654086739)
  rw [fold_same hw.1 hw.2]
theorem rkey_ev (s : ByteArray) (hs : s.size ≤ 140737488351232) : Since (fun k => icehouseref04_Key.f k s) (keyH s) := by
  refine (rsum_ev (bytesOf s) (bytesOf_range s) (by rw [bytesOf_len]; omega)).map fun k hk => ?_
  simp only [icehouseref04_Key.f]
  rw [if_pos hs, hk, Option.bind_some, stir_same (sumRow_bd _ _ (by decide) (by decide)).1 (sumRow_bd _ _ (by decide) (by decide)).2]
  rfl
theorem since_mono {α : Type} {f : Nat → Option α} {r : α} (hm : ∀ k, LeO (f k) (f (k + 1))) (K : Nat) (h : f K = some r) : Since f r := by
  refine ⟨K, fun k hk => ?_⟩
  induction k with
  | zero => rw [show (0 : Nat) = K by omega]; exact h
  | succ k ih =>
    by_cases e : k + 1 = K
    · rw [e]; exact h
    · exact hm k r (ih (by omega))
/-- a number's eight bytes -/
def wordU (u : Int) : List Int := [u / 72057594037927936 % 256, u / 281474976710656 % 256, u / 1099511627776 % 256, u / 4294967296 % 256, u / 16777216 % 256, u / 65536 % 256, u / 256 % 256, u % 256]
theorem word_is (n : Int) : hash_word.f 9 n = some (wordU (IntKind.u64.wrap n)) := by
  unfold hash_word.f
  simp [hash_word.l0, wrap64, shr, wordU, IntKind.bits]
theorem bytes_l0 (k : Nat) (x : Int) (L : List Int) (i : Int) (h0 : 0 ≤ x) (h1 : x < 18446744073709551616) (i0 : 0 ≤ i) (i1 : i < (L.length : Int)) (i2 : i ≤ 7) :
    icehouseref04_Bytes.l0 (k + 1) x L i = icehouseref04_Bytes.l0 k (x / 256) (L.set i.toNat (x % 256)) (i - 1) := by
  have hd : IntKind.u64.wrap (Int.tdiv x 256) = x / 256 := by rw [Int.tdiv_eq_ediv_of_nonneg h0, wu_in (by omega) (by omega)]
  have hm : Int.tmod x 256 % 256 = x % 256 := by rw [Int.tmod_eq_emod_of_nonneg h0]; omega
  have hw : wrap64 (i - 1) = i - 1 := by unfold wrap64; omega
  simp only [icehouseref04_Bytes.l0, if_pos (show i ≥ 0 from i0), if_pos i0, if_pos i1, hd, hm, hw]
theorem bytes_is (n : Int) : icehouseref04_Bytes.f 9 n = some (wordU (IntKind.u64.wrap n)) := by
  obtain ⟨u, hu⟩ : ∃ u, IntKind.u64.wrap n = u := ⟨_, rfl⟩
  have hb := wu_bd n
  rw [hu] at hb
  unfold icehouseref04_Bytes.f
  rw [if_pos (by omega), hu]
  rw [bytes_l0 8 _ _ 7 (by omega) (by omega) (by omega) (by simp) (by omega), bytes_l0 7 _ _ _ (by omega) (by omega) (by omega) (by simp) (by omega), bytes_l0 6 _ _ _ (by omega) (by omega) (by omega) (by simp) (by omega), bytes_l0 5 _ _ _ (by omega) (by omega) (by omega) (by simp) (by omega), bytes_l0 4 _ _ _ (by omega) (by omega) (by omega) (by simp) (by omega), bytes_l0 3 _ _ _ (by omega) (by omega) (by omega) (by simp) (by omega), bytes_l0 2 _ _ _ (by omega) (by omega) (by omega) (by simp) (by omega), bytes_l0 1 _ _ _ (by omega) (by omega) (by omega) (by simp) (by omega)]
  simp only [icehouseref04_Bytes.l0]
  rw [if_neg (by omega)]
  simp [wordU, List.replicate]
  omega
theorem wordU_range (u : Int) : ∀ x ∈ wordU u, 0 ≤ x ∧ x < 256 := by
  intro x hx
  unfold wordU at hx
  simp only [List.mem_cons, List.not_mem_nil, or_false] at hx
  omega
theorem sumRow_app (h : Int) (a b : List Int) : sumRow h (a ++ b) = sumRow (sumRow h a) b := by unfold sumRow; rw [List.foldl_append]
theorem ptH_is (n j : Int) : ptH n j = stirH (sumRow begH (wordU (IntKind.u64.wrap n) ++ wordU (IntKind.u64.wrap j))) := by
  simp only [ptH, QP.hash_Point.f, word_is, Option.bind_some, hash_Sum.f, stir_f, Option.getD_some, sumRow_app]
  simp only [sumH, sumFrom, List.foldl]
theorem rpoint_ev (n j : Int) : Since (fun k => icehouseref04_Point.f k n j) (ptH n j) := by
  have h1 := since_mono (fun k => icehouseref04_Bytes.mono n k) 9 (bytes_is n)
  have h2 := since_mono (fun k => icehouseref04_Bytes.mono j k) 9 (bytes_is j)
  have hw : ∀ x ∈ wordU (IntKind.u64.wrap n) ++ wordU (IntKind.u64.wrap j), 0 ≤ x ∧ x < 256 := fun x hx => by
    rcases List.mem_append.1 hx with h | h
    · exact wordU_range _ x h
    · exact wordU_range _ x h
  have h3 := rsum_ev _ hw (by simp [wordU])
  refine ((h1.and h2 (q := (wordU (IntKind.u64.wrap n), wordU (IntKind.u64.wrap j))) (F := fun k => (icehouseref04_Bytes.f k n).bind fun a => (icehouseref04_Bytes.f k j).bind fun b => some (a, b)) fun k a b => by simp only [a, b, Option.bind_some]).and h3 fun k a b => ?_)
  obtain ⟨a1, ha, hh⟩ := Option.bind_eq_some_iff.1 a
  obtain ⟨b1, hb, hh⟩ := Option.bind_eq_some_iff.1 hh
  have hh := Option.some.inj hh
  injection hh with e1 e2
  subst e1; subst e2
  simp only [icehouseref04_Point.f]
  rw [ha, hb, Option.bind_some, Option.bind_some, if_pos (by simp [wordU]), b, Option.bind_some, stir_same (sumRow_bd _ _ (by decide) (by decide)).1 (sumRow_bd _ _ (by decide) (by decide)).2, ptH_is]
  rfl
end Go.Proofs.Ytdfjeanlhafipaa.Hs
namespace Go.Proofs.Ytdfjeanlhafipaa.Hs
open Go.RowKit Go.Proofs.Ytdfjeanlhafipaa.QH Go.Proofs.Ytdfjeanlhafipaa.Lex Go.Proofs.Ytdfjeanlhafipaa.Rg
open Go.Proofs.YtdfjeanlhafipaaW.PrintWords Go.Proofs.YtdfjeanlhafipaaW.PrintLast Go.Proofs.YtdfjeanlhafipaaW.PrintMore
set_option linter.unusedVariables false
set_option linter.unusedSimpArgs false
def insS (p : S51) : List S51 → List S51
  | [] => [p]
  | x :: l => if lt2 (toPt x) (toPt p) then x :: insS p l else if x = p then x :: l else p :: x :: l
theorem insS_map (p : S51) : ∀ l : List S51, (insS p l).map toPt = ins (toPt p) (l.map toPt)
  | [] => rfl
  | x :: l => by
    unfold insS
    rw [List.map_cons]
    unfold ins
    by_cases h : lt2 (toPt x) (toPt p)
    · rw [if_pos h, if_pos h, List.map_cons, insS_map p l]
    · rw [if_neg h, if_neg h]
      by_cases e : x = p
      · rw [if_pos e, if_pos (congrArg toPt e)]; rfl
      · rw [if_neg e, if_neg (fun h => e (toPt_inj h))]; rfl
theorem insS_len (p : S51) : ∀ l : List S51, (insS p l).length ≤ l.length + 1
  | [] => Nat.le_refl _
  | x :: l => by
    have := insS_len p l
    unfold insS
    split
    · rw [List.length_cons, List.length_cons]; omega
    · split
      · exact Nat.le_succ _
      · exact Nat.le_refl _
def foldS (acc raw : List S51) : List S51 := raw.foldl (fun a p => insS p a) acc
theorem foldS_map : ∀ (raw acc : List S51), (foldS acc raw).map toPt = (raw.map toPt).foldl (fun a p => ins p a) (acc.map toPt)
  | [], acc => rfl
  | x :: raw, acc => by
    show (foldS (insS x acc) raw).map toPt = _
    rw [foldS_map raw, insS_map]
    rfl
theorem foldS_pts (l : List Int) (each : Int) : foldS [] (rawP l each) = ptsP l each := by
  have h : (foldS [] (rawP l each)).map toPt = (ptsP l each).map toPt := by
    rw [foldS_map, ptsP_map]; rfl
  exact (List.map_inj_right (fun _ _ => toPt_inj)).1 h
theorem foldS_app (a b acc : List S51) : foldS acc (a ++ b) = foldS (foldS acc a) b := by unfold foldS; rw [List.foldl_append]
theorem less_f (a b c d : Int) : icehouseref09_less.f a b c d = some (decide (lt2 (a, b) (c, d))) := by
  unfold icehouseref09_less.f lt2
  by_cases h1 : a < c
  · simp [h1]
  · by_cases h2 : a = c
    · simp [h1, h2]
    · simp [h1, h2]
theorem insS_skip (p : S51) : ∀ (i : Nat) (l : List S51), (∀ m (hm : m < i) (h : m < l.length), lt2 (toPt l[m]) (toPt p)) → insS p l = l.take i ++ insS p (l.drop i)
  | 0, l, _ => by simp
  | i + 1, [], _ => by simp
  | i + 1, x :: l, h => by
    have h0 : lt2 (toPt x) (toPt p) := h 0 (by omega) (by simp)
    rw [insS, if_pos h0, insS_skip p i l (fun m hm hl => h (m + 1) (by omega) (by simpa using hl))]
    rfl
section
variable (nodes : List Int) (each keep : Int) (p : S51) (x4 x5 : Int)
theorem l2_ev (r : List S51) (l : List S51) (hl : l.length ≤ 8796093000000) (hw : wrap64 (x5 + 1) = x5 + 1) (h : Since (fun k => icehouseref09_Points.l1 k (insS p l) x4 (x5 + 1) nodes each keep) r) : ∀ (n i : Nat), l.length - i = n → i ≤ l.length → (∀ m (hm : m < i) (h : m < l.length), lt2 (toPt l[m]) (toPt p)) →
    Since (fun k => icehouseref09_Points.l2 k l x4 x5 (i : Int) nodes each keep p.f0 p.f1) r := by
  intro n
  induction n with
  | zero =>
    intro i hn hi hlt
    obtain rfl : i = l.length := by omega
    have hf : ¬ ((l.length : Int) < (l.length : Int)) := by omega
    have e := insS_skip p l.length l hlt
    rw [List.take_length, List.drop_length] at e
    refine Since.one h fun k hk => ?_
    rw [e] at hk
    simp only [icehouseref09_Points.l2, if_neg hf, if_pos (show (0 : Int) ≤ (l.length : Int) by omega), if_pos (Int.le_refl (l.length : Int)), Option.bind_some, Int.toNat_natCast, List.take_length, List.drop_length, List.nil_append, List.length_append, List.length_nil, Nat.zero_add, hw]
    rw [if_pos (by omega), if_pos (by omega), if_pos (by simp; omega), List.append_nil]
    exact hk
  | succ n ih =>
    intro i hn hi hlt
    have h1 : i < l.length := by omega
    have f1 : (i : Int) < (l.length : Int) := by omega
    have f0 : (0 : Int) ≤ (i : Int) := by omega
    have r1 : rd_T51 l (i : Int) = l[i] := by unfold rd_T51; rw [show (i : Int).toNat = i from rfl]; simp [h1]
    have e := insS_skip p i l hlt
    rw [List.drop_eq_getElem_cons h1, insS] at e
    by_cases c1 : lt2 (toPt l[i]) (toPt p)
    · refine Since.one (ih (i + 1) (by omega) (by omega) (fun m hm hl' => ?_)) fun k hk => ?_
      · by_cases hmi : m = i
        · subst hmi; exact c1
        · exact hlt m (by omega) hl'
      · have c2 : lt2 (l[i].f0, l[i].f1) (p.f0, p.f1) := c1
        simp only [icehouseref09_Points.l2, if_pos f1, if_pos f0, r1, less_f, decide_eq_true c2, Option.bind_some, if_true, w_succ' i (by omega)]
        exact hk
    · have c2 : ¬ lt2 (l[i].f0, l[i].f1) (p.f0, p.f1) := c1
      rw [if_neg c1] at e
      by_cases c3 : l[i] = p
      · rw [if_pos c3, ← List.drop_eq_getElem_cons h1, List.take_append_drop] at e
        rw [e] at h
        refine Since.one h fun k hk => ?_
        have c4 := (same_iff l[i] p).2 c3
        simp only [icehouseref09_Points.l2, if_pos f1, if_pos f0, r1, less_f, decide_eq_false c2, Option.bind_some, hw]
        rw [if_neg (by decide), if_pos c4]
        exact hk
      · rw [if_neg c3, ← List.drop_eq_getElem_cons h1] at e
        refine Since.one h fun k hk => ?_
        rw [e] at hk
        have c4 : ¬ ((l[i].f0 == p.f0 && (l[i].f1 == p.f1)) = true) := fun h => c3 ((same_iff l[i] p).1 h)
        simp only [icehouseref09_Points.l2, if_pos f1, if_pos f0, r1, less_f, decide_eq_false c2, Option.bind_some, hw, if_pos (show (i : Int) ≤ (l.length : Int) by omega), Int.toNat_natCast, List.nil_append, List.length_append, List.length_nil, List.length_cons, Nat.zero_add, List.length_take, List.length_drop]
        rw [if_neg (by decide), if_neg c4, if_pos (by omega), if_pos (by omega), if_pos (by omega), List.append_assoc]
        exact hk
end
/-- one node's points from a place on -/
def restP (n : Int) (j m : Nat) : List S51 := (List.range' j m).map fun j : Nat => ⟨ptH n (j : Int), n⟩
theorem restP_zero (n : Int) (m : Nat) : restP n 0 m = rowP n m := by unfold restP rowP; rw [List.range_eq_range']
theorem restP_succ (n : Int) (j m : Nat) : restP n j (m + 1) = ⟨ptH n (j : Int), n⟩ :: restP n (j + 1) m := by unfold restP; rw [List.range'_succ, List.map_cons]
theorem foldS_cons (p : S51) (raw acc : List S51) : foldS acc (p :: raw) = foldS (insS p acc) raw := rfl
theorem rawP_cons (x : Int) (l : List Int) (each : Int) : rawP (x :: l) each = rowP x each.toNat ++ rawP l each := by unfold rawP; rw [List.flatMap_cons]
theorem foldS_len : ∀ (raw acc : List S51), (foldS acc raw).length ≤ acc.length + raw.length
  | [], acc => Nat.le_refl _
  | x :: raw, acc => by
    have h1 := foldS_len raw (insS x acc)
    have h2 := insS_len x acc
    show (foldS (insS x acc) raw).length ≤ _
    rw [List.length_cons]; omega
theorem l1_ev (nodes : List Int) (each keep : Int) (he : 0 ≤ each) (he2 : each ≤ 64) (i : Nat) (hi : i < nodes.length) (r : List S51) : ∀ (n j : Nat) (acc : List S51), each.toNat - j = n → (j : Int) ≤ each → acc.length + n ≤ 100000 →
    Since (fun k => icehouseref09_Points.l0 k (foldS acc (restP nodes[i] j n)) (wrap64 ((i : Int) + 1)) nodes each keep) r → Since (fun k => icehouseref09_Points.l1 k acc (i : Int) (j : Int) nodes each keep) r := by
  intro n
  induction n with
  | zero =>
    intro j acc hn hj hlen h
    have hf : ¬ ((j : Int) < each) := by omega
    refine Since.one h fun k hk => ?_
    simp only [icehouseref09_Points.l1, if_neg hf]
    exact hk
  | succ n ih =>
    intro j acc hn hj hlen h
    have f1 : (j : Int) < each := by omega
    have g0 : (0 : Int) ≤ (i : Int) := by omega
    have g1 : (i : Int) < (nodes.length : Int) := by omega
    have r1 : rd nodes (i : Int) = nodes[i] := by simp [rd, hi]
    have hw : wrap64 ((j : Int) + 1) = (j : Int) + 1 := by unfold wrap64; omega
    rw [restP_succ, foldS_cons] at h
    have h2 := ih (j + 1) (insS ⟨ptH nodes[i] (j : Int), nodes[i]⟩ acc) (by omega) (by omega) (by have := insS_len ⟨ptH nodes[i] (j : Int), nodes[i]⟩ acc; omega) h
    have h3 := l2_ev nodes each keep ⟨ptH nodes[i] (j : Int), nodes[i]⟩ (i : Int) (j : Int) r acc (by omega) hw h2 _ 0 rfl (Nat.zero_le _) (fun m hm _ => absurd hm (Nat.not_lt_zero m))
    refine Since.two h3 (rpoint_ev nodes[i] (j : Int)) fun k hk hp => ?_
    simp only [icehouseref09_Points.l1, if_pos f1, if_pos g0, if_pos g1, r1]
    rw [hp, Option.bind_some]
    exact hk
theorem l0_ev (nodes : List Int) (each keep : Int) (he : 0 ≤ each) (he2 : each ≤ 64) (hn64 : nodes.length ≤ 64) : ∀ (n i : Nat) (acc : List S51), nodes.length - i = n → i ≤ nodes.length → acc.length ≤ i * 64 →
    Since (fun k => icehouseref09_Points.l0 k acc (i : Int) nodes each keep) (foldS acc (rawP (nodes.drop i) each)) := by
  intro n
  induction n with
  | zero =>
    intro i acc hn hi hlen
    have hf : ¬ ((i : Int) < (nodes.length : Int)) := by omega
    rw [List.drop_eq_nil_of_le (by omega)]
    exact Since.none fun k => by simp only [icehouseref09_Points.l0, if_neg hf]; rfl
  | succ n ih =>
    intro i acc hn hi hlen
    have h1 : i < nodes.length := by omega
    have f1 : (i : Int) < (nodes.length : Int) := by omega
    have hl2 : (foldS acc (restP nodes[i] 0 each.toNat)).length ≤ (i + 1) * 64 := by
      have := foldS_len (restP nodes[i] 0 each.toNat) acc
      rw [restP_zero, rowP_len] at this
      rw [restP_zero]
      omega
    have h2 := ih (i + 1) _ (by omega) (by omega) hl2
    rw [← w_succ' i (by omega)] at h2
    have h3 := l1_ev nodes each keep he he2 i h1 _ each.toNat 0 acc (by omega) (by omega) (by omega) h2
    refine Since.one h3 fun k hk => ?_
    simp only [icehouseref09_Points.l0, if_pos f1]
    rw [show icehouseref09_Points.l1 k acc (i : Int) 0 nodes each keep = _ from hk, restP_zero, List.drop_eq_getElem_cons h1]
    rw [rawP_cons, foldS_app]
theorem rpoints_ev {l : List Int} {each keep : Int} (ho : okB l each keep = true) : Since (fun k => icehouseref09_Points.f k l each keep) (ptsP l each) := by
  obtain ⟨k0, k1, k2, k3, k4, k5, _⟩ := okB_len ho
  have h := l0_ev l each keep (by omega) k3 k1 _ 0 [] rfl (Nat.zero_le _) (by simp)
  rw [List.drop_zero, foldS_pts] at h
  exact h
end Go.Proofs.Ytdfjeanlhafipaa.Hs
namespace Go.Proofs.Ytdfjeanlhafipaa.Hs
open Go.RowKit Go.Proofs.Ytdfjeanlhafipaa.QH Go.Proofs.Ytdfjeanlhafipaa.Lex Go.Proofs.Ytdfjeanlhafipaa.Rg
open Go.Proofs.YtdfjeanlhafipaaW.PrintWords Go.Proofs.YtdfjeanlhafipaaW.PrintLast Go.Proofs.YtdfjeanlhafipaaW.PrintMore
set_option linter.unusedVariables false
set_option linter.unusedSimpArgs false
theorem keepers_ok {l : List Int} {each keep : Int} (ho : okB l each keep = true) (s : ByteArray) (hs : s.size ≤ 140737488351232) : QR.ring_Keepers.f l each keep s = some (keepR l each (keyH s) keep.toNat, 0) := by
  unfold QR.ring_Keepers.f hash_Key.f
  rw [if_pos hs, Option.bind_some, at_ok ho]
  rfl
theorem keepers_out {l : List Int} {each keep : Int} (ho : okB l each keep = false) (s : ByteArray) (hs : s.size ≤ 140737488351232) : QR.ring_Keepers.f l each keep s = some ([], 2) := by
  unfold QR.ring_Keepers.f hash_Key.f
  rw [if_pos hs, Option.bind_some, at_out ho]
  rfl
theorem known_ev : Since (fun k => QR.icehouselaw09_known.f k) true := by
  have o1 : okB [7] 3 1 = true := by decide
  have o2 : okB [1, 2, 3] 2 3 = true := by decide
  have o3 : okB [] 0 0 = false := by decide
  have hs : (⟨#[107]⟩ : ByteArray).size ≤ 140737488351232 := by decide
  have e1 : keepR [7] 3 (keyH ⟨#[107]⟩) (1 : Int).toNat = [7] := by
    have hl := keepR_len o1 (keyH ⟨#[107]⟩) 1 (by simp)
    obtain ⟨x, hx⟩ := List.length_eq_one_iff.1 hl
    have hm := keepR_mem (l := [7]) (each := 3) (by omega) (h := keyH ⟨#[107]⟩) (k := 1) (x := x) (by rw [hx]; exact List.mem_singleton_self x)
    rw [show (1 : Int).toNat = 1 from rfl, hx, List.mem_singleton.1 hm]
  have e2 : (keepR [1, 2, 3] 2 (keyH ⟨#[107]⟩) 3).length = 3 := keepR_len o2 (keyH ⟨#[107]⟩) 3 (by simp)
  have hsame := same_ev [7] [7] (by simp)
  refine hsame.map fun k hk => ?_
  simp only [QR.icehouselaw09_known.f]
  rw [keepers_ok o1 _ hs, Option.bind_some, keepers_ok o2 _ hs, Option.bind_some, points_out o3, Option.bind_some]
  simp only
  rw [e1, hk]
  simp
  omega
theorem has_l0 (l : List Int) (x : Int) (hl : l.length ≤ 9223372036854775807) : ∀ (n i : Nat), l.length - i = n → i ≤ l.length →
    Since (fun k => icehouseref09_Has.l0 k l x (i : Int)) (decide (x ∈ l.drop i)) := by
  intro n
  induction n with
  | zero =>
    intro i hn hi
    have hf : ¬ ((i : Int) < (l.length : Int)) := by omega
    rw [List.drop_eq_nil_of_le (by omega)]
    exact Since.none fun k => by simp only [icehouseref09_Has.l0, if_neg hf]; rfl
  | succ n ih =>
    intro i hn hi
    have h1 : i < l.length := by omega
    have f1 : (i : Int) < (l.length : Int) := by omega
    have f0 : (0 : Int) ≤ (i : Int) := by omega
    have r1 : rd l (i : Int) = l[i] := by simp [rd, h1]
    have d := List.drop_eq_getElem_cons h1
    by_cases he : l[i] = x
    · refine Since.none fun k => ?_
      simp only [icehouseref09_Has.l0, if_pos f1, if_pos f0, r1, if_pos he]
      congr 1
      exact (decide_eq_true (by rw [d, he]; exact List.mem_cons_self)).symm
    · refine Since.one (ih (i + 1) (by omega) (by omega)) fun k h => ?_
      simp only [icehouseref09_Has.l0, if_pos f1, if_pos f0, r1, if_neg he, w_succ' i (by omega)]
      rw [h]
      congr 1
      refine decide_eq_decide.2 ?_
      rw [d, List.mem_cons]
      exact ⟨.inr, fun h => h.resolve_left (fun e => he e.symm)⟩
theorem has_ev (l : List Int) (x : Int) (hl : l.length ≤ 9223372036854775807) : Since (fun k => icehouseref09_Has.f k l x) (decide (x ∈ l)) := by
  have := has_l0 l x hl _ 0 rfl (Nat.zero_le _)
  rw [List.drop_zero] at this
  exact this
/-- is more looked at than is looked at? -/
def longB (l : List Int) (each : Int) : Bool := decide ((l.length : Int) > 12) || (decide (wrap64 ((l.length : Int) * each) > 60) && decide (each > 0))
theorem long_f (l : List Int) (each keep : Int) : icehouselaw09_long.f l each keep = some (longB l each) := by
  unfold icehouselaw09_long.f longB
  by_cases h1 : (l.length : Int) > 12
  · simp [h1]
  · by_cases h2 : wrap64 ((l.length : Int) * each) > 60
    · simp [h1, h2]
    · simp [h1, h2]
end Go.Proofs.Ytdfjeanlhafipaa.Hs
namespace Go.Proofs.Ytdfjeanlhafipaa.Hs
open Go.RowKit Go.Proofs.Ytdfjeanlhafipaa.QH Go.Proofs.Ytdfjeanlhafipaa.Lex Go.Proofs.Ytdfjeanlhafipaa.Rg
open Go.Proofs.YtdfjeanlhafipaaW.PrintWords Go.Proofs.YtdfjeanlhafipaaW.PrintLast Go.Proofs.YtdfjeanlhafipaaW.PrintMore
set_option linter.unusedVariables false
set_option linter.unusedSimpArgs false
theorem rfirst_l0 (q : List S51) (h : Int) (hl : q.length ≤ 9223372036854775807) : ∀ (n i : Nat), q.length - i = n → i ≤ q.length →
    Since (fun k => icehouseref09_First.l0 k q h (i : Int)) ((if i + ((q.drop i).takeWhile fun p => decide (p.f0 < h)).length < q.length then i + ((q.drop i).takeWhile fun p => decide (p.f0 < h)).length else 0 : Nat) : Int) := by
  intro n
  induction n with
  | zero =>
    intro i hn hi
    have hf : ¬ ((i : Int) < (q.length : Int)) := by omega
    rw [List.drop_eq_nil_of_le (by omega)]
    refine Since.none fun k => ?_
    simp only [icehouseref09_First.l0, if_neg hf]
    rw [if_neg (by simp; omega)]
    rfl
  | succ n ih =>
    intro i hn hi
    have h1 : i < q.length := by omega
    have f1 : (i : Int) < (q.length : Int) := by omega
    have f0 : (0 : Int) ≤ (i : Int) := by omega
    have r1 : rd_T51 q (i : Int) = q[i] := by unfold rd_T51; rw [show (i : Int).toNat = i from rfl]; simp [h1]
    rw [List.drop_eq_getElem_cons h1]
    by_cases c1 : q[i].f0 ≥ h
    · refine Since.none fun k => ?_
      simp only [icehouseref09_First.l0, if_pos f1, if_pos f0, r1, if_pos c1]
      rw [List.takeWhile_cons_of_neg (by simpa using c1), List.length_nil, Nat.add_zero, if_pos h1]
    · refine Since.one (ih (i + 1) (by omega) (by omega)) fun k hk => ?_
      simp only [icehouseref09_First.l0, if_pos f1, if_pos f0, r1, if_neg c1, w_succ' i (by omega)]
      rw [hk, List.takeWhile_cons_of_pos (by simp; omega), List.length_cons]
      congr 2
      rw [show i + (((q.drop (i + 1)).takeWhile fun p => decide (p.f0 < h)).length + 1) = i + 1 + ((q.drop (i + 1)).takeWhile fun p => decide (p.f0 < h)).length by omega]
theorem tw_le {α : Type} (p : α → Bool) : ∀ l : List α, (l.takeWhile p).length ≤ l.length
  | [] => Nat.le_refl _
  | x :: l => by
    have := tw_le p l
    cases h : p x
    · rw [List.takeWhile_cons_of_neg (by rw [h]; decide)]; exact Nat.zero_le _
    · rw [List.takeWhile_cons_of_pos h, List.length_cons, List.length_cons]; omega
theorem rfirst_ev {l : List Int} {each keep : Int} (ho : okB l each keep = true) (h : Int) : Since (fun k => icehouseref09_First.f k (ptsP l each) h) ((firstL (ptsP l each) h : Nat) : Int) := by
  have hsm := rawP_small ho
  have hlt := firstL_lt ho h
  have h1 := rfirst_l0 (ptsP l each) h (by omega) _ 0 rfl (Nat.zero_le _)
  rw [List.drop_zero, Nat.zero_add] at h1
  have hle := tw_le (fun p : S51 => decide (p.f0 < h)) (ptsP l each)
  have e : (if ((ptsP l each).takeWhile fun p => decide (p.f0 < h)).length < (ptsP l each).length then ((ptsP l each).takeWhile fun p => decide (p.f0 < h)).length else 0) = firstL (ptsP l each) h := by
    unfold firstL
    split
    · rename_i h'; exact (Nat.mod_eq_of_lt h').symm
    · rename_i h'
      rw [show ((ptsP l each).takeWhile fun p => decide (p.f0 < h)).length = (ptsP l each).length by omega, Nat.mod_self]
  rw [e] at h1
  exact h1
theorem rat_l0 (l0 : List Int) (each : Int) (q : List S51) (i0 keep : Nat) (hi0 : i0 < q.length) (hq : q.length ≤ 4096) (R : List Int) (hR : R.length = keep) : ∀ (n t : Nat) (out : List Int), q.length - t = n → t ≤ q.length → out.length ≤ t → out.length < keep → Rg.meetS keep out ((rotL q i0).drop t) = R →
    Since (fun k => icehouseref09_At.l0 k q (((i0 + t) % q.length : Nat) : Int) out l0 each (keep : Int)) R := by
  intro n
  induction n with
  | zero =>
    intro t out hn ht hot hok hm
    rw [List.drop_eq_nil_of_le (by rw [rotL_len q i0 (by omega)]; omega)] at hm
    have : out = R := hm
    rw [this] at hok
    omega
  | succ n ih =>
    intro t out hn ht hot hok hm
    have h1 : t < q.length := by omega
    have hmod : (i0 + t) % q.length < q.length := Nat.mod_lt _ (by omega)
    have g1 : (out.length : Int) < (keep : Int) := by omega
    have g2 : (0 : Int) ≤ (((i0 + t) % q.length : Nat) : Int) := by omega
    have g3 : (((i0 + t) % q.length : Nat) : Int) < (q.length : Int) := by omega
    have g4 : ¬ ((q.length : Int) = 0) := by omega
    have r1 : rd_T51 q (((i0 + t) % q.length : Nat) : Int) = q[(i0 + t) % q.length] := by unfold rd_T51; rw [Int.toNat_natCast]; simp [hmod]
    have hw : Int.tmod (wrap64 ((((i0 + t) % q.length : Nat) : Int) + 1)) (q.length : Int) = (((i0 + (t + 1)) % q.length : Nat) : Int) := by
      rw [w_succ' _ (by omega), Int.tmod_eq_emod_of_nonneg (by omega)]
      have e : ((i0 + t) % q.length + 1) % q.length = (i0 + (t + 1)) % q.length := by
        rw [Nat.mod_add_mod, Nat.add_assoc]
      rw [← e]
      omega
    have hx := rotL_at q i0 t hi0 h1
    rw [List.drop_eq_getElem_cons (by rw [rotL_len q i0 (by omega)]; exact h1), hx] at hm
    unfold Rg.meetS at hm
    by_cases hin : (q[(i0 + t) % q.length]).f1 ∈ out
    · rw [if_pos hin] at hm
      refine Since.two (ih (t + 1) out (by omega) (by omega) (by omega) hok hm) (has_ev out (q[(i0 + t) % q.length]).f1 (by omega)) fun k hk hh => ?_
      simp only [icehouseref09_At.l0, if_pos g1, if_pos g2, if_pos g3, r1]
      rw [hh, Option.bind_some, decide_eq_true hin, if_pos rfl, if_neg g4, hw]
      exact hk
    · rw [if_neg hin] at hm
      have hlen : (out ++ [(q[(i0 + t) % q.length]).f1]).length = out.length + 1 := by rw [List.length_append]; rfl
      by_cases hk1 : out.length + 1 = keep
      · rw [if_pos hk1] at hm
        have hstop : Since (fun k => icehouseref09_At.l0 k q (((i0 + (t + 1)) % q.length : Nat) : Int) (out ++ [(q[(i0 + t) % q.length]).f1]) l0 each (keep : Int)) R := by
          refine Since.none fun k => ?_
          simp only [icehouseref09_At.l0]
          rw [if_neg (by rw [hlen]; omega), hm]
        refine Since.two hstop (has_ev out (q[(i0 + t) % q.length]).f1 (by omega)) fun k hk hh => ?_
        simp only [icehouseref09_At.l0, if_pos g1, if_pos g2, if_pos g3, r1]
        rw [hh, Option.bind_some, decide_eq_false hin, if_neg (by decide), if_pos (by omega), if_neg g4, hw]
        exact hk
      · rw [if_neg hk1] at hm
        refine Since.two (ih (t + 1) (out ++ [(q[(i0 + t) % q.length]).f1]) (by omega) (by omega) (by rw [hlen]; omega) (by rw [hlen]; omega) hm) (has_ev out (q[(i0 + t) % q.length]).f1 (by omega)) fun k hk hh => ?_
        simp only [icehouseref09_At.l0, if_pos g1, if_pos g2, if_pos g3, r1]
        rw [hh, Option.bind_some, decide_eq_false hin, if_neg (by decide), if_pos (by omega), if_neg g4, hw]
        exact hk
theorem rat_ev {l : List Int} {each keep : Int} (ho : okB l each keep = true) (h : Int) : Since (fun k => icehouseref09_At.f k l each keep h) (keepR l each h keep.toNat) := by
  obtain ⟨k0, k1, k2, k3, k4, k5, _⟩ := okB_len ho
  have hsm := rawP_small ho
  have hlt := firstL_lt ho h
  have hR := keepR_len ho h keep.toNat (by omega)
  have hm : Rg.meetS keep.toNat [] ((rotL (ptsP l each) (firstL (ptsP l each) h)).drop 0) = keepR l each h keep.toNat := by
    rw [List.drop_zero, rotL_eq, meetS_all (by omega)]
    rfl
  have h1 := rat_l0 l each (ptsP l each) (firstL (ptsP l each) h) keep.toNat hlt hsm _ hR _ 0 [] rfl (Nat.zero_le _) (Nat.le_refl _) (by show 0 < keep.toNat; omega) hm
  rw [Nat.add_zero, Nat.mod_eq_of_lt hlt, show ((keep.toNat : Nat) : Int) = keep by omega] at h1
  refine ((rpoints_ev ho).and (rfirst_ev ho h) (q := (ptsP l each, ((firstL (ptsP l each) h : Nat) : Int))) (F := fun k => (icehouseref09_Points.f k l each keep).bind fun p => (icehouseref09_First.f k p h).bind fun f => some (p, f)) (fun k a b => by simp only [a, Option.bind_some, b])).and h1 fun k a b => ?_
  obtain ⟨p, hp, hh⟩ := Option.bind_eq_some_iff.1 a
  obtain ⟨f, hf, hh⟩ := Option.bind_eq_some_iff.1 hh
  have hh := Option.some.inj hh
  injection hh with e1 e2
  subst e1; subst e2
  simp only [icehouseref09_At.f]
  rw [hp, Option.bind_some, hf, Option.bind_some]
  exact b
end Go.Proofs.Ytdfjeanlhafipaa.Hs
namespace Go.Proofs.Ytdfjeanlhafipaa.QK
open Go.Proofs.Ytdfjeanlhafipaa.QH
open Go.RowKit Go.Proofs.YtdfjeanlhafipaaW.PrintWords Go.Proofs.YtdfjeanlhafipaaW.PrintLast Go.Proofs.YtdfjeanlhafipaaW.PrintMore
attribute [local go_sem] max2_int min2_int max_two min_two max_three min_three max_four min_four   -- for this text's walks alone
set_option linter.unusedVariables false
set_option linter.unusedSimpArgs false



-- the values' own types
end Go.Proofs.Ytdfjeanlhafipaa.QK
