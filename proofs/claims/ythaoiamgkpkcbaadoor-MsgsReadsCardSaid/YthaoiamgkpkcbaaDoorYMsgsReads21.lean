/- The contract of the reference's head of a message. Conditions: bytes that fit in memory. · Written by a program of this session over the kit's print: functions and their contracts. · Written by a program of this session over the kit's print: functions and their contracts. -/
import Derived.Test.YthaoiamgkpkcbaaDoorYMsgsReads20
import Derived.Test.YthaoiamgkpkcbaaDoorProg
import Derived.Below
import Derived.Deep.Draws
import Derived.Deep.AppendLies
import Derived.Maps.AppendAt
import Derived.OwnWalk
import Derived.Laws.BytesArg
import Derived.Laws.MakeOwn
import Derived.Laws.OwnMore
import Derived.Deep.OwnRows
import Derived.Tactics
import Derived.Lib.ConvBytes
import Derived.Laws.Slices
import Derived.WalkKit
import Derived.KernelRfl
import Derived.RowKit3
import Derived.Deep.LoopGhost
import Derived.Deep.QuietTactic
import Derived.BigQuiet
import Derived.WideLaws
import Derived.Deep.DeepCutAuto
import Derived.Deep.CutBlock
import Derived.Deep.RegionHeld3
import Derived.Laws.Rows
import Derived.Lib.AppendStr
import Derived.ArgAppend
import Derived.Laws.IdiomCopy
import Derived.OrdersHeld
import Derived.Laws.BitsLemmas
import Derived.RowKit
import Derived.Test.YthaoiamgkpkcbaaDoorYMsgsReads9
import Derived.Test.YthaoiamgkpkcbaaDoorYMsgsReads13
import Derived.Test.YthaoiamgkpkcbaaDoorYMsgsReads0
import Derived.Test.YthaoiamgkpkcbaaDoorYMsgsReads2
import Derived.Test.YthaoiamgkpkcbaaDoorYMsgsReads5
import Derived.Test.YthaoiamgkpkcbaaDoorYMsgsReads3

namespace Go.Proofs.YthaoiamgkpkcbaaDoor.Ms
open Go.ChangeShapes Go.WideShapes Go.ChangeAt Go.RowKit Go.Proofs.YthaoiamgkpkcbaaDoor.Pk Go.Proofs.YthaoiamgkpkcbaaDoor.Tg Go.Proofs.YthaoiamgkpkcbaaDoor.Enc Go.Proofs.YthaoiamgkpkcbaaDoor.EncC Go.Proofs.YthaoiamgkpkcbaaDoor.EncP
open Go.Proofs.YthaoiamgkpkcbaaDoor.Hlp Go.Proofs.YthaoiamgkpkcbaaDoor.Wrd Go.Proofs.YthaoiamgkpkcbaaDoor.Lex Go.Proofs.YthaoiamgkpkcbaaDoorW.PrintWords Go.Proofs.YthaoiamgkpkcbaaDoorW.PrintLast Go.Proofs.YthaoiamgkpkcbaaDoorW.PrintMore
set_option linter.unusedVariables false
set_option linter.unusedSimpArgs false
theorem rnums_c {w : World} {A A2 : Option Addr} {n c n2 c2 : Nat} {l all ns : List Int} {a1 t e : Int} (hS : Since (fun k => QD.icehouseref12_numbers.f k l a1 all) (ns, t, e)) (hr : Kd.C (Kd.int .u8) w A n l) (hc : n ≤ c) (hr2 : Kd.C (Kd.int .i64) w A2 n2 all) (hc2 : n2 ≤ c2) :
    Calls Tryd.prog 71 #[.slice A n c, .int .i64 a1, .slice A2 n2 c2] w fun x w' => ∃ A3 n3 c3, x = .returned (.tuple #[.slice A3 n3 c3, .int .i64 t, .int .i64 e]) ∧ Kd.C (Kd.int .i64) w' A3 n3 ns ∧ n3 ≤ c3 ∧ Below w.heap.size w w' := by
  obtain rfl : l.length = n := hr.1
  obtain rfl : all.length = n2 := hr2.1
  obtain ⟨K, hK⟩ := hS
  refine (QD.icehouseref12_numbers.calls K A c l a1 A2 c2 all ns t e w hr hc hr2 hc2 (hK K (Nat.le_refl _))).mono ?_
  rintro x w' ⟨v, rfl, hR, hb⟩
  obtain ⟨A3, c3, rfl, hc3, hC⟩ := Kd.R_reads hR
  exact ⟨A3, _, c3, rfl, hC, hc3, hb⟩
def HeadPost (l : List Int) (w : World) (x : Ending) (w' : World) : Prop := ∃ (m : Ms) (t e : Int), x = .returned (.tuple #[.agg (m.val nP), .int .i64 t, .int .i64 e]) ∧ Rl l (g0 ⟨l, 0⟩).1.kind Q0 m t e (gep (gfr (g0 ⟨l, 0⟩))) ∧ m.e = zE ∧ m.L = [] ∧ m.R = [] ∧ Below w.heap.size w w'
theorem head_none {l : List Int} {w w' : World} {e : Int} (he : e ≠ 0) (h : (gep (gfr (g0 ⟨l, 0⟩))).2.e = e) (hb : Below w.heap.size w w') : HeadPost l w (.returned (.tuple #[.agg zMs, .int .i64 0, .int .i64 e])) w' := ⟨zM, 0, e, rfl, ⟨.inr ⟨he, h⟩⟩, rfl, rfl, rfl, hb⟩
set_option maxHeartbeats 8000000 in
set_option maxRecDepth 100000 in
theorem head_c {w : World} {A : Option Addr} {n c : Nat} {l : List Int} (hr : Kd.C (Kd.int .u8) w A n l) (hc : n ≤ c) (hb : ∀ x ∈ l, 0 ≤ x ∧ x < 256) (hl : n ≤ 140737488351232) :
    Calls Tryd.prog 49 #[.slice A n c] w (HeadPost l w) := by
  obtain rfl : l.length = n := hr.1
  have HP := Aside0.mk (blk_new w (.cells zMs 34))
  have HB0 := Aside0.mk (below_alloc (Below.refl w.heap.size w) (.cells zMs 34))
  have HC := Aside0.mk hr
  have HCw := Aside0.mk hr
  have HBy := Aside0.mk hb
  have N1 := Aside0.mk (nums_ev hb hl [17] (by simp) 0 (Nat.zero_le _))
  clear hr
  go_enter Tryd.func49, Tryd.ntmps49
  go_upto_region 1 with fail
  generalize w.alloc (.cells zMs 34) = W at *
  have HG : Aside0 (Kd.C (Kd.int .i64) (W.alloc (.cells #[.int .i64 17] 3)) (some ⟨W.heap.size, 0, none⟩) 1 [17]) := ⟨C_blki (k := .i64) [17] (blk_new W (.cells #[.int .i64 17] 3)) (by decide) rfl⟩
  have HB1 := Aside0.mk (below_alloc HB0.out (.cells #[.int .i64 17] 3))
  have HP1 := Aside0.mk (blk_alloc HP.out (.cells #[.int .i64 17] 3))
  have HC1 := Aside0.mk (Kd.C_below HC.out HB1.out)
  rcases N1.out with ⟨ns, j, hj, hn, hs⟩ | ⟨t, e, he, hn, hs⟩
  · have HS : Aside0 (Since (fun k => QD.icehouseref12_numbers.f k l 0 [17]) (ns, (j : Int), 0)) := ⟨hs⟩
    have HN : Aside0 ([(belowS 18 ⟨l, 0⟩).1] = ns ∧ (belowS 18 ⟨l, 0⟩).2 = ⟨l.drop j, 0⟩) := ⟨by have h := hn; rw [List.drop_zero] at h; exact Prod.mk.inj h⟩
    clear hs hn N1
    go_upto_region 2 with (go_at_call 71; (with_reducible refine (rnums_c HS.out HC1.out hc HG.out (by decide)).mono ?_); rintro y w2 ⟨A3, n3, c3, rfl, hC3, hc3, hq⟩; have HC3 := Aside0.mk hC3; have HB2 := Aside0.mk (below_then HB1.out HB1.out.size hq); have HP2 := Aside0.mk (blk_below HP1.out hq); clear hq hC3)
    obtain ⟨kd, hkd⟩ : ∃ x, (belowS 18 ⟨l, 0⟩).1 = x := ⟨_, rfl⟩
    have HB18 : Aside0 (belowS 18 ⟨l, 0⟩ = (kd, ⟨l.drop j, 0⟩)) := ⟨Prod.ext hkd HN.out.2⟩
    have hns : ns = [kd] := by rw [← HN.out.1, hkd]
    subst hns
    clear hkd HN HS HG HP HB0 HC HP1 HB1
    obtain rfl : 1 = n3 := HC3.out.1
    obtain ⟨b3, o3, rfl, hcell⟩ := C_block HC3.out (by simp)
    have k0 : w2.cell? ⟨b3, o3, none⟩ = some (.int .i64 kd) := hcell 0 (by simp)
    clear hcell
    by_cases hk : kd = 0
    · subst hk
      have HZ : Aside0 ((gep (gfr (g0 ⟨l, 0⟩))).2.e = 11) := ⟨head_zero HB18.out⟩
      go_wp2_with (refine wpList_store_row rfl 34 (.tmp 2) (.tmp 26) rfl w.heap.size zMs rfl rfl 34 zMs HP2.out (by kernel_rfl) rfl (by simp [Value.oneCell']) ?_)
      refine bodyPost_ret (results_ctt rfl _ _ w.heap.size 34 _ (0, 0) _ rfl (setRow_heap _ _ _ _ _ _ HP2.out) Tryd.underlying34 rfl (by kernel_rfl)) rfl ?_
      exact head_none (by decide) HZ.out (below_setRow HB2.out (Nat.le_refl _) _)
    · have tk : (kd == 0) = false := beq_eq_false_iff_ne.2 hk
      have HK := Aside0.mk hk
      have N4 := Aside0.mk (nums_ev HBy.out hl [1048575, 1048575, 1099511627775, 1099511627775] (by simp) j hj)
      have HG4 : Aside0 (Kd.C (Kd.int .i64) (w2.alloc (.cells #[.int .i64 1048575, .int .i64 1048575, .int .i64 1099511627775, .int .i64 1099511627775] 3)) (some ⟨w2.heap.size, 0, none⟩) 4 [1048575, 1048575, 1099511627775, 1099511627775]) := ⟨C_blki (k := .i64) [1048575, 1048575, 1099511627775, 1099511627775] (blk_new w2 (.cells #[.int .i64 1048575, .int .i64 1048575, .int .i64 1099511627775, .int .i64 1099511627775] 3)) (by decide) rfl⟩
      have HA4 := Aside0.mk (below_alloc (Below.refl w2.heap.size w2) (.cells #[.int .i64 1048575, .int .i64 1048575, .int .i64 1099511627775, .int .i64 1099511627775] 3))
      have HC4 : Aside0 (Kd.C (Kd.int .u8) (w2.alloc (.cells #[.int .i64 1048575, .int .i64 1048575, .int .i64 1099511627775, .int .i64 1099511627775] 3)) A l.length l) := ⟨Kd.C_below (Kd.C_below HCw.out HB2.out) HA4.out⟩
      have HB4 := Aside0.mk (below_then HB2.out HB2.out.size HA4.out)
      have HP4 := Aside0.mk (blk_below HP2.out HA4.out)
      clear hk
      rcases N4.out with ⟨ns, j2, hj2, hn, hs⟩ | ⟨t, e, he, hn, hs⟩
      · obtain ⟨a, b, cc, dd, rfl, hx⟩ := head_four HB18.out HK.out hn
        have HX := Aside0.mk hx
        have HS := Aside0.mk hs
        have HC3' := Aside0.mk (Kd.C_below HC3.out HA4.out)
        clear hs hn N4 hx
        go_upto_region 7 with (go_at_call 71; (with_reducible refine (rnums_c HS.out HC4.out hc HG4.out (by decide)).mono ?_); rintro y w5 ⟨A5, n5, c5, rfl, hC5, hc5, hq⟩; have HC5 := Aside0.mk hC5; have HC6 := Aside0.mk (Kd.C_below HC3'.out hq); have HB5 := Aside0.mk (below_then HB4.out HB4.out.size hq); have HP5 := Aside0.mk (blk_below HP4.out hq); clear hq hC5)
        clear k0
        obtain rfl : 4 = n5 := HC5.out.1
        obtain ⟨b5, o5, rfl, hcell⟩ := C_block HC5.out (by simp)
        have q0 : w5.cell? ⟨b5, o5, none⟩ = some (.int .i64 a) := hcell 0 (by simp)
        have q1 : w5.cell? ⟨b5, o5 + 1, none⟩ = some (.int .i64 b) := hcell 1 (by simp)
        have q2 : w5.cell? ⟨b5, o5 + 2, none⟩ = some (.int .i64 cc) := hcell 2 (by simp)
        have q3 : w5.cell? ⟨b5, o5 + 3, none⟩ = some (.int .i64 dd) := hcell 3 (by simp)
        clear hcell
        obtain ⟨b6, o6, e6, hcell⟩ := C_block HC6.out (by simp)
        injection e6 with e6
        injection e6 with e6 e7 _
        subst e6 e7
        have k0 : w5.cell? ⟨b3, o3, none⟩ = some (.int .i64 kd) := hcell 0 (by simp)
        clear hcell
        obtain ⟨z0, z1, z2, z3, z4, z5, z6, z7, z8, z9, z10, z11, z12, z13, z14, z15, z16⟩ := ms_cells (m := zM) (p := nP) HP5.out
        have y0 := blk_frozen HP5.out 0
        have y1 := blk_frozen HP5.out 1
        have y2 := blk_frozen HP5.out 2
        have y3 := blk_frozen HP5.out 3
        have y4 := blk_frozen HP5.out 4
        have y5 := blk_frozen HP5.out 5
        have y6 := blk_frozen HP5.out 6
        have y7 := blk_frozen HP5.out 7
        have y8 := blk_frozen HP5.out 8
        have y9 := blk_frozen HP5.out 9
        have y10 := blk_frozen HP5.out 10
        have y11 := blk_frozen HP5.out 11
        have y12 := blk_frozen HP5.out 12
        have y13 := blk_frozen HP5.out 13
        have y14 := blk_frozen HP5.out 14
        have y15 := blk_frozen HP5.out 15
        have y16 := blk_frozen HP5.out 16
        go_upto_region 9 with fail
        go_region
        have p0 : Cb w5 w5 w.heap.size zM (.slice none 0 0) (.slice none 0 0) (.slice none 0 0) := ⟨HP5.out, Kg.refl _ _ _, blk_lt HP5.out⟩
        have p1 := p0.put (m' := { zM with kind := kd }) (vE' := .slice none 0 0) (vL' := .slice none 0 0) (vR' := .slice none 0 0) 0 (.int .i64 kd) rfl
        have p2 := p1.put (m' := { zM with kind := kd, fr := a }) (vE' := .slice none 0 0) (vL' := .slice none 0 0) (vR' := .slice none 0 0) 1 (.int .i64 a) rfl
        have p3 := p2.put (m' := { zM with kind := kd, fr := a, dst := b }) (vE' := .slice none 0 0) (vL' := .slice none 0 0) (vR' := .slice none 0 0) 2 (.int .i64 b) rfl
        have p4 := p3.put (m' := { zM with kind := kd, fr := a, dst := b, ep := cc }) (vE' := .slice none 0 0) (vL' := .slice none 0 0) (vR' := .slice none 0 0) 3 (.int .i64 cc) rfl
        have p5 := p4.put (m' := { zM with kind := kd, fr := a, dst := b, ep := cc, op := dd }) (vE' := .slice none 0 0) (vL' := .slice none 0 0) (vR' := .slice none 0 0) 4 (.int .i64 dd) rfl
        have p6 := p5.put (m' := { zM with kind := kd, fr := a, dst := b, ep := cc, op := dd }) (vE' := .slice none 0 0) (vL' := .slice none 0 0) (vR' := .slice none 0 0) 5 (.int .i64 0) rfl
        have p7 := p6.put (m' := { zM with kind := kd, fr := a, dst := b, ep := cc, op := dd }) (vE' := .slice none 0 0) (vL' := .slice none 0 0) (vR' := .slice none 0 0) 6 (.bool false) rfl
        have p8 := p7.put (m' := { zM with kind := kd, fr := a, dst := b, ep := cc, op := dd }) (vE' := .slice none 0 0) (vL' := .slice none 0 0) (vR' := .slice none 0 0) 7 (.string ⟨#[]⟩) rfl
        have p9 := p8.put (m' := { zM with kind := kd, fr := a, dst := b, ep := cc, op := dd }) (vE' := .slice none 0 0) (vL' := .slice none 0 0) (vR' := .slice none 0 0) 8 (.int .i64 0) rfl
        have p10 := p9.put (m' := { zM with kind := kd, fr := a, dst := b, ep := cc, op := dd }) (vE' := .slice none 0 0) (vL' := .slice none 0 0) (vR' := .slice none 0 0) 9 (.int .i64 0) rfl
        have p11 := p10.put (m' := { zM with kind := kd, fr := a, dst := b, ep := cc, op := dd }) (vE' := .slice none 0 0) (vL' := .slice none 0 0) (vR' := .slice none 0 0) 10 (.int .i64 0) rfl
        have p12 := p11.put (m' := { zM with kind := kd, fr := a, dst := b, ep := cc, op := dd }) (vE' := .slice none 0 0) (vL' := .slice none 0 0) (vR' := .slice none 0 0) 11 (.bool false) rfl
        have p13 := p12.put (m' := { zM with kind := kd, fr := a, dst := b, ep := cc, op := dd }) (vE' := .slice none 0 0) (vL' := .slice none 0 0) (vR' := .slice none 0 0) 12 (.slice none 0 0) rfl
        have p14 := p13.put (m' := { zM with kind := kd, fr := a, dst := b, ep := cc, op := dd }) (vE' := .slice none 0 0) (vL' := .slice none 0 0) (vR' := .slice none 0 0) 13 (.slice none 0 0) rfl
        have p15 := p14.put (m' := { zM with kind := kd, fr := a, dst := b, ep := cc, op := dd }) (vE' := .slice none 0 0) (vL' := .slice none 0 0) (vR' := .slice none 0 0) 14 (.slice none 0 0) rfl
        have p16 := p15.put (m' := { zM with kind := kd, fr := a, dst := b, ep := cc, op := dd }) (vE' := .slice none 0 0) (vL' := .slice none 0 0) (vR' := .slice none 0 0) 15 (.int .i64 0) rfl
        have p17 := p16.put (m' := { zM with kind := kd, fr := a, dst := b, ep := cc, op := dd }) (vE' := .slice none 0 0) (vL' := .slice none 0 0) (vR' := .slice none 0 0) 16 (.int .i64 0) rfl
        have HPf := Aside0.mk (blk_drew p17.blk)
        have HBf := Aside0.mk (below_drew (p17.out0 HB5.out (Nat.le_refl _)))
        clear p0 p1 p2 p3 p4 p5 p6 p7 p8 p9 p10 p11 p12 p13 p14 p15 p16 p17
        clear q0 q1 q2 q3 k0 z0 z1 z2 z3 z4 z5 z6 z7 z8 z9 z10 z11 z12 z13 z14 z15 z16 y0 y1 y2 y3 y4 y5 y6 y7 y8 y9 y10 y11 y12 y13 y14 y15 y16
        generalize ((((((((((((((((((w5.setCell ⟨w.heap.size, 0, none⟩ (.int .i64 kd)).setCell ⟨w.heap.size, 1, none⟩ (.int .i64 a)).setCell ⟨w.heap.size, 2, none⟩ (.int .i64 b)).setCell ⟨w.heap.size, 3, none⟩ (.int .i64 cc)).setCell ⟨w.heap.size, 4, none⟩ (.int .i64 dd)).setCell ⟨w.heap.size, 5, none⟩ (.int .i64 0)).setCell ⟨w.heap.size, 6, none⟩ (.bool false)).setCell ⟨w.heap.size, 7, none⟩ (.string ⟨#[]⟩)).setCell ⟨w.heap.size, 8, none⟩ (.int .i64 0)).setCell ⟨w.heap.size, 9, none⟩ (.int .i64 0)).setCell ⟨w.heap.size, 10, none⟩ (.int .i64 0)).setCell ⟨w.heap.size, 11, none⟩ (.bool false)).setCell ⟨w.heap.size, 12, none⟩ (.slice none 0 0)).setCell ⟨w.heap.size, 13, none⟩ (.slice none 0 0)).setCell ⟨w.heap.size, 14, none⟩ (.slice none 0 0)).setCell ⟨w.heap.size, 15, none⟩ (.int .i64 0)).setCell ⟨w.heap.size, 16, none⟩ (.int .i64 0))).drew = wf at *
        go_wp2_with fail
        refine bodyPost_ret (results_ctt rfl _ _ w.heap.size 34 _ (0, 0) _ rfl HPf.out Tryd.underlying34 rfl (by kernel_rfl)) rfl ?_
        exact ⟨{ zM with kind := kd, fr := a, dst := b, ep := cc, op := dd }, (j2 : Int), 0, rfl, ⟨.inl ⟨j2, rfl, rfl, hj2, by rw [head_on HB18.out HK.out], ⟨rfl, rfl⟩, HX.out⟩⟩, rfl, rfl, rfl, HBf.out⟩
      · have HS := Aside0.mk hs
        have HZ : Aside0 ((gep (gfr (g0 ⟨l, 0⟩))).2.e = e) := ⟨by rw [head_on HB18.out HK.out]; rw [nums4] at hn; exact hn⟩
        have HE := Aside0.mk he
        have he2 : (e != 0) = true := bne_iff_ne.2 he
        clear hs hn N4 he
        go_wp2_with (first
          | (go_at_call 71; (with_reducible refine (rnums_c HS.out HC4.out hc HG4.out (by decide)).mono ?_); rintro y w5 ⟨A5, n5, c5, rfl, hC5, hc5, hq⟩; have HB5 := Aside0.mk (below_then HB4.out HB4.out.size hq); have HP5 := Aside0.mk (blk_below HP4.out hq); clear hq hC5)
          | (refine wpList_store_row rfl 34 (.tmp 2) (.tmp 37) rfl w.heap.size zMs rfl rfl 34 zMs HP5.out (by kernel_rfl) rfl (by simp [Value.oneCell']) ?_))
        refine bodyPost_ret (results_ctt rfl _ _ w.heap.size 34 _ (0, 0) _ rfl (setRow_heap _ _ _ _ _ _ HP5.out) Tryd.underlying34 rfl (by kernel_rfl)) rfl ?_
        exact head_none HE.out HZ.out (below_setRow HB5.out (Nat.le_refl _) _)
  · have HS : Aside0 (Since (fun k => QD.icehouseref12_numbers.f k l 0 [17]) ([], t, e)) := ⟨hs⟩
    have HN : Aside0 ((gep (gfr (g0 ⟨l, 0⟩))).2.e = e) := ⟨head_bad1 (by have h := hn; rw [List.drop_zero] at h; exact h) he⟩
    have HE := Aside0.mk he
    have he2 : (e != 0) = true := bne_iff_ne.2 he
    clear hs hn N1 he
    go_wp2_with (first
      | (go_at_call 71; (with_reducible refine (rnums_c HS.out HC1.out hc HG.out (by decide)).mono ?_); rintro y w2 ⟨A3, n3, c3, rfl, hC3, hc3, hq⟩; have HB2 := Aside0.mk (below_then HB1.out HB1.out.size hq); have HP2 := Aside0.mk (blk_below HP1.out hq); clear hq hC3)
      | (refine wpList_store_row rfl 34 (.tmp 2) (.tmp 20) rfl w.heap.size zMs rfl rfl 34 zMs HP2.out (by kernel_rfl) rfl (by simp [Value.oneCell']) ?_))
    refine bodyPost_ret (results_ctt rfl _ _ w.heap.size 34 _ (0, 0) _ rfl (setRow_heap _ _ _ _ _ _ HP2.out) Tryd.underlying34 rfl (by kernel_rfl)) rfl ?_
    exact head_none HE.out HN.out (below_setRow HB2.out (Nat.le_refl _) _)
end Go.Proofs.YthaoiamgkpkcbaaDoor.Ms
namespace Go.Proofs.YthaoiamgkpkcbaaDoor.QS
open Go.Proofs.YthaoiamgkpkcbaaDoor.QL
open Go.RowKit Go.Proofs.YthaoiamgkpkcbaaDoorW.PrintWords Go.Proofs.YthaoiamgkpkcbaaDoorW.PrintLast Go.Proofs.YthaoiamgkpkcbaaDoorW.PrintMore
attribute [local go_sem] max2_int min2_int max_two min_two max_three min_three max_four min_four   -- for this text's walks alone
set_option linter.unusedVariables false
set_option linter.unusedSimpArgs false



-- the values' own types
/-! #### struct type 23 -/
/-! #### struct type 26 -/
/-! #### struct type 28 -/
end Go.Proofs.YthaoiamgkpkcbaaDoor.QS
namespace Go.Proofs.YthaoiamgkpkcbaaDoor.QS
open Go.Proofs.YthaoiamgkpkcbaaDoor.QL
open Go.RowKit Go.Proofs.YthaoiamgkpkcbaaDoorW.PrintWords Go.Proofs.YthaoiamgkpkcbaaDoorW.PrintLast Go.Proofs.YthaoiamgkpkcbaaDoorW.PrintMore
attribute [local go_sem] max2_int min2_int max_two min_two max_three min_three max_four min_four   -- for this text's walks alone
set_option linter.unusedVariables false
set_option linter.unusedSimpArgs false
theorem eqA23 (d : Nat) (w : World) (x0 y0 : Int) (x1 y1 : Int) (x2 y2 : Int) :
    (Op.equalIn (d + 2) 23 (.agg #[.int .i64 x0, .int .i64 x1, .int .i64 x2]) (.agg #[.int .i64 y0, .int .i64 y1, .int .i64 y2])).run Tryd.prog w = .ok (x0 == y0 && (x1 == y1 && (x2 == y2))) w := by
  refine eqA_of Tryd.underlying23 (by kernel_rfl) ?_
  refine eqf_cons (by rfl) (by go_simp; rfl) (by go_simp; rfl) (by go_simp) ?_
  refine eqf_cons (by rfl) (by go_simp; rfl) (by go_simp; rfl) (by go_simp) ?_
  exact eqf_last (by rfl) (by go_simp; rfl) (by go_simp; rfl) (by go_simp)
end Go.Proofs.YthaoiamgkpkcbaaDoor.QS
