/- The walk of the law MsgsTwice, for every message and every two kinds. Conditions: the table lies in its variable. -/
import Derived.Test.YthaoiamgkpkcbaaDoorZMsgsTwice30
namespace Go.Proofs.YthaoiamgkpkcbaaDoor.Ms
open Go.ChangeShapes Go.WideShapes Go.ChangeAt Go.RowKit Go.Proofs.YthaoiamgkpkcbaaDoor.Pk Go.Proofs.YthaoiamgkpkcbaaDoor.Tg Go.Proofs.YthaoiamgkpkcbaaDoor.Enc Go.Proofs.YthaoiamgkpkcbaaDoor.EncC Go.Proofs.YthaoiamgkpkcbaaDoor.EncP
open Go.Proofs.YthaoiamgkpkcbaaDoor.Hlp Go.Proofs.YthaoiamgkpkcbaaDoor.Wrd Go.Proofs.YthaoiamgkpkcbaaDoor.Lex Go.Proofs.YthaoiamgkpkcbaaDoorW.PrintWords Go.Proofs.YthaoiamgkpkcbaaDoorW.PrintLast Go.Proofs.YthaoiamgkpkcbaaDoorW.PrintMore
set_option linter.unusedVariables false
set_option linter.unusedSimpArgs false
theorem twice_key (ha hb : Bool) (k : ByteArray) : (backE hb (backE ha k).f0).f0 = if ha = true then (if hb = true then k else ⟨#[]⟩) else ⟨#[]⟩ := by
  cases ha <;> cases hb <;> rfl
theorem str_self (k : ByteArray) : (k.toList == k.toList) = true := beq_self_eq_true _
set_option maxHeartbeats 8000000 in
set_option maxRecDepth 100000 in
theorem twice_law {w : World} {m : Ms} {p : Pl} (a b : Int) (hK : Kin w) (hm : Lies w m p) (hl : m.L.length < 9223372036854775807) :
    Calls Tryd.prog 8 #[.agg (m.val p), .int .i64 a, .int .i64 b] w fun e w' => e = .returned (.bool true) ∧ Below w.heap.size w w' := by
  have HB0 := Aside0.mk (below_alloc (Below.refl w.heap.size w) (.cells (m.val p) 34))
  have BM := Aside0.mk (blk_new w (.cells (m.val p) 34))
  have HK := Aside0.mk hK
  have HM := Aside0.mk (hm.below HB0.out)
  clear hK hm
  go_enter Tryd.func8, Tryd.ntmps8
  go_upto_region 1 with fail
  generalize w.alloc (.cells (m.val p) 34) = W at *
  go_upto_if 11 with (first
    | (refine wpList_load_row rfl 34 (.tmp 3) rfl w.heap.size rfl 34 (m.val p) (0, 0) _ BM.out Tryd.underlying34 rfl (by kernel_rfl) ?_)
    | (go_at_call 10; (with_reducible refine (long_c HM.out hl).mono ?_); rintro x w1 ⟨⟨r, rfl⟩, hb⟩; have HB1 := Aside0.mk (HB0.out.trans (hb.mono HB0.out.size)); have BM1 := Aside0.mk ((hb.block _ (blk_lt BM.out)).trans BM.out); clear hb))
  cases r
  · obtain ⟨x, hx⟩ : ∃ x, backM m a = x := ⟨_, rfl⟩
    have HX := Aside0.mk hx
    clear hx
    go_upto_region 4 with (first
      | (refine wpList_load_row rfl 34 (.tmp 3) rfl w.heap.size rfl 34 (m.val p) (0, 0) _ BM1.out Tryd.underlying34 rfl (by kernel_rfl) ?_)
      | (go_at_call 22; (with_reducible refine (back_c a (HK.out.below HB1.out)).mono ?_); rw [HX.out]; rintro y w2 ⟨rfl, hb⟩; have HB2 := Aside0.mk (HB1.out.trans (hb.mono HB1.out.size)); have BM2 := Aside0.mk ((hb.block _ (blk_lt BM1.out)).trans BM1.out); clear hb)
      | (refine wpList_store_row rfl 34 (.tmp 7) (.tmp 15) rfl w2.heap.size (x.val nP) rfl rfl 34 zMs (blk_new w2 _) (by kernel_rfl) rfl (val_one x nP) ?_))
    have BX := Aside0.mk (setRow_heap (w2.alloc (.cells zMs 34)) w2.heap.size _ (x.val nP) _ _ (blk_new w2 _))
    have BM3 := Aside0.mk ((setRow_other (w2.alloc (.cells zMs 34)) w2.heap.size w.heap.size (x.val nP) (Nat.ne_of_lt (blk_lt BM2.out))).trans (blk_alloc BM2.out _))
    have HB3 := Aside0.mk (below_setRow (below_alloc HB2.out (.cells zMs 34)) HB2.out.size (x.val nP))
    obtain ⟨X, hX⟩ : ∃ X, w2.heap.size = X := ⟨_, rfl⟩
    rw [hX] at BX BM3 HB3 ⊢
    generalize (w2.alloc (.cells zMs 34)).setRow X (x.val nP) = w3 at *
    clear hX HB2 BM2 BM1 HB1 BM HM HB0
    obtain ⟨y, hy⟩ : ∃ y, backM x b = y := ⟨_, rfl⟩
    have HY := Aside0.mk hy
    clear hy
    go_upto_region 5 with (first
      | (refine wpList_load_row rfl 34 (.tmp 7) rfl X rfl 34 (x.val nP) (0, 0) _ BX.out Tryd.underlying34 rfl (by kernel_rfl) ?_)
      | (go_at_call 22; (with_reducible refine (back_c b (HK.out.below HB3.out)).mono ?_); rw [HY.out]; rintro z w4 ⟨rfl, hb⟩; have HB4 := Aside0.mk (HB3.out.trans (hb.mono HB3.out.size)); have BM4 := Aside0.mk ((hb.block _ (blk_lt BM3.out)).trans BM3.out); have BX4 := Aside0.mk ((hb.block _ (blk_lt BX.out)).trans BX.out); clear hb)
      | (refine wpList_store_row rfl 34 (.tmp 8) (.tmp 18) rfl w4.heap.size (y.val nP) rfl rfl 34 zMs (blk_new w4 _) (by kernel_rfl) rfl (val_one y nP) ?_))
    have BY := Aside0.mk (setRow_heap (w4.alloc (.cells zMs 34)) w4.heap.size _ (y.val nP) _ _ (blk_new w4 _))
    have BM5 := Aside0.mk ((setRow_other (w4.alloc (.cells zMs 34)) w4.heap.size w.heap.size (y.val nP) (Nat.ne_of_lt (blk_lt BM4.out))).trans (blk_alloc BM4.out _))
    have BX5 := Aside0.mk ((setRow_other (w4.alloc (.cells zMs 34)) w4.heap.size X (y.val nP) (Nat.ne_of_lt (blk_lt BX4.out))).trans (blk_alloc BX4.out _))
    have HB5 := Aside0.mk (below_setRow (below_alloc HB4.out (.cells zMs 34)) HB4.out.size (y.val nP))
    obtain ⟨Y, hY⟩ : ∃ Y, w4.heap.size = Y := ⟨_, rfl⟩
    rw [hY] at BY BM5 BX5 HB5 ⊢
    generalize (w4.alloc (.cells zMs 34)).setRow Y (y.val nP) = w5 at *
    clear hY HB4 BM4 BX4 HB3 BM3 BX
    have hy : y = backM (backM m a) b := by rw [HX.out, HY.out]
    have hx := HX.out
    have m1 := (blk_cell BM5.out 1).trans (show _ = some (Value.int .i64 m.fr) from rfl)
    have m2 := (blk_cell BM5.out 2).trans (show _ = some (Value.int .i64 m.dst) from rfl)
    have m3 := (blk_cell BM5.out 3).trans (show _ = some (Value.int .i64 m.ep) from rfl)
    have m4 := (blk_cell BM5.out 4).trans (show _ = some (Value.int .i64 m.op) from rfl)
    have y0 := (blk_cell BY.out 0).trans (show _ = some (Value.int .i64 b) by rw [hy]; rfl)
    have y1 := (blk_cell BY.out 1).trans (show _ = some (Value.int .i64 m.fr) by rw [hy]; rfl)
    have y2 := (blk_cell BY.out 2).trans (show _ = some (Value.int .i64 m.dst) by rw [hy]; rfl)
    have y3 := (blk_cell BY.out 3).trans (show _ = some (Value.int .i64 m.ep) by rw [hy]; rfl)
    have y4 := (blk_cell BY.out 4).trans (show _ = some (Value.int .i64 m.op) by rw [hy]; rfl)
    have x0 := (blk_cell BX5.out 0).trans (show _ = some (Value.int .i64 a) by rw [← hx]; rfl)
    obtain ⟨ha, hha⟩ : ∃ r, (hasV a).e = r := ⟨_, rfl⟩
    obtain ⟨hb, hhb⟩ : ∃ r, (hasV b).e = r := ⟨_, rfl⟩
    have HHa := Aside0.mk hha
    have HHb := Aside0.mk hhb
    have HY7 : Aside0 (y.e.f0 = if ha = true then (if hb = true then m.e.f0 else ⟨#[]⟩) else ⟨#[]⟩) := ⟨by rw [hy, ← hha, ← hhb]; exact twice_key _ _ _⟩
    have Hy := Aside0.mk hy
    have n1 : (m.fr != m.fr) = false := bne_self_eq_false' _
    clear hx hy hha hhb
    go_upto_region 7 with fail
    have sk := str_self m.e.f0
    cases ha
    · clear m1 m2 m3 m4 y0 y1 y2 y3 y4 x0
      go_wp2_with (first
        | (go_at_call 21; (with_reducible refine (rhas_e a HHa.out _).mono ?_); rintro z w6 ⟨rfl, hq⟩; have HB6 := Aside0.mk (HB5.out.trans (hq.mono HB5.out.size)); have BM6 := Aside0.mk ((hq.block _ (blk_lt BM5.out)).trans BM5.out); have BY6 := Aside0.mk ((hq.block _ (blk_lt BY.out)).trans BY.out); clear hq; have k7 := (blk_cell BM6.out 7).trans (show _ = some (Value.string m.e.f0) from rfl); have y7 := (blk_cell BY6.out 7).trans (show _ = some (Value.string ⟨#[]⟩) by rw [show (y.val nP)[7]? = some (Value.string y.e.f0) from rfl, HY7.out]; rfl); have y5 := (blk_cell BY6.out 5).trans (show _ = some (Value.int .i64 0) by rw [Hy.out]; rfl); have y6 := (blk_cell BY6.out 6).trans (show _ = some (Value.bool false) by rw [Hy.out]; rfl); have y13 := (blk_cell BY6.out 13).trans (show _ = some (Value.slice none 0 0) by rw [Hy.out]; rfl))
        | (go_at_call 11; (with_reducible refine (known_ _ (HK.out.below HB6.out)).mono ?_); rintro z w8 ⟨rfl, hq⟩; have HB8 := Aside0.mk (HB6.out.trans (hq.mono HB6.out.size)); clear hq))
      go_ret
      exact ⟨rfl, HB8.out⟩
    · clear m1 m2 m3 m4 y0 y1 y2 y3 y4 x0
      cases hb
      · go_wp2_with (first
          | (go_at_call 21; (with_reducible refine (rhas_e a HHa.out _).mono ?_); rintro z w6 ⟨rfl, hq⟩; have HB6 := Aside0.mk (HB5.out.trans (hq.mono HB5.out.size)); have BM6 := Aside0.mk ((hq.block _ (blk_lt BM5.out)).trans BM5.out); have BY6 := Aside0.mk ((hq.block _ (blk_lt BY.out)).trans BY.out); clear hq; skip)
          | (go_at_call 21; (with_reducible refine (rhas_e b HHb.out _).mono ?_); rintro z w7 ⟨rfl, hq⟩; have HB7 := Aside0.mk (HB6.out.trans (hq.mono HB6.out.size)); have BM7 := Aside0.mk ((hq.block _ (blk_lt BM6.out)).trans BM6.out); have BY7 := Aside0.mk ((hq.block _ (blk_lt BY6.out)).trans BY6.out); clear hq; have k7 := (blk_cell BM7.out 7).trans (show _ = some (Value.string m.e.f0) from rfl); have y7 := (blk_cell BY7.out 7).trans (show _ = some (Value.string ⟨#[]⟩) by rw [show (y.val nP)[7]? = some (Value.string y.e.f0) from rfl, HY7.out]; rfl); have y5 := (blk_cell BY7.out 5).trans (show _ = some (Value.int .i64 0) by rw [Hy.out]; rfl); have y6 := (blk_cell BY7.out 6).trans (show _ = some (Value.bool false) by rw [Hy.out]; rfl); have y13 := (blk_cell BY7.out 13).trans (show _ = some (Value.slice none 0 0) by rw [Hy.out]; rfl))
          | (go_at_call 11; (with_reducible refine (known_ _ (HK.out.below HB7.out)).mono ?_); rintro z w8 ⟨rfl, hq⟩; have HB8 := Aside0.mk (HB7.out.trans (hq.mono HB7.out.size)); clear hq))
        go_ret
        exact ⟨rfl, HB8.out⟩
      · go_wp2_with (first
          | (go_at_call 21; (with_reducible refine (rhas_e a HHa.out _).mono ?_); rintro z w6 ⟨rfl, hq⟩; have HB6 := Aside0.mk (HB5.out.trans (hq.mono HB5.out.size)); have BM6 := Aside0.mk ((hq.block _ (blk_lt BM5.out)).trans BM5.out); have BY6 := Aside0.mk ((hq.block _ (blk_lt BY.out)).trans BY.out); clear hq; skip)
          | (go_at_call 21; (with_reducible refine (rhas_e b HHb.out _).mono ?_); rintro z w7 ⟨rfl, hq⟩; have HB7 := Aside0.mk (HB6.out.trans (hq.mono HB6.out.size)); have BM7 := Aside0.mk ((hq.block _ (blk_lt BM6.out)).trans BM6.out); have BY7 := Aside0.mk ((hq.block _ (blk_lt BY6.out)).trans BY6.out); clear hq; have k7 := (blk_cell BM7.out 7).trans (show _ = some (Value.string m.e.f0) from rfl); have y7 := (blk_cell BY7.out 7).trans (show _ = some (Value.string m.e.f0) by rw [show (y.val nP)[7]? = some (Value.string y.e.f0) from rfl, HY7.out]; rfl); have y5 := (blk_cell BY7.out 5).trans (show _ = some (Value.int .i64 0) by rw [Hy.out]; rfl); have y6 := (blk_cell BY7.out 6).trans (show _ = some (Value.bool false) by rw [Hy.out]; rfl); have y13 := (blk_cell BY7.out 13).trans (show _ = some (Value.slice none 0 0) by rw [Hy.out]; rfl))
          | (go_at_call 11; (with_reducible refine (known_ _ (HK.out.below HB7.out)).mono ?_); rintro z w8 ⟨rfl, hq⟩; have HB8 := Aside0.mk (HB7.out.trans (hq.mono HB7.out.size)); clear hq))
        go_ret
        exact ⟨rfl, HB8.out⟩
  · go_wp2_with (go_at_call 11; (with_reducible refine (known_ _ (HK.out.below HB1.out)).mono ?_); rintro x w2 ⟨rfl, hb⟩; have HB2 := Aside0.mk (HB1.out.trans (hb.mono HB1.out.size)); clear hb)
    go_ret
    exact ⟨rfl, HB2.out⟩
open Go.Proofs.YthaoiamgkpkcbaaDoor.Opn in
theorem msgsTwice (w : World) (hK : Kin w) (cs : Array Value) (t : TM) (K : kMsg.K w t cs.toList) (wf : wMsg t) (a : Int) (wa : (Lit.int .i64 a).wf = true) (b : Int) (wb : (Lit.int .i64 b).wf = true) :
    Calls Tryd.prog 8 #[.agg cs, .int .i64 a, .int .i64 b] w fun e w' => e = .returned (.bool true) ∧ Below w.heap.size w w' := by
  obtain ⟨p, hc, hl⟩ := msg_cells K
  obtain rfl : cs = (toMs t).val p := Array.toList_inj.1 hc
  exact twice_law a b hK hl (by have := (wm_of wf).ll; omega)
end Go.Proofs.YthaoiamgkpkcbaaDoor.Ms
