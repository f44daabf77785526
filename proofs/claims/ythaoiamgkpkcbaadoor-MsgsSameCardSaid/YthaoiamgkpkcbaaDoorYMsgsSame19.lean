/- The walk of the law MsgsSame, for every two messages and every kind. Conditions: the table lies in its variable. · What the card's condition tells: the table of msgs lies in its variable; and the world in which the door lays it. Conditions: none. -/
import Derived.Test.YthaoiamgkpkcbaaDoorYMsgsSame17
import Derived.Test.YthaoiamgkpkcbaaDoorYMsgsSame18
import Derived.Deep.RegionHeld3
import Derived.Test.YthaoiamgkpkcbaaDoorRows
import Derived.Test.YthaoiamgkpkcbaaDoorYMsgsSame11
import Derived.ProofKit
import Derived.LaidMore
import Derived.OpenShut
import Derived.Stop.Joined

namespace Go.Proofs.YthaoiamgkpkcbaaDoor.Ms
open Go.ChangeShapes Go.WideShapes Go.ChangeAt Go.RowKit Go.Proofs.YthaoiamgkpkcbaaDoor.Pk Go.Proofs.YthaoiamgkpkcbaaDoor.Tg Go.Proofs.YthaoiamgkpkcbaaDoor.Enc Go.Proofs.YthaoiamgkpkcbaaDoor.EncC Go.Proofs.YthaoiamgkpkcbaaDoor.EncP
open Go.Proofs.YthaoiamgkpkcbaaDoor.Hlp Go.Proofs.YthaoiamgkpkcbaaDoor.Wrd Go.Proofs.YthaoiamgkpkcbaaDoor.Lex Go.Proofs.YthaoiamgkpkcbaaDoorW.PrintWords Go.Proofs.YthaoiamgkpkcbaaDoorW.PrintLast Go.Proofs.YthaoiamgkpkcbaaDoorW.PrintMore
set_option linter.unusedVariables false
set_option linter.unusedSimpArgs false
theorem yields_load {ops : Array Oper} {S : World → Prop} {op : Oper} {a : Act} {m : Ms} {p : Pl} (hw : Region.wanted op (yielded ops a.tmps) = true) (x : Operand) (ho : op.op = .load 34 x) (g : Nat) (hx : a.eval x = .pointer (some ⟨g, 0, none⟩)) (hS : ∀ W, S W → W.heap[g]? = some (.cells (m.val p) 34 (0, 0))) : YieldsIf Tryd.prog ops S op (.agg (m.val p)) a :=
  .inl ⟨hw, fun W hW => by
    unfold execOp
    simp only [ho, hx, Instr.loadAt, Instr.sureAddr, Sem.run_bind, Sem.run_pure, Result.andThen_ok, load_ms (hS W hW) (val_size m p)]⟩
theorem take_t {P : Program} {md : Region.Mode} {ops : Array Oper} {Q : Exit → Act → World → Prop} {S : World → Prop} {i : Nat} {oi : Oper} {v : Value} {t : Tmp} {fuel : Nat} {listed : Array Bool} {a : Act} {w : World} (hi : ops[i]? = some oi) (hd : oi.dst = some t)
    (hs : Region.noSelect ops = true) (hf : Region.free md ops listed i = true) (hr : (Region.ready md ops listed).contains i = true)
    (hQ : ∀ c a w, Q (.panic c) (a.put (some t) v) w → Q (.panic c) a w) (hy : YieldsIf P ops S oi v a) (hS : S w)
    (h : wpAnyH P md ops Q S fuel (listed.setIfInBounds i true) (a.put (some t) v) w) : wpAnyH P md ops Q S (fuel + 1) listed a w :=
  wpAnyH_take hi hs hf hr (by rw [hd]; exact hQ) hy hS (by rw [hd]; exact h)
set_option maxHeartbeats 16000000 in
set_option maxRecDepth 100000 in
theorem same_law {w : World} {a b : Ms} {p q : Pl} (k : Int) (hK : Kin w) (ha : Lies w a p) (hb : Lies w b q) (wa : Opn.Wm a) (wb : Opn.Wm b) :
    Calls Tryd.prog 9 #[.agg (a.val p), .agg (b.val q), .int .i64 k] w fun e w' => e = .returned (.bool true) ∧ Below w.heap.size w w' := by
  have HB0 := Aside0.mk (below_allocs (Below.refl w.heap.size w) (.cells (a.val p) 34) (.cells (b.val q) 34))
  obtain ⟨bA, bB⟩ := two_blks w (.cells (a.val p) 34) (.cells (b.val q) 34)
  have BA := Aside0.mk bA
  have BB := Aside0.mk bB
  have HK := Aside0.mk hK
  have HA := Aside0.mk ha
  have HB := Aside0.mk hb
  have WA := Aside0.mk wa
  have WB := Aside0.mk wb
  have hla : a.L.length < 9223372036854775807 := by have := wa.ll; omega
  have hlb : b.L.length < 9223372036854775807 := by have := wb.ll; omega
  have hRa : a.R.length < 9223372036854775807 := by have := wa.rl; omega
  have hVa : a.e.f2.f1.length < 9223372036854775807 := by have := wa.el; omega
  clear hK ha hb wa wb bA bB
  go_enter Tryd.func9, Tryd.ntmps9
  go_upto_region 1 with fail
  obtain ⟨Y, hY⟩ : ∃ Y, w.heap.size + 1 = Y := ⟨_, rfl⟩
  rw [hY] at BB ⊢
  clear hY
  generalize (w.alloc (.cells (a.val p) 34)).alloc (.cells (b.val q) 34) = W at *
  go_upto_if 22 with (first
    | (refine wpList_load_row rfl 34 (.tmp 3) rfl w.heap.size rfl 34 (a.val p) (0, 0) _ BA.out Tryd.underlying34 rfl (by kernel_rfl) ?_)
    | (go_at_call 10; (with_reducible refine (long_c (HA.out.below HB0.out) hla).mono ?_); rintro x w1 ⟨⟨r, rfl⟩, hb⟩; have HB1 := Aside0.mk (HB0.out.trans (hb.mono HB0.out.size)); have BA1 := Aside0.mk ((hb.block _ (blk_lt BA.out)).trans BA.out); have BB1 := Aside0.mk ((hb.block _ (blk_lt BB.out)).trans BB.out); obtain ⟨d0, d1, d2, d3, d4, d5, d6, d7, d8, d9, d10, d11, d12, d13, d14, d15, d16⟩ := ms_cells BB1.out; clear hb; cases r)
    | (go_at_call 10; (with_reducible refine (long_c (HB.out.below HB1.out) hlb).mono ?_); rintro x w2 ⟨⟨r2, rfl⟩, hb⟩; have HB2 := Aside0.mk (HB1.out.trans (hb.mono HB1.out.size)); have BA2 := Aside0.mk ((hb.block _ (blk_lt BA1.out)).trans BA1.out); have BB2 := Aside0.mk ((hb.block _ (blk_lt BB1.out)).trans BB1.out); clear hb d0 d1 d2 d3 d4 d5 d6 d7 d8 d9 d10 d11 d12 d13 d14 d15 d16; cases r2))
  · as_aux_lemma =>
    clear HB0 HB1 BA BA1 BB BB1
    obtain ⟨h, hh⟩ : ∃ b, hasV k = b := ⟨_, rfl⟩
    obtain ⟨bn, bf, be, bl, br⟩ := h
    have HH := Aside0.mk hh
    have HN : Aside0 ((hasV k).n = bn) := ⟨by rw [hh]⟩
    have HF : Aside0 ((hasV k).f = bf) := ⟨by rw [hh]⟩
    have HE : Aside0 ((hasV k).e = be) := ⟨by rw [hh]⟩
    have HL : Aside0 ((hasV k).l = bl) := ⟨by rw [hh]⟩
    have HR : Aside0 ((hasV k).r = br) := ⟨by rw [hh]⟩
    clear hh
    have n1 : (bn != bn) = false := by simp
    have n2 : (bf != bf) = false := by simp
    have n3 : (be != be) = false := by simp
    have n4 : (bl != bl) = false := by simp
    have n5 : (br != br) = false := by simp
    go_upto_region 4 with (go_at_call 23; (with_reducible refine (has_ _ _ (HK.out.below HB2.out)).mono ?_); rw [HH.out, show hasR ⟨bn, bf, be, bl, br⟩ = .tuple #[.bool bn, .bool bf, .bool be, .bool bl, .bool br] from rfl]; rintro x w3 ⟨rfl, hb⟩; have HB3 := Aside0.mk (below_then HB2.out HB2.out.size hb); have BA3 := Aside0.mk (blk_below BA2.out hb); have BB3 := Aside0.mk (blk_below BB2.out hb); clear hb)
    clear HB2 BA2 BB2
    go_upto_region 6 with (first
      | (go_at_call 21; (with_reducible refine (rhas_n k HN.out _).mono ?_); rintro x w4 ⟨rfl, hb⟩; replace HB3 := Aside0.mk (below_then HB3.out HB3.out.size hb); replace BA3 := Aside0.mk (blk_below BA3.out hb); replace BB3 := Aside0.mk (blk_below BB3.out hb); clear hb)
      | (go_at_call 21; (with_reducible refine (rhas_f k HF.out _).mono ?_); rintro x w4 ⟨rfl, hb⟩; replace HB3 := Aside0.mk (below_then HB3.out HB3.out.size hb); replace BA3 := Aside0.mk (blk_below BA3.out hb); replace BB3 := Aside0.mk (blk_below BB3.out hb); clear hb)
      | (go_at_call 21; (with_reducible refine (rhas_e k HE.out _).mono ?_); rintro x w4 ⟨rfl, hb⟩; replace HB3 := Aside0.mk (below_then HB3.out HB3.out.size hb); replace BA3 := Aside0.mk (blk_below BA3.out hb); replace BB3 := Aside0.mk (blk_below BB3.out hb); clear hb)
      | (go_at_call 21; (with_reducible refine (rhas_l k HL.out _).mono ?_); rintro x w4 ⟨rfl, hb⟩; replace HB3 := Aside0.mk (below_then HB3.out HB3.out.size hb); replace BA3 := Aside0.mk (blk_below BA3.out hb); replace BB3 := Aside0.mk (blk_below BB3.out hb); clear hb)
      | (go_at_call 21; (with_reducible refine (rhas_r k HR.out _).mono ?_); rintro x w4 ⟨rfl, hb⟩; replace HB3 := Aside0.mk (below_then HB3.out HB3.out.size hb); replace BA3 := Aside0.mk (blk_below BA3.out hb); replace BB3 := Aside0.mk (blk_below BB3.out hb); clear hb))
    clear n1 n2 n3 n4 n5
    obtain ⟨w5, hw5⟩ : ∃ w5, w5 = w4 := ⟨_, rfl⟩
    subst hw5
    go_upto_region 7 with (first
      | (refine wpList_load_row rfl 34 (.tmp 3) rfl w.heap.size rfl 34 (a.val p) (0, 0) _ BA3.out Tryd.underlying34 rfl (by kernel_rfl) ?_)
      | (go_at_call 24; (with_reducible refine (copyM_ (HA.out.below HB3.out) WA.out.el (fun x hx => (WA.out.l x hx).2) WA.out.ll WA.out.rl).mono ?_); rintro x w6 ⟨⟨cvA, cvc, clA, clc, crA, crc⟩, rfl, hO, hb⟩; have HO6 := Aside0.mk hO; have HB6 := Aside0.mk hb; clear hO hb))
    have HL0 : Aside0 (w.heap.size ≤ w5.heap.size) := ⟨HB3.out.size⟩
    have HL1 : Aside0 (w.heap.size < w5.heap.size) := ⟨blk_lt BA3.out⟩
    obtain ⟨lo, hlo⟩ : ∃ g, w5.heap.size = g := ⟨_, rfl⟩
    have HOc : Aside0 (Own w6 lo a ⟨cvA, cvc, clA, clc, crA, crc⟩) := ⟨by rw [← hlo]; exact HO6.out⟩
    have HL0 : Aside0 (w.heap.size ≤ lo) := ⟨by rw [← hlo]; exact HL0.out⟩
    have HL1 : Aside0 (w.heap.size < lo) := ⟨by rw [← hlo]; exact HL1.out⟩
    have HsL := Aside0.mk (spt_E HOc.out.l rfl)
    have HsR := Aside0.mk (spt_int HOc.out.r rfl)
    have HsV := Aside0.mk (spt_int HOc.out.v rfl)
    have BC7 := Aside0.mk (blk_new w6 (.cells (a.val ⟨cvA, cvc, clA, clc, crA, crc⟩) 34))
    have HBa := Aside0.mk (below_alloc HB6.out (.cells (a.val ⟨cvA, cvc, clA, clc, crA, crc⟩) 34))
    have HB7 := Aside0.mk (below_then HB3.out HB3.out.size HBa.out)
    have BA7 := Aside0.mk (blk_below BA3.out HBa.out)
    have BB7 := Aside0.mk (blk_below BB3.out HBa.out)
    have HAl := below_alloc (Below.refl w6.heap.size w6) (.cells (a.val ⟨cvA, cvc, clA, clc, crA, crc⟩) 34)
    have HOc7 := Aside0.mk (HOc.out.below HAl)
    have HsL7 := Aside0.mk (HsL.out.below HAl)
    have HsR7 := Aside0.mk (HsR.out.below HAl)
    have HsV7 := Aside0.mk (HsV.out.below HAl)
    have HCs : Aside0 ((w6.alloc (.cells (a.val ⟨cvA, cvc, clA, clc, crA, crc⟩) 34)).heap.size = w6.heap.size + 1) := ⟨size1 _ _⟩
    clear HAl HOc HsL HsR HsV HO6 HB6 HBa HB3 BA3 BB3 hlo
    obtain ⟨C, hC⟩ : ∃ g, w6.heap.size = g := ⟨_, rfl⟩
    rw [hC] at BC7 HsL7 HsR7 HsV7 HCs
    simp only [hC]
    generalize w6.alloc (.cells (a.val ⟨cvA, cvc, clA, clc, crA, crc⟩) 34) = w7 at *
    clear hC
    go_upto_region 8 with (first
      | (refine wpList_load_row rfl 34 (.tmp 3) rfl w.heap.size rfl 34 (a.val p) (0, 0) _ BA7.out Tryd.underlying34 rfl (by kernel_rfl) ?_)
      | (go_at_call 24; (with_reducible refine (copyM_ (HA.out.below HB7.out) WA.out.el (fun x hx => (WA.out.l x hx).2) WA.out.ll WA.out.rl).mono ?_); rintro x w8 ⟨qd, rfl, hO, hb⟩; have HO8 := Aside0.mk hO; have HB8 := Aside0.mk hb; clear hO hb))
    have HBa := Aside0.mk (below_alloc HB8.out (.cells (a.val qd) 34))
    have HOd : Aside0 (Own (w8.alloc (.cells (a.val qd) 34)) (C + 1) a qd) := ⟨by have h := HO8.out.below (below_alloc (Below.refl w8.heap.size w8) (.cells (a.val qd) 34)); rw [HCs.out] at h; exact h⟩
    have BD := Aside0.mk (blk_new w8 (.cells (a.val qd) 34))
    have HDs : Aside0 (C < w8.heap.size) := ⟨by have := HB8.out.size; have := HCs.out; omega⟩
    have BC := Aside0.mk (blk_below BC7.out HBa.out)
    have BA := Aside0.mk (blk_below BA7.out HBa.out)
    have BB := Aside0.mk (blk_below BB7.out HBa.out)
    have HOc := Aside0.mk (HOc7.out.below HBa.out)
    have HsL := Aside0.mk (HsL7.out.below HBa.out)
    have HsR := Aside0.mk (HsR7.out.below HBa.out)
    have HsV := Aside0.mk (HsV7.out.below HBa.out)
    have HBw := Aside0.mk (below_then HB7.out HB7.out.size HBa.out)
    clear HBa HO8 HB8 BC7 BA7 BB7 HOc7 HsL7 HsR7 HsV7 HB7
    obtain ⟨D, hD⟩ : ∃ g, w8.heap.size = g := ⟨_, rfl⟩
    rw [hD] at BD HDs
    simp only [hD]
    generalize w8.alloc (.cells (a.val qd) 34) = w9 at *
    clear hD
    obtain ⟨r, hr⟩ : ∃ r, sameM a b = r := ⟨_, rfl⟩
    have HRr := Aside0.mk hr
    clear hr
    have hrr : (r != r) = false := by simp
    have hbv : (backM a k).e.f2.f1.length < 9223372036854775807 := by show (0 : Nat) < _; omega
    have hbl : (backM a k).L.length < 9223372036854775807 := by show (0 : Nat) < _; omega
    have hbr : (backM a k).R.length < 9223372036854775807 := by show (0 : Nat) < _; omega
    have HBx : Aside0 (∀ x ∈ (backM a k).L, x.f2.f1.length < 9223372036854775807) := ⟨fun x hx => by cases hx⟩
    have HBn : Aside0 (∀ w', Lies w' (backM a k) nP) := ⟨fun w' => lies_nil _ _ rfl rfl rfl⟩
    have Hxa : Aside0 (∀ x ∈ a.L, x.f2.f1.length < 9223372036854775807) := ⟨fun x hx => by have := (WA.out.l x hx).2; omega⟩
    have LAb : Aside0 (∀ x ∈ a.L, Bytes x.f2.f1) := ⟨fun x hx => (WA.out.l x hx).1⟩
    have LBb : Aside0 (∀ x ∈ b.L, Bytes x.f2.f1) := ⟨fun x hx => (WB.out.l x hx).1⟩
    go_cut [86] (fun v wc => v = .bool false ∧ Aside0 (Below w9.heap.size w9 wc))
    case first =>
      as_aux_lemma =>
      have HBd : Aside0 (Below w9.heap.size w9 w9.drew) := ⟨below_drew (Below.refl _ _)⟩
-- @S8
      refine wp_region_held_drew (S := fun W => W.heap[w.heap.size]? = some (.cells (a.val p) 34 (0, 0)) ∧ W.heap[Y]? = some (.cells (b.val q) 34 (0, 0)) ∧ W.heap[C]? = some (.cells (a.val ⟨cvA, cvc, clA, clc, crA, crc⟩) 34 (0, 0))) (by kernel_rfl) ⟨blk_below BA.out HBd.out, blk_below BB.out HBd.out, blk_below BC.out HBd.out⟩ (fun hHeld => ?_)
      refine take_t (i := 0) (v := .agg (a.val ⟨cvA, cvc, clA, clc, crA, crc⟩)) rfl rfl (by kernel_rfl) (by kernel_rfl) (by kernel_rfl) (fun _ _ _ h => h) (yields_load (by rfl) (.tmp 12) rfl C rfl (fun W h => h.2.2)) (by assumption) ?_
      (try simp only [Act.put, List.setIfInBounds_toArray, List.set_cons_zero, List.set_cons_succ])
      refine take_t (i := 1) (v := .agg (a.val p)) rfl rfl (by kernel_rfl) (by kernel_rfl) (by kernel_rfl) (fun _ _ _ h => h) (yields_load (by rfl) (.tmp 3) rfl w.heap.size rfl (fun W h => h.1)) (by assumption) ?_
      (try simp only [Act.put, List.setIfInBounds_toArray, List.set_cons_zero, List.set_cons_succ])
      refine wpAnyH_ready (rs := [2]) (by kernel_rfl) (by simp) ?_
      refine AllReadyH.cons rfl (fun K hK => ?_) ?_
      · go_simp
        go_at_call 19; (with_reducible refine (rsame_c (sameM_self a) (HOc.out.lies.below HBd.out) (HA.out.below (below_then HBw.out HBw.out.size HBd.out)) hVa hla Hxa.out hRa).mono ?_); rintro z wn ⟨rfl, hb⟩; have HBd := Aside0.mk (below_then HBd.out HBd.out.size hb); clear hb
        (try go_wp2_with fail)
        refine hK.out _ _ ⟨blk_below BA.out HBd.out, blk_below BB.out HBd.out, blk_below BC.out HBd.out⟩ (fun hHeld => ?_)
        clear hK K
        (try simp only [Act.put, List.setIfInBounds_toArray, List.set_cons_zero, List.set_cons_succ])
        refine take_t (i := 3) (v := ?_) rfl rfl (by kernel_rfl) (by kernel_rfl) (by kernel_rfl) (fun _ _ _ h => h) (Or.inl ⟨by rfl, ?_⟩) (by assumption) ?_
        rotate_left 1
        · (intro w hSw; (try dsimp only at hSw); go_simp; (try with_reducible rfl))
        (try simp only [Act.put, List.setIfInBounds_toArray, List.set_cons_zero, List.set_cons_succ])
        refine take_t (i := 4) (v := ?_) rfl rfl (by kernel_rfl) (by kernel_rfl) (by kernel_rfl) (fun _ _ _ h => h) (Or.inl ⟨by rfl, ?_⟩) (by assumption) ?_
        rotate_left 1
        · (intro w hSw; (try dsimp only at hSw); go_simp; (try with_reducible rfl))
        (try simp only [Act.put, List.setIfInBounds_toArray, List.set_cons_zero, List.set_cons_succ])
        refine take_t (i := 5) (v := .agg (a.val p)) rfl rfl (by kernel_rfl) (by kernel_rfl) (by kernel_rfl) (fun _ _ _ h => h) (yields_load (by rfl) (.tmp 3) rfl w.heap.size rfl (fun W h => h.1)) (by assumption) ?_
        (try simp only [Act.put, List.setIfInBounds_toArray, List.set_cons_zero, List.set_cons_succ])
        refine take_t (i := 6) (v := .agg (b.val q)) rfl rfl (by kernel_rfl) (by kernel_rfl) (by kernel_rfl) (fun _ _ _ h => h) (yields_load (by rfl) (.tmp 4) rfl Y rfl (fun W h => h.2.1)) (by assumption) ?_
        (try simp only [Act.put, List.setIfInBounds_toArray, List.set_cons_zero, List.set_cons_succ])
        refine take_t (i := 8) (v := .agg (a.val p)) rfl rfl (by kernel_rfl) (by kernel_rfl) (by kernel_rfl) (fun _ _ _ h => h) (yields_load (by rfl) (.tmp 3) rfl w.heap.size rfl (fun W h => h.1)) (by assumption) ?_
        (try simp only [Act.put, List.setIfInBounds_toArray, List.set_cons_zero, List.set_cons_succ])
        refine take_t (i := 9) (v := .agg (b.val q)) rfl rfl (by kernel_rfl) (by kernel_rfl) (by kernel_rfl) (fun _ _ _ h => h) (yields_load (by rfl) (.tmp 4) rfl Y rfl (fun W h => h.2.1)) (by assumption) ?_
        (try simp only [Act.put, List.setIfInBounds_toArray, List.set_cons_zero, List.set_cons_succ])
        refine wpAnyH_ready (rs := [7]) (by kernel_rfl) (by simp) ?_
        refine AllReadyH.cons rfl (fun K hK => ?_) ?_
        · go_simp
          go_at_call 25; (with_reducible refine (msame_ (HA.out.below (below_then HBw.out HBw.out.size HBd.out)) (HB.out.below (below_then HBw.out HBw.out.size HBd.out)) WA.out.e WB.out.e LAb.out LBb.out hRa hla).mono ?_); rw [HRr.out]; rintro z wn ⟨rfl, hb⟩; have HBd := Aside0.mk (below_then HBd.out HBd.out.size hb); clear hb
          (try go_wp2_with fail)
          refine hK.out _ _ ⟨blk_below BA.out HBd.out, blk_below BB.out HBd.out, blk_below BC.out HBd.out⟩ (fun hHeld => ?_)
          clear hK K
          (try simp only [Act.put, List.setIfInBounds_toArray, List.set_cons_zero, List.set_cons_succ])
          refine wpAnyH_ready (rs := [10]) (by kernel_rfl) (by simp) ?_
          refine AllReadyH.cons rfl (fun K hK => ?_) ?_
          · go_simp
            go_at_call 19; (with_reducible refine (rsame_c HRr.out (HA.out.below (below_then HBw.out HBw.out.size HBd.out)) (HB.out.below (below_then HBw.out HBw.out.size HBd.out)) hVa hla Hxa.out hRa).mono ?_); rintro z wn ⟨rfl, hb⟩; have HBd := Aside0.mk (below_then HBd.out HBd.out.size hb); clear hb
            (try go_wp2_with fail)
            refine hK.out _ _ ⟨blk_below BA.out HBd.out, blk_below BB.out HBd.out, blk_below BC.out HBd.out⟩ (fun hHeld => ?_)
            clear hK K
            (try simp only [Act.put, List.setIfInBounds_toArray, List.set_cons_zero, List.set_cons_succ])
            refine take_t (i := 11) (v := ?_) rfl rfl (by kernel_rfl) (by kernel_rfl) (by kernel_rfl) (fun _ _ _ h => h) (Or.inl ⟨by rfl, ?_⟩) (by assumption) ?_
            rotate_left 1
            · (intro w hSw; (try dsimp only at hSw); go_simp; (try with_reducible rfl))
            (try simp only [Act.put, List.setIfInBounds_toArray, List.set_cons_zero, List.set_cons_succ])
            refine take_t (i := 12) (v := ?_) rfl rfl (by kernel_rfl) (by kernel_rfl) (by kernel_rfl) (fun _ _ _ h => h) (Or.inl ⟨by rfl, ?_⟩) (by assumption) ?_
            rotate_left 1
            · (intro w hSw; (try dsimp only at hSw); go_simp; (try with_reducible rfl))
            (try simp only [Act.put, List.setIfInBounds_toArray, List.set_cons_zero, List.set_cons_succ])
            refine take_t (i := 13) (v := ?_) rfl rfl (by kernel_rfl) (by kernel_rfl) (by kernel_rfl) (fun _ _ _ h => h) (Or.inl ⟨by rfl, ?_⟩) (by assumption) ?_
            rotate_left 1
            · (intro w hSw; (try dsimp only at hSw); go_simp; (try with_reducible rfl))
            (try simp only [Act.put, List.setIfInBounds_toArray, List.set_cons_zero, List.set_cons_succ])
            refine take_t (i := 14) (v := .agg (a.val p)) rfl rfl (by kernel_rfl) (by kernel_rfl) (by kernel_rfl) (fun _ _ _ h => h) (yields_load (by rfl) (.tmp 3) rfl w.heap.size rfl (fun W h => h.1)) (by assumption) ?_
            (try simp only [Act.put, List.setIfInBounds_toArray, List.set_cons_zero, List.set_cons_succ])
            refine take_t (i := 15) (v := ?_) rfl rfl (by kernel_rfl) (by kernel_rfl) (by kernel_rfl) (fun _ _ _ h => h) (Or.inl ⟨by rfl, ?_⟩) (by assumption) ?_
            rotate_left 1
            · (intro w hSw; (try dsimp only at hSw); go_simp; (try with_reducible rfl))
            (try simp only [Act.put, List.setIfInBounds_toArray, List.set_cons_zero, List.set_cons_succ])
            refine take_t (i := 17) (v := .agg (a.val p)) rfl rfl (by kernel_rfl) (by kernel_rfl) (by kernel_rfl) (fun _ _ _ h => h) (yields_load (by rfl) (.tmp 3) rfl w.heap.size rfl (fun W h => h.1)) (by assumption) ?_
            (try simp only [Act.put, List.setIfInBounds_toArray, List.set_cons_zero, List.set_cons_succ])
            refine take_t (i := 18) (v := ?_) rfl rfl (by kernel_rfl) (by kernel_rfl) (by kernel_rfl) (fun _ _ _ h => h) (Or.inl ⟨by rfl, ?_⟩) (by assumption) ?_
            rotate_left 1
            · (intro w hSw; (try dsimp only at hSw); go_simp; (try with_reducible rfl))
            (try simp only [Act.put, List.setIfInBounds_toArray, List.set_cons_zero, List.set_cons_succ])
            refine wpAnyH_ready (rs := [16]) (by kernel_rfl) (by simp) ?_
            refine AllReadyH.cons rfl (fun K hK => ?_) ?_
            · go_simp
              go_at_call 22; (with_reducible refine (back_c k (HK.out.below (below_then HBw.out HBw.out.size HBd.out))).mono ?_); rintro z wn ⟨rfl, hb⟩; have HBd := Aside0.mk (below_then HBd.out HBd.out.size hb); clear hb
              (try go_wp2_with fail)
              refine hK.out _ _ ⟨blk_below BA.out HBd.out, blk_below BB.out HBd.out, blk_below BC.out HBd.out⟩ (fun hHeld => ?_)
              clear hK K
              (try simp only [Act.put, List.setIfInBounds_toArray, List.set_cons_zero, List.set_cons_succ])
              refine wpAnyH_ready (rs := [19]) (by kernel_rfl) (by simp) ?_
              refine AllReadyH.cons rfl (fun K hK => ?_) ?_
              · go_simp
                go_at_call 26; (with_reducible refine (rback_c k).mono ?_); rintro z wn ⟨rfl, hb⟩; have HBd := Aside0.mk (below_then HBd.out HBd.out.size hb); clear hb
                (try go_wp2_with fail)
                refine hK.out _ _ ⟨blk_below BA.out HBd.out, blk_below BB.out HBd.out, blk_below BC.out HBd.out⟩ (fun hHeld => ?_)
                clear hK K
                (try simp only [Act.put, List.setIfInBounds_toArray, List.set_cons_zero, List.set_cons_succ])
                refine wpAnyH_ready (rs := [20]) (by kernel_rfl) (by simp) ?_
                refine AllReadyH.cons rfl (fun K hK => ?_) ?_
                · go_simp
                  go_at_call 19; (with_reducible refine (rsame_c (sameM_self (backM a k)) (HBn.out _) (HBn.out _) hbv hbl HBx.out hbr).mono ?_); rintro z wn ⟨rfl, hb⟩; have HBd := Aside0.mk (below_then HBd.out HBd.out.size hb); clear hb
                  (try go_wp2_with fail)
                  refine hK.out _ _ ⟨blk_below BA.out HBd.out, blk_below BB.out HBd.out, blk_below BC.out HBd.out⟩ (fun hHeld => ?_)
                  clear hK K
                  (try simp only [Act.put, List.setIfInBounds_toArray, List.set_cons_zero, List.set_cons_succ])
                  refine take_t (i := 21) (v := ?_) rfl rfl (by kernel_rfl) (by kernel_rfl) (by kernel_rfl) (fun _ _ _ h => h) (Or.inl ⟨by rfl, ?_⟩) (by assumption) ?_
                  rotate_left 1
                  · (intro w hSw; (try dsimp only at hSw); go_simp; (try with_reducible rfl))
                  (try simp only [Act.put, List.setIfInBounds_toArray, List.set_cons_zero, List.set_cons_succ])
                  refine take_t (i := 22) (v := ?_) rfl rfl (by kernel_rfl) (by kernel_rfl) (by kernel_rfl) (fun _ _ _ h => h) (Or.inl ⟨by rfl, ?_⟩) (by assumption) ?_
                  rotate_left 1
                  · (intro w hSw; (try dsimp only at hSw); go_simp; (try with_reducible rfl))
                  (try simp only [Act.put, List.setIfInBounds_toArray, List.set_cons_zero, List.set_cons_succ])
                  refine wpAnyH_done (by kernel_rfl) ?_ _
                  go_wp2_with fail
                  go_meet
                  exact ⟨by simp, HBd⟩
                exact AllReadyH.nil
              exact AllReadyH.nil
            exact AllReadyH.nil
          exact AllReadyH.nil
        exact AllReadyH.nil
      exact AllReadyH.nil
-- @E8
    case rest =>
      as_aux_lemma =>
      obtain ⟨rfl, HBd⟩ := hcut
      go_upto_region 10 with fail
      obtain ⟨wz, hwz⟩ : ∃ wz, wz = wc := ⟨_, rfl⟩
      subst hwz
      have HS0 : Aside0 (Spz w wz lo C a ⟨cvA, cvc, clA, clc, crA, crc⟩ wz) := ⟨⟨HL0.out, Spo.refl _ _ _, below_then HBw.out HBw.out.size HBd.out, HsL.out.below HBd.out, HsR.out.below HBd.out, HsV.out.below HBd.out⟩⟩
      have BAz := Aside0.mk (blk_below BA.out HBd.out)
      have BCz := Aside0.mk (blk_below BC.out HBd.out)
      have BDz := Aside0.mk (blk_below BD.out HBd.out)
      have HOz := Aside0.mk (HOd.out.below HBd.out)
      clear BA BB BC BD HOd HOc HsL HsR HsV HBw HBd hbv hbl hbr HBx HBn hrr HRr LBb
      go_wp2_with fail
      go_loopg [14] a.L.length (fun q v14 w' => ∃ i : Nat, i ≤ a.L.length ∧ v14 = .int .i64 i ∧ q = a.L.length - i ∧ Aside0 (Spz w wz lo C a ⟨cvA, cvc, clA, clc, crA, crc⟩ w'))
      case atStart => exact ⟨0, Nat.zero_le _, rfl, rfl, HS0⟩
      case round =>
        obtain ⟨i, hi, rfl, rfl, HS⟩ := hrel
        have BCr := Aside0.mk ((HS.out.spo.out C (Or.inr (Nat.le_refl _))).trans BCz.out)
        by_cases hlt : i < a.L.length
        · have t2 : decide (i < a.L.length) = true := decide_eq_true hlt
          obtain ⟨g, cs, hA, h1, h2, h3, h4⟩ := HS.out.sL.out (by omega)
          obtain ⟨v, hv, _⟩ := h4 i hlt
          have hA : clA = some ⟨g, 0, none⟩ := hA
          subst hA
          have c13 := (blk_cell BCr.out 13).trans (show _ = some (Value.slice (some ⟨g, 0, none⟩) a.L.length clc) from rfl)
          have k1 := (blk_cell h3 (i * 6)).trans hv
          have f1 := blk_frozen h3 (i * 6)
          have e3 : (⟨g, 0, none⟩ : Addr).add (i * 6) = ⟨g, i * 6, none⟩ := by simp [Addr.add]; intro h; omega
          have H3 := Aside0.mk h3
          clear h4 hv h3
          go_wp2_with fail
          go_roundg (a.L.length - (i + 1))
          case measure => omega
          case rel => exact ⟨i + 1, by omega, by go_num, rfl, ⟨HS.out.storeL rfl h1 h2 H3.out _ _⟩⟩
        · have t2 : decide (i < a.L.length) = false := decide_eq_false hlt
          have c13 := (blk_cell BCr.out 13).trans (show _ = some (Value.slice clA a.L.length clc) from rfl)
          go_wp2_with fail
          clear c13 BCr t2
          obtain ⟨v1, hv1⟩ : ∃ v1, v1 = wr := ⟨_, rfl⟩
          subst hv1
          go_loopg [15] a.R.length (fun q v15 w' => ∃ i : Nat, i ≤ a.R.length ∧ v15 = .int .i64 i ∧ q = a.R.length - i ∧ Aside0 (Spz w wz lo C a ⟨cvA, cvc, clA, clc, crA, crc⟩ w'))
          case atStart => exact ⟨0, Nat.zero_le _, rfl, rfl, HS⟩
          case round =>
            clear HS
            obtain ⟨i, hi, rfl, rfl, HS⟩ := hrel
            have BCr := Aside0.mk ((HS.out.spo.out C (Or.inr (Nat.le_refl _))).trans BCz.out)
            by_cases hlt : i < a.R.length
            · have t2 : decide (i < a.R.length) = true := decide_eq_true hlt
              obtain ⟨g, cs, hA, h1, h2, h3, h4⟩ := HS.out.sR.out (by omega)
              obtain ⟨v, hv, _⟩ := h4 i hlt
              rw [Nat.mul_one] at hv
              have hA : crA = some ⟨g, 0, none⟩ := hA
              subst hA
              have c14 := (blk_cell BCr.out 14).trans (show _ = some (Value.slice (some ⟨g, 0, none⟩) a.R.length crc) from rfl)
              have k1 := (blk_cell h3 i).trans hv
              have f1 := blk_frozen h3 i
              have H3 := Aside0.mk h3
              clear h4 hv h3
              go_wp2_with fail
              go_roundg (a.R.length - (i + 1))
              case measure => omega
              case rel => exact ⟨i + 1, by omega, by go_num, rfl, ⟨HS.out.storeR rfl h1 h2 H3.out _ _⟩⟩
            · have t2 : decide (i < a.R.length) = false := decide_eq_false hlt
              have c14 := (blk_cell BCr.out 14).trans (show _ = some (Value.slice crA a.R.length crc) from rfl)
              go_wp2_with fail
              clear c14 BCr t2
              obtain ⟨v2, hv2⟩ : ∃ v2, v2 = wr := ⟨_, rfl⟩
              subst hv2
              go_loopg [16] a.e.f2.f1.length (fun q v16 w' => ∃ i : Nat, i ≤ a.e.f2.f1.length ∧ v16 = .int .i64 i ∧ q = a.e.f2.f1.length - i ∧ Aside0 (Spz w wz lo C a ⟨cvA, cvc, clA, clc, crA, crc⟩ w'))
              case atStart => exact ⟨0, Nat.zero_le _, rfl, rfl, HS⟩
              case round =>
                clear HS
                obtain ⟨i, hi, rfl, rfl, HS⟩ := hrel
                have BCr := Aside0.mk ((HS.out.spo.out C (Or.inr (Nat.le_refl _))).trans BCz.out)
                by_cases hlt : i < a.e.f2.f1.length
                · have t2 : decide (i < a.e.f2.f1.length) = true := decide_eq_true hlt
                  have t1 : decide ((i : Int) < (a.e.f2.f1.length : Int)) = true := decide_eq_true (by omega)
                  have j0 : (0 : Int) ≤ (i : Int) := by omega
                  have j1 : (i : Int) < (a.e.f2.f1.length : Int) := by omega
                  obtain ⟨g, cs, hA, h1, h2, h3, h4⟩ := HS.out.sV.out (by omega)
                  obtain ⟨v, hv, x, rfl⟩ := h4 i hlt
                  rw [Nat.mul_one] at hv
                  have hA : cvA = some ⟨g, 0, none⟩ := hA
                  subst hA
                  have c12 := (blk_cell BCr.out 12).trans (show _ = some (Value.slice (some ⟨g, 0, none⟩) a.e.f2.f1.length cvc) from rfl)
                  have k1 := (blk_cell h3 i).trans hv
                  have f1 := blk_frozen h3 i
                  have H3 := Aside0.mk h3
                  clear h4 hv h3
                  go_wp2_with fail
                  go_region
                  go_wp2_with fail
                  go_roundg (a.e.f2.f1.length - (i + 1))
                  case measure => omega
                  case rel => exact ⟨i + 1, by omega, by go_num, rfl, ⟨(HS.out.storeV rfl h1 h2 H3.out _ _).drew⟩⟩
                · have t2 : decide (i < a.e.f2.f1.length) = false := decide_eq_false hlt
                  have c12 := (blk_cell BCr.out 12).trans (show _ = some (Value.slice cvA a.e.f2.f1.length cvc) from rfl)
                  go_upto_region 22 with fail
                  clear c12 BCr t2
                  have HBr := Aside0.mk HS.out.bel
                  have BAr := Aside0.mk ((HS.out.spo.out w.heap.size (Or.inl HL1.out)).trans BAz.out)
                  have BDr := Aside0.mk ((HS.out.spo.out D (Or.inr (Nat.le_of_lt HDs.out))).trans BDz.out)
                  have HOr := Aside0.mk (HOz.out.far (fun k' hk _ => HS.out.spo.out k' (Or.inr (by omega))))
                  go_wp2_with (first
                    | (refine wpList_load_row rfl 34 (.tmp 3) rfl w.heap.size rfl 34 (a.val p) (0, 0) _ BAr.out Tryd.underlying34 rfl (by kernel_rfl) ?_)
                    | (refine wpList_load_row rfl 34 (.tmp 13) rfl D rfl 34 (a.val qd) (0, 0) _ BDr.out Tryd.underlying34 rfl (by kernel_rfl) ?_)
                    | (go_at_call 19; (with_reducible refine (rsame_c (sameM_self a) (HA.out.below HBr.out) HOr.out.lies hVa hla Hxa.out hRa).mono ?_); rintro z y1 ⟨rfl, hb⟩; have HBs := Aside0.mk (below_then HBr.out HBr.out.size hb); clear hb)
                    | (go_at_call 11; (with_reducible refine (known_ _ (HK.out.below HBs.out)).mono ?_); rintro z y2 ⟨rfl, hb⟩; have HBt := Aside0.mk (below_then HBs.out HBs.out.size hb); clear hb))
                  go_ret
                  exact ⟨rfl, HBt.out⟩
  · go_wp2_with (go_at_call 11; (with_reducible refine (known_ _ (HK.out.below HB2.out)).mono ?_); rintro z w9 ⟨rfl, hq⟩; have HB9 := Aside0.mk (HB2.out.trans (hq.mono HB2.out.size)); clear hq)
    go_ret
    exact ⟨rfl, HB9.out⟩
  · go_wp2_with (go_at_call 11; (with_reducible refine (known_ _ (HK.out.below HB1.out)).mono ?_); rintro z w9 ⟨rfl, hq⟩; have HB9 := Aside0.mk (HB1.out.trans (hq.mono HB1.out.size)); clear hq)
    go_ret
    exact ⟨rfl, HB9.out⟩
open Go.Proofs.YthaoiamgkpkcbaaDoor.Opn in
theorem msgsSame (w : World) (hK : Kin w) (cs : Array Value) (t : TM) (K : kMsg.K w t cs.toList) (wf : wMsg t) (ds : Array Value) (u : TM) (L : kMsg.K w u ds.toList) (wg : wMsg u) (k : Int) (wk : (Lit.int .i64 k).wf = true) :
    Calls Tryd.prog 9 #[.agg cs, .agg ds, .int .i64 k] w fun e w' => e = .returned (.bool true) ∧ Below w.heap.size w w' := by
  obtain ⟨p, hc, hl⟩ := msg_cells K
  obtain ⟨q, hd, hm⟩ := msg_cells L
  obtain rfl : cs = (toMs t).val p := Array.toList_inj.1 hc
  obtain rfl : ds = (toMs u).val q := Array.toList_inj.1 hd
  exact same_law k hK hl hm (wm_of wf) (wm_of wg)
end Go.Proofs.YthaoiamgkpkcbaaDoor.Ms
namespace Go.Proofs.YthaoiamgkpkcbaaDoor.Ms
open Go.ChangeShapes Go.WideShapes Go.ChangeAt Go.RowKit
abbrev laidK : List (String × DataW Unit) := [("icehouse/msgs.kinds", Rows.laid_icehouse_msgs_kinds)]
theorem gKinds : Tryd.prog.globalNamed "icehouse/msgs.kinds" = some 0 := by kernel_rfl
theorem tKinds : (Tryd.prog.globals[0]?).map (·.type) = some 98 := by kernel_rfl
theorem door_met (os : Os) (args : Array Value) : laidMetH Tryd.prog laidK ((World.doorLaid Tryd.prog 30 os).forCall (fun _ _ => 0) ⟨#[], args, []⟩).memory :=
  laidMetH_of_parts3 (fuel := 8) (laidMet_of_run' 8 (by kernel_rfl) (by kernel_rfl)) (by kernel_rfl) (by kernel_rfl)
theorem bool_trod {H : Type} {enc : TypeId × Value → H} {P : Program} {w : World} {base : Nat} {sp : Nat → Bool} {held : Bool} {fuel : Nat} {t : TypeId} {cs : List Value} {y : DataW H × List MemPlace}
    (ht : P.underlying t = some .bool) (hl : cs.length = 1) (h : DataW.trod enc P w base sp held fuel t cs = some y) : ∃ b, cs = [.bool b] ∧ y.1 = .lit (.bool b) := by
  match cs, hl with
  | [c], _ =>
    cases fuel with
    | zero => simp [DataW.trod] at h
    | succ fuel =>
      cases c with
      | bool b =>
        simp [DataW.trod, ht] at h
        exact ⟨b, rfl, by rw [← h]⟩
      | _ => simp [DataW.trod, ht] at h
set_option maxRecDepth 100000 in
theorem five_trod {H : Type} {enc : TypeId × Value → H} {w : World} {base : Nat} {sp : Nat → Bool} {held : Bool} {fuel : Nat} {cs : List Value} {y : DataW H × List MemPlace} {b0 b1 b2 b3 b4 : Bool}
    (h : DataW.trod enc Tryd.prog w base sp held fuel 97 cs = some y) (hy : y.1 = .agg [.lit (.bool b0), .lit (.bool b1), .lit (.bool b2), .lit (.bool b3), .lit (.bool b4)]) : cs = [.bool b0, .bool b1, .bool b2, .bool b3, .bool b4] := by
  obtain ⟨xs, m1, rfl, rfl, hlen, hn, hel⟩ := DataW.trod_array Tryd.underlying97 h
  have c5 : Tryd.prog.cellsOf 97 = 5 := by kernel_rfl
  have c1 : Tryd.prog.cellsOf 4 = 1 := by kernel_rfl
  rw [c5] at hlen
  match cs, hlen with
  | [v0, v1, v2, v3, v4], _ =>
    have e0 := hel 0 (by decide)
    have e1 := hel 1 (by decide)
    have e2 := hel 2 (by decide)
    have e3 := hel 3 (by decide)
    have e4 := hel 4 (by decide)
    rw [c1] at e0 e1 e2 e3 e4
    match xs, hn with
    | [x0, x1, x2, x3, x4], _ =>
      simp only [List.map_cons, List.map_nil, DataW.agg.injEq, List.cons.injEq, and_true] at hy
      obtain ⟨y0, y1, y2, y3, y4⟩ := hy
      obtain ⟨z0, h0, q0⟩ := bool_trod Tryd.underlying4 rfl (show DataW.trod enc Tryd.prog w base sp held m1 4 [v0] = some x0 from e0)
      obtain ⟨z1, h1, q1⟩ := bool_trod Tryd.underlying4 rfl (show DataW.trod enc Tryd.prog w base sp held m1 4 [v1] = some x1 from e1)
      obtain ⟨z2, h2, q2⟩ := bool_trod Tryd.underlying4 rfl (show DataW.trod enc Tryd.prog w base sp held m1 4 [v2] = some x2 from e2)
      obtain ⟨z3, h3, q3⟩ := bool_trod Tryd.underlying4 rfl (show DataW.trod enc Tryd.prog w base sp held m1 4 [v3] = some x3 from e3)
      obtain ⟨z4, h4, q4⟩ := bool_trod Tryd.underlying4 rfl (show DataW.trod enc Tryd.prog w base sp held m1 4 [v4] = some x4 from e4)
      rw [q0] at y0; rw [q1] at y1; rw [q2] at y2; rw [q3] at y3; rw [q4] at y4
      simp only [DataW.lit.injEq, Lit.bool.injEq] at y0 y1 y2 y3 y4
      subst y0 y1 y2 y3 y4
      simp only [List.cons.injEq, and_true] at h0 h1 h2 h3 h4
      rw [h0, h1, h2, h3, h4]
theorem chunks : ∀ (n : Nat) (l : List Value) (f : Nat → List Value), l.length = n * 5 → (∀ i, i < n → (l.drop (i * 5)).take 5 = f i) → l = (List.range n).flatMap f := by
  intro n
  induction n with
  | zero => intro l f hl _; simpa using hl
  | succ n ih =>
    intro l f hl h
    have h1 := ih (l.take (n * 5)) f (by rw [List.length_take]; omega) (fun i hi => by
      rw [← h i (by omega), List.drop_take, List.take_take]
      congr 1; omega)
    have h2 := h n (by omega)
    rw [List.range_succ, List.flatMap_append, ← h1]
    simp only [List.flatMap_cons, List.flatMap_nil, List.append_nil]
    rw [← h2, List.take_of_length_le (i := 5) (l := l.drop (n * 5)) (by rw [List.length_drop]; omega), List.take_append_drop]
def rowK (i : Nat) : List Value := match tab[i]? with
  | some h => [.bool h.n, .bool h.f, .bool h.e, .bool h.l, .bool h.r]
  | none => []
theorem kinds_chunks : kindsC.toList = (List.range 18).flatMap rowK := by kernel_rfl
set_option maxRecDepth 100000 in
theorem kin_of_laid {W : World} (h : laidMetH Tryd.prog laidK W) : Kin W := by
  rw [MakeChecks.laidMetH_plain _ _ _ (by kernel_rfl)] at h
  obtain ⟨ps, ⟨g0, t0, cs0, f0, p0, q0, hg0, ht0, hv0, hd0, _, _⟩, _⟩ := h
  obtain rfl := Option.some.inj (gKinds.symm.trans hg0)
  obtain rfl := Option.some.inj (tKinds.symm.trans ht0)
  obtain ⟨xs, m1, rfl, hx, hlen, hn, hel⟩ := DataW.trod_array Tryd.underlying98 hd0
  have c5 : Tryd.prog.cellsOf 97 = 5 := by kernel_rfl
  have c90 : Tryd.prog.cellsOf 98 = 90 := by kernel_rfl
  rw [c90] at hlen
  simp only [c5] at hel
  have hcs : cs0.toList = kindsC.toList := by
    rw [kinds_chunks]
    refine chunks 18 cs0.toList rowK hlen fun i hi => ?_
    have he := hel i hi
    have hxs : xs.map (·.1) = (tab.map fun h => (DataW.agg [.lit (.bool h.n), .lit (.bool h.f), .lit (.bool h.e), .lit (.bool h.l), .lit (.bool h.r)] : DataW Unit)) := by
      have := congrArg Prod.fst hx
      simp only at this
      injection this with this
      rw [← this]; rfl
    obtain ⟨x, hxi⟩ : ∃ x, xs[i]? = some x := ⟨xs[i]'(by omega), List.getElem?_eq_getElem (by omega)⟩
    rw [hxi] at he
    have ht : i < tab.length := hi
    have hm : (xs.map (·.1))[i]? = some x.1 := by rw [List.getElem?_map, hxi]; rfl
    rw [hxs, List.getElem?_map, List.getElem?_eq_getElem ht] at hm
    have hm2 := Option.some.inj hm
    unfold rowK
    rw [List.getElem?_eq_getElem ht]
    exact five_trod he hm2.symm
  have : cs0 = kindsC := Array.toList_inj.1 hcs
  subst this
  unfold World.var? at hv0
  rw [gKinds, Option.bind_some] at hv0
  split at hv0
  · rename_i c t fr hb
    obtain rfl := Option.some.inj hv0
    exact ⟨t, fr, hb⟩
  · cases hv0
end Go.Proofs.YthaoiamgkpkcbaaDoor.Ms
