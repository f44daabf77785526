/- The contract of msgs.Read. Conditions: the table lies in its variable; bytes that fit in memory. · The contract of msgs.Read. Conditions: the table lies in its variable; bytes that fit in memory. · The contract of icehouselaw12.known: it returns true. Conditions: the table lies in its variable. · What an argument that is a message reads as. Conditions: none. · Written by a program of this session over the kit's print: functions and their contracts. · Written by a program of this session over the kit's print: functions and their contracts. -/
import Derived.Test.YthaoiamgkpkcbaaDoorYMsgsSame12
import Derived.Laws.Tables
import Derived.Laws.CopyOwn
import Derived.Deep.Light
import Derived.Test.YthaoiamgkpkcbaaDoorYMsgsSame3
import Derived.Test.YthaoiamgkpkcbaaDoorProg
import Derived.Below
import Derived.Deep.Draws
import Derived.Deep.AppendLies
import Derived.Maps.AppendAt
import Derived.OwnWalk
import Derived.Laws.BytesArg
import Derived.Laws.MakeOwn
import Derived.Laws.OwnMore
import Derived.Deep.OwnRows
import Derived.Tactics
import Derived.Lib.ConvBytes
import Derived.Laws.Slices
import Derived.WalkKit
import Derived.KernelRfl
import Derived.RowKit3
import Derived.Deep.LoopGhost
import Derived.Deep.QuietTactic
import Derived.BigQuiet
import Derived.WideLaws
import Derived.Deep.DeepCutAuto
import Derived.Deep.CutBlock
import Derived.Deep.RegionHeld3
import Derived.Laws.Rows
import Derived.Lib.AppendStr
import Derived.ArgAppend
import Derived.Laws.IdiomCopy
import Derived.OrdersHeld
import Derived.Laws.BitsLemmas
import Derived.RowKit
import Derived.Test.YthaoiamgkpkcbaaDoorYMsgsSame7
import Derived.Test.YthaoiamgkpkcbaaDoorYMsgsSame11
import Derived.Test.YthaoiamgkpkcbaaDoorYMsgsSame0
import Derived.Test.YthaoiamgkpkcbaaDoorYMsgsSame2
import Derived.Test.YthaoiamgkpkcbaaDoorYMsgsSame4

namespace Go.Proofs.YthaoiamgkpkcbaaDoor.Ms
open Go.ChangeShapes Go.WideShapes Go.ChangeAt Go.RowKit Go.Proofs.YthaoiamgkpkcbaaDoor.Pk Go.Proofs.YthaoiamgkpkcbaaDoor.Tg Go.Proofs.YthaoiamgkpkcbaaDoor.Enc Go.Proofs.YthaoiamgkpkcbaaDoor.EncC Go.Proofs.YthaoiamgkpkcbaaDoor.EncP
open Go.Proofs.YthaoiamgkpkcbaaDoor.Hlp Go.Proofs.YthaoiamgkpkcbaaDoor.Wrd Go.Proofs.YthaoiamgkpkcbaaDoor.Lex Go.Proofs.YthaoiamgkpkcbaaDoorW.PrintWords Go.Proofs.YthaoiamgkpkcbaaDoorW.PrintLast Go.Proofs.YthaoiamgkpkcbaaDoorW.PrintMore
set_option linter.unusedVariables false
set_option linter.unusedSimpArgs false
/-! what is read are bytes -/
theorem by_take {l : List Int} (h : Bytes l) (n : Nat) : Bytes (l.take n) := fun x hx => h x (List.mem_of_mem_take hx)
theorem by_drop {l : List Int} (h : Bytes l) (n : Nat) : Bytes (l.drop n) := fun x hx => h x (List.mem_of_mem_drop hx)
theorem by_nil : Bytes [] := fun x hx => by cases hx
theorem belowS_by (n : Int) (s : St) (h : Bytes s.l) : Bytes (belowS n s).2.l := by
  unfold belowS; repeat' split
  all_goals first | exact h | exact by_drop h _
theorem truthS_by (s : St) (h : Bytes s.l) : Bytes (truthS s).2.l := by
  unfold truthS; repeat' split
  all_goals first | exact h | (rename_i e _ ; rw [e] at h; exact fun x hx => h x (List.mem_cons_of_mem _ hx)) | (intro x hx; apply h; simp_all)
theorem failS_by (s : St) (h : Bytes s.l) : Bytes (failS s).l := by unfold failS; split <;> exact h
theorem rowS_by (s : St) (h : Bytes s.l) : Bytes (rowS s).1 ∧ Bytes (rowS s).2.l := by
  unfold rowS; repeat' split
  all_goals first | exact ⟨by_nil, h⟩ | exact ⟨by_take (by_drop h _) _, by_drop h _⟩
theorem getS_by (s : St) (h : Bytes s.l) : Bytes (getS s).1.v ∧ Bytes (getS s).2.l := by
  unfold getS
  have h1 := rowS_by s h
  have h2 := belowS_by 1099511627776 (rowS s).2 h1.2
  have h3 := belowS_by 1048576 _ h2
  have h4 := belowS_by 1048576 _ h3
  have h5 := truthS_by _ h4
  have h6 := rowS_by _ h5
  simp only
  split <;> split
  · exact ⟨h6.1, h6.2⟩
  · exact ⟨by_nil, failS_by _ h6.2⟩
  · exact ⟨by_nil, h5⟩
  · exact ⟨by_nil, failS_by _ h5⟩
/-- the bytes of a message are bytes -/
structure ByM (x : Ms × St) : Prop where
  e : Bytes x.1.e.f2.f1
  l : ∀ y ∈ x.1.L, Bytes y.f2.f1
  s : Bytes x.2.l
theorem lstep_by (x : Ms × St) (h : ByM x) : ByM (lstep x) := by
  have hg := getS_by x.2 h.s
  refine ⟨h.e, fun y hy => ?_, hg.2⟩
  rcases List.mem_append.1 hy with hy | hy
  · exact h.l y hy
  · obtain rfl := List.mem_singleton.1 hy; exact hg.1
theorem iterL_by (x : Ms × St) (h : ByM x) : ∀ n, ByM (iter lstep n x)
  | 0 => h
  | n + 1 => lstep_by _ (iterL_by x h n)
theorem iterR_by (x : Ms × St) (h : ByM x) : ∀ n, ByM (iter rstep n x)
  | 0 => h
  | n + 1 => ⟨(iterR_by x h n).e, (iterR_by x h n).l, belowS_by _ _ (iterR_by x h n).s⟩
theorem getM_by (s : St) (h : Bytes s.l) : ByM (getM s) := by
  have hs0 : Bytes (g0 s).2.l := by
    unfold g0
    simp only
    split
    · exact failS_by _ (belowS_by _ _ h)
    · exact belowS_by _ _ h
  have h0 : ByM (g0 s) := ⟨by_nil, (fun y hy => by cases hy), hs0⟩
  have h1 : ByM (gep (gfr (g0 s))) := ⟨h0.e, h0.l, belowS_by _ _ (belowS_by _ _ (belowS_by _ _ (belowS_by _ _ h0.s)))⟩
  unfold getM
  simp only
  generalize gep (gfr (g0 s)) = x at h1
  generalize hasV (g0 s).1.kind = b
  have h2 : ByM (gn b x) := by
    unfold gn; split
    · exact ⟨h1.e, h1.l, belowS_by _ _ h1.s⟩
    · exact h1
  have h3 : ByM (gf b (gn b x)) := by
    unfold gf; split
    · exact ⟨h2.e, h2.l, truthS_by _ h2.s⟩
    · exact h2
  have h4 : ByM (ge b (gf b (gn b x))) := by
    unfold ge; split
    · exact ⟨(getS_by _ h3.s).1, h3.l, (getS_by _ h3.s).2⟩
    · exact h3
  generalize ge b (gf b (gn b x)) = y at h4
  have h5 : ByM (gl b y) := by
    unfold gl; split
    · exact iterL_by (y.1, (belowS 1001 y.2).2) ⟨h4.e, h4.l, belowS_by _ _ h4.s⟩ _
    · exact h4
  generalize gl b y = z at h5
  unfold gr; split
  · exact iterR_by ((gk z).1, (belowS 65 (gk z).2).2) ⟨h5.e, h5.l, belowS_by _ _ (belowS_by _ _ (belowS_by _ _ h5.s))⟩ _
  · exact h5
theorem getM_R (s : St) : (getM s).1.R.length ≤ 64 := by
  unfold getM
  simp only
  have hx : (gep (gfr (g0 s))).1.R = [] := rfl
  generalize gep (gfr (g0 s)) = x at hx
  generalize hasV (g0 s).1.kind = b
  have h5 : (gl b (ge b (gf b (gn b x)))).1.R = [] := by rw [gl_R, (ge_LR _ _).2, (gf_LR _ _).2, (gn_LR _ _).2, hx]
  unfold gr; split
  · obtain ⟨c, hc, hc2⟩ := below_rng 65 (gk (gl b (ge b (gf b (gn b x))))).2 (by decide)
    rw [iter_R, hc, Int.toNat_natCast]
    have : ((gk (gl b (ge b (gf b (gn b x))))).1, (belowS 65 (gk (gl b (ge b (gf b (gn b x))))).2).2).1.R = [] := h5
    rw [this]; simp; omega
  · rw [h5]; exact Nat.zero_le _
/-- what Read tells -/
def readM (l : List Int) : Ms × Int :=
  if endP (getM ⟨l, 0⟩).2.l (getM ⟨l, 0⟩).2.e = 0 then (if a4 (getM ⟨l, 0⟩).1 = true then ((getM ⟨l, 0⟩).1, 0) else (zM, 11)) else (zM, endP (getM ⟨l, 0⟩).2.l (getM ⟨l, 0⟩).2.e)
structure Own (W : World) (base : Nat) (m : Ms) (p : Pl) : Prop where
  v : Kd.R (Kd.int .u8) 5 W base (fun _ => True) (.slice p.vA m.e.f2.f1.length p.vc) m.e.f2.f1
  l : Kd.R kE 28 W base (fun _ => True) (.slice p.lA m.L.length p.lc) m.L
  r : Kd.R (Kd.int .i64) 3 W base (fun _ => True) (.slice p.rA m.R.length p.rc) m.R
theorem Own.lies {W : World} {base : Nat} {m : Ms} {p : Pl} (h : Own W base m p) : Lies W m p := by
  obtain ⟨_, h2, h3⟩ := Kd.R_reads' h.v
  obtain ⟨_, h5, h6⟩ := Kd.R_reads' h.l
  obtain ⟨_, h8, h9⟩ := Kd.R_reads' h.r
  exact ⟨h3, h2, h6, h5, h9, h8⟩
theorem Own.far {W W1 : World} {base : Nat} {m : Ms} {p : Pl} (h : Own W base m p) (hb : ∀ k, base ≤ k → k < W.heap.size → W1.heap[k]? = W.heap[k]?) : Own W1 base m p := ⟨R_far' h.v hb, R_far' h.l hb, R_far' h.r hb⟩
theorem Own.below {W W1 : World} {base : Nat} {m : Ms} {p : Pl} (h : Own W base m p) (hb : Below W.heap.size W W1) : Own W1 base m p := ⟨Kd.R_below h.v hb, Kd.R_below h.l hb, Kd.R_below h.r hb⟩
theorem Own.lower {W : World} {base base' : Nat} {m : Ms} {p : Pl} (h : Own W base m p) (hb : base' ≤ base) : Own W base' m p := ⟨Kd.R_lower h.v hb, Kd.R_lower h.l hb, Kd.R_lower h.r hb⟩
def ReadPost (w : World) (r : Ms × Int) (x : Ending) (w' : World) : Prop := ∃ p : Pl, x = .returned (.tuple #[.agg (r.1.val p), .int .i64 r.2]) ∧ Own w' w.heap.size r.1 p ∧ Below w.heap.size w w'
def nP : Pl := ⟨none, 0, none, 0, none, 0⟩
theorem own_zero (W : World) (base : Nat) : Own W base zM nP := ⟨Kd.R_nil _ _ _ _ _, Kd.R_nil _ _ _ _ _, Kd.R_nil _ _ _ _ _⟩
end Go.Proofs.YthaoiamgkpkcbaaDoor.Ms
namespace Go.Proofs.YthaoiamgkpkcbaaDoor.Ms
open Go.ChangeShapes Go.WideShapes Go.ChangeAt Go.RowKit Go.Proofs.YthaoiamgkpkcbaaDoor.Pk Go.Proofs.YthaoiamgkpkcbaaDoor.Tg Go.Proofs.YthaoiamgkpkcbaaDoor.Enc Go.Proofs.YthaoiamgkpkcbaaDoor.EncC Go.Proofs.YthaoiamgkpkcbaaDoor.EncP
open Go.Proofs.YthaoiamgkpkcbaaDoor.Hlp Go.Proofs.YthaoiamgkpkcbaaDoor.Wrd Go.Proofs.YthaoiamgkpkcbaaDoor.Lex Go.Proofs.YthaoiamgkpkcbaaDoorW.PrintWords Go.Proofs.YthaoiamgkpkcbaaDoorW.PrintLast Go.Proofs.YthaoiamgkpkcbaaDoorW.PrintMore
set_option linter.unusedVariables false
set_option linter.unusedSimpArgs false
set_option maxRecDepth 100000 in
theorem results_row_tmp {fn : Func} {p u : Tmp} {ty : TypeId} (h : fn.results = #[.cell p ty, .tmp u]) (tmps : Array Value) (w : World) (g : Nat) (cs : Array Value)
    (hp : tmps.getD p undef = .pointer (some ⟨g, 0, none⟩)) (hload : (loadVar ty ⟨g, 0, none⟩).run Tryd.prog w = .ok (.agg cs) w) :
    (results fn tmps).run Tryd.prog w = .ok (.tuple #[.agg cs, tmps.getD u undef]) w := by
  rw [results_cell_tmp h, hp]
  show ((loadVar ty ⟨g, 0, none⟩).run Tryd.prog w).andThen _ = _
  rw [hload]
  rfl
abbrev zMs : Array Value := #[.int .i64 0, .int .i64 0, .int .i64 0, .int .i64 0, .int .i64 0, .int .i64 0, .bool false, .string ⟨#[]⟩, .int .i64 0, .int .i64 0, .int .i64 0, .bool false, .slice none 0 0, .slice none 0 0, .slice none 0 0, .int .i64 0, .int .i64 0]
theorem load_ms {w : World} {R : Nat} {cs : Array Value} (h : w.heap[R]? = some (.cells cs 34 (0, 0))) (hs : cs.size = 17) : (loadVar 34 ⟨R, 0, none⟩).run Tryd.prog w = .ok (.agg cs) w :=
  run_loadVar_row w R 34 34 cs (0, 0) _ h Tryd.underlying34 rfl (by rw [hs]; kernel_rfl)
theorem val_size (m : Ms) (p : Pl) : (m.val p).size = 17 := rfl
theorem val_one (m : Ms) (p : Pl) : (m.val p).all (·.oneCell') = true := by simp [Value.oneCell']
set_option maxHeartbeats 4000000 in
set_option maxRecDepth 100000 in
theorem read_m {w : World} {A : Option Addr} {n c : Nat} {l : List Int} (hK : Kin w) (hr : Kd.C (Kd.int .u8) w A n l) (hc : n ≤ c) (hb : Bytes l) (hl : n ≤ 140737488351232) :
    Calls Tryd.prog 17 #[.slice A n c] w (ReadPost w (readM l)) := by
  obtain rfl : l.length = n := hr.1
  have hw0 : 0 < w.heap.size := by obtain ⟨t, fr, h⟩ := hK; exact blk_lt h
  obtain ⟨bR, bM⟩ := two_blks w (.cells zMs 34) (.cells zMs 34)
  have HB0 := Aside0.mk (below_allocs (Below.refl w.heap.size w) (.cells zMs 34) (.cells zMs 34))
  have HC0 := Aside0.mk (Kd.C_below hr HB0.out)
  have HK0 := Aside0.mk (hK.below HB0.out)
  have BR := Aside0.mk bR
  have BM := Aside0.mk bM
  have HBy := Aside0.mk hb
  have HBx : Aside0 (∀ x ∈ l, 0 ≤ x ∧ x < 256) := ⟨hb⟩
  have HS0 : Aside0 (((w.alloc (.cells zMs 34)).alloc (.cells zMs 34)).heap.size = w.heap.size + 2) := ⟨by rw [size1, size1]⟩
  clear hr hK bR bM hb
  go_enter Tryd.func17, Tryd.ntmps17
  go_upto_region 2 with fail
  generalize (w.alloc (.cells zMs 34)).alloc (.cells zMs 34) = W at *
  go_upto_region 3 with (go_at_call 46; (with_reducible refine (new_ HC0.out hc HBx.out hl).mono ?_); rintro x w1 ⟨g, b1, c1, rfl, hrd, hb1, hg1, hg2⟩; have HRd := Aside0.mk hrd; have HB1 := Aside0.mk hb1; have HG1 := Aside0.mk hg1; have HG2 := Aside0.mk hg2; clear hrd hb1 hg1 hg2)
  have HGs : Aside0 (Gs w1 w1 g (w.heap.size + 1) zM (.slice none 0 0) (.slice none 0 0) (.slice none 0 0) ⟨l, 0⟩) := ⟨⟨b1, c1, HRd.out⟩, (HB1.out.block _ (by have := HS0.out; omega)).trans BM.out, Kd.R_nil _ _ _ _ _, Kd.R_nil _ _ _ _ _, Kd.R_nil _ _ _ _ _, Kg.refl _ _ _, ⟨HG2.out, by have := HB1.out.size; have := HS0.out; omega, by have := HG1.out; have := HS0.out; omega⟩, hl⟩
  have HK1 := Aside0.mk (HK0.out.below HB1.out)
  have h0g : 0 ≠ g := by have := HG1.out; have := HS0.out; omega
  have h0M : 0 ≠ w.heap.size + 1 := by omega
  obtain ⟨m, hm⟩ : ∃ m, (getM ⟨l, 0⟩).1 = m := ⟨_, rfl⟩
  obtain ⟨s, hs⟩ : ∃ s, (getM ⟨l, 0⟩).2 = s := ⟨_, rfl⟩
  obtain ⟨e, he⟩ : ∃ e, endP s.l s.e = e := ⟨_, rfl⟩
  have HM := Aside0.mk hm
  have HSs := Aside0.mk hs
  have HE := Aside0.mk he
  have HBm : Aside0 (Bytes m.e.f2.f1) := ⟨by rw [← hm]; exact (getM_by ⟨l, 0⟩ HBy.out).e⟩
  have HRm : Aside0 (m.R.length < 9223372036854775807) := ⟨by rw [← hm]; have := getM_R ⟨l, 0⟩; omega⟩
  have HX : Aside0 (readM l = if e = 0 then (if a4 m = true then (m, 0) else (zM, 11)) else (zM, e)) := ⟨by unfold readM; rw [hm, hs, he]⟩
  clear hm hs he
  go_upto_region 5 with (first
    | (go_at_call 47; (with_reducible refine (get_m HK1.out h0g h0M HGs.out).mono ?_); rw [HM.out, HSs.out]; rintro x w2 ⟨rfl, vE, vL, vR, hgs⟩; have HG := Aside0.mk hgs; clear hgs; obtain ⟨b2, c2, hrd2⟩ := HG.out.rd; have HRd2 := Aside0.mk hrd2; clear hrd2)
    | (go_at_call 48; (with_reducible refine (end_ HRd2.out).mono ?_); rw [HE.out]; rintro x w' ⟨rfl, rfl⟩))
  obtain ⟨pvA, pvc, evE⟩ := Kd.R_slice HG.out.rE
  obtain ⟨plA, plc, evL⟩ := Kd.R_slice HG.out.rL
  obtain ⟨prA, prc, evR⟩ := Kd.R_slice HG.out.rR
  subst evE evL evR
  obtain ⟨p, hp⟩ : ∃ p : Pl, p = ⟨pvA, pvc, plA, plc, prA, prc⟩ := ⟨_, rfl⟩
  have HO : Aside0 (Own w2 w1.heap.size m p) := ⟨by subst hp; exact ⟨HG.out.rE, HG.out.rL, HG.out.rR⟩⟩
  have HBM : Aside0 (w2.heap[w.heap.size + 1]? = some (.cells (m.val p) 34 (0, 0))) := ⟨by subst hp; exact HG.out.blk⟩
  have HBR : Aside0 (w2.heap[w.heap.size]? = some (.cells zMs 34 (0, 0))) := ⟨(HG.out.up.block _ (by have := HB1.out.size; have := HS0.out; omega) (by have := HG1.out; have := HS0.out; omega) (by omega)).trans ((HB1.out.block _ (by have := HS0.out; omega)).trans BR.out)⟩
  have HBw : Aside0 (Below w.heap.size w w2) := ⟨by
    have h1 := HB0.out.trans (HB1.out.mono HB0.out.size)
    have hu := HG.out.up
    exact ⟨hu.os.trans h1.os, hu.tape.trans h1.tape, hu.output.trans h1.output, Nat.le_trans h1.size hu.size, fun k hk => (hu.block k (by have := HB1.out.size; have := HS0.out; omega) (by have := HG1.out; have := HS0.out; omega) (by omega)).trans (h1.block k hk)⟩⟩
  have HKw : Aside0 (Kin w2) := ⟨HG.out.kin HK1.out (fun _ _ _ => ⟨h0g, h0M⟩)⟩
  have HSz : Aside0 (w.heap.size < w1.heap.size) := ⟨by have := HB1.out.size; have := HS0.out; omega⟩
  clear hp HRd2 HRd HGs HG HB1 HK1 HG1 HG2 HS0 BR BM HK0 HC0 HB0 HM HSs HE
  by_cases he : e = 0
  · subst he
    cases ha : a4 m
    · have HCk : Aside0 (checkM m = 2) := ⟨by unfold checkM; rw [ha]; rfl⟩
      have HR : Aside0 (readM l = (zM, 11)) := ⟨by rw [HX.out, if_pos rfl, if_neg (by rw [ha]; decide)]⟩
      clear ha
      obtain ⟨c0, c1, c2, c3, c4, c5, c6, c7, c8, c9, c10, c11, c12, c13, c14, c15, c16⟩ := ms_cells HBM.out
      go_wp2_with (first | (refine wpList_load_row rfl 34 (.tmp 4) rfl (w.heap.size + 1) rfl 34 (m.val p) (0, 0) _ HBM.out Tryd.underlying34 rfl (by kernel_rfl) ?_) | (go_at_call 15; (with_reducible refine (check_ HKw.out HO.out.lies HBm.out HRm.out).mono ?_); rw [HCk.out]; rintro x w3 ⟨rfl, hb⟩; have HBb := Aside0.mk hb; have HBR : Aside0 (w3.heap[w.heap.size]? = some (.cells zMs 34 (0, 0))) := ⟨(hb.block _ (blk_lt HBR.out)).trans HBR.out⟩; have HBM : Aside0 (w3.heap[w.heap.size + 1]? = some (.cells (m.val p) 34 (0, 0))) := ⟨(hb.block _ (blk_lt HBM.out)).trans HBM.out⟩; have HO := Aside0.mk (HO.out.below hb); have HBw := Aside0.mk (HBw.out.trans (hb.mono HBw.out.size)); clear hb c0 c1 c2 c3 c4 c5 c6 c7 c8 c9 c10 c11 c12 c13 c14 c15 c16) | (refine wpList_store_row rfl 34 (.tmp 2) (.tmp 22) rfl w.heap.size zMs rfl rfl 34 zMs HBR.out (by kernel_rfl) rfl (by simp [Value.oneCell']) ?_))
      refine bodyPost_ret (results_row_tmp rfl _ _ w.heap.size zMs rfl (load_ms (setRow_heap _ _ _ _ _ _ HBR.out) rfl)) rfl ?_
      rw [HR.out]
      exact ⟨nP, rfl, own_zero _ _, below_setRow HBw.out (Nat.le_refl _) _⟩
    · have HCk : Aside0 (checkM m = 0) := ⟨by unfold checkM; rw [ha]; rfl⟩
      have HR : Aside0 (readM l = (m, 0)) := ⟨by rw [HX.out, if_pos rfl, if_pos ha]⟩
      clear ha
      obtain ⟨c0, c1, c2, c3, c4, c5, c6, c7, c8, c9, c10, c11, c12, c13, c14, c15, c16⟩ := ms_cells HBM.out
      go_wp2_with (first | (refine wpList_load_row rfl 34 (.tmp 4) rfl (w.heap.size + 1) rfl 34 (m.val p) (0, 0) _ HBM.out Tryd.underlying34 rfl (by kernel_rfl) ?_) | (go_at_call 15; (with_reducible refine (check_ HKw.out HO.out.lies HBm.out HRm.out).mono ?_); rw [HCk.out]; rintro x w3 ⟨rfl, hb⟩; have HBb := Aside0.mk hb; have HBR : Aside0 (w3.heap[w.heap.size]? = some (.cells zMs 34 (0, 0))) := ⟨(hb.block _ (blk_lt HBR.out)).trans HBR.out⟩; have HBM : Aside0 (w3.heap[w.heap.size + 1]? = some (.cells (m.val p) 34 (0, 0))) := ⟨(hb.block _ (blk_lt HBM.out)).trans HBM.out⟩; have HO := Aside0.mk (HO.out.below hb); have HBw := Aside0.mk (HBw.out.trans (hb.mono HBw.out.size)); clear hb c0 c1 c2 c3 c4 c5 c6 c7 c8 c9 c10 c11 c12 c13 c14 c15 c16) | (refine wpList_load_row rfl 34 (.tmp 4) rfl (w.heap.size + 1) rfl 34 (m.val p) (0, 0) _ HBM.out Tryd.underlying34 rfl (by kernel_rfl) ?_) | (refine wpList_store_row rfl 34 (.tmp 2) (.tmp 24) rfl w.heap.size (m.val p) rfl rfl 34 zMs HBR.out (by kernel_rfl) rfl (val_one m p) ?_))
      refine bodyPost_ret (results_row_tmp rfl _ _ w.heap.size (m.val p) rfl (load_ms (setRow_heap _ _ _ _ _ _ HBR.out) (val_size m p))) rfl ?_
      rw [HR.out]
      exact ⟨p, rfl, (HO.out.far (fun k hk _ => setRow_other _ _ _ _ (by have := HSz.out; omega))).lower (Nat.le_of_lt HSz.out), below_setRow HBw.out (Nat.le_refl _) _⟩
  · have t1 : (e == 0) = false := beq_eq_false_iff_ne.2 he
    have t2 : (e != 0) = true := bne_iff_ne.2 he
    have HR : Aside0 (readM l = (zM, e)) := ⟨by rw [HX.out, if_neg he]⟩
    clear he
    go_wp2_with (refine wpList_store_row rfl 34 (.tmp 2) (.tmp 22) rfl w.heap.size zMs rfl rfl 34 zMs HBR.out (by kernel_rfl) rfl (by simp [Value.oneCell']) ?_)
    refine bodyPost_ret (results_row_tmp rfl _ _ w.heap.size zMs rfl (load_ms (setRow_heap _ _ _ _ _ _ HBR.out) rfl)) rfl ?_
    rw [HR.out]
    exact ⟨nP, rfl, own_zero _ _, below_setRow HBw.out (Nat.le_refl _) _⟩
end Go.Proofs.YthaoiamgkpkcbaaDoor.Ms
namespace Go.Proofs.YthaoiamgkpkcbaaDoor.Ms
open Go.ChangeShapes Go.WideShapes Go.ChangeAt Go.RowKit Go.Proofs.YthaoiamgkpkcbaaDoor.Pk Go.Proofs.YthaoiamgkpkcbaaDoor.Tg Go.Proofs.YthaoiamgkpkcbaaDoor.Enc Go.Proofs.YthaoiamgkpkcbaaDoor.EncC Go.Proofs.YthaoiamgkpkcbaaDoor.EncP
open Go.Proofs.YthaoiamgkpkcbaaDoor.Hlp Go.Proofs.YthaoiamgkpkcbaaDoor.Wrd Go.Proofs.YthaoiamgkpkcbaaDoor.Lex Go.Proofs.YthaoiamgkpkcbaaDoorW.PrintWords Go.Proofs.YthaoiamgkpkcbaaDoorW.PrintLast Go.Proofs.YthaoiamgkpkcbaaDoorW.PrintMore
set_option linter.unusedVariables false
set_option linter.unusedSimpArgs false
theorem numB_zero : numB 0 = [0] := by
  have : word 0 = 0 := rfl
  unfold numB; rw [this, beR_zero]; rfl
theorem numB_small {n : Nat} (h : 0 < n) (h2 : n < 256) : numB (n : Int) = [1, (n : Int)] := by
  have hw : word (n : Int) = n := by unfold word; omega
  unfold numB
  rw [hw, beR_pos (by omega), show n / 256 = 0 by omega, beR_zero, show n % 256 = n by omega]
  rfl
/-- the chapter's example -/
def mBeat : Ms := ⟨17, 3, 0, 0, 0, 0, false, zE, [], [], 0, 0⟩
theorem bytes_beat : bytesM mBeat = [1, 17, 1, 3, 0, 0, 0] := by
  have h : hasV 17 = ⟨false, false, false, false, false⟩ := rfl
  unfold bytesM b5 b4 b3 b2 b1 mBeat
  simp only [h]
  have e1 : numB 17 = [1, 17] := numB_small (n := 17) (by decide) (by decide)
  have e2 : numB 3 = [1, 3] := numB_small (n := 3) (by decide) (by decide)
  simp [catB, e1, e2, numB_zero]
theorem okm_beat : Okm mBeat := by
  have h : hasV 17 = ⟨false, false, false, false, false⟩ := rfl
  refine ⟨by decide, by decide, by decide, by decide, by decide, by decide, .inr rfl, .inr rfl, .inr rfl, by decide, (fun x hx => by cases hx), fun hh => ?_, fun _ => ?_, fun hh => ?_, fun _ => ?_⟩
  · rw [show mBeat.kind = 17 from rfl, h] at hh; cases hh
  · exact ⟨by unfold zeroB; exact decide_eq_true ⟨by rw [show mBeat.e.f0 = (⟨#[]⟩ : ByteArray) from rfl, EncC.toList_eq], rfl, rfl, rfl, rfl⟩, rfl⟩
  · rw [show mBeat.kind = 17 from rfl, h] at hh; cases hh
  · exact decide_eq_true ⟨rfl, rfl, rfl⟩
theorem lies_nil (w : World) (m : Ms) (hv : m.e.f2.f1 = []) (hl : m.L = []) (hr : m.R = []) : Lies w m nP := by
  constructor
  · rw [hv]; exact C_empty
  · rw [hv]; exact Nat.le_refl _
  · rw [hl]; exact Kd.C_nil _ _
  · rw [hl]; exact Nat.le_refl _
  · rw [hr]; exact C_empty
  · rw [hr]; exact Nat.le_refl _
theorem bytes_k {w : World} (hK : Kin w) : Calls Tryd.prog 12 #[.agg #[.int .i64 17, .int .i64 3, .int .i64 0, .int .i64 0, .int .i64 0, .int .i64 0, .bool false, .string ⟨#[]⟩, .int .i64 0, .int .i64 0, .int .i64 0, .bool false, .slice none 0 0, .slice none 0 0, .slice none 0 0, .int .i64 0, .int .i64 0]] w (Made2 w [1, 17, 1, 3, 0, 0, 0] 0) := by
  have := bytes_ok (w := w) (m := mBeat) (p := nP) hK (lies_nil _ _ rfl rfl rfl) (by intro x hx; cases hx) (by decide) okm_beat
  rw [bytes_beat] at this
  exact this
theorem read_0 : readM [0] = (zM, 11) := by kernel_rfl
theorem read_k {w : World} {A : Option Addr} {c : Nat} (hK : Kin w) (hr : Kd.C (Kd.int .u8) w A 1 [0]) (hc : 1 ≤ c) : Calls Tryd.prog 17 #[.slice A 1 c] w fun x w' => ∃ vA vc lA lc rA rc, x = .returned (.tuple #[.agg #[.int .i64 0, .int .i64 0, .int .i64 0, .int .i64 0, .int .i64 0, .int .i64 0, .bool false, .string ⟨#[]⟩, .int .i64 0, .int .i64 0, .int .i64 0, .bool false, .slice vA 0 vc, .slice lA 0 lc, .slice rA 0 rc, .int .i64 0, .int .i64 0], .int .i64 11]) ∧ Below w.heap.size w w' := by
  refine (read_m hK hr hc (fun x hx => by simp at hx; omega) (by decide)).mono ?_
  rw [read_0]
  rintro x w' ⟨p, rfl, _, hb⟩
  exact ⟨p.vA, p.vc, p.lA, p.lc, p.rA, p.rc, rfl, hb⟩
set_option maxHeartbeats 4000000 in
set_option maxRecDepth 100000 in
theorem known_ (w : World) (hK : Kin w) : Calls Tryd.prog 11 #[] w fun e w' => e = .returned (.bool true) ∧ Below w.heap.size w w' := by
  have HK := Aside0.mk hK
  clear hK
  go_enter Tryd.func11, Tryd.ntmps11
  go_upto_region 2 with (go_at_call 12; (with_reducible refine (bytes_k HK.out).mono ?_); rintro x w1 ⟨v, rfl, hR, hb⟩; obtain ⟨A1, c1, rfl, hc1, hC⟩ := Kd.R_reads hR; have HC1 := Aside0.mk hC; have HB1 := Aside0.mk hb; clear hR hC hb)
  have HZ := Aside0.mk (C_blki (k := .u8) [0] (blk_new w1 (.cells #[.int .u8 0] 5)) (by decide) rfl)
  have HK1 := Aside0.mk (HK.out.below HB1.out |>.below (below_alloc (Below.refl _ _) (.cells #[.int .u8 0] 5)))
  have HC2 := Aside0.mk (Kd.C_alloc HC1.out (.cells #[.int .u8 0] 5))
  have HB2 := Aside0.mk (below_alloc HB1.out (.cells #[.int .u8 0] 5))
  go_upto_region 3 with (go_at_call 17; (with_reducible refine (read_k HK1.out HZ.out (by decide)).mono ?_); rintro x w2 ⟨vA, vc, lA, lc, rA, rc, rfl, hb⟩; have HC3 := Aside0.mk (Kd.C_below HC2.out hb); have HB3 := Aside0.mk (below_step HB2.out hb); clear hb)
  have HB4 := Aside0.mk (below_alloc HB3.out (.cells #[.int .i64 0, .int .i64 0, .int .i64 0, .int .i64 0, .int .i64 0, .int .i64 0, .bool false, .string ⟨#[]⟩, .int .i64 0, .int .i64 0, .int .i64 0, .bool false, .slice vA 0 vc, .slice lA 0 lc, .slice rA 0 rc, .int .i64 0, .int .i64 0] 34))
  have HC4 : Aside0 (Kd.C (Kd.int .u8) (w2.alloc (.cells #[.int .i64 0, .int .i64 0, .int .i64 0, .int .i64 0, .int .i64 0, .int .i64 0, .bool false, .string ⟨#[]⟩, .int .i64 0, .int .i64 0, .int .i64 0, .bool false, .slice vA 0 vc, .slice lA 0 lc, .slice rA 0 rc, .int .i64 0, .int .i64 0] 34)) A1 7 [1, 17, 1, 3, 0, 0, 0]) := ⟨Kd.C_alloc HC3.out _⟩
  have hc7 : 7 ≤ c1 := hc1
  generalize w2.alloc (.cells #[.int .i64 0, .int .i64 0, .int .i64 0, .int .i64 0, .int .i64 0, .int .i64 0, .bool false, .string ⟨#[]⟩, .int .i64 0, .int .i64 0, .int .i64 0, .bool false, .slice vA 0 vc, .slice lA 0 lc, .slice rA 0 rc, .int .i64 0, .int .i64 0] 34) = w3 at *
  have HC5 := Aside0.mk (Kd.C_alloc HC4.out (.cells #[.int .u8 1, .int .u8 17, .int .u8 1, .int .u8 3, .int .u8 0, .int .u8 0, .int .u8 0] 5))
  have HD5 := Aside0.mk (C_blki (k := .u8) [1, 17, 1, 3, 0, 0, 0] (blk_new w3 (.cells #[.int .u8 1, .int .u8 17, .int .u8 1, .int .u8 3, .int .u8 0, .int .u8 0, .int .u8 0] 5)) (by decide) rfl)
  have HB5 := Aside0.mk (below_alloc HB4.out (.cells #[.int .u8 1, .int .u8 17, .int .u8 1, .int .u8 3, .int .u8 0, .int .u8 0, .int .u8 0] 5))
  go_wp2_with (go_at_call 14; (with_reducible refine (same_c (n := 7) (m := 7) HC5.out hc7 HD5.out (Nat.le_refl _)).mono ?_); rintro x w4 ⟨rfl, hd⟩; have HB6 := Aside0.mk (below_step HB5.out hd.below); clear hd)
  go_ret
  exact ⟨rfl, HB6.out⟩
end Go.Proofs.YthaoiamgkpkcbaaDoor.Ms
namespace Go.Proofs.YthaoiamgkpkcbaaDoor.Opn
open Go.RowKit Go.Proofs.YthaoiamgkpkcbaaDoor.Ms Go.Proofs.YthaoiamgkpkcbaaDoorW.PrintWords
set_option linter.unusedVariables false
abbrev S23 := QL.S23
abbrev S26 := QL.S26
theorem opens_S23 : Opens Tryd.prog 23 QL.k23 (fun x : S23 => wTag (x.f0, x.f1, x.f2)) :=
  @opens_iso _ _ _ _ _ _ @opens_tag (fun x : S23 => (x.f0, x.f1, x.f2)) (fun p => ⟨p.1, p.2.1, p.2.2⟩) (fun _ => rfl)
theorem opens_S26 : Opens Tryd.prog 26 QL.k26 (fun x : S26 => wVal (x.f0, x.f1)) :=
  @opens_iso _ _ _ _ _ _ @opens_val (fun x : S26 => (x.f0, x.f1)) (fun p => ⟨p.1, p.2⟩) (fun _ => rfl)
def wE (x : E6) : Prop := x.f0.size ≤ 140737488351232 ∧ wTag (x.f1.f0, x.f1.f1, x.f1.f2) ∧ wVal (x.f2.f0, x.f2.f1)
theorem opens_E0 : Opens Tryd.prog 28 (Kd.pair Kd.string (Kd.pair QL.k23 QL.k26)) (fun p : ByteArray × S23 × S26 => p.1.size ≤ 140737488351232 ∧ wTag (p.2.1.f0, p.2.1.f1, p.2.1.f2) ∧ wVal (p.2.2.f0, p.2.2.f1)) := by
  refine @opens_struct _ _ _ _ _ _ Tryd.underlying28 (by kernel_rfl) ?_
  refine @fopens_cons Tryd.prog _ _ 0 _ _ (Kd.string) (Kd.pair QL.k23 QL.k26) (fun s => s.size ≤ 140737488351232) (fun q : S23 × S26 => wTag (q.1.f0, q.1.f1, q.1.f2) ∧ wVal (q.2.f0, q.2.f1)) rfl (by kernel_rfl) ?_ ?_
  · exact @opens_string _ _ Tryd.underlying9
  refine @fopens_cons Tryd.prog _ _ 1 _ _ QL.k23 QL.k26 (fun x : S23 => wTag (x.f0, x.f1, x.f2)) (fun x : S26 => wVal (x.f0, x.f1)) rfl (by kernel_rfl) ?_ ?_
  · exact @opens_S23
  exact @fopens_one Tryd.prog _ 4 _ QL.k26 (fun x : S26 => wVal (x.f0, x.f1)) rfl (by kernel_rfl) (@opens_S26)
theorem opens_E : Opens Tryd.prog 28 kE wE :=
  @opens_iso _ _ _ _ _ _ @opens_E0 (fun x : E6 => (x.f0, x.f1, x.f2)) (fun p => ⟨p.1, p.2.1, p.2.2⟩) (fun _ => rfl)
def wL (l : List E6) : Prop := l.length ≤ maxLen ∧ l.length * 72 ≤ 140737488351232 ∧ ∀ x ∈ l, wE x
def wI (l : List Int) : Prop := l.length ≤ maxLen ∧ l.length * 8 ≤ 140737488351232 ∧ ∀ x ∈ l, wInt x
abbrev kRing : Kd (List Int × Int × Int) := Kd.pair (Kd.slice 3 (Kd.int .i64)) (Kd.pair (Kd.int .i64) (Kd.int .i64))
def wRing (p : List Int × Int × Int) : Prop := wI p.1 ∧ wInt p.2.1 ∧ wInt p.2.2
theorem opens_ring : Opens Tryd.prog 32 kRing wRing := by
  refine @opens_struct _ _ _ _ _ _ Tryd.underlying32 (by kernel_rfl) ?_
  refine @fopens_cons Tryd.prog _ _ 0 _ _ (Kd.slice 3 (Kd.int .i64)) (Kd.pair (Kd.int .i64) (Kd.int .i64)) wI (fun q => wInt q.1 ∧ wInt q.2) rfl (by kernel_rfl) ?_ ?_
  · exact @opens_slice _ _ _ _ _ _ 8 Tryd.underlying30 (by kernel_rfl) (by kernel_rfl) (@opens_int _ _ _ Tryd.underlying3)
  refine @fopens_cons Tryd.prog _ _ 1 _ _ (Kd.int .i64) (Kd.int .i64) wInt wInt rfl (by kernel_rfl) ?_ ?_
  · exact @opens_int _ _ _ Tryd.underlying3
  exact @fopens_one Tryd.prog _ 2 _ (Kd.int .i64) wInt rfl (by kernel_rfl) (@opens_int _ _ _ Tryd.underlying3)
abbrev kM9 : Kd (List E6 × List Int × Int × Int) := Kd.pair (Kd.slice 28 kE) kRing
abbrev kM8 : Kd (E6 × List E6 × List Int × Int × Int) := Kd.pair kE kM9
abbrev kM7 : Kd (Bool × E6 × List E6 × List Int × Int × Int) := Kd.pair Kd.bool kM8
abbrev kM6 := Kd.pair (Kd.int .i64) kM7
abbrev kM5 := Kd.pair (Kd.int .i64) kM6
abbrev kM4 := Kd.pair (Kd.int .i64) kM5
abbrev kM3 := Kd.pair (Kd.int .i64) kM4
abbrev kM2 := Kd.pair (Kd.int .i64) kM3
abbrev kMsg := Kd.pair (Kd.int .i64) kM2
abbrev TM := Int × Int × Int × Int × Int × Int × Bool × E6 × List E6 × List Int × Int × Int
def wM9 (p : List E6 × List Int × Int × Int) : Prop := wL p.1 ∧ wRing p.2
def wM8 (p : E6 × List E6 × List Int × Int × Int) : Prop := wE p.1 ∧ wM9 p.2
def wM7 (p : Bool × E6 × List E6 × List Int × Int × Int) : Prop := True ∧ wM8 p.2
def wM6 (p : Int × Bool × E6 × List E6 × List Int × Int × Int) : Prop := wInt p.1 ∧ wM7 p.2
def wM5 (p : Int × Int × Bool × E6 × List E6 × List Int × Int × Int) : Prop := wInt p.1 ∧ wM6 p.2
def wM4 (p : Int × Int × Int × Bool × E6 × List E6 × List Int × Int × Int) : Prop := wInt p.1 ∧ wM5 p.2
def wM3 (p : Int × Int × Int × Int × Bool × E6 × List E6 × List Int × Int × Int) : Prop := wInt p.1 ∧ wM4 p.2
def wM2 (p : Int × Int × Int × Int × Int × Bool × E6 × List E6 × List Int × Int × Int) : Prop := wInt p.1 ∧ wM3 p.2
def wMsg (p : TM) : Prop := wInt p.1 ∧ wM2 p.2
theorem opens_msg : Opens Tryd.prog 34 kMsg wMsg := by
  refine @opens_struct _ _ _ _ _ _ Tryd.underlying34 (by kernel_rfl) ?_
  refine @fopens_cons Tryd.prog _ _ 0 _ _ (Kd.int .i64) kM2 wInt wM2 rfl (by kernel_rfl) (@opens_int _ _ _ Tryd.underlying3) ?_
  refine @fopens_cons Tryd.prog _ _ 1 _ _ (Kd.int .i64) kM3 wInt wM3 rfl (by kernel_rfl) (@opens_int _ _ _ Tryd.underlying3) ?_
  refine @fopens_cons Tryd.prog _ _ 2 _ _ (Kd.int .i64) kM4 wInt wM4 rfl (by kernel_rfl) (@opens_int _ _ _ Tryd.underlying3) ?_
  refine @fopens_cons Tryd.prog _ _ 3 _ _ (Kd.int .i64) kM5 wInt wM5 rfl (by kernel_rfl) (@opens_int _ _ _ Tryd.underlying3) ?_
  refine @fopens_cons Tryd.prog _ _ 4 _ _ (Kd.int .i64) kM6 wInt wM6 rfl (by kernel_rfl) (@opens_int _ _ _ Tryd.underlying3) ?_
  refine @fopens_cons Tryd.prog _ _ 5 _ _ (Kd.int .i64) kM7 wInt wM7 rfl (by kernel_rfl) (@opens_int _ _ _ Tryd.underlying3) ?_
  refine @fopens_cons Tryd.prog _ _ 6 _ _ Kd.bool kM8 (fun _ => True) wM8 rfl (by kernel_rfl) (@opens_bool _ _ Tryd.underlying4) ?_
  refine @fopens_cons Tryd.prog _ _ 7 _ _ kE kM9 wE wM9 rfl (by kernel_rfl) (@opens_E) ?_
  refine @fopens_cons Tryd.prog _ _ 13 _ _ (Kd.slice 28 kE) kRing wL wRing rfl (by kernel_rfl) (@opens_slice _ _ _ _ _ _ 72 Tryd.underlying29 (by kernel_rfl) (by kernel_rfl) (@opens_E)) ?_
  exact @fopens_one Tryd.prog _ 14 _ kRing wRing rfl (by kernel_rfl) (@opens_ring)
def toMs (a : TM) : Ms.Ms := ⟨a.1, a.2.1, a.2.2.1, a.2.2.2.1, a.2.2.2.2.1, a.2.2.2.2.2.1, a.2.2.2.2.2.2.1, a.2.2.2.2.2.2.2.1, a.2.2.2.2.2.2.2.2.1, a.2.2.2.2.2.2.2.2.2.1, a.2.2.2.2.2.2.2.2.2.2.1, a.2.2.2.2.2.2.2.2.2.2.2⟩
/-- what a message that came is known to be -/
structure Wm (m : Ms.Ms) : Prop where
  e : Bytes m.e.f2.f1
  el : m.e.f2.f1.length ≤ 140737488351232
  l : ∀ x ∈ m.L, Bytes x.f2.f1 ∧ x.f2.f1.length ≤ 140737488351232
  ll : m.L.length ≤ 1954687338213
  rl : m.R.length ≤ 17592186043904
theorem u8_rng {x : Int} (h : (Lit.int .u8 x).wf = true) : 0 ≤ x ∧ x < 256 := by
  simp [Lit.wf] at h
  have h2 := h.2
  simp [IntKind.max, IntKind.bits, IntKind.signed] at h2
  exact ⟨h.1, by omega⟩
theorem wm_of {a : TM} (h : wMsg a) : Wm (toMs a) := by
  obtain ⟨_, _, _, _, _, _, _, ⟨_, _, _, hb1, hb2, hb3⟩, ⟨hl1, hl2, hl3⟩, ⟨hr1, hr2, _⟩, _⟩ := h
  exact ⟨fun x hx => u8_rng (hb3 x hx), by have : a.2.2.2.2.2.2.2.1.f2.f1.length * 1 ≤ 140737488351232 := hb2; show a.2.2.2.2.2.2.2.1.f2.f1.length ≤ _; omega, fun x hx => by
    obtain ⟨_, _, _, h1, h2, h3⟩ := hl3 x hx
    exact ⟨fun y hy => u8_rng (h3 y hy), by have : x.f2.f1.length * 1 ≤ 140737488351232 := h2; omega⟩, by show a.2.2.2.2.2.2.2.2.1.length ≤ _; omega, by show a.2.2.2.2.2.2.2.2.2.1.length ≤ _; omega⟩
theorem msg_cells {w : World} {cs : List Value} {a : TM} (h : kMsg.K w a cs) : ∃ p : Pl, cs = ((toMs a).val p).toList ∧ Lies w (toMs a) p := by
  obtain ⟨_, _, rfl, rfl, _, _, rfl, rfl, _, _, rfl, rfl, _, _, rfl, rfl, _, _, rfl, rfl, _, _, rfl, rfl, _, _, rfl, rfl, _, _, rfl, hE, _, _, rfl, ⟨lA, lc, rfl, hlc, hl⟩, _, _, rfl, ⟨rA, rc, rfl, hrc, hr⟩, _, _, rfl, rfl, rfl⟩ := h
  obtain ⟨vA, vc, rfl, hvc, hv⟩ := QL.k28_open hE
  exact ⟨⟨vA, vc, lA, lc, rA, rc⟩, rfl, hv, hvc, hl, hlc, hr, hrc⟩
end Go.Proofs.YthaoiamgkpkcbaaDoor.Opn
namespace Go.Proofs.YthaoiamgkpkcbaaDoor.QS
open Go.Proofs.YthaoiamgkpkcbaaDoor.QL
open Go.RowKit Go.Proofs.YthaoiamgkpkcbaaDoorW.PrintWords Go.Proofs.YthaoiamgkpkcbaaDoorW.PrintLast Go.Proofs.YthaoiamgkpkcbaaDoorW.PrintMore
attribute [local go_sem] max2_int min2_int max_two min_two max_three min_three max_four min_four   -- for this text's walks alone
set_option linter.unusedVariables false
set_option linter.unusedSimpArgs false



-- the values' own types
/-! #### struct type 23 -/
/-! #### struct type 26 -/
/-! #### struct type 28 -/
end Go.Proofs.YthaoiamgkpkcbaaDoor.QS
namespace Go.Proofs.YthaoiamgkpkcbaaDoor.QS
open Go.Proofs.YthaoiamgkpkcbaaDoor.QL
open Go.RowKit Go.Proofs.YthaoiamgkpkcbaaDoorW.PrintWords Go.Proofs.YthaoiamgkpkcbaaDoorW.PrintLast Go.Proofs.YthaoiamgkpkcbaaDoorW.PrintMore
attribute [local go_sem] max2_int min2_int max_two min_two max_three min_three max_four min_four   -- for this text's walks alone
set_option linter.unusedVariables false
set_option linter.unusedSimpArgs false
theorem eqA23 (d : Nat) (w : World) (x0 y0 : Int) (x1 y1 : Int) (x2 y2 : Int) :
    (Op.equalIn (d + 2) 23 (.agg #[.int .i64 x0, .int .i64 x1, .int .i64 x2]) (.agg #[.int .i64 y0, .int .i64 y1, .int .i64 y2])).run Tryd.prog w = .ok (x0 == y0 && (x1 == y1 && (x2 == y2))) w := by
  refine eqA_of Tryd.underlying23 (by kernel_rfl) ?_
  refine eqf_cons (by rfl) (by go_simp; rfl) (by go_simp; rfl) (by go_simp) ?_
  refine eqf_cons (by rfl) (by go_simp; rfl) (by go_simp; rfl) (by go_simp) ?_
  exact eqf_last (by rfl) (by go_simp; rfl) (by go_simp; rfl) (by go_simp)
end Go.Proofs.YthaoiamgkpkcbaaDoor.QS
