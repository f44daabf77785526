/- The contract of msgs.Read. Conditions: the table lies in its variable; bytes that fit in memory. · The contract of msgs.Read. Conditions: the table lies in its variable; bytes that fit in memory. -/
import Derived.Test.YthaoiamgkpkcbaaDoorZMsgsTwice27
import Derived.Laws.Tables
import Derived.Laws.CopyOwn
import Derived.Deep.Light
namespace Go.Proofs.YthaoiamgkpkcbaaDoor.Ms
open Go.ChangeShapes Go.WideShapes Go.ChangeAt Go.RowKit Go.Proofs.YthaoiamgkpkcbaaDoor.Pk Go.Proofs.YthaoiamgkpkcbaaDoor.Tg Go.Proofs.YthaoiamgkpkcbaaDoor.Enc Go.Proofs.YthaoiamgkpkcbaaDoor.EncC Go.Proofs.YthaoiamgkpkcbaaDoor.EncP
open Go.Proofs.YthaoiamgkpkcbaaDoor.Hlp Go.Proofs.YthaoiamgkpkcbaaDoor.Wrd Go.Proofs.YthaoiamgkpkcbaaDoor.Lex Go.Proofs.YthaoiamgkpkcbaaDoorW.PrintWords Go.Proofs.YthaoiamgkpkcbaaDoorW.PrintLast Go.Proofs.YthaoiamgkpkcbaaDoorW.PrintMore
set_option linter.unusedVariables false
set_option linter.unusedSimpArgs false
/-! what is read are bytes -/
theorem by_take {l : List Int} (h : Bytes l) (n : Nat) : Bytes (l.take n) := fun x hx => h x (List.mem_of_mem_take hx)
theorem by_drop {l : List Int} (h : Bytes l) (n : Nat) : Bytes (l.drop n) := fun x hx => h x (List.mem_of_mem_drop hx)
theorem by_nil : Bytes [] := fun x hx => by cases hx
theorem belowS_by (n : Int) (s : St) (h : Bytes s.l) : Bytes (belowS n s).2.l := by
  unfold belowS; repeat' split
  all_goals first | exact h | exact by_drop h _
theorem truthS_by (s : St) (h : Bytes s.l) : Bytes (truthS s).2.l := by
  unfold truthS; repeat' split
  all_goals first | exact h | (rename_i e _ ; rw [e] at h; exact fun x hx => h x (List.mem_cons_of_mem _ hx)) | (intro x hx; apply h; simp_all)
theorem failS_by (s : St) (h : Bytes s.l) : Bytes (failS s).l := by unfold failS; split <;> exact h
theorem rowS_by (s : St) (h : Bytes s.l) : Bytes (rowS s).1 ∧ Bytes (rowS s).2.l := by
  unfold rowS; repeat' split
  all_goals first | exact ⟨by_nil, h⟩ | exact ⟨by_take (by_drop h _) _, by_drop h _⟩
theorem getS_by (s : St) (h : Bytes s.l) : Bytes (getS s).1.v ∧ Bytes (getS s).2.l := by
  unfold getS
  have h1 := rowS_by s h
  have h2 := belowS_by 1099511627776 (rowS s).2 h1.2
  have h3 := belowS_by 1048576 _ h2
  have h4 := belowS_by 1048576 _ h3
  have h5 := truthS_by _ h4
  have h6 := rowS_by _ h5
  simp only
  split <;> split
  · exact ⟨h6.1, h6.2⟩
  · exact ⟨by_nil, failS_by _ h6.2⟩
  · exact ⟨by_nil, h5⟩
  · exact ⟨by_nil, failS_by _ h5⟩
/-- the bytes of a message are bytes -/
structure ByM (x : Ms × St) : Prop where
  e : Bytes x.1.e.f2.f1
  l : ∀ y ∈ x.1.L, Bytes y.f2.f1
  s : Bytes x.2.l
theorem lstep_by (x : Ms × St) (h : ByM x) : ByM (lstep x) := by
  have hg := getS_by x.2 h.s
  refine ⟨h.e, fun y hy => ?_, hg.2⟩
  rcases List.mem_append.1 hy with hy | hy
  · exact h.l y hy
  · obtain rfl := List.mem_singleton.1 hy; exact hg.1
theorem iterL_by (x : Ms × St) (h : ByM x) : ∀ n, ByM (iter lstep n x)
  | 0 => h
  | n + 1 => lstep_by _ (iterL_by x h n)
theorem iterR_by (x : Ms × St) (h : ByM x) : ∀ n, ByM (iter rstep n x)
  | 0 => h
  | n + 1 => ⟨(iterR_by x h n).e, (iterR_by x h n).l, belowS_by _ _ (iterR_by x h n).s⟩
theorem getM_by (s : St) (h : Bytes s.l) : ByM (getM s) := by
  have hs0 : Bytes (g0 s).2.l := by
    unfold g0
    simp only
    split
    · exact failS_by _ (belowS_by _ _ h)
    · exact belowS_by _ _ h
  have h0 : ByM (g0 s) := ⟨by_nil, (fun y hy => by cases hy), hs0⟩
  have h1 : ByM (gep (gfr (g0 s))) := ⟨h0.e, h0.l, belowS_by _ _ (belowS_by _ _ (belowS_by _ _ (belowS_by _ _ h0.s)))⟩
  unfold getM
  simp only
  generalize gep (gfr (g0 s)) = x at h1
  generalize hasV (g0 s).1.kind = b
  have h2 : ByM (gn b x) := by
    unfold gn; split
    · exact ⟨h1.e, h1.l, belowS_by _ _ h1.s⟩
    · exact h1
  have h3 : ByM (gf b (gn b x)) := by
    unfold gf; split
    · exact ⟨h2.e, h2.l, truthS_by _ h2.s⟩
    · exact h2
  have h4 : ByM (ge b (gf b (gn b x))) := by
    unfold ge; split
    · exact ⟨(getS_by _ h3.s).1, h3.l, (getS_by _ h3.s).2⟩
    · exact h3
  generalize ge b (gf b (gn b x)) = y at h4
  have h5 : ByM (gl b y) := by
    unfold gl; split
    · exact iterL_by (y.1, (belowS 1001 y.2).2) ⟨h4.e, h4.l, belowS_by _ _ h4.s⟩ _
    · exact h4
  generalize gl b y = z at h5
  unfold gr; split
  · exact iterR_by ((gk z).1, (belowS 65 (gk z).2).2) ⟨h5.e, h5.l, belowS_by _ _ (belowS_by _ _ (belowS_by _ _ h5.s))⟩ _
  · exact h5
theorem getM_R (s : St) : (getM s).1.R.length ≤ 64 := by
  unfold getM
  simp only
  have hx : (gep (gfr (g0 s))).1.R = [] := rfl
  generalize gep (gfr (g0 s)) = x at hx
  generalize hasV (g0 s).1.kind = b
  have h5 : (gl b (ge b (gf b (gn b x)))).1.R = [] := by rw [gl_R, (ge_LR _ _).2, (gf_LR _ _).2, (gn_LR _ _).2, hx]
  unfold gr; split
  · obtain ⟨c, hc, hc2⟩ := below_rng 65 (gk (gl b (ge b (gf b (gn b x))))).2 (by decide)
    rw [iter_R, hc, Int.toNat_natCast]
    have : ((gk (gl b (ge b (gf b (gn b x))))).1, (belowS 65 (gk (gl b (ge b (gf b (gn b x))))).2).2).1.R = [] := h5
    rw [this]; simp; omega
  · rw [h5]; exact Nat.zero_le _
/-- what Read tells -/
def readM (l : List Int) : Ms × Int :=
  if endP (getM ⟨l, 0⟩).2.l (getM ⟨l, 0⟩).2.e = 0 then (if a4 (getM ⟨l, 0⟩).1 = true then ((getM ⟨l, 0⟩).1, 0) else (zM, 11)) else (zM, endP (getM ⟨l, 0⟩).2.l (getM ⟨l, 0⟩).2.e)
structure Own (W : World) (base : Nat) (m : Ms) (p : Pl) : Prop where
  v : Kd.R (Kd.int .u8) 5 W base (fun _ => True) (.slice p.vA m.e.f2.f1.length p.vc) m.e.f2.f1
  l : Kd.R kE 28 W base (fun _ => True) (.slice p.lA m.L.length p.lc) m.L
  r : Kd.R (Kd.int .i64) 3 W base (fun _ => True) (.slice p.rA m.R.length p.rc) m.R
theorem Own.lies {W : World} {base : Nat} {m : Ms} {p : Pl} (h : Own W base m p) : Lies W m p := by
  obtain ⟨_, h2, h3⟩ := Kd.R_reads' h.v
  obtain ⟨_, h5, h6⟩ := Kd.R_reads' h.l
  obtain ⟨_, h8, h9⟩ := Kd.R_reads' h.r
  exact ⟨h3, h2, h6, h5, h9, h8⟩
theorem Own.far {W W1 : World} {base : Nat} {m : Ms} {p : Pl} (h : Own W base m p) (hb : ∀ k, base ≤ k → k < W.heap.size → W1.heap[k]? = W.heap[k]?) : Own W1 base m p := ⟨R_far' h.v hb, R_far' h.l hb, R_far' h.r hb⟩
theorem Own.below {W W1 : World} {base : Nat} {m : Ms} {p : Pl} (h : Own W base m p) (hb : Below W.heap.size W W1) : Own W1 base m p := ⟨Kd.R_below h.v hb, Kd.R_below h.l hb, Kd.R_below h.r hb⟩
theorem Own.lower {W : World} {base base' : Nat} {m : Ms} {p : Pl} (h : Own W base m p) (hb : base' ≤ base) : Own W base' m p := ⟨Kd.R_lower h.v hb, Kd.R_lower h.l hb, Kd.R_lower h.r hb⟩
def ReadPost (w : World) (r : Ms × Int) (x : Ending) (w' : World) : Prop := ∃ p : Pl, x = .returned (.tuple #[.agg (r.1.val p), .int .i64 r.2]) ∧ Own w' w.heap.size r.1 p ∧ Below w.heap.size w w'
def nP : Pl := ⟨none, 0, none, 0, none, 0⟩
theorem own_zero (W : World) (base : Nat) : Own W base zM nP := ⟨Kd.R_nil _ _ _ _ _, Kd.R_nil _ _ _ _ _, Kd.R_nil _ _ _ _ _⟩
end Go.Proofs.YthaoiamgkpkcbaaDoor.Ms

namespace Go.Proofs.YthaoiamgkpkcbaaDoor.Ms
open Go.ChangeShapes Go.WideShapes Go.ChangeAt Go.RowKit Go.Proofs.YthaoiamgkpkcbaaDoor.Pk Go.Proofs.YthaoiamgkpkcbaaDoor.Tg Go.Proofs.YthaoiamgkpkcbaaDoor.Enc Go.Proofs.YthaoiamgkpkcbaaDoor.EncC Go.Proofs.YthaoiamgkpkcbaaDoor.EncP
open Go.Proofs.YthaoiamgkpkcbaaDoor.Hlp Go.Proofs.YthaoiamgkpkcbaaDoor.Wrd Go.Proofs.YthaoiamgkpkcbaaDoor.Lex Go.Proofs.YthaoiamgkpkcbaaDoorW.PrintWords Go.Proofs.YthaoiamgkpkcbaaDoorW.PrintLast Go.Proofs.YthaoiamgkpkcbaaDoorW.PrintMore
set_option linter.unusedVariables false
set_option linter.unusedSimpArgs false
set_option maxRecDepth 100000 in
theorem results_row_tmp {fn : Func} {p u : Tmp} {ty : TypeId} (h : fn.results = #[.cell p ty, .tmp u]) (tmps : Array Value) (w : World) (g : Nat) (cs : Array Value)
    (hp : tmps.getD p undef = .pointer (some ⟨g, 0, none⟩)) (hload : (loadVar ty ⟨g, 0, none⟩).run Tryd.prog w = .ok (.agg cs) w) :
    (results fn tmps).run Tryd.prog w = .ok (.tuple #[.agg cs, tmps.getD u undef]) w := by
  rw [results_cell_tmp h, hp]
  show ((loadVar ty ⟨g, 0, none⟩).run Tryd.prog w).andThen _ = _
  rw [hload]
  rfl
abbrev zMs : Array Value := #[.int .i64 0, .int .i64 0, .int .i64 0, .int .i64 0, .int .i64 0, .int .i64 0, .bool false, .string ⟨#[]⟩, .int .i64 0, .int .i64 0, .int .i64 0, .bool false, .slice none 0 0, .slice none 0 0, .slice none 0 0, .int .i64 0, .int .i64 0]
theorem zMs_eq : zM.val nP = zMs := rfl
theorem load_ms {w : World} {R : Nat} {cs : Array Value} (h : w.heap[R]? = some (.cells cs 34 (0, 0))) (hs : cs.size = 17) : (loadVar 34 ⟨R, 0, none⟩).run Tryd.prog w = .ok (.agg cs) w :=
  run_loadVar_row w R 34 34 cs (0, 0) _ h Tryd.underlying34 rfl (by rw [hs]; kernel_rfl)
theorem val_size (m : Ms) (p : Pl) : (m.val p).size = 17 := rfl
theorem val_one (m : Ms) (p : Pl) : (m.val p).all (·.oneCell') = true := by simp [Value.oneCell']
theorem endP_ne {l : List Int} {e : Int} (h : endP l e = 0) : e = 0 ∧ l = [] := by
  unfold endP at h
  split at h
  · rename_i h0
    split at h
    · rename_i h1; exact ⟨h0, h1⟩
    · cases h
  · rename_i h0; exact absurd h h0
set_option maxHeartbeats 4000000 in
set_option maxRecDepth 100000 in
theorem read_m {w : World} {A : Option Addr} {n c : Nat} {l : List Int} (hK : Kin w) (hr : Kd.C (Kd.int .u8) w A n l) (hc : n ≤ c) (hb : Bytes l) (hl : n ≤ 140737488351232) :
    Calls Tryd.prog 17 #[.slice A n c] w (ReadPost w (readM l)) := by
  obtain rfl : l.length = n := hr.1
  have hw0 : 0 < w.heap.size := by obtain ⟨t, fr, h⟩ := hK; exact blk_lt h
  obtain ⟨bR, bM⟩ := two_blks w (.cells zMs 34) (.cells zMs 34)
  have HB0 := Aside0.mk (below_allocs (Below.refl w.heap.size w) (.cells zMs 34) (.cells zMs 34))
  have HC0 := Aside0.mk (Kd.C_below hr HB0.out)
  have HK0 := Aside0.mk (hK.below HB0.out)
  have BR := Aside0.mk bR
  have BM := Aside0.mk bM
  have HBy := Aside0.mk hb
  have HBx : Aside0 (∀ x ∈ l, 0 ≤ x ∧ x < 256) := ⟨hb⟩
  have HS0 : Aside0 (((w.alloc (.cells zMs 34)).alloc (.cells zMs 34)).heap.size = w.heap.size + 2) := ⟨by rw [size1, size1]⟩
  clear hr hK bR bM hb
  go_enter Tryd.func17, Tryd.ntmps17
  go_upto_region 2 with fail
  generalize (w.alloc (.cells zMs 34)).alloc (.cells zMs 34) = W at *
  go_upto_region 3 with (go_at_call 46; (with_reducible refine (new_ HC0.out hc HBx.out hl).mono ?_); rintro x w1 ⟨g, b1, c1, rfl, hrd, hb1, hg1, hg2⟩; have HRd := Aside0.mk hrd; have HB1 := Aside0.mk hb1; have HG1 := Aside0.mk hg1; have HG2 := Aside0.mk hg2; clear hrd hb1 hg1 hg2)
  have HGs : Aside0 (Gs w1 w1 g (w.heap.size + 1) zM (.slice none 0 0) (.slice none 0 0) (.slice none 0 0) ⟨l, 0⟩) := ⟨⟨b1, c1, HRd.out⟩, (HB1.out.block _ (by have := HS0.out; omega)).trans BM.out, Kd.R_nil _ _ _ _ _, Kd.R_nil _ _ _ _ _, Kd.R_nil _ _ _ _ _, Kg.refl _ _ _, ⟨HG2.out, by have := HB1.out.size; have := HS0.out; omega, by have := HG1.out; have := HS0.out; omega⟩, hl⟩
  have HK1 := Aside0.mk (HK0.out.below HB1.out)
  have h0g : 0 ≠ g := by have := HG1.out; have := HS0.out; omega
  have h0M : 0 ≠ w.heap.size + 1 := by omega
  obtain ⟨m, hm⟩ : ∃ m, (getM ⟨l, 0⟩).1 = m := ⟨_, rfl⟩
  obtain ⟨s, hs⟩ : ∃ s, (getM ⟨l, 0⟩).2 = s := ⟨_, rfl⟩
  obtain ⟨e, he⟩ : ∃ e, endP s.l s.e = e := ⟨_, rfl⟩
  have HM := Aside0.mk hm
  have HSs := Aside0.mk hs
  have HE := Aside0.mk he
  have HBm : Aside0 (Bytes m.e.f2.f1) := ⟨by rw [← hm]; exact (getM_by ⟨l, 0⟩ HBy.out).e⟩
  have HRm : Aside0 (m.R.length < 9223372036854775807) := ⟨by rw [← hm]; have := getM_R ⟨l, 0⟩; omega⟩
  have HX : Aside0 (readM l = if e = 0 then (if a4 m = true then (m, 0) else (zM, 11)) else (zM, e)) := ⟨by unfold readM; rw [hm, hs, he]⟩
  clear hm hs he
  go_upto_region 5 with (first
    | (go_at_call 47; (with_reducible refine (get_m HK1.out h0g h0M HGs.out).mono ?_); rw [HM.out, HSs.out]; rintro x w2 ⟨rfl, vE, vL, vR, hgs⟩; have HG := Aside0.mk hgs; clear hgs; obtain ⟨b2, c2, hrd2⟩ := HG.out.rd; have HRd2 := Aside0.mk hrd2; clear hrd2)
    | (go_at_call 48; (with_reducible refine (end_ HRd2.out).mono ?_); rw [HE.out]; rintro x w' ⟨rfl, rfl⟩))
  obtain ⟨pvA, pvc, evE⟩ := Kd.R_slice HG.out.rE
  obtain ⟨plA, plc, evL⟩ := Kd.R_slice HG.out.rL
  obtain ⟨prA, prc, evR⟩ := Kd.R_slice HG.out.rR
  subst evE evL evR
  obtain ⟨p, hp⟩ : ∃ p : Pl, p = ⟨pvA, pvc, plA, plc, prA, prc⟩ := ⟨_, rfl⟩
  have HO : Aside0 (Own w2 w1.heap.size m p) := ⟨by subst hp; exact ⟨HG.out.rE, HG.out.rL, HG.out.rR⟩⟩
  have HBM : Aside0 (w2.heap[w.heap.size + 1]? = some (.cells (m.val p) 34 (0, 0))) := ⟨by subst hp; exact HG.out.blk⟩
  have HBR : Aside0 (w2.heap[w.heap.size]? = some (.cells zMs 34 (0, 0))) := ⟨(HG.out.up.block _ (by have := HB1.out.size; have := HS0.out; omega) (by have := HG1.out; have := HS0.out; omega) (by omega)).trans ((HB1.out.block _ (by have := HS0.out; omega)).trans BR.out)⟩
  have HBw : Aside0 (Below w.heap.size w w2) := ⟨by
    have h1 := HB0.out.trans (HB1.out.mono HB0.out.size)
    have hu := HG.out.up
    exact ⟨hu.os.trans h1.os, hu.tape.trans h1.tape, hu.output.trans h1.output, Nat.le_trans h1.size hu.size, fun k hk => (hu.block k (by have := HB1.out.size; have := HS0.out; omega) (by have := HG1.out; have := HS0.out; omega) (by omega)).trans (h1.block k hk)⟩⟩
  have HKw : Aside0 (Kin w2) := ⟨HG.out.kin HK1.out (fun _ _ _ => ⟨h0g, h0M⟩)⟩
  have HSz : Aside0 (w.heap.size < w1.heap.size) := ⟨by have := HB1.out.size; have := HS0.out; omega⟩
  clear hp HRd2 HRd HGs HG HB1 HK1 HG1 HG2 HS0 BR BM HK0 HC0 HB0 HM HSs HE
  by_cases he : e = 0
  · subst he
    cases ha : a4 m
    · have HCk : Aside0 (checkM m = 2) := ⟨by unfold checkM; rw [ha]; rfl⟩
      have HR : Aside0 (readM l = (zM, 11)) := ⟨by rw [HX.out, if_pos rfl, if_neg (by rw [ha]; decide)]⟩
      clear ha
      obtain ⟨c0, c1, c2, c3, c4, c5, c6, c7, c8, c9, c10, c11, c12, c13, c14, c15, c16⟩ := ms_cells HBM.out
      go_wp2_with (first | (refine wpList_load_row rfl 34 (.tmp 4) rfl (w.heap.size + 1) rfl 34 (m.val p) (0, 0) _ HBM.out Tryd.underlying34 rfl (by kernel_rfl) ?_) | (go_at_call 15; (with_reducible refine (check_ HKw.out HO.out.lies HBm.out HRm.out).mono ?_); rw [HCk.out]; rintro x w3 ⟨rfl, hb⟩; have HBb := Aside0.mk hb; have HBR : Aside0 (w3.heap[w.heap.size]? = some (.cells zMs 34 (0, 0))) := ⟨(hb.block _ (blk_lt HBR.out)).trans HBR.out⟩; have HBM : Aside0 (w3.heap[w.heap.size + 1]? = some (.cells (m.val p) 34 (0, 0))) := ⟨(hb.block _ (blk_lt HBM.out)).trans HBM.out⟩; have HO := Aside0.mk (HO.out.below hb); have HBw := Aside0.mk (HBw.out.trans (hb.mono HBw.out.size)); clear hb c0 c1 c2 c3 c4 c5 c6 c7 c8 c9 c10 c11 c12 c13 c14 c15 c16) | (refine wpList_store_row rfl 34 (.tmp 2) (.tmp 22) rfl w.heap.size zMs rfl rfl 34 zMs HBR.out (by kernel_rfl) rfl (by simp [Value.oneCell']) ?_))
      refine bodyPost_ret (results_row_tmp rfl _ _ w.heap.size zMs rfl (load_ms (setRow_heap _ _ _ _ _ _ HBR.out) rfl)) rfl ?_
      rw [HR.out]
      exact ⟨nP, rfl, own_zero _ _, below_setRow HBw.out (Nat.le_refl _) _⟩
    · have HCk : Aside0 (checkM m = 0) := ⟨by unfold checkM; rw [ha]; rfl⟩
      have HR : Aside0 (readM l = (m, 0)) := ⟨by rw [HX.out, if_pos rfl, if_pos ha]⟩
      clear ha
      obtain ⟨c0, c1, c2, c3, c4, c5, c6, c7, c8, c9, c10, c11, c12, c13, c14, c15, c16⟩ := ms_cells HBM.out
      go_wp2_with (first | (refine wpList_load_row rfl 34 (.tmp 4) rfl (w.heap.size + 1) rfl 34 (m.val p) (0, 0) _ HBM.out Tryd.underlying34 rfl (by kernel_rfl) ?_) | (go_at_call 15; (with_reducible refine (check_ HKw.out HO.out.lies HBm.out HRm.out).mono ?_); rw [HCk.out]; rintro x w3 ⟨rfl, hb⟩; have HBb := Aside0.mk hb; have HBR : Aside0 (w3.heap[w.heap.size]? = some (.cells zMs 34 (0, 0))) := ⟨(hb.block _ (blk_lt HBR.out)).trans HBR.out⟩; have HBM : Aside0 (w3.heap[w.heap.size + 1]? = some (.cells (m.val p) 34 (0, 0))) := ⟨(hb.block _ (blk_lt HBM.out)).trans HBM.out⟩; have HO := Aside0.mk (HO.out.below hb); have HBw := Aside0.mk (HBw.out.trans (hb.mono HBw.out.size)); clear hb c0 c1 c2 c3 c4 c5 c6 c7 c8 c9 c10 c11 c12 c13 c14 c15 c16) | (refine wpList_load_row rfl 34 (.tmp 4) rfl (w.heap.size + 1) rfl 34 (m.val p) (0, 0) _ HBM.out Tryd.underlying34 rfl (by kernel_rfl) ?_) | (refine wpList_store_row rfl 34 (.tmp 2) (.tmp 24) rfl w.heap.size (m.val p) rfl rfl 34 zMs HBR.out (by kernel_rfl) rfl (val_one m p) ?_))
      refine bodyPost_ret (results_row_tmp rfl _ _ w.heap.size (m.val p) rfl (load_ms (setRow_heap _ _ _ _ _ _ HBR.out) (val_size m p))) rfl ?_
      rw [HR.out]
      exact ⟨p, rfl, (HO.out.far (fun k hk _ => setRow_other _ _ _ _ (by have := HSz.out; omega))).lower (Nat.le_of_lt HSz.out), below_setRow HBw.out (Nat.le_refl _) _⟩
  · have t1 : (e == 0) = false := beq_eq_false_iff_ne.2 he
    have t2 : (e != 0) = true := bne_iff_ne.2 he
    have HR : Aside0 (readM l = (zM, e)) := ⟨by rw [HX.out, if_neg he]⟩
    clear he
    go_wp2_with (refine wpList_store_row rfl 34 (.tmp 2) (.tmp 22) rfl w.heap.size zMs rfl rfl 34 zMs HBR.out (by kernel_rfl) rfl (by simp [Value.oneCell']) ?_)
    refine bodyPost_ret (results_row_tmp rfl _ _ w.heap.size zMs rfl (load_ms (setRow_heap _ _ _ _ _ _ HBR.out) rfl)) rfl ?_
    rw [HR.out]
    exact ⟨nP, rfl, own_zero _ _, below_setRow HBw.out (Nat.le_refl _) _⟩
end Go.Proofs.YthaoiamgkpkcbaaDoor.Ms
