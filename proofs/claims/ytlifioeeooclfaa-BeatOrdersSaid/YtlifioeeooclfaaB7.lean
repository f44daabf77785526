/- Contracts of slices.Clone at floats, beat.New, beat.Heard and icehouseref15.Heard. Conditions: a list that fits in memory, words of 64 bits. -/
import Derived.Test.YtlifioeeooclfaaB6
import Derived.Lib.SliceRun
import Derived.Deep.RegionLaw
import Derived.IntWalk
namespace Go.Proofs.Ytlifioeeooclfaa.Rl
open Go.ChangeShapes Go.WideShapes Go.ChangeAt Go.RowKit Dbl
open Go.Proofs.YtlifioeeooclfaaW.PrintWords Go.Proofs.YtlifioeeooclfaaW.PrintLast Go.Proofs.YtlifioeeooclfaaW.PrintMore
set_option linter.unusedVariables false
set_option linter.unusedSimpArgs false
theorem R_lit0 (W : World) (base : Nat) (hb : base ≤ W.heap.size) : Kd.R Opn.flt 30 (W.alloc (.cells #[] 30)) base (fun _ => True) (.slice (some ⟨W.heap.size, 0, none⟩) 0 0) [] :=
  Kd.R_of_own (World.ownsRow_made W #[] 0 hb (by unfold maxLen; omega) rfl) (fun _ _ => trivial)
set_option maxHeartbeats 4000000 in
theorem clone_ {A : Option Addr} {c : Nat} {ts : List Nat} {w : World} (h : Bt w A c ts) (hl : ts.length ≤ 17592186044400) :
    Calls Try.prog 32 #[.slice A ts.length c] w fun e w' => ∃ v, e = .returned v ∧ Kd.R Opn.flt 30 w' w.heap.size (fun _ => True) v ts ∧ Below w.heap.size w w' := by
  have hq : ∀ w : World, (binOp .eql 23 (.slice A ts.length c) (.slice none 0 0)).run Try.prog w = .ok (.bool A.isNone) w := fun w => Go.Lib.run_eql_slice_nil w _ _ A _ _ _ _ Try.underlying23
  cases A with
  | none =>
    have h0 : ts = [] := by
      rcases Nat.eq_zero_or_pos ts.length with h0 | h0
      · exact List.length_eq_zero_iff.1 h0
      · obtain ⟨_, e, _⟩ := h.r.2.2 h0; cases e
    subst h0
    simp only [Option.isNone_none, List.length_nil] at hq
    clear h
    show Calls Try.prog _ #[.slice none 0 c] w _
    go_enter Try.func32, Try.ntmps32
    go_wp2_with fail
    go_ret
    exact ⟨_, rfl, Kd.R_nil _ _ _ _ _, Below.refl _ _⟩
  | some ad =>
    simp only [Option.isNone_some] at hq
    have HT := Aside0.mk (h.alloc (.cells #[] 30))
    have HO := Aside0.mk (R_lit0 w w.heap.size (Nat.le_refl _))
    have HB := Aside0.mk (below_alloc (Below.refl w.heap.size w) (.cells #[] 30))
    clear h
    go_enter Try.func32, Try.ntmps32
    go_wp2_with ((with_reducible refine gate_builtin (b := .append) rfl ?_); at_builtin; refine Kd.R_append_rows Opn.flt (Rr := fun x cs => cs = [.float .f64 x]) (w0 := w) w.heap.size rfl (.tmp 5) (.tmp 6) 23 30 (.float .f64 0) 8 rfl Try.underlying23 info30 rfl (by decide) (by omega) _ [] ts (some ad) ts.length c (fun _ => True) (fun _ => False) rfl rfl HO.out HT.out.r (fun _ _ h => h) (fun _ hk => hk.elim) (fun _ _ => trivial) HB.out HB.out.size ?aL ?_; (case aL => simp; omega); intro v1 w1 ho hb hg hat; have HO' := Aside0.mk ho; have HB' := Aside0.mk hb; clear ho hb hg hat)
    go_ret
    exact ⟨_, rfl, HO'.out, HB'.out⟩
theorem results_row_tmp {fn : Func} {p u : Tmp} {ty : TypeId} (h : fn.results = #[.cell p ty, .tmp u]) (tmps : Array Value) (w : World) (g : Nat) (cs : Array Value)
    (hp : tmps.getD p undef = .pointer (some ⟨g, 0, none⟩)) (hload : (loadVar ty ⟨g, 0, none⟩).run Try.prog w = .ok (.agg cs) w) :
    (results fn tmps).run Try.prog w = .ok (.tuple #[.agg cs, tmps.getD u undef]) w := by
  rw [results_cell_tmp h, hp]
  show ((loadVar ty ⟨g, 0, none⟩).run Try.prog w).andThen _ = _
  rw [hload]
  rfl
set_option maxHeartbeats 4000000 in
theorem new_ (now : Int) (w : World) : Calls Try.prog 9 #[.int .i64 now] w fun e w' => e = .returned (.tuple #[.agg #[.int .i64 (if 0 ≤ now ∧ now ≤ 1099511627775 then now else 0), .slice none 0 0], .int .i64 (if 0 ≤ now ∧ now ≤ 1099511627775 then 0 else 2)]) ∧ Below w.heap.size w w' := by
  have W0 := Lib.hid (fun w => within_ now w)
  by_cases h : 0 ≤ now ∧ now ≤ 1099511627775
  · rw [if_pos h, if_pos h]
    rw [decide_eq_true h] at W0
    have FR := Aside0.mk (blk_new w (.cells #[.int .i64 now, .slice none 0 0] 25))
    have HB := Aside0.mk (below_alloc (Below.refl w.heap.size w) (.cells #[.int .i64 now, .slice none 0 0] 25))
    clear h
    go_enter Try.func9, Try.ntmps9
    go_wp2_with (go_at_call 30; (with_reducible refine (W0.out _).mono ?_); rintro e w' ⟨rfl, rfl⟩)
    refine bodyPost_ret (results_row_tmp rfl _ _ w.heap.size _ rfl (run_loadVar_row _ w.heap.size _ 25 #[.int .i64 now, .slice none 0 0] (0, 0) _ FR.out Try.underlying25 rfl (by kernel_rfl))) rfl ?_
    exact ⟨rfl, HB.out⟩
  · rw [if_neg h, if_neg h]
    rw [decide_eq_false h] at W0
    have FR := Aside0.mk (blk_new w (.cells #[.int .i64 0, .slice none 0 0] 25))
    have HB := Aside0.mk (below_alloc (Below.refl w.heap.size w) (.cells #[.int .i64 0, .slice none 0 0] 25))
    clear h
    go_enter Try.func9, Try.ntmps9
    go_wp2_with (go_at_call 30; (with_reducible refine (W0.out _).mono ?_); rintro e w' ⟨rfl, rfl⟩)
    refine bodyPost_ret (results_row_tmp rfl _ _ w.heap.size _ rfl (run_loadVar_row _ w.heap.size _ 25 #[.int .i64 0, .slice none 0 0] (0, 0) _ FR.out Try.underlying25 rfl (by kernel_rfl))) rfl ?_
    exact ⟨rfl, HB.out⟩
theorem Bt.drew {w : World} {A : Option Addr} {c : Nat} {ts : List Nat} (h : Bt w A c ts) : Bt w.drew A c ts := ⟨Kd.C_drew h.r, h.c, h.l, h.w⟩
theorem clone_n {A : Option Addr} {c : Nat} {ts : List Nat} {w : World} (h : Bt w A c ts) (hl : ts.length ≤ 17592186044400) :
    Calls Try.prog 32 #[.slice A ts.length c] w fun e w' => ∃ B d, e = .returned (.slice B ts.length d) ∧ Kd.R Opn.flt 30 w' w.heap.size (fun _ => True) (.slice B ts.length d) ts ∧ Below w.heap.size w w' := by
  refine (clone_ h hl).mono ?_
  rintro e w' ⟨v, rfl, ho, hb⟩
  obtain ⟨B, d, rfl⟩ := Kd.R_slice ho
  exact ⟨B, d, rfl, ho, hb⟩
theorem R_form_n {α : Type} {d : Kd α} {e : Nat} {w : World} {base n : Nat} {ok : Nat → Prop} {v : Value} {xs : List α} (h : d.R e w base ok v xs) (hn : xs.length = n) (h0 : 0 < n) : ∃ g c, v = .slice (some ⟨g, 0, none⟩) n c ∧ n ≤ c := by
  subst hn
  obtain ⟨g, cap, rfl, _⟩ := Kd.R_form h h0
  exact ⟨g, cap, rfl, (Kd.R_reads' h).2.1⟩
/-- what is remembered -/
def heardR (last : Int) (ts : List Nat) (now : Int) : List Nat := (ts ++ [wi (now - last).toNat]).drop (ts.length + 1 - 16)
def HeardPost (last : Int) (ts : List Nat) (now : Int) (w : World) (e : Ending) (w' : World) : Prop :=
  if okN last ts now then ∃ A c, e = .returned (.tuple #[.agg #[.int .i64 now, .slice A (heardR last ts now).length c], .int .i64 0]) ∧ Bt w' A c (heardR last ts now) ∧ Below w.heap.size w w'
  else e = .returned (.tuple #[.agg #[.int .i64 0, .slice none 0 0], .int .i64 2]) ∧ Below w.heap.size w w'
theorem heard_end {w4 : World} {b g n c4 k z : Nat} {ok : Nat → Prop} {xs : List Nat} {cs : Array Value} (HO : Kd.R Opn.flt 30 w4 b ok (.slice (some ⟨g, 0, none⟩) n c4) xs) (HZ : w4.heap[z]? = some (.cells cs 25 (0, 0))) (hl : n ≤ 1000) (hk : k ≤ n) (hw : ∀ x ∈ xs, x < full) (u0 u1 : Value) :
    Bt ((w4.setCell ⟨z, 0, none⟩ u0).setCell ⟨z, 1, none⟩ u1) (some ⟨g, 0 + k, none⟩) (c4 - k) (xs.drop k) := by
  have R1 := Kd.R_set HO HZ (by intro q hq; simp [Opn.flt, Kd.scalar] at hq; omega) 0 u0
  have R2 := Kd.R_set R1 (blk_set HZ 0 u0) (by intro q hq; simp [Opn.flt, Kd.scalar] at hq; omega) 1 u1
  obtain ⟨rfl, hc, hr⟩ := Kd.R_reads' R2
  refine ⟨?_, ?_, ?_, ?_⟩
  · have := Hlp.C_drop hr k hk
    exact this
  · rw [List.length_drop]; omega
  · rw [List.length_drop]; omega
  · intro x hx
    exact hw x (List.mem_of_mem_drop hx)
theorem heard_full {last now : Int} {ts : List Nat} (hw : ∀ x ∈ ts, x < full) (hd : (now - last).toNat < 9007199254740992) : ∀ x ∈ ts ++ [wi (now - last).toNat], x < full := by
  intro x hx
  rcases List.mem_append.1 hx with h | h
  · exact hw x h
  · rw [List.mem_singleton.1 h]; exact (wi_rung hd).2.2
set_option maxHeartbeats 8000000 in
set_option maxRecDepth 100000 in
theorem heard_ {A : Option Addr} {c : Nat} {last : Int} {ts : List Nat} {now : Int} {w : World} (h : Bt w A c ts) :
    Calls Try.prog 10 #[.agg #[.int .i64 last, .slice A ts.length c], .int .i64 now] w (HeardPost last ts now w) := by
  obtain ⟨W, hW⟩ : ∃ W, W = (w.alloc (.cells #[.int .i64 last, .slice A ts.length c] 25)).alloc (.cells #[.int .i64 0, .slice none 0 0] 25) := ⟨_, rfl⟩
  have HT : Aside0 (Bt W A c ts) := ⟨by rw [hW]; exact (h.alloc _).alloc _⟩
  have HG : Aside0 (W.heap[w.heap.size]? = some (.cells #[.int .i64 last, .slice A ts.length c] 25 (0, 0))) := ⟨by rw [hW]; exact blk_alloc (blk_new w _) _⟩
  have HS1 : (w.alloc (.cells #[.int .i64 last, .slice A ts.length c] 25)).heap.size = w.heap.size + 1 := Array.size_push ..
  have HZ : Aside0 (W.heap[w.heap.size + 1]? = some (.cells #[.int .i64 0, .slice none 0 0] 25 (0, 0))) := ⟨by
    have := blk_new (w.alloc (.cells #[.int .i64 last, .slice A ts.length c] 25)) (.cells #[.int .i64 0, .slice none 0 0] 25)
    rw [HS1] at this
    rw [hW]; exact this⟩
  have HB : Aside0 (Below w.heap.size w W) := ⟨by rw [hW]; exact below_alloc (below_alloc (Below.refl _ _) _) _⟩
  have HW := Lib.hid hW
  clear h HS1 hW
  have K := Lib.hid (right_ A c last ts now W HT.out.r HT.out.c HT.out.l HT.out.w)
  rcases errN_cases last ts now with ⟨ho, he⟩ | ⟨ho, he⟩
  · rw [he] at K
    have HP : Aside0 (∀ e w', HeardPost last ts now w e w' = (∃ A c, e = .returned (.tuple #[.agg #[.int .i64 now, .slice A (heardR last ts now).length c], .int .i64 0]) ∧ Bt w' A c (heardR last ts now) ∧ Below w.heap.size w w')) := ⟨fun e w' => if_pos ho⟩
    have hl16 : ts.length ≤ 16 := ho.1.2.2.1
    obtain ⟨hd1, hd2⟩ := okN_d ho
    have HS0 := Lib.hid (since_eq hd1 hd2)
    have hw : wrap64 (now - last) = now - last := by
      have := ho.1.1; have := ho.2.1; have := ho.2.2
      unfold wrap64; omega
    have HWr := Lib.hid hw
    have HF := Aside0.mk (heard_full HT.out.w hd2)
    have HY : Aside0 (floatOfInt .f64 (IntKind.i64.wrap (now - last)) = wi (now - last).toNat) := ⟨by
      have e : IntKind.i64.wrap (now - last) = now - last := by rw [IntKind.wrap_i64]; unfold wrap64 at hw; exact hw
      rw [e]; exact HS0.out⟩
    clear he ho hw hd1 hd2
    go_enter Try.func10, Try.ntmps10
    go_wp2_with fail
    rw [← HW.out]
    (with_reducible refine K.out.mono ?_)
    rintro e w1 ⟨rfl, hb⟩
    have HT1 := Aside0.mk (HT.out.below hb)
    have HG1 := Aside0.mk (blk_below HG.out hb)
    have HZ1 := Aside0.mk (blk_below HZ.out hb)
    have HB1 := Aside0.mk (below_then HB.out HB.out.size hb)
    have c0 : w1.cell? ⟨w.heap.size, 0, none⟩ = some (.int .i64 last) := (blk_cell HG1.out 0).trans rfl
    have c1 : w1.cell? ⟨w.heap.size, 1, none⟩ = some (.slice A ts.length c) := (blk_cell HG1.out 1).trans rfl
    clear hb
    go_wp2_with fail
    have hsz := blk_lt HZ1.out
    have d0 := Go.Lib.cell?_alloc_some (.cells #[.float .f64 (floatOfInt .f64 (IntKind.i64.wrap (now - last)))] 30) c0
    have d1 := Go.Lib.cell?_alloc_some (.cells #[.float .f64 (floatOfInt .f64 (IntKind.i64.wrap (now - last)))] 30) c1
    go_region_law (first
      | (go_simp; go_at_call 32; (with_reducible refine (clone_n (A := A) (c := c) (ts := ts) ?b1 ?b2).mono ?_); (case b1 => repeat (first | exact HT1.out | refine Bt.alloc ?_ _ | refine Bt.drew ?_)); (case b2 => omega); rintro e w2 ⟨B, d, rfl, ho, hb⟩; have h12 : Aside0 (Below w1.heap.size w1 w2) := ⟨below_then (by first | exact below_drew (Below.refl _ _) | exact below_alloc (below_drew (Below.refl _ _)) _ | exact below_drew (below_alloc (Below.refl _ _) _)) (by simp) hb⟩; have HO2 := Aside0.mk (Kd.R_lower (base' := w1.heap.size) ho (by simp)); have q0 := pw_cell_below h12.out c0; (first | (have n0 : w2.cell? ⟨w1.heap.size, 0, none⟩ = some (.float .f64 (floatOfInt .f64 (IntKind.i64.wrap (now - last)))) := ?n0; (case n0 => refine pw_cell_below hb ?_; simp; done)) | skip); clear ho hb)
      | (refine step_flt (by rfl) _ _ (by rfl) w1.heap.size (.slice B ts.length d) ts (floatOfInt .f64 (IntKind.i64.wrap (now - last))) _ (fun _ => True) (by rfl) ?a1 (by rfl) ?a2 (fun _ _ => trivial) ?a3 ?a4 ?_; (case a1 => first | exact HO2.out | exact Kd.R_alloc HO2.out _); (case a2 => first | exact n0 | (simp; done)); (case a3 => omega); (case a4 => (have := h12.out.size; simp; omega)); intro v1 w4 ho hgr hat; obtain ⟨A4, c4, e4, hc4⟩ := R_form_n (n := ts.length + 1) ho (by simp) (by omega); subst e4; have h14 : Aside0 (Below w1.heap.size w1 w4) := ⟨pw_below_grown (by first | exact h12.out | exact below_alloc h12.out _) _ (by have := h12.out.size; simp; omega) hgr (fun k hk => Kd.R_base HO2.out k hk)⟩; have HO4 := Aside0.mk ho; clear ho hgr hat))
    all_goals
      obtain ⟨n, hn⟩ : ∃ n, ts.length = n := ⟨_, rfl⟩
      rw [hn] at hl16
      have HN := Lib.hid hn
      simp only [hn]
      clear hn
      rw [HN.out] at hc4
      have HZ4 := Aside0.mk (blk_below HZ1.out h14.out)
      have HB4 := Aside0.mk (below_then HB1.out HB1.out.size h14.out)
      have z0 : w4.cell? ⟨w.heap.size + 1, 0, none⟩ = some (.int .i64 0) := (blk_cell HZ4.out 0).trans rfl
      have z1 : w4.cell? ⟨w.heap.size + 1, 1, none⟩ = some (.slice none 0 0) := (blk_cell HZ4.out 1).trans rfl
      have y0 : w4.frozen? ⟨w.heap.size + 1, 0, none⟩ = false := blk_frozen HZ4.out 0
      have y1 : w4.frozen? ⟨w.heap.size + 1, 1, none⟩ = false := blk_frozen HZ4.out 1
      rcases (by omega : n = 16 ∨ n < 16) with rfl | hlt
      · have k1 : (c4 == 1) = false := beq_eq_false_iff_ne.2 (by omega)
        have k2 : ¬ c4 = 1 := by omega
        go_wp2_with fail
        have HO5 := HO4.out
        rw [HY.out, HN.out] at HO5
        have HE := heard_end HO5 HZ4.out (k := 1) (by omega) (by omega) HF.out (.int .i64 now) (.slice (some ⟨A4, 0 + 1, none⟩) 16 (c4 - 1))
        have hh : heardR last ts now = (ts ++ [wi (now - last).toNat]).drop 1 := by unfold heardR; rw [HN.out]
        have hlen : (heardR last ts now).length = 16 := by rw [hh, List.length_drop, List.length_append, HN.out]; rfl
        refine bodyPost_ret (results_row_tmp rfl _ _ (w.heap.size + 1) _ rfl (run_loadVar_row _ (w.heap.size + 1) _ 25 #[.int .i64 now, .slice (some ⟨A4, 0 + 1, none⟩) 16 (c4 - 1)] (0, 0) _ (blk_set (blk_set HZ4.out 0 _) 1 _) Try.underlying25 rfl (by kernel_rfl))) rfl ?_
        rw [HP.out]
        refine ⟨some ⟨A4, 0 + 1, none⟩, c4 - 1, ?_, by rw [hh]; exact HE, (HB4.out.setCell (by simp) _).setCell (by simp) _⟩
        rw [hlen]; rfl
      · have k1 : (c4 == 0) = false := beq_eq_false_iff_ne.2 (by omega)
        have k2 : ¬ c4 = 0 := by omega
        have k3 : decide ((0 : Int) < (n : Int) + 1 - 16) = false := decide_eq_false (by omega)
        go_wp2_with fail
        have HO5 := HO4.out
        rw [HY.out, HN.out] at HO5
        have HE := heard_end HO5 HZ4.out (k := 0) (by omega) (by omega) HF.out (.int .i64 now) (.slice (some ⟨A4, 0, none⟩) (n + 1) c4)
        have hh : heardR last ts now = (ts ++ [wi (now - last).toNat]).drop 0 := by unfold heardR; rw [HN.out, show n + 1 - 16 = 0 by omega]
        have hlen : (heardR last ts now).length = n + 1 := by rw [hh, List.length_drop, List.length_append, HN.out]; rfl
        refine bodyPost_ret (results_row_tmp rfl _ _ (w.heap.size + 1) _ rfl (run_loadVar_row _ (w.heap.size + 1) _ 25 #[.int .i64 now, .slice (some ⟨A4, 0, none⟩) (n + 1) c4] (0, 0) _ (blk_set (blk_set HZ4.out 0 _) 1 _) Try.underlying25 rfl (by kernel_rfl))) rfl ?_
        rw [HP.out]
        refine ⟨some ⟨A4, 0, none⟩, c4, ?_, by rw [hh]; exact HE, (HB4.out.setCell (by simp) _).setCell (by simp) _⟩
        rw [hlen]; rfl
  · rw [he] at K
    have HP : Aside0 (∀ e w', HeardPost last ts now w e w' = (e = .returned (.tuple #[.agg #[.int .i64 0, .slice none 0 0], .int .i64 2]) ∧ Below w.heap.size w w')) := ⟨fun e w' => if_neg ho⟩
    clear ho he
    go_enter Try.func10, Try.ntmps10
    go_wp2_with fail
    rw [← HW.out]
    (with_reducible refine K.out.mono ?_)
    rintro e w1 ⟨rfl, hb⟩
    have HZ1 := Aside0.mk (blk_below HZ.out hb)
    have HB1 := Aside0.mk (below_then HB.out HB.out.size hb)
    have z0 : w1.cell? ⟨w.heap.size + 1, 0, none⟩ = some (.int .i64 0) := (blk_cell HZ1.out 0).trans rfl
    have z1 : w1.cell? ⟨w.heap.size + 1, 1, none⟩ = some (.slice none 0 0) := (blk_cell HZ1.out 1).trans rfl
    have y0 : w1.frozen? ⟨w.heap.size + 1, 0, none⟩ = false := blk_frozen HZ1.out 0
    have y1 : w1.frozen? ⟨w.heap.size + 1, 1, none⟩ = false := blk_frozen HZ1.out 1
    clear hb
    go_wp2_with fail
    refine bodyPost_ret (results_row_tmp rfl _ _ (w.heap.size + 1) _ rfl (run_loadVar_row _ (w.heap.size + 1) _ 25 #[.int .i64 0, .slice none 0 0] (0, 0) _ (blk_set (blk_set HZ1.out 0 _) 1 _) Try.underlying25 rfl (by kernel_rfl))) rfl ?_
    rw [HP.out]
    exact ⟨rfl, (HB1.out.setCell (by simp) _).setCell (by simp) _⟩
end Go.Proofs.Ytlifioeeooclfaa.Rl
