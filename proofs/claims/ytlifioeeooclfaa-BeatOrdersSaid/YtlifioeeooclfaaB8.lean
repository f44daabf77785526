/- Contract of icehouseref15.Heard: the same as beat.Heard's. Conditions: a list that fits in memory, words of 64 bits. -/
import Derived.Test.YtlifioeeooclfaaB7
namespace Go.Proofs.Ytlifioeeooclfaa.Rl
open Go.ChangeShapes Go.WideShapes Go.ChangeAt Go.RowKit Dbl
open Go.Proofs.YtlifioeeooclfaaW.PrintWords Go.Proofs.YtlifioeeooclfaaW.PrintLast Go.Proofs.YtlifioeeooclfaaW.PrintMore
set_option linter.unusedVariables false
set_option linter.unusedSimpArgs false
set_option maxHeartbeats 8000000 in
set_option maxRecDepth 100000 in
theorem rheard_ {A : Option Addr} {c : Nat} {last : Int} {ts : List Nat} {now : Int} {w : World} (h : Bt w A c ts) :
    Calls Try.prog 15 #[.agg #[.int .i64 last, .slice A ts.length c], .int .i64 now] w (HeardPost last ts now w) := by
  obtain ⟨n, hn⟩ : ∃ n, ts.length = n := ⟨_, rfl⟩
  have HN := Lib.hid hn
  rw [hn]
  obtain ⟨W, hW⟩ : ∃ W, W = (w.alloc (.cells #[.int .i64 last, .slice A n c] 25)).alloc (.cells #[.int .i64 0, .slice none 0 0] 25) := ⟨_, rfl⟩
  have HT : Aside0 (Bt W A c ts) := ⟨by rw [hW]; exact (h.alloc _).alloc _⟩
  have HG : Aside0 (W.heap[w.heap.size]? = some (.cells #[.int .i64 last, .slice A n c] 25 (0, 0))) := ⟨by rw [hW]; exact blk_alloc (blk_new w _) _⟩
  have HS1 : (w.alloc (.cells #[.int .i64 last, .slice A n c] 25)).heap.size = w.heap.size + 1 := Array.size_push ..
  have HZ : Aside0 (W.heap[w.heap.size + 1]? = some (.cells #[.int .i64 0, .slice none 0 0] 25 (0, 0))) := ⟨by
    have := blk_new (w.alloc (.cells #[.int .i64 last, .slice A n c] 25)) (.cells #[.int .i64 0, .slice none 0 0] 25)
    rw [HS1] at this
    rw [hW]; exact this⟩
  have HB : Aside0 (Below w.heap.size w W) := ⟨by rw [hW]; exact below_alloc (below_alloc (Below.refl _ _) _) _⟩
  have HW := Lib.hid hW
  have hcn : n ≤ c := hn ▸ h.c
  clear h HS1 hW
  have K := rright_ A c last ts now W HT.out.r HT.out.c HT.out.l HT.out.w
  rw [hn] at K
  have K := Lib.hid K
  rcases errN_cases last ts now with ⟨ho, he⟩ | ⟨ho, he⟩
  · rw [he] at K
    have HP : Aside0 (∀ e w', HeardPost last ts now w e w' = (∃ A c, e = .returned (.tuple #[.agg #[.int .i64 now, .slice A (heardR last ts now).length c], .int .i64 0]) ∧ Bt w' A c (heardR last ts now) ∧ Below w.heap.size w w')) := ⟨fun e w' => if_pos ho⟩
    have hl16 : n ≤ 16 := hn ▸ ho.1.2.2.1
    obtain ⟨hd1, hd2⟩ := okN_d ho
    have HS0 := Lib.hid (since_eq hd1 hd2)
    have hw : wrap64 (now - last) = now - last := by
      have := ho.1.1; have := ho.2.1; have := ho.2.2
      unfold wrap64; omega
    have HF0 := Aside0.mk (heard_full HT.out.w hd2)
    have HY : Aside0 (floatOfInt .f64 (wrap64 (now - last)) = wi (now - last).toNat) := ⟨by rw [hw]; exact HS0.out⟩
    clear he ho hw hd1 hd2
    rcases (by omega : n = 16 ∨ n < 16) with rfl | hlt
    · obtain ⟨b, off, hA, _⟩ := Hlp.C_block HT.out.r (by rw [HN.out]; omega)
      subst hA
      have HD : Aside0 ((ts.drop 1).length = 15) := ⟨by rw [List.length_drop, HN.out]⟩
      have hh : heardR last ts now = ts.drop 1 ++ [wi (now - last).toNat] := by
        unfold heardR; rw [HN.out, List.drop_append_of_le_length (by rw [HN.out]; omega)]
      have HH := Aside0.mk hh
      have HLn : Aside0 ((heardR last ts now).length = 16) := ⟨by rw [hh, List.length_append, HD.out]; rfl⟩
      have HF : Aside0 (∀ x ∈ ts.drop 1 ++ [wi (now - last).toNat], x < full) := ⟨fun x hx => HF0.out x (by
        rcases List.mem_append.1 hx with h | h
        · exact List.mem_append_left _ (List.mem_of_mem_drop h)
        · exact List.mem_append_right _ h)⟩
      clear hh hn
      have k1 : (c == 1) = false := beq_eq_false_iff_ne.2 (by omega)
      have k2 : ¬ c = 1 := by omega
      go_enter Try.func15, Try.ntmps15
      go_wp2_with fail
      rw [← HW.out]
      (with_reducible refine K.out.mono ?_)
      rintro e w1 ⟨rfl, hb⟩
      have HT1 := Aside0.mk (HT.out.below hb)
      have HG1 := Aside0.mk (blk_below HG.out hb)
      have HZ1 := Aside0.mk (blk_below HZ.out hb)
      have HB1 := Aside0.mk (below_then HB.out HB.out.size hb)
      have HF0 := Aside0.mk (Below.refl w1.heap.size w1)
      have c0 : w1.cell? ⟨w.heap.size, 0, none⟩ = some (.int .i64 last) := (blk_cell HG1.out 0).trans rfl
      have c1 : w1.cell? ⟨w.heap.size, 1, none⟩ = some (.slice (some ⟨b, off, none⟩) 16 c) := (blk_cell HG1.out 1).trans rfl
      have HRD : Aside0 (∀ A' : Option Addr, A' = some ⟨b, off + 1, none⟩ → ReadsRow (fun x cs => cs = [.float .f64 x]) 1 w1 A' 15 (ts.drop 1)) := ⟨fun A' hA' => by subst hA'; have := Hlp.C_drop HT1.out.r 1 (by rw [HN.out]; omega); rw [HD.out] at this; exact this⟩
      clear hb
      go_wp2_with (first
        | ((with_reducible refine gate_builtin (b := .append) (xs := #[.tmp 17, .tmp 21]) rfl ?_); at_builtin; refine Kd.R_append_rows Opn.flt (Rr := fun x cs => cs = [.float .f64 x]) (w0 := w1) w1.heap.size rfl (.tmp 17) (.tmp 21) 23 30 (.float .f64 0) 8 rfl Try.underlying23 info30 rfl (by decide) (by omega) (.slice none 0 0) [] (ts.drop 1) _ 15 _ (fun _ => True) (fun _ => False) rfl rfl (Kd.R_nil _ _ _ _ _) (HRD.out _ (by rfl)) (fun _ _ h => h) (fun _ hk => hk.elim) (fun _ _ => trivial) HF0.out (Nat.le_refl _) ?aL ?_; (case aL => simp only [List.length_nil]; omega); intro v2 w2 ho hb hg hat; rw [List.nil_append] at ho; have HO2 := Aside0.mk ho; have HF2 := Aside0.mk hb; have q0 := pw_cell_below hb c0; clear ho hb hg hat)
        | ((with_reducible refine gate_builtin (b := .append) (xs := #[.tmp 23, .tmp 29]) rfl ?_); at_builtin; refine Kd.R_append Opn.flt (w0 := w1) w1.heap.size rfl (.tmp 23) (.tmp 29) 23 30 (.float .f64 0) 8 rfl Try.underlying23 info30 rfl (by decide) (by omega) v2 (ts.drop 1) (floatOfInt .f64 (wrap64 (now - last))) [.float .f64 (floatOfInt .f64 (wrap64 (now - last)))] (fun _ => True) (fun _ => False) rfl rfl rfl (fun _ hk => hk.elim) (fun _ _ => trivial) HO2.out HF2.out HF2.out.size ?aK ?_; (case aK => rw [HD.out]; omega); intro v4 w4 ho hb hg hat; have HO4 := Aside0.mk ho; have h14 := Aside0.mk hb; obtain ⟨A4, c4, e4, hc4⟩ := R_form_n (n := 16) ho (by rw [List.length_append, HD.out]; rfl) (by omega); subst e4; have HZ4 := Aside0.mk (blk_below HZ1.out hb); have z0 : w4.cell? ⟨w.heap.size + 1, 0, none⟩ = some (.int .i64 0) := (blk_cell HZ4.out 0).trans rfl; have z1 : w4.cell? ⟨w.heap.size + 1, 1, none⟩ = some (.slice none 0 0) := (blk_cell HZ4.out 1).trans rfl; have y0 : w4.frozen? ⟨w.heap.size + 1, 0, none⟩ = false := blk_frozen HZ4.out 0; have y1 : w4.frozen? ⟨w.heap.size + 1, 1, none⟩ = false := blk_frozen HZ4.out 1; clear ho hb hg hat))
      have HB4 := Aside0.mk (below_then HB1.out HB1.out.size h14.out)
      have HO5 := HO4.out
      rw [HY.out] at HO5
      have HE := heard_end HO5 HZ4.out (k := 0) (by omega) (by omega) HF.out (.int .i64 now) (.slice (some ⟨A4, 0, none⟩) 16 c4)
      rw [List.drop_zero] at HE
      refine bodyPost_ret (results_row_tmp rfl _ _ (w.heap.size + 1) _ rfl (run_loadVar_row _ (w.heap.size + 1) _ 25 #[.int .i64 now, .slice (some ⟨A4, 0, none⟩) 16 c4] (0, 0) _ (blk_set (blk_set HZ4.out 0 _) 1 _) Try.underlying25 rfl (by kernel_rfl))) rfl ?_
      rw [HP.out]
      refine ⟨some ⟨A4, 0, none⟩, c4, ?_, by rw [HH.out]; exact HE, (HB4.out.setCell (by simp) _).setCell (by simp) _⟩
      rw [HLn.out]; rfl
    · have HD : Aside0 ((ts.drop 0).length = n) := ⟨by rw [List.drop_zero, HN.out]⟩
      have hh : heardR last ts now = ts.drop 0 ++ [wi (now - last).toNat] := by
        unfold heardR; rw [HN.out, show n + 1 - 16 = 0 by omega, List.drop_zero, List.drop_zero]
      have HH := Aside0.mk hh
      have HLn : Aside0 ((heardR last ts now).length = n + 1) := ⟨by rw [hh, List.length_append, HD.out]; rfl⟩
      have HF : Aside0 (∀ x ∈ ts.drop 0 ++ [wi (now - last).toNat], x < full) := ⟨fun x hx => HF0.out x (by rwa [List.drop_zero] at hx)⟩
      have t16 : ((n : Int) == 16) = false := beq_eq_false_iff_ne.2 (by omega)
      clear hh hn
      rcases Nat.eq_zero_or_pos n with hz | hz
      · subst hz
        by_cases hc : c = 0
        · subst hc
          go_enter Try.func15, Try.ntmps15
          go_wp2_with fail
          rw [← HW.out]
          (with_reducible refine K.out.mono ?_)
          rintro e w1 ⟨rfl, hb⟩
          have HT1 := Aside0.mk (HT.out.below hb)
          have HG1 := Aside0.mk (blk_below HG.out hb)
          have HZ1 := Aside0.mk (blk_below HZ.out hb)
          have HB1 := Aside0.mk (below_then HB.out HB.out.size hb)
          have HF0 := Aside0.mk (Below.refl w1.heap.size w1)
          have c0 : w1.cell? ⟨w.heap.size, 0, none⟩ = some (.int .i64 last) := (blk_cell HG1.out 0).trans rfl
          have c1 : w1.cell? ⟨w.heap.size, 1, none⟩ = some (.slice A 0 0) := (blk_cell HG1.out 1).trans rfl
          have HRD : Aside0 (∀ A' : Option Addr, True → ReadsRow (fun x cs => cs = [.float .f64 x]) 1 w1 A' 0 (ts.drop 0)) := ⟨fun A' hA' => by rw [List.drop_zero, List.length_eq_zero_iff.1 HN.out]; exact Hlp.C_empty (enc := Value.float .f64) (h1 := fun _ => rfl)⟩
          clear hb
          go_wp2_with (first
            | ((with_reducible refine gate_builtin (b := .append) (xs := #[.tmp 17, .tmp 21]) rfl ?_); at_builtin; refine Kd.R_append_rows Opn.flt (Rr := fun x cs => cs = [.float .f64 x]) (w0 := w1) w1.heap.size rfl (.tmp 17) (.tmp 21) 23 30 (.float .f64 0) 8 rfl Try.underlying23 info30 rfl (by decide) (by omega) (.slice none 0 0) [] (ts.drop 0) _ 0 _ (fun _ => True) (fun _ => False) rfl rfl (Kd.R_nil _ _ _ _ _) (HRD.out _ (by trivial)) (fun _ _ h => h) (fun _ hk => hk.elim) (fun _ _ => trivial) HF0.out (Nat.le_refl _) ?aL ?_; (case aL => simp only [List.length_nil]; omega); intro v2 w2 ho hb hg hat; rw [List.nil_append] at ho; have HO2 := Aside0.mk ho; have HF2 := Aside0.mk hb; have q0 := pw_cell_below hb c0; clear ho hb hg hat)
            | ((with_reducible refine gate_builtin (b := .append) (xs := #[.tmp 23, .tmp 29]) rfl ?_); at_builtin; refine Kd.R_append Opn.flt (w0 := w1) w1.heap.size rfl (.tmp 23) (.tmp 29) 23 30 (.float .f64 0) 8 rfl Try.underlying23 info30 rfl (by decide) (by omega) v2 (ts.drop 0) (floatOfInt .f64 (wrap64 (now - last))) [.float .f64 (floatOfInt .f64 (wrap64 (now - last)))] (fun _ => True) (fun _ => False) rfl rfl rfl (fun _ hk => hk.elim) (fun _ _ => trivial) HO2.out HF2.out HF2.out.size ?aK ?_; (case aK => rw [HD.out]; omega); intro v4 w4 ho hb hg hat; have HO4 := Aside0.mk ho; have h14 := Aside0.mk hb; obtain ⟨A4, c4, e4, hc4⟩ := R_form_n (n := 1) ho (by rw [List.length_append, HD.out]; rfl) (by omega); subst e4; have HZ4 := Aside0.mk (blk_below HZ1.out hb); have z0 : w4.cell? ⟨w.heap.size + 1, 0, none⟩ = some (.int .i64 0) := (blk_cell HZ4.out 0).trans rfl; have z1 : w4.cell? ⟨w.heap.size + 1, 1, none⟩ = some (.slice none 0 0) := (blk_cell HZ4.out 1).trans rfl; have y0 : w4.frozen? ⟨w.heap.size + 1, 0, none⟩ = false := blk_frozen HZ4.out 0; have y1 : w4.frozen? ⟨w.heap.size + 1, 1, none⟩ = false := blk_frozen HZ4.out 1; clear ho hb hg hat))
          have HB4 := Aside0.mk (below_then HB1.out HB1.out.size h14.out)
          have HO5 := HO4.out
          rw [HY.out] at HO5
          have HE := heard_end HO5 HZ4.out (k := 0) (by omega) (by omega) HF.out (.int .i64 now) (.slice (some ⟨A4, 0, none⟩) 1 c4)
          rw [List.drop_zero] at HE
          refine bodyPost_ret (results_row_tmp rfl _ _ (w.heap.size + 1) _ rfl (run_loadVar_row _ (w.heap.size + 1) _ 25 #[.int .i64 now, .slice (some ⟨A4, 0, none⟩) 1 c4] (0, 0) _ (blk_set (blk_set HZ4.out 0 _) 1 _) Try.underlying25 rfl (by kernel_rfl))) rfl ?_
          rw [HP.out]
          refine ⟨some ⟨A4, 0, none⟩, c4, ?_, by rw [HH.out]; exact HE, (HB4.out.setCell (by simp) _).setCell (by simp) _⟩
          rw [HLn.out]; rfl
        · have k1 : (c == 0) = false := beq_eq_false_iff_ne.2 hc
          have k2 : ¬ c = 0 := hc
          go_enter Try.func15, Try.ntmps15
          go_wp2_with fail
          rw [← HW.out]
          (with_reducible refine K.out.mono ?_)
          rintro e w1 ⟨rfl, hb⟩
          have HT1 := Aside0.mk (HT.out.below hb)
          have HG1 := Aside0.mk (blk_below HG.out hb)
          have HZ1 := Aside0.mk (blk_below HZ.out hb)
          have HB1 := Aside0.mk (below_then HB.out HB.out.size hb)
          have HF0 := Aside0.mk (Below.refl w1.heap.size w1)
          have c0 : w1.cell? ⟨w.heap.size, 0, none⟩ = some (.int .i64 last) := (blk_cell HG1.out 0).trans rfl
          have c1 : w1.cell? ⟨w.heap.size, 1, none⟩ = some (.slice A 0 c) := (blk_cell HG1.out 1).trans rfl
          have HRD : Aside0 (∀ A' : Option Addr, True → ReadsRow (fun x cs => cs = [.float .f64 x]) 1 w1 A' 0 (ts.drop 0)) := ⟨fun A' hA' => by rw [List.drop_zero, List.length_eq_zero_iff.1 HN.out]; exact Hlp.C_empty (enc := Value.float .f64) (h1 := fun _ => rfl)⟩
          clear hb
          go_wp2_with (first
            | ((with_reducible refine gate_builtin (b := .append) (xs := #[.tmp 17, .tmp 21]) rfl ?_); at_builtin; refine Kd.R_append_rows Opn.flt (Rr := fun x cs => cs = [.float .f64 x]) (w0 := w1) w1.heap.size rfl (.tmp 17) (.tmp 21) 23 30 (.float .f64 0) 8 rfl Try.underlying23 info30 rfl (by decide) (by omega) (.slice none 0 0) [] (ts.drop 0) _ 0 _ (fun _ => True) (fun _ => False) rfl rfl (Kd.R_nil _ _ _ _ _) (HRD.out _ (by trivial)) (fun _ _ h => h) (fun _ hk => hk.elim) (fun _ _ => trivial) HF0.out (Nat.le_refl _) ?aL ?_; (case aL => simp only [List.length_nil]; omega); intro v2 w2 ho hb hg hat; rw [List.nil_append] at ho; have HO2 := Aside0.mk ho; have HF2 := Aside0.mk hb; have q0 := pw_cell_below hb c0; clear ho hb hg hat)
            | ((with_reducible refine gate_builtin (b := .append) (xs := #[.tmp 23, .tmp 29]) rfl ?_); at_builtin; refine Kd.R_append Opn.flt (w0 := w1) w1.heap.size rfl (.tmp 23) (.tmp 29) 23 30 (.float .f64 0) 8 rfl Try.underlying23 info30 rfl (by decide) (by omega) v2 (ts.drop 0) (floatOfInt .f64 (wrap64 (now - last))) [.float .f64 (floatOfInt .f64 (wrap64 (now - last)))] (fun _ => True) (fun _ => False) rfl rfl rfl (fun _ hk => hk.elim) (fun _ _ => trivial) HO2.out HF2.out HF2.out.size ?aK ?_; (case aK => rw [HD.out]; omega); intro v4 w4 ho hb hg hat; have HO4 := Aside0.mk ho; have h14 := Aside0.mk hb; obtain ⟨A4, c4, e4, hc4⟩ := R_form_n (n := 1) ho (by rw [List.length_append, HD.out]; rfl) (by omega); subst e4; have HZ4 := Aside0.mk (blk_below HZ1.out hb); have z0 : w4.cell? ⟨w.heap.size + 1, 0, none⟩ = some (.int .i64 0) := (blk_cell HZ4.out 0).trans rfl; have z1 : w4.cell? ⟨w.heap.size + 1, 1, none⟩ = some (.slice none 0 0) := (blk_cell HZ4.out 1).trans rfl; have y0 : w4.frozen? ⟨w.heap.size + 1, 0, none⟩ = false := blk_frozen HZ4.out 0; have y1 : w4.frozen? ⟨w.heap.size + 1, 1, none⟩ = false := blk_frozen HZ4.out 1; clear ho hb hg hat))
          have HB4 := Aside0.mk (below_then HB1.out HB1.out.size h14.out)
          have HO5 := HO4.out
          rw [HY.out] at HO5
          have HE := heard_end HO5 HZ4.out (k := 0) (by omega) (by omega) HF.out (.int .i64 now) (.slice (some ⟨A4, 0, none⟩) 1 c4)
          rw [List.drop_zero] at HE
          refine bodyPost_ret (results_row_tmp rfl _ _ (w.heap.size + 1) _ rfl (run_loadVar_row _ (w.heap.size + 1) _ 25 #[.int .i64 now, .slice (some ⟨A4, 0, none⟩) 1 c4] (0, 0) _ (blk_set (blk_set HZ4.out 0 _) 1 _) Try.underlying25 rfl (by kernel_rfl))) rfl ?_
          rw [HP.out]
          refine ⟨some ⟨A4, 0, none⟩, c4, ?_, by rw [HH.out]; exact HE, (HB4.out.setCell (by simp) _).setCell (by simp) _⟩
          rw [HLn.out]; rfl
      · obtain ⟨b, off, hA, _⟩ := Hlp.C_block HT.out.r (by rw [HN.out]; omega)
        subst hA
        have k1 : (c == 0) = false := beq_eq_false_iff_ne.2 (by omega)
        have k2 : ¬ c = 0 := by omega
        go_enter Try.func15, Try.ntmps15
        go_wp2_with fail
        rw [← HW.out]
        (with_reducible refine K.out.mono ?_)
        rintro e w1 ⟨rfl, hb⟩
        have HT1 := Aside0.mk (HT.out.below hb)
        have HG1 := Aside0.mk (blk_below HG.out hb)
        have HZ1 := Aside0.mk (blk_below HZ.out hb)
        have HB1 := Aside0.mk (below_then HB.out HB.out.size hb)
        have HF0 := Aside0.mk (Below.refl w1.heap.size w1)
        have c0 : w1.cell? ⟨w.heap.size, 0, none⟩ = some (.int .i64 last) := (blk_cell HG1.out 0).trans rfl
        have c1 : w1.cell? ⟨w.heap.size, 1, none⟩ = some (.slice (some ⟨b, off, none⟩) n c) := (blk_cell HG1.out 1).trans rfl
        have HRD : Aside0 (∀ A' : Option Addr, A' = some ⟨b, off, none⟩ → ReadsRow (fun x cs => cs = [.float .f64 x]) 1 w1 A' n (ts.drop 0)) := ⟨fun A' hA' => by subst hA'; have := HT1.out.r; rw [HN.out] at this; exact this⟩
        clear hb
        go_wp2_with (first
          | ((with_reducible refine gate_builtin (b := .append) (xs := #[.tmp 17, .tmp 21]) rfl ?_); at_builtin; refine Kd.R_append_rows Opn.flt (Rr := fun x cs => cs = [.float .f64 x]) (w0 := w1) w1.heap.size rfl (.tmp 17) (.tmp 21) 23 30 (.float .f64 0) 8 rfl Try.underlying23 info30 rfl (by decide) (by omega) (.slice none 0 0) [] (ts.drop 0) _ n _ (fun _ => True) (fun _ => False) rfl rfl (Kd.R_nil _ _ _ _ _) (HRD.out _ (by rfl)) (fun _ _ h => h) (fun _ hk => hk.elim) (fun _ _ => trivial) HF0.out (Nat.le_refl _) ?aL ?_; (case aL => simp only [List.length_nil]; omega); intro v2 w2 ho hb hg hat; rw [List.nil_append] at ho; have HO2 := Aside0.mk ho; have HF2 := Aside0.mk hb; have q0 := pw_cell_below hb c0; clear ho hb hg hat)
          | ((with_reducible refine gate_builtin (b := .append) (xs := #[.tmp 23, .tmp 29]) rfl ?_); at_builtin; refine Kd.R_append Opn.flt (w0 := w1) w1.heap.size rfl (.tmp 23) (.tmp 29) 23 30 (.float .f64 0) 8 rfl Try.underlying23 info30 rfl (by decide) (by omega) v2 (ts.drop 0) (floatOfInt .f64 (wrap64 (now - last))) [.float .f64 (floatOfInt .f64 (wrap64 (now - last)))] (fun _ => True) (fun _ => False) rfl rfl rfl (fun _ hk => hk.elim) (fun _ _ => trivial) HO2.out HF2.out HF2.out.size ?aK ?_; (case aK => rw [HD.out]; omega); intro v4 w4 ho hb hg hat; have HO4 := Aside0.mk ho; have h14 := Aside0.mk hb; obtain ⟨A4, c4, e4, hc4⟩ := R_form_n (n := (n + 1)) ho (by rw [List.length_append, HD.out]; rfl) (by omega); subst e4; have HZ4 := Aside0.mk (blk_below HZ1.out hb); have z0 : w4.cell? ⟨w.heap.size + 1, 0, none⟩ = some (.int .i64 0) := (blk_cell HZ4.out 0).trans rfl; have z1 : w4.cell? ⟨w.heap.size + 1, 1, none⟩ = some (.slice none 0 0) := (blk_cell HZ4.out 1).trans rfl; have y0 : w4.frozen? ⟨w.heap.size + 1, 0, none⟩ = false := blk_frozen HZ4.out 0; have y1 : w4.frozen? ⟨w.heap.size + 1, 1, none⟩ = false := blk_frozen HZ4.out 1; clear ho hb hg hat))
        have HB4 := Aside0.mk (below_then HB1.out HB1.out.size h14.out)
        have HO5 := HO4.out
        rw [HY.out] at HO5
        have HE := heard_end HO5 HZ4.out (k := 0) (by omega) (by omega) HF.out (.int .i64 now) (.slice (some ⟨A4, 0, none⟩) (n + 1) c4)
        rw [List.drop_zero] at HE
        refine bodyPost_ret (results_row_tmp rfl _ _ (w.heap.size + 1) _ rfl (run_loadVar_row _ (w.heap.size + 1) _ 25 #[.int .i64 now, .slice (some ⟨A4, 0, none⟩) (n + 1) c4] (0, 0) _ (blk_set (blk_set HZ4.out 0 _) 1 _) Try.underlying25 rfl (by kernel_rfl))) rfl ?_
        rw [HP.out]
        refine ⟨some ⟨A4, 0, none⟩, c4, ?_, by rw [HH.out]; exact HE, (HB4.out.setCell (by simp) _).setCell (by simp) _⟩
        rw [HLn.out]; rfl
  · rw [he] at K
    have HP : Aside0 (∀ e w', HeardPost last ts now w e w' = (e = .returned (.tuple #[.agg #[.int .i64 0, .slice none 0 0], .int .i64 2]) ∧ Below w.heap.size w w')) := ⟨fun e w' => if_neg ho⟩
    clear ho he hn
    go_enter Try.func15, Try.ntmps15
    go_wp2_with fail
    rw [← HW.out]
    (with_reducible refine K.out.mono ?_)
    rintro e w1 ⟨rfl, hb⟩
    have HZ1 := Aside0.mk (blk_below HZ.out hb)
    have HB1 := Aside0.mk (below_then HB.out HB.out.size hb)
    have z0 : w1.cell? ⟨w.heap.size + 1, 0, none⟩ = some (.int .i64 0) := (blk_cell HZ1.out 0).trans rfl
    have z1 : w1.cell? ⟨w.heap.size + 1, 1, none⟩ = some (.slice none 0 0) := (blk_cell HZ1.out 1).trans rfl
    have y0 : w1.frozen? ⟨w.heap.size + 1, 0, none⟩ = false := blk_frozen HZ1.out 0
    have y1 : w1.frozen? ⟨w.heap.size + 1, 1, none⟩ = false := blk_frozen HZ1.out 1
    clear hb
    go_wp2_with fail
    refine bodyPost_ret (results_row_tmp rfl _ _ (w.heap.size + 1) _ rfl (run_loadVar_row _ (w.heap.size + 1) _ 25 #[.int .i64 0, .slice none 0 0] (0, 0) _ (blk_set (blk_set HZ1.out 0 _) 1 _) Try.underlying25 rfl (by kernel_rfl))) rfl ?_
    rw [HP.out]
    exact ⟨rfl, (HB1.out.setCell (by simp) _).setCell (by simp) _⟩
end Go.Proofs.Ytlifioeeooclfaa.Rl
