/- The contract of msgs.Bytes. Conditions: the table lies in its variable; bytes are bytes. · Messages read, plain; and the block in which msgs.get lays one, beside the reader. Conditions: none. -/
import Derived.Test.YthaoiamgkpkcbaaDoorYMsgsReads14

namespace Go.Proofs.YthaoiamgkpkcbaaDoor.Ms
open Go.ChangeShapes Go.WideShapes Go.ChangeAt Go.RowKit Go.Proofs.YthaoiamgkpkcbaaDoor.Pk Go.Proofs.YthaoiamgkpkcbaaDoor.Tg Go.Proofs.YthaoiamgkpkcbaaDoor.Enc Go.Proofs.YthaoiamgkpkcbaaDoor.EncC Go.Proofs.YthaoiamgkpkcbaaDoor.EncP
open Go.Proofs.YthaoiamgkpkcbaaDoor.Hlp Go.Proofs.YthaoiamgkpkcbaaDoor.Wrd Go.Proofs.YthaoiamgkpkcbaaDoor.Lex Go.Proofs.YthaoiamgkpkcbaaDoorW.PrintWords Go.Proofs.YthaoiamgkpkcbaaDoorW.PrintLast Go.Proofs.YthaoiamgkpkcbaaDoorW.PrintMore
set_option linter.unusedVariables false
set_option linter.unusedSimpArgs false
theorem lit1 {w wi : World} {m : Ms} {p : Pl} {g : Nat} {acc ys : List Int} (x : Int) (h : Sb w wi m p g acc) (hy : acc ++ catB [x] = ys) (hl : acc.length ≤ 17592186000000) :
    Calls Tryd.prog 28 #[.slice (some ⟨wi.heap.size, 0, none⟩) 1 1, .pointer (some ⟨g, 0, none⟩)] (wi.alloc (.cells #[.int .i64 x] 3)) fun e w' => e = .returned (.tuple #[]) ∧ Sb w w' m p g ys :=
  nums_lit [x] h rfl rfl (by decide) hy (by simp; omega) (by simp)
theorem lit3 {w wi : World} {m : Ms} {p : Pl} {g : Nat} {acc ys : List Int} (x y z : Int) (h : Sb w wi m p g acc) (hy : acc ++ catB [x, y, z] = ys) (hl : acc.length ≤ 17592186000000) :
    Calls Tryd.prog 28 #[.slice (some ⟨wi.heap.size, 0, none⟩) 3 3, .pointer (some ⟨g, 0, none⟩)] (wi.alloc (.cells #[.int .i64 x, .int .i64 y, .int .i64 z] 3)) fun e w' => e = .returned (.tuple #[]) ∧ Sb w w' m p g ys :=
  nums_lit [x, y, z] h rfl rfl (by decide) hy (by simp; omega) (by simp)
theorem lit5 {w wi : World} {m : Ms} {p : Pl} {g : Nat} {acc ys : List Int} (x y z u v : Int) (h : Sb w wi m p g acc) (hy : acc ++ catB [x, y, z, u, v] = ys) (hl : acc.length ≤ 17592186000000) :
    Calls Tryd.prog 28 #[.slice (some ⟨wi.heap.size, 0, none⟩) 5 5, .pointer (some ⟨g, 0, none⟩)] (wi.alloc (.cells #[.int .i64 x, .int .i64 y, .int .i64 z, .int .i64 u, .int .i64 v] 3)) fun e w' => e = .returned (.tuple #[]) ∧ Sb w w' m p g ys :=
  nums_lit [x, y, z, u, v] h rfl rfl (by decide) hy (by simp; omega) (by simp)
theorem lens (m : Ms) (ok : Okm m) : (b1 m).length ≤ 45 ∧ (b2 m).length ≤ 54 ∧ (b3 m).length ≤ 55 ∧ (b4 m).length ≤ 61055 ∧ (b5 m).length ≤ 61061064 := by
  have l1 : (b1 m).length ≤ 45 := catB_len [m.kind, m.fr, m.dst, m.ep, m.op]
  have l2 : (b2 m).length ≤ 54 := by
    unfold b2; rw [List.length_append]
    have h2 : (catB [m.n]).length ≤ 9 := catB_len [m.n]
    split
    · omega
    · simp; omega
  have l3 : (b3 m).length ≤ 55 := by
    unfold b3; rw [List.length_append]
    have h2 : (truthB m.f).length = 1 := by unfold truthB; split <;> rfl
    split
    · omega
    · simp; omega
  have l4 : (b4 m).length ≤ 61055 := by
    unfold b4; rw [List.length_append]
    split
    · rename_i h; have := entX_len m.e (ok.e1 h); omega
    · simp; omega
  have l5 : (b5 m).length ≤ 61061064 := by
    unfold b5; rw [List.length_append]
    have h1 := entL_len m.L ok.all
    have h3 := ok.len
    have h2 : (catB [(m.L.length : Int)]).length ≤ 9 := catB_len [(m.L.length : Int)]
    split
    · rw [List.length_append]; omega
    · simp; omega
  exact ⟨l1, l2, l3, l4, l5⟩
set_option maxHeartbeats 4000000 in
set_option maxRecDepth 100000 in
theorem bytes_ok {w : World} {m : Ms} {p : Pl} (hK : Kin w) (hm : Lies w m p) (hv : Bytes m.e.f2.f1) (hR : m.R.length < 9223372036854775807) (ok : Okm m) :
    Calls Tryd.prog 12 #[.agg (m.val p)] w (Made2 w (bytesM m) 0) := by
  obtain ⟨vA, vc, lA, lc, rA, rc⟩ := p
  have hbn := blk_new w (.cells (m.val ⟨vA, vc, lA, lc, rA, rc⟩) 34)
  have HBN := Aside0.mk hbn
  have HW := Aside0.mk (below_alloc (Below.refl w.heap.size w) (.cells (m.val ⟨vA, vc, lA, lc, rA, rc⟩) 34))
  have HK := Aside0.mk (hK.below HW.out)
  have HM := Aside0.mk hm
  have HKw := Aside0.mk hK
  have HV := Aside0.mk hv
  have HL := Aside0.mk hR
  have OK := Aside0.mk ok
  have HC : Aside0 (checkM m = 0) := ⟨if_pos ((okm_iff m).2 ok)⟩
  clear hK hm hv hbn hR ok
  go_enter Tryd.func12, Tryd.ntmps12
  go_upto_region 1 with fail
  generalize w.alloc (.cells (m.val ⟨vA, vc, lA, lc, rA, rc⟩) 34) = W at *
  go_upto_region 4 with (first | (refine wpList_load_row rfl 34 (.tmp 1) rfl w.heap.size rfl 34 (m.val ⟨vA, vc, lA, lc, rA, rc⟩) (0, 0) _ HBN.out Tryd.underlying34 rfl (by kernel_rfl) ?_) | (go_at_call 15; (with_reducible refine (check_ HK.out (HM.out.below HW.out) HV.out HL.out).mono ?_); rw [HC.out]; rintro e w1 ⟨rfl, hb⟩; have HB1 := Aside0.mk hb; clear hb))
  have HBN1 := Aside0.mk ((HB1.out.block w.heap.size (blk_lt HBN.out)).trans HBN.out)
  have HW1 := Aside0.mk (HW.out.trans (HB1.out.mono HW.out.size))
  clear HBN
  go_upto_region 7 with fail
  obtain ⟨g, hg⟩ : ∃ g, w1.heap.size = g := ⟨_, rfl⟩
  have hbx := blk_new w1 (.cells #[.slice none 0 0] 24)
  have HBN2 := Aside0.mk (blk_alloc HBN1.out (.cells #[.slice none 0 0] 24))
  have HW2 := Aside0.mk (below_alloc HW1.out (.cells #[.slice none 0 0] 24))
  have hgm : w.heap.size < w1.heap.size := blk_lt HBN1.out
  rw [hg] at hbx hgm ⊢
  generalize w1.alloc (.cells #[.slice none 0 0] 24) = w2 at *
  have HS : Aside0 (Sb w w2 m ⟨vA, vc, lA, lc, rA, rc⟩ g []) := ⟨⟨none, 0, hbx, Kd.R_nil _ _ _ _ _⟩, HBN2.out, HW2.out, hgm⟩
  clear hbx hg HBN1 HW1 HB1 HK HW w1 HBN2 HW2 hgm
  obtain ⟨b, hb⟩ : ∃ b, hasV m.kind = b := ⟨_, rfl⟩
  have HH := Aside0.mk hb
  have H2 : Aside0 (b2 m = b1 m ++ (if b.n = true then catB [m.n] else [])) := ⟨by unfold b2; rw [hb]⟩
  have H3 : Aside0 (b3 m = b2 m ++ (if b.f = true then truthB m.f else [])) := ⟨by unfold b3; rw [hb]⟩
  have H4 : Aside0 (b4 m = b3 m ++ (if b.e = true then entX m.e else [])) := ⟨by unfold b4; rw [hb]⟩
  have H5 : Aside0 (b5 m = b4 m ++ (if b.l = true then catB [(m.L.length : Int)] ++ entL m.L else [])) := ⟨by unfold b5; rw [hb]⟩
  have H6 : Aside0 (bytesM m = b5 m ++ (if b.r = true then catB [m.each, m.keep, (m.R.length : Int)] ++ catB m.R else [])) := ⟨by unfold bytesM; rw [hb]⟩
  have HE : Aside0 (b.e = true → okE m.e) := ⟨by rw [← hb]; exact OK.out.e1⟩
  have HRg : Aside0 (b.r = true → m.R.length ≤ 64) := ⟨by rw [← hb]; exact fun h => ring_len (OK.out.r1 h)⟩
  have LL := Aside0.mk (lens m OK.out)
  have HAll := Aside0.mk OK.out.all
  have HLen := Aside0.mk OK.out.len
  clear OK
  obtain ⟨bn, bf, be, bl, br⟩ := b
  clear hb
  have HY1 : Aside0 ([] ++ catB [m.kind, m.fr, m.dst, m.ep, m.op] = b1 m) := ⟨rfl⟩
  have hl1 : (b1 m).length ≤ 17592186000000 := Nat.le_trans LL.out.1 (by decide)
  have hl2 : (b2 m).length ≤ 17592186000000 := Nat.le_trans LL.out.2.1 (by decide)
  have hl3 : (b3 m).length ≤ 17592186000000 := Nat.le_trans LL.out.2.2.1 (by decide)
  have hl4 : (b4 m).length ≤ 17592186000000 := Nat.le_trans LL.out.2.2.2.1 (by decide)
  have hl5 : (b5 m).length ≤ 17592186000000 := Nat.le_trans LL.out.2.2.2.2 (by decide)
  have c0 := (blk_cell HS.out.blk 0).trans (show _ = some (Value.int .i64 m.kind) from rfl)
  have c1 := (blk_cell HS.out.blk 1).trans (show _ = some (Value.int .i64 m.fr) from rfl)
  have c2 := (blk_cell HS.out.blk 2).trans (show _ = some (Value.int .i64 m.dst) from rfl)
  have c3 := (blk_cell HS.out.blk 3).trans (show _ = some (Value.int .i64 m.ep) from rfl)
  have c4 := (blk_cell HS.out.blk 4).trans (show _ = some (Value.int .i64 m.op) from rfl)
  go_upto_region 8 with (go_at_call 28; (with_reducible refine (lit5 m.kind m.fr m.dst m.ep m.op HS.out HY1.out (Nat.zero_le _)).mono ?_); rintro e w3 ⟨rfl, hs⟩; have HS3 := Aside0.mk hs; clear hs)
  clear c0 c1 c2 c3 c4 HS
  have c0 := (blk_cell HS3.out.blk 0).trans (show _ = some (Value.int .i64 m.kind) from rfl)
  go_upto_if 44 with (go_at_call 23; (with_reducible refine (has_ _ _ (HKw.out.below HS3.out.up)).mono ?_); rw [HH.out, show hasR ⟨bn, bf, be, bl, br⟩ = .tuple #[.bool bn, .bool bf, .bool be, .bool bl, .bool br] from rfl]; rintro e w4 ⟨rfl, hb⟩; have HS4 := Aside0.mk (HS3.out.below hb); clear hb)
  clear c0 HS3 w3
  have c5 := (blk_cell HS4.out.blk 5).trans (show _ = some (Value.int .i64 m.n) from rfl)
  have HY2 : Aside0 (b1 m ++ catB [m.n] = b1 m ++ catB [m.n]) := ⟨rfl⟩
  go_cut [8] (fun v8 wc => v8 = .bool bn ∧ Aside0 (Sb w wc m ⟨vA, vc, lA, lc, rA, rc⟩ g (b2 m)))
  case first =>
    cases bn
    · go_wp2_with fail
      go_meet
      exact ⟨rfl, ⟨by rw [H2.out, if_neg (by decide), List.append_nil]; exact HS4.out⟩⟩
    · go_wp2_with (go_at_call 28; (with_reducible refine (lit1 m.n HS4.out HY2.out hl1).mono ?_); rintro e w5 ⟨rfl, hs⟩; have HS5 := Aside0.mk hs; clear hs)
      go_meet
      exact ⟨rfl, ⟨by rw [H2.out]; simp only [if_true]; exact HS5.out⟩⟩
  case rest =>
    obtain ⟨rfl, HS5⟩ := hcut
    clear c5 HS4 HY2
    go_upto_if 50 with fail
    obtain ⟨w5, hw5⟩ : ∃ w5, w5 = wc := ⟨_, rfl⟩
    subst hw5
    clear w4
    go_cut [9] (fun v9 wc => v9 = .bool bf ∧ Aside0 (Sb w wc m ⟨vA, vc, lA, lc, rA, rc⟩ g (b3 m)))
    case first =>
      cases bf
      · go_wp2_with fail
        go_meet
        exact ⟨rfl, ⟨by rw [H3.out, if_neg (by decide), List.append_nil]; exact HS5.out⟩⟩
      · have c6 := (blk_cell HS5.out.blk 6).trans (show _ = some (Value.bool m.f) from rfl)
        obtain ⟨A1, k1, hb1, hr1⟩ := HS5.out.out
        obtain ⟨ys, hys⟩ : ∃ ys, b2 m = ys := ⟨_, rfl⟩
        rw [hys] at hb1 hr1 hl2
        have HYS := Aside0.mk hys
        have o0 : w5.cell? ⟨g, 0, none⟩ = some (.slice A1 ys.length k1) := (blk_cell hb1 0).trans rfl
        have of := blk_frozen hb1 0
        have HB1 := Aside0.mk hb1
        have HR1 := Aside0.mk hr1
        have HGs : Aside0 (g < w5.heap.size) := ⟨blk_lt hb1⟩
        have hgm := HS5.out.lt
        clear hb1 hr1 hys
        go_wp2_with fail
        go_region_law (first
          | (go_simp; go_at_call 32; (with_reducible refine (truth_c _ _).mono ?_); rintro e w6 ⟨vn, rfl, hn, hb⟩; obtain ⟨An, cn, evn, hcn, hnr⟩ := Kd.R_reads hn; subst evn; have HN := Aside0.mk hnr; have HB2 : Aside0 (w6.heap[g]? = some (.cells #[.slice A1 ys.length k1] 24 (0, 0))) := ⟨(hb.block g (blk_lt HB1.out)).trans HB1.out⟩; have HR2 : Aside0 (Kd.R (Kd.int .u8) 5 w6 (g + 1) (fun _ => True) (.slice A1 ys.length k1) ys) := ⟨Kd.R_below (by first | exact Kd.R_drew HR1.out | exact HR1.out) hb⟩; have hb' : Below w5.heap.size w5 w6 := ⟨hb.os, hb.tape, hb.output, hb.size, hb.block⟩; have HK2 : Aside0 (KeptF w5 w6 w.heap.size g) := ⟨KeptF.below hb' HS5.out.up.size⟩; have o2 : w6.cell? ⟨g, 0, none⟩ = some (.slice A1 ys.length k1) := (blk_cell HB2.out 0).trans rfl; have c62 := pw_cell_below hb' c6; clear hn hnr hb hb')
          | (refine Kd.R_append_rows_step (Kd.int .u8) (g + 1) (by rfl) _ _ 24 5 (.int .u8 0) 1 (by rfl) Tryd.underlying24 info8 rfl (by decide) (by omega) (.slice A1 ys.length k1) ys (truthB m.f) _ _ _ (fun _ => True) (fun _ => False) (by rfl) (by rfl) HR2.out HN.out (fun _ _ h => h) (fun _ h => h.elim) (fun _ _ => trivial) (Below.refl _ _) ?a3 ?a4 ?_; (case a3 => exact blk_lt HB2.out); (case a4 => have h1 : (truthB m.f).length = 1 := (by unfold truthB; split <;> rfl); omega); intro v1 w7 ho hb4 hgr hat; obtain ⟨A4, k4, e4⟩ := Kd.R_slice ho; subst e4; have HA4 := Aside0.mk ho; have HO4 := Aside0.mk (blk_apart HR2.out HB2.out (by decide) hgr); have y0 : w7.cell? ⟨g, 0, none⟩ = some (.slice A1 ys.length k1) := (blk_cell HO4.out 0).trans rfl; have y1 := blk_frozen HO4.out 0; have HG4 := Aside0.mk (KeptF.grown HR2.out hgr (Nat.le_of_lt hgm) (by have := HK2.out.2.1; have := HGs.out; omega)); clear ho hgr hat hb4))
        all_goals
          go_wp2_with fail
          go_meet
          refine ⟨rfl, ⟨?_⟩⟩
          rw [H3.out]
          simp only [if_true]
          rw [HYS.out]
          exact HS5.out.step ⟨A4, k4, by rw [List.length_append]; exact blk_set HO4.out 0 _, R_farg HA4.out (Nat.lt_succ_self g) 0 _⟩ (HK2.out.trans (HG4.out.trans (KeptF.set (Nat.le_of_lt hgm) 0 _)))
    case rest =>
      obtain ⟨rfl, HS6⟩ := hcut
      clear HS5
      go_upto_if 56 with fail
      obtain ⟨w6, hw6⟩ : ∃ w6, w6 = wc := ⟨_, rfl⟩
      subst hw6
      clear w5
      go_cut [10] (fun v10 wc => v10 = .bool be ∧ Aside0 (Sb w wc m ⟨vA, vc, lA, lc, rA, rc⟩ g (b4 m)))
      case first =>
        cases be
        · go_wp2_with fail
          go_meet
          exact ⟨rfl, ⟨by rw [H4.out, if_neg (by decide), List.append_nil]; exact HS6.out⟩⟩
        · have c7 := (blk_cell HS6.out.blk 7).trans (show _ = some (Value.string m.e.f0) from rfl)
          have c8 := (blk_cell HS6.out.blk 8).trans (show _ = some (Value.int .i64 m.e.f1.f0) from rfl)
          have c9 := (blk_cell HS6.out.blk 9).trans (show _ = some (Value.int .i64 m.e.f1.f1) from rfl)
          have c10 := (blk_cell HS6.out.blk 10).trans (show _ = some (Value.int .i64 m.e.f1.f2) from rfl)
          have c11 := (blk_cell HS6.out.blk 11).trans (show _ = some (Value.bool m.e.f2.f0) from rfl)
          have c12 := (blk_cell HS6.out.blk 12).trans (show _ = some (Value.slice vA m.e.f2.f1.length vc) from rfl)
          have HY : Aside0 (b3 m ++ entX m.e = b3 m ++ entX m.e) := ⟨rfl⟩
          have hl3' : (b3 m).length + 61000 ≤ 17592186044415 := by have := LL.out.2.2.1; omega
          go_wp2_with (go_at_call 30; (with_reducible refine (entry_s m.e (HE.out rfl) HS6.out (Kd.C_below HM.out.v HS6.out.up) HM.out.vc HY.out hl3').mono ?_); rintro e w7 ⟨rfl, hs⟩; have HS7 := Aside0.mk hs; clear hs)
          go_meet
          exact ⟨rfl, ⟨by rw [H4.out]; simp only [if_true]; exact HS7.out⟩⟩
      case rest =>
        obtain ⟨rfl, HS7⟩ := hcut
        clear HS6
        go_upto_if 61 with fail
        obtain ⟨w7, hw7⟩ : ∃ w7, w7 = wc := ⟨_, rfl⟩
        subst hw7
        clear w6
        go_cut [11] (fun v11 wc => v11 = .bool bl ∧ Aside0 (Sb w wc m ⟨vA, vc, lA, lc, rA, rc⟩ g (b5 m)))
        case first =>
          cases bl
          · go_wp2_with fail
            go_meet
            exact ⟨rfl, ⟨by rw [H5.out, if_neg (by decide), List.append_nil]; exact HS7.out⟩⟩
          · have c13 := (blk_cell HS7.out.blk 13).trans (show _ = some (Value.slice lA m.L.length lc) from rfl)
            have HY : Aside0 (b4 m ++ catB [(m.L.length : Int)] = b4 m ++ catB [(m.L.length : Int)]) := ⟨rfl⟩
            have hml := HLen.out
            go_upto_region 17 with (go_at_call 28; (with_reducible refine (lit1 (m.L.length : Int) HS7.out HY.out hl4).mono ?_); rintro e w8 ⟨rfl, hs⟩; have HS8 := Aside0.mk hs; clear hs)
            have hl6 : (b4 m ++ catB [(m.L.length : Int)]).length ≤ 61100 := by rw [List.length_append]; have h2 : (catB [(m.L.length : Int)]).length ≤ 9 := catB_len [(m.L.length : Int)]; have := LL.out.2.2.2.1; omega
            obtain ⟨ys, hys⟩ : ∃ ys, b4 m ++ catB [(m.L.length : Int)] = ys := ⟨_, rfl⟩
            rw [hys] at HS8 hl6
            have H5b : Aside0 (b5 m = ys ++ entL m.L) := ⟨by rw [H5.out]; simp only [if_true]; rw [← hys, List.append_assoc]⟩
            clear c13 hys HY
            have c13 := (blk_cell HS8.out.blk 13).trans (show _ = some (Value.slice lA m.L.length lc) from rfl)
            go_wp2_with fail
            clear c13
            go_loopg [71] m.L.length (fun q v71 w' => ∃ k : Nat, k ≤ m.L.length ∧ v71 = .int .i64 k ∧ q = m.L.length - k ∧ Aside0 (Sb w w' m ⟨vA, vc, lA, lc, rA, rc⟩ g (ys ++ entL (m.L.take k))))
            case atStart => exact ⟨0, Nat.zero_le _, rfl, rfl, ⟨by simpa [entL] using HS8.out⟩⟩
            case round =>
              obtain ⟨k, hk, rfl, rfl, HSk⟩ := hrel
              by_cases hlt : k < m.L.length
              · have t2 : decide (k < m.L.length) = true := decide_eq_true hlt
                obtain ⟨ad, A5, c5, eA, h1, h2, h3, h4, h5, h6, h7, h8⟩ := at_E (Kd.C_below HM.out.l HSk.out.up) k hlt
                have hx : okE m.L[k] := HAll.out _ (List.getElem_mem hlt)
                have HY : Aside0 ((ys ++ entL (m.L.take k)) ++ entX m.L[k] = ys ++ entL (m.L.take (k + 1))) := ⟨by rw [List.take_succ_eq_append_getElem hlt, entL_snoc, List.append_assoc]⟩
                have hlk : (ys ++ entL (m.L.take k)).length + 61000 ≤ 17592186044415 := by
                  have h9 := entL_len (m.L.take k) (fun x hx => HAll.out x (List.mem_of_mem_take hx))
                  rw [List.length_take] at h9
                  rw [List.length_append]; omega
                have HX := Aside0.mk hx
                have HC := Aside0.mk h8
                clear hx h8
                obtain rfl : lA = some ad := eA
                go_wp2_with (go_at_call 30; (with_reducible refine (entry_s m.L[k] HX.out (HSk.out.below (below_alloc (Below.refl _ _) _)) (Kd.C_alloc HC.out _) h7 HY.out hlk).mono ?_); rintro e w9 ⟨rfl, hs⟩; have HS9 := Aside0.mk hs; clear hs)
                go_roundg (m.L.length - (k + 1))
                case measure => omega
                case rel => exact ⟨k + 1, by omega, by go_num, rfl, HS9⟩
              · have t2 : decide (k < m.L.length) = false := decide_eq_false hlt
                obtain rfl : k = m.L.length := by omega
                go_wp2_with fail
                go_meet
                exact ⟨rfl, ⟨by rw [H5b.out]; have := HSk.out; rwa [List.take_length] at this⟩⟩
        case rest =>
          obtain ⟨rfl, HS8⟩ := hcut
          go_upto_if 79 with fail
          obtain ⟨w8, hw8⟩ : ∃ w8, w8 = wc := ⟨_, rfl⟩
          subst hw8
          clear w7 HS7
          go_cut [12] (fun v12 wc => v12 = .bool br ∧ Aside0 (Sb w wc m ⟨vA, vc, lA, lc, rA, rc⟩ g (bytesM m)))
          case first =>
            cases br
            · go_wp2_with fail
              go_meet
              exact ⟨rfl, ⟨by rw [H6.out, if_neg (by decide), List.append_nil]; exact HS8.out⟩⟩
            · have c14 := (blk_cell HS8.out.blk 14).trans (show _ = some (Value.slice rA m.R.length rc) from rfl)
              have c15 := (blk_cell HS8.out.blk 15).trans (show _ = some (Value.int .i64 m.each) from rfl)
              have c16 := (blk_cell HS8.out.blk 16).trans (show _ = some (Value.int .i64 m.keep) from rfl)
              have HY : Aside0 (b5 m ++ catB [m.each, m.keep, (m.R.length : Int)] = b5 m ++ catB [m.each, m.keep, (m.R.length : Int)]) := ⟨rfl⟩
              have hrl : m.R.length ≤ 64 := HRg.out rfl
              go_upto_region 24 with (go_at_call 28; (with_reducible refine (lit3 m.each m.keep (m.R.length : Int) HS8.out HY.out hl5).mono ?_); rintro e w9 ⟨rfl, hs⟩; have HS9 := Aside0.mk hs; clear hs)
              have hl6 : (b5 m ++ catB [m.each, m.keep, (m.R.length : Int)]).length ≤ 70000000 := by rw [List.length_append]; have h2 : (catB [m.each, m.keep, (m.R.length : Int)]).length ≤ 27 := catB_len [m.each, m.keep, (m.R.length : Int)]; have := LL.out.2.2.2.2; omega
              obtain ⟨ys, hys⟩ : ∃ ys, b5 m ++ catB [m.each, m.keep, (m.R.length : Int)] = ys := ⟨_, rfl⟩
              rw [hys] at HS9 hl6
              have H6b : Aside0 (ys ++ catB m.R = bytesM m) := ⟨by rw [H6.out]; simp only [if_true]; rw [← hys, List.append_assoc]⟩
              have hl7 : ys.length + 9 * m.R.length ≤ 17592186044415 := by omega
              clear c14 c15 c16 hys HY
              have c14 := (blk_cell HS9.out.blk 14).trans (show _ = some (Value.slice rA m.R.length rc) from rfl)
              go_wp2_with (go_at_call 28; (with_reducible refine (nums_arg m.R HS9.out HM.out.r HM.out.rc H6b.out hl7).mono ?_); rintro e wa ⟨rfl, hs⟩; have HSa := Aside0.mk hs; clear hs)
              go_meet
              exact ⟨rfl, HSa⟩
          case rest =>
            obtain ⟨rfl, HS9⟩ := hcut
            obtain ⟨A1, k1, hb1, hr1⟩ := HS9.out.out
            have o0 : wc.cell? ⟨g, 0, none⟩ = some (.slice A1 (bytesM m).length k1) := (blk_cell hb1 0).trans rfl
            have HR1 := Aside0.mk hr1
            clear hb1 hr1
            go_wp2_with fail
            go_ret2
            have hlt := HS9.out.lt
            exact ⟨_, rfl, Kd.R_lower HR1.out (by omega), HS9.out.up⟩
end Go.Proofs.YthaoiamgkpkcbaaDoor.Ms
namespace Go.Proofs.YthaoiamgkpkcbaaDoor.Ms
open Go.ChangeShapes Go.WideShapes Go.ChangeAt Go.RowKit Go.Proofs.YthaoiamgkpkcbaaDoor.Pk Go.Proofs.YthaoiamgkpkcbaaDoor.Tg Go.Proofs.YthaoiamgkpkcbaaDoor.Enc Go.Proofs.YthaoiamgkpkcbaaDoor.EncC Go.Proofs.YthaoiamgkpkcbaaDoor.EncP
open Go.Proofs.YthaoiamgkpkcbaaDoor.Hlp Go.Proofs.YthaoiamgkpkcbaaDoor.Wrd Go.Proofs.YthaoiamgkpkcbaaDoor.Lex Go.Proofs.YthaoiamgkpkcbaaDoorW.PrintWords Go.Proofs.YthaoiamgkpkcbaaDoorW.PrintLast Go.Proofs.YthaoiamgkpkcbaaDoorW.PrintMore
set_option linter.unusedVariables false
set_option linter.unusedSimpArgs false
/-- an entry read, as a message holds it -/
def toE (x : En) : E6 := ⟨strOfNums x.k, ⟨x.a, x.b, x.c⟩, ⟨x.h, x.v⟩⟩
def zE : E6 := toE En.zero
def zM : Ms := ⟨0, 0, 0, 0, 0, 0, false, zE, [], [], 0, 0⟩
def g0 (s : St) : Ms × St := ({ zM with kind := (belowS 18 s).1 }, if (belowS 18 s).1 = 0 then failS (belowS 18 s).2 else (belowS 18 s).2)
def gfr (x : Ms × St) : Ms × St := ({ x.1 with fr := (belowS 1048576 x.2).1, dst := (belowS 1048576 (belowS 1048576 x.2).2).1 }, (belowS 1048576 (belowS 1048576 x.2).2).2)
def gep (x : Ms × St) : Ms × St := ({ x.1 with ep := (belowS 1099511627776 x.2).1, op := (belowS 1099511627776 (belowS 1099511627776 x.2).2).1 }, (belowS 1099511627776 (belowS 1099511627776 x.2).2).2)
def gn (h : Hs) (x : Ms × St) : Ms × St := if h.n = true then ({ x.1 with n := (belowS 1099511627776 x.2).1 }, (belowS 1099511627776 x.2).2) else x
def gf (h : Hs) (x : Ms × St) : Ms × St := if h.f = true then ({ x.1 with f := (truthS x.2).1 }, (truthS x.2).2) else x
def ge (h : Hs) (x : Ms × St) : Ms × St := if h.e = true then ({ x.1 with e := toE (getS x.2).1 }, (getS x.2).2) else x
def lstep (x : Ms × St) : Ms × St := ({ x.1 with L := x.1.L ++ [toE (getS x.2).1] }, (getS x.2).2)
def rstep (x : Ms × St) : Ms × St := ({ x.1 with R := x.1.R ++ [(belowS 1048576 x.2).1] }, (belowS 1048576 x.2).2)
def iter (f : Ms × St → Ms × St) : Nat → Ms × St → Ms × St
  | 0, x => x
  | n + 1, x => f (iter f n x)
def gl (h : Hs) (x : Ms × St) : Ms × St := if h.l = true then iter lstep (belowS 1001 x.2).1.toNat (x.1, (belowS 1001 x.2).2) else x
def gk (x : Ms × St) : Ms × St := ({ x.1 with each := (belowS 65 x.2).1, keep := (belowS 65 (belowS 65 x.2).2).1 }, (belowS 65 (belowS 65 x.2).2).2)
def gr (h : Hs) (x : Ms × St) : Ms × St := if h.r = true then iter rstep (belowS 65 (gk x).2).1.toNat ((gk x).1, (belowS 65 (gk x).2).2) else x
def getM (s : St) : Ms × St := let x := gep (gfr (g0 s)); let h := hasV (g0 s).1.kind; gr h (gl h (ge h (gf h (gn h x))))
/-! lengths -/
theorem failS_len (s : St) : (failS s).l.length ≤ s.l.length := by unfold failS; split <;> exact Nat.le_refl _
theorem getS_len (s : St) : (getS s).2.l.length ≤ s.l.length := by
  unfold getS
  have h1 := rowS_len s
  have h2 := belowS_len 1099511627776 (rowS s).2
  have h3 := belowS_len 1048576 (belowS 1099511627776 (rowS s).2).2
  have h4 := belowS_len 1048576 (belowS 1048576 (belowS 1099511627776 (rowS s).2).2).2
  have h5 := truthS_len (belowS 1048576 (belowS 1048576 (belowS 1099511627776 (rowS s).2).2).2).2
  have h6 := rowS_len (truthS (belowS 1048576 (belowS 1048576 (belowS 1099511627776 (rowS s).2).2).2).2).2
  simp only
  split <;> split
  · simp only; omega
  · have := failS_len (rowS (truthS (belowS 1048576 (belowS 1048576 (belowS 1099511627776 (rowS s).2).2).2).2).2).2
    simp only; omega
  · simp only; omega
  · have := failS_len (truthS (belowS 1048576 (belowS 1048576 (belowS 1099511627776 (rowS s).2).2).2).2).2
    simp only; omega
/-! the state -/
abbrev cellsG (m : Ms) (vE vL vR : Value) : Array Value := #[.int .i64 m.kind, .int .i64 m.fr, .int .i64 m.dst, .int .i64 m.ep, .int .i64 m.op, .int .i64 m.n, .bool m.f, .string m.e.f0, .int .i64 m.e.f1.f0, .int .i64 m.e.f1.f1, .int .i64 m.e.f1.f2, .bool m.e.f2.f0, vE, vL, vR, .int .i64 m.each, .int .i64 m.keep]
/-- what stood stands, but for two blocks -/
structure Kg (w W : World) (g M : Nat) : Prop where
  os : W.os = w.os
  tape : W.tape = w.tape
  output : W.output = w.output
  size : w.heap.size ≤ W.heap.size
  block : ∀ k, k < w.heap.size → k ≠ g → k ≠ M → W.heap[k]? = w.heap[k]?
theorem Kg.refl (w : World) (g M : Nat) : Kg w w g M := ⟨rfl, rfl, rfl, Nat.le_refl _, fun _ _ _ _ => rfl⟩
theorem Kg.grown {w W W1 : World} {g M : Nat} {row : Option Nat} (h : Kg w W g M) (hg : W.grownBy W1 row) (hr : ∀ q, row = some q → q = g ∨ q = M ∨ w.heap.size ≤ q) : Kg w W1 g M :=
  ⟨hg.os.trans h.os, hg.tape.trans h.tape, hg.output.trans h.output, Nat.le_trans h.size hg.size, fun k hk h1 h2 => (hg.block k (Nat.lt_of_lt_of_le hk h.size) (by
    intro hq
    rcases hr k hq.symm with e | e | e
    · exact h1 e
    · exact h2 e
    · omega)).trans (h.block k hk h1 h2)⟩
theorem rd_stand {w w1 : World} {g : Nat} {b : Option Addr} {c : Nat} {l : List Int} {e : Int} {ins : Bool} (h : Rd w g b c l e ins) (hg : w1.heap[g]? = w.heap[g]?) (hs : ∀ (p : Nat) (cs : Array Value) (fr : Nat × Nat), w.heap[p]? = some (Obj.cells cs 5 fr) → w1.heap[p]? = w.heap[p]?) : Rd w1 g b c l e ins where
  blk := hg.trans h.blk
  row := C_sameK h.row (fun p o e h0 => by obtain ⟨cs, fr, hp⟩ := h.typ h0 p o e; exact hs p cs fr hp)
  cap := h.cap
  bytes := h.bytes
  typ := fun h0 p o x => by obtain ⟨cs, fr, hp⟩ := h.typ h0 p o x; exact ⟨cs, fr, (hs p cs fr hp).trans hp⟩
structure Gs (w W : World) (g M : Nat) (m : Ms) (vE vL vR : Value) (s : St) : Prop where
  rd : ∃ b c, Rd W g b c s.l s.e false
  blk : W.heap[M]? = some (.cells (cellsG m vE vL vR) 34 (0, 0))
  rE : Kd.R (Kd.int .u8) 5 W w.heap.size (fun _ => True) vE m.e.f2.f1
  rL : Kd.R kE 28 W w.heap.size (fun _ => True) vL m.L
  rR : Kd.R (Kd.int .i64) 3 W w.heap.size (fun _ => True) vR m.R
  up : Kg w W g M
  lt : g < w.heap.size ∧ M < w.heap.size ∧ g ≠ M
  len : s.l.length ≤ 140737488351232
theorem R_far' {α : Type} {d : Kd α} {e : Nat} {W W1 : World} {base : Nat} {v : Value} {xs : List α} (h : d.R e W base (fun _ => True) v xs) (hb : ∀ k, base ≤ k → k < W.heap.size → W1.heap[k]? = W.heap[k]?) : d.R e W1 base (fun _ => True) v xs :=
  Kd.R_mono (Kd.R_step (Kd.R_bound h) (fun k hk hlt => hb k hk.2.1 hlt)) (fun _ _ => trivial)
/-- the reader has gone on -/
theorem Gs.step {w W W1 : World} {g M : Nat} {m : Ms} {vE vL vR : Value} {s s1 : St} (h : Gs w W g M m vE vL vR s) (hA : At W g false s1 W1) (hl : s1.l.length ≤ s.l.length) : Gs w W1 g M m vE vL vR s1 := by
  obtain ⟨b, c, hr, hg⟩ := hA
  have hb : ∀ k, w.heap.size ≤ k → k < W.heap.size → W1.heap[k]? = W.heap[k]? := fun k hk hlt => hg.block k hlt (by intro e; injection e with e; have := h.lt.1; omega)
  exact ⟨⟨b, c, hr⟩, (hg.block M (blk_lt h.blk) (by intro e; injection e with e; exact h.lt.2.2 e.symm)).trans h.blk, R_far' h.rE hb, R_far' h.rL hb, R_far' h.rR hb, h.up.grown hg (fun q hq => by injection hq with hq; exact .inl hq.symm), h.lt, Nat.le_trans hl h.len⟩
theorem Gs.below {w W W1 : World} {g M : Nat} {m : Ms} {vE vL vR : Value} {s : St} (h : Gs w W g M m vE vL vR s) (hb : Below W.heap.size W W1) : Gs w W1 g M m vE vL vR s := by
  obtain ⟨b, c, hr⟩ := h.rd
  exact ⟨⟨b, c, hr.below hb⟩, (hb.block M (blk_lt h.blk)).trans h.blk, Kd.R_below h.rE hb, Kd.R_below h.rL hb, Kd.R_below h.rR hb, h.up.grown (grown_of_below hb none) (fun q hq => by cases hq), h.lt, h.len⟩
theorem rd_setM {w : World} {g M : Nat} {b : Option Addr} {c : Nat} {l : List Int} {e : Int} {ins : Bool} {cs : Array Value} (h : Rd w g b c l e ins) (hM : w.heap[M]? = some (.cells cs 34 (0, 0))) (hne : g ≠ M) (i : Nat) (u : Value) : Rd (w.setCell ⟨M, i, none⟩ u) g b c l e ins :=
  rd_stand h (Below.heap_setCell w _ u g (by intro x; exact hne x)) (fun p cs' fr hp => Below.heap_setCell w _ u p (by
    intro x
    have x : p = M := x
    subst x
    rw [hM] at hp; injection hp with hp; injection hp with _ hp _; exact absurd hp (by decide)))
/-- a field is stored -/
theorem Gs.put {w W : World} {g M : Nat} {m m' : Ms} {vE vL vR : Value} {s : St} (h : Gs w W g M m vE vL vR s) (i : Nat) (u : Value) (hc : (cellsG m vE vL vR).setIfInBounds i u = cellsG m' vE vL vR) (he : m'.e.f2.f1 = m.e.f2.f1) (hL : m'.L = m.L) (hR : m'.R = m.R) : Gs w (W.setCell ⟨M, i, none⟩ u) g M m' vE vL vR s := by
  obtain ⟨b, c, hr⟩ := h.rd
  refine ⟨⟨b, c, rd_setM hr h.blk h.lt.2.2 i u⟩, by rw [blk_set h.blk, hc], ?_, ?_, ?_, h.up.grown (upd_set W M i u) (fun q hq => by injection hq with hq; exact .inr (.inl hq.symm)), h.lt, h.len⟩
  · rw [he]; exact R_farg h.rE h.lt.2.1 i u
  · rw [hL]; exact R_farg h.rL h.lt.2.1 i u
  · rw [hR]; exact R_farg h.rR h.lt.2.1 i u
/-- a row has grown, and is stored -/
theorem Gs.grow {w W W1 : World} {g M : Nat} {m : Ms} {vE vL vR : Value} {s : St} (h : Gs w W g M m vE vL vR s) {row : Option Nat} (hg : W.grownBy W1 row) (hrow : ∀ q : Nat, row = some q → w.heap.size ≤ q ∧ ∀ cs : Array Value, W.heap[q]? ≠ some (.cells cs 5 (0, 0))) (hty : ∀ (p : Nat) (cs : Array Value) (fr : Nat × Nat), W.heap[p]? = some (.cells cs 5 fr) → some p = row → False) :
    (∃ b c, Rd W1 g b c s.l s.e false) ∧ W1.heap[M]? = some (.cells (cellsG m vE vL vR) 34 (0, 0)) ∧ Kg w W1 g M := by
  obtain ⟨b, c, hr⟩ := h.rd
  refine ⟨⟨b, c, rd_stand hr (hg.block g (blk_lt hr.blk) (fun e => ?_)) (fun p cs fr hp => hg.block p (blk_lt hp) (fun e => hty p cs fr hp e))⟩, (hg.block M (blk_lt h.blk) (fun e => ?_)).trans h.blk, h.up.grown hg (fun q hq => .inr (.inr (hrow q hq).1))⟩
  · have := (hrow g e.symm).1; have := h.lt.1; omega
  · have := (hrow M e.symm).1; have := h.lt.2.1; omega
theorem own_not {α : Type} {d : Kd α} {e base : Nat} {W : World} {ok : Nat → Prop} {v : Value} {xs : List α} (h : d.R e W base ok v xs) (he : e ≠ 5) : ∀ (p : Nat) (cs : Array Value) (fr : Nat × Nat), W.heap[p]? = some (.cells cs 5 fr) → some p = v.ownBlock → False := by
  intro p cs fr hp e1
  obtain ⟨cells, hc⟩ := own_typed (Kd.R_own h).choose_spec p e1.symm
  rw [hp] at hc; injection hc with hc; injection hc with _ hc _; exact he hc.symm
theorem own_hi {α : Type} {d : Kd α} {e base : Nat} {W : World} {ok : Nat → Prop} {v : Value} {xs : List α} (h : d.R e W base ok v xs) (he : e ≠ 5) : ∀ q, v.ownBlock = some q → base ≤ q ∧ ∀ cs, W.heap[q]? ≠ some (.cells cs 5 (0, 0)) :=
  fun q hq => ⟨Kd.R_base h q hq, fun cs hp => own_not h he q cs _ hp hq.symm⟩
theorem Gs.putL {w W W1 : World} {g M : Nat} {m : Ms} {vE vL vR v1 : Value} {s : St} {L' : List E6} (h : Gs w W g M m vE vL vR s) (hR : Kd.R kE 28 W1 w.heap.size (fun _ => True) v1 L') (hg : W.grownBy W1 vL.ownBlock) : Gs w (W1.setCell ⟨M, 13, none⟩ v1) g M { m with L := L' } vE v1 vR s := by
  obtain ⟨hr, hb, hu⟩ := h.grow hg (own_hi h.rL (by decide)) (own_not h.rL (by decide))
  have hE := Kd.R_over h.rE h.rL (by
    intro q hq
    rcases List.mem_cons.1 hq with rfl | hq
    · decide
    · cases hq) hg
  have hRr := Kd.R_over h.rR h.rL (by
    intro q hq
    rcases List.mem_cons.1 hq with rfl | hq
    · decide
    · cases hq) hg
  obtain ⟨b, c, hr⟩ := hr
  exact ⟨⟨b, c, rd_setM hr hb h.lt.2.2 13 v1⟩, by rw [blk_set hb]; rfl, R_farg hE h.lt.2.1 13 v1, R_farg hR h.lt.2.1 13 v1, R_farg hRr h.lt.2.1 13 v1, hu.grown (upd_set W1 M 13 v1) (fun q hq => by injection hq with hq; exact .inr (.inl hq.symm)), h.lt, h.len⟩
theorem Gs.putR {w W W1 : World} {g M : Nat} {m : Ms} {vE vL vR v1 : Value} {s : St} {R' : List Int} (h : Gs w W g M m vE vL vR s) (hR : Kd.R (Kd.int .i64) 3 W1 w.heap.size (fun _ => True) v1 R') (hg : W.grownBy W1 vR.ownBlock) : Gs w (W1.setCell ⟨M, 14, none⟩ v1) g M { m with R := R' } vE vL v1 s := by
  obtain ⟨hr, hb, hu⟩ := h.grow hg (own_hi h.rR (by decide)) (own_not h.rR (by decide))
  have hE := Kd.R_over h.rE h.rR (by
    intro q hq
    rcases List.mem_cons.1 hq with rfl | hq
    · decide
    · cases hq) hg
  have hL := Kd.R_over h.rL h.rR (by
    intro q hq
    have : q ∈ [28, 5] := hq
    rcases List.mem_cons.1 this with rfl | hq
    · decide
    · obtain rfl := List.mem_singleton.1 hq; decide) hg
  obtain ⟨b, c, hr⟩ := hr
  exact ⟨⟨b, c, rd_setM hr hb h.lt.2.2 14 v1⟩, by rw [blk_set hb]; rfl, R_farg hE h.lt.2.1 14 v1, R_farg hL h.lt.2.1 14 v1, R_farg hR h.lt.2.1 14 v1, hu.grown (upd_set W1 M 14 v1) (fun q hq => by injection hq with hq; exact .inr (.inl hq.symm)), h.lt, h.len⟩
/-- an entry is stored -/
abbrev putX (W : World) (M : Nat) (x : E6) (v : Value) : World :=
  (((((W.setCell ⟨M, 7, none⟩ (.string x.f0)).setCell ⟨M, 8, none⟩ (.int .i64 x.f1.f0)).setCell ⟨M, 9, none⟩ (.int .i64 x.f1.f1)).setCell ⟨M, 10, none⟩ (.int .i64 x.f1.f2)).setCell ⟨M, 11, none⟩ (.bool x.f2.f0)).setCell ⟨M, 12, none⟩ v
theorem Gs.putE {w W : World} {g M : Nat} {m : Ms} {vE vL vR v : Value} {s : St} (x : E6) (h : Gs w W g M m vE vL vR s) (hv : Kd.R (Kd.int .u8) 5 W w.heap.size (fun _ => True) v x.f2.f1) : Gs w (putX W M x v) g M { m with e := x } v vL vR s := by
  have h1 := h.put (m' := { m with e := ⟨x.f0, m.e.f1, m.e.f2⟩ }) 7 (.string x.f0) rfl rfl rfl rfl
  have h2 := h1.put (m' := { m with e := ⟨x.f0, ⟨x.f1.f0, m.e.f1.f1, m.e.f1.f2⟩, m.e.f2⟩ }) 8 (.int .i64 x.f1.f0) rfl rfl rfl rfl
  have h3 := h2.put (m' := { m with e := ⟨x.f0, ⟨x.f1.f0, x.f1.f1, m.e.f1.f2⟩, m.e.f2⟩ }) 9 (.int .i64 x.f1.f1) rfl rfl rfl rfl
  have h4 := h3.put (m' := { m with e := ⟨x.f0, x.f1, m.e.f2⟩ }) 10 (.int .i64 x.f1.f2) rfl rfl rfl rfl
  have h5 := h4.put (m' := { m with e := ⟨x.f0, x.f1, ⟨x.f2.f0, m.e.f2.f1⟩⟩ }) 11 (.bool x.f2.f0) rfl rfl rfl rfl
  have hv5 : Kd.R (Kd.int .u8) 5 _ w.heap.size (fun _ => True) v x.f2.f1 := R_farg (R_farg (R_farg (R_farg (R_farg hv h.lt.2.1 7 (.string x.f0)) h.lt.2.1 8 (.int .i64 x.f1.f0)) h.lt.2.1 9 (.int .i64 x.f1.f1)) h.lt.2.1 10 (.int .i64 x.f1.f2)) h.lt.2.1 11 (.bool x.f2.f0)
  obtain ⟨b, c, hr⟩ := h5.rd
  exact ⟨⟨b, c, rd_setM hr h5.blk h.lt.2.2 12 v⟩, by rw [blk_set h5.blk]; rfl, R_farg hv5 h.lt.2.1 12 v, R_farg h5.rL h.lt.2.1 12 v, R_farg h5.rR h.lt.2.1 12 v, h5.up.grown (upd_set _ M 12 v) (fun q hq => by injection hq with hq; exact .inr (.inl hq.symm)), h.lt, h.len⟩
theorem infoE : (Tryd.prog.info? 28).map (fun i => (i.zero, i.size, i.bytes)) = some (some (.agg #[.string ⟨#[]⟩, .int .i64 0, .int .i64 0, .int .i64 0, .bool false, .slice none 0 0]), 6, 72) := by kernel_rfl
theorem infoI : (Tryd.prog.info? 3).map (fun i => (i.zero, i.size, i.bytes)) = some (some (.int .i64 0), 1, 8) := by kernel_rfl
theorem below_rng (n : Int) (s : St) (hn : 0 < n) : ∃ c : Nat, (belowS n s).1 = (c : Int) ∧ (c : Int) < n := by
  unfold belowS
  split
  · split
    · split
      · rename_i h; obtain ⟨c, hc⟩ := Int.eq_ofNat_of_zero_le h.1; exact ⟨c, hc, by rw [← hc]; exact h.2⟩
      · exact ⟨0, rfl, hn⟩
    · exact ⟨0, rfl, hn⟩
  · exact ⟨0, rfl, hn⟩
theorem iter_L (x : Ms × St) : ∀ n, (iter lstep n x).1.L.length = x.1.L.length + n
  | 0 => rfl
  | n + 1 => by
    show ((iter lstep n x).1.L ++ [toE (getS (iter lstep n x).2).1]).length = _
    rw [List.length_append, iter_L x n]; rfl
theorem iter_R (x : Ms × St) : ∀ n, (iter rstep n x).1.R.length = x.1.R.length + n
  | 0 => rfl
  | n + 1 => by
    show ((iter rstep n x).1.R ++ [(belowS 1048576 (iter rstep n x).2).1]).length = _
    rw [List.length_append, iter_R x n]; rfl
theorem iter_R' (x : Ms × St) : ∀ n, (iter lstep n x).1.R = x.1.R
  | 0 => rfl
  | n + 1 => iter_R' x n
theorem gn_LR (b : Hs) (x : Ms × St) : (gn b x).1.L = x.1.L ∧ (gn b x).1.R = x.1.R := by unfold gn; split <;> exact ⟨rfl, rfl⟩
theorem gf_LR (b : Hs) (x : Ms × St) : (gf b x).1.L = x.1.L ∧ (gf b x).1.R = x.1.R := by unfold gf; split <;> exact ⟨rfl, rfl⟩
theorem ge_LR (b : Hs) (x : Ms × St) : (ge b x).1.L = x.1.L ∧ (ge b x).1.R = x.1.R := by unfold ge; split <;> exact ⟨rfl, rfl⟩
theorem gl_R (b : Hs) (x : Ms × St) : (gl b x).1.R = x.1.R := by
  unfold gl; split
  · exact iter_R' _ _
  · rfl
end Go.Proofs.YthaoiamgkpkcbaaDoor.Ms
