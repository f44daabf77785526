/- The contract of tags.Bytes. Conditions: an entry that fits in memory. -/
import Derived.Test.YthaoiamgkpkcbaaDoorZMsgsTwice15
namespace Go.Proofs.YthaoiamgkpkcbaaDoor.Tg
open Go.ChangeShapes Go.WideShapes Go.ChangeAt Go.RowKit Go.Proofs.YthaoiamgkpkcbaaDoor.Pk Go.Proofs.YthaoiamgkpkcbaaDoor.EncC Go.Proofs.YthaoiamgkpkcbaaDoor.EncP Go.Proofs.YthaoiamgkpkcbaaDoor.Enc
open Go.Proofs.YthaoiamgkpkcbaaDoor.Hlp Go.Proofs.YthaoiamgkpkcbaaDoor.Wrd Go.Proofs.YthaoiamgkpkcbaaDoorW.PrintWords Go.Proofs.YthaoiamgkpkcbaaDoorW.PrintLast Go.Proofs.YthaoiamgkpkcbaaDoorW.PrintMore
set_option linter.unusedVariables false
set_option linter.unusedSimpArgs false
set_option maxHeartbeats 4000000 in
set_option maxRecDepth 100000 in
theorem bytes_ {w : World} {A : Option Addr} {d : Nat} {v : List Int} (k : ByteArray) (a b c : Int) (h : Bool) (hr : Kd.C (Kd.int .u8) w A v.length v) (hc : v.length ≤ d) :
    Calls Tryd.prog 31 #[.agg #[.string k, .int .i64 a, .int .i64 b, .int .i64 c, .bool h, .slice A v.length d]] w (Made2 w (bytesV k a b c h v).1 (bytesV k a b c h v).2) := by
  have hu40 := Tryd.underlying28
  have hu23 := Tryd.underlying23
  have hu38 := Tryd.underlying26
  have bE := blk_new w (.cells #[.string k, .int .i64 a, .int .i64 b, .int .i64 c, .bool h, .slice A v.length d] 28)
  have HR0 := Aside0.mk hr
  have HR := Aside0.mk (Kd.C_alloc hr (.cells #[.string k, .int .i64 a, .int .i64 b, .int .i64 c, .bool h, .slice A v.length d] 28))
  have HB := Aside0.mk (below_alloc (Below.refl w.heap.size w) (.cells #[.string k, .int .i64 a, .int .i64 b, .int .i64 c, .bool h, .slice A v.length d] 28))
  have BE := Aside0.mk bE
  clear hr bE
  by_cases hok : okEnt k a b c h v
  · have HV := Aside0.mk (show rightV k a b c h v = 0 from if_pos hok)
    have HE := Aside0.mk (show bytesV k a b c h v = (entB k a b c h v, 0) from if_pos hok)
    have hk : k.size ≤ 250 := hok.2.1
    have hv : v.length ≤ 60000 := hok.2.2.1
    clear hok
    go_enter Tryd.func31, Tryd.ntmps31
    go_upto_region 1 with fail
    generalize w.alloc (.cells #[.string k, .int .i64 a, .int .i64 b, .int .i64 c, .bool h, .slice A v.length d] 28) = W at *
    obtain ⟨e0, e1, e2, e3, e4, e5⟩ := en_cells BE.out
    go_wp2_with fail
    (with_reducible refine (right_c k a b c h HR.out hc).mono ?_)
    rw [HV.out]
    rintro x w1 ⟨rfl, hb⟩
    have HB := Aside0.mk (below_then HB.out HB.out.size hb)
    have BE := Aside0.mk (blk_below BE.out hb)
    clear hb e0 e1 e2 e3 e4 e5
    obtain ⟨e0, e1, e2, e3, e4, e5⟩ := en_cells BE.out
    obtain ⟨ck, w2, hcv, hck, hb, hC⟩ := conv_ex w1 k (by omega)
    have HB := Aside0.mk (below_then HB.out HB.out.size hb)
    have BE := Aside0.mk (blk_below BE.out hb)
    have HC := Aside0.mk hC
    clear hb hC
    go_wp2_with fail
    clear hcv
    (with_reducible refine (row_c HC.out hck (by omega)).mono ?_)
    rintro x w3 ⟨vo, rfl, ho, hb⟩
    have HO := Aside0.mk (Kd.R_lower ho HB.out.size)
    have HB := Aside0.mk (below_then HB.out HB.out.size hb)
    have BE := Aside0.mk (blk_below BE.out hb)
    clear ho hb e0 e1 e2 e3 e4 e5
    obtain ⟨e0, e1, e2, e3, e4, e5⟩ := en_cells BE.out
    have HL : Aside0 ((rowB (bytesOf k)).length ≤ 300 ∧ (∀ l, (catB l).length ≤ 9 * l.length) ∧ (∀ n, (numB n).length ≤ 9) ∧ (truthB h).length = 1 ∧ (rowB v).length ≤ 60009) := ⟨by have := rowB_len (l := bytesOf k); rw [bytesOf_len] at this; omega, catB_len, numB_len, by unfold truthB; split <;> rfl, by have := rowB_len (l := v); omega⟩
    go_wp2_with fail
    have BN := Aside0.mk (blk_new w3 (.cells #[.int .i64 a, .int .i64 b, .int .i64 c] 3))
    have BE := Aside0.mk (blk_alloc BE.out (.cells #[.int .i64 a, .int .i64 b, .int .i64 c] 3))
    have HO := Aside0.mk (Kd.R_alloc HO.out (.cells #[.int .i64 a, .int .i64 b, .int .i64 c] 3))
    have HB := Aside0.mk (below_alloc HB.out (.cells #[.int .i64 a, .int .i64 b, .int .i64 c] 3))
    generalize w3.heap.size = gN at *
    generalize w3.alloc (.cells #[.int .i64 a, .int .i64 b, .int .i64 c] 3) = w4 at *
    clear e0 e1 e2 e3 e4 e5
    go_loopw [5, 34] (fun o i w' => ∃ j : Nat, j ≤ 3 ∧ i = .int .i64 j ∧ Aside0 (Kd.R (Kd.int .u8) 5 w' w.heap.size (fun _ => True) o (rowB (bytesOf k) ++ catB ([a, b, c].take j))) ∧ Aside0 (w'.heap[w.heap.size]? = some (.cells #[.string k, .int .i64 a, .int .i64 b, .int .i64 c, .bool h, .slice A v.length d] 28 (0, 0))) ∧ Aside0 (w'.heap[gN]? = some (.cells #[.int .i64 a, .int .i64 b, .int .i64 c] 3 (0, 0))) ∧ Aside0 (Below w.heap.size w w')) (fun _ i _ => 3 - (intOf i).toNat)
    case atStart => exact ⟨0, by omega, rfl, ⟨by rw [List.take_zero]; simpa [catB] using HO.out⟩, BE, BN, HB⟩
    case round =>
      obtain ⟨j, hj, rfl, HO, BE, BN, HB⟩ := hrel
      obtain ⟨xs, hxs⟩ : ∃ xs, rowB (bytesOf k) ++ catB ([a, b, c].take j) = xs := ⟨_, rfl⟩
      rw [hxs] at HO
      have HX := Aside0.mk hxs
      have HXl : Aside0 (xs.length ≤ 400) := ⟨by rw [← hxs, List.length_append]; have q1 := HL.out.1; have q2 := HL.out.2.1 ([a, b, c].take j); simp only [List.length_take, List.length_cons, List.length_nil] at q2; omega⟩
      clear hxs
      obtain ⟨Ao, co, rfl⟩ := Kd.R_slice HO.out
      by_cases hlt : j < 3
      · obtain ⟨g9, o9, eg9, hcell⟩ := C_block (C_blki [a, b, c] BN.out (by simp) rfl) (by simp)
        injection eg9 with eg9
        injection eg9 with eg9 eo9 sp9
        clear sp9
        subst eg9 eo9
        have cj := hcell j (by simpa using hlt)
        rw [Nat.zero_add] at cj
        obtain ⟨x, hx⟩ : ∃ x, [a, b, c][j]'(by simpa using hlt) = x := ⟨_, rfl⟩
        have HT := Aside0.mk (show [a, b, c].take (j + 1) = [a, b, c].take j ++ [x] by rw [List.take_succ_eq_append_getElem (by simpa using hlt), hx])
        rw [hx] at cj
        have t1 : decide ((j : Int) < 3) = true := decide_eq_true (by omega)
        have j0 : (0 : Int) ≤ (j : Int) := by omega
        have j1 : (j : Int) < 3 := by omega
        clear hcell hx
        go_wp2_with fail
        (with_reducible refine (num_c x _).mono ?_)
        rintro y w5 ⟨vn, rfl, hn, hb⟩
        obtain ⟨An, cn, rfl, hcn, hnr⟩ := Kd.R_reads hn
        have HN := Aside0.mk hnr
        have HO := Aside0.mk (Kd.R_below HO.out hb)
        have HB := Aside0.mk (below_then HB.out HB.out.size hb)
        have BE := Aside0.mk (blk_below BE.out hb)
        have BN := Aside0.mk (blk_below BN.out hb)
        clear hn hnr hb cj
        go_wp2_with ((with_reducible refine gate_builtin (b := .append) (xs := #[.tmp 38, .tmp 40]) rfl ?_); at_builtin; refine Kd.R_append_rows (Kd.int .u8) (w0 := w) w.heap.size rfl (.tmp 38) (.tmp 40) 24 5 (.int .u8 0) 1 rfl Tryd.underlying24 info8 rfl (by decide) (by omega) _ _ _ _ _ _ (fun _ => True) (fun _ => False) rfl rfl HO.out HN.out (fun _ _ h => h) (fun _ h => h.elim) (fun _ _ => trivial) HB.out HB.out.size ?aL ?_; (case aL => have q1 := HXl.out; have q3 := HL.out.2.2.1 x; omega); intro va wa ho hb hg hat; have HO2 := Aside0.mk ho; have HB2 := Aside0.mk hb; have BE2 := Aside0.mk (blk_apart HO.out BE.out (by decide) hg); have BN2 := Aside0.mk (blk_apart HO.out BN.out (by decide) hg); clear ho hb hg hat)
        go_roundw
        case rel => exact ⟨j + 1, by omega, by go_num, ⟨by rw [HT.out, catB_snoc, ← List.append_assoc, HX.out]; exact HO2.out⟩, BE2, BN2, HB2⟩
        case measure => simp [intOf]; omega
      · obtain rfl : j = 3 := by omega
        obtain ⟨e0, e1, e2, e3, e4, e5⟩ := en_cells BE.out
        go_wp2_with fail
        (with_reducible refine (truth_c h _).mono ?_)
        rintro y w5 ⟨vn, rfl, hn, hb⟩
        obtain ⟨An, cn, rfl, hcn, hnr⟩ := Kd.R_reads hn
        have HN := Aside0.mk hnr
        have HO := Aside0.mk (Kd.R_below HO.out hb)
        have HB := Aside0.mk (below_then HB.out HB.out.size hb)
        have BE := Aside0.mk (blk_below BE.out hb)
        clear hn hnr hb e0 e1 e2 e3 e4 e5
        obtain ⟨e0, e1, e2, e3, e4, e5⟩ := en_cells BE.out
        cases h
        · go_wp2_with ((with_reducible refine gate_builtin (b := .append) (xs := #[.tmp 43, .tmp 47]) rfl ?_); at_builtin; refine Kd.R_append_rows (Kd.int .u8) (w0 := w) w.heap.size rfl (.tmp 43) (.tmp 47) 24 5 (.int .u8 0) 1 rfl Tryd.underlying24 info8 rfl (by decide) (by omega) _ _ _ _ _ _ (fun _ => True) (fun _ => False) rfl rfl HO.out HN.out (fun _ _ h => h) (fun _ h => h.elim) (fun _ _ => trivial) HB.out HB.out.size ?aL ?_; (case aL => have q1 := HXl.out; have q3 := HL.out.2.2.2.1; omega); intro va wa ho hb hg hat; have HO2 := Aside0.mk ho; have HB2 := Aside0.mk hb; have BE2 := Aside0.mk (blk_apart HO.out BE.out (by decide) hg); clear ho hb hg hat e0 e1 e2 e3 e4 e5; obtain ⟨e0, e1, e2, e3, e4, e5⟩ := en_cells BE2.out)
          go_ret2
          refine ⟨va, ?_, ?_, HB2.out⟩
          · rw [HE.out]; rfl
          · rw [HE.out, show (entB k a b c false v, (0 : Int)).1 = xs ++ truthB false from by rw [← HX.out]; simp [entB, catB]]; exact HO2.out
        · go_wp2_with ((with_reducible refine gate_builtin (b := .append) (xs := #[.tmp 43, .tmp 47]) rfl ?_); at_builtin; refine Kd.R_append_rows (Kd.int .u8) (w0 := w) w.heap.size rfl (.tmp 43) (.tmp 47) 24 5 (.int .u8 0) 1 rfl Tryd.underlying24 info8 rfl (by decide) (by omega) _ _ _ _ _ _ (fun _ => True) (fun _ => False) rfl rfl HO.out HN.out (fun _ _ h => h) (fun _ h => h.elim) (fun _ _ => trivial) HB.out HB.out.size ?aL ?_; (case aL => have q1 := HXl.out; have q3 := HL.out.2.2.2.1; omega); intro va wa ho hb hg hat; have HO2 := Aside0.mk ho; have HB2 := Aside0.mk hb; have BE2 := Aside0.mk (blk_apart HO.out BE.out (by decide) hg); clear ho hb hg hat e0 e1 e2 e3 e4 e5; obtain ⟨e0, e1, e2, e3, e4, e5⟩ := en_cells BE2.out)
          have HR := Aside0.mk (Kd.C_below HR0.out HB2.out)
          (with_reducible refine (row_c HR.out hc (by omega)).mono ?_)
          rintro y w6 ⟨vn, rfl, hn, hb⟩
          obtain ⟨An, cn, rfl, hcn, hnr⟩ := Kd.R_reads hn
          have HN := Aside0.mk hnr
          obtain ⟨ys, hys⟩ : ∃ ys, xs ++ truthB true = ys := ⟨_, rfl⟩
          have HY := Aside0.mk hys
          have HYl : Aside0 (ys.length ≤ 401) := ⟨by rw [← hys, List.length_append]; have q1 := HXl.out; have q3 := HL.out.2.2.2.1; omega⟩
          rw [hys] at HO2
          have HO := Aside0.mk (Kd.R_below HO2.out hb)
          have HB := Aside0.mk (below_then HB2.out HB2.out.size hb)
          clear hn hnr hb hys e0 e1 e2 e3 e4 e5
          go_wp2_with ((with_reducible refine gate_builtin (b := .append) (xs := #[.tmp 59, .tmp 60]) rfl ?_); at_builtin; refine Kd.R_append_rows (Kd.int .u8) (w0 := w) w.heap.size rfl (.tmp 59) (.tmp 60) 24 5 (.int .u8 0) 1 rfl Tryd.underlying24 info8 rfl (by decide) (by omega) _ _ _ _ _ _ (fun _ => True) (fun _ => False) rfl rfl HO.out HN.out (fun _ _ h => h) (fun _ h => h.elim) (fun _ _ => trivial) HB.out HB.out.size ?aL ?_; (case aL => have q1 := HYl.out; have q3 := HL.out.2.2.2.2; omega); intro va wa ho hb hg hat; have HO3 := Aside0.mk ho; have HB3 := Aside0.mk hb; clear ho hb hg hat)
          go_ret2
          refine ⟨va, ?_, ?_, HB3.out⟩
          · rw [HE.out]; rfl
          · rw [HE.out, show (entB k a b c true v, (0 : Int)).1 = ys ++ rowB v from by rw [← HY.out, ← HX.out]; simp [entB, catB]]; exact HO3.out
  · have HV := Aside0.mk (show rightV k a b c h v = 2 from if_neg hok)
    have HE := Aside0.mk (show bytesV k a b c h v = ([], 2) from if_neg hok)
    clear hok
    go_enter Tryd.func31, Tryd.ntmps31
    go_upto_region 1 with fail
    generalize w.alloc (.cells #[.string k, .int .i64 a, .int .i64 b, .int .i64 c, .bool h, .slice A v.length d] 28) = W at *
    obtain ⟨e0, e1, e2, e3, e4, e5⟩ := en_cells BE.out
    go_wp2_with fail
    (with_reducible refine (right_c k a b c h HR.out hc).mono ?_)
    rw [HV.out]
    rintro x w1 ⟨rfl, hb⟩
    have HB := Aside0.mk (below_then HB.out HB.out.size hb)
    clear hb e0 e1 e2 e3 e4 e5
    go_wp2_with fail
    go_ret2
    rw [HE.out]
    exact ⟨.slice none 0 0, rfl, Kd.R_nil _ _ _ _ _, HB.out⟩
end Go.Proofs.YthaoiamgkpkcbaaDoor.Tg
