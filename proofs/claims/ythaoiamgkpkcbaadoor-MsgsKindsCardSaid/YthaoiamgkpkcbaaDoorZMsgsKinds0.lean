/- The walk of the law MsgsKinds, for every message and every kind. Conditions: the table lies in its variable. -/
import Derived.Test.YthaoiamgkpkcbaaDoorZMsgsTwice30
import Derived.Deep.Light

namespace Go.Proofs.YthaoiamgkpkcbaaDoor.Ms
open Go.ChangeShapes Go.WideShapes Go.ChangeAt Go.RowKit Go.Proofs.YthaoiamgkpkcbaaDoor.Pk Go.Proofs.YthaoiamgkpkcbaaDoor.Tg Go.Proofs.YthaoiamgkpkcbaaDoor.Enc Go.Proofs.YthaoiamgkpkcbaaDoor.EncC Go.Proofs.YthaoiamgkpkcbaaDoor.EncP
open Go.Proofs.YthaoiamgkpkcbaaDoor.Hlp Go.Proofs.YthaoiamgkpkcbaaDoor.Wrd Go.Proofs.YthaoiamgkpkcbaaDoor.Lex Go.Proofs.YthaoiamgkpkcbaaDoorW.PrintWords Go.Proofs.YthaoiamgkpkcbaaDoorW.PrintLast Go.Proofs.YthaoiamgkpkcbaaDoorW.PrintMore
set_option linter.unusedVariables false
set_option linter.unusedSimpArgs false
def letters : List UInt8 := [110, 102, 101, 108, 114]
def smB (a b : Hs) (k : Nat) : Bool := (letters.take k).all fun c => hasL a c == hasL b c
theorem smB_all {a b : Hs} (h : smB a b 5 = true) : a = b := by
  obtain ⟨a1, a2, a3, a4, a5⟩ := a
  obtain ⟨b1, b2, b3, b4, b5⟩ := b
  simp [smB, letters, hasL] at h
  obtain ⟨h1, h2, h3, h4, h5⟩ := h
  subst h1 h2 h3 h4 h5
  rfl
theorem smB_succ (a b : Hs) (k : Nat) (hk : k < 5) : smB a b (k + 1) = (smB a b k && (hasL a (letters[k]'hk) == hasL b (letters[k]'hk))) := by
  unfold smB
  rw [List.take_succ_eq_append_getElem (show k < letters.length from hk), List.all_append]
  simp only [List.all_cons, List.all_nil, Bool.and_true]
  rfl
theorem kinds_ok {m : Ms} (ok : Okm m) {k : Int} (h : hasV k = hasV m.kind) (hk : 1 ≤ k ∧ k ≤ 17) : checkM { m with kind := k } = 0 := by
  have : Okm { m with kind := k } := ⟨hk, ok.fr, ok.dst, ok.ep, ok.op, ok.n, by show (hasV k).n = true ∨ _; rw [h]; exact ok.n0, by show (hasV k).f = true ∨ _; rw [h]; exact ok.f0, by show (hasV k).l = true ∨ _; rw [h]; exact ok.l0, ok.len, ok.all, by show (hasV k).e = true → _; rw [h]; exact ok.e1, by show (hasV k).e = false → _; rw [h]; exact ok.e0, by show (hasV k).r = true → _; rw [h]; exact ok.r1, by show (hasV k).r = false → _; rw [h]; exact ok.r0⟩
  exact if_pos ((okm_iff _).2 this)
theorem kinds_no {m : Ms} {k : Int} (hk : ¬ (1 ≤ k ∧ k ≤ 17)) : checkM { m with kind := k } = 2 := by
  refine if_neg fun h => hk ?_
  exact ((okm_iff _).1 h).kd
theorem bytes_head {m : Ms} (ok : Okm m) : ∃ r, bytesM m = 1 :: m.kind :: r := by
  obtain ⟨n, hn⟩ := Int.eq_ofNat_of_zero_le (show 0 ≤ m.kind by have := ok.kd; omega)
  have e1 : numB m.kind = [1, m.kind] := by rw [hn]; exact numB_small (by have := ok.kd; omega) (by have := ok.kd; omega)
  have e2 : b1 m = 1 :: m.kind :: catB [m.fr, m.dst, m.ep, m.op] := by unfold b1 catB; simp [e1]
  refine ⟨catB [m.fr, m.dst, m.ep, m.op] ++ ((if (hasV m.kind).n = true then catB [m.n] else []) ++ ((if (hasV m.kind).f = true then truthB m.f else []) ++ ((if (hasV m.kind).e = true then entX m.e else []) ++ ((if (hasV m.kind).l = true then catB [(m.L.length : Int)] ++ entL m.L else []) ++ (if (hasV m.kind).r = true then catB [m.each, m.keep, (m.R.length : Int)] ++ catB m.R else []))))), ?_⟩
  unfold bytesM b5 b4 b3 b2
  rw [e2]
  simp only [List.append_assoc, List.cons_append]
theorem check_cases (m : Ms) : (Okm m ∧ checkM m = 0) ∨ checkM m = 2 := by
  unfold checkM
  by_cases h : a4 m = true
  · left; exact ⟨(okm_iff m).1 h, if_pos h⟩
  · right; exact if_neg h
set_option maxHeartbeats 8000000 in
set_option maxRecDepth 100000 in
theorem kinds_law1 {w : World} {m : Ms} {p : Pl} (kd : Int) (hK : Kin w) (hm : Lies w m p) (hv : Bytes m.e.f2.f1) (hR : m.R.length < 9223372036854775807) (hl : m.L.length < 9223372036854775807) (ok : Okm m) (hx : checkM m = 0) :
    Calls Tryd.prog 6 #[.agg (m.val p), .int .i64 kd] w fun e w' => e = .returned (.bool true) ∧ Below w.heap.size w w' := by
  have HB0 := Aside0.mk (below_alloc (Below.refl w.heap.size w) (.cells (m.val p) 34))
  have BM := Aside0.mk (blk_new w (.cells (m.val p) 34))
  have HK := Aside0.mk hK
  have HM := Aside0.mk hm
  have HV := Aside0.mk hv
  clear hK hm hv
  go_enter Tryd.func6, Tryd.ntmps6
  go_upto_region 1 with fail
  generalize w.alloc (.cells (m.val p) 34) = W at *
  obtain ⟨c0, c1, c2, c3, c4, c5, c6, c7, c8, c9, c10, c11, c12, c13, c14, c15, c16⟩ := ms_cells BM.out
  have HX := Aside0.mk hx
  have OK := Aside0.mk ok
  clear hx ok
  go_upto_if 19 with (first
    | (refine wpList_load_row rfl 34 (.tmp 2) rfl w.heap.size rfl 34 (m.val p) (0, 0) _ BM.out Tryd.underlying34 rfl (by kernel_rfl) ?_)
    | (go_at_call 10; (with_reducible refine (long_c (HM.out.below HB0.out) hl).mono ?_); rintro x w1 ⟨⟨r, rfl⟩, hb⟩; have HB1 := Aside0.mk (HB0.out.trans (hb.mono HB0.out.size)); have BM1 := Aside0.mk ((hb.block _ (blk_lt BM.out)).trans BM.out); obtain ⟨d0, d1, d2, d3, d4, d5, d6, d7, d8, d9, d10, d11, d12, d13, d14, d15, d16⟩ := ms_cells BM1.out; clear hb c0 c1 c2 c3 c4 c5 c6 c7 c8 c9 c10 c11 c12 c13 c14 c15 c16; cases r)
    | (go_at_call 15; (with_reducible refine (check_ (HK.out.below HB1.out) (HM.out.below HB1.out) HV.out hR).mono ?_); rw [HX.out]; rintro x w2 ⟨rfl, hb⟩; have HB2 := Aside0.mk (HB1.out.trans (hb.mono HB1.out.size)); have BM2 := Aside0.mk ((hb.block _ (blk_lt BM1.out)).trans BM1.out); clear hb d0 d1 d2 d3 d4 d5 d6 d7 d8 d9 d10 d11 d12 d13 d14 d15 d16))
  · obtain ⟨rest, hrest⟩ := bytes_head OK.out
    obtain ⟨ys, hys⟩ : ∃ ys, bytesM m = ys := ⟨_, rfl⟩
    rw [hys] at hrest
    have HY := Aside0.mk hys
    have HR := Aside0.mk hrest
    have hk1 : 0 ≤ m.kind := by have := OK.out.kd; omega
    have hk2 : m.kind ≤ 17 := OK.out.kd.2
    clear hys hrest
    go_upto_region 4 with (first
      | (refine wpList_load_row rfl 34 (.tmp 2) rfl w.heap.size rfl 34 (m.val p) (0, 0) _ BM2.out Tryd.underlying34 rfl (by kernel_rfl) ?_)
      | (go_at_call 12; (with_reducible refine (bytes_ok (HK.out.below HB2.out) (HM.out.below HB2.out) HV.out hR OK.out).mono ?_); rw [HY.out]; rintro x w3 ⟨v, rfl, hR3, hb⟩; obtain ⟨A3, k3, rfl, hc3, hC3⟩ := Kd.R_reads hR3; have HC3 := Aside0.mk hC3; have HB3 := Aside0.mk (HB2.out.trans (hb.mono HB2.out.size)); have BM3 := Aside0.mk ((hb.block _ (blk_lt BM2.out)).trans BM2.out); clear hR3 hC3 hb))
    obtain ⟨bb, off, rfl, hcell⟩ := C_block HC3.out (by rw [HR.out]; simp)
    have z0 : w3.cell? ⟨bb, off, none⟩ = some (.int .u8 1) := by have := hcell 0 (by rw [HR.out]; simp); simpa [HR.out] using this
    have z1 : w3.cell? ⟨bb, off + 1, none⟩ = some (.int .u8 m.kind) := by have := hcell 1 (by rw [HR.out]; simp); simpa [HR.out] using this
    have zl : 2 ≤ ys.length := by rw [HR.out]; simp
    have m0 := (blk_cell BM3.out 0).trans (show _ = some (Value.int .i64 m.kind) from rfl)
    have t1 : decide ((ys.length : Int) < 2) = false := decide_eq_false (by omega)
    have t2 : (m.kind != m.kind) = false := bne_self_eq_false' _
    have t3 : 0 < ys.length := by omega
    have t4 : 1 < ys.length := by omega
    clear hcell
    go_cut [47] (fun v wc => v = .bool false ∧ Aside0 (Below w3.heap.size w3 wc))
    case first =>
      go_quiet (fail)
      go_wp2_with fail
      go_meet
      exact ⟨rfl, ⟨pw_below_drewN (Below.refl _ _) _⟩⟩
    case rest =>
      obtain ⟨rfl, HBc⟩ := hcut
      clear z0 z1 zl m0 t1 t2 t3 t4
      go_upto_region 6 with fail
      have HB4 := Aside0.mk (HB3.out.trans (HBc.out.mono HB3.out.size))
      have BM4 := Aside0.mk ((HBc.out.block _ (blk_lt BM3.out)).trans BM3.out)
      obtain ⟨w4, hw4⟩ : ∃ w4, w4 = wc := ⟨_, rfl⟩
      subst hw4
      clear HBc BM3 HB3 BM2 HB2 BM1
      go_upto_region 7 with (first
        | (refine wpList_load_row rfl 34 (.tmp 2) rfl w.heap.size rfl 34 (m.val p) (0, 0) _ BM4.out Tryd.underlying34 rfl (by kernel_rfl) ?_)
        | (refine wpList_store_row rfl 34 (.tmp 7) (.tmp 48) rfl w4.heap.size (m.val p) rfl rfl 34 zMs (blk_new w4 _) (by kernel_rfl) rfl (val_one m p) ?_))
      have BO := Aside0.mk (setRow_heap (w4.alloc (.cells zMs 34)) w4.heap.size _ (m.val p) _ _ (blk_new w4 _))
      have BM5 := Aside0.mk ((setRow_other (w4.alloc (.cells zMs 34)) w4.heap.size w.heap.size (m.val p) (Nat.ne_of_lt (blk_lt BM4.out))).trans (blk_alloc BM4.out _))
      have HB5 := Aside0.mk (below_setRow (below_alloc HB4.out (.cells zMs 34)) HB4.out.size (m.val p))
      have HOM : Aside0 (w.heap.size < w4.heap.size) := ⟨blk_lt BM4.out⟩
      obtain ⟨O, hO⟩ : ∃ O, w4.heap.size = O := ⟨_, rfl⟩
      rw [hO] at BO BM5 HB5 HOM ⊢
      generalize (w4.alloc (.cells zMs 34)).setRow O (m.val p) = w5 at *
      have o0 := (blk_cell BO.out 0).trans (show _ = some (Value.int .i64 m.kind) from rfl)
      have f0 := blk_frozen BO.out 0
      clear hO HB4 BM4
      obtain ⟨o, ho⟩ : ∃ o : Ms, { m with kind := kd } = o := ⟨_, rfl⟩
      have BO6 : Aside0 ((w5.setCell ⟨O, 0, none⟩ (.int .i64 kd)).heap[O]? = some (.cells (o.val p) 34 (0, 0))) := ⟨by rw [← ho]; exact blk_set BO.out 0 (.int .i64 kd)⟩
      have BM6 : Aside0 ((w5.setCell ⟨O, 0, none⟩ (.int .i64 kd)).heap[w.heap.size]? = some (.cells (m.val p) 34 (0, 0))) := ⟨(Below.heap_setCell _ _ _ _ (Nat.ne_of_lt HOM.out)).trans BM5.out⟩
      have HB6 : Aside0 (Below w.heap.size w (w5.setCell ⟨O, 0, none⟩ (.int .i64 kd))) := ⟨below_set HB5.out (Nat.le_of_lt HOM.out)⟩
      have HOo : Aside0 (∀ w', Below w.heap.size w w' → Lies w' o p) := ⟨fun w' hb => by have h := HM.out.below hb; rw [← ho]; exact ⟨h.v, h.vc, h.l, h.lc, h.r, h.rc⟩⟩
      have HVo : Aside0 (Bytes o.e.f2.f1) := ⟨by rw [← ho]; exact HV.out⟩
      have hRo : o.R.length < 9223372036854775807 := by rw [← ho]; exact hR
      have HCo : Aside0 ((¬ (1 ≤ kd ∧ kd ≤ 17) → checkM o = 2) ∧ (1 ≤ kd ∧ kd ≤ 17 → hasV kd = hasV m.kind → checkM o = 0)) := ⟨fun h => by rw [← ho]; exact kinds_no h, fun h h2 => by rw [← ho]; exact kinds_ok OK.out h2 h⟩
      clear ho
      go_upto_region 8 with fail
      generalize w5.setCell ⟨O, 0, none⟩ (.int .i64 kd) = w6 at *
      clear o0 f0 BO BM5 HB5
      obtain ⟨ha, hha⟩ : ∃ h, hasV kd = h := ⟨_, rfl⟩
      obtain ⟨hb, hhb⟩ : ∃ h, hasV m.kind = h := ⟨_, rfl⟩
      have HHa := Aside0.mk hha
      have HHb := Aside0.mk hhb
      clear hha hhb
      go_wp2_with fail
      go_loopg [8, 9] 5 (fun q v8 v9 w' => ∃ k : Nat, k ≤ 5 ∧ v9 = .int .i64 k ∧ q = 5 - k ∧ v8 = .bool (smB ha hb k) ∧ Aside0 (w'.heap[O]? = some (.cells (o.val p) 34 (0, 0))) ∧ Aside0 (w'.heap[w.heap.size]? = some (.cells (m.val p) 34 (0, 0))) ∧ Aside0 (Below w.heap.size w w'))
      case atStart => exact ⟨0, by omega, rfl, rfl, rfl, BO6, BM6, HB6⟩
      case round =>
        obtain ⟨k, hk, rfl, rfl, rfl, BO7, BM7, HB7⟩ := hrel
        by_cases hlt : k < 5
        · have t5 : decide ((k : Int) < 5) = true := decide_eq_true (by omega)
          obtain ⟨c, hc⟩ : ∃ c, letters[k]'hlt = c := ⟨_, rfl⟩
          have hcm : c ∈ ([110, 102, 101, 108, 114] : List UInt8) := by rw [← hc]; exact List.getElem_mem hlt
          have HSm : Aside0 (smB ha hb (k + 1) = (smB ha hb k && (hasL ha c == hasL hb c))) := ⟨by rw [← hc]; exact smB_succ ha hb k hlt⟩
          have hlit := (blk_cell (blk_new wr (.cells #[.string ⟨#[110]⟩, .string ⟨#[102]⟩, .string ⟨#[101]⟩, .string ⟨#[108]⟩, .string ⟨#[114]⟩] 9)) k).trans (show _ = some (Value.string ⟨#[c]⟩) by
            rw [← hc]
            obtain rfl | rfl | rfl | rfl | rfl : k = 0 ∨ k = 1 ∨ k = 2 ∨ k = 3 ∨ k = 4 := by omega
            all_goals rfl)
          have hblit := below_alloc (Below.refl wr.heap.size wr) (.cells #[.string ⟨#[110]⟩, .string ⟨#[102]⟩, .string ⟨#[101]⟩, .string ⟨#[108]⟩, .string ⟨#[114]⟩] 9)
          have BO7 := Aside0.mk (blk_below BO7.out hblit)
          have BM7 := Aside0.mk (blk_below BM7.out hblit)
          have HB7 := Aside0.mk (below_then HB7.out HB7.out.size hblit)
          have k5 : (k : Int) < 5 := by omega
          have k0 : (0 : Int) ≤ (k : Int) := by omega
          have hcM := Aside0.mk hcm
          clear hc hblit hcm
          go_upto_region 13 with fail
          generalize wr.alloc (.cells #[.string ⟨#[110]⟩, .string ⟨#[102]⟩, .string ⟨#[101]⟩, .string ⟨#[108]⟩, .string ⟨#[114]⟩] 9) = wl at *
          clear hlit
          obtain ⟨xa, hxa⟩ : ∃ r, hasL ha c = r := ⟨_, rfl⟩
          obtain ⟨xb, hxb⟩ : ∃ r, hasL hb c = r := ⟨_, rfl⟩
          have Hxa : Aside0 (hasL (hasV kd) c = xa) := ⟨by rw [HHa.out]; exact hxa⟩
          have Hxb : Aside0 (hasL (hasV m.kind) c = xb) := ⟨by rw [HHb.out]; exact hxb⟩
          rw [hxa, hxb] at HSm
          obtain ⟨sm, hsm⟩ : ∃ r, smB ha hb k = r := ⟨_, rfl⟩
          rw [hsm] at HSm ⊢
          have m0 : wl.cell? ⟨w.heap.size, 0, none⟩ = some (.int .i64 m.kind) := (blk_cell BM7.out 0).trans rfl
          clear hxa hxb hsm
          cases sm
          · go_quiet (fail)
            go_wp2_with fail
            go_roundg (5 - (k + 1))
            case measure => omega
            case rel => exact ⟨k + 1, by omega, by go_num, rfl, by rw [HSm.out]; rfl, BO7, BM7, ⟨pw_below_drewN HB7.out _⟩⟩
          · go_region_held3 (fun W => W.cell? ⟨w.heap.size, 0, none⟩ = some (.int .i64 m.kind)) (first | go_keep | exact (blk_cell BM7.out 0).trans rfl) (first
              | (go_at_call 21; (with_reducible refine (rhas_c kd c hcM.out Hxa.out _).mono ?_); rintro z u8 ⟨rfl, hb⟩; have BO7 := Aside0.mk (blk_below BO7.out ⟨hb.os, hb.tape, hb.output, hb.size, hb.block⟩); have BM7 := Aside0.mk (blk_below BM7.out ⟨hb.os, hb.tape, hb.output, hb.size, hb.block⟩); have HB7 := Aside0.mk (below_then HB7.out HB7.out.size ⟨hb.os, hb.tape, hb.output, hb.size, hb.block⟩); clear hb)
              | (go_at_call 21; (with_reducible refine (rhas_c m.kind c hcM.out Hxb.out _).mono ?_); rintro z u8 ⟨rfl, hb⟩; have BO7 := Aside0.mk (blk_below BO7.out ⟨hb.os, hb.tape, hb.output, hb.size, hb.block⟩); have BM7 := Aside0.mk (blk_below BM7.out ⟨hb.os, hb.tape, hb.output, hb.size, hb.block⟩); have HB7 := Aside0.mk (below_then HB7.out HB7.out.size ⟨hb.os, hb.tape, hb.output, hb.size, hb.block⟩); clear hb))
            all_goals
              go_wp2_with fail
              go_roundg (5 - (k + 1))
              case measure => omega
              case rel => exact ⟨k + 1, by omega, by go_num, rfl, by rw [HSm.out]; cases xa <;> cases xb <;> rfl, BO7, BM7, HB7⟩
        · have t5 : decide ((k : Int) < 5) = false := decide_eq_false (by omega)
          obtain rfl : k = 5 := by omega
          obtain ⟨sm, hsm⟩ : ∃ r, smB ha hb 5 = r := ⟨_, rfl⟩
          have HSm := Aside0.mk hsm
          rw [hsm]
          clear hsm
          obtain ⟨x, hx⟩ : ∃ x, checkM o = x := ⟨_, rfl⟩
          have HX2 := Aside0.mk hx
          have hx0 : (1 ≤ kd ∧ kd ≤ 17) → sm = true → x = 0 := fun hkd e => by rw [← hx]; exact HCo.out.2 hkd (by rw [HHa.out, HHb.out]; exact smB_all (HSm.out.trans e))
          have hx2 : ¬ (1 ≤ kd ∧ kd ≤ 17) → x = 2 := fun hkd => by rw [← hx]; exact HCo.out.1 hkd
          have Hx0 := Aside0.mk hx0
          have Hx2 := Aside0.mk hx2
          clear hx hx0 hx2
          go_upto_region 14 with fail
          obtain ⟨rt, hrt⟩ : ∃ r, decide (1 ≤ kd ∧ kd ≤ 17) = r := ⟨_, rfl⟩
          have HRt := Aside0.mk hrt
          clear hrt
          go_cut [11] (fun v wc => v = .bool rt ∧ wc = wr)
          case first =>
            by_cases h1 : 1 ≤ kd
            · by_cases h2 : kd ≤ 17
              · have HE : Aside0 (rt = true) := ⟨by rw [← HRt.out]; exact decide_eq_true ⟨h1, h2⟩⟩
                go_wp2_with fail
                go_meet
                exact ⟨by rw [HE.out], rfl⟩
              · have HE : Aside0 (rt = false) := ⟨by rw [← HRt.out]; exact decide_eq_false (fun h => h2 h.2)⟩
                go_wp2_with fail
                go_meet
                exact ⟨by rw [HE.out], rfl⟩
            · have HE : Aside0 (rt = false) := ⟨by rw [← HRt.out]; exact decide_eq_false (fun h => h1 h.1)⟩
              go_wp2_with fail
              go_meet
              exact ⟨by rw [HE.out], rfl⟩
          case rest =>
            obtain ⟨rfl, hw⟩ := hcut
            obtain ⟨w8, hw8⟩ : ∃ w8, w8 = wc := ⟨_, rfl⟩
            subst hw8
            have BO7 : Aside0 (w8.heap[O]? = some (.cells (o.val p) 34 (0, 0))) := ⟨by rw [hw]; exact BO7.out⟩
            have HB7 : Aside0 (Below w.heap.size w w8) := ⟨by rw [hw]; exact HB7.out⟩
            clear hw
            go_upto_region 16 with (first
              | (refine wpList_load_row rfl 34 (.tmp 7) rfl O rfl 34 (o.val p) (0, 0) _ BO7.out Tryd.underlying34 rfl (by kernel_rfl) ?_)
              | (go_at_call 15; (with_reducible refine (check_ (HK.out.below HB7.out) (HOo.out _ HB7.out) HVo.out hRo).mono ?_); rw [HX2.out]; rintro z wb ⟨rfl, hb⟩; have HB8 := Aside0.mk (HB7.out.trans (hb.mono HB7.out.size)); clear hb))
            cases rt
            · obtain rfl := Hx2.out (of_decide_eq_false HRt.out)
              cases sm
              all_goals
                go_wp2_with (go_at_call 11; (with_reducible refine (known_ _ (HK.out.below HB8.out)).mono ?_); rintro z w9 ⟨rfl, hq⟩; have HB9 := Aside0.mk (HB8.out.trans (hq.mono HB8.out.size)); clear hq)
                go_ret
                exact ⟨rfl, HB9.out⟩
            · have hkd := of_decide_eq_true HRt.out
              cases sm
              · clear hkd
                go_wp2_with (go_at_call 11; (with_reducible refine (known_ _ (HK.out.below HB8.out)).mono ?_); rintro z w9 ⟨rfl, hq⟩; have HB9 := Aside0.mk (HB8.out.trans (hq.mono HB8.out.size)); clear hq)
                go_ret
                exact ⟨rfl, HB9.out⟩
              · obtain rfl := Hx0.out hkd rfl
                clear hkd
                go_wp2_with (go_at_call 11; (with_reducible refine (known_ _ (HK.out.below HB8.out)).mono ?_); rintro z w9 ⟨rfl, hq⟩; have HB9 := Aside0.mk (HB8.out.trans (hq.mono HB8.out.size)); clear hq)
                go_ret
                exact ⟨rfl, HB9.out⟩
  · go_wp2_with (go_at_call 11; (with_reducible refine (known_ _ (HK.out.below HB1.out)).mono ?_); rintro z w9 ⟨rfl, hq⟩; have HB9 := Aside0.mk (HB1.out.trans (hq.mono HB1.out.size)); clear hq)
    go_ret
    exact ⟨rfl, HB9.out⟩
set_option maxHeartbeats 8000000 in
set_option maxRecDepth 100000 in
theorem kinds_law2 {w : World} {m : Ms} {p : Pl} (kd : Int) (hK : Kin w) (hm : Lies w m p) (hv : Bytes m.e.f2.f1) (hR : m.R.length < 9223372036854775807) (hl : m.L.length < 9223372036854775807) (hx : checkM m = 2) :
    Calls Tryd.prog 6 #[.agg (m.val p), .int .i64 kd] w fun e w' => e = .returned (.bool true) ∧ Below w.heap.size w w' := by
  have HB0 := Aside0.mk (below_alloc (Below.refl w.heap.size w) (.cells (m.val p) 34))
  have BM := Aside0.mk (blk_new w (.cells (m.val p) 34))
  have HK := Aside0.mk hK
  have HM := Aside0.mk hm
  have HV := Aside0.mk hv
  clear hK hm hv
  go_enter Tryd.func6, Tryd.ntmps6
  go_upto_region 1 with fail
  generalize w.alloc (.cells (m.val p) 34) = W at *
  obtain ⟨c0, c1, c2, c3, c4, c5, c6, c7, c8, c9, c10, c11, c12, c13, c14, c15, c16⟩ := ms_cells BM.out
  have HX := Aside0.mk hx
  clear hx
  go_wp2_with (first
    | (refine wpList_load_row rfl 34 (.tmp 2) rfl w.heap.size rfl 34 (m.val p) (0, 0) _ BM.out Tryd.underlying34 rfl (by kernel_rfl) ?_)
    | (go_at_call 10; (with_reducible refine (long_c (HM.out.below HB0.out) hl).mono ?_); rintro x w1 ⟨⟨r, rfl⟩, hb⟩; have HB1 := Aside0.mk (HB0.out.trans (hb.mono HB0.out.size)); have BM1 := Aside0.mk ((hb.block _ (blk_lt BM.out)).trans BM.out); obtain ⟨d0, d1, d2, d3, d4, d5, d6, d7, d8, d9, d10, d11, d12, d13, d14, d15, d16⟩ := ms_cells BM1.out; clear hb c0 c1 c2 c3 c4 c5 c6 c7 c8 c9 c10 c11 c12 c13 c14 c15 c16; cases r)
    | (go_at_call 15; (with_reducible refine (check_ (HK.out.below HB1.out) (HM.out.below HB1.out) HV.out hR).mono ?_); rw [HX.out]; rintro x w2 ⟨rfl, hb⟩; have HB2 := Aside0.mk (HB1.out.trans (hb.mono HB1.out.size)); clear hb)
    | (go_at_call 11; (with_reducible refine (known_ _ (HK.out.below HB2.out)).mono ?_); rintro z w9 ⟨rfl, hq⟩; have HB9 := Aside0.mk (HB2.out.trans (hq.mono HB2.out.size)); clear hq) | (go_at_call 11; (with_reducible refine (known_ _ (HK.out.below HB1.out)).mono ?_); rintro z w9 ⟨rfl, hq⟩; have HB9 := Aside0.mk (HB1.out.trans (hq.mono HB1.out.size)); clear hq))
  all_goals
    go_ret
    exact ⟨rfl, HB9.out⟩
theorem kinds_law {w : World} {m : Ms} {p : Pl} (kd : Int) (hK : Kin w) (hm : Lies w m p) (hv : Bytes m.e.f2.f1) (hR : m.R.length < 9223372036854775807) (hl : m.L.length < 9223372036854775807) :
    Calls Tryd.prog 6 #[.agg (m.val p), .int .i64 kd] w fun e w' => e = .returned (.bool true) ∧ Below w.heap.size w w' := by
  rcases check_cases m with ⟨ok, hx⟩ | hx
  · exact kinds_law1 kd hK hm hv hR hl ok hx
  · exact kinds_law2 kd hK hm hv hR hl hx
open Go.Proofs.YthaoiamgkpkcbaaDoor.Opn in
theorem msgsKinds (w : World) (hK : Kin w) (cs : Array Value) (t : TM) (K : kMsg.K w t cs.toList) (wf : wMsg t) (a : Int) (wa : (Lit.int .i64 a).wf = true) :
    Calls Tryd.prog 6 #[.agg cs, .int .i64 a] w fun e w' => e = .returned (.bool true) ∧ Below w.heap.size w w' := by
  obtain ⟨p, hc, hl⟩ := msg_cells K
  obtain rfl : cs = (toMs t).val p := Array.toList_inj.1 hc
  have W := wm_of wf
  exact kinds_law a hK hl W.e (by have := W.rl; omega) (by have := W.ll; omega)
end Go.Proofs.YthaoiamgkpkcbaaDoor.Ms
