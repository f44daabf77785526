/- The contract of msgs.get. Conditions: the table lies in its variable. · The contract of msgs.Read. Conditions: the table lies in its variable; bytes that fit in memory. · The contract of msgs.Read. Conditions: the table lies in its variable; bytes that fit in memory. -/
import Derived.Test.YthaoiamgkpkcbaaDoorYMsgsReads15
import Derived.Laws.Tables
import Derived.Laws.CopyOwn
import Derived.Deep.Light

namespace Go.Proofs.YthaoiamgkpkcbaaDoor.Ms
open Go.ChangeShapes Go.WideShapes Go.ChangeAt Go.RowKit Go.Proofs.YthaoiamgkpkcbaaDoor.Pk Go.Proofs.YthaoiamgkpkcbaaDoor.Tg Go.Proofs.YthaoiamgkpkcbaaDoor.Enc Go.Proofs.YthaoiamgkpkcbaaDoor.EncC Go.Proofs.YthaoiamgkpkcbaaDoor.EncP
open Go.Proofs.YthaoiamgkpkcbaaDoor.Hlp Go.Proofs.YthaoiamgkpkcbaaDoor.Wrd Go.Proofs.YthaoiamgkpkcbaaDoor.Lex Go.Proofs.YthaoiamgkpkcbaaDoorW.PrintWords Go.Proofs.YthaoiamgkpkcbaaDoorW.PrintLast Go.Proofs.YthaoiamgkpkcbaaDoorW.PrintMore
set_option linter.unusedVariables false
set_option linter.unusedSimpArgs false
section
variable {w W : World} {g M : Nat} {m : Ms} {vE vL vR : Value} {s : St}
theorem gs_below (n : Int) {r : Int} {s1 : St} (hr : (belowS n s).1 = r) (hs : (belowS n s).2 = s1) (h : Gs w W g M m vE vL vR s) : Calls Tryd.prog 67 #[.pointer (some ⟨g, 0, none⟩), .int .i64 n] W fun x w' => x = .returned (.int .i64 r) ∧ Gs w w' g M m vE vL vR s1 := by
  subst hr hs
  obtain ⟨b, c, hrd⟩ := h.rd
  refine (below_ n hrd).mono ?_
  rintro x w' ⟨rfl, hA⟩
  exact ⟨rfl, h.step hA (belowS_len n s)⟩
theorem gs_truth {r : Bool} {s1 : St} (hr : (truthS s).1 = r) (hs : (truthS s).2 = s1) (h : Gs w W g M m vE vL vR s) : Calls Tryd.prog 69 #[.pointer (some ⟨g, 0, none⟩)] W fun x w' => x = .returned (.bool r) ∧ Gs w w' g M m vE vL vR s1 := by
  subst hr hs
  obtain ⟨b, c, hrd⟩ := h.rd
  refine (truth_ hrd).mono ?_
  rintro x w' ⟨rfl, hA⟩
  exact ⟨rfl, h.step hA (truthS_len s)⟩
theorem gs_fail (h : Gs w W g M m vE vL vR s) : Calls Tryd.prog 68 #[.pointer (some ⟨g, 0, none⟩)] W fun x w' => x = .returned (.tuple #[]) ∧ Gs w w' g M m vE vL vR (failS s) := by
  obtain ⟨b, c, hrd⟩ := h.rd
  refine (markWrong_ hrd).mono ?_
  rintro x w' ⟨rfl, hA⟩
  exact ⟨rfl, h.step hA (failS_len s)⟩
theorem gs_get {x : E6} {s1 : St} (hx : toE (getS s).1 = x) (hs : (getS s).2 = s1) (h : Gs w W g M m vE vL vR s) : Calls Tryd.prog 70 #[.pointer (some ⟨g, 0, none⟩)] W fun y w' => ∃ A c, y = .returned (.agg #[.string x.f0, .int .i64 x.f1.f0, .int .i64 x.f1.f1, .int .i64 x.f1.f2, .bool x.f2.f0, .slice A x.f2.f1.length c]) ∧ Kd.R (Kd.int .u8) 5 w' w.heap.size (fun k => W.heap.size ≤ k) (.slice A x.f2.f1.length c) x.f2.f1 ∧ Gs w w' g M m vE vL vR s1 := by
  subst hx hs
  obtain ⟨b, c, hrd⟩ := h.rd
  refine (get_ hrd h.len).mono ?_
  rintro x w' ⟨A, c, rfl, hR, hA⟩
  exact ⟨A, c, rfl, Kd.R_lower (Kd.R_mono (Kd.R_bound hR) (fun k hk => hk.2.1)) h.up.size, h.step hA (getS_len s)⟩
theorem Gs.kin (hK : Kin w) (h : Gs w W g M m vE vL vR s) (hg : ∀ t fr, w.heap[0]? = some (.cells kindsC t fr) → 0 ≠ g ∧ 0 ≠ M) : Kin W := by
  obtain ⟨t, fr, h0⟩ := hK
  obtain ⟨h1, h2⟩ := hg t fr h0
  exact ⟨t, fr, (h.up.block 0 (blk_lt h0) h1 h2).trans h0⟩
end
set_option maxHeartbeats 8000000 in
set_option maxRecDepth 100000 in
theorem get_m {w : World} {g M : Nat} {vE vL vR : Value} {s : St} (hK : Kin w) (h0g : 0 ≠ g) (h0M : 0 ≠ M) (h : Gs w w g M zM vE vL vR s) :
    Calls Tryd.prog 47 #[.pointer (some ⟨g, 0, none⟩), .pointer (some ⟨M, 0, none⟩)] w fun e w' => e = .returned (.tuple #[]) ∧ ∃ vE vL vR, Gs w w' g M (getM s).1 vE vL vR (getM s).2 := by
  have HK := Aside0.mk hK
  have HS := Aside0.mk h
  obtain ⟨k, hk⟩ : ∃ r, (belowS 18 s).1 = r := ⟨_, rfl⟩
  obtain ⟨s1, hs1⟩ : ∃ r, (belowS 18 s).2 = r := ⟨_, rfl⟩
  have Hk := Aside0.mk hk
  have Hs1 := Aside0.mk hs1
  have H0 := Aside0.mk h0g
  have H1 := Aside0.mk h0M
  obtain ⟨b, hb⟩ : ∃ b, hasV k = b := ⟨_, rfl⟩
  have HH := Aside0.mk hb
  have HG0 : Aside0 (g0 s = ({ zM with kind := k }, if k = 0 then failS s1 else s1)) := ⟨by unfold g0; rw [hk, hs1]⟩
  have HGM : Aside0 (getM s = gr b (gl b (ge b (gf b (gn b (gep (gfr ({ zM with kind := k }, if k = 0 then failS s1 else s1)))))))) := ⟨by unfold getM; rw [HG0.out]; simp only [hb]⟩
  clear h hK hk hs1 h0g h0M hb
  go_enter Tryd.func47, Tryd.ntmps47
  go_upto_region 1 with (go_at_call 67; (with_reducible refine (gs_below 18 Hk.out Hs1.out HS.out).mono ?_); rintro x w1 ⟨rfl, hs⟩; have HS1 := Aside0.mk hs; clear hs; have o0 := (blk_cell HS1.out.blk 0).trans (show _ = some (Value.int .i64 0) from rfl); have f0 := blk_frozen HS1.out.blk 0)
  have HS2 := Aside0.mk (HS1.out.put (m' := { zM with kind := k }) 0 (.int .i64 k) rfl rfl rfl rfl)
  generalize w1.setCell ⟨M, 0, none⟩ (.int .i64 k) = w2 at *
  clear o0 f0 HS1 w1 HS
  have o0 := (blk_cell HS2.out.blk 0).trans (show _ = some (Value.int .i64 k) from rfl)
  go_upto_if 18 with fail
  go_cut [] (fun wc => Aside0 (Gs w wc g M { zM with kind := k } vE vL vR (if k = 0 then failS s1 else s1)))
  case first =>
    by_cases hk : k = 0
    · have t0 : (k == 0) = true := beq_iff_eq.2 hk
      have HK0 := Aside0.mk hk
      clear hk
      go_wp2_with (go_at_call 68; (with_reducible refine (gs_fail HS2.out).mono ?_); rintro x w3 ⟨rfl, hs⟩; have HS3 := Aside0.mk hs; clear hs)
      go_meet
      exact ⟨by rw [if_pos HK0.out]; exact HS3.out⟩
    · have t0 : (k == 0) = false := beq_eq_false_iff_ne.2 hk
      have HK0 := Aside0.mk hk
      clear hk
      go_wp2_with fail
      go_meet
      exact ⟨by rw [if_neg HK0.out]; exact HS2.out⟩
  case rest =>
    have HS3 := hcut
    clear hcut o0 HS2
    obtain ⟨s2, hs2⟩ : ∃ r, (if k = 0 then failS s1 else s1) = r := ⟨_, rfl⟩
    rw [hs2] at HS3 HGM
    clear hs2 HG0
    go_upto_region 3 with fail
    obtain ⟨w3, hw3⟩ : ∃ w3, w3 = wc := ⟨_, rfl⟩
    subst hw3
    obtain ⟨fr, hfr⟩ : ∃ r, (belowS 1048576 s2).1 = r := ⟨_, rfl⟩
    obtain ⟨s3, hs3⟩ : ∃ r, (belowS 1048576 s2).2 = r := ⟨_, rfl⟩
    obtain ⟨ds, hds⟩ : ∃ r, (belowS 1048576 s3).1 = r := ⟨_, rfl⟩
    obtain ⟨s4, hs4⟩ : ∃ r, (belowS 1048576 s3).2 = r := ⟨_, rfl⟩
    obtain ⟨ep, hep⟩ : ∃ r, (belowS 1099511627776 s4).1 = r := ⟨_, rfl⟩
    obtain ⟨s5, hs5⟩ : ∃ r, (belowS 1099511627776 s4).2 = r := ⟨_, rfl⟩
    obtain ⟨op, hop⟩ : ∃ r, (belowS 1099511627776 s5).1 = r := ⟨_, rfl⟩
    obtain ⟨s6, hs6⟩ : ∃ r, (belowS 1099511627776 s5).2 = r := ⟨_, rfl⟩
    have HGF : Aside0 (gep (gfr ({ zM with kind := k }, s2)) = ({ zM with kind := k, fr := fr, dst := ds, ep := ep, op := op }, s6)) := ⟨by unfold gep gfr; simp only [hfr, hs3, hds, hs4, hep, hs5, hop, hs6]⟩
    have HGM2 : Aside0 (getM s = gr b (gl b (ge b (gf b (gn b ({ zM with kind := k, fr := fr, dst := ds, ep := ep, op := op }, s6)))))) := ⟨by rw [HGM.out, HGF.out]⟩
    have Ha := Aside0.mk hfr
    have Hb := Aside0.mk hs3
    have Hc := Aside0.mk hds
    have Hd := Aside0.mk hs4
    have He := Aside0.mk hep
    have Hf := Aside0.mk hs5
    have Hg := Aside0.mk hop
    have Hh := Aside0.mk hs6
    clear hfr hs3 hds hs4 hep hs5 hop hs6 HGM HGF
    go_upto_region 4 with (first
      | (go_at_call 67; (with_reducible refine (gs_below 1048576 Ha.out Hb.out HS3.out).mono ?_); rintro x w4 ⟨rfl, hs⟩; have HS4 := Aside0.mk hs; clear hs)
      | (go_at_call 67; (with_reducible refine (gs_below 1048576 Hc.out Hd.out HS4.out).mono ?_); rintro x w5 ⟨rfl, hs⟩; have HS5 := Aside0.mk hs; clear hs; have o1 := (blk_cell HS5.out.blk 1).trans (show _ = some (Value.int .i64 0) from rfl); have f1 := blk_frozen HS5.out.blk 1; have o2 := (blk_cell HS5.out.blk 2).trans (show _ = some (Value.int .i64 0) from rfl); have f2 := blk_frozen HS5.out.blk 2))
    have HS6 := Aside0.mk ((HS5.out.put (m' := { zM with kind := k, fr := fr }) 1 (.int .i64 fr) rfl rfl rfl rfl).put (m' := { zM with kind := k, fr := fr, dst := ds }) 2 (.int .i64 ds) rfl rfl rfl rfl)
    generalize (w5.setCell ⟨M, 1, none⟩ (.int .i64 fr)).setCell ⟨M, 2, none⟩ (.int .i64 ds) = w6 at *
    clear o1 f1 o2 f2 HS5 HS4 HS3 w5 w4 w3
    go_upto_region 5 with (first
      | (go_at_call 67; (with_reducible refine (gs_below 1099511627776 He.out Hf.out HS6.out).mono ?_); rintro x w7 ⟨rfl, hs⟩; have HS7 := Aside0.mk hs; clear hs)
      | (go_at_call 67; (with_reducible refine (gs_below 1099511627776 Hg.out Hh.out HS7.out).mono ?_); rintro x w8 ⟨rfl, hs⟩; have HS8 := Aside0.mk hs; clear hs; have o1 := (blk_cell HS8.out.blk 3).trans (show _ = some (Value.int .i64 0) from rfl); have f1 := blk_frozen HS8.out.blk 3; have o2 := (blk_cell HS8.out.blk 4).trans (show _ = some (Value.int .i64 0) from rfl); have f2 := blk_frozen HS8.out.blk 4))
    have HS9 := Aside0.mk ((HS8.out.put (m' := { zM with kind := k, fr := fr, dst := ds, ep := ep }) 3 (.int .i64 ep) rfl rfl rfl rfl).put (m' := { zM with kind := k, fr := fr, dst := ds, ep := ep, op := op }) 4 (.int .i64 op) rfl rfl rfl rfl)
    generalize (w8.setCell ⟨M, 3, none⟩ (.int .i64 ep)).setCell ⟨M, 4, none⟩ (.int .i64 op) = w9 at *
    clear o1 f1 o2 f2 HS8 HS7 HS6 w8 w7 w6 Ha Hb Hc Hd He Hf Hg Hh
    have o0 := (blk_cell HS9.out.blk 0).trans (show _ = some (Value.int .i64 k) from rfl)
    obtain ⟨bn, bf, be, bl, br⟩ := b
    go_upto_if 52 with (go_at_call 23; (with_reducible refine (has_ _ _ (HS9.out.kin HK.out (fun _ _ _ => ⟨H0.out, H1.out⟩))).mono ?_); rw [HH.out, show hasR ⟨bn, bf, be, bl, br⟩ = .tuple #[.bool bn, .bool bf, .bool be, .bool bl, .bool br] from rfl]; rintro x wa ⟨rfl, hb⟩; have HSa := Aside0.mk (HS9.out.below hb); clear hb)
    clear o0 HS9 w9
    obtain ⟨m1, hm1⟩ : ∃ m : Ms, { zM with kind := k, fr := fr, dst := ds, ep := ep, op := op } = m := ⟨_, rfl⟩
    have hL1 : m1.L = [] := by rw [← hm1]; rfl
    have hR1 : m1.R = [] := by rw [← hm1]; rfl
    rw [hm1] at HSa HGM2
    have HL1 := Aside0.mk hL1
    have HR1 := Aside0.mk hR1
    clear hm1 hL1 hR1
    go_cut [4] (fun v wc => v = .bool bn ∧ Aside0 (Gs w wc g M (gn ⟨bn, bf, be, bl, br⟩ (m1, s6)).1 vE vL vR (gn ⟨bn, bf, be, bl, br⟩ (m1, s6)).2))
    case first =>
      cases bn
      · go_wp2_with fail
        go_meet
        exact ⟨rfl, HSa⟩
      · obtain ⟨n, hn⟩ : ∃ r, (belowS 1099511627776 s6).1 = r := ⟨_, rfl⟩
        obtain ⟨s7, hs7⟩ : ∃ r, (belowS 1099511627776 s6).2 = r := ⟨_, rfl⟩
        have Hn := Aside0.mk hn
        have Hs := Aside0.mk hs7
        clear hn hs7
        go_wp2_with (go_at_call 67; (with_reducible refine (gs_below 1099511627776 Hn.out Hs.out HSa.out).mono ?_); rintro x wb ⟨rfl, hs⟩; have HSb := Aside0.mk hs; clear hs; have o1 := (blk_cell HSb.out.blk 5).trans (show _ = some (Value.int .i64 m1.n) from rfl); have f1 := blk_frozen HSb.out.blk 5)
        go_meet
        refine ⟨rfl, ⟨?_⟩⟩
        have e1 : gn ⟨true, bf, be, bl, br⟩ (m1, s6) = ({ m1 with n := n }, s7) := by unfold gn; rw [if_pos rfl]; simp only [Hn.out, Hs.out]
        rw [e1]
        exact HSb.out.put (m' := { m1 with n := n }) 5 (.int .i64 n) rfl rfl rfl rfl
    case rest =>
      obtain ⟨rfl, HSb⟩ := hcut
      obtain ⟨⟨m2, s7⟩, hx⟩ : ∃ y, gn ⟨bn, bf, be, bl, br⟩ (m1, s6) = y := ⟨_, rfl⟩
      have HL2 : Aside0 (m2.L = []) := ⟨by have := (gn_LR ⟨bn, bf, be, bl, br⟩ (m1, s6)).1; rw [hx] at this; exact this.trans HL1.out⟩
      have HR2 : Aside0 (m2.R = []) := ⟨by have := (gn_LR ⟨bn, bf, be, bl, br⟩ (m1, s6)).2; rw [hx] at this; exact this.trans HR1.out⟩
      rw [hx] at HSb HGM2
      have HSb : Aside0 (Gs w wc g M m2 vE vL vR s7) := HSb
      clear hx HSa HL1 HR1
      go_upto_if 58 with fail
      obtain ⟨wb, hwb⟩ : ∃ w3, w3 = wc := ⟨_, rfl⟩
      subst hwb
      clear wa
      go_cut [5] (fun v wc => v = .bool bf ∧ Aside0 (Gs w wc g M (gf ⟨bn, bf, be, bl, br⟩ (m2, s7)).1 vE vL vR (gf ⟨bn, bf, be, bl, br⟩ (m2, s7)).2))
      case first =>
        cases bf
        · go_wp2_with fail
          go_meet
          exact ⟨rfl, HSb⟩
        · obtain ⟨n, hn⟩ : ∃ r, (truthS s7).1 = r := ⟨_, rfl⟩
          obtain ⟨s8, hs8⟩ : ∃ r, (truthS s7).2 = r := ⟨_, rfl⟩
          have Hn := Aside0.mk hn
          have Hs := Aside0.mk hs8
          clear hn hs8
          go_wp2_with (go_at_call 69; (with_reducible refine (gs_truth Hn.out Hs.out HSb.out).mono ?_); rintro x w4 ⟨rfl, hs⟩; have HSc := Aside0.mk hs; clear hs; have o1 := (blk_cell HSc.out.blk 6).trans (show _ = some (Value.bool m2.f) from rfl); have f1 := blk_frozen HSc.out.blk 6)
          go_meet
          refine ⟨rfl, ⟨?_⟩⟩
          have e1 : gf ⟨bn, true, be, bl, br⟩ (m2, s7) = ({ m2 with f := n }, s8) := by unfold gf; rw [if_pos rfl]; simp only [Hn.out, Hs.out]
          rw [e1]
          exact HSc.out.put (m' := { m2 with f := n }) 6 (.bool n) rfl rfl rfl rfl
      case rest =>
        obtain ⟨rfl, HSc⟩ := hcut
        obtain ⟨⟨m3, s8⟩, hx⟩ : ∃ y, gf ⟨bn, bf, be, bl, br⟩ (m2, s7) = y := ⟨_, rfl⟩
        have HL3 : Aside0 (m3.L = []) := ⟨by have := (gf_LR ⟨bn, bf, be, bl, br⟩ (m2, s7)).1; rw [hx] at this; exact this.trans HL2.out⟩
        have HR3 : Aside0 (m3.R = []) := ⟨by have := (gf_LR ⟨bn, bf, be, bl, br⟩ (m2, s7)).2; rw [hx] at this; exact this.trans HR2.out⟩
        rw [hx] at HSc HGM2
        have HSc : Aside0 (Gs w wc g M m3 vE vL vR s8) := HSc
        clear hx HSb HL2 HR2
        go_upto_if 64 with fail
        obtain ⟨w4, hw4⟩ : ∃ w3, w3 = wc := ⟨_, rfl⟩
        subst hw4
        go_cut [6] (fun v wc => v = .bool be ∧ ∃ vE, Aside0 (Gs w wc g M (ge ⟨bn, bf, be, bl, br⟩ (m3, s8)).1 vE vL vR (ge ⟨bn, bf, be, bl, br⟩ (m3, s8)).2))
        case first =>
          cases be
          · go_wp2_with fail
            go_meet
            exact ⟨rfl, vE, HSc⟩
          · obtain ⟨n, hn⟩ : ∃ r, toE (getS s8).1 = r := ⟨_, rfl⟩
            obtain ⟨s9, hs9⟩ : ∃ r, (getS s8).2 = r := ⟨_, rfl⟩
            have Hn := Aside0.mk hn
            have Hs := Aside0.mk hs9
            clear hn hs9
            go_wp2_with (go_at_call 70; (with_reducible refine (gs_get Hn.out Hs.out HSc.out).mono ?_); rintro x w5 ⟨A, c, rfl, hR, hs⟩; have HSd := Aside0.mk hs; have HRd := Aside0.mk hR; clear hs hR; have o7 := (blk_cell HSd.out.blk 7).trans (show _ = some (Value.string m3.e.f0) from rfl); have f7 := blk_frozen HSd.out.blk 7; have o8 := (blk_cell HSd.out.blk 8).trans (show _ = some (Value.int .i64 m3.e.f1.f0) from rfl); have f8 := blk_frozen HSd.out.blk 8; have o9 := (blk_cell HSd.out.blk 9).trans (show _ = some (Value.int .i64 m3.e.f1.f1) from rfl); have f9 := blk_frozen HSd.out.blk 9; have o10 := (blk_cell HSd.out.blk 10).trans (show _ = some (Value.int .i64 m3.e.f1.f2) from rfl); have f10 := blk_frozen HSd.out.blk 10; have o11 := (blk_cell HSd.out.blk 11).trans (show _ = some (Value.bool m3.e.f2.f0) from rfl); have f11 := blk_frozen HSd.out.blk 11; have o12 := (blk_cell HSd.out.blk 12).trans (show _ = some vE from rfl); have f12 := blk_frozen HSd.out.blk 12)
            go_meet
            refine ⟨rfl, .slice A n.f2.f1.length c, ⟨?_⟩⟩
            have e1 : ge ⟨bn, bf, true, bl, br⟩ (m3, s8) = ({ m3 with e := n }, s9) := by unfold ge; rw [if_pos rfl]; simp only [Hn.out, Hs.out]
            rw [e1]
            exact HSd.out.putE n (Kd.R_mono HRd.out (fun _ _ => trivial))
        case rest =>
          obtain ⟨rfl, vE2, HSd⟩ := hcut
          obtain ⟨⟨m4, s9⟩, hx⟩ : ∃ y, ge ⟨bn, bf, be, bl, br⟩ (m3, s8) = y := ⟨_, rfl⟩
          have HL4 : Aside0 (m4.L = []) := ⟨by have := (ge_LR ⟨bn, bf, be, bl, br⟩ (m3, s8)).1; rw [hx] at this; exact this.trans HL3.out⟩
          have HR4 : Aside0 (m4.R = []) := ⟨by have := (ge_LR ⟨bn, bf, be, bl, br⟩ (m3, s8)).2; rw [hx] at this; exact this.trans HR3.out⟩
          rw [hx] at HSd HGM2
          have HSd : Aside0 (Gs w wc g M m4 vE2 vL vR s9) := HSd
          clear hx HSc HL3 HR3
          go_upto_if 70 with fail
          obtain ⟨w5, hw5⟩ : ∃ w3, w3 = wc := ⟨_, rfl⟩
          subst hw5
          go_cut [7] (fun v wc => v = .bool bl ∧ ∃ vL, Aside0 (Gs w wc g M (gl ⟨bn, bf, be, bl, br⟩ (m4, s9)).1 vE2 vL vR (gl ⟨bn, bf, be, bl, br⟩ (m4, s9)).2))
          case first =>
            cases bl
            · go_wp2_with fail
              go_meet
              exact ⟨rfl, vL, HSd⟩
            · obtain ⟨N, hN, hN2⟩ := below_rng 1001 s9 (by decide)
              obtain ⟨s10, hs10⟩ : ∃ r, (belowS 1001 s9).2 = r := ⟨_, rfl⟩
              have Hn := Aside0.mk hN
              have Hs := Aside0.mk hs10
              have e1 : gl ⟨bn, bf, be, true, br⟩ (m4, s9) = iter lstep N (m4, s10) := by unfold gl; rw [if_pos rfl, hN, hs10, Int.toNat_natCast]
              have HE1 := Aside0.mk e1
              have n1001 : N < 1001 := by omega
              clear hN hs10 e1 hN2
              go_wp2_with (go_at_call 67; (with_reducible refine (gs_below 1001 Hn.out Hs.out HSd.out).mono ?_); rintro x w6 ⟨rfl, hs⟩; have HSe := Aside0.mk hs; clear hs)
              go_loopg [73] N (fun q v73 w' => ∃ (j : Nat) (vL : Value), j ≤ N ∧ v73 = .int .i64 j ∧ q = N - j ∧ Aside0 (Gs w w' g M (iter lstep j (m4, s10)).1 vE2 vL vR (iter lstep j (m4, s10)).2))
              case atStart => exact ⟨0, vL, Nat.zero_le _, rfl, rfl, HSe⟩
              case round =>
                obtain ⟨j, vLj, hj, rfl, rfl, HSj⟩ := hrel
                by_cases hlt : j < N
                · have t2 : decide (j < N) = true := decide_eq_true hlt
                  have t3 : decide ((j : Int) < (N : Int)) = true := decide_eq_true (by omega)
                  have hlen := iter_L (m4, s10) j
                  have hit : iter lstep (j + 1) (m4, s10) = lstep (iter lstep j (m4, s10)) := rfl
                  obtain ⟨⟨mj, sj⟩, hx⟩ : ∃ y, iter lstep j (m4, s10) = y := ⟨_, rfl⟩
                  rw [hx] at HSj hit hlen
                  have HSj : Aside0 (Gs w wr g M mj vE2 vLj vR sj) := HSj
                  have HLl : Aside0 (mj.L.length ≤ 1001) := ⟨by have h1 : mj.L.length = m4.L.length + j := hlen; rw [HL4.out] at h1; simp at h1; omega⟩
                  obtain ⟨x, hxe⟩ : ∃ r, toE (getS sj).1 = r := ⟨_, rfl⟩
                  obtain ⟨sk, hsk⟩ : ∃ r, (getS sj).2 = r := ⟨_, rfl⟩
                  have Hx := Aside0.mk hxe
                  have Hk2 := Aside0.mk hsk
                  have HIT : Aside0 (iter lstep (j + 1) (m4, s10) = ({ mj with L := mj.L ++ [x] }, sk)) := ⟨by rw [hit]; unfold lstep; simp only [hxe, hsk]⟩
                  obtain ⟨AL, cL, evl⟩ := Kd.R_slice HSj.out.rL
                  subst evl
                  have o13 := (blk_cell HSj.out.blk 13).trans (show _ = some (Value.slice AL mj.L.length cL) from rfl)
                  have f13 := blk_frozen HSj.out.blk 13
                  clear hx hxe hsk hit hlen
                  go_wp2_with fail
                  go_region_law (first
                    | (go_simp; go_at_call 70; (with_reducible refine (gs_get (w := w) (M := M) (m := mj) (vE := vE2) (vL := .slice AL mj.L.length cL) (vR := vR) (s := sj) Hx.out Hk2.out ?b1).mono ?_); (case b1 => first | exact HSj.out.below (below_drew (Below.refl _ _)) | exact HSj.out); rintro y w7 ⟨A, c, rfl, hR, hs⟩; have HS7 := Aside0.mk hs; have HR7 : Aside0 (Kd.R (Kd.int .u8) 5 w7 w.heap.size (fun k => wr.heap.size ≤ k) (.slice A x.f2.f1.length c) x.f2.f1) := ⟨hR⟩; clear hs hR; have o7 := (blk_cell HS7.out.blk 13).trans (show _ = some (Value.slice AL mj.L.length cL) from rfl); have o3 := Go.Lib.cell?_alloc_some (.cells #[.string x.f0, .int .i64 x.f1.f0, .int .i64 x.f1.f1, .int .i64 x.f1.f2, .bool x.f2.f0, .slice A x.f2.f1.length c] 28) o7; have HOL : Aside0 (∀ q, (Value.slice AL mj.L.length cL).ownBlock = some q → q < wr.heap.size) := ⟨fun q hq => ((Kd.R_bound HSj.out.rL).1 q hq).2.2.1⟩)
                    | (refine Kd.R_append_step kE w.heap.size (by rfl) _ _ 29 28 (.agg #[.string ⟨#[]⟩, .int .i64 0, .int .i64 0, .int .i64 0, .bool false, .slice none 0 0]) 72 (by rfl) Tryd.underlying29 infoE rfl (by decide) (by omega) (.slice AL mj.L.length cL) mj.L x [.string x.f0, .int .i64 x.f1.f0, .int .i64 x.f1.f1, .int .i64 x.f1.f2, .bool x.f2.f0, .slice A x.f2.f1.length c] (fun _ => True) (fun k => wr.heap.size ≤ k) (by rfl) (by rfl) (QL.k28_mkM w7 w.heap.size _ x HR7.out) (fun k hk => ⟨trivial, fun e => by have := HOL.out k e.symm; omega⟩) (fun _ _ => trivial) HS7.out.rL (Below.refl _ _) HS7.out.up.size ?a4 ?_; (case a4 => have := HLl.out; omega); intro v1 w8 ho hb4 hgr hat; have HR8 := Aside0.mk ho; have HG8 := Aside0.mk hgr; have HB8 := Aside0.mk (HS7.out.grow hgr (own_hi HS7.out.rL (by decide)) (own_not HS7.out.rL (by decide))).2.1; have y0 := (blk_cell HB8.out 13).trans (show _ = some (Value.slice AL mj.L.length cL) from rfl); have y1 := blk_frozen HB8.out 13; obtain ⟨A8, c8, e8⟩ := Kd.R_slice ho; subst e8; clear ho hgr hat hb4))
                  all_goals
                    go_wp2_with fail
                    go_roundg (N - (j + 1))
                    case measure => omega
                    case rel =>
                      refine ⟨j + 1, .slice A8 (mj.L ++ [x]).length c8, by omega, by go_num, rfl, ⟨?_⟩⟩
                      rw [HIT.out]
                      have hq := HS7.out.putL HR8.out HG8.out
                      simpa using hq
                · have t2 : decide (j < N) = false := decide_eq_false hlt
                  have t3 : decide ((j : Int) < (N : Int)) = false := decide_eq_false (by omega)
                  obtain rfl : j = N := by omega
                  go_wp2_with fail
                  go_meet
                  exact ⟨rfl, vLj, by rw [HE1.out]; exact HSj⟩
          case rest =>
            obtain ⟨rfl, vL2, HSe⟩ := hcut
            obtain ⟨⟨m5, s10⟩, hx⟩ : ∃ y, gl ⟨bn, bf, be, bl, br⟩ (m4, s9) = y := ⟨_, rfl⟩
            have HR5 : Aside0 (m5.R = []) := ⟨by have := gl_R ⟨bn, bf, be, bl, br⟩ (m4, s9); rw [hx] at this; exact this.trans HR4.out⟩
            rw [hx] at HSe HGM2
            have HSe : Aside0 (Gs w wc g M m5 vE2 vL2 vR s10) := HSe
            clear hx HSd HL4 HR4
            go_upto_if 87 with fail
            obtain ⟨w6, hw6⟩ : ∃ w3, w3 = wc := ⟨_, rfl⟩
            subst hw6
            cases br
            · go_wp2_with fail
              go_end0
              rw [HGM2.out]
              exact ⟨rfl, vE2, vL2, vR, HSe.out⟩
            · obtain ⟨ea, hea⟩ : ∃ r, (belowS 65 s10).1 = r := ⟨_, rfl⟩
              obtain ⟨s11, hs11⟩ : ∃ r, (belowS 65 s10).2 = r := ⟨_, rfl⟩
              obtain ⟨kp, hkp⟩ : ∃ r, (belowS 65 s11).1 = r := ⟨_, rfl⟩
              obtain ⟨s12, hs12⟩ : ∃ r, (belowS 65 s11).2 = r := ⟨_, rfl⟩
              obtain ⟨N, hN, hN2⟩ := below_rng 65 s12 (by decide)
              obtain ⟨s13, hs13⟩ : ∃ r, (belowS 65 s12).2 = r := ⟨_, rfl⟩
              have e1 : gr ⟨bn, bf, be, bl, true⟩ (m5, s10) = iter rstep N ({ m5 with each := ea, keep := kp }, s13) := by unfold gr gk; rw [if_pos rfl]; simp only [hea, hs11, hkp, hs12, hN, hs13, Int.toNat_natCast]
              have HE1 := Aside0.mk e1
              have Ha := Aside0.mk hea
              have Hb := Aside0.mk hs11
              have Hc := Aside0.mk hkp
              have Hd := Aside0.mk hs12
              have Hn := Aside0.mk hN
              have Hs := Aside0.mk hs13
              have n65 : N < 65 := by omega
              clear hea hs11 hkp hs12 hN hs13 e1 hN2
              go_upto_region 19 with (first
                | (go_at_call 67; (with_reducible refine (gs_below 65 Ha.out Hb.out HSe.out).mono ?_); rintro x w7 ⟨rfl, hs⟩; have HSf := Aside0.mk hs; clear hs)
                | (go_at_call 67; (with_reducible refine (gs_below 65 Hc.out Hd.out HSf.out).mono ?_); rintro x w8 ⟨rfl, hs⟩; have HSg := Aside0.mk hs; clear hs; have o1 := (blk_cell HSg.out.blk 15).trans (show _ = some (Value.int .i64 m5.each) from rfl); have f1 := blk_frozen HSg.out.blk 15; have o2 := (blk_cell HSg.out.blk 16).trans (show _ = some (Value.int .i64 m5.keep) from rfl); have f2 := blk_frozen HSg.out.blk 16))
              have HSh := Aside0.mk ((HSg.out.put (m' := { m5 with each := ea }) 15 (.int .i64 ea) rfl rfl rfl rfl).put (m' := { m5 with each := ea, keep := kp }) 16 (.int .i64 kp) rfl rfl rfl rfl)
              generalize (w8.setCell ⟨M, 15, none⟩ (.int .i64 ea)).setCell ⟨M, 16, none⟩ (.int .i64 kp) = w9 at *
              clear o1 f1 o2 f2 HSg HSf
              obtain ⟨m6, hm6⟩ : ∃ m : Ms, { m5 with each := ea, keep := kp } = m := ⟨_, rfl⟩
              have HR6 : Aside0 (m6.R = []) := ⟨by rw [← hm6]; exact HR5.out⟩
              rw [hm6] at HSh HE1
              clear hm6 HR5
              go_wp2_with (go_at_call 67; (with_reducible refine (gs_below 65 Hn.out Hs.out HSh.out).mono ?_); rintro x wa ⟨rfl, hs⟩; have HSi := Aside0.mk hs; clear hs)
              go_loopg [102] N (fun q v102 w' => ∃ (j : Nat) (vR : Value), j ≤ N ∧ v102 = .int .i64 j ∧ q = N - j ∧ Aside0 (Gs w w' g M (iter rstep j (m6, s13)).1 vE2 vL2 vR (iter rstep j (m6, s13)).2))
              case atStart => exact ⟨0, vR, Nat.zero_le _, rfl, rfl, HSi⟩
              case round =>
                obtain ⟨j, vRj, hj, rfl, rfl, HSj⟩ := hrel
                by_cases hlt : j < N
                · have t2 : decide (j < N) = true := decide_eq_true hlt
                  have t3 : decide ((j : Int) < (N : Int)) = true := decide_eq_true (by omega)
                  have hlen := iter_R (m6, s13) j
                  have hit : iter rstep (j + 1) (m6, s13) = rstep (iter rstep j (m6, s13)) := rfl
                  obtain ⟨⟨mj, sj⟩, hx⟩ : ∃ y, iter rstep j (m6, s13) = y := ⟨_, rfl⟩
                  rw [hx] at HSj hit hlen
                  have HSj : Aside0 (Gs w wr g M mj vE2 vL2 vRj sj) := HSj
                  have HLl : Aside0 (mj.R.length ≤ 1001) := ⟨by have h1 : mj.R.length = m6.R.length + j := hlen; rw [HR6.out] at h1; simp at h1; omega⟩
                  obtain ⟨x, hxe⟩ : ∃ r, (belowS 1048576 sj).1 = r := ⟨_, rfl⟩
                  obtain ⟨sk, hsk⟩ : ∃ r, (belowS 1048576 sj).2 = r := ⟨_, rfl⟩
                  have Hx := Aside0.mk hxe
                  have Hk2 := Aside0.mk hsk
                  have HIT : Aside0 (iter rstep (j + 1) (m6, s13) = ({ mj with R := mj.R ++ [x] }, sk)) := ⟨by rw [hit]; unfold rstep; simp only [hxe, hsk]⟩
                  obtain ⟨AL, cL, evl⟩ := Kd.R_slice HSj.out.rR
                  subst evl
                  have o13 := (blk_cell HSj.out.blk 14).trans (show _ = some (Value.slice AL mj.R.length cL) from rfl)
                  have f13 := blk_frozen HSj.out.blk 14
                  clear hx hxe hsk hit hlen
                  go_wp2_with fail
                  go_region_law (first
                    | (go_simp; go_at_call 67; (with_reducible refine (gs_below (w := w) (M := M) (m := mj) (vE := vE2) (vL := vL2) (vR := .slice AL mj.R.length cL) (s := sj) 1048576 Hx.out Hk2.out ?b1).mono ?_); (case b1 => first | exact HSj.out.below (below_drew (Below.refl _ _)) | exact HSj.out); rintro y w7 ⟨rfl, hs⟩; have HS7 := Aside0.mk hs; clear hs; have o7 := (blk_cell HS7.out.blk 14).trans (show _ = some (Value.slice AL mj.R.length cL) from rfl); have o3 := Go.Lib.cell?_alloc_some (.cells #[.int .i64 x] 3) o7)
                    | (refine Kd.R_append_step (Kd.int .i64) w.heap.size (by rfl) _ _ 30 3 (.int .i64 0) 8 (by rfl) Tryd.underlying30 infoI rfl (by decide) (by omega) (.slice AL mj.R.length cL) mj.R x [.int .i64 x] (fun _ => True) (fun _ => False) (by rfl) (by rfl) rfl (fun _ hk => hk.elim) (fun _ _ => trivial) HS7.out.rR (Below.refl _ _) HS7.out.up.size ?a4 ?_; (case a4 => have := HLl.out; omega); intro v1 w8 ho hb4 hgr hat; have HR8 := Aside0.mk ho; have HG8 := Aside0.mk hgr; have HB8 := Aside0.mk (HS7.out.grow hgr (own_hi HS7.out.rR (by decide)) (own_not HS7.out.rR (by decide))).2.1; have y0 := (blk_cell HB8.out 14).trans (show _ = some (Value.slice AL mj.R.length cL) from rfl); have y1 := blk_frozen HB8.out 14; obtain ⟨A8, c8, e8⟩ := Kd.R_slice ho; subst e8; clear ho hgr hat hb4))
                  all_goals
                    go_wp2_with fail
                    go_roundg (N - (j + 1))
                    case measure => omega
                    case rel =>
                      refine ⟨j + 1, .slice A8 (mj.R ++ [x]).length c8, by omega, by go_num, rfl, ⟨?_⟩⟩
                      rw [HIT.out]
                      have hq := HS7.out.putR HR8.out HG8.out
                      simpa using hq
                · have t2 : decide (j < N) = false := decide_eq_false hlt
                  have t3 : decide ((j : Int) < (N : Int)) = false := decide_eq_false (by omega)
                  obtain rfl : j = N := by omega
                  go_wp2_with fail
                  go_end0
                  rw [HGM2.out, HE1.out]
                  exact ⟨rfl, vE2, vL2, vRj, HSj.out⟩
end Go.Proofs.YthaoiamgkpkcbaaDoor.Ms
namespace Go.Proofs.YthaoiamgkpkcbaaDoor.Ms
open Go.ChangeShapes Go.WideShapes Go.ChangeAt Go.RowKit Go.Proofs.YthaoiamgkpkcbaaDoor.Pk Go.Proofs.YthaoiamgkpkcbaaDoor.Tg Go.Proofs.YthaoiamgkpkcbaaDoor.Enc Go.Proofs.YthaoiamgkpkcbaaDoor.EncC Go.Proofs.YthaoiamgkpkcbaaDoor.EncP
open Go.Proofs.YthaoiamgkpkcbaaDoor.Hlp Go.Proofs.YthaoiamgkpkcbaaDoor.Wrd Go.Proofs.YthaoiamgkpkcbaaDoor.Lex Go.Proofs.YthaoiamgkpkcbaaDoorW.PrintWords Go.Proofs.YthaoiamgkpkcbaaDoorW.PrintLast Go.Proofs.YthaoiamgkpkcbaaDoorW.PrintMore
set_option linter.unusedVariables false
set_option linter.unusedSimpArgs false
/-! what is read are bytes -/
theorem by_take {l : List Int} (h : Bytes l) (n : Nat) : Bytes (l.take n) := fun x hx => h x (List.mem_of_mem_take hx)
theorem by_drop {l : List Int} (h : Bytes l) (n : Nat) : Bytes (l.drop n) := fun x hx => h x (List.mem_of_mem_drop hx)
theorem by_nil : Bytes [] := fun x hx => by cases hx
theorem belowS_by (n : Int) (s : St) (h : Bytes s.l) : Bytes (belowS n s).2.l := by
  unfold belowS; repeat' split
  all_goals first | exact h | exact by_drop h _
theorem truthS_by (s : St) (h : Bytes s.l) : Bytes (truthS s).2.l := by
  unfold truthS; repeat' split
  all_goals first | exact h | (rename_i e _ ; rw [e] at h; exact fun x hx => h x (List.mem_cons_of_mem _ hx)) | (intro x hx; apply h; simp_all)
theorem failS_by (s : St) (h : Bytes s.l) : Bytes (failS s).l := by unfold failS; split <;> exact h
theorem rowS_by (s : St) (h : Bytes s.l) : Bytes (rowS s).1 ∧ Bytes (rowS s).2.l := by
  unfold rowS; repeat' split
  all_goals first | exact ⟨by_nil, h⟩ | exact ⟨by_take (by_drop h _) _, by_drop h _⟩
theorem getS_by (s : St) (h : Bytes s.l) : Bytes (getS s).1.v ∧ Bytes (getS s).2.l := by
  unfold getS
  have h1 := rowS_by s h
  have h2 := belowS_by 1099511627776 (rowS s).2 h1.2
  have h3 := belowS_by 1048576 _ h2
  have h4 := belowS_by 1048576 _ h3
  have h5 := truthS_by _ h4
  have h6 := rowS_by _ h5
  simp only
  split <;> split
  · exact ⟨h6.1, h6.2⟩
  · exact ⟨by_nil, failS_by _ h6.2⟩
  · exact ⟨by_nil, h5⟩
  · exact ⟨by_nil, failS_by _ h5⟩
/-- the bytes of a message are bytes -/
structure ByM (x : Ms × St) : Prop where
  e : Bytes x.1.e.f2.f1
  l : ∀ y ∈ x.1.L, Bytes y.f2.f1
  s : Bytes x.2.l
theorem lstep_by (x : Ms × St) (h : ByM x) : ByM (lstep x) := by
  have hg := getS_by x.2 h.s
  refine ⟨h.e, fun y hy => ?_, hg.2⟩
  rcases List.mem_append.1 hy with hy | hy
  · exact h.l y hy
  · obtain rfl := List.mem_singleton.1 hy; exact hg.1
theorem iterL_by (x : Ms × St) (h : ByM x) : ∀ n, ByM (iter lstep n x)
  | 0 => h
  | n + 1 => lstep_by _ (iterL_by x h n)
theorem iterR_by (x : Ms × St) (h : ByM x) : ∀ n, ByM (iter rstep n x)
  | 0 => h
  | n + 1 => ⟨(iterR_by x h n).e, (iterR_by x h n).l, belowS_by _ _ (iterR_by x h n).s⟩
theorem getM_by (s : St) (h : Bytes s.l) : ByM (getM s) := by
  have hs0 : Bytes (g0 s).2.l := by
    unfold g0
    simp only
    split
    · exact failS_by _ (belowS_by _ _ h)
    · exact belowS_by _ _ h
  have h0 : ByM (g0 s) := ⟨by_nil, (fun y hy => by cases hy), hs0⟩
  have h1 : ByM (gep (gfr (g0 s))) := ⟨h0.e, h0.l, belowS_by _ _ (belowS_by _ _ (belowS_by _ _ (belowS_by _ _ h0.s)))⟩
  unfold getM
  simp only
  generalize gep (gfr (g0 s)) = x at h1
  generalize hasV (g0 s).1.kind = b
  have h2 : ByM (gn b x) := by
    unfold gn; split
    · exact ⟨h1.e, h1.l, belowS_by _ _ h1.s⟩
    · exact h1
  have h3 : ByM (gf b (gn b x)) := by
    unfold gf; split
    · exact ⟨h2.e, h2.l, truthS_by _ h2.s⟩
    · exact h2
  have h4 : ByM (ge b (gf b (gn b x))) := by
    unfold ge; split
    · exact ⟨(getS_by _ h3.s).1, h3.l, (getS_by _ h3.s).2⟩
    · exact h3
  generalize ge b (gf b (gn b x)) = y at h4
  have h5 : ByM (gl b y) := by
    unfold gl; split
    · exact iterL_by (y.1, (belowS 1001 y.2).2) ⟨h4.e, h4.l, belowS_by _ _ h4.s⟩ _
    · exact h4
  generalize gl b y = z at h5
  unfold gr; split
  · exact iterR_by ((gk z).1, (belowS 65 (gk z).2).2) ⟨h5.e, h5.l, belowS_by _ _ (belowS_by _ _ (belowS_by _ _ h5.s))⟩ _
  · exact h5
theorem getM_R (s : St) : (getM s).1.R.length ≤ 64 := by
  unfold getM
  simp only
  have hx : (gep (gfr (g0 s))).1.R = [] := rfl
  generalize gep (gfr (g0 s)) = x at hx
  generalize hasV (g0 s).1.kind = b
  have h5 : (gl b (ge b (gf b (gn b x)))).1.R = [] := by rw [gl_R, (ge_LR _ _).2, (gf_LR _ _).2, (gn_LR _ _).2, hx]
  unfold gr; split
  · obtain ⟨c, hc, hc2⟩ := below_rng 65 (gk (gl b (ge b (gf b (gn b x))))).2 (by decide)
    rw [iter_R, hc, Int.toNat_natCast]
    have : ((gk (gl b (ge b (gf b (gn b x))))).1, (belowS 65 (gk (gl b (ge b (gf b (gn b x))))).2).2).1.R = [] := h5
    rw [this]; simp; omega
  · rw [h5]; exact Nat.zero_le _
/-- what Read tells -/
def readM (l : List Int) : Ms × Int :=
  if endP (getM ⟨l, 0⟩).2.l (getM ⟨l, 0⟩).2.e = 0 then (if a4 (getM ⟨l, 0⟩).1 = true then ((getM ⟨l, 0⟩).1, 0) else (zM, 11)) else (zM, endP (getM ⟨l, 0⟩).2.l (getM ⟨l, 0⟩).2.e)
structure Own (W : World) (base : Nat) (m : Ms) (p : Pl) : Prop where
  v : Kd.R (Kd.int .u8) 5 W base (fun _ => True) (.slice p.vA m.e.f2.f1.length p.vc) m.e.f2.f1
  l : Kd.R kE 28 W base (fun _ => True) (.slice p.lA m.L.length p.lc) m.L
  r : Kd.R (Kd.int .i64) 3 W base (fun _ => True) (.slice p.rA m.R.length p.rc) m.R
theorem Own.lies {W : World} {base : Nat} {m : Ms} {p : Pl} (h : Own W base m p) : Lies W m p := by
  obtain ⟨_, h2, h3⟩ := Kd.R_reads' h.v
  obtain ⟨_, h5, h6⟩ := Kd.R_reads' h.l
  obtain ⟨_, h8, h9⟩ := Kd.R_reads' h.r
  exact ⟨h3, h2, h6, h5, h9, h8⟩
theorem Own.far {W W1 : World} {base : Nat} {m : Ms} {p : Pl} (h : Own W base m p) (hb : ∀ k, base ≤ k → k < W.heap.size → W1.heap[k]? = W.heap[k]?) : Own W1 base m p := ⟨R_far' h.v hb, R_far' h.l hb, R_far' h.r hb⟩
theorem Own.below {W W1 : World} {base : Nat} {m : Ms} {p : Pl} (h : Own W base m p) (hb : Below W.heap.size W W1) : Own W1 base m p := ⟨Kd.R_below h.v hb, Kd.R_below h.l hb, Kd.R_below h.r hb⟩
theorem Own.lower {W : World} {base base' : Nat} {m : Ms} {p : Pl} (h : Own W base m p) (hb : base' ≤ base) : Own W base' m p := ⟨Kd.R_lower h.v hb, Kd.R_lower h.l hb, Kd.R_lower h.r hb⟩
def ReadPost (w : World) (r : Ms × Int) (x : Ending) (w' : World) : Prop := ∃ p : Pl, x = .returned (.tuple #[.agg (r.1.val p), .int .i64 r.2]) ∧ Own w' w.heap.size r.1 p ∧ Below w.heap.size w w'
def nP : Pl := ⟨none, 0, none, 0, none, 0⟩
theorem own_zero (W : World) (base : Nat) : Own W base zM nP := ⟨Kd.R_nil _ _ _ _ _, Kd.R_nil _ _ _ _ _, Kd.R_nil _ _ _ _ _⟩
end Go.Proofs.YthaoiamgkpkcbaaDoor.Ms
namespace Go.Proofs.YthaoiamgkpkcbaaDoor.Ms
open Go.ChangeShapes Go.WideShapes Go.ChangeAt Go.RowKit Go.Proofs.YthaoiamgkpkcbaaDoor.Pk Go.Proofs.YthaoiamgkpkcbaaDoor.Tg Go.Proofs.YthaoiamgkpkcbaaDoor.Enc Go.Proofs.YthaoiamgkpkcbaaDoor.EncC Go.Proofs.YthaoiamgkpkcbaaDoor.EncP
open Go.Proofs.YthaoiamgkpkcbaaDoor.Hlp Go.Proofs.YthaoiamgkpkcbaaDoor.Wrd Go.Proofs.YthaoiamgkpkcbaaDoor.Lex Go.Proofs.YthaoiamgkpkcbaaDoorW.PrintWords Go.Proofs.YthaoiamgkpkcbaaDoorW.PrintLast Go.Proofs.YthaoiamgkpkcbaaDoorW.PrintMore
set_option linter.unusedVariables false
set_option linter.unusedSimpArgs false
set_option maxRecDepth 100000 in
theorem results_row_tmp {fn : Func} {p u : Tmp} {ty : TypeId} (h : fn.results = #[.cell p ty, .tmp u]) (tmps : Array Value) (w : World) (g : Nat) (cs : Array Value)
    (hp : tmps.getD p undef = .pointer (some ⟨g, 0, none⟩)) (hload : (loadVar ty ⟨g, 0, none⟩).run Tryd.prog w = .ok (.agg cs) w) :
    (results fn tmps).run Tryd.prog w = .ok (.tuple #[.agg cs, tmps.getD u undef]) w := by
  rw [results_cell_tmp h, hp]
  show ((loadVar ty ⟨g, 0, none⟩).run Tryd.prog w).andThen _ = _
  rw [hload]
  rfl
abbrev zMs : Array Value := #[.int .i64 0, .int .i64 0, .int .i64 0, .int .i64 0, .int .i64 0, .int .i64 0, .bool false, .string ⟨#[]⟩, .int .i64 0, .int .i64 0, .int .i64 0, .bool false, .slice none 0 0, .slice none 0 0, .slice none 0 0, .int .i64 0, .int .i64 0]
theorem load_ms {w : World} {R : Nat} {cs : Array Value} (h : w.heap[R]? = some (.cells cs 34 (0, 0))) (hs : cs.size = 17) : (loadVar 34 ⟨R, 0, none⟩).run Tryd.prog w = .ok (.agg cs) w :=
  run_loadVar_row w R 34 34 cs (0, 0) _ h Tryd.underlying34 rfl (by rw [hs]; kernel_rfl)
theorem val_size (m : Ms) (p : Pl) : (m.val p).size = 17 := rfl
theorem val_one (m : Ms) (p : Pl) : (m.val p).all (·.oneCell') = true := by simp [Value.oneCell']
set_option maxHeartbeats 4000000 in
set_option maxRecDepth 100000 in
theorem read_m {w : World} {A : Option Addr} {n c : Nat} {l : List Int} (hK : Kin w) (hr : Kd.C (Kd.int .u8) w A n l) (hc : n ≤ c) (hb : Bytes l) (hl : n ≤ 140737488351232) :
    Calls Tryd.prog 17 #[.slice A n c] w (ReadPost w (readM l)) := by
  obtain rfl : l.length = n := hr.1
  have hw0 : 0 < w.heap.size := by obtain ⟨t, fr, h⟩ := hK; exact blk_lt h
  obtain ⟨bR, bM⟩ := two_blks w (.cells zMs 34) (.cells zMs 34)
  have HB0 := Aside0.mk (below_allocs (Below.refl w.heap.size w) (.cells zMs 34) (.cells zMs 34))
  have HC0 := Aside0.mk (Kd.C_below hr HB0.out)
  have HK0 := Aside0.mk (hK.below HB0.out)
  have BR := Aside0.mk bR
  have BM := Aside0.mk bM
  have HBy := Aside0.mk hb
  have HBx : Aside0 (∀ x ∈ l, 0 ≤ x ∧ x < 256) := ⟨hb⟩
  have HS0 : Aside0 (((w.alloc (.cells zMs 34)).alloc (.cells zMs 34)).heap.size = w.heap.size + 2) := ⟨by rw [size1, size1]⟩
  clear hr hK bR bM hb
  go_enter Tryd.func17, Tryd.ntmps17
  go_upto_region 2 with fail
  generalize (w.alloc (.cells zMs 34)).alloc (.cells zMs 34) = W at *
  go_upto_region 3 with (go_at_call 46; (with_reducible refine (new_ HC0.out hc HBx.out hl).mono ?_); rintro x w1 ⟨g, b1, c1, rfl, hrd, hb1, hg1, hg2⟩; have HRd := Aside0.mk hrd; have HB1 := Aside0.mk hb1; have HG1 := Aside0.mk hg1; have HG2 := Aside0.mk hg2; clear hrd hb1 hg1 hg2)
  have HGs : Aside0 (Gs w1 w1 g (w.heap.size + 1) zM (.slice none 0 0) (.slice none 0 0) (.slice none 0 0) ⟨l, 0⟩) := ⟨⟨b1, c1, HRd.out⟩, (HB1.out.block _ (by have := HS0.out; omega)).trans BM.out, Kd.R_nil _ _ _ _ _, Kd.R_nil _ _ _ _ _, Kd.R_nil _ _ _ _ _, Kg.refl _ _ _, ⟨HG2.out, by have := HB1.out.size; have := HS0.out; omega, by have := HG1.out; have := HS0.out; omega⟩, hl⟩
  have HK1 := Aside0.mk (HK0.out.below HB1.out)
  have h0g : 0 ≠ g := by have := HG1.out; have := HS0.out; omega
  have h0M : 0 ≠ w.heap.size + 1 := by omega
  obtain ⟨m, hm⟩ : ∃ m, (getM ⟨l, 0⟩).1 = m := ⟨_, rfl⟩
  obtain ⟨s, hs⟩ : ∃ s, (getM ⟨l, 0⟩).2 = s := ⟨_, rfl⟩
  obtain ⟨e, he⟩ : ∃ e, endP s.l s.e = e := ⟨_, rfl⟩
  have HM := Aside0.mk hm
  have HSs := Aside0.mk hs
  have HE := Aside0.mk he
  have HBm : Aside0 (Bytes m.e.f2.f1) := ⟨by rw [← hm]; exact (getM_by ⟨l, 0⟩ HBy.out).e⟩
  have HRm : Aside0 (m.R.length < 9223372036854775807) := ⟨by rw [← hm]; have := getM_R ⟨l, 0⟩; omega⟩
  have HX : Aside0 (readM l = if e = 0 then (if a4 m = true then (m, 0) else (zM, 11)) else (zM, e)) := ⟨by unfold readM; rw [hm, hs, he]⟩
  clear hm hs he
  go_upto_region 5 with (first
    | (go_at_call 47; (with_reducible refine (get_m HK1.out h0g h0M HGs.out).mono ?_); rw [HM.out, HSs.out]; rintro x w2 ⟨rfl, vE, vL, vR, hgs⟩; have HG := Aside0.mk hgs; clear hgs; obtain ⟨b2, c2, hrd2⟩ := HG.out.rd; have HRd2 := Aside0.mk hrd2; clear hrd2)
    | (go_at_call 48; (with_reducible refine (end_ HRd2.out).mono ?_); rw [HE.out]; rintro x w' ⟨rfl, rfl⟩))
  obtain ⟨pvA, pvc, evE⟩ := Kd.R_slice HG.out.rE
  obtain ⟨plA, plc, evL⟩ := Kd.R_slice HG.out.rL
  obtain ⟨prA, prc, evR⟩ := Kd.R_slice HG.out.rR
  subst evE evL evR
  obtain ⟨p, hp⟩ : ∃ p : Pl, p = ⟨pvA, pvc, plA, plc, prA, prc⟩ := ⟨_, rfl⟩
  have HO : Aside0 (Own w2 w1.heap.size m p) := ⟨by subst hp; exact ⟨HG.out.rE, HG.out.rL, HG.out.rR⟩⟩
  have HBM : Aside0 (w2.heap[w.heap.size + 1]? = some (.cells (m.val p) 34 (0, 0))) := ⟨by subst hp; exact HG.out.blk⟩
  have HBR : Aside0 (w2.heap[w.heap.size]? = some (.cells zMs 34 (0, 0))) := ⟨(HG.out.up.block _ (by have := HB1.out.size; have := HS0.out; omega) (by have := HG1.out; have := HS0.out; omega) (by omega)).trans ((HB1.out.block _ (by have := HS0.out; omega)).trans BR.out)⟩
  have HBw : Aside0 (Below w.heap.size w w2) := ⟨by
    have h1 := HB0.out.trans (HB1.out.mono HB0.out.size)
    have hu := HG.out.up
    exact ⟨hu.os.trans h1.os, hu.tape.trans h1.tape, hu.output.trans h1.output, Nat.le_trans h1.size hu.size, fun k hk => (hu.block k (by have := HB1.out.size; have := HS0.out; omega) (by have := HG1.out; have := HS0.out; omega) (by omega)).trans (h1.block k hk)⟩⟩
  have HKw : Aside0 (Kin w2) := ⟨HG.out.kin HK1.out (fun _ _ _ => ⟨h0g, h0M⟩)⟩
  have HSz : Aside0 (w.heap.size < w1.heap.size) := ⟨by have := HB1.out.size; have := HS0.out; omega⟩
  clear hp HRd2 HRd HGs HG HB1 HK1 HG1 HG2 HS0 BR BM HK0 HC0 HB0 HM HSs HE
  by_cases he : e = 0
  · subst he
    cases ha : a4 m
    · have HCk : Aside0 (checkM m = 2) := ⟨by unfold checkM; rw [ha]; rfl⟩
      have HR : Aside0 (readM l = (zM, 11)) := ⟨by rw [HX.out, if_pos rfl, if_neg (by rw [ha]; decide)]⟩
      clear ha
      obtain ⟨c0, c1, c2, c3, c4, c5, c6, c7, c8, c9, c10, c11, c12, c13, c14, c15, c16⟩ := ms_cells HBM.out
      go_wp2_with (first | (refine wpList_load_row rfl 34 (.tmp 4) rfl (w.heap.size + 1) rfl 34 (m.val p) (0, 0) _ HBM.out Tryd.underlying34 rfl (by kernel_rfl) ?_) | (go_at_call 15; (with_reducible refine (check_ HKw.out HO.out.lies HBm.out HRm.out).mono ?_); rw [HCk.out]; rintro x w3 ⟨rfl, hb⟩; have HBb := Aside0.mk hb; have HBR : Aside0 (w3.heap[w.heap.size]? = some (.cells zMs 34 (0, 0))) := ⟨(hb.block _ (blk_lt HBR.out)).trans HBR.out⟩; have HBM : Aside0 (w3.heap[w.heap.size + 1]? = some (.cells (m.val p) 34 (0, 0))) := ⟨(hb.block _ (blk_lt HBM.out)).trans HBM.out⟩; have HO := Aside0.mk (HO.out.below hb); have HBw := Aside0.mk (HBw.out.trans (hb.mono HBw.out.size)); clear hb c0 c1 c2 c3 c4 c5 c6 c7 c8 c9 c10 c11 c12 c13 c14 c15 c16) | (refine wpList_store_row rfl 34 (.tmp 2) (.tmp 22) rfl w.heap.size zMs rfl rfl 34 zMs HBR.out (by kernel_rfl) rfl (by simp [Value.oneCell']) ?_))
      refine bodyPost_ret (results_row_tmp rfl _ _ w.heap.size zMs rfl (load_ms (setRow_heap _ _ _ _ _ _ HBR.out) rfl)) rfl ?_
      rw [HR.out]
      exact ⟨nP, rfl, own_zero _ _, below_setRow HBw.out (Nat.le_refl _) _⟩
    · have HCk : Aside0 (checkM m = 0) := ⟨by unfold checkM; rw [ha]; rfl⟩
      have HR : Aside0 (readM l = (m, 0)) := ⟨by rw [HX.out, if_pos rfl, if_pos ha]⟩
      clear ha
      obtain ⟨c0, c1, c2, c3, c4, c5, c6, c7, c8, c9, c10, c11, c12, c13, c14, c15, c16⟩ := ms_cells HBM.out
      go_wp2_with (first | (refine wpList_load_row rfl 34 (.tmp 4) rfl (w.heap.size + 1) rfl 34 (m.val p) (0, 0) _ HBM.out Tryd.underlying34 rfl (by kernel_rfl) ?_) | (go_at_call 15; (with_reducible refine (check_ HKw.out HO.out.lies HBm.out HRm.out).mono ?_); rw [HCk.out]; rintro x w3 ⟨rfl, hb⟩; have HBb := Aside0.mk hb; have HBR : Aside0 (w3.heap[w.heap.size]? = some (.cells zMs 34 (0, 0))) := ⟨(hb.block _ (blk_lt HBR.out)).trans HBR.out⟩; have HBM : Aside0 (w3.heap[w.heap.size + 1]? = some (.cells (m.val p) 34 (0, 0))) := ⟨(hb.block _ (blk_lt HBM.out)).trans HBM.out⟩; have HO := Aside0.mk (HO.out.below hb); have HBw := Aside0.mk (HBw.out.trans (hb.mono HBw.out.size)); clear hb c0 c1 c2 c3 c4 c5 c6 c7 c8 c9 c10 c11 c12 c13 c14 c15 c16) | (refine wpList_load_row rfl 34 (.tmp 4) rfl (w.heap.size + 1) rfl 34 (m.val p) (0, 0) _ HBM.out Tryd.underlying34 rfl (by kernel_rfl) ?_) | (refine wpList_store_row rfl 34 (.tmp 2) (.tmp 24) rfl w.heap.size (m.val p) rfl rfl 34 zMs HBR.out (by kernel_rfl) rfl (val_one m p) ?_))
      refine bodyPost_ret (results_row_tmp rfl _ _ w.heap.size (m.val p) rfl (load_ms (setRow_heap _ _ _ _ _ _ HBR.out) (val_size m p))) rfl ?_
      rw [HR.out]
      exact ⟨p, rfl, (HO.out.far (fun k hk _ => setRow_other _ _ _ _ (by have := HSz.out; omega))).lower (Nat.le_of_lt HSz.out), below_setRow HBw.out (Nat.le_refl _) _⟩
  · have t1 : (e == 0) = false := beq_eq_false_iff_ne.2 he
    have t2 : (e != 0) = true := bne_iff_ne.2 he
    have HR : Aside0 (readM l = (zM, e)) := ⟨by rw [HX.out, if_neg he]⟩
    clear he
    go_wp2_with (refine wpList_store_row rfl 34 (.tmp 2) (.tmp 22) rfl w.heap.size zMs rfl rfl 34 zMs HBR.out (by kernel_rfl) rfl (by simp [Value.oneCell']) ?_)
    refine bodyPost_ret (results_row_tmp rfl _ _ w.heap.size zMs rfl (load_ms (setRow_heap _ _ _ _ _ _ HBR.out) rfl)) rfl ?_
    rw [HR.out]
    exact ⟨nP, rfl, own_zero _ _, below_setRow HBw.out (Nat.le_refl _) _⟩
end Go.Proofs.YthaoiamgkpkcbaaDoor.Ms
