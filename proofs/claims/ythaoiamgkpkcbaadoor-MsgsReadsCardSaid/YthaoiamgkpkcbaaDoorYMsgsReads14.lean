/- The contract of msgs.Check. Conditions: the table lies in its variable; bytes are bytes. · The bytes that a closure writes: the box, what stands beside it, and the contract of the first closure of msgs.Bytes (numbers' bytes). Conditions: numbers that fit in memory. · The contract of the second closure of msgs.Bytes (an entry's bytes), and of pack.Truth's bytes behind those there are. Conditions: an entry that may be. · The contract of msgs.Bytes. Conditions: the table lies in its variable; bytes are bytes. · The contract of msgs.Bytes. Conditions: the table lies in its variable; bytes are bytes. -/
import Derived.Test.YthaoiamgkpkcbaaDoorYMsgsReads13
import Derived.Deep.Light
import Derived.Test.YthaoiamgkpkcbaaDoorYMsgsReads4
import Derived.WalkMore
import Derived.Deep.RegionLaw

namespace Go.Proofs.YthaoiamgkpkcbaaDoor.Ms
open Go.ChangeShapes Go.WideShapes Go.ChangeAt Go.RowKit Go.Proofs.YthaoiamgkpkcbaaDoor.Pk Go.Proofs.YthaoiamgkpkcbaaDoor.Tg
open Go.Proofs.YthaoiamgkpkcbaaDoor.Hlp Go.Proofs.YthaoiamgkpkcbaaDoor.Wrd Go.Proofs.YthaoiamgkpkcbaaDoor.Lex Go.Proofs.YthaoiamgkpkcbaaDoorW.PrintWords Go.Proofs.YthaoiamgkpkcbaaDoorW.PrintLast Go.Proofs.YthaoiamgkpkcbaaDoorW.PrintMore
set_option linter.unusedVariables false
set_option linter.unusedSimpArgs false
/-- the cells of a message that lies in a block -/
theorem ms_cells {w : World} {g : Nat} {m : Ms} {p : Pl} (hb : w.heap[g]? = some (.cells (m.val p) 34 (0, 0))) :
    w.cell? ⟨g, 0, none⟩ = some (.int .i64 m.kind) ∧ w.cell? ⟨g, 1, none⟩ = some (.int .i64 m.fr) ∧ w.cell? ⟨g, 2, none⟩ = some (.int .i64 m.dst) ∧ w.cell? ⟨g, 3, none⟩ = some (.int .i64 m.ep) ∧ w.cell? ⟨g, 4, none⟩ = some (.int .i64 m.op) ∧ w.cell? ⟨g, 5, none⟩ = some (.int .i64 m.n) ∧ w.cell? ⟨g, 6, none⟩ = some (.bool m.f) ∧ w.cell? ⟨g, 7, none⟩ = some (.string m.e.f0) ∧ w.cell? ⟨g, 8, none⟩ = some (.int .i64 m.e.f1.f0) ∧ w.cell? ⟨g, 9, none⟩ = some (.int .i64 m.e.f1.f1) ∧ w.cell? ⟨g, 10, none⟩ = some (.int .i64 m.e.f1.f2) ∧ w.cell? ⟨g, 11, none⟩ = some (.bool m.e.f2.f0) ∧ w.cell? ⟨g, 12, none⟩ = some (.slice p.vA m.e.f2.f1.length p.vc) ∧ w.cell? ⟨g, 13, none⟩ = some (.slice p.lA m.L.length p.lc) ∧ w.cell? ⟨g, 14, none⟩ = some (.slice p.rA m.R.length p.rc) ∧ w.cell? ⟨g, 15, none⟩ = some (.int .i64 m.each) ∧ w.cell? ⟨g, 16, none⟩ = some (.int .i64 m.keep) :=
  ⟨(blk_cell hb 0).trans rfl, (blk_cell hb 1).trans rfl, (blk_cell hb 2).trans rfl, (blk_cell hb 3).trans rfl, (blk_cell hb 4).trans rfl, (blk_cell hb 5).trans rfl, (blk_cell hb 6).trans rfl, (blk_cell hb 7).trans rfl, (blk_cell hb 8).trans rfl, (blk_cell hb 9).trans rfl, (blk_cell hb 10).trans rfl, (blk_cell hb 11).trans rfl, (blk_cell hb 12).trans rfl, (blk_cell hb 13).trans rfl, (blk_cell hb 14).trans rfl, (blk_cell hb 15).trans rfl, (blk_cell hb 16).trans rfl⟩
set_option maxHeartbeats 4000000 in
set_option maxRecDepth 100000 in
theorem check_ {w : World} {m : Ms} {p : Pl} (hK : Kin w) (hm : Lies w m p) (hv : Bytes m.e.f2.f1) (hR : m.R.length < 9223372036854775807) :
    Calls Tryd.prog 15 #[.agg (m.val p)] w fun e w' => e = .returned (.int .i64 (checkM m)) ∧ Below w.heap.size w w' := by
  have hbn := blk_new w (.cells (m.val p) 34)
  have HBN := Aside0.mk hbn
  have HW := Aside0.mk (below_alloc (Below.refl w.heap.size w) (.cells (m.val p) 34))
  have HK := Aside0.mk (hK.below HW.out)
  have HM := Aside0.mk (hm.below HW.out)
  have HV := Aside0.mk hv
  have HL := Aside0.mk hR
  obtain ⟨b1, b2, b3, b4, b5⟩ : ∃ b : Hs, True ∧ True ∧ True ∧ True := ⟨Hs.none, trivial, trivial, trivial, trivial⟩
  clear hK hm hv hbn hR b2 b3 b4 b5 b1
  go_enter Tryd.func15, Tryd.ntmps15
  go_upto_region 1 with fail
  generalize w.alloc (.cells (m.val p) 34) = W at *
  obtain ⟨c0, c1, c2, c3, c4, c5, c6, c7, c8, c9, c10, c11, c12, c13, c14, c15, c16⟩ := ms_cells HBN.out
  obtain ⟨b, hb⟩ : ∃ b, hasV m.kind = b := ⟨_, rfl⟩
  have HH := Aside0.mk hb
  clear hb
  obtain ⟨bn, bf, be, bl, br⟩ := b
  go_upto_region 2 with (go_at_call 23; (with_reducible refine (has_ _ _ HK.out).mono ?_); rw [HH.out, show hasR ⟨bn, bf, be, bl, br⟩ = .tuple #[.bool bn, .bool bf, .bool be, .bool bl, .bool br] from rfl]; rintro e w1 ⟨rfl, hb⟩; have HB1 := Aside0.mk hb; clear hb)
  have HBN1 := Aside0.mk ((HB1.out.block w.heap.size (blk_lt HBN.out)).trans HBN.out)
  have HM1 := Aside0.mk (HM.out.below HB1.out)
  clear c0 c1 c2 c3 c4 c5 c6 c7 c8 c9 c10 c11 c12 c13 c14 c15 c16 HM HBN
  obtain ⟨c0, c1, c2, c3, c4, c5, c6, c7, c8, c9, c10, c11, c12, c13, c14, c15, c16⟩ := ms_cells HBN1.out
  obtain ⟨r0, h0⟩ : ∃ r, decide (1 ≤ m.kind ∧ m.kind ≤ 17) = r := ⟨_, rfl⟩
  obtain ⟨r1, h1⟩ : ∃ r, withinB m.fr 1048575 = r := ⟨_, rfl⟩
  obtain ⟨r2, h2⟩ : ∃ r, withinB m.dst 1048575 = r := ⟨_, rfl⟩
  obtain ⟨r3, h3⟩ : ∃ r, withinB m.ep 1099511627775 = r := ⟨_, rfl⟩
  obtain ⟨r4, h4⟩ : ∃ r, withinB m.op 1099511627775 = r := ⟨_, rfl⟩
  obtain ⟨r5, h5⟩ : ∃ r, withinB m.n 1099511627775 = r := ⟨_, rfl⟩
  have H0 := Aside0.mk h0
  have H1 := Aside0.mk h1
  have H2 := Aside0.mk h2
  have H3 := Aside0.mk h3
  have H4 := Aside0.mk h4
  have H5 := Aside0.mk h5
  have HA1 : Aside0 (a1 m = (r0 && r1 && r2 && r3 && r4 && r5)) := ⟨by unfold a1; rw [h0, h1, h2, h3, h4, h5]⟩
  clear h0 h1 h2 h3 h4 h5
  go_cut [8] (fun v wc => v = .bool (a1 m) ∧ Aside0 (Below w1.heap.size w1 wc))
  case first =>
    go_wp2_with (first
      | (go_at_call 35; (with_reducible refine (known_d _ H0.out _).mono ?_); rintro e w2 ⟨rfl, ⟨⟨nq, rfl⟩⟩⟩)
      | (go_at_call 36; (with_reducible refine (within_d m.fr _ H1.out _).mono ?_); rintro e w2 ⟨rfl, ⟨⟨nq, rfl⟩⟩⟩)
      | (go_at_call 36; (with_reducible refine (within_d m.dst _ H2.out _).mono ?_); rintro e w2 ⟨rfl, ⟨⟨nq, rfl⟩⟩⟩)
      | (go_at_call 36; (with_reducible refine (within_d m.ep _ H3.out _).mono ?_); rintro e w2 ⟨rfl, ⟨⟨nq, rfl⟩⟩⟩)
      | (go_at_call 36; (with_reducible refine (within_d m.op _ H4.out _).mono ?_); rintro e w2 ⟨rfl, ⟨⟨nq, rfl⟩⟩⟩)
      | (go_at_call 36; (with_reducible refine (within_d m.n _ H5.out _).mono ?_); rintro e w2 ⟨rfl, ⟨⟨nq, rfl⟩⟩⟩))
    all_goals go_meet
    all_goals (refine ⟨?_, ⟨pw_below_drewN (Below.refl _ _) _⟩⟩; rw [HA1.out]; go_light; simp [*])
  case rest =>
    obtain ⟨rfl, HB2⟩ := hcut
    go_upto_region 3 with fail
    have HW1 := HW.out.trans (HB1.out.mono HW.out.size)
    have HBS : Aside0 (w.heap.size < w1.heap.size) := ⟨blk_lt HBN1.out⟩
    obtain ⟨w2, hw2⟩ : ∃ w2, w2 = wc := ⟨_, rfl⟩
    subst hw2
    have HW2 := Aside0.mk (HW1.trans (HB2.out.mono HW1.size))
    have HBN2 := Aside0.mk ((HB2.out.block w.heap.size HBS.out).trans HBN1.out)
    have HM2 := Aside0.mk (HM1.out.below HB2.out)
    clear c0 c1 c2 c3 c4 c5 c6 c7 c8 c9 c10 c11 c12 c13 c14 c15 c16 HM1 HBN1 HA1 H0 H1 H2 H3 H4 H5 HW1 HBS HB1 HB2 r0 r1 r2 r3 r4 r5
    obtain ⟨c0, c1, c2, c3, c4, c5, c6, c7, c8, c9, c10, c11, c12, c13, c14, c15, c16⟩ := ms_cells HBN2.out
    obtain ⟨ok, hok⟩ : ∃ r, a1 m = r := ⟨_, rfl⟩
    rw [hok]
    obtain ⟨r1, h1⟩ : ∃ r, rightB m.L = r := ⟨_, rfl⟩
    obtain ⟨q1, g1⟩ : ∃ r, (m.n == 0) = r := ⟨_, rfl⟩
    obtain ⟨q2, g2⟩ : ∃ r, ((m.L.length : Int) == 0) = r := ⟨_, rfl⟩
    have g3 : decide (m.L.length = 0) = q2 := by rw [← g2]; by_cases h : m.L.length = 0 <;> simp [h]
    have H1 := Aside0.mk h1
    have HA2 : Aside0 (a2 m = (ok && (bn || q1) && (bf || !m.f) && (bl || q2) && r1)) := ⟨by unfold a2; rw [hok, h1, g1, g3, HH.out]⟩
    clear hok h1 g3
    go_cut [3, 4, 6, 8] (fun v3 v4 v6 v wc => v3 = .bool bn ∧ v4 = .bool bf ∧ v6 = .bool bl ∧ v = .bool (a2 m) ∧ Aside0 (Below w2.heap.size w2 wc))
    case first =>
      go_wp2_with (go_at_call 37; (with_reducible refine (right_l HM2.out.l HM2.out.lc).mono ?_); rw [H1.out]; rintro e w3 ⟨rfl, hb⟩; have HB3 := Aside0.mk hb; clear hb)
      all_goals go_meet
      all_goals (refine ⟨?_, ?_, ?_, ?_, (by first | exact HB3 | exact ⟨Below.refl _ _⟩)⟩ <;> go_light <;> first | rfl | (simp [*]; done) | (rw [HA2.out]; simp [*]))
    case rest =>
      obtain ⟨rfl, rfl, rfl, rfl, HB3⟩ := hcut
      go_upto_if 77 with fail
      obtain ⟨w3, hw3⟩ : ∃ w3, w3 = wc := ⟨_, rfl⟩
      subst hw3
      have HW3 := Aside0.mk (HW2.out.trans (HB3.out.mono HW2.out.size))
      have HBN3 := Aside0.mk ((HB3.out.block w.heap.size (blk_lt HBN2.out)).trans HBN2.out)
      have HM3 := Aside0.mk (HM2.out.below HB3.out)
      clear c0 c1 c2 c3 c4 c5 c6 c7 c8 c9 c10 c11 c12 c13 c14 c15 c16 HM2 HBN2 HA2 H1 HB3 HW2 g1 g2 r1 q1 q2 ok
      obtain ⟨c0, c1, c2, c3, c4, c5, c6, c7, c8, c9, c10, c11, c12, c13, c14, c15, c16⟩ := ms_cells HBN3.out
      obtain ⟨ok, hok⟩ : ∃ r, a2 m = r := ⟨_, rfl⟩
      rw [hok]
      obtain ⟨r1, h1⟩ : ∃ r, decide (okE m.e) = r := ⟨_, rfl⟩
      obtain ⟨r2, h2⟩ : ∃ r, zeroB m.e = r := ⟨_, rfl⟩
      obtain ⟨q2, g2⟩ : ∃ r, ((m.e.f2.f1.length : Int) == 0) = r := ⟨_, rfl⟩
      have g3 : decide (m.e.f2.f1.length = 0) = q2 := by rw [← g2]; by_cases h : m.e.f2.f1.length = 0 <;> simp [h]
      obtain ⟨x, hx⟩ : ∃ x : Int, (if r1 = true then 0 else 2) = x := ⟨_, rfl⟩
      have H1 : Aside0 (rightV m.e.f0 m.e.f1.f0 m.e.f1.f1 m.e.f1.f2 m.e.f2.f0 m.e.f2.f1 = x) := ⟨by rw [← hx, ← h1]; unfold rightV okE; by_cases h : okEnt m.e.f0 m.e.f1.f0 m.e.f1.f1 m.e.f1.f2 m.e.f2.f0 m.e.f2.f1 <;> simp [h]⟩
      have gx : (x == 0) = r1 := by rw [← hx]; cases r1 <;> rfl
      have H2 := Aside0.mk h2
      have HA3 : Aside0 (a3 m = if be = true then ok && r1 else ok && r2 && q2) := ⟨by unfold a3; rw [hok, h1, h2, g3, HH.out]⟩
      clear hok h1 g3 h2 hx
      go_cut [5, 8] (fun v5 v wc => v5 = .bool be ∧ v = .bool (a3 m) ∧ Aside0 (Below w3.heap.size w3 wc))
      case first =>
        go_wp2_with (first
          | (go_at_call 38; (with_reducible refine (right_e _ _ _ _ _ H1.out HM3.out.v HM3.out.vc).mono ?_); rintro e w4 ⟨rfl, hb⟩; have HB4 := Aside0.mk hb; clear hb)
          | (go_at_call 39; (with_reducible refine (zero_c m.e H2.out HV.out HM3.out.v HM3.out.vc).mono ?_); rintro e w4 ⟨rfl, hb⟩; have c12 := pw_cell_below hb c12; have HB4 := Aside0.mk hb; clear hb))
        all_goals go_meet
        all_goals (refine ⟨?_, ?_, (by first | exact HB4 | exact ⟨Below.refl _ _⟩)⟩ <;> go_light <;> first | rfl | (simp [*]; done) | (rw [HA3.out]; simp [*]))
      case rest =>
        obtain ⟨rfl, rfl, HB4⟩ := hcut
        go_upto_if 100 with fail
        obtain ⟨w4, hw4⟩ : ∃ w4, w4 = wc := ⟨_, rfl⟩
        subst hw4
        have HW4 := Aside0.mk (HW3.out.trans (HB4.out.mono HW3.out.size))
        have HBN4 := Aside0.mk ((HB4.out.block w.heap.size (blk_lt HBN3.out)).trans HBN3.out)
        have HM4 := Aside0.mk (HM3.out.below HB4.out)
        clear c0 c1 c2 c3 c4 c5 c6 c7 c8 c9 c10 c11 c12 c13 c14 c15 c16 HM3 HBN3 HA3 H1 H2 HB4 HW3 g2 gx r1 r2 q2 x ok
        obtain ⟨c0, c1, c2, c3, c4, c5, c6, c7, c8, c9, c10, c11, c12, c13, c14, c15, c16⟩ := ms_cells HBN4.out
        obtain ⟨ok, hok⟩ : ∃ r, a3 m = r := ⟨_, rfl⟩
        rw [hok]
        obtain ⟨r1, h1⟩ : ∃ r, ringB m.R m.each m.keep = r := ⟨_, rfl⟩
        obtain ⟨r2, h2⟩ : ∃ r, noneB m.R m.each m.keep = r := ⟨_, rfl⟩
        obtain ⟨x, hx⟩ : ∃ x : Int, (if r1 = true then 0 else 2) = x := ⟨_, rfl⟩
        have gx : (x == 0) = r1 := by rw [← hx]; cases r1 <;> rfl
        have H1 := Aside0.mk h1
        have H2 := Aside0.mk h2
        have HX := Aside0.mk hx
        have HA4 : Aside0 (a4 m = if br = true then ok && r1 else ok && r2) := ⟨by unfold a4; rw [hok, h1, h2, HH.out]⟩
        clear hok h1 h2 hx
        go_cut [7, 8] (fun v7 v wc => v7 = .bool br ∧ v = .bool (a4 m) ∧ Aside0 (Below w4.heap.size w4 wc))
        case first =>
          go_wp2_with (first
            | (go_at_call 40; (with_reducible refine (ring_c _ _ H1.out HM4.out.r HM4.out.rc HL.out).mono ?_); rw [HX.out]; rintro e w5 ⟨rfl, hb⟩; have HB5 := Aside0.mk hb; clear hb)
            | (go_at_call 41; (with_reducible refine (none_c _ _ H2.out HM4.out.r HM4.out.rc).mono ?_); rintro e w5 ⟨rfl, hb⟩; have HB5 := Aside0.mk hb; clear hb))
          all_goals go_meet
          all_goals (refine ⟨?_, ?_, (by first | exact HB5 | exact ⟨Below.refl _ _⟩)⟩ <;> go_light <;> first | rfl | (simp [*]; done) | (rw [HA4.out]; simp [*]))
        case rest =>
          obtain ⟨rfl, rfl, HB5⟩ := hcut
          have HW5 := Aside0.mk (HW4.out.trans (HB5.out.mono HW4.out.size))
          obtain ⟨z, hz⟩ : ∃ r, a4 m = r := ⟨_, rfl⟩
          have HZ : Aside0 (checkM m = if z = true then 0 else 2) := ⟨by unfold checkM; rw [hz]⟩
          rw [hz]
          clear hz c0 c1 c2 c3 c4 c5 c6 c7 c8 c9 c10 c11 c12 c13 c14 c15 c16 HA4 H1 H2 HX gx
          cases z
          · go_wp2
            go_ret
            exact ⟨by rw [HZ.out]; rfl, HW5.out⟩
          · go_wp2
            go_ret
            exact ⟨by rw [HZ.out]; rfl, HW5.out⟩
end Go.Proofs.YthaoiamgkpkcbaaDoor.Ms
namespace Go.Proofs.YthaoiamgkpkcbaaDoor.Ms
open Go.ChangeShapes Go.WideShapes Go.ChangeAt Go.RowKit Go.Proofs.YthaoiamgkpkcbaaDoor.Pk Go.Proofs.YthaoiamgkpkcbaaDoor.Tg Go.Proofs.YthaoiamgkpkcbaaDoor.Enc Go.Proofs.YthaoiamgkpkcbaaDoor.EncC
open Go.Proofs.YthaoiamgkpkcbaaDoor.Hlp Go.Proofs.YthaoiamgkpkcbaaDoor.Wrd Go.Proofs.YthaoiamgkpkcbaaDoor.Lex Go.Proofs.YthaoiamgkpkcbaaDoorW.PrintWords Go.Proofs.YthaoiamgkpkcbaaDoorW.PrintLast Go.Proofs.YthaoiamgkpkcbaaDoorW.PrintMore
set_option linter.unusedVariables false
set_option linter.unusedSimpArgs false
/-- the bytes so far: a row of its own behind a variable in a block -/
def Out (w : World) (g : Nat) (acc : List Int) : Prop := ∃ A c, w.heap[g]? = some (.cells #[.slice A acc.length c] 24 (0, 0)) ∧ Kd.R (Kd.int .u8) 5 w (g + 1) (fun _ => True) (.slice A acc.length c) acc
/-- a block that no such writing touches -/
def Free (w : World) (B g p : Nat) : Prop := p < w.heap.size ∧ (p < B ∨ (p ≠ g ∧ ∀ cs fr, w.heap[p]? ≠ some (.cells cs 5 fr)))
def KeptF (w w' : World) (B g : Nat) : Prop := Below B w w' ∧ w.heap.size ≤ w'.heap.size ∧ ∀ p, Free w B g p → w'.heap[p]? = w.heap[p]?
theorem Free.later {w w' : World} {B g p : Nat} (h : Free w B g p) (k : KeptF w w' B g) : Free w' B g p :=
  ⟨Nat.lt_of_lt_of_le h.1 k.2.1, h.2.imp id (fun h2 => ⟨h2.1, fun cs fr => by rw [k.2.2 p h]; exact h2.2 cs fr⟩)⟩
theorem KeptF.trans {w w1 w2 : World} {B g : Nat} (h : KeptF w w1 B g) (k : KeptF w1 w2 B g) : KeptF w w2 B g :=
  ⟨h.1.trans k.1, Nat.le_trans h.2.1 k.2.1, fun p hp => (k.2.2 p (hp.later h)).trans (h.2.2 p hp)⟩
theorem KeptF.refl (w : World) (B g : Nat) : KeptF w w B g := ⟨Below.refl _ _, Nat.le_refl _, fun _ _ => rfl⟩
theorem KeptF.below {w w1 : World} {B g : Nat} (h : Below w.heap.size w w1) (hB : B ≤ w.heap.size) : KeptF w w1 B g :=
  ⟨h.mono hB, h.size, fun p hp => h.block p hp.1⟩
theorem KeptF.grown {w w1 : World} {B g : Nat} {v : Value} {xs : List Int} (hr : Kd.R (Kd.int .u8) 5 w (g + 1) (fun _ => True) v xs) (hg : w.grownBy w1 v.ownBlock) (hB : B ≤ g) (hs : B ≤ w.heap.size) : KeptF w w1 B g := by
  have hb : ∀ k, v.ownBlock = some k → g + 1 ≤ k := fun k hk => Kd.R_base hr k hk
  refine ⟨(Below.refl B w).grown hg hs (fun k hk => by have := hb k hk; omega), hg.size, fun p hp => hg.block p hp.1 ?_⟩
  intro e
  rcases hp.2 with h1 | ⟨_, h2⟩
  · have := hb p e.symm; omega
  · obtain ⟨cells, hc⟩ := own_typed (Kd.R_own hr).choose_spec p e.symm
    exact h2 _ _ hc
theorem KeptF.set {w : World} {B g : Nat} (hB : B ≤ g) (i : Nat) (u : Value) : KeptF w (w.setCell ⟨g, i, none⟩ u) B g :=
  ⟨(Below.refl B w).setCell hB _, by simp [World.setCell], fun p hp => Below.heap_setCell w _ u p (by rcases hp.2 with h | ⟨h, _⟩ <;> (intro e; simp at e; omega))⟩
theorem C_sameK {k : IntKind} {w w1 : World} {A : Option Addr} {n : Nat} {xs : List Int} (h : Kd.C (Kd.int k) w A n xs) (hs : ∀ p o, A = some ⟨p, o, none⟩ → xs ≠ [] → w1.heap[p]? = w.heap[p]?) : Kd.C (Kd.int k) w1 A n xs := by
  obtain rfl : xs.length = n := h.1
  rcases Nat.eq_zero_or_pos xs.length with h0 | h0
  · obtain rfl := List.length_eq_zero_iff.1 h0
    exact C_empty
  · obtain ⟨b, off, rfl, hc⟩ := C_block h h0
    refine C_mk h.2.1 fun k hk => ?_
    rw [← hc k hk]
    have := hs b off rfl (List.length_pos_iff.1 h0)
    simp [World.cell?, this]
theorem C_keptF {k : IntKind} {w w1 : World} {B g : Nat} {A : Option Addr} {n : Nat} {xs : List Int} (h : Kd.C (Kd.int k) w A n xs) (hf : ∀ p o, A = some ⟨p, o, none⟩ → xs ≠ [] → Free w B g p) (hk : KeptF w w1 B g) : Kd.C (Kd.int k) w1 A n xs :=
  C_sameK h fun p o e h0 => hk.2.2 p (hf p o e h0)
theorem Out.below {w w1 : World} {g : Nat} {acc : List Int} (h : Out w g acc) (hb : Below w.heap.size w w1) : Out w1 g acc := by
  obtain ⟨A, c, h1, h2⟩ := h
  exact ⟨A, c, (hb.block g (blk_lt h1)).trans h1, Kd.R_below h2 hb⟩
/-- what a closure leaves that lays bytes behind those there are -/
def OutPost (w : World) (B g : Nat) (acc : List Int) (e : Ending) (w' : World) : Prop := e = .returned (.tuple #[]) ∧ Out w' g acc ∧ KeptF w w' B g
set_option maxHeartbeats 4000000 in
theorem nums_b {w : World} {B g : Nat} {acc xs : List Int} {A : Option Addr} {n c : Nat} (hO : Out w g acc) (hB : B ≤ g) (hx : Kd.C (Kd.int .i64) w A n xs) (hc : n ≤ c) (hf : ∀ p o, A = some ⟨p, o, none⟩ → xs ≠ [] → Free w B g p) (hl : acc.length + 9 * xs.length ≤ 17592186044415) :
    Calls Tryd.prog 28 #[.slice A n c, .pointer (some ⟨g, 0, none⟩)] w (OutPost w B g (acc ++ catB xs)) := by
  obtain rfl : xs.length = n := hx.1
  have hm := hx.2.1
  have HX := Aside0.mk hx
  have HF := Aside0.mk hf
  have HO := Aside0.mk hO
  have HG : Aside0 (B ≤ w.heap.size) := ⟨by obtain ⟨_, _, h, _⟩ := hO; have := blk_lt h; omega⟩
  clear hx hf hO
  go_enter Tryd.func28, Tryd.ntmps28
  go_wp2_with fail
  go_loopg [7] xs.length (fun q v7 w' => ∃ k : Nat, k ≤ xs.length ∧ v7 = .int .i64 k ∧ q = xs.length - k ∧ Aside0 (Out w' g (acc ++ catB (xs.take k))) ∧ Aside0 (KeptF w w' B g))
  case atStart => exact ⟨0, Nat.zero_le _, rfl, rfl, ⟨by simpa [catB] using HO.out⟩, ⟨KeptF.refl _ _ _⟩⟩
  case round =>
    obtain ⟨k, hk, rfl, rfl, HO, HK⟩ := hrel
    by_cases hlt : k < xs.length
    · have t2 : decide (k < xs.length) = true := decide_eq_true hlt
      have HBL : Aside0 ((acc ++ catB (xs.take k)).length + 9 ≤ 17592186044415) := ⟨by have := catB_len (xs.take k); rw [List.length_take] at this; rw [List.length_append]; omega⟩
      have HT : Aside0 (acc ++ catB (xs.take (k + 1)) = (acc ++ catB (xs.take k)) ++ numB xs[k]) := ⟨by rw [List.take_succ_eq_append_getElem hlt, catB_snoc, List.append_assoc]⟩
      obtain ⟨ys, hys⟩ : ∃ ys, acc ++ catB (xs.take k) = ys := ⟨_, rfl⟩
      rw [hys] at HO HBL HT
      clear hys
      obtain ⟨A1, c1, hb1, hr1⟩ := HO.out
      obtain ⟨b, off, rfl, hcell⟩ := C_block (C_keptF HX.out HF.out HK.out) (by omega)
      have hck := hcell k hlt
      have o0 : wr.cell? ⟨g, 0, none⟩ = some (.slice A1 ys.length c1) := (blk_cell hb1 0).trans rfl
      have of := blk_frozen hb1 0
      have HB1 := Aside0.mk hb1
      have HR1 := Aside0.mk hr1
      clear hb1 hr1 hcell
      go_wp2_with fail
      go_region_law (first
        | (go_simp; go_at_call 29; (with_reducible refine (num_c _ _).mono ?_); rintro e w2 ⟨vn, rfl, hn, hb⟩; obtain ⟨An, cn, evn, hcn, hnr⟩ := Kd.R_reads hn; subst evn; have HN := Aside0.mk hnr; have HB2 : Aside0 (w2.heap[g]? = some (.cells #[.slice A1 ys.length c1] 24 (0, 0))) := ⟨(hb.block g (blk_lt HB1.out)).trans HB1.out⟩; have HR2 : Aside0 (Kd.R (Kd.int .u8) 5 w2 (g + 1) (fun _ => True) (.slice A1 ys.length c1) ys) := ⟨Kd.R_below (by first | exact Kd.R_drew HR1.out | exact HR1.out) hb⟩; have HK2 : Aside0 (KeptF wr w2 B g) := ⟨KeptF.below (w := wr) ⟨hb.os, hb.tape, hb.output, hb.size, hb.block⟩ (by have := HK.out.2.1; have := HG.out; omega)⟩; have o2 : w2.cell? ⟨g, 0, none⟩ = some (.slice A1 ys.length c1) := (blk_cell HB2.out 0).trans rfl; clear hn hnr hb)
        | (refine Kd.R_append_rows_step (Kd.int .u8) (g + 1) (by rfl) _ _ 24 5 (.int .u8 0) 1 (by rfl) Tryd.underlying24 info8 rfl (by decide) (by omega) (.slice A1 ys.length c1) ys (numB xs[k]) _ _ _ (fun _ => True) (fun _ => False) (by rfl) (by rfl) HR2.out HN.out (fun _ _ h => h) (fun _ h => h.elim) (fun _ _ => trivial) (Below.refl _ _) ?a3 ?a4 ?_; (case a3 => exact blk_lt HB2.out); (case a4 => have := numB_len xs[k]; have := HBL.out; omega); intro v1 w4 ho hb4 hgr hat; obtain ⟨A4, c4, e4⟩ := Kd.R_slice ho; subst e4; have HA4 := Aside0.mk ho; have HO4 := Aside0.mk (blk_apart HR2.out HB2.out (by decide) hgr); have y0 : w4.cell? ⟨g, 0, none⟩ = some (.slice A1 ys.length c1) := (blk_cell HO4.out 0).trans rfl; have y1 := blk_frozen HO4.out 0; have HG4 := Aside0.mk (KeptF.grown HR2.out hgr hB (by have := HK2.out.2.1; have := HK.out.2.1; have := HG.out; omega)); clear ho hgr hat hb4))
      all_goals
        go_wp2_with fail
        go_roundg (xs.length - (k + 1))
        case measure => omega
        case rel =>
          refine ⟨k + 1, by omega, by go_num, rfl, ⟨?_⟩, ⟨HK.out.trans (HK2.out.trans (HG4.out.trans (KeptF.set hB 0 _)))⟩⟩
          rw [HT.out]
          exact ⟨A4, c4, by rw [List.length_append]; exact blk_set HO4.out 0 _, R_farg HA4.out (Nat.lt_succ_self g) 0 _⟩
    · have t2 : decide (k < xs.length) = false := decide_eq_false hlt
      go_wp2_with fail
      go_end0
      obtain rfl : k = xs.length := by omega
      exact ⟨rfl, by have := HO.out; rwa [List.take_length] at this, HK.out⟩
end Go.Proofs.YthaoiamgkpkcbaaDoor.Ms
namespace Go.Proofs.YthaoiamgkpkcbaaDoor.Ms
open Go.ChangeShapes Go.WideShapes Go.ChangeAt Go.RowKit Go.Proofs.YthaoiamgkpkcbaaDoor.Pk Go.Proofs.YthaoiamgkpkcbaaDoor.Tg Go.Proofs.YthaoiamgkpkcbaaDoor.Enc Go.Proofs.YthaoiamgkpkcbaaDoor.EncC Go.Proofs.YthaoiamgkpkcbaaDoor.EncP
open Go.Proofs.YthaoiamgkpkcbaaDoor.Hlp Go.Proofs.YthaoiamgkpkcbaaDoor.Wrd Go.Proofs.YthaoiamgkpkcbaaDoor.Lex Go.Proofs.YthaoiamgkpkcbaaDoorW.PrintWords Go.Proofs.YthaoiamgkpkcbaaDoorW.PrintLast Go.Proofs.YthaoiamgkpkcbaaDoorW.PrintMore
set_option linter.unusedVariables false
set_option linter.unusedSimpArgs false
/-- an entry's bytes -/
def entX (x : E6) : List Int := entB x.f0 x.f1.f0 x.f1.f1 x.f1.f2 x.f2.f0 x.f2.f1
theorem entX_len (x : E6) (h : okE x) : (entX x).length ≤ 61000 := by
  have h' : okEnt x.f0 x.f1.f0 x.f1.f1 x.f1.f2 x.f2.f0 x.f2.f1 := h
  unfold okEnt at h'
  unfold entX entB
  have h1 := rowB_len (l := Tg.bytesOf x.f0)
  have h2 := rowB_len (l := x.f2.f1)
  have h3 := numB_len x.f1.f0
  have h4 := numB_len x.f1.f1
  have h5 := numB_len x.f1.f2
  rw [bytesOf_len] at h1
  have h6 : (truthB x.f2.f0).length = 1 := by unfold truthB; split <;> rfl
  simp only [List.length_append]
  split
  · omega
  · simp; omega
theorem bytesV_ok {x : E6} (h : okE x) : bytesV x.f0 x.f1.f0 x.f1.f1 x.f1.f2 x.f2.f0 x.f2.f1 = (entX x, 0) := if_pos h
theorem tbytes_c {w : World} {A : Option Addr} {n d : Nat} (x : E6) (h : okE x) (hr : Kd.C (Kd.int .u8) w A n x.f2.f1) (hc : n ≤ d) :
    Calls Tryd.prog 31 #[.agg #[.string x.f0, .int .i64 x.f1.f0, .int .i64 x.f1.f1, .int .i64 x.f1.f2, .bool x.f2.f0, .slice A n d]] w (Made2 w (entX x) 0) := by
  obtain rfl : x.f2.f1.length = n := hr.1
  have := bytes_ x.f0 x.f1.f0 x.f1.f1 x.f1.f2 x.f2.f0 hr hc
  rwa [bytesV_ok h] at this
set_option maxHeartbeats 4000000 in
theorem entry_b {w : World} {B g : Nat} {acc : List Int} {A : Option Addr} {n d : Nat} (x : E6) (hx : okE x) (hO : Out w g acc) (hB : B ≤ g) (hr : Kd.C (Kd.int .u8) w A n x.f2.f1) (hc : n ≤ d) (hl : acc.length + 61000 ≤ 17592186044415) :
    Calls Tryd.prog 30 #[.agg #[.string x.f0, .int .i64 x.f1.f0, .int .i64 x.f1.f1, .int .i64 x.f1.f2, .bool x.f2.f0, .slice A n d], .pointer (some ⟨g, 0, none⟩)] w (OutPost w B g (acc ++ entX x)) := by
  have HG : Aside0 (g < w.heap.size) := ⟨by obtain ⟨_, _, h, _⟩ := hO; exact blk_lt h⟩
  have hG := HG.out
  have hbl := below_alloc (Below.refl w.heap.size w) (.cells #[.string x.f0, .int .i64 x.f1.f0, .int .i64 x.f1.f1, .int .i64 x.f1.f2, .bool x.f2.f0, .slice A n d] 28)
  have HO := Aside0.mk (hO.below hbl)
  have HR := Aside0.mk (Kd.C_below hr hbl)
  have HK := Aside0.mk (KeptF.below (g := g) hbl (show B ≤ w.heap.size by omega))
  have BE := Aside0.mk (blk_new w (.cells #[.string x.f0, .int .i64 x.f1.f0, .int .i64 x.f1.f1, .int .i64 x.f1.f2, .bool x.f2.f0, .slice A n d] 28))
  have HX := Aside0.mk hx
  clear hO hr hx hbl
  go_enter Tryd.func30, Tryd.ntmps30
  go_upto_region 1 with fail
  generalize w.alloc (.cells #[.string x.f0, .int .i64 x.f1.f0, .int .i64 x.f1.f1, .int .i64 x.f1.f2, .bool x.f2.f0, .slice A n d] 28) = W at *
  obtain ⟨e0, e1, e2, e3, e4, e5⟩ := en_cells BE.out
  obtain ⟨A1, c1, hb1, hr1⟩ := HO.out
  have HB1 := Aside0.mk hb1
  have HR1 := Aside0.mk hr1
  have hal : (entX x).length ≤ 61000 := entX_len x HX.out
  clear hb1 hr1
  go_wp2_with (first | (go_at_call 31; (with_reducible refine (tbytes_c x HX.out HR.out hc).mono ?_); rintro y w2 ⟨vn, rfl, hn, hb⟩; obtain ⟨An, cn, evn, hcn, hnr⟩ := Kd.R_reads hn; subst evn; have HN := Aside0.mk hnr; have HB2 : Aside0 (w2.heap[g]? = some (.cells #[.slice A1 acc.length c1] 24 (0, 0))) := ⟨(hb.block g (blk_lt HB1.out)).trans HB1.out⟩; have HR2 : Aside0 (Kd.R (Kd.int .u8) 5 w2 (g + 1) (fun _ => True) (.slice A1 acc.length c1) acc) := ⟨Kd.R_below HR1.out hb⟩; have HK2 : Aside0 (KeptF W w2 B g) := ⟨KeptF.below hb (by have := HK.out.2.1; have := HG.out; omega)⟩; have o2 : w2.cell? ⟨g, 0, none⟩ = some (.slice A1 acc.length c1) := (blk_cell HB2.out 0).trans rfl; clear hn hnr hb e0 e1 e2 e3 e4 e5) | ((with_reducible refine gate_builtin (b := .append) rfl ?_); at_builtin; refine Kd.R_append_rows (Kd.int .u8) (w0 := w2) (g + 1) rfl _ _ 24 5 (.int .u8 0) 1 rfl Tryd.underlying24 info8 rfl (by decide) (by omega) (.slice A1 acc.length c1) acc (entX x) _ _ _ (fun _ => True) (fun _ => False) rfl rfl HR2.out HN.out (fun _ _ h => h) (fun _ h => h.elim) (fun _ _ => trivial) (Below.refl _ _) ?a3 ?a4 ?_; (case a3 => exact blk_lt HB2.out); (case a4 => omega); intro v1 w4 ho hb4 hgr hat; obtain ⟨A4, c4, e4⟩ := Kd.R_slice ho; subst e4; have HA4 := Aside0.mk ho; have HO4 := Aside0.mk (blk_apart HR2.out HB2.out (by decide) hgr); have y0 : w4.cell? ⟨g, 0, none⟩ = some (.slice A1 acc.length c1) := (blk_cell HO4.out 0).trans rfl; have y1 := blk_frozen HO4.out 0; have HG4 := Aside0.mk (KeptF.grown HR2.out hgr hB (by have := HK2.out.2.1; have := HK.out.2.1; have := HG.out; omega)); clear ho hgr hat hb4))
  go_end0
  exact ⟨rfl, ⟨A4, c4, by rw [List.length_append]; exact blk_set HO4.out 0 _, R_farg HA4.out (Nat.lt_succ_self g) 0 _⟩, HK.out.trans (HK2.out.trans (HG4.out.trans (KeptF.set hB 0 _)))⟩
end Go.Proofs.YthaoiamgkpkcbaaDoor.Ms
namespace Go.Proofs.YthaoiamgkpkcbaaDoor.Ms
open Go.ChangeShapes Go.WideShapes Go.ChangeAt Go.RowKit Go.Proofs.YthaoiamgkpkcbaaDoor.Pk Go.Proofs.YthaoiamgkpkcbaaDoor.Tg Go.Proofs.YthaoiamgkpkcbaaDoor.Enc Go.Proofs.YthaoiamgkpkcbaaDoor.EncC Go.Proofs.YthaoiamgkpkcbaaDoor.EncP
open Go.Proofs.YthaoiamgkpkcbaaDoor.Hlp Go.Proofs.YthaoiamgkpkcbaaDoor.Wrd Go.Proofs.YthaoiamgkpkcbaaDoor.Lex Go.Proofs.YthaoiamgkpkcbaaDoorW.PrintWords Go.Proofs.YthaoiamgkpkcbaaDoorW.PrintLast Go.Proofs.YthaoiamgkpkcbaaDoorW.PrintMore
set_option linter.unusedVariables false
set_option linter.unusedSimpArgs false
def entL (l : List E6) : List Int := (l.map entX).flatten
theorem entL_snoc (l : List E6) (x : E6) : entL (l ++ [x]) = entL l ++ entX x := by simp [entL]
theorem entL_len : ∀ l : List E6, (∀ x ∈ l, okE x) → (entL l).length ≤ 61000 * l.length
  | [], _ => by simp [entL]
  | x :: l, h => by
    have e : entL (x :: l) = entX x ++ entL l := rfl
    have h1 := entX_len x (h x List.mem_cons_self)
    have h2 := entL_len l (fun y hy => h y (List.mem_cons_of_mem _ hy))
    rw [e, List.length_append, List.length_cons]; omega
/-- a message's bytes, part by part -/
def b1 (m : Ms) : List Int := catB [m.kind, m.fr, m.dst, m.ep, m.op]
def b2 (m : Ms) : List Int := b1 m ++ (if (hasV m.kind).n = true then catB [m.n] else [])
def b3 (m : Ms) : List Int := b2 m ++ (if (hasV m.kind).f = true then truthB m.f else [])
def b4 (m : Ms) : List Int := b3 m ++ (if (hasV m.kind).e = true then entX m.e else [])
def b5 (m : Ms) : List Int := b4 m ++ (if (hasV m.kind).l = true then catB [(m.L.length : Int)] ++ entL m.L else [])
def bytesM (m : Ms) : List Int := b5 m ++ (if (hasV m.kind).r = true then catB [m.each, m.keep, (m.R.length : Int)] ++ catB m.R else [])
structure Okm (m : Ms) : Prop where
  kd : 1 ≤ m.kind ∧ m.kind ≤ 17
  fr : 0 ≤ m.fr ∧ m.fr ≤ 1048575
  dst : 0 ≤ m.dst ∧ m.dst ≤ 1048575
  ep : 0 ≤ m.ep ∧ m.ep ≤ 1099511627775
  op : 0 ≤ m.op ∧ m.op ≤ 1099511627775
  n : 0 ≤ m.n ∧ m.n ≤ 1099511627775
  n0 : (hasV m.kind).n = true ∨ m.n = 0
  f0 : (hasV m.kind).f = true ∨ m.f = false
  l0 : (hasV m.kind).l = true ∨ m.L.length = 0
  len : m.L.length ≤ 1000
  all : ∀ x ∈ m.L, okE x
  e1 : (hasV m.kind).e = true → okE m.e
  e0 : (hasV m.kind).e = false → zeroB m.e = true ∧ m.e.f2.f1.length = 0
  r1 : (hasV m.kind).r = true → ringB m.R m.each m.keep = true
  r0 : (hasV m.kind).r = false → noneB m.R m.each m.keep = true
theorem okm_iff (m : Ms) : a4 m = true ↔ Okm m := by
  constructor
  · intro h
    have x3 : a3 m = true := by
      unfold a4 at h
      split at h <;> (rw [Bool.and_eq_true] at h; exact h.1)
    have xr1 : (hasV m.kind).r = true → ringB m.R m.each m.keep = true := by
      intro hr; unfold a4 at h; rw [if_pos hr, Bool.and_eq_true] at h; exact h.2
    have xr0 : (hasV m.kind).r = false → noneB m.R m.each m.keep = true := by
      intro hr; unfold a4 at h; rw [hr, if_neg (by decide), Bool.and_eq_true] at h; exact h.2
    have x2 : a2 m = true := by
      unfold a3 at x3
      split at x3
      · rw [Bool.and_eq_true] at x3; exact x3.1
      · rw [Bool.and_eq_true, Bool.and_eq_true] at x3; exact x3.1.1
    have xe1 : (hasV m.kind).e = true → okE m.e := by
      intro he; unfold a3 at x3; rw [if_pos he, Bool.and_eq_true] at x3; exact of_decide_eq_true x3.2
    have xe0 : (hasV m.kind).e = false → zeroB m.e = true ∧ m.e.f2.f1.length = 0 := by
      intro he; unfold a3 at x3; rw [he, if_neg (by decide), Bool.and_eq_true, Bool.and_eq_true] at x3; exact ⟨x3.1.2, of_decide_eq_true x3.2⟩
    unfold a2 a1 withinB rightB at x2
    simp only [Bool.and_eq_true, decide_eq_true_eq, Bool.or_eq_true, beq_iff_eq, Bool.not_eq_true'] at x2
    obtain ⟨⟨⟨⟨⟨⟨⟨⟨⟨y0, y1⟩, y2⟩, y3⟩, y4⟩, y5⟩, y6⟩, y7⟩, y8⟩, y9, y10⟩ := x2
    exact ⟨y0, y1, y2, y3, y4, y5, y6, y7, y8, y9, y10, xe1, xe0, xr1, xr0⟩
  · intro h
    have hw : a1 m = true := by
      unfold a1 withinB
      simp only [Bool.and_eq_true, decide_eq_true_eq]
      exact ⟨⟨⟨⟨⟨h.kd, h.fr⟩, h.dst⟩, h.ep⟩, h.op⟩, h.n⟩
    have hr : a2 m = true := by
      unfold a2 rightB
      simp only [Bool.and_eq_true, decide_eq_true_eq, Bool.or_eq_true, beq_iff_eq, Bool.not_eq_true']
      exact ⟨⟨⟨⟨hw, h.n0⟩, h.f0⟩, h.l0⟩, h.len, h.all⟩
    have he : a3 m = true := by
      unfold a3
      cases hh : (hasV m.kind).e
      · simp [hr, h.e0 hh]
      · simp [hr, h.e1 hh]
    unfold a4
    cases hh : (hasV m.kind).r
    · simp [he, h.r0 hh]
    · simp [he, h.r1 hh]
theorem ring_len {R : List Int} {e k : Int} (h : ringB R e k = true) : R.length ≤ 64 := by
  unfold ringB at h
  simp only [Bool.and_eq_true, decide_eq_true_eq] at h
  exact h.1.1.2
end Go.Proofs.YthaoiamgkpkcbaaDoor.Ms
namespace Go.Proofs.YthaoiamgkpkcbaaDoor.Ms
open Go.ChangeShapes Go.WideShapes Go.ChangeAt Go.RowKit Go.Proofs.YthaoiamgkpkcbaaDoor.Pk Go.Proofs.YthaoiamgkpkcbaaDoor.Tg Go.Proofs.YthaoiamgkpkcbaaDoor.Enc Go.Proofs.YthaoiamgkpkcbaaDoor.EncC Go.Proofs.YthaoiamgkpkcbaaDoor.EncP
open Go.Proofs.YthaoiamgkpkcbaaDoor.Hlp Go.Proofs.YthaoiamgkpkcbaaDoor.Wrd Go.Proofs.YthaoiamgkpkcbaaDoor.Lex Go.Proofs.YthaoiamgkpkcbaaDoorW.PrintWords Go.Proofs.YthaoiamgkpkcbaaDoorW.PrintLast Go.Proofs.YthaoiamgkpkcbaaDoorW.PrintMore
set_option linter.unusedVariables false
set_option linter.unusedSimpArgs false
theorem C_inK {k : IntKind} {w : World} {A : Option Addr} {n : Nat} {xs : List Int} (h : Kd.C (Kd.int k) w A n xs) : ∀ p o, A = some ⟨p, o, none⟩ → xs ≠ [] → p < w.heap.size := by
  intro p o e h0
  obtain rfl : xs.length = n := h.1
  obtain ⟨b, off, e2, hc⟩ := C_block h (List.length_pos_iff.2 h0)
  rw [e] at e2; injection e2 with e2; injection e2 with e2 _; subst e2
  exact block_lt_of_cell (hc 0 (List.length_pos_iff.2 h0))
/-- while a message's bytes are laid: those there are, the message in its block, and what stood -/
structure Sb (w wi : World) (m : Ms) (p : Pl) (g : Nat) (acc : List Int) : Prop where
  out : Out wi g acc
  blk : wi.heap[w.heap.size]? = some (.cells (m.val p) 34 (0, 0))
  up : Below w.heap.size w wi
  lt : w.heap.size < g
theorem Sb.free {w wi : World} {m : Ms} {p : Pl} {g : Nat} {acc : List Int} (h : Sb w wi m p g acc) : Free wi w.heap.size g w.heap.size :=
  ⟨blk_lt h.blk, .inr ⟨Nat.ne_of_lt h.lt, fun cs fr e => by rw [h.blk] at e; injection e with e; injection e with _ e _; exact absurd e (by decide)⟩⟩
theorem Sb.step {w wi w' : World} {m : Ms} {p : Pl} {g : Nat} {acc acc' : List Int} (h : Sb w wi m p g acc) (hO : Out w' g acc') (hK : KeptF wi w' w.heap.size g) : Sb w w' m p g acc' :=
  ⟨hO, (hK.2.2 _ h.free).trans h.blk, h.up.trans hK.1, h.lt⟩
theorem Sb.below {w wi w' : World} {m : Ms} {p : Pl} {g : Nat} {acc : List Int} (h : Sb w wi m p g acc) (hb : Below wi.heap.size wi w') : Sb w w' m p g acc :=
  h.step (h.out.below hb) (KeptF.below hb h.up.size)
/-- numbers that a literal holds, laid behind the bytes there are -/
theorem nums_lit {w wi : World} {m : Ms} {p : Pl} {g n n' : Nat} {acc ys : List Int} (xs : List Int) {cs : Array Value} (h : Sb w wi m p g acc) (hcs : cs.toList = xs.map (Value.int .i64)) (hn : cs.size = n) (hn' : n ≤ n') (hy : acc ++ catB xs = ys) (hl : acc.length + 9 * xs.length ≤ 17592186044415) (hx : xs.length ≤ 100) :
    Calls Tryd.prog 28 #[.slice (some ⟨wi.heap.size, 0, none⟩) n n', .pointer (some ⟨g, 0, none⟩)] (wi.alloc (.cells cs 3)) fun e w' => e = .returned (.tuple #[]) ∧ Sb w w' m p g ys := by
  subst hn hy
  have hb := below_alloc (Below.refl wi.heap.size wi) (.cells cs 3)
  have h2 := h.below hb
  have hc := C_blki (k := .i64) xs (blk_new wi (.cells cs 3)) (by rw [← Array.length_toList, hcs, List.length_map]; omega) hcs
  refine (nums_b h2.out (Nat.le_of_lt h.lt) hc hn' (fun p o e _ => ?_) hl).mono ?_
  · injection e with e; injection e with e _
    subst e
    refine ⟨by rw [size1]; exact Nat.lt_succ_self _, .inr ⟨?_, ?_⟩⟩
    · obtain ⟨_, _, hb, _⟩ := h.out; exact Nat.ne_of_gt (blk_lt hb)
    · intro cs' fr e
      rw [show (wi.alloc (.cells cs 3)).heap[wi.heap.size]? = _ from blk_new wi (.cells cs 3)] at e
      injection e with e; injection e with _ e _; exact absurd e (by decide)
  · rintro e w' ⟨rfl, hO, hK⟩
    exact ⟨rfl, h2.step hO hK⟩
/-- numbers of a row that came, laid behind the bytes there are -/
theorem nums_arg {w wi : World} {m : Ms} {p : Pl} {g n c : Nat} {acc ys : List Int} {A : Option Addr} (xs : List Int) (h : Sb w wi m p g acc) (hx : Kd.C (Kd.int .i64) w A n xs) (hc : n ≤ c) (hy : acc ++ catB xs = ys) (hl : acc.length + 9 * xs.length ≤ 17592186044415) :
    Calls Tryd.prog 28 #[.slice A n c, .pointer (some ⟨g, 0, none⟩)] wi fun e w' => e = .returned (.tuple #[]) ∧ Sb w w' m p g ys := by
  subst hy
  refine (nums_b h.out (Nat.le_of_lt h.lt) (Kd.C_below hx h.up) hc (fun p o e h0 => ?_) hl).mono ?_
  · have := C_inK hx p o e h0
    exact ⟨Nat.lt_of_lt_of_le this h.up.size, .inl this⟩
  · rintro e w' ⟨rfl, hO, hK⟩
    exact ⟨rfl, h.step hO hK⟩
/-- an entry, laid behind the bytes there are -/
theorem entry_s {w wi : World} {m : Ms} {p : Pl} {g n d : Nat} {acc ys : List Int} {A : Option Addr} (x : E6) (hx : okE x) (h : Sb w wi m p g acc) (hr : Kd.C (Kd.int .u8) wi A n x.f2.f1) (hc : n ≤ d) (hy : acc ++ entX x = ys) (hl : acc.length + 61000 ≤ 17592186044415) :
    Calls Tryd.prog 30 #[.agg #[.string x.f0, .int .i64 x.f1.f0, .int .i64 x.f1.f1, .int .i64 x.f1.f2, .bool x.f2.f0, .slice A n d], .pointer (some ⟨g, 0, none⟩)] wi fun e w' => e = .returned (.tuple #[]) ∧ Sb w w' m p g ys := by
  subst hy
  refine (entry_b x hx h.out (Nat.le_of_lt h.lt) hr hc hl).mono ?_
  rintro e w' ⟨rfl, hO, hK⟩
  exact ⟨rfl, h.step hO hK⟩
end Go.Proofs.YthaoiamgkpkcbaaDoor.Ms
