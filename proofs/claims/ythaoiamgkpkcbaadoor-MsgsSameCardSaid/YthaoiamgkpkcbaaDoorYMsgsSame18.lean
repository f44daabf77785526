/- The contract of msgs.Same: what the reference's tells. Conditions: bytes are bytes; lists that fit in memory. · The contract of msgs.Copy: the same message, its rows the call's own. Conditions: rows that fit in memory. · The contract of the reference's Back; and what is spoilt of a copy. Conditions: none. · What is spoilt of a copy: its own rows' blocks; all else stands. Conditions: none. -/
import Derived.Test.YthaoiamgkpkcbaaDoorYMsgsSame17
import Derived.Deep.Light

namespace Go.Proofs.YthaoiamgkpkcbaaDoor.Ms
open Go.ChangeShapes Go.WideShapes Go.ChangeAt Go.RowKit Go.Proofs.YthaoiamgkpkcbaaDoor.Pk Go.Proofs.YthaoiamgkpkcbaaDoor.Tg Go.Proofs.YthaoiamgkpkcbaaDoor.Enc Go.Proofs.YthaoiamgkpkcbaaDoor.EncC Go.Proofs.YthaoiamgkpkcbaaDoor.EncP
open Go.Proofs.YthaoiamgkpkcbaaDoor.Hlp Go.Proofs.YthaoiamgkpkcbaaDoor.Wrd Go.Proofs.YthaoiamgkpkcbaaDoor.Lex Go.Proofs.YthaoiamgkpkcbaaDoorW.PrintWords Go.Proofs.YthaoiamgkpkcbaaDoorW.PrintLast Go.Proofs.YthaoiamgkpkcbaaDoorW.PrintMore
set_option linter.unusedVariables false
set_option linter.unusedSimpArgs false
theorem equal_l0 (l m : List Int) (hlm : l.length = m.length) (hb : l.length < 9223372036854775807) : ∀ (d i : Nat), l.length - i = d → i ≤ l.length → Since (fun k => QM.slices_Equal_int_int.l0 k l m (l.length : Int) (i : Int)) (decide (l.drop i = m.drop i)) := by
  intro d
  induction d with
  | zero =>
    intro i hd hi
    rw [List.drop_eq_nil_of_le (show l.length ≤ i by omega), List.drop_eq_nil_of_le (show m.length ≤ i by omega)]
    refine Since.none fun k => ?_
    simp only [QM.slices_Equal_int_int.l0]
    rw [if_neg (by omega)]
    rfl
  | succ d ih =>
    intro i hd hi
    have h1 : i < l.length := by omega
    have h2 : i < m.length := by omega
    have hw : wrap64 ((i : Int) + 1) = ((i + 1 : Nat) : Int) := by unfold wrap64; omega
    have r1 : rd l (i : Int) = l[i] := by simp [rd, h1]
    have r2 : rd m (i : Int) = m[i] := by simp [rd, h2]
    rw [List.drop_eq_getElem_cons h1, List.drop_eq_getElem_cons h2]
    by_cases hx : l[i] = m[i]
    · have hd2 : decide (l[i] :: l.drop (i + 1) = m[i] :: m.drop (i + 1)) = decide (l.drop (i + 1) = m.drop (i + 1)) := by
        rw [hx]; exact decide_eq_decide.2 ⟨fun h => by injection h, fun h => by rw [h]⟩
      rw [hd2]
      refine Since.one (ih (i + 1) (by omega) (by omega)) fun k hk => ?_
      simp only [QM.slices_Equal_int_int.l0]
      rw [if_pos (by omega), if_pos (by omega), if_pos (by omega), if_pos (by omega), r1, r2, if_pos hx, hw]
      exact hk
    · rw [decide_eq_false (fun h => hx (by injection h))]
      refine Since.none fun k => ?_
      simp only [QM.slices_Equal_int_int.l0]
      rw [if_pos (by omega), if_pos (by omega), if_pos (by omega), if_pos (by omega), r1, r2, if_neg hx]
theorem equal_ev (l m : List Int) (hb : l.length < 9223372036854775807) : Since (fun k => QM.slices_Equal_int_int.f k l m) (decide (l = m)) := by
  by_cases h : l.length = m.length
  · refine (equal_l0 l m h hb _ 0 rfl (Nat.zero_le _)).map fun k hk => ?_
    unfold QM.slices_Equal_int_int.f
    rw [if_pos (by omega)]
    exact hk
  · rw [decide_eq_false (fun e => h (by rw [e]))]
    refine ⟨0, fun k _ => ?_⟩
    show QM.slices_Equal_int_int.f k l m = some false
    unfold QM.slices_Equal_int_int.f
    rw [if_neg (by omega)]
theorem ringsame_c {w : World} {a b : Ms} {p q : Pl} {r : Bool} (hq : (decide (a.R = b.R) && decide (a.each = b.each ∧ a.keep = b.keep)) = r) (ha : Lies w a p) (hb : Lies w b q) (hR : a.R.length < 9223372036854775807) :
    Calls Tryd.prog 58 #[.agg #[.slice p.rA a.R.length p.rc, .int .i64 a.each, .int .i64 a.keep], .agg #[.slice q.rA b.R.length q.rc, .int .i64 b.each, .int .i64 b.keep]] w fun e w' => e = .returned (.bool r) ∧ Below w.heap.size w w' := by
  obtain ⟨K, hK⟩ := equal_ev a.R b.R hR
  have h := hK K (Nat.le_refl _)
  refine QM.ring_Same.calls K p.rA p.rc a.R a.each a.keep q.rA q.rc b.R b.each b.keep r w ha.r ha.rc hb.r hb.rc ?_
  unfold QM.ring_Same.f
  dsimp only at h
  rw [h, Option.bind_some, ← hq]
  by_cases h1 : a.R = b.R
  · rw [decide_eq_true h1, if_pos rfl, Bool.true_and]
    by_cases h2 : a.each = b.each
    · rw [if_pos h2]
      congr 1
      by_cases h3 : a.keep = b.keep <;> simp [h2, h3]
    · rw [if_neg h2, decide_eq_false (fun h => h2 h.1)]
  · rw [decide_eq_false h1, if_neg (by decide)]; rfl
theorem sameX_c {w : World} {x y : E6} {A B : Option Addr} {d d' : Nat} {r : Bool} (hq : sameX x y = r) (hl : Bytes x.f2.f1) (hm : Bytes y.f2.f1) (hr : Kd.C (Kd.int .u8) w A x.f2.f1.length x.f2.f1) (hc : x.f2.f1.length ≤ d) (hr' : Kd.C (Kd.int .u8) w B y.f2.f1.length y.f2.f1) (hc' : y.f2.f1.length ≤ d') :
    Calls Tryd.prog 39 #[.agg #[.string x.f0, .int .i64 x.f1.f0, .int .i64 x.f1.f1, .int .i64 x.f1.f2, .bool x.f2.f0, .slice A x.f2.f1.length d], .agg #[.string y.f0, .int .i64 y.f1.f0, .int .i64 y.f1.f1, .int .i64 y.f1.f2, .bool y.f2.f0, .slice B y.f2.f1.length d']] w fun e w' => e = .returned (.bool r) ∧ Below w.heap.size w w' :=
  se_c _ _ _ _ _ _ _ _ _ _ hq hl hm hr hc hr' hc'
def c7 (a b : Ms) : Bool := decide (a.kind = b.kind ∧ a.fr = b.fr ∧ a.dst = b.dst ∧ a.ep = b.ep ∧ a.op = b.op ∧ a.n = b.n ∧ a.f = b.f)
theorem sameLs_at : ∀ {l m : List E6} {k : Nat} (h1 : k < l.length) (h2 : k < m.length), sameLs (l.drop k) (m.drop k) = (sameX l[k] m[k] && sameLs (l.drop (k + 1)) (m.drop (k + 1))) := by
  intro l m k h1 h2
  rw [List.drop_eq_getElem_cons h1, List.drop_eq_getElem_cons h2]; rfl
set_option maxHeartbeats 8000000 in
set_option maxRecDepth 100000 in
theorem msame_ {w : World} {a b : Ms} {p q : Pl} (ha : Lies w a p) (hb : Lies w b q) (ea : Bytes a.e.f2.f1) (eb : Bytes b.e.f2.f1) (la : ∀ x ∈ a.L, Bytes x.f2.f1) (lb : ∀ x ∈ b.L, Bytes x.f2.f1) (hR : a.R.length < 9223372036854775807) (hL : a.L.length < 9223372036854775807) :
    Calls Tryd.prog 25 #[.agg (a.val p), .agg (b.val q)] w fun e w' => e = .returned (.bool (sameM a b)) ∧ Below w.heap.size w w' := by
  obtain ⟨vA, vc, lA, lc, rA, rc⟩ := p
  obtain ⟨vB, vd, lB, ld, rB, rd⟩ := q
  have HA := Aside0.mk ha
  have HB := Aside0.mk hb
  have EA := Aside0.mk ea
  have EB := Aside0.mk eb
  have LA := Aside0.mk la
  have LB := Aside0.mk lb
  obtain ⟨bA, bB⟩ := two_blks w (.cells (a.val ⟨vA, vc, lA, lc, rA, rc⟩) 34) (.cells (b.val ⟨vB, vd, lB, ld, rB, rd⟩) 34)
  have BA := Aside0.mk bA
  have BB := Aside0.mk bB
  have H0 := Aside0.mk (below_allocs (Below.refl w.heap.size w) (.cells (a.val ⟨vA, vc, lA, lc, rA, rc⟩) 34) (.cells (b.val ⟨vB, vd, lB, ld, rB, rd⟩) 34))
  clear ha hb ea eb la lb bA bB
  go_enter Tryd.func25, Tryd.ntmps25
  go_upto_region 1 with fail
  generalize (w.alloc (.cells (a.val ⟨vA, vc, lA, lc, rA, rc⟩) 34)).alloc (.cells (b.val ⟨vB, vd, lB, ld, rB, rd⟩) 34) = W at *
  obtain ⟨Y, hY⟩ : ∃ Y, w.heap.size + 1 = Y := ⟨_, rfl⟩
  rw [hY] at BB
  simp only [hY]
  clear hY
  obtain ⟨c0, c1, c2, c3, c4, c5, c6, c7', c8, c9, c10, c11, c12, c13, c14, c15, c16⟩ := ms_cells BA.out
  obtain ⟨d0, d1, d2, d3, d4, d5, d6, d7, d8, d9, d10, d11, d12, d13, d14, d15, d16⟩ := ms_cells BB.out
  go_cut [53] (fun v wc => v = .bool (!c7 a b) ∧ Aside0 (Below W.heap.size W wc))
  case first =>
    as_aux_lemma =>
    go_wp2_with fail
    all_goals go_meet
    all_goals (refine ⟨?_, (by first | exact ⟨Below.refl _ _⟩ | exact ⟨pw_below_drewN (Below.refl _ _) _⟩)⟩; go_light; unfold c7; (simp [*]) <;> (cases a.f <;> cases b.f <;> rfl))
  case rest =>
    obtain ⟨rfl, HW⟩ := hcut
    go_upto_if 53 with fail
    clear c0 c1 c2 c3 c4 c5 c6 c7' c8 c9 c10 c11 c12 c13 c14 c15 c16 d0 d1 d2 d3 d4 d5 d6 d7 d8 d9 d10 d11 d12 d13 d14 d15 d16
    have BA1 := Aside0.mk ((HW.out.block _ (blk_lt BA.out)).trans BA.out)
    have BB1 := Aside0.mk ((HW.out.block _ (blk_lt BB.out)).trans BB.out)
    have H1 := Aside0.mk (below_then H0.out H0.out.size HW.out)
    obtain ⟨s7, h7⟩ : ∃ r, c7 a b = r := ⟨_, rfl⟩
    rw [h7]
    have H7 := Aside0.mk h7
    clear h7 HW BA BB H0
    cases s7
    · as_aux_lemma =>
      go_wp2
      go_ret
      exact ⟨by rw [show sameM a b = false from by unfold sameM; rw [show decide _ = false from H7.out]; rfl]; rfl, H1.out⟩
    · go_upto_region 3 with fail
      obtain ⟨w1, hw1⟩ : ∃ w1, w1 = wc := ⟨_, rfl⟩
      subst hw1
      have HA1 := Aside0.mk (HA.out.below H1.out)
      have HB1 := Aside0.mk (HB.out.below H1.out)
      obtain ⟨sx, hsx⟩ : ∃ r, sameX a.e b.e = r := ⟨_, rfl⟩
      obtain ⟨sr, hsr⟩ : ∃ r, (decide (a.R = b.R) && decide (a.each = b.each ∧ a.keep = b.keep)) = r := ⟨_, rfl⟩
      obtain ⟨sl, hsl⟩ : ∃ r, decide (a.L.length = b.L.length) = r := ⟨_, rfl⟩
      have gl1 : ((a.L.length : Int) != (b.L.length : Int)) = !sl := by
        rw [← hsl]; by_cases h : a.L.length = b.L.length
        · simp [h]
        · have h2 : (a.L.length : Int) ≠ (b.L.length : Int) := by omega
          simp [h, h2]
      have gl2 : (a.L.length != b.L.length) = !sl := by
        rw [← hsl]; by_cases h : a.L.length = b.L.length <;> simp [h]
      have HSX := Aside0.mk hsx
      have HSR := Aside0.mk hsr
      have HSL := Aside0.mk hsl
      clear hsx hsr hsl
      obtain ⟨c0, c1, c2, c3, c4, c5, c6, c7', c8, c9, c10, c11, c12, c13, c14, c15, c16⟩ := ms_cells BA1.out
      obtain ⟨d0, d1, d2, d3, d4, d5, d6, d7, d8, d9, d10, d11, d12, d13, d14, d15, d16⟩ := ms_cells BB1.out
      clear c0 c1 c2 c3 c4 c5 c6 d0 d1 d2 d3 d4 d5 d6
      have HXw := Aside0.mk (Below.refl w1.heap.size w1)
      have HAx := HA1
      have HBx := HB1
      go_cut [76] (fun v wc => v = .bool (!(sx && sl && sr)) ∧ Aside0 (Below w1.heap.size w1 wc))
      case first =>
        as_aux_lemma =>
        go_wp2_with (first
          | (go_at_call 39; (with_reducible refine (sameX_c HSX.out EA.out EB.out HAx.out.v HAx.out.vc HBx.out.v HBx.out.vc).mono ?_); rintro e w2 ⟨rfl, hb⟩; replace HXw := Aside0.mk (below_then HXw.out HXw.out.size hb); replace HAx := Aside0.mk (HAx.out.below hb); replace HBx := Aside0.mk (HBx.out.below hb); replace c13 := pw_cell_below hb c13; replace c14 := pw_cell_below hb c14; replace c15 := pw_cell_below hb c15; replace c16 := pw_cell_below hb c16; replace d13 := pw_cell_below hb d13; replace d14 := pw_cell_below hb d14; replace d15 := pw_cell_below hb d15; replace d16 := pw_cell_below hb d16; clear hb)
          | (go_at_call 58; (with_reducible refine (ringsame_c HSR.out HAx.out HBx.out hR).mono ?_); rintro e w2 ⟨rfl, hb⟩; replace HXw := Aside0.mk (below_then HXw.out HXw.out.size hb); clear hb))
        all_goals go_meet
        all_goals (refine ⟨?_, HXw⟩; go_light; simp [*])
      case rest =>
        obtain ⟨rfl, HW⟩ := hcut
        go_upto_if 76 with fail
        clear c7' c8 c9 c10 c11 c12 c13 c14 c15 c16 d7 d8 d9 d10 d11 d12 d13 d14 d15 d16 gl1 gl2 HXw HAx HBx
        have BA2 := Aside0.mk ((HW.out.block _ (blk_lt BA1.out)).trans BA1.out)
        have BB2 := Aside0.mk ((HW.out.block _ (blk_lt BB1.out)).trans BB1.out)
        have H2 := Aside0.mk (below_then H1.out H1.out.size HW.out)
        have HSM : Aside0 (sameM a b = (sx && (sameLs a.L b.L && sr))) := ⟨by unfold sameM; rw [show decide _ = true from H7.out, Bool.true_and, HSX.out, HSR.out]⟩
        obtain ⟨s, hs⟩ : ∃ r, (!(sx && sl && sr)) = r := ⟨_, rfl⟩
        rw [hs]
        have HS := Aside0.mk hs
        clear hs HW BA1 BB1 H1 HA1 HB1
        cases s
        · have K1 : Aside0 (sx = true ∧ a.L.length = b.L.length ∧ sr = true) := ⟨by
            have h := HS.out
            have h2 := HSL.out
            cases sx <;> cases sl <;> cases sr <;> simp_all⟩
          go_upto_region 5 with fail
          obtain ⟨w2, hw2⟩ : ∃ w2, w2 = wc := ⟨_, rfl⟩
          subst hw2
          obtain ⟨c0, c1, c2, c3, c4, c5, c6, c7', c8, c9, c10, c11, c12, c13, c14, c15, c16⟩ := ms_cells BA2.out
          clear c0 c1 c2 c3 c4 c5 c6 c7' c8 c9 c10 c11 c12 c14 c15 c16
          go_wp2_with fail
          clear c13 HS HSL
          go_loopg [80] a.L.length (fun q v80 w' => ∃ k : Nat, k ≤ a.L.length ∧ v80 = .int .i64 k ∧ q = a.L.length - k ∧ Aside0 (sameLs a.L b.L = sameLs (a.L.drop k) (b.L.drop k)) ∧ Aside0 (Below w2.heap.size w2 w'))
          case atStart => exact ⟨0, Nat.zero_le _, rfl, rfl, ⟨by rw [List.drop_zero, List.drop_zero]⟩, ⟨Below.refl _ _⟩⟩
          case round =>
            obtain ⟨k, hk, rfl, rfl, HD, HW⟩ := hrel
            have hll := K1.out.2.1
            have HSr := Aside0.mk K1.out
            clear K1
            by_cases hlt : k < a.L.length
            · have t2 : decide (k < a.L.length) = true := decide_eq_true hlt
              have hlt2 : k < b.L.length := by omega
              have HLL := Aside0.mk hll
              clear hll
              have BBk := Aside0.mk ((HW.out.block _ (blk_lt BB2.out)).trans BB2.out)
              have HAk := Aside0.mk ((HA.out.below H2.out).below HW.out)
              have HBk := Aside0.mk ((HB.out.below H2.out).below HW.out)
              obtain ⟨ad, A5, a5, rfl, h1, h2, h3, h4, h5, h6, h7, h8⟩ := at_E HAk.out.l k hlt
              obtain ⟨bd, B5, b5, rfl, g1, g2, g3, g4, g5, g6, g7, g8⟩ := at_E HBk.out.l k hlt2
              have HLx := Aside0.mk (LA.out _ (List.getElem_mem hlt))
              have HLy := Aside0.mk (LB.out _ (List.getElem_mem hlt2))
              have HDk : Aside0 (sameLs a.L b.L = (sameX a.L[k] b.L[k] && sameLs (a.L.drop (k + 1)) (b.L.drop (k + 1)))) := ⟨HD.out.trans (sameLs_at hlt hlt2)⟩
              have G7 := Aside0.mk h7
              have G7' := Aside0.mk g7
              obtain ⟨x, hx⟩ : ∃ x, a.L[k] = x := ⟨_, rfl⟩
              obtain ⟨y, hy⟩ : ∃ y, b.L[k] = y := ⟨_, rfl⟩
              rw [hx] at h1 h2 h3 h4 h5 h6 h8 G7 HLx HDk
              rw [hy] at g1 g2 g3 g4 g5 g6 g8 G7' HLy HDk
              obtain ⟨r, hr⟩ : ∃ r, sameX x y = r := ⟨_, rfl⟩
              rw [hr] at HDk
              have HRr := Aside0.mk hr
              have HCx := Aside0.mk (Kd.C_alloc h8 (.cells #[.string x.f0, .int .i64 x.f1.f0, .int .i64 x.f1.f1, .int .i64 x.f1.f2, .bool x.f2.f0, .slice A5 x.f2.f1.length a5] 28))
              have HCy := Aside0.mk (Kd.C_alloc g8 (.cells #[.string x.f0, .int .i64 x.f1.f0, .int .i64 x.f1.f1, .int .i64 x.f1.f2, .bool x.f2.f0, .slice A5 x.f2.f1.length a5] 28))
              have BX := Aside0.mk (blk_new wr (.cells #[.string x.f0, .int .i64 x.f1.f0, .int .i64 x.f1.f1, .int .i64 x.f1.f2, .bool x.f2.f0, .slice A5 x.f2.f1.length a5] 28))
              have BBx := Aside0.mk (blk_alloc BBk.out (.cells #[.string x.f0, .int .i64 x.f1.f0, .int .i64 x.f1.f1, .int .i64 x.f1.f2, .bool x.f2.f0, .slice A5 x.f2.f1.length a5] 28))
              have HWx := Aside0.mk (below_alloc HW.out (.cells #[.string x.f0, .int .i64 x.f1.f0, .int .i64 x.f1.f1, .int .i64 x.f1.f2, .bool x.f2.f0, .slice A5 x.f2.f1.length a5] 28))
              have q1 := Go.Lib.cell?_alloc_some (.cells #[.string x.f0, .int .i64 x.f1.f0, .int .i64 x.f1.f1, .int .i64 x.f1.f2, .bool x.f2.f0, .slice A5 x.f2.f1.length a5] 28) g1
              have q2 := Go.Lib.cell?_alloc_some (.cells #[.string x.f0, .int .i64 x.f1.f0, .int .i64 x.f1.f1, .int .i64 x.f1.f2, .bool x.f2.f0, .slice A5 x.f2.f1.length a5] 28) g2
              have q3 := Go.Lib.cell?_alloc_some (.cells #[.string x.f0, .int .i64 x.f1.f0, .int .i64 x.f1.f1, .int .i64 x.f1.f2, .bool x.f2.f0, .slice A5 x.f2.f1.length a5] 28) g3
              have q4 := Go.Lib.cell?_alloc_some (.cells #[.string x.f0, .int .i64 x.f1.f0, .int .i64 x.f1.f1, .int .i64 x.f1.f2, .bool x.f2.f0, .slice A5 x.f2.f1.length a5] 28) g4
              have q5 := Go.Lib.cell?_alloc_some (.cells #[.string x.f0, .int .i64 x.f1.f0, .int .i64 x.f1.f1, .int .i64 x.f1.f2, .bool x.f2.f0, .slice A5 x.f2.f1.length a5] 28) g5
              have q6 := Go.Lib.cell?_alloc_some (.cells #[.string x.f0, .int .i64 x.f1.f0, .int .i64 x.f1.f1, .int .i64 x.f1.f2, .bool x.f2.f0, .slice A5 x.f2.f1.length a5] 28) g6
              clear h8 h7 g7 g8 hx hy hr HD HAk HBk g1 g2 g3 g4 g5 g6 BBk
              go_upto_region 8 with fail
              clear h1 h2 h3 h4 h5 h6 HW
              obtain ⟨X, hX2⟩ : ∃ g, wr.heap.size = g := ⟨_, rfl⟩
              rw [hX2] at BX
              simp only [hX2]
              generalize wr.alloc (.cells #[.string x.f0, .int .i64 x.f1.f0, .int .i64 x.f1.f1, .int .i64 x.f1.f2, .bool x.f2.f0, .slice A5 x.f2.f1.length a5] 28) = w6 at *
              clear hX2
              obtain ⟨e0, e1, e2, e3, e4, e5⟩ := en_cells BX.out
              have d13 := (blk_cell BBx.out 13).trans (show _ = some (Value.slice (some bd) b.L.length ld) from rfl)
              have i0 : (0 : Int) ≤ (k : Int) := by omega
              have i1 : (k : Int) < (b.L.length : Int) := by omega
              go_region_law ((try go_simp); go_at_call 39; (with_reducible refine (sameX_c HRr.out HLx.out HLy.out ?b1 G7.out ?b2 G7'.out).mono ?_); (case b1 => first | exact Kd.C_below HCx.out (below_drew (Below.refl _ _)) | exact HCx.out); (case b2 => first | exact Kd.C_below HCy.out (below_drew (Below.refl _ _)) | exact HCy.out); rintro z w7 ⟨rfl, hb⟩; have HW7 : Aside0 (Below w2.heap.size w2 w7) := ⟨by first | exact below_then HWx.out HWx.out.size hb | exact below_then (below_drew HWx.out) (below_drew HWx.out).size hb⟩; clear hb)
              all_goals
                cases r
                · go_wp2_with fail
                  go_ret
                  exact ⟨by rw [HSM.out, HDk.out, Bool.false_and, Bool.false_and, Bool.and_false]; rfl, below_then H2.out H2.out.size HW7.out⟩
                · go_wp2_with fail
                  go_roundg (a.L.length - (k + 1))
                  case measure => omega
                  case rel => exact ⟨k + 1, by omega, by go_num, rfl, ⟨by rw [HDk.out, Bool.true_and]⟩, HW7⟩
            · have t2 : decide (k < a.L.length) = false := decide_eq_false hlt
              go_wp2_with fail
              go_ret
              refine ⟨?_, below_then H2.out H2.out.size HW.out⟩
              rw [HSM.out, HD.out, List.drop_eq_nil_of_le (by omega), List.drop_eq_nil_of_le (by omega), HSr.out.1, HSr.out.2.2]
              rfl
        · as_aux_lemma =>
          go_wp2
          go_ret
          refine ⟨?_, H2.out⟩
          have h := HS.out
          have h2 := HSL.out
          rw [HSM.out]
          cases sx
          · rfl
          · cases sl
            · rw [sameLs_ne (by simpa using h2)]; rfl
            · cases sr
              · rw [Bool.and_false, Bool.and_false]; rfl
              · simp at h
end Go.Proofs.YthaoiamgkpkcbaaDoor.Ms
namespace Go.Proofs.YthaoiamgkpkcbaaDoor.Ms
open Go.ChangeShapes Go.WideShapes Go.ChangeAt Go.RowKit Go.Proofs.YthaoiamgkpkcbaaDoor.Pk Go.Proofs.YthaoiamgkpkcbaaDoor.Tg Go.Proofs.YthaoiamgkpkcbaaDoor.Enc Go.Proofs.YthaoiamgkpkcbaaDoor.EncC Go.Proofs.YthaoiamgkpkcbaaDoor.EncP
open Go.Proofs.YthaoiamgkpkcbaaDoor.Hlp Go.Proofs.YthaoiamgkpkcbaaDoor.Wrd Go.Proofs.YthaoiamgkpkcbaaDoor.Lex Go.Proofs.YthaoiamgkpkcbaaDoorW.PrintWords Go.Proofs.YthaoiamgkpkcbaaDoorW.PrintLast Go.Proofs.YthaoiamgkpkcbaaDoorW.PrintMore
set_option linter.unusedVariables false
set_option linter.unusedSimpArgs false
/-- a message's block, and that all else stands -/
structure Cb (w W : World) (M : Nat) (m : Ms) (vE vL vR : Value) : Prop where
  blk : W.heap[M]? = some (.cells (cellsG m vE vL vR) 34 (0, 0))
  up : Kg w W M M
  lt : M < w.heap.size
section
variable {w W W1 : World} {M : Nat} {m m' : Ms} {vE vL vR vE' vL' vR' : Value}
theorem Cb.below (h : Cb w W M m vE vL vR) (hb : Below W.heap.size W W1) : Cb w W1 M m vE vL vR :=
  ⟨(hb.block M (blk_lt h.blk)).trans h.blk, h.up.grown (grown_of_below hb none) (fun q hq => by cases hq), h.lt⟩
theorem Cb.put (h : Cb w W M m vE vL vR) (i : Nat) (u : Value) (hc : (cellsG m vE vL vR).setIfInBounds i u = cellsG m' vE' vL' vR') : Cb w (W.setCell ⟨M, i, none⟩ u) M m' vE' vL' vR' :=
  ⟨by rw [blk_set h.blk, hc], h.up.grown (upd_set W M i u) (fun q hq => by injection hq with hq; exact .inl hq.symm), h.lt⟩
theorem Cb.grow (h : Cb w W M m vE vL vR) {row : Option Nat} (hg : W.grownBy W1 row) (hrow : ∀ q : Nat, row = some q → w.heap.size ≤ q) : Cb w W1 M m vE vL vR :=
  ⟨(hg.block M (blk_lt h.blk) (fun e => by have := hrow M e.symm; have := h.lt; omega)).trans h.blk, h.up.grown hg (fun q hq => .inr (.inr (hrow q hq))), h.lt⟩
theorem Cb.putE (x : E6) {v : Value} (h : Cb w W M m vE vL vR) : Cb w (putX W M x v) M { m with e := x } v vL vR := by
  have h1 := h.put (m' := { m with e := ⟨x.f0, m.e.f1, m.e.f2⟩ }) (vE' := vE) (vL' := vL) (vR' := vR) 7 (.string x.f0) rfl
  have h2 := h1.put (m' := { m with e := ⟨x.f0, ⟨x.f1.f0, m.e.f1.f1, m.e.f1.f2⟩, m.e.f2⟩ }) (vE' := vE) (vL' := vL) (vR' := vR) 8 (.int .i64 x.f1.f0) rfl
  have h3 := h2.put (m' := { m with e := ⟨x.f0, ⟨x.f1.f0, x.f1.f1, m.e.f1.f2⟩, m.e.f2⟩ }) (vE' := vE) (vL' := vL) (vR' := vR) 9 (.int .i64 x.f1.f1) rfl
  have h4 := h3.put (m' := { m with e := ⟨x.f0, x.f1, m.e.f2⟩ }) (vE' := vE) (vL' := vL) (vR' := vR) 10 (.int .i64 x.f1.f2) rfl
  have h5 := h4.put (m' := { m with e := ⟨x.f0, x.f1, ⟨x.f2.f0, m.e.f2.f1⟩⟩ }) (vE' := vE) (vL' := vL) (vR' := vR) 11 (.bool x.f2.f0) rfl
  exact h5.put (m' := { m with e := x }) (vE' := v) (vL' := vL) (vR' := vR) 12 v rfl
theorem putX_R {α : Type} {d : Kd α} {e base : Nat} {v u : Value} {xs : List α} (x : E6) (h : d.R e W base (fun _ => True) v xs) (hM : M < base) : d.R e (putX W M x u) base (fun _ => True) v xs :=
  R_farg (R_farg (R_farg (R_farg (R_farg (R_farg h hM 7 (.string x.f0)) hM 8 (.int .i64 x.f1.f0)) hM 9 (.int .i64 x.f1.f1)) hM 10 (.int .i64 x.f1.f2)) hM 11 (.bool x.f2.f0)) hM 12 u
theorem Cb.out0 {w0 : World} (h : Cb w W M m vE vL vR) (h0 : Below w0.heap.size w0 w) (hM : w0.heap.size ≤ M) : Below w0.heap.size w0 W :=
  ⟨h.up.os.trans h0.os, h.up.tape.trans h0.tape, h.up.output.trans h0.output, Nat.le_trans h0.size h.up.size, fun k hk => (h.up.block k (Nat.lt_of_lt_of_le hk h0.size) (by omega) (by omega)).trans (h0.block k hk)⟩
end
theorem ownR {α : Type} {d : Kd α} {e : Nat} {W : World} {base : Nat} {ok : Nat → Prop} {v : Value} {xs : List α} (h : d.R e W base ok v xs) : ∀ q : Nat, v.ownBlock = some q → base ≤ q := fun q hq => Kd.R_base h q hq
/-- the same, with the rows that are the call's own by now -/
structure Ck (w W : World) (M : Nat) (m : Ms) (L : List E6) (vE vL vR : Value) : Prop where
  cb : Cb w W M { m with L := L } vE vL vR
  rE : Kd.R (Kd.int .u8) 5 W w.heap.size (fun _ => True) vE m.e.f2.f1
  rL : Kd.R kE 28 W w.heap.size (fun _ => True) vL L
theorem Ck.below {w W W1 : World} {M : Nat} {m : Ms} {L : List E6} {vE vL vR : Value} (h : Ck w W M m L vE vL vR) (hb : Below W.heap.size W W1) : Ck w W1 M m L vE vL vR :=
  ⟨h.cb.below hb, Kd.R_below h.rE hb, Kd.R_below h.rL hb⟩
theorem ck_copy {w W : World} {M : Nat} {m : Ms} {L : List E6} {vE vL vR : Value} {x : E6} {A : Option Addr} {d : Nat} (h : Ck w W M m L vE vL vR) (hx : Kd.C (Kd.int .u8) W A x.f2.f1.length x.f2.f1) (hd : x.f2.f1.length ≤ d) (hl : x.f2.f1.length ≤ 140737488351232) :
    Calls Tryd.prog 57 #[.agg #[.string x.f0, .int .i64 x.f1.f0, .int .i64 x.f1.f1, .int .i64 x.f1.f2, .bool x.f2.f0, .slice A x.f2.f1.length d]] W fun y w' => ∃ A2 c, y = .returned (.agg #[.string x.f0, .int .i64 x.f1.f0, .int .i64 x.f1.f1, .int .i64 x.f1.f2, .bool x.f2.f0, .slice A2 x.f2.f1.length c]) ∧ Kd.R (Kd.int .u8) 5 w' w.heap.size (fun k => W.heap.size ≤ k) (.slice A2 x.f2.f1.length c) x.f2.f1 ∧ Ck w w' M m L vE vL vR := by
  refine (copy_ _ _ _ _ _ hx hd hl).mono ?_
  rintro y w' ⟨A2, c, rfl, hR, hb⟩
  exact ⟨A2, c, rfl, Kd.R_lower (Kd.R_mono (Kd.R_bound hR) (fun k hk => hk.2.1)) h.cb.up.size, h.below hb⟩
theorem Ck.putL {w W W1 : World} {M : Nat} {m : Ms} {L L' : List E6} {vE vL vR v1 : Value} (h : Ck w W M m L vE vL vR) (hR : Kd.R kE 28 W1 w.heap.size (fun _ => True) v1 L') (hg : W.grownBy W1 vL.ownBlock) : Ck w (W1.setCell ⟨M, 13, none⟩ v1) M m L' vE v1 vR := by
  have hb := h.cb.grow hg (ownR h.rL)
  have hE := Kd.R_over h.rE h.rL (by
    intro q hq
    rcases List.mem_cons.1 hq with rfl | hq
    · decide
    · cases hq) hg
  exact ⟨hb.put 13 v1 rfl, R_farg hE hb.lt 13 v1, R_farg hR hb.lt 13 v1⟩
set_option maxHeartbeats 8000000 in
set_option maxRecDepth 100000 in
theorem copyM_ {w : World} {m : Ms} {p : Pl} (hm : Lies w m p) (hE : m.e.f2.f1.length ≤ 140737488351232) (hX : ∀ x ∈ m.L, x.f2.f1.length ≤ 140737488351232) (hL : m.L.length ≤ 1954687338213) (hR : m.R.length ≤ 17592186043904) :
    Calls Tryd.prog 24 #[.agg (m.val p)] w fun e w' => ∃ q : Pl, e = .returned (.agg (m.val q)) ∧ Own w' w.heap.size m q ∧ Below w.heap.size w w' := by
  obtain ⟨vA, vc, lA, lc, rA, rc⟩ := p
  have HM := Aside0.mk hm
  obtain ⟨bM, bP⟩ := two_blks w (.cells (m.val ⟨vA, vc, lA, lc, rA, rc⟩) 34) (.cells zMs 34)
  have HB0 := Aside0.mk (below_allocs (Below.refl w.heap.size w) (.cells (m.val ⟨vA, vc, lA, lc, rA, rc⟩) 34) (.cells zMs 34))
  have HS0 : Aside0 (((w.alloc (.cells (m.val ⟨vA, vc, lA, lc, rA, rc⟩) 34)).alloc (.cells zMs 34)).heap.size = w.heap.size + 2) := ⟨by rw [size1, size1]⟩
  have BM := Aside0.mk bM
  have BP := Aside0.mk bP
  clear hm bM bP
  go_enter Tryd.func24, Tryd.ntmps24
  go_upto_region 1 with fail
  generalize (w.alloc (.cells (m.val ⟨vA, vc, lA, lc, rA, rc⟩) 34)).alloc (.cells zMs 34) = W at *
  obtain ⟨c0, c1, c2, c3, c4, c5, c6, c7, c8, c9, c10, c11, c12, c13, c14, c15, c16⟩ := ms_cells BM.out
  have HCb : Aside0 (Cb W W w.heap.size m (.slice vA m.e.f2.f1.length vc) (.slice lA m.L.length lc) (.slice rA m.R.length rc)) := ⟨⟨BM.out, Kg.refl _ _ _, by have := HS0.out; omega⟩⟩
  have HlM : w.heap.size < W.heap.size := by have := HS0.out; omega
  have HLM := Aside0.mk HlM
  clear HlM
  go_upto_region 2 with (go_at_call 57; (with_reducible refine (copy_ _ _ _ _ _ (HM.out.below HB0.out).v HM.out.vc hE).mono ?_); rintro y w1 ⟨A2, d2, rfl, hO, hb⟩; have HC1 := Aside0.mk (HCb.out.below hb); have HO := Aside0.mk (Kd.R_mono hO (fun _ _ => trivial)); have HMw := Aside0.mk ((HM.out.below HB0.out).below hb); have HBP1 := Aside0.mk (blk_below BP.out hb); clear hb hO c0 c1 c2 c3 c4 c5 c6 c7 c8 c9 c10 c11 c12 c13 c14 c15 c16; have o7 := (blk_cell HC1.out.blk 7).trans (show _ = some (Value.string m.e.f0) from rfl); have f7 := blk_frozen HC1.out.blk 7; have o8 := (blk_cell HC1.out.blk 8).trans (show _ = some (Value.int .i64 m.e.f1.f0) from rfl); have f8 := blk_frozen HC1.out.blk 8; have o9 := (blk_cell HC1.out.blk 9).trans (show _ = some (Value.int .i64 m.e.f1.f1) from rfl); have f9 := blk_frozen HC1.out.blk 9; have o10 := (blk_cell HC1.out.blk 10).trans (show _ = some (Value.int .i64 m.e.f1.f2) from rfl); have f10 := blk_frozen HC1.out.blk 10; have o11 := (blk_cell HC1.out.blk 11).trans (show _ = some (Value.bool m.e.f2.f0) from rfl); have f11 := blk_frozen HC1.out.blk 11; have o12 := (blk_cell HC1.out.blk 12).trans (show _ = some (Value.slice vA m.e.f2.f1.length vc) from rfl); have f12 := blk_frozen HC1.out.blk 12)
  have HC2 : Aside0 (Cb W ((((((w1.setCell ⟨w.heap.size, 7, none⟩ (.string m.e.f0)).setCell ⟨w.heap.size, 8, none⟩ (.int .i64 m.e.f1.f0)).setCell ⟨w.heap.size, 9, none⟩ (.int .i64 m.e.f1.f1)).setCell ⟨w.heap.size, 10, none⟩ (.int .i64 m.e.f1.f2)).setCell ⟨w.heap.size, 11, none⟩ (.bool m.e.f2.f0)).setCell ⟨w.heap.size, 12, none⟩ (.slice A2 m.e.f2.f1.length d2)) w.heap.size m (.slice A2 m.e.f2.f1.length d2) (.slice lA m.L.length lc) (.slice rA m.R.length rc)) := ⟨HC1.out.putE m.e⟩
  have HE2 : Aside0 (Kd.R (Kd.int .u8) 5 ((((((w1.setCell ⟨w.heap.size, 7, none⟩ (.string m.e.f0)).setCell ⟨w.heap.size, 8, none⟩ (.int .i64 m.e.f1.f0)).setCell ⟨w.heap.size, 9, none⟩ (.int .i64 m.e.f1.f1)).setCell ⟨w.heap.size, 10, none⟩ (.int .i64 m.e.f1.f2)).setCell ⟨w.heap.size, 11, none⟩ (.bool m.e.f2.f0)).setCell ⟨w.heap.size, 12, none⟩ (.slice A2 m.e.f2.f1.length d2)) W.heap.size (fun _ => True) (.slice A2 m.e.f2.f1.length d2) m.e.f2.f1) := ⟨putX_R m.e HO.out HLM.out⟩
  have HP2 : Aside0 (((((((w1.setCell ⟨w.heap.size, 7, none⟩ (.string m.e.f0)).setCell ⟨w.heap.size, 8, none⟩ (.int .i64 m.e.f1.f0)).setCell ⟨w.heap.size, 9, none⟩ (.int .i64 m.e.f1.f1)).setCell ⟨w.heap.size, 10, none⟩ (.int .i64 m.e.f1.f2)).setCell ⟨w.heap.size, 11, none⟩ (.bool m.e.f2.f0)).setCell ⟨w.heap.size, 12, none⟩ (.slice A2 m.e.f2.f1.length d2)).heap[w.heap.size + 1]? = some (.cells zMs 34 (0, 0))) := ⟨(HC1.out.putE m.e (v := .slice A2 m.e.f2.f1.length d2)).up.block (w.heap.size + 1) (by have := HS0.out; omega) (by omega) (by omega) |>.trans BP.out⟩
  generalize ((((((w1.setCell ⟨w.heap.size, 7, none⟩ (.string m.e.f0)).setCell ⟨w.heap.size, 8, none⟩ (.int .i64 m.e.f1.f0)).setCell ⟨w.heap.size, 9, none⟩ (.int .i64 m.e.f1.f1)).setCell ⟨w.heap.size, 10, none⟩ (.int .i64 m.e.f1.f2)).setCell ⟨w.heap.size, 11, none⟩ (.bool m.e.f2.f0)).setCell ⟨w.heap.size, 12, none⟩ (.slice A2 m.e.f2.f1.length d2)) = w2 at *
  clear o7 o8 o9 o10 o11 o12 f7 f8 f9 f10 f11 f12 HC1 HCb HMw HBP1 HO
  have o13 := (blk_cell HC2.out.blk 13).trans (show _ = some (Value.slice lA m.L.length lc) from rfl)
  have f13 := blk_frozen HC2.out.blk 13
  have HC3 : Aside0 (Cb W (w2.setCell ⟨w.heap.size, 13, none⟩ (.slice none 0 0)) w.heap.size { m with L := [] } (.slice A2 m.e.f2.f1.length d2) (.slice none 0 0) (.slice rA m.R.length rc)) := ⟨HC2.out.put 13 (.slice none 0 0) rfl⟩
  have HE3 : Aside0 (Kd.R (Kd.int .u8) 5 (w2.setCell ⟨w.heap.size, 13, none⟩ (.slice none 0 0)) W.heap.size (fun _ => True) (.slice A2 m.e.f2.f1.length d2) m.e.f2.f1) := ⟨R_farg HE2.out HLM.out _ _⟩
  go_wp2_with fail
  generalize w2.setCell ⟨w.heap.size, 13, none⟩ (.slice none 0 0) = w3 at *
  clear o13 f13 HC2 HE2 HP2
  go_loopg [15] m.L.length (fun q v15 w' => ∃ (k : Nat) (vL : Value), k ≤ m.L.length ∧ v15 = .int .i64 k ∧ q = m.L.length - k ∧ Aside0 (Ck W w' w.heap.size m (m.L.take k) (.slice A2 m.e.f2.f1.length d2) vL (.slice rA m.R.length rc)))
  case atStart => exact ⟨0, .slice none 0 0, Nat.zero_le _, rfl, rfl, ⟨⟨HC3.out, HE3.out, Kd.R_nil _ _ _ _ _⟩⟩⟩
  case round =>
    obtain ⟨k, vLk, hk, rfl, rfl, HSj⟩ := hrel
    by_cases hlt : k < m.L.length
    · have t2 : decide (k < m.L.length) = true := decide_eq_true hlt
      have HMk := Aside0.mk (HM.out.below (HSj.out.cb.out0 HB0.out (Nat.le_refl _)))
      obtain ⟨ad, A5, d5, rfl, h1, h2, h3, h4, h5, h6, h7, h8⟩ := at_E HMk.out.l k hlt
      have HXl : Aside0 (m.L[k].f2.f1.length ≤ 140737488351232) := ⟨hX _ (List.getElem_mem hlt)⟩
      have HTk : Aside0 (m.L.take (k + 1) = m.L.take k ++ [m.L[k]]) := ⟨List.take_succ_eq_append_getElem hlt⟩
      have HLl : Aside0 ((m.L.take k).length ≤ 1954687338213) := ⟨by rw [List.length_take]; omega⟩
      have HTl : Aside0 ((m.L.take k).length = k) := ⟨by rw [List.length_take]; omega⟩
      have H7 := Aside0.mk h7
      obtain ⟨x, hx⟩ : ∃ x, m.L[k] = x := ⟨_, rfl⟩
      rw [hx] at h1 h2 h3 h4 h5 h6 h8 H7 HXl HTk
      have HC := Aside0.mk (Kd.C_alloc h8 (.cells #[.string x.f0, .int .i64 x.f1.f0, .int .i64 x.f1.f1, .int .i64 x.f1.f2, .bool x.f2.f0, .slice A5 x.f2.f1.length d5] 28))
      have BX := Aside0.mk (blk_new wr (.cells #[.string x.f0, .int .i64 x.f1.f0, .int .i64 x.f1.f1, .int .i64 x.f1.f2, .bool x.f2.f0, .slice A5 x.f2.f1.length d5] 28))
      have HSk := Aside0.mk (HSj.out.below (below_alloc (Below.refl wr.heap.size wr) (.cells #[.string x.f0, .int .i64 x.f1.f0, .int .i64 x.f1.f1, .int .i64 x.f1.f2, .bool x.f2.f0, .slice A5 x.f2.f1.length d5] 28)))
      clear h8 h7 hx HMk
      go_upto_region 7 with fail
      clear h1 h2 h3 h4 h5 h6 HSj
      obtain ⟨X, hX2⟩ : ∃ g, wr.heap.size = g := ⟨_, rfl⟩
      rw [hX2] at BX
      simp only [hX2]
      generalize wr.alloc (.cells #[.string x.f0, .int .i64 x.f1.f0, .int .i64 x.f1.f1, .int .i64 x.f1.f2, .bool x.f2.f0, .slice A5 x.f2.f1.length d5] 28) = w6 at *
      clear hX2
      obtain ⟨AL, cL, evl⟩ := Kd.R_slice HSk.out.rL
      subst evl
      rw [HTl.out] at HSk
      obtain ⟨e0, e1, e2, e3, e4, e5⟩ := en_cells BX.out
      have o13 := (blk_cell HSk.out.cb.blk 13).trans (show _ = some (Value.slice AL k cL) from rfl)
      have f13 := blk_frozen HSk.out.cb.blk 13
      have HOL : Aside0 (∀ q, (Value.slice AL k cL).ownBlock = some q → q < w6.heap.size) := ⟨fun q hq => ((Kd.R_bound HSk.out.rL).1 q hq).2.2.1⟩
      go_region_law (first
        | ((try go_simp); go_at_call 57; (with_reducible refine (ck_copy (w := W) (M := w.heap.size) (m := m) (L := m.L.take k) (vE := .slice A2 m.e.f2.f1.length d2) (vL := .slice AL k cL) (vR := .slice rA m.R.length rc) (x := x) ?b1 ?b2 H7.out HXl.out).mono ?_); (case b1 => first | exact HSk.out.below (below_drew (Below.refl _ _)) | exact HSk.out); (case b2 => first | exact Kd.C_below HC.out (below_drew (Below.refl _ _)) | exact HC.out); rintro y w7 ⟨A, c, rfl, hR7, hs⟩; have HS7 := Aside0.mk hs; have HR7 : Aside0 (Kd.R (Kd.int .u8) 5 w7 W.heap.size (fun k => w6.heap.size ≤ k) (.slice A x.f2.f1.length c) x.f2.f1) := ⟨hR7⟩; clear hs hR7; have o7 := (blk_cell HS7.out.cb.blk 13).trans (show _ = some (Value.slice AL k cL) from rfl); have o3 := Go.Lib.cell?_alloc_some (.cells #[.string x.f0, .int .i64 x.f1.f0, .int .i64 x.f1.f1, .int .i64 x.f1.f2, .bool x.f2.f0, .slice A x.f2.f1.length c] 28) o7)
        | (refine Kd.R_append_step kE W.heap.size (by rfl) _ _ 29 28 (.agg #[.string ⟨#[]⟩, .int .i64 0, .int .i64 0, .int .i64 0, .bool false, .slice none 0 0]) 72 (by rfl) Tryd.underlying29 infoE rfl (by decide) (by omega) (.slice AL k cL) (m.L.take k) x [.string x.f0, .int .i64 x.f1.f0, .int .i64 x.f1.f1, .int .i64 x.f1.f2, .bool x.f2.f0, .slice A x.f2.f1.length c] (fun _ => True) (fun k => w6.heap.size ≤ k) (by rfl) (by rfl) (QL.k28_mkM w7 W.heap.size _ x HR7.out) (fun k hk => ⟨trivial, fun e => by have := HOL.out k e.symm; omega⟩) (fun _ _ => trivial) HS7.out.rL (Below.refl _ _) HS7.out.cb.up.size ?a4 ?_; (case a4 => have := HLl.out; omega); intro v1 w8 ho hb4 hgr hat; have HR8 := Aside0.mk ho; have HG8 := Aside0.mk hgr; have HB8 := Aside0.mk (HS7.out.cb.grow hgr (ownR HS7.out.rL)).blk; have y0 := (blk_cell HB8.out 13).trans (show _ = some (Value.slice AL k cL) from rfl); have y1 := blk_frozen HB8.out 13; obtain ⟨A8, c8, e8⟩ := Kd.R_slice ho; subst e8; clear ho hgr hat hb4))
      all_goals
        go_wp2_with fail
        go_roundg (m.L.length - (k + 1))
        case measure => omega
        case rel =>
          refine ⟨k + 1, .slice A8 (k + 1) c8, by omega, by go_num, rfl, ⟨?_⟩⟩
          rw [HTk.out]
          have hq := HS7.out.putL HR8.out HG8.out
          simpa [HTl.out] using hq
    · have t2 : decide (k < m.L.length) = false := decide_eq_false hlt
      obtain rfl : k = m.L.length := by omega
      rw [List.take_length] at HSj
      obtain ⟨AL, cL, evl⟩ := Kd.R_slice HSj.out.rL
      subst evl
      have HMk := Aside0.mk (HM.out.below (HSj.out.cb.out0 HB0.out (Nat.le_refl _)))
      have HRr := Aside0.mk HMk.out.r
      have o14 := (blk_cell HSj.out.cb.blk 14).trans (show _ = some (Value.slice rA m.R.length rc) from rfl)
      go_upto_region 10 with ((with_reducible refine gate_builtin (b := .append) rfl ?_); at_builtin; refine Kd.R_append_rows (Kd.int .i64) (w0 := wr) wr.heap.size rfl _ _ 30 3 (.int .i64 0) 8 rfl Tryd.underlying30 infoI rfl (by decide) (by omega) (.slice none 0 0) [] m.R _ _ _ (fun _ => True) (fun _ => False) rfl rfl (Kd.R_nil _ _ _ _ _) HRr.out (fun _ _ h => h) (fun _ h => h.elim) (fun _ _ => trivial) (Below.refl _ _) (Nat.le_refl _) (by simp; omega) ?_; intro v1 w1 ho hb1 hg hat; rw [List.nil_append] at ho; obtain ⟨A1, c1, rfl⟩ := Kd.R_slice ho; have HO1 := Aside0.mk ho; have HS1 := Aside0.mk (HSj.out.below hb1); have HZ1 := Aside0.mk (HSj.out.cb.up.size); clear ho hb1 hg hat o14; have o14 := (blk_cell HS1.out.cb.blk 14).trans (show _ = some (Value.slice rA m.R.length rc) from rfl); have f14 := blk_frozen HS1.out.cb.blk 14)
      have HC9 := Aside0.mk (HS1.out.cb.put (m' := m) (vE' := .slice A2 m.e.f2.f1.length d2) (vL' := .slice AL m.L.length cL) (vR' := .slice A1 m.R.length c1) 14 (.slice A1 m.R.length c1) rfl)
      have HO9 : Aside0 (Own (w1.setCell ⟨w.heap.size, 14, none⟩ (.slice A1 m.R.length c1)) W.heap.size m ⟨A2, d2, AL, cL, A1, c1⟩) := ⟨⟨R_farg HS1.out.rE HLM.out _ _, R_farg HS1.out.rL HLM.out _ _, R_farg (Kd.R_lower HO1.out HZ1.out) HLM.out _ _⟩⟩
      have HP9 : Aside0 ((w1.setCell ⟨w.heap.size, 14, none⟩ (.slice A1 m.R.length c1)).heap[w.heap.size + 1]? = some (.cells zMs 34 (0, 0))) := ⟨(HC9.out.up.block (w.heap.size + 1) (by have := HS0.out; omega) (by omega) (by omega)).trans BP.out⟩
      have HB9 := Aside0.mk (HC9.out.out0 HB0.out (Nat.le_refl _))
      generalize w1.setCell ⟨w.heap.size, 14, none⟩ (.slice A1 m.R.length c1) = w10 at *
      clear o14 f14 HS1 HO1 HSj HMk HRr
      have HM9 : Aside0 (w10.heap[w.heap.size]? = some (.cells (m.val ⟨A2, d2, AL, cL, A1, c1⟩) 34 (0, 0))) := ⟨HC9.out.blk⟩
      go_wp2_with (first
        | (refine wpList_load_row rfl 34 (.tmp 1) rfl w.heap.size rfl 34 (m.val ⟨A2, d2, AL, cL, A1, c1⟩) (0, 0) _ HM9.out Tryd.underlying34 rfl (by kernel_rfl) ?_)
        | (refine wpList_store_row rfl 34 (.tmp 2) (.tmp 33) rfl (w.heap.size + 1) (m.val ⟨A2, d2, AL, cL, A1, c1⟩) rfl rfl 34 zMs HP9.out (by kernel_rfl) rfl (val_one m _) ?_))
      refine bodyPost_ret (results_cell_row rfl _ _ (w.heap.size + 1) 34 _ (0, 0) _ rfl (setRow_heap _ _ _ _ _ _ HP9.out) Tryd.underlying34 rfl (by kernel_rfl)) rfl ?_
      exact ⟨⟨A2, d2, AL, cL, A1, c1⟩, rfl, (HO9.out.far (fun k hk _ => setRow_other _ _ _ _ (by have := HS0.out; omega))).lower HB0.out.size, below_setRow HB9.out (Nat.le_succ _) _⟩
end Go.Proofs.YthaoiamgkpkcbaaDoor.Ms
namespace Go.Proofs.YthaoiamgkpkcbaaDoor.Ms
open Go.ChangeShapes Go.WideShapes Go.ChangeAt Go.RowKit Go.Proofs.YthaoiamgkpkcbaaDoor.Pk Go.Proofs.YthaoiamgkpkcbaaDoor.Tg Go.Proofs.YthaoiamgkpkcbaaDoor.Enc Go.Proofs.YthaoiamgkpkcbaaDoor.EncC Go.Proofs.YthaoiamgkpkcbaaDoor.EncP
open Go.Proofs.YthaoiamgkpkcbaaDoor.Hlp Go.Proofs.YthaoiamgkpkcbaaDoor.Wrd Go.Proofs.YthaoiamgkpkcbaaDoor.Lex Go.Proofs.YthaoiamgkpkcbaaDoorW.PrintWords Go.Proofs.YthaoiamgkpkcbaaDoorW.PrintLast Go.Proofs.YthaoiamgkpkcbaaDoorW.PrintMore
set_option linter.unusedVariables false
set_option linter.unusedSimpArgs false
set_option maxHeartbeats 4000000 in
set_option maxRecDepth 100000 in
theorem rback_c {w : World} {m : Ms} {p : Pl} (k : Int) : Calls Tryd.prog 26 #[.agg (m.val p), .int .i64 k] w fun e w' => e = .returned (.agg ((backM m k).val nP)) ∧ Below w.heap.size w w' := by
  obtain ⟨b0, b1, b2⟩ := three_blks w (.cells (m.val p) 34) (.cells zMs 34) (.cells (bkC m k ⟨#[]⟩) 34)
  obtain ⟨d0, d1⟩ := two_blks w (.cells (m.val p) 34) (.cells zMs 34)
  have HB := Aside0.mk (below_alloc (below_allocs (Below.refl w.heap.size w) (.cells (m.val p) 34) (.cells zMs 34)) (.cells (bkC m k ⟨#[]⟩) 34))
  have B0 := Aside0.mk b0
  have B1 := Aside0.mk b1
  have B2 := Aside0.mk b2
  have D0 := Aside0.mk d0
  have HZ : Aside0 (((w.alloc (.cells (m.val p) 34)).alloc (.cells zMs 34)).heap.size = w.heap.size + 1 + 1) := ⟨by rw [size1, size1]⟩
  clear b0 b1 b2 d0 d1
  obtain ⟨be, hb⟩ : ∃ b, (hasV k).e = b := ⟨_, rfl⟩
  have HH := Aside0.mk hb
  have HM : Aside0 (backM m k = ⟨k, m.dst, m.fr, m.ep, m.op, 0, false, backE be m.e.f0, [], [], 0, 0⟩) := ⟨by unfold backM; rw [hb]⟩
  clear hb
  go_enter Tryd.func26, Tryd.ntmps26
  go_upto_region 1 with fail
  have e1 := (blk_cell D0.out 1).trans (show _ = some (Value.int .i64 m.fr) from rfl)
  have e2 := (blk_cell D0.out 2).trans (show _ = some (Value.int .i64 m.dst) from rfl)
  have e3 := (blk_cell D0.out 3).trans (show _ = some (Value.int .i64 m.ep) from rfl)
  have e4 := (blk_cell D0.out 4).trans (show _ = some (Value.int .i64 m.op) from rfl)
  go_upto_region 2 with fail
  generalize ((w.alloc (.cells (m.val p) 34)).alloc (.cells zMs 34)).alloc (.cells (bkC m k ⟨#[]⟩) 34) = W at *
  clear e1 e2 e3 e4 D0 HZ
  go_upto_if 17 with (go_at_call 21; (with_reducible refine (rhas_e k HH.out _).mono ?_); rintro x w1 ⟨rfl, hb⟩; have HB1 := Aside0.mk (HB.out.trans (hb.mono HB.out.size)); have C0 := Aside0.mk ((hb.block _ (blk_lt B0.out)).trans B0.out); have C1 := Aside0.mk ((hb.block _ (blk_lt B1.out)).trans B1.out); have C2 := Aside0.mk ((hb.block _ (blk_lt B2.out)).trans B2.out); clear hb)
  clear B0 B1 B2
  cases be
  · go_wp2_with (first
      | (refine wpList_load_row rfl 34 (.tmp 5) rfl (w.heap.size + 1 + 1) rfl 34 (bkC m k ⟨#[]⟩) (0, 0) _ C2.out Tryd.underlying34 rfl (by kernel_rfl) ?_)
      | (refine wpList_store_row rfl 34 (.tmp 4) (.tmp 23) rfl (w.heap.size + 1) (bkC m k ⟨#[]⟩) rfl rfl 34 zMs C1.out (by kernel_rfl) rfl (bkC_one m k ⟨#[]⟩) ?_))
    refine bodyPost_ret (results_cell_row rfl _ _ (w.heap.size + 1) 34 _ (0, 0) _ rfl (setRow_heap _ _ _ _ _ _ C1.out) Tryd.underlying34 rfl (by kernel_rfl)) rfl ?_
    rw [HM.out]
    exact ⟨rfl, below_setRow HB1.out (Nat.le_succ _) _⟩
  · have e7 := (blk_cell C0.out 7).trans (show _ = some (Value.string m.e.f0) from rfl)
    have g7 := (blk_cell C2.out 7).trans (show _ = some (Value.string ⟨#[]⟩) from rfl)
    have g8 := (blk_cell C2.out 8).trans (show _ = some (Value.int .i64 0) from rfl)
    have g9 := (blk_cell C2.out 9).trans (show _ = some (Value.int .i64 0) from rfl)
    have g10 := (blk_cell C2.out 10).trans (show _ = some (Value.int .i64 0) from rfl)
    have g11 := (blk_cell C2.out 11).trans (show _ = some (Value.bool false) from rfl)
    have g12 := (blk_cell C2.out 12).trans (show _ = some (Value.slice none 0 0) from rfl)
    have f7 := blk_frozen C2.out 7
    have f8 := blk_frozen C2.out 8
    have f9 := blk_frozen C2.out 9
    have f10 := blk_frozen C2.out 10
    have f11 := blk_frozen C2.out 11
    have f12 := blk_frozen C2.out 12
    have HLt := blk_lt C2.out
    have HCb : Cb w1 w1 (w.heap.size + 1 + 1) ⟨k, m.dst, m.fr, m.ep, m.op, 0, false, ⟨⟨#[]⟩, ⟨0, 0, 0⟩, ⟨false, []⟩⟩, [], [], 0, 0⟩ (.slice none 0 0) (.slice none 0 0) (.slice none 0 0) := ⟨C2.out, Kg.refl _ _ _, HLt⟩
    have HC3 := Aside0.mk (HCb.putE ⟨m.e.f0, ⟨0, 0, 0⟩, ⟨false, []⟩⟩ (v := .slice none 0 0))
    have C3 : Aside0 (((((((w1.setCell ⟨w.heap.size + 1 + 1, 7, none⟩ (.string m.e.f0)).setCell ⟨w.heap.size + 1 + 1, 8, none⟩ (.int .i64 0)).setCell ⟨w.heap.size + 1 + 1, 9, none⟩ (.int .i64 0)).setCell ⟨w.heap.size + 1 + 1, 10, none⟩ (.int .i64 0)).setCell ⟨w.heap.size + 1 + 1, 11, none⟩ (.bool false)).setCell ⟨w.heap.size + 1 + 1, 12, none⟩ (.slice none 0 0)).heap[w.heap.size + 1 + 1]? = some (.cells (bkC m k m.e.f0) 34 (0, 0))) := ⟨HC3.out.blk⟩
    have C4 : Aside0 (((((((w1.setCell ⟨w.heap.size + 1 + 1, 7, none⟩ (.string m.e.f0)).setCell ⟨w.heap.size + 1 + 1, 8, none⟩ (.int .i64 0)).setCell ⟨w.heap.size + 1 + 1, 9, none⟩ (.int .i64 0)).setCell ⟨w.heap.size + 1 + 1, 10, none⟩ (.int .i64 0)).setCell ⟨w.heap.size + 1 + 1, 11, none⟩ (.bool false)).setCell ⟨w.heap.size + 1 + 1, 12, none⟩ (.slice none 0 0)).heap[w.heap.size + 1]? = some (.cells zMs 34 (0, 0))) := ⟨(HC3.out.up.block (w.heap.size + 1) (blk_lt C1.out) (by omega) (by omega)).trans C1.out⟩
    have HB2 : Aside0 (Below w.heap.size w ((((((w1.setCell ⟨w.heap.size + 1 + 1, 7, none⟩ (.string m.e.f0)).setCell ⟨w.heap.size + 1 + 1, 8, none⟩ (.int .i64 0)).setCell ⟨w.heap.size + 1 + 1, 9, none⟩ (.int .i64 0)).setCell ⟨w.heap.size + 1 + 1, 10, none⟩ (.int .i64 0)).setCell ⟨w.heap.size + 1 + 1, 11, none⟩ (.bool false)).setCell ⟨w.heap.size + 1 + 1, 12, none⟩ (.slice none 0 0))) := ⟨HC3.out.out0 HB1.out (Nat.le_trans (Nat.le_succ _) (Nat.le_succ _))⟩
    clear HCb HC3 HLt
    go_upto_region 4 with fail
    generalize (((((w1.setCell ⟨w.heap.size + 1 + 1, 7, none⟩ (.string m.e.f0)).setCell ⟨w.heap.size + 1 + 1, 8, none⟩ (.int .i64 0)).setCell ⟨w.heap.size + 1 + 1, 9, none⟩ (.int .i64 0)).setCell ⟨w.heap.size + 1 + 1, 10, none⟩ (.int .i64 0)).setCell ⟨w.heap.size + 1 + 1, 11, none⟩ (.bool false)).setCell ⟨w.heap.size + 1 + 1, 12, none⟩ (.slice none 0 0) = w2 at *
    clear e7 g7 g8 g9 g10 g11 g12 f7 f8 f9 f10 f11 f12
    go_wp2_with (first
      | (refine wpList_load_row rfl 34 (.tmp 5) rfl (w.heap.size + 1 + 1) rfl 34 (bkC m k m.e.f0) (0, 0) _ C3.out Tryd.underlying34 rfl (by kernel_rfl) ?_)
      | (refine wpList_store_row rfl 34 (.tmp 4) (.tmp 23) rfl (w.heap.size + 1) (bkC m k m.e.f0) rfl rfl 34 zMs C4.out (by kernel_rfl) rfl (bkC_one m k m.e.f0) ?_))
    refine bodyPost_ret (results_cell_row rfl _ _ (w.heap.size + 1) 34 _ (0, 0) _ rfl (setRow_heap _ _ _ _ _ _ C4.out) Tryd.underlying34 rfl (by kernel_rfl)) rfl ?_
    rw [HM.out]
    exact ⟨rfl, below_setRow HB2.out (Nat.le_succ _) _⟩
end Go.Proofs.YthaoiamgkpkcbaaDoor.Ms
namespace Go.Proofs.YthaoiamgkpkcbaaDoor.Ms
open Go.ChangeShapes Go.WideShapes Go.ChangeAt Go.RowKit Go.Proofs.YthaoiamgkpkcbaaDoor.Pk Go.Proofs.YthaoiamgkpkcbaaDoor.Tg Go.Proofs.YthaoiamgkpkcbaaDoor.Enc Go.Proofs.YthaoiamgkpkcbaaDoor.EncC Go.Proofs.YthaoiamgkpkcbaaDoor.EncP
open Go.Proofs.YthaoiamgkpkcbaaDoor.Hlp Go.Proofs.YthaoiamgkpkcbaaDoor.Wrd Go.Proofs.YthaoiamgkpkcbaaDoor.Lex Go.Proofs.YthaoiamgkpkcbaaDoorW.PrintWords Go.Proofs.YthaoiamgkpkcbaaDoorW.PrintLast Go.Proofs.YthaoiamgkpkcbaaDoorW.PrintMore
set_option linter.unusedVariables false
set_option linter.unusedSimpArgs false
/-- a row of a copy's own lies in a block of its own: its n elements' first cells, s cells apart -/
structure Spt (lo hi : Nat) (T : TypeId) (A : Option Addr) (s n : Nat) (P : Value → Prop) (W : World) : Prop where mk ::
  out : 0 < n → ∃ (g : Nat) (cs : Array Value), A = some ⟨g, 0, none⟩ ∧ lo ≤ g ∧ g < hi ∧ W.heap[g]? = some (.cells cs T (0, 0)) ∧ ∀ j : Nat, j < n → ∃ v, cs[j * s]? = some v ∧ P v
section
variable {lo hi : Nat} {T : TypeId} {A : Option Addr} {s n : Nat} {P : Value → Prop} {w W W1 : World}
theorem set_in {cs : Array Value} {i j : Nat} {u v : Value} (h : cs[j]? = some v) (hv : P v) (hu : P u) : ∃ x, (cs.setIfInBounds i u)[j]? = some x ∧ P x := by
  by_cases hij : i = j
  · subst hij
    refine ⟨u, ?_, hu⟩
    obtain ⟨hlt, _⟩ := Array.getElem?_eq_some_iff.1 h
    rw [Array.getElem?_setIfInBounds_self, if_pos hlt]
  · exact ⟨v, by rw [Array.getElem?_setIfInBounds_ne hij]; exact h, hv⟩
theorem Spt.store (h : Spt lo hi T A s n P W) {g : Nat} (hA : A = some ⟨g, 0, none⟩) (i : Nat) {u : Value} (hu : P u) : Spt lo hi T A s n P (W.setCell ⟨g, i, none⟩ u) := ⟨fun hn => by
  obtain ⟨g', cs, e, h1, h2, h3, h4⟩ := h.out hn
  have : g' = g := by rw [hA] at e; injection e with e; injection e with e; exact e.symm
  subst this
  refine ⟨g', cs.setIfInBounds i u, e, h1, h2, blk_set h3 i u, fun j hj => ?_⟩
  obtain ⟨v, hv, hp⟩ := h4 j hj
  exact set_in hv hp hu⟩
theorem Spt.other (h : Spt lo hi T A s n P W) {g : Nat} {T' : TypeId} {cs' : Array Value} (hb : W.heap[g]? = some (.cells cs' T' (0, 0))) (hT : T ≠ T') (i : Nat) (u : Value) : Spt lo hi T A s n P (W.setCell ⟨g, i, none⟩ u) := ⟨fun hn => by
  obtain ⟨g', cs, e, h1, h2, h3, h4⟩ := h.out hn
  exact ⟨g', cs, e, h1, h2, (Below.heap_setCell W ⟨g, i, none⟩ u g' (blk_ne h3 hb hT)).trans h3, h4⟩⟩
theorem Spt.below (h : Spt lo hi T A s n P W) (hb : Below W.heap.size W W1) : Spt lo hi T A s n P W1 := ⟨fun hn => by
  obtain ⟨g', cs, e, h1, h2, h3, h4⟩ := h.out hn
  exact ⟨g', cs, e, h1, h2, blk_below h3 hb, h4⟩⟩
theorem Spt.drew (h : Spt lo hi T A s n P W) : Spt lo hi T A s n P W.drew := ⟨fun hn => h.out hn⟩
/-- all but some blocks stand -/
structure Spo (w W : World) (lo hi : Nat) : Prop where mk ::
  out : ∀ k, k < lo ∨ hi ≤ k → W.heap[k]? = w.heap[k]?
theorem Spo.refl (w : World) (lo hi : Nat) : Spo w w lo hi := ⟨fun _ _ => rfl⟩
theorem Spo.store (h : Spo w W lo hi) {g : Nat} (h1 : lo ≤ g) (h2 : g < hi) (i : Nat) (u : Value) : Spo w (W.setCell ⟨g, i, none⟩ u) lo hi :=
  ⟨fun k hk => (Below.heap_setCell W ⟨g, i, none⟩ u k (by show k ≠ g; omega)).trans (h.out k hk)⟩
theorem Spo.drew (h : Spo w W lo hi) : Spo w W.drew lo hi := ⟨h.out⟩
end
theorem spt_E {W : World} {lo n c : Nat} {A : Option Addr} {L : List E6} (h : Kd.R kE 28 W lo (fun _ => True) (.slice A n c) L) (hn : L.length = n) : Spt lo W.heap.size 28 A 6 n (fun _ => True) W := ⟨fun h0 => by
  obtain ⟨g, cap, e, h1, h2, cs, h3⟩ := Kd.R_form h (by omega)
  injection e with e
  subst e
  refine ⟨g, cs, rfl, h1, h2, h3, fun j hj => ?_⟩
  have hC := (Kd.R_reads' h).2.2
  obtain ⟨ad, A5, c5, e2, q1, _⟩ := at_E hC j (by omega)
  injection e2 with e2
  subst e2
  have e3 : (⟨g, 0, none⟩ : Addr).add (j * 6) = ⟨g, j * 6, none⟩ := by simp [Addr.add]; intro h; omega
  rw [e3, blk_cell h3] at q1
  exact ⟨_, q1, trivial⟩⟩
theorem spt_int {W : World} {lo n c : Nat} {A : Option Addr} {k : IntKind} {T : TypeId} {l : List Int} (h : Kd.R (Kd.int k) T W lo (fun _ => True) (.slice A n c) l) (hn : l.length = n) : Spt lo W.heap.size T A 1 n (fun v => ∃ x, v = .int k x) W := ⟨fun h0 => by
  obtain ⟨g, cap, e, h1, h2, cs, h3⟩ := Kd.R_form h (by omega)
  injection e with e
  subst e
  refine ⟨g, cs, rfl, h1, h2, h3, fun j hj => ?_⟩
  have hC := (Kd.R_reads' h).2.2
  subst hn
  obtain ⟨b, off, e2, hc⟩ := C_block hC (by omega)
  injection e2 with e2
  injection e2 with e2 e3 _
  subst e2 e3
  have q := hc j hj
  rw [Nat.zero_add, blk_cell h3] at q
  rw [Nat.mul_one]
  exact ⟨_, q, _, rfl⟩⟩
/-- a copy's rows may be spoilt: all else stands -/
structure Spz (w w6 : World) (lo hi : Nat) (m : Ms) (p : Pl) (W : World) : Prop where
  ge : w.heap.size ≤ lo
  spo : Spo w6 W lo hi
  bel : Below w.heap.size w W
  sL : Spt lo hi 28 p.lA 6 m.L.length (fun _ => True) W
  sR : Spt lo hi 3 p.rA 1 m.R.length (fun v => ∃ x, v = .int .i64 x) W
  sV : Spt lo hi 5 p.vA 1 m.e.f2.f1.length (fun v => ∃ x, v = .int .u8 x) W
section
variable {w w6 W : World} {lo hi : Nat} {m : Ms} {p : Pl}
theorem Spz.storeL (h : Spz w w6 lo hi m p W) {g : Nat} {cs : Array Value} (hA : p.lA = some ⟨g, 0, none⟩) (h1 : lo ≤ g) (h2 : g < hi) (h3 : W.heap[g]? = some (.cells cs 28 (0, 0))) (i : Nat) (u : Value) : Spz w w6 lo hi m p (W.setCell ⟨g, i, none⟩ u) :=
  ⟨h.ge, h.spo.store h1 h2 i u, below_set h.bel (Nat.le_trans h.ge h1), h.sL.store hA i trivial, h.sR.other h3 (by decide) i u, h.sV.other h3 (by decide) i u⟩
theorem Spz.storeR (h : Spz w w6 lo hi m p W) {g : Nat} {cs : Array Value} (hA : p.rA = some ⟨g, 0, none⟩) (h1 : lo ≤ g) (h2 : g < hi) (h3 : W.heap[g]? = some (.cells cs 3 (0, 0))) (i : Nat) (x : Int) : Spz w w6 lo hi m p (W.setCell ⟨g, i, none⟩ (.int .i64 x)) :=
  ⟨h.ge, h.spo.store h1 h2 i _, below_set h.bel (Nat.le_trans h.ge h1), h.sL.other h3 (by decide) i _, h.sR.store hA i ⟨x, rfl⟩, h.sV.other h3 (by decide) i _⟩
theorem Spz.storeV (h : Spz w w6 lo hi m p W) {g : Nat} {cs : Array Value} (hA : p.vA = some ⟨g, 0, none⟩) (h1 : lo ≤ g) (h2 : g < hi) (h3 : W.heap[g]? = some (.cells cs 5 (0, 0))) (i : Nat) (x : Int) : Spz w w6 lo hi m p (W.setCell ⟨g, i, none⟩ (.int .u8 x)) :=
  ⟨h.ge, h.spo.store h1 h2 i _, below_set h.bel (Nat.le_trans h.ge h1), h.sL.other h3 (by decide) i _, h.sR.other h3 (by decide) i _, h.sV.store hA i ⟨x, rfl⟩⟩
theorem Spz.drew (h : Spz w w6 lo hi m p W) : Spz w w6 lo hi m p W.drew :=
  ⟨h.ge, h.spo.drew, below_drew h.bel, h.sL.drew, h.sR.drew, h.sV.drew⟩
end
end Go.Proofs.YthaoiamgkpkcbaaDoor.Ms
