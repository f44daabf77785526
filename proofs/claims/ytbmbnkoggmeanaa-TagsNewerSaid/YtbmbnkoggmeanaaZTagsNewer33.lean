/- The walk of the law TagsNewer, for every two entries. No condition. -/
import Derived.Test.YtbmbnkoggmeanaaZTagsNewer30
import Derived.Test.YtbmbnkoggmeanaaZTagsNewer32
import Derived.Deep.RegionHeld3
namespace Go.Proofs.Ytbmbnkoggmeanaa.Tg
open Go.ChangeShapes Go.WideShapes Go.ChangeAt Go.RowKit Go.Proofs.Ytbmbnkoggmeanaa.Pk Go.Proofs.Ytbmbnkoggmeanaa.EncC Go.Proofs.Ytbmbnkoggmeanaa.Opn
open Go.Proofs.Ytbmbnkoggmeanaa.Hlp Go.Proofs.Ytbmbnkoggmeanaa.Wrd Go.Proofs.YtbmbnkoggmeanaaW.PrintWords Go.Proofs.YtbmbnkoggmeanaaW.PrintLast Go.Proofs.YtbmbnkoggmeanaaW.PrintMore
set_option linter.unusedVariables false
set_option linter.unusedSimpArgs false
theorem made_r {w : World} {v : List Int} {e : Ending} {w' : World} (h : Made w v e w') : ∃ A c, e = .returned (.slice A v.length c) ∧ v.length ≤ c ∧ Kd.C (Kd.int .u8) w' A v.length v ∧ Below w.heap.size w w' := by
  obtain ⟨x, rfl, hr, hb⟩ := h
  obtain ⟨A, c, rfl, hc, h⟩ := Kd.R_reads hr
  exact ⟨A, c, rfl, hc, h, hb⟩
section
variable {w : World} {g1 g2 g3 g4 : Nat} {k1 k2 k3 k4 : ByteArray} {a1 b1 c1 a2 b2 c2 a3 b3 c3 a4 b4 c4 : Int} {h1 h2 h3 h4 : Bool} {A1 A2 A3 A4 : Option Addr} {n1 d1 n2 d2 n3 d3 n4 d4 : Nat}
theorem en24 (e1 : w.heap[g1]? = some (.cells #[.string k1, .int .i64 a1, .int .i64 b1, .int .i64 c1, .bool h1, .slice A1 n1 d1] 40 (0, 0))) (e2 : w.heap[g2]? = some (.cells #[.string k2, .int .i64 a2, .int .i64 b2, .int .i64 c2, .bool h2, .slice A2 n2 d2] 40 (0, 0))) (e3 : w.heap[g3]? = some (.cells #[.string k3, .int .i64 a3, .int .i64 b3, .int .i64 c3, .bool h3, .slice A3 n3 d3] 40 (0, 0))) (e4 : w.heap[g4]? = some (.cells #[.string k4, .int .i64 a4, .int .i64 b4, .int .i64 c4, .bool h4, .slice A4 n4 d4] 40 (0, 0))) :
    w.cell? ⟨g1, 0, none⟩ = some (.string k1) ∧ w.cell? ⟨g1, 1, none⟩ = some (.int .i64 a1) ∧ w.cell? ⟨g1, 2, none⟩ = some (.int .i64 b1) ∧ w.cell? ⟨g1, 3, none⟩ = some (.int .i64 c1) ∧ w.cell? ⟨g1, 4, none⟩ = some (.bool h1) ∧ w.cell? ⟨g1, 5, none⟩ = some (.slice A1 n1 d1) ∧ w.cell? ⟨g2, 0, none⟩ = some (.string k2) ∧ w.cell? ⟨g2, 1, none⟩ = some (.int .i64 a2) ∧ w.cell? ⟨g2, 2, none⟩ = some (.int .i64 b2) ∧ w.cell? ⟨g2, 3, none⟩ = some (.int .i64 c2) ∧ w.cell? ⟨g2, 4, none⟩ = some (.bool h2) ∧ w.cell? ⟨g2, 5, none⟩ = some (.slice A2 n2 d2) ∧ w.cell? ⟨g3, 0, none⟩ = some (.string k3) ∧ w.cell? ⟨g3, 1, none⟩ = some (.int .i64 a3) ∧ w.cell? ⟨g3, 2, none⟩ = some (.int .i64 b3) ∧ w.cell? ⟨g3, 3, none⟩ = some (.int .i64 c3) ∧ w.cell? ⟨g3, 4, none⟩ = some (.bool h3) ∧ w.cell? ⟨g3, 5, none⟩ = some (.slice A3 n3 d3) ∧ w.cell? ⟨g4, 0, none⟩ = some (.string k4) ∧ w.cell? ⟨g4, 1, none⟩ = some (.int .i64 a4) ∧ w.cell? ⟨g4, 2, none⟩ = some (.int .i64 b4) ∧ w.cell? ⟨g4, 3, none⟩ = some (.int .i64 c4) ∧ w.cell? ⟨g4, 4, none⟩ = some (.bool h4) ∧ w.cell? ⟨g4, 5, none⟩ = some (.slice A4 n4 d4) :=
  ⟨(blk_cell e1 0).trans rfl, (blk_cell e1 1).trans rfl, (blk_cell e1 2).trans rfl, (blk_cell e1 3).trans rfl, (blk_cell e1 4).trans rfl, (blk_cell e1 5).trans rfl, (blk_cell e2 0).trans rfl, (blk_cell e2 1).trans rfl, (blk_cell e2 2).trans rfl, (blk_cell e2 3).trans rfl, (blk_cell e2 4).trans rfl, (blk_cell e2 5).trans rfl, (blk_cell e3 0).trans rfl, (blk_cell e3 1).trans rfl, (blk_cell e3 2).trans rfl, (blk_cell e3 3).trans rfl, (blk_cell e3 4).trans rfl, (blk_cell e3 5).trans rfl, (blk_cell e4 0).trans rfl, (blk_cell e4 1).trans rfl, (blk_cell e4 2).trans rfl, (blk_cell e4 3).trans rfl, (blk_cell e4 4).trans rfl, (blk_cell e4 5).trans rfl⟩
end
/-- the newer one, and the reference's: of one entry -/
theorem both_newer (k : ByteArray) (a b c : Int) (h : Bool) (v : List Int) (A : Option Addr) (d : Nat) (k' : ByteArray) (a' b' c' : Int) (h' : Bool) (v' : List Int) (A' : Option Addr) (d' : Nat) (hc : v.length ≤ d) (hl : v.length ≤ 140737488351232) (hc' : v'.length ≤ d') (hl' : v'.length ≤ 140737488351232) :
    ∃ (k1 : ByteArray) (a1 b1 c1 : Int) (h1 : Bool) (v1 : List Int) (Ax : Option Addr) (dx : Nat), v1.length ≤ dx ∧ v1.length ≤ 140737488351232 ∧
      (∀ w, Kd.C (Kd.int .u8) w A v.length v → Kd.C (Kd.int .u8) w A' v'.length v' → Kd.C (Kd.int .u8) w Ax v1.length v1 ∧
        Calls Try.prog 35 #[.agg #[.string k, .int .i64 a, .int .i64 b, .int .i64 c, .bool h, .slice A v.length d], .agg #[.string k', .int .i64 a', .int .i64 b', .int .i64 c', .bool h', .slice A' v'.length d']] w (CopyPost w k1 a1 b1 c1 h1 v1) ∧
        Calls Try.prog 37 #[.agg #[.string k, .int .i64 a, .int .i64 b, .int .i64 c, .bool h, .slice A v.length d], .agg #[.string k', .int .i64 a', .int .i64 b', .int .i64 c', .bool h', .slice A' v'.length d']] w (fun x w' => x = .returned (.agg #[.string k1, .int .i64 a1, .int .i64 b1, .int .i64 c1, .bool h1, .slice Ax v1.length dx]) ∧ Below w.heap.size w w')) := by
  by_cases hq : 0 ≤ Lex.cmpV a b c a' b' c'
  · refine ⟨k, a, b, c, h, v, A, d, hc, hl, fun w hr hr' => ⟨hr, ?_, ?_⟩⟩
    · have := newer_ k a b c h k' a' b' c' h' rfl hr hc hl hr' hc' hl'
      unfold NewerPost at this
      rwa [if_pos hq] at this
    · have := rnewer_ k a b c h k' a' b' c' h' rfl hr hc hl hr' hc' hl'
      unfold ROne at this
      rwa [if_neg (by omega)] at this
  · refine ⟨k', a', b', c', h', v', A', d', hc', hl', fun w hr hr' => ⟨hr', ?_, ?_⟩⟩
    · have := newer_ k a b c h k' a' b' c' h' rfl hr hc hl hr' hc' hl'
      unfold NewerPost at this
      rwa [if_neg hq] at this
    · have := rnewer_ k a b c h k' a' b' c' h' rfl hr hc hl hr' hc' hl'
      unfold ROne at this
      rwa [if_pos (by omega)] at this
set_option maxHeartbeats 16000000 in
set_option maxRecDepth 100000 in
theorem newer_law (w : World) (k : ByteArray) (a b c : Int) (h : Bool) (v : List Int) (A : Option Addr) (d : Nat) (k' : ByteArray) (a' b' c' : Int) (h' : Bool) (v' : List Int) (A' : Option Addr) (d' : Nat) (hr : Kd.C (Kd.int .u8) w A v.length v) (hr' : Kd.C (Kd.int .u8) w A' v'.length v') (hc : v.length ≤ d) (hl : v.length ≤ 140737488351232) (hc' : v'.length ≤ d') (hl' : v'.length ≤ 140737488351232) (hv : ∀ x ∈ v, 0 ≤ x ∧ x < 256) (hv' : ∀ x ∈ v', 0 ≤ x ∧ x < 256) :
    Calls Try.prog 9 #[.agg #[.string k, .int .i64 a, .int .i64 b, .int .i64 c, .bool h, .slice A v.length d], .agg #[.string k', .int .i64 a', .int .i64 b', .int .i64 c', .bool h', .slice A' v'.length d']] w fun e w' => e = .returned (.bool true) ∧ Below w.heap.size w w' := by
  have hu40 := Try.underlying40
  have hu23 := Try.underlying23
  have hu38 := Try.underlying38
  obtain ⟨k1, a1, b1, c1, h1, v1, Ax, dx, hcx, hlx, hK⟩ := both_newer k a b c h v A d k' a' b' c' h' v' A' d' hc hl hc' hl'
  have HK := Aside0.mk hK
  have HV := Aside0.mk hv
  have HV' := Aside0.mk hv'
  obtain ⟨b1_, b2_⟩ := two_blks w (.cells #[.string k, .int .i64 a, .int .i64 b, .int .i64 c, .bool h, .slice A v.length d] 40) (.cells #[.string k', .int .i64 a', .int .i64 b', .int .i64 c', .bool h', .slice A' v'.length d'] 40)
  have HR := Aside0.mk (Kd.C_alloc (Kd.C_alloc hr (.cells #[.string k, .int .i64 a, .int .i64 b, .int .i64 c, .bool h, .slice A v.length d] 40)) (.cells #[.string k', .int .i64 a', .int .i64 b', .int .i64 c', .bool h', .slice A' v'.length d'] 40))
  have HR' := Aside0.mk (Kd.C_alloc (Kd.C_alloc hr' (.cells #[.string k, .int .i64 a, .int .i64 b, .int .i64 c, .bool h, .slice A v.length d] 40)) (.cells #[.string k', .int .i64 a', .int .i64 b', .int .i64 c', .bool h', .slice A' v'.length d'] 40))
  have HB := Aside0.mk (below_allocs (Below.refl w.heap.size w) (.cells #[.string k, .int .i64 a, .int .i64 b, .int .i64 c, .bool h, .slice A v.length d] 40) (.cells #[.string k', .int .i64 a', .int .i64 b', .int .i64 c', .bool h', .slice A' v'.length d'] 40))
  have B1 := Aside0.mk b1_
  have B2 := Aside0.mk b2_
  obtain ⟨q, hq⟩ : ∃ q, longB k v = q := ⟨_, rfl⟩
  obtain ⟨q', hq'⟩ : ∃ q, longB k' v' = q := ⟨_, rfl⟩
  have HQ := Aside0.mk hq
  have HQ' := Aside0.mk hq'
  have HR0 := Aside0.mk hr
  clear hK hv hv' b1_ b2_ hr hr' hq hq'
  go_enter Try.func9, Try.ntmps9
  go_upto_region 1 with fail
  generalize (w.alloc (.cells #[.string k, .int .i64 a, .int .i64 b, .int .i64 c, .bool h, .slice A v.length d] 40)).alloc (.cells #[.string k', .int .i64 a', .int .i64 b', .int .i64 c', .bool h', .slice A' v'.length d'] 40) = W at *
  obtain ⟨e0, e1, e2, e3, e4, e5⟩ := en_cells B1.out
  obtain ⟨f0, f1, f2, f3, f4, f5⟩ := en_cells B2.out
  go_wp2_with fail
  (with_reducible refine (long_c k a b c h HQ.out HR.out hc).mono ?_)
  rintro x u1 ⟨rfl, hb⟩
  have HB := Aside0.mk (below_then HB.out HB.out.size hb)
  have B1 := Aside0.mk (blk_below B1.out hb)
  have B2 := Aside0.mk (blk_below B2.out hb)
  have HR := Aside0.mk (Kd.C_below HR.out hb)
  have HR' := Aside0.mk (Kd.C_below HR'.out hb)
  clear hb
  clear e0 e1 e2 e3 e4 e5 f0 f1 f2 f3 f4 f5
  obtain ⟨e0, e1, e2, e3, e4, e5⟩ := en_cells B1.out
  obtain ⟨f0, f1, f2, f3, f4, f5⟩ := en_cells B2.out
  cases q
  · go_wp2_with fail
    (with_reducible refine (long_c k' a' b' c' h' HQ'.out HR'.out hc').mono ?_)
    rintro x u2 ⟨rfl, hb⟩
    have HB := Aside0.mk (below_then HB.out HB.out.size hb)
    have B1 := Aside0.mk (blk_below B1.out hb)
    have B2 := Aside0.mk (blk_below B2.out hb)
    have HR := Aside0.mk (Kd.C_below HR.out hb)
    have HR' := Aside0.mk (Kd.C_below HR'.out hb)
    clear hb
    clear e0 e1 e2 e3 e4 e5 f0 f1 f2 f3 f4 f5
    obtain ⟨e0, e1, e2, e3, e4, e5⟩ := en_cells B1.out
    obtain ⟨f0, f1, f2, f3, f4, f5⟩ := en_cells B2.out
    cases q'
    · go_wp2_with fail
      obtain ⟨hC1, hN1, hN2⟩ := HK.out _ HR.out HR'.out
      (with_reducible refine hN1.mono ?_)
      rintro x u3 ⟨An, dn, rfl, hO, hb⟩
      clear hC1 hN1 hN2
      have HN := Aside0.mk (Kd.R_reads' hO).2.2
      have hdn := (Kd.R_reads' hO).2.1
      have HB := Aside0.mk (below_then HB.out HB.out.size hb)
      have B1 := Aside0.mk (blk_below B1.out hb)
      have B2 := Aside0.mk (blk_below B2.out hb)
      have HR := Aside0.mk (Kd.C_below HR.out hb)
      have HR' := Aside0.mk (Kd.C_below HR'.out hb)
      clear hb
      have BN := Aside0.mk (blk_new u3 (.cells #[.string k1, .int .i64 a1, .int .i64 b1, .int .i64 c1, .bool h1, .slice An v1.length dn] 40))
      have HB := Aside0.mk (below_alloc HB.out (.cells #[.string k1, .int .i64 a1, .int .i64 b1, .int .i64 c1, .bool h1, .slice An v1.length dn] 40))
      have B1 := Aside0.mk (blk_alloc B1.out (.cells #[.string k1, .int .i64 a1, .int .i64 b1, .int .i64 c1, .bool h1, .slice An v1.length dn] 40))
      have B2 := Aside0.mk (blk_alloc B2.out (.cells #[.string k1, .int .i64 a1, .int .i64 b1, .int .i64 c1, .bool h1, .slice An v1.length dn] 40))
      have HR := Aside0.mk (Kd.C_alloc HR.out (.cells #[.string k1, .int .i64 a1, .int .i64 b1, .int .i64 c1, .bool h1, .slice An v1.length dn] 40))
      have HR' := Aside0.mk (Kd.C_alloc HR'.out (.cells #[.string k1, .int .i64 a1, .int .i64 b1, .int .i64 c1, .bool h1, .slice An v1.length dn] 40))
      have HN := Aside0.mk (Kd.C_alloc HN.out (.cells #[.string k1, .int .i64 a1, .int .i64 b1, .int .i64 c1, .bool h1, .slice An v1.length dn] 40))
      clear hO
      clear e0 e1 e2 e3 e4 e5 f0 f1 f2 f3 f4 f5
      obtain ⟨e0, e1, e2, e3, e4, e5⟩ := en_cells B1.out
      obtain ⟨f0, f1, f2, f3, f4, f5⟩ := en_cells B2.out
      go_upto_region 4 with fail
      obtain ⟨gN, hgN⟩ : ∃ g, u3.heap.size = g := ⟨_, rfl⟩
      rw [hgN] at BN
      simp only [hgN]
      generalize u3.alloc (.cells #[.string k1, .int .i64 a1, .int .i64 b1, .int .i64 c1, .bool h1, .slice An v1.length dn] 40) = u4 at *
      clear hgN
      go_wp2_with fail
      (with_reducible refine (copy_ k a b c h HR.out hc hl).mono ?_)
      rintro x u5 ⟨Ac, dc, rfl, hO, hb⟩
      have HC := Aside0.mk (Kd.R_reads' hO).2.2
      have hdc := (Kd.R_reads' hO).2.1
      have HO := Aside0.mk (Kd.R_lower hO HB.out.size)
      have HAc : Aside0 (∀ ad, Ac = some ad → 0 < v.length → w.heap.size < ad.block ∧ ad.block < u5.heap.size) := ⟨by
        intro ad ha h0
        obtain ⟨p, cap, ep, hp1, hp2, _⟩ := Kd.R_form hO h0
        have hlt := blk_lt B1.out
        rw [ha] at ep
        injection ep with ep1 _ _
        injection ep1 with ep1
        rw [ep1]; exact ⟨Nat.lt_of_lt_of_le hlt hp1, hp2⟩⟩
      have HB := Aside0.mk (below_then HB.out HB.out.size hb)
      have B1 := Aside0.mk (blk_below B1.out hb)
      have B2 := Aside0.mk (blk_below B2.out hb)
      have BN := Aside0.mk (blk_below BN.out hb)
      have HR := Aside0.mk (Kd.C_below HR.out hb)
      have HR' := Aside0.mk (Kd.C_below HR'.out hb)
      have HN := Aside0.mk (Kd.C_below HN.out hb)
      clear hb
      have BC := Aside0.mk (blk_new u5 (.cells #[.string k, .int .i64 a, .int .i64 b, .int .i64 c, .bool h, .slice Ac v.length dc] 40))
      have HB := Aside0.mk (below_alloc HB.out (.cells #[.string k, .int .i64 a, .int .i64 b, .int .i64 c, .bool h, .slice Ac v.length dc] 40))
      have B1 := Aside0.mk (blk_alloc B1.out (.cells #[.string k, .int .i64 a, .int .i64 b, .int .i64 c, .bool h, .slice Ac v.length dc] 40))
      have B2 := Aside0.mk (blk_alloc B2.out (.cells #[.string k, .int .i64 a, .int .i64 b, .int .i64 c, .bool h, .slice Ac v.length dc] 40))
      have BN := Aside0.mk (blk_alloc BN.out (.cells #[.string k, .int .i64 a, .int .i64 b, .int .i64 c, .bool h, .slice Ac v.length dc] 40))
      have HR := Aside0.mk (Kd.C_alloc HR.out (.cells #[.string k, .int .i64 a, .int .i64 b, .int .i64 c, .bool h, .slice Ac v.length dc] 40))
      have HR' := Aside0.mk (Kd.C_alloc HR'.out (.cells #[.string k, .int .i64 a, .int .i64 b, .int .i64 c, .bool h, .slice Ac v.length dc] 40))
      have HN := Aside0.mk (Kd.C_alloc HN.out (.cells #[.string k, .int .i64 a, .int .i64 b, .int .i64 c, .bool h, .slice Ac v.length dc] 40))
      have HC := Aside0.mk (Kd.C_alloc HC.out (.cells #[.string k, .int .i64 a, .int .i64 b, .int .i64 c, .bool h, .slice Ac v.length dc] 40))
      have HO := Aside0.mk (Kd.R_alloc HO.out (.cells #[.string k, .int .i64 a, .int .i64 b, .int .i64 c, .bool h, .slice Ac v.length dc] 40))
      clear hO
      clear e0 e1 e2 e3 e4 e5 f0 f1 f2 f3 f4 f5
      obtain ⟨e0, e1, e2, e3, e4, e5⟩ := en_cells B1.out
      obtain ⟨f0, f1, f2, f3, f4, f5⟩ := en_cells B2.out
      go_upto_region 5 with fail
      obtain ⟨gC, hgC⟩ : ∃ g, u5.heap.size = g := ⟨_, rfl⟩
      rw [hgC] at BC HAc
      simp only [hgC]
      generalize u5.alloc (.cells #[.string k, .int .i64 a, .int .i64 b, .int .i64 c, .bool h, .slice Ac v.length dc] 40) = u6 at *
      clear hgC e0 e1 e2 e3 e4 e5 f0 f1 f2 f3 f4 f5
      have HX := Aside0.mk (HK.out _ HR.out HR'.out).1
      have HB := Aside0.mk (below_drew HB.out)
      have B1 := Aside0.mk (blk_drew B1.out)
      have B2 := Aside0.mk (blk_drew B2.out)
      have BN := Aside0.mk (blk_drew BN.out)
      have BC := Aside0.mk (blk_drew BC.out)
      have HR := Aside0.mk (Kd.C_drew HR.out)
      have HR' := Aside0.mk (Kd.C_drew HR'.out)
      have HX := Aside0.mk (Kd.C_drew HX.out)
      have HN := Aside0.mk (Kd.C_drew HN.out)
      have HC := Aside0.mk (Kd.C_drew HC.out)
      have HO := Aside0.mk (Kd.R_drew HO.out)
      obtain ⟨q1, hq1⟩ : ∃ q, sameE k a b c h v k' a' b' c' h' v' = q := ⟨_, rfl⟩
      obtain ⟨q2, hq2⟩ : ∃ q, sameV h v h' v' = q := ⟨_, rfl⟩
      have HQ1 := Aside0.mk hq1
      have HQ2 := Aside0.mk hq2
      clear hq1 hq2
      have eq1 : (q1 != q1) = false := by simp
      have eq2 : (q2 != q2) = false := by simp
      have HS := en24 B1.out B2.out BN.out BC.out
      go_region_held3 (fun W => W.cell? ⟨w.heap.size, 0, none⟩ = some (.string k) ∧ W.cell? ⟨w.heap.size, 1, none⟩ = some (.int .i64 a) ∧ W.cell? ⟨w.heap.size, 2, none⟩ = some (.int .i64 b) ∧ W.cell? ⟨w.heap.size, 3, none⟩ = some (.int .i64 c) ∧ W.cell? ⟨w.heap.size, 4, none⟩ = some (.bool h) ∧ W.cell? ⟨w.heap.size, 5, none⟩ = some (.slice A v.length d) ∧ W.cell? ⟨w.heap.size + 1, 0, none⟩ = some (.string k') ∧ W.cell? ⟨w.heap.size + 1, 1, none⟩ = some (.int .i64 a') ∧ W.cell? ⟨w.heap.size + 1, 2, none⟩ = some (.int .i64 b') ∧ W.cell? ⟨w.heap.size + 1, 3, none⟩ = some (.int .i64 c') ∧ W.cell? ⟨w.heap.size + 1, 4, none⟩ = some (.bool h') ∧ W.cell? ⟨w.heap.size + 1, 5, none⟩ = some (.slice A' v'.length d') ∧ W.cell? ⟨gN, 0, none⟩ = some (.string k1) ∧ W.cell? ⟨gN, 1, none⟩ = some (.int .i64 a1) ∧ W.cell? ⟨gN, 2, none⟩ = some (.int .i64 b1) ∧ W.cell? ⟨gN, 3, none⟩ = some (.int .i64 c1) ∧ W.cell? ⟨gN, 4, none⟩ = some (.bool h1) ∧ W.cell? ⟨gN, 5, none⟩ = some (.slice An v1.length dn) ∧ W.cell? ⟨gC, 0, none⟩ = some (.string k) ∧ W.cell? ⟨gC, 1, none⟩ = some (.int .i64 a) ∧ W.cell? ⟨gC, 2, none⟩ = some (.int .i64 b) ∧ W.cell? ⟨gC, 3, none⟩ = some (.int .i64 c) ∧ W.cell? ⟨gC, 4, none⟩ = some (.bool h) ∧ W.cell? ⟨gC, 5, none⟩ = some (.slice Ac v.length dc)) (first | go_keep | exact en24 B1.out B2.out BN.out BC.out) (first | (go_at_call 37; (with_reducible refine ((HK.out _ HR.out HR'.out).2.2).mono ?_); rintro x u8 ⟨rfl, hb⟩; have HB := Aside0.mk (below_then HB.out HB.out.size hb); have B1 := Aside0.mk (blk_below B1.out hb); have B2 := Aside0.mk (blk_below B2.out hb); have BN := Aside0.mk (blk_below BN.out hb); have BC := Aside0.mk (blk_below BC.out hb); have HR := Aside0.mk (Kd.C_below HR.out hb); have HR' := Aside0.mk (Kd.C_below HR'.out hb); have HX := Aside0.mk (Kd.C_below HX.out hb); have HN := Aside0.mk (Kd.C_below HN.out hb); have HC := Aside0.mk (Kd.C_below HC.out hb); have HO := Aside0.mk (Kd.R_below HO.out hb); clear hb) | (go_at_call 25; (with_reducible refine (rse_c k1 a1 b1 c1 h1 k1 a1 b1 c1 h1 (sameE_self k1 a1 b1 c1 h1 v1) HN.out hdn HX.out hcx hlx).mono ?_); rintro x u8 ⟨rfl, hb⟩; have HB := Aside0.mk (below_then HB.out HB.out.size hb); have B1 := Aside0.mk (blk_below B1.out hb); have B2 := Aside0.mk (blk_below B2.out hb); have BN := Aside0.mk (blk_below BN.out hb); have BC := Aside0.mk (blk_below BC.out hb); have HR := Aside0.mk (Kd.C_below HR.out hb); have HR' := Aside0.mk (Kd.C_below HR'.out hb); have HX := Aside0.mk (Kd.C_below HX.out hb); have HN := Aside0.mk (Kd.C_below HN.out hb); have HC := Aside0.mk (Kd.C_below HC.out hb); have HO := Aside0.mk (Kd.R_below HO.out hb); clear hb) | (go_at_call 25; (with_reducible refine (rse_c k a b c h k a b c h (sameE_self k a b c h v) HC.out hdc HR.out hc hl).mono ?_); rintro x u8 ⟨rfl, hb⟩; have HB := Aside0.mk (below_then HB.out HB.out.size hb); have B1 := Aside0.mk (blk_below B1.out hb); have B2 := Aside0.mk (blk_below B2.out hb); have BN := Aside0.mk (blk_below BN.out hb); have BC := Aside0.mk (blk_below BC.out hb); have HR := Aside0.mk (Kd.C_below HR.out hb); have HR' := Aside0.mk (Kd.C_below HR'.out hb); have HX := Aside0.mk (Kd.C_below HX.out hb); have HN := Aside0.mk (Kd.C_below HN.out hb); have HC := Aside0.mk (Kd.C_below HC.out hb); have HO := Aside0.mk (Kd.R_below HO.out hb); clear hb) | (go_at_call 25; (with_reducible refine (rse_c k a b c h k' a' b' c' h' HQ1.out HR.out hc HR'.out hc' hl).mono ?_); rintro x u8 ⟨rfl, hb⟩; have HB := Aside0.mk (below_then HB.out HB.out.size hb); have B1 := Aside0.mk (blk_below B1.out hb); have B2 := Aside0.mk (blk_below B2.out hb); have BN := Aside0.mk (blk_below BN.out hb); have BC := Aside0.mk (blk_below BC.out hb); have HR := Aside0.mk (Kd.C_below HR.out hb); have HR' := Aside0.mk (Kd.C_below HR'.out hb); have HX := Aside0.mk (Kd.C_below HX.out hb); have HN := Aside0.mk (Kd.C_below HN.out hb); have HC := Aside0.mk (Kd.C_below HC.out hb); have HO := Aside0.mk (Kd.R_below HO.out hb); clear hb) | (go_at_call 32; (with_reducible refine (se_c k a b c h k' a' b' c' h' HQ1.out HV.out HV'.out HR.out hc HR'.out hc').mono ?_); rintro x u8 ⟨rfl, hb⟩; have HB := Aside0.mk (below_then HB.out HB.out.size hb); have B1 := Aside0.mk (blk_below B1.out hb); have B2 := Aside0.mk (blk_below B2.out hb); have BN := Aside0.mk (blk_below BN.out hb); have BC := Aside0.mk (blk_below BC.out hb); have HR := Aside0.mk (Kd.C_below HR.out hb); have HR' := Aside0.mk (Kd.C_below HR'.out hb); have HX := Aside0.mk (Kd.C_below HX.out hb); have HN := Aside0.mk (Kd.C_below HN.out hb); have HC := Aside0.mk (Kd.C_below HC.out hb); have HO := Aside0.mk (Kd.R_below HO.out hb); clear hb) | (go_at_call 30; (with_reducible refine (sv_c h h' HQ2.out HV.out HV'.out HR.out hc HR'.out hc').mono ?_); rintro x u8 ⟨rfl, hb⟩; have HB := Aside0.mk (below_then HB.out HB.out.size hb); have B1 := Aside0.mk (blk_below B1.out hb); have B2 := Aside0.mk (blk_below B2.out hb); have BN := Aside0.mk (blk_below BN.out hb); have BC := Aside0.mk (blk_below BC.out hb); have HR := Aside0.mk (Kd.C_below HR.out hb); have HR' := Aside0.mk (Kd.C_below HR'.out hb); have HX := Aside0.mk (Kd.C_below HX.out hb); have HN := Aside0.mk (Kd.C_below HN.out hb); have HC := Aside0.mk (Kd.C_below HC.out hb); have HO := Aside0.mk (Kd.R_below HO.out hb); clear hb) | (go_at_call 31; (with_reducible refine (rsv_c h h' HQ2.out HR.out hc HR'.out hc' hl).mono ?_); rintro x u8 ⟨rfl, hb⟩; have HB := Aside0.mk (below_then HB.out HB.out.size hb); have B1 := Aside0.mk (blk_below B1.out hb); have B2 := Aside0.mk (blk_below B2.out hb); have BN := Aside0.mk (blk_below BN.out hb); have BC := Aside0.mk (blk_below BC.out hb); have HR := Aside0.mk (Kd.C_below HR.out hb); have HR' := Aside0.mk (Kd.C_below HR'.out hb); have HX := Aside0.mk (Kd.C_below HX.out hb); have HN := Aside0.mk (Kd.C_below HN.out hb); have HC := Aside0.mk (Kd.C_below HC.out hb); have HO := Aside0.mk (Kd.R_below HO.out hb); clear hb))
      clear HS eq1 eq2
      obtain ⟨e0, e1, e2, e3, e4, e5⟩ := en_cells B1.out
      obtain ⟨n0, n1, n2, n3, n4, n5⟩ := en_cells BC.out
      go_wp2_with fail
      (with_reducible refine (copyb_c HR.out hc hl).mono ?_)
      rintro x u9 ⟨xv, rfl, hW, hb⟩
      obtain ⟨Aw, dw, rfl⟩ := Kd.R_slice hW
      have hdw := (Kd.R_reads' hW).2.1
      have HW := Aside0.mk (Kd.R_lower hW (Nat.le_of_lt (blk_lt BC.out)))
      have HB := Aside0.mk (below_then HB.out HB.out.size hb)
      have B1 := Aside0.mk (blk_below B1.out hb)
      have BC := Aside0.mk (blk_below BC.out hb)
      have HO := Aside0.mk (Kd.R_below HO.out hb)
      clear hb
      clear hW e0 e1 e2 e3 e4 e5 n0 n1 n2 n3 n4 n5
      obtain ⟨n0, n1, n2, n3, n4, n5⟩ := en_cells BC.out
      go_wp2_with fail
      go_loopw [8] (fun i w' => ∃ j : Nat, j ≤ v.length ∧ i = .int .i64 j ∧ Aside0 (∃ vs : List Int, vs.length = v.length ∧ Kd.R (Kd.int .u8) 5 w' w.heap.size (fun _ => True) (.slice Ac v.length dc) vs) ∧ Aside0 (Kd.R (Kd.int .u8) 5 w' gC (fun _ => True) (.slice Aw v.length dw) v) ∧ Aside0 (w'.heap[gC]? = some (.cells #[.string k, .int .i64 a, .int .i64 b, .int .i64 c, .bool h, .slice Ac v.length dc] 40 (0, 0))) ∧ Aside0 (w'.heap[w.heap.size]? = some (.cells #[.string k, .int .i64 a, .int .i64 b, .int .i64 c, .bool h, .slice A v.length d] 40 (0, 0))) ∧ Aside0 (Below w.heap.size w w')) (fun i _ => v.length - (intOf i).toNat)
      case atStart => exact ⟨0, Nat.zero_le _, rfl, ⟨v, rfl, HO.out⟩, HW, BC, B1, HB⟩
      case round =>
        obtain ⟨j, hj, rfl, HOr, HWr, BCr, B1r, HBr⟩ := hrel
        clear n0 n1 n2 n3 n4 n5
        obtain ⟨n0, n1, n2, n3, n4, n5⟩ := en_cells BCr.out
        by_cases hlt : j < v.length
        · obtain ⟨vs, hvs, hR⟩ := HOr.out
          obtain ⟨p, cap, ep, hp1, hp2, cells, hpc⟩ := Kd.R_form hR (by omega)
          injection ep with ep1 ep2 ep3
          clear ep2
          subst ep1
          obtain rfl := ep3
          have hpg := HAc.out _ rfl (by omega)
          have hpg2 : p < gC := hpg.2
          have hpw : w.heap.size < p := hpg.1
          have hne : gC ≠ p := by omega
          have HNE1 : Aside0 (w.heap.size ≠ p) := ⟨by omega⟩
          obtain ⟨g9, o9, eg9, hcell⟩ := C_block (Kd.R_reads' hR).2.2 (by omega)
          injection eg9 with eg9
          injection eg9 with eg9 eo9 sp9
          clear sp9
          subst eg9 eo9
          have cj := hcell j (by omega)
          rw [Nat.zero_add] at cj
          obtain ⟨x, hx⟩ : ∃ x, vs[j]'(by omega) = x := ⟨_, rfl⟩
          rw [hx] at cj
          have fz := blk_frozen hpc j
          have HRj := Aside0.mk hR
          have HVs := Aside0.mk hvs
          have HBC := BCr
          have HPG := Aside0.mk hpg2
          have HP1 := Aside0.mk hp1
          have HNE := Aside0.mk hne
          have t1 : decide ((j : Int) < (v.length : Int)) = true := decide_eq_true (by omega)
          have j0 : (0 : Int) ≤ (j : Int) := by omega
          have j1 : (j : Int) < (v.length : Int) := by omega
          clear hvs hR hp1 hp2 hpc hcell hx hpg hpg2 hpw hne HOr
          go_wp2_with fail
          go_region
          go_wp2_with fail
          refine ⟨⟨j + 1, by omega, by go_num, ⟨_, ?_, Kd.R_drew (Kd.R_putn HRj.out (j : Int) ((x + 1) % 256))⟩, ⟨Kd.R_drew (R_farg HWr.out HPG.out _ _)⟩, ⟨?_⟩, ⟨?_⟩, ⟨below_drew (below_set HBr.out HP1.out)⟩⟩, by simp [intOf]; omega⟩
          · rw [List.length_set]; exact HVs.out
          · exact blk_drew ((Below.heap_setCell wr _ _ gC (by intro x; exact HNE.out x)).trans BCr.out)
          · exact blk_drew ((Below.heap_setCell wr _ _ w.heap.size (by intro x; exact HNE1.out x)).trans B1r.out)
        · obtain rfl : j = v.length := by omega
          have t1 : decide ((v.length : Int) < (v.length : Int)) = false := decide_eq_false (by omega)
          have HRr := Aside0.mk (Kd.C_below HR0.out HBr.out)
          obtain ⟨e0, e1, e2, e3, e4, e5⟩ := en_cells B1r.out
          have HWc := Aside0.mk (Kd.R_reads' HWr.out).2.2
          go_wp2_with fail
          (with_reducible refine (same_c HRr.out hc HWc.out hdw).mono ?_)
          rintro x z1 ⟨rfl, hb⟩
          have HB := Aside0.mk (below_then HBr.out HBr.out.size hb.below)
          clear hb
          go_wp2_with fail
          (with_reducible refine (Fk.known_ _).mono ?_)
          rintro x z2 ⟨rfl, hb⟩
          have HB := Aside0.mk (below_then HB.out HB.out.size hb)
          clear hb
          go_wp2_with fail
          go_ret
          exact ⟨rfl, HB.out⟩
    · skip
      go_wp2_with fail
      (with_reducible refine (Fk.known_ _).mono ?_)
      rintro x u9 ⟨rfl, hb⟩
      have HB := Aside0.mk (below_then HB.out HB.out.size hb)
      clear hb
      go_wp2_with fail
      go_ret
      exact ⟨rfl, HB.out⟩
  · skip
    go_wp2_with fail
    (with_reducible refine (Fk.known_ _).mono ?_)
    rintro x u9 ⟨rfl, hb⟩
    have HB := Aside0.mk (below_then HB.out HB.out.size hb)
    clear hb
    go_wp2_with fail
    go_ret
    exact ⟨rfl, HB.out⟩
theorem u8_range {x : Int} (h : (Lit.int .u8 x).wf = true) : 0 ≤ x ∧ x < 256 := by
  have h2 : 0 ≤ x ∧ x ≤ 255 := by simpa [Lit.wf, IntKind.min, IntKind.max, IntKind.bits, IntKind.signed] using h
  omega
theorem wb {l : List Int} (h : wBytes l) : ∀ x ∈ l, 0 ≤ x ∧ x < 256 := fun x hx => u8_range (h.2.2 x hx)
theorem tagsNewer (w : World) (cs0 : Array Value) (a0 : ByteArray × (Int × Int × Int) × Bool × List Int) (K0 : kEnt.K w a0 cs0.toList) (wf0 : wEnt a0) (cs1 : Array Value) (a1 : ByteArray × (Int × Int × Int) × Bool × List Int) (K1 : kEnt.K w a1 cs1.toList) (wf1 : wEnt a1) :
    Calls Try.prog 9 #[.agg cs0, .agg cs1] w fun e w' => e = .returned (.bool true) ∧ Below w.heap.size w w' := by
  obtain ⟨A0, c0, e0, hc0, C0⟩ := ent_cells K0
  obtain ⟨A1, c1, e1, hc1, C1⟩ := ent_cells K1
  rw [show cs0 = #[.string a0.1, .int .i64 a0.2.1.1, .int .i64 a0.2.1.2.1, .int .i64 a0.2.1.2.2, .bool a0.2.2.1, .slice A0 a0.2.2.2.length c0] from by rw [← Array.toList_inj, e0], show cs1 = #[.string a1.1, .int .i64 a1.2.1.1, .int .i64 a1.2.1.2.1, .int .i64 a1.2.1.2.2, .bool a1.2.2.1, .slice A1 a1.2.2.2.length c1] from by rw [← Array.toList_inj, e1]]
  have b0 := wf0.2.2.2
  have b1 := wf1.2.2.2
  exact newer_law w a0.1 a0.2.1.1 a0.2.1.2.1 a0.2.1.2.2 a0.2.2.1 a0.2.2.2 A0 c0 a1.1 a1.2.1.1 a1.2.1.2.1 a1.2.1.2.2 a1.2.2.1 a1.2.2.2 A1 c1 C0 C1 hc0 (by have := b0.2.1; omega) hc1 (by have := b1.2.1; omega) (wb b0) (wb b1)
end Go.Proofs.Ytbmbnkoggmeanaa.Tg
