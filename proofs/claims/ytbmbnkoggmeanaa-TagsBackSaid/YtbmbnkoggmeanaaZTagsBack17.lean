/- The contracts of tags.Newer and the reference's Newer. Conditions: bytes that fit in memory. -/
import Derived.Test.YtbmbnkoggmeanaaZTagsBack10
import Derived.Test.YtbmbnkoggmeanaaZTagsBack16
import Derived.Deep.RegionHeld3
namespace Go.Proofs.Ytbmbnkoggmeanaa.Tg
open Go.ChangeShapes Go.WideShapes Go.ChangeAt Go.RowKit Go.Proofs.Ytbmbnkoggmeanaa.Pk
open Go.Proofs.Ytbmbnkoggmeanaa.Hlp Go.Proofs.Ytbmbnkoggmeanaa.Wrd Go.Proofs.YtbmbnkoggmeanaaW.PrintWords Go.Proofs.YtbmbnkoggmeanaaW.PrintLast Go.Proofs.YtbmbnkoggmeanaaW.PrintMore
set_option linter.unusedVariables false
set_option linter.unusedSimpArgs false
open Go.Proofs.Ytbmbnkoggmeanaa.Lex in
theorem cmp_c (a b c x y z : Int) {r : Int} (hr : cmpV a b c x y z = r) (w : World) : Calls Try.prog 14 #[.agg #[.int .i64 a, .int .i64 b, .int .i64 c], .agg #[.int .i64 x, .int .i64 y, .int .i64 z]] w fun e w' => e = .returned (.int .i64 r) ∧ Below w.heap.size w w' := by
  subst hr
  exact QA.tags_Compare.calls 4 a b c x y z _ w (CmpQA.compare_f 0 a b c x y z)
def ROne (w : World) (r : Int) (u v : Value) : Ending → World → Prop := fun x w' => x = .returned (if r < 0 then v else u) ∧ Below w.heap.size w w'
def NewerPost (r : Int) (P Q : Ending → World → Prop) : Ending → World → Prop := if 0 ≤ r then P else Q
open Go.Proofs.Ytbmbnkoggmeanaa.Lex in
theorem rcmp_c (a b c x y z : Int) {r : Int} (hr : cmpV a b c x y z = r) (w : World) : Calls Try.prog 15 #[.agg #[.int .i64 a, .int .i64 b, .int .i64 c], .agg #[.int .i64 x, .int .i64 y, .int .i64 z]] w fun e w' => e = .returned (.int .i64 r) ∧ Below w.heap.size w w' := by
  subst hr
  refine (QR.icehouseref03_Compare.calls 4 a b c x y z _ w (CmpQR.rcompare_f 0 a b c x y z)).mono ?_
  rintro e w1 ⟨rfl, hb⟩
  exact ⟨rfl, by first | exact hb | exact hb.below⟩
set_option maxHeartbeats 2000000 in
set_option maxRecDepth 100000 in
theorem newer_ {w : World} {A A' : Option Addr} {n n' d d' : Nat} {v v' : List Int} (k : ByteArray) (a b c : Int) (h : Bool) (k' : ByteArray) (a' b' c' : Int) (h' : Bool) {r : Int} (hcmp : Lex.cmpV a b c a' b' c' = r) (hr : Kd.C (Kd.int .u8) w A n v) (hc : n ≤ d) (hl : n ≤ 140737488351232) (hr' : Kd.C (Kd.int .u8) w A' n' v') (hc' : n' ≤ d') (hl' : n' ≤ 140737488351232) :
    Calls Try.prog 35 #[.agg #[.string k, .int .i64 a, .int .i64 b, .int .i64 c, .bool h, .slice A n d], .agg #[.string k', .int .i64 a', .int .i64 b', .int .i64 c', .bool h', .slice A' n' d']] w (NewerPost r (CopyPost w k a b c h v) (CopyPost w k' a' b' c' h' v')) := by
  obtain rfl : v.length = n := hr.1
  obtain rfl : v'.length = n' := hr'.1
  have hu40 := Try.underlying40
  have hu23 := Try.underlying23
  have hu38 := Try.underlying38
  obtain ⟨b1, b2, b3⟩ := three_blks w (.cells #[.string k, .int .i64 a, .int .i64 b, .int .i64 c, .bool h, .slice A v.length d] 40) (.cells #[.string k', .int .i64 a', .int .i64 b', .int .i64 c', .bool h', .slice A' v'.length d'] 40) (.cells zEn 40)
  have HR := Aside0.mk (Kd.C_alloc (Kd.C_alloc (Kd.C_alloc hr (.cells #[.string k, .int .i64 a, .int .i64 b, .int .i64 c, .bool h, .slice A v.length d] 40)) (.cells #[.string k', .int .i64 a', .int .i64 b', .int .i64 c', .bool h', .slice A' v'.length d'] 40)) (.cells zEn 40))
  have HR' := Aside0.mk (Kd.C_alloc (Kd.C_alloc (Kd.C_alloc hr' (.cells #[.string k, .int .i64 a, .int .i64 b, .int .i64 c, .bool h, .slice A v.length d] 40)) (.cells #[.string k', .int .i64 a', .int .i64 b', .int .i64 c', .bool h', .slice A' v'.length d'] 40)) (.cells zEn 40))
  have HB := Aside0.mk (below_alloc (below_allocs (Below.refl w.heap.size w) (.cells #[.string k, .int .i64 a, .int .i64 b, .int .i64 c, .bool h, .slice A v.length d] 40) (.cells #[.string k', .int .i64 a', .int .i64 b', .int .i64 c', .bool h', .slice A' v'.length d'] 40)) (.cells zEn 40))
  have B1 := Aside0.mk b1
  have B2 := Aside0.mk b2
  have B3 := Aside0.mk b3
  clear hr hr' b1 b2 b3
  have HK := Aside0.mk (fun w => cmp_c a b c a' b' c' hcmp w)
  clear hcmp
  go_enter Try.func35, Try.ntmps35
  go_upto_region 1 with fail
  generalize ((w.alloc (.cells #[.string k, .int .i64 a, .int .i64 b, .int .i64 c, .bool h, .slice A v.length d] 40)).alloc (.cells #[.string k', .int .i64 a', .int .i64 b', .int .i64 c', .bool h', .slice A' v'.length d'] 40)).alloc (.cells zEn 40) = W at *
  obtain ⟨e0, e1, e2, e3, e4, e5⟩ := en_cells B1.out
  obtain ⟨g0, g1, g2, g3, g4, g5⟩ := en_cells B2.out
  go_wp2_with fail
  (with_reducible refine (HK.out _).mono ?_)
  rintro x w1 ⟨rfl, hb⟩
  have HB1 := Aside0.mk (below_then HB.out HB.out.size hb)
  have B1 := Aside0.mk (blk_below B1.out hb)
  have B2 := Aside0.mk (blk_below B2.out hb)
  have B3 := Aside0.mk (blk_below B3.out hb)
  have HR := Aside0.mk (Kd.C_below HR.out hb)
  have HR' := Aside0.mk (Kd.C_below HR'.out hb)
  clear hb e0 e1 e2 e3 e4 e5 g0 g1 g2 g3 g4 g5
  obtain ⟨e0, e1, e2, e3, e4, e5⟩ := en_cells B1.out
  obtain ⟨g0, g1, g2, g3, g4, g5⟩ := en_cells B2.out
  by_cases h0 : 0 ≤ r
  · have t := decide_eq_true h0
    have H0 := Aside0.mk h0
    clear h0
    go_wp2_with fail
    (with_reducible refine (copy_ k a b c h HR.out hc hl).mono ?_)
    rintro x w3 ⟨A2, c2, rfl, ho, hb⟩
    have HO := Aside0.mk (Kd.R_lower ho HB1.out.size)
    have HB2 := Aside0.mk (below_then HB1.out HB1.out.size hb)
    have B4 := Aside0.mk (blk_below B3.out hb)
    have hS := Aside0.mk (blk_lt B3.out)
    have HO := Aside0.mk ho
    clear ho hb e0 e1 e2 e3 e4 e5 g0 g1 g2 g3 g4 g5
    obtain ⟨n0, n1, n2, n3, n4, n5⟩ := en_cells B4.out
    obtain ⟨m0, m1, m2, m3, m4, m5⟩ := en_free B4.out
    go_wp2_with fail
    have bN3 := put6_blk (k' := k) (a' := a) (b' := b) (c' := c) (h' := h) (v := .slice A2 v.length c2) B4.out
    refine bodyPost_ret (put6_ret rfl _ rfl bN3) rfl ?_
    unfold NewerPost
    rw [if_pos H0.out]
    exact ⟨A2, c2, rfl, Kd.R_lower (put6_R HO.out hS.out) HB1.out.size, put6_below HB2.out (Nat.le_add_right _ 2)⟩
  · have t := decide_eq_false h0
    have H0 := Aside0.mk h0
    clear h0
    go_wp2_with fail
    (with_reducible refine (copy_ k' a' b' c' h' HR'.out hc' hl').mono ?_)
    rintro x w3 ⟨A2, c2, rfl, ho, hb⟩
    have HO := Aside0.mk (Kd.R_lower ho HB1.out.size)
    have HB2 := Aside0.mk (below_then HB1.out HB1.out.size hb)
    have B4 := Aside0.mk (blk_below B3.out hb)
    have hS := Aside0.mk (blk_lt B3.out)
    have HO := Aside0.mk ho
    clear ho hb e0 e1 e2 e3 e4 e5 g0 g1 g2 g3 g4 g5
    obtain ⟨n0, n1, n2, n3, n4, n5⟩ := en_cells B4.out
    obtain ⟨m0, m1, m2, m3, m4, m5⟩ := en_free B4.out
    go_wp2_with fail
    have bN3 := put6_blk (k' := k') (a' := a') (b' := b') (c' := c') (h' := h') (v := .slice A2 v'.length c2) B4.out
    refine bodyPost_ret (put6_ret rfl _ rfl bN3) rfl ?_
    unfold NewerPost
    rw [if_neg (by have := H0.out; omega)]
    exact ⟨A2, c2, rfl, Kd.R_lower (put6_R HO.out hS.out) HB1.out.size, put6_below HB2.out (Nat.le_add_right _ 2)⟩
set_option maxHeartbeats 2000000 in
set_option maxRecDepth 100000 in
theorem rnewer_ {w : World} {A A' : Option Addr} {n n' d d' : Nat} {v v' : List Int} (k : ByteArray) (a b c : Int) (h : Bool) (k' : ByteArray) (a' b' c' : Int) (h' : Bool) {r : Int} (hcmp : Lex.cmpV a b c a' b' c' = r) (hr : Kd.C (Kd.int .u8) w A n v) (hc : n ≤ d) (hl : n ≤ 140737488351232) (hr' : Kd.C (Kd.int .u8) w A' n' v') (hc' : n' ≤ d') (hl' : n' ≤ 140737488351232) :
    Calls Try.prog 37 #[.agg #[.string k, .int .i64 a, .int .i64 b, .int .i64 c, .bool h, .slice A n d], .agg #[.string k', .int .i64 a', .int .i64 b', .int .i64 c', .bool h', .slice A' n' d']] w (ROne w r (.agg #[.string k, .int .i64 a, .int .i64 b, .int .i64 c, .bool h, .slice A n d]) (.agg #[.string k', .int .i64 a', .int .i64 b', .int .i64 c', .bool h', .slice A' n' d'])) := by
  obtain rfl : v.length = n := hr.1
  obtain rfl : v'.length = n' := hr'.1
  have hu40 := Try.underlying40
  have hu23 := Try.underlying23
  have hu38 := Try.underlying38
  obtain ⟨b1, b2, b3⟩ := three_blks w (.cells #[.string k, .int .i64 a, .int .i64 b, .int .i64 c, .bool h, .slice A v.length d] 40) (.cells #[.string k', .int .i64 a', .int .i64 b', .int .i64 c', .bool h', .slice A' v'.length d'] 40) (.cells zEn 40)
  have HR := Aside0.mk (Kd.C_alloc (Kd.C_alloc (Kd.C_alloc hr (.cells #[.string k, .int .i64 a, .int .i64 b, .int .i64 c, .bool h, .slice A v.length d] 40)) (.cells #[.string k', .int .i64 a', .int .i64 b', .int .i64 c', .bool h', .slice A' v'.length d'] 40)) (.cells zEn 40))
  have HR' := Aside0.mk (Kd.C_alloc (Kd.C_alloc (Kd.C_alloc hr' (.cells #[.string k, .int .i64 a, .int .i64 b, .int .i64 c, .bool h, .slice A v.length d] 40)) (.cells #[.string k', .int .i64 a', .int .i64 b', .int .i64 c', .bool h', .slice A' v'.length d'] 40)) (.cells zEn 40))
  have HB := Aside0.mk (below_alloc (below_allocs (Below.refl w.heap.size w) (.cells #[.string k, .int .i64 a, .int .i64 b, .int .i64 c, .bool h, .slice A v.length d] 40) (.cells #[.string k', .int .i64 a', .int .i64 b', .int .i64 c', .bool h', .slice A' v'.length d'] 40)) (.cells zEn 40))
  have B1 := Aside0.mk b1
  have B2 := Aside0.mk b2
  have B3 := Aside0.mk b3
  clear hr hr' b1 b2 b3
  have HK := Aside0.mk (fun w => rcmp_c a b c a' b' c' hcmp w)
  clear hcmp
  go_enter Try.func37, Try.ntmps37
  go_upto_region 1 with fail
  generalize ((w.alloc (.cells #[.string k, .int .i64 a, .int .i64 b, .int .i64 c, .bool h, .slice A v.length d] 40)).alloc (.cells #[.string k', .int .i64 a', .int .i64 b', .int .i64 c', .bool h', .slice A' v'.length d'] 40)).alloc (.cells zEn 40) = W at *
  obtain ⟨e0, e1, e2, e3, e4, e5⟩ := en_cells B1.out
  obtain ⟨g0, g1, g2, g3, g4, g5⟩ := en_cells B2.out
  go_wp2_with fail
  (with_reducible refine (HK.out _).mono ?_)
  rintro x w1 ⟨rfl, hb⟩
  have HB1 := Aside0.mk (below_then HB.out HB.out.size hb)
  have B1 := Aside0.mk (blk_below B1.out hb)
  have B2 := Aside0.mk (blk_below B2.out hb)
  have B3 := Aside0.mk (blk_below B3.out hb)
  have HR := Aside0.mk (Kd.C_below HR.out hb)
  have HR' := Aside0.mk (Kd.C_below HR'.out hb)
  clear hb e0 e1 e2 e3 e4 e5 g0 g1 g2 g3 g4 g5
  obtain ⟨e0, e1, e2, e3, e4, e5⟩ := en_cells B1.out
  obtain ⟨g0, g1, g2, g3, g4, g5⟩ := en_cells B2.out
  by_cases h0 : r < 0
  · have t := decide_eq_true h0
    have H0 := Aside0.mk h0
    clear h0
    obtain ⟨n0, n1, n2, n3, n4, n5⟩ := en_cells B3.out
    obtain ⟨m0, m1, m2, m3, m4, m5⟩ := en_free B3.out
    go_wp2_with fail
    have bN3 := put6_blk (k' := k') (a' := a') (b' := b') (c' := c') (h' := h') (v := .slice A' v'.length d') B3.out
    refine bodyPost_ret (put6_ret rfl _ rfl bN3) rfl ?_
    refine ⟨?_, put6_below HB1.out (Nat.le_add_right _ 2)⟩
    rw [if_pos (by have := H0.out; omega)]
  · have t := decide_eq_false h0
    have H0 := Aside0.mk h0
    clear h0
    obtain ⟨n0, n1, n2, n3, n4, n5⟩ := en_cells B3.out
    obtain ⟨m0, m1, m2, m3, m4, m5⟩ := en_free B3.out
    go_wp2_with fail
    have bN3 := put6_blk (k' := k) (a' := a) (b' := b) (c' := c) (h' := h) (v := .slice A v.length d) B3.out
    refine bodyPost_ret (put6_ret rfl _ rfl bN3) rfl ?_
    refine ⟨?_, put6_below HB1.out (Nat.le_add_right _ 2)⟩
    rw [if_neg (by have := H0.out; omega)]
end Go.Proofs.Ytbmbnkoggmeanaa.Tg
