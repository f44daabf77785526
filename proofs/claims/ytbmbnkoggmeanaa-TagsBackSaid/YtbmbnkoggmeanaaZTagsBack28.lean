/- The contract of the reference's Read: it tells what Read tells. Conditions: bytes that fit in memory. -/
import Derived.Test.YtbmbnkoggmeanaaZTagsBack27
namespace Go.Proofs.Ytbmbnkoggmeanaa.Tg
open Go.ChangeShapes Go.WideShapes Go.ChangeAt Go.RowKit Go.Proofs.Ytbmbnkoggmeanaa.Pk Go.Proofs.Ytbmbnkoggmeanaa.EncC Go.Proofs.Ytbmbnkoggmeanaa.Lex
open Go.Proofs.Ytbmbnkoggmeanaa.Hlp Go.Proofs.Ytbmbnkoggmeanaa.Wrd Go.Proofs.YtbmbnkoggmeanaaW.PrintWords Go.Proofs.YtbmbnkoggmeanaaW.PrintLast Go.Proofs.YtbmbnkoggmeanaaW.PrintMore
set_option linter.unusedVariables false
set_option linter.unusedSimpArgs false
theorem readP_ok {l : List Int} {en : En} {j : Nat} (h : getS ⟨l, 0⟩ = (en, ⟨l.drop j, 0⟩)) (hj : j ≤ l.length) : readP l = if j < l.length then (En.zero, 11) else (en, 0) := by
  unfold readP endP
  rw [h]
  simp only [if_true]
  by_cases h1 : j < l.length
  · have : l.drop j ≠ [] := by
      intro e
      have := congrArg List.length e
      rw [List.length_drop] at this; simp at this; omega
    rw [if_neg this, if_neg (by decide), if_pos h1]
  · have : l.drop j = [] := List.drop_eq_nil_of_le (by omega)
    rw [if_pos this, if_pos rfl, if_neg h1]
theorem readP_bad {l : List Int} {s : St} {e : Int} (h : getS ⟨l, 0⟩ = (En.zero, s)) (hs : s.e = e) (he : e ≠ 0) : readP l = (En.zero, e) := by
  unfold readP endP
  rw [h]
  simp only [hs, if_neg he]
/-- a row that is read stands behind stores into an entry's block -/
theorem C_far {w w1 : World} {g n m : Nat} {k : ByteArray} {a b c : Int} {h : Bool} {A B : Option Addr} {d : Nat} {v : List Int} (hC : Kd.C (Kd.int .u8) w B d v) (hb : w.heap[g]? = some (.cells #[.string k, .int .i64 a, .int .i64 b, .int .i64 c, .bool h, .slice A n m] 40 (0, 0))) (hf : ∀ q, q ≠ g → w1.heap[q]? = w.heap[q]?) : Kd.C (Kd.int .u8) w1 B d v := by
  obtain rfl : v.length = d := hC.1
  rcases Nat.eq_zero_or_pos v.length with h0 | h0
  · obtain rfl := List.length_eq_zero_iff.1 h0
    exact C_empty
  · obtain ⟨p, off, rfl, hc⟩ := C_block hC h0
    have hne : p ≠ g := by
      rintro rfl
      have := hc 0 h0
      rw [blk_cell hb] at this
      exact En.noByte _ _ this
    refine C_same hC fun q o hq => ?_
    injection hq with hq
    injection hq with hq _ _
    rw [← hq]
    exact hf p hne
theorem C_put6 {w : World} {g n m : Nat} {k k' : ByteArray} {a b c a' b' c' : Int} {h h' : Bool} {A B : Option Addr} {u : Value} {d : Nat} {v : List Int} (hC : Kd.C (Kd.int .u8) w B d v) (hb : w.heap[g]? = some (.cells #[.string k, .int .i64 a, .int .i64 b, .int .i64 c, .bool h, .slice A n m] 40 (0, 0))) : Kd.C (Kd.int .u8) (put6 w g k' a' b' c' h' u) B d v :=
  C_far hC hb (fun q hq => put6_far (w := w) (g := g) (k := k') (a := a') (b := b') (c := c') (h := h') (v := u) hq)
def RRead (w : World) (r : En × Int) (x : Ending) (w' : World) : Prop :=
  ∃ A c, x = .returned (.tuple #[.agg #[.string (strOfNums r.1.k), .int .i64 r.1.a, .int .i64 r.1.b, .int .i64 r.1.c, .bool r.1.h, .slice A r.1.v.length c], .int .i64 r.2]) ∧ Kd.C (Kd.int .u8) w' A r.1.v.length r.1.v ∧ r.1.v.length ≤ c ∧ Below w.heap.size w w'
theorem RRead.bad {w w' : World} (e : Int) (h : Below w.heap.size w w') : RRead w (En.zero, e) (.returned (.tuple #[.agg #[.string ⟨#[]⟩, .int .i64 0, .int .i64 0, .int .i64 0, .bool false, .slice none 0 0], .int .i64 e])) w' := ⟨none, 0, rfl, C_empty, Nat.le_refl _, h⟩
set_option maxHeartbeats 8000000 in
set_option maxRecDepth 100000 in
theorem rread_ {w : World} {A : Option Addr} {n c : Nat} {l : List Int} (hr : Kd.C (Kd.int .u8) w A n l) (hc : n ≤ c) (hl : n ≤ 140737488351232) (hb : ∀ x ∈ l, 0 ≤ x ∧ x < 256) :
    Calls Try.prog 21 #[.slice A n c] w (RRead w (readP l)) := by
  obtain rfl : l.length = n := hr.1
  have hu40 := Try.underlying40
  have hu23 := Try.underlying23
  have hu38 := Try.underlying38
  have HR := Aside0.mk (Kd.C_alloc hr (.cells zEn 40))
  have HB := Aside0.mk (below_alloc (Below.refl w.heap.size w) (.cells zEn 40))
  have B2 := Aside0.mk (blk_new w (.cells zEn 40))
  have HBt := Aside0.mk hb
  have HQ := Aside0.mk (rget_eq hb (Nat.zero_le l.length))
  clear hr hb
  go_enter Try.func21, Try.ntmps21
  go_upto_region 1 with fail
  generalize w.alloc (.cells zEn 40) = W at *
  go_wp2_with fail
  have K : Calls Try.prog 24 #[.slice A l.length c, .int .i64 0] W (RGet W (rgetS l 0)) := rgetE_ HR.out hc 0 (Nat.zero_le _) hl HBt.out
  (with_reducible refine K.mono ?_)
  clear K
  have HQ := HQ.out
  rw [List.drop_zero] at HQ
  rcases HQ with ⟨en, j, e1, hj, e2⟩ | ⟨e, s, he, e1, hs, e2⟩
  · have HP := Aside0.mk (readP_ok e2 hj)
    rw [e1]
    rintro x w1 ⟨Av, cv, rfl, hCv, hcv, hb⟩
    simp only at hCv hcv
    have HC := Aside0.mk (Kd.C_alloc hCv (.cells #[.string (strOfNums en.k), .int .i64 en.a, .int .i64 en.b, .int .i64 en.c, .bool en.h, .slice Av en.v.length cv] 40))
    have HB := Aside0.mk (below_alloc (below_then HB.out HB.out.size hb) (.cells #[.string (strOfNums en.k), .int .i64 en.a, .int .i64 en.b, .int .i64 en.c, .bool en.h, .slice Av en.v.length cv] 40))
    have B2 := Aside0.mk (blk_alloc (blk_below B2.out hb) (.cells #[.string (strOfNums en.k), .int .i64 en.a, .int .i64 en.b, .int .i64 en.c, .bool en.h, .slice Av en.v.length cv] 40))
    have B4 := Aside0.mk (blk_new w1 (.cells #[.string (strOfNums en.k), .int .i64 en.a, .int .i64 en.b, .int .i64 en.c, .bool en.h, .slice Av en.v.length cv] 40))
    clear hCv hb e1 e2
    go_upto_region 2 with fail
    obtain ⟨g4, hg4⟩ : ∃ g, w1.heap.size = g := ⟨_, rfl⟩
    rw [hg4] at B4
    simp only [hg4]
    generalize w1.alloc (.cells #[.string (strOfNums en.k), .int .i64 en.a, .int .i64 en.b, .int .i64 en.c, .bool en.h, .slice Av en.v.length cv] 40) = w2 at *
    clear hg4
    obtain ⟨n0, n1, n2, n3, n4, n5⟩ := en_cells B2.out
    obtain ⟨m0, m1, m2, m3, m4, m5⟩ := en_free B2.out
    obtain ⟨e0, e1, e2, e3, e4, e5⟩ := en_cells B4.out
    by_cases hlt : j < l.length
    · have t1 : decide (j < l.length) = true := decide_eq_true hlt
      have E := Lib.hid (show readP l = (En.zero, 11) by rw [HP.out, if_pos hlt])
      clear HP hlt
      go_wp2_with fail
      have bN := put6_blk (k' := ⟨#[]⟩) (a' := 0) (b' := 0) (c' := 0) (h' := false) (v := .slice none 0 0) B2.out
      refine bodyPost_ret (results_ct rfl _ _ w.heap.size 40 _ (0, 0) _ rfl bN Try.underlying40 rfl (by kernel_rfl)) rfl ?_
      rw [E.out]
      exact RRead.bad _ (put6_below HB.out (Nat.le_refl _))
    · have t1 : decide (j < l.length) = false := decide_eq_false hlt
      have E := Lib.hid (show readP l = (en, 0) by rw [HP.out, if_neg hlt])
      have HCv := HC
      clear HP hlt
      go_wp2_with fail
      have bN := put6_blk (k' := strOfNums en.k) (a' := en.a) (b' := en.b) (c' := en.c) (h' := en.h) (v := .slice Av en.v.length cv) B2.out
      refine bodyPost_ret (results_ct rfl _ _ w.heap.size 40 _ (0, 0) _ rfl bN Try.underlying40 rfl (by kernel_rfl)) rfl ?_
      rw [E.out]
      have hfin := C_put6 (k := ⟨#[]⟩) (a := 0) (b := 0) (c := 0) (h := false) (A := none) (n := 0) (m := 0) (k' := strOfNums en.k) (a' := en.a) (b' := en.b) (c' := en.c) (h' := en.h) (u := .slice Av en.v.length cv) HC.out B2.out
      have hbel := put6_below (k := strOfNums en.k) (a := en.a) (b := en.b) (c := en.c) (h := en.h) (v := .slice Av en.v.length cv) HB.out (Nat.le_refl _)
      exact ⟨Av, cv, rfl, hfin, hcv, hbel⟩
  · have E := Lib.hid (readP_bad e2 hs he)
    have he2 : (e != 0) = true := bne_iff_ne.2 he
    rw [e1]
    rintro x w1 ⟨Av, cv, rfl, hCv, hcv, hb⟩
    simp only at hCv hcv
    have HB := Aside0.mk (below_then HB.out HB.out.size hb)
    have B2 := Aside0.mk (blk_below B2.out hb)
    clear hCv hb e1 e2 hs he
    go_upto_region 2 with fail
    have HB := Aside0.mk (below_alloc HB.out (.cells #[.string (strOfNums En.zero.k), .int .i64 En.zero.a, .int .i64 En.zero.b, .int .i64 En.zero.c, .bool En.zero.h, .slice Av En.zero.v.length cv] 40))
    have B2 := Aside0.mk (blk_alloc B2.out (.cells #[.string (strOfNums En.zero.k), .int .i64 En.zero.a, .int .i64 En.zero.b, .int .i64 En.zero.c, .bool En.zero.h, .slice Av En.zero.v.length cv] 40))
    generalize w1.alloc (.cells #[.string (strOfNums En.zero.k), .int .i64 En.zero.a, .int .i64 En.zero.b, .int .i64 En.zero.c, .bool En.zero.h, .slice Av En.zero.v.length cv] 40) = w2 at *
    obtain ⟨n0, n1, n2, n3, n4, n5⟩ := en_cells B2.out
    obtain ⟨m0, m1, m2, m3, m4, m5⟩ := en_free B2.out
    go_wp2_with fail
    have bN := put6_blk (k' := ⟨#[]⟩) (a' := 0) (b' := 0) (c' := 0) (h' := false) (v := .slice none 0 0) B2.out
    refine bodyPost_ret (results_ct rfl _ _ w.heap.size 40 _ (0, 0) _ rfl bN Try.underlying40 rfl (by kernel_rfl)) rfl ?_
    rw [E.out]
    exact RRead.bad _ (put6_below HB.out (Nat.le_refl _))
end Go.Proofs.Ytbmbnkoggmeanaa.Tg
