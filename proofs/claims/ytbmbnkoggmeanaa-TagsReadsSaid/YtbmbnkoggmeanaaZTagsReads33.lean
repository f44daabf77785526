/- The walk of the law TagsReads, for every row of bytes. No condition. -/
import Derived.Test.YtbmbnkoggmeanaaZTagsReads30
import Derived.Test.YtbmbnkoggmeanaaZTagsReads32
namespace Go.Proofs.Ytbmbnkoggmeanaa.Tg
open Go.ChangeShapes Go.WideShapes Go.ChangeAt Go.RowKit Go.Proofs.Ytbmbnkoggmeanaa.Pk Go.Proofs.Ytbmbnkoggmeanaa.EncC Go.Proofs.Ytbmbnkoggmeanaa.Lex Go.Proofs.Ytbmbnkoggmeanaa.Opn
open Go.Proofs.Ytbmbnkoggmeanaa.Hlp Go.Proofs.Ytbmbnkoggmeanaa.Wrd Go.Proofs.YtbmbnkoggmeanaaW.PrintWords Go.Proofs.YtbmbnkoggmeanaaW.PrintLast Go.Proofs.YtbmbnkoggmeanaaW.PrintMore
set_option linter.unusedVariables false
set_option linter.unusedSimpArgs false
/-- a row that is read stands while the reader's block is written -/
theorem C_grown {w w1 : World} {g n : Nat} {A b : Option Addr} {c : Nat} {l xs : List Int} {e : Int} {ins : Bool} (hC : Kd.C (Kd.int .u8) w A n xs) (hrd : Rd w g b c l e ins) (hg : w.grownBy w1 (some g)) : Kd.C (Kd.int .u8) w1 A n xs := by
  obtain rfl : xs.length = n := hC.1
  rcases Nat.eq_zero_or_pos xs.length with h0 | h0
  · obtain rfl := List.length_eq_zero_iff.1 h0
    exact C_empty
  · obtain ⟨p, off, rfl, hc⟩ := C_block hC h0
    have hne : p ≠ g := by
      rintro rfl
      exact hrd.noByte _ _ (hc 0 h0)
    have hlt : p < w.heap.size := by
      have := hc 0 h0
      cases hq : w.heap[p]? with
      | none => simp [World.cell?, hq] at this
      | some o => exact blk_lt hq
    refine C_same hC fun q o hq => ?_
    injection hq with hq
    injection hq with hq _ _
    rw [← hq]
    exact hg.block p hlt (by intro x; injection x with x; exact hne x)
theorem rowS_vlen (s : St) : (rowS s).1.length ≤ 65536 := by
  unfold rowS
  repeat' split
  all_goals simp
  rename_i h _
  rw [Nat.min_def]; split <;> omega
theorem getS_vlen (s : St) : (getS s).1.v.length ≤ 65536 := by
  unfold getS
  simp only
  split
  · split
    · exact rowS_vlen _
    · simp [En.zero]
  · split
    · simp
    · simp [En.zero]
theorem readP_vlen (l : List Int) : (readP l).1.v.length ≤ 65536 := by
  unfold readP
  split
  · exact getS_vlen _
  · simp [En.zero]
set_option maxHeartbeats 16000000 in
set_option maxRecDepth 100000 in
theorem reads_law (w : World) (A : Option Addr) (c : Nat) (l : List Int) (hr : Kd.C (Kd.int .u8) w A l.length l) (hc : l.length ≤ c) (hb : ∀ x ∈ l, 0 ≤ x ∧ x < 256) (hl : l.length ≤ 140737488351232) :
    Calls Try.prog 5 #[.slice A l.length c] w fun e w' => e = .returned (.bool true) ∧ Below w.heap.size w w' := by
  have hu40 := Try.underlying40
  have hu23 := Try.underlying23
  have hu38 := Try.underlying38
  have HR0 := Aside0.mk hr
  have HBt := Aside0.mk hb
  have HQ := Aside0.mk (rget_eq hb (Nat.zero_le l.length))
  by_cases h15 : 1500 < l.length
  · have t1 : decide (1500 < (l.length : Int)) = true := decide_eq_true (by omega)
    clear hr hb
    go_enter Try.func5, Try.ntmps5
    go_wp2_with fail
    (with_reducible refine (Fk.known_ _).mono ?_)
    rintro e w9 ⟨rfl, hb⟩
    go_wp2_with fail
    go_ret
    exact ⟨rfl, hb⟩
  · have t1 : decide (1500 < (l.length : Int)) = false := decide_eq_false (by omega)
    clear hr hb
    go_enter Try.func5, Try.ntmps5
    go_wp2_with fail
    obtain ⟨⟨en, er⟩, hrp⟩ : ∃ r, readP l = r := ⟨_, rfl⟩
    have HRP := Aside0.mk hrp
    (with_reducible refine (read_ HR0.out hc HBt.out hl).mono ?_)
    rw [hrp]
    clear hrp
    rintro x w1 ⟨A3, c3, rfl, ho, hb⟩
    simp only at ho
    have HC3 := Aside0.mk (Kd.R_reads' ho).2.2
    have hc3 := (Kd.R_reads' ho).2.1
    have HB := Aside0.mk hb
    clear ho hb
    have B3 := Aside0.mk (blk_new w1 (.cells #[.string (strOfNums en.k), .int .i64 en.a, .int .i64 en.b, .int .i64 en.c, .bool en.h, .slice A3 en.v.length c3] 40))
    have HB := Aside0.mk (below_alloc HB.out (.cells #[.string (strOfNums en.k), .int .i64 en.a, .int .i64 en.b, .int .i64 en.c, .bool en.h, .slice A3 en.v.length c3] 40))
    have HC3 := Aside0.mk (Kd.C_alloc HC3.out (.cells #[.string (strOfNums en.k), .int .i64 en.a, .int .i64 en.b, .int .i64 en.c, .bool en.h, .slice A3 en.v.length c3] 40))
    go_upto_region 4 with fail
    obtain ⟨g3, hg3⟩ : ∃ g, w1.heap.size = g := ⟨_, rfl⟩
    rw [hg3] at B3
    simp only [hg3]
    generalize w1.alloc (.cells #[.string (strOfNums en.k), .int .i64 en.a, .int .i64 en.b, .int .i64 en.c, .bool en.h, .slice A3 en.v.length c3] 40) = u1 at *
    clear hg3
    go_wp2_with fail
    (with_reducible refine (rread_ (Kd.C_below HR0.out HB.out) hc hl HBt.out).mono ?_)
    rw [HRP.out]
    rintro x w2 ⟨A5, c5, rfl, hC5, hc5, hb⟩
    simp only at hC5 hc5
    have HC5 := Aside0.mk hC5
    have HC3 := Aside0.mk (Kd.C_below HC3.out hb)
    have B3 := Aside0.mk (blk_below B3.out hb)
    have HB := Aside0.mk (below_then HB.out HB.out.size hb)
    clear hC5 hb
    have B5 := Aside0.mk (blk_new w2 (.cells #[.string (strOfNums en.k), .int .i64 en.a, .int .i64 en.b, .int .i64 en.c, .bool en.h, .slice A5 en.v.length c5] 40))
    have HB := Aside0.mk (below_alloc HB.out (.cells #[.string (strOfNums en.k), .int .i64 en.a, .int .i64 en.b, .int .i64 en.c, .bool en.h, .slice A5 en.v.length c5] 40))
    have B3 := Aside0.mk (blk_alloc B3.out (.cells #[.string (strOfNums en.k), .int .i64 en.a, .int .i64 en.b, .int .i64 en.c, .bool en.h, .slice A5 en.v.length c5] 40))
    have HC3 := Aside0.mk (Kd.C_alloc HC3.out (.cells #[.string (strOfNums en.k), .int .i64 en.a, .int .i64 en.b, .int .i64 en.c, .bool en.h, .slice A5 en.v.length c5] 40))
    have HC5 := Aside0.mk (Kd.C_alloc HC5.out (.cells #[.string (strOfNums en.k), .int .i64 en.a, .int .i64 en.b, .int .i64 en.c, .bool en.h, .slice A5 en.v.length c5] 40))
    go_upto_region 5 with fail
    obtain ⟨g5, hg5⟩ : ∃ g, w2.heap.size = g := ⟨_, rfl⟩
    rw [hg5] at B5
    simp only [hg5]
    generalize w2.alloc (.cells #[.string (strOfNums en.k), .int .i64 en.a, .int .i64 en.b, .int .i64 en.c, .bool en.h, .slice A5 en.v.length c5] 40) = u2 at *
    clear hg5
    go_wp2_with fail
    (with_reducible refine (new_ (Kd.C_below HR0.out HB.out) hc HBt.out hl).mono ?_)
    rintro x w3 ⟨gr, br, cr, rfl, hrd, hb, hgr1, hgr2⟩
    have q3 := blk_lt B3.out
    have q5 := blk_lt B5.out
    have HRd := Aside0.mk hrd
    have HC3 := Aside0.mk (Kd.C_below HC3.out hb)
    have HC5 := Aside0.mk (Kd.C_below HC5.out hb)
    have B3 := Aside0.mk (blk_below B3.out hb)
    have B5 := Aside0.mk (blk_below B5.out hb)
    have n3 : Aside0 (some g3 ≠ some gr) := ⟨by intro x; injection x with x; omega⟩
    have n5 : Aside0 (some g5 ≠ some gr) := ⟨by intro x; injection x with x; omega⟩
    have hgw : w.heap.size ≤ gr := Nat.le_trans HB.out.size hgr1
    have HGw := Aside0.mk hgw
    have HB := Aside0.mk (below_then HB.out HB.out.size hb)
    clear hrd hb hgr1 hgr2 hgw q3 q5
    go_wp2_with fail
    (with_reducible refine (get_ HRd.out hl).mono ?_)
    obtain ⟨⟨en2, s2⟩, hg⟩ : ∃ r, getS ⟨l, 0⟩ = r := ⟨_, rfl⟩
    have HG := Aside0.mk hg
    rw [hg]
    clear hg
    rintro x w4 ⟨A8, c8, rfl, ho, b8, d8, hrd, hgw⟩
    simp only at ho hrd
    have HC8 := Aside0.mk (Kd.R_reads' ho).2.2
    have hc8 := (Kd.R_reads' ho).2.1
    have HC3 := Aside0.mk (C_grown HC3.out HRd.out hgw)
    have HC5 := Aside0.mk (C_grown HC5.out HRd.out hgw)
    have B3 := Aside0.mk (blk_grown B3.out hgw n3.out)
    have B5 := Aside0.mk (blk_grown B5.out hgw n5.out)
    have HB := Aside0.mk (pw_below_grown HB.out _ HB.out.size hgw (by intro k hk; injection hk with hk; rw [← hk]; exact HGw.out))
    have HRd := Aside0.mk hrd
    clear ho hrd hgw
    have B8 := Aside0.mk (blk_new w4 (.cells #[.string (strOfNums en2.k), .int .i64 en2.a, .int .i64 en2.b, .int .i64 en2.c, .bool en2.h, .slice A8 en2.v.length c8] 40))
    have HB := Aside0.mk (below_alloc HB.out (.cells #[.string (strOfNums en2.k), .int .i64 en2.a, .int .i64 en2.b, .int .i64 en2.c, .bool en2.h, .slice A8 en2.v.length c8] 40))
    have B3 := Aside0.mk (blk_alloc B3.out (.cells #[.string (strOfNums en2.k), .int .i64 en2.a, .int .i64 en2.b, .int .i64 en2.c, .bool en2.h, .slice A8 en2.v.length c8] 40))
    have B5 := Aside0.mk (blk_alloc B5.out (.cells #[.string (strOfNums en2.k), .int .i64 en2.a, .int .i64 en2.b, .int .i64 en2.c, .bool en2.h, .slice A8 en2.v.length c8] 40))
    have HC3 := Aside0.mk (Kd.C_alloc HC3.out (.cells #[.string (strOfNums en2.k), .int .i64 en2.a, .int .i64 en2.b, .int .i64 en2.c, .bool en2.h, .slice A8 en2.v.length c8] 40))
    have HC5 := Aside0.mk (Kd.C_alloc HC5.out (.cells #[.string (strOfNums en2.k), .int .i64 en2.a, .int .i64 en2.b, .int .i64 en2.c, .bool en2.h, .slice A8 en2.v.length c8] 40))
    have HC8 := Aside0.mk (Kd.C_alloc HC8.out (.cells #[.string (strOfNums en2.k), .int .i64 en2.a, .int .i64 en2.b, .int .i64 en2.c, .bool en2.h, .slice A8 en2.v.length c8] 40))
    have HRd := Aside0.mk (HRd.out.below (below_alloc (Below.refl _ _) (.cells #[.string (strOfNums en2.k), .int .i64 en2.a, .int .i64 en2.b, .int .i64 en2.c, .bool en2.h, .slice A8 en2.v.length c8] 40)))
    go_upto_region 7 with fail
    obtain ⟨g8, hg8⟩ : ∃ g, w4.heap.size = g := ⟨_, rfl⟩
    rw [hg8] at B8
    simp only [hg8]
    generalize w4.alloc (.cells #[.string (strOfNums en2.k), .int .i64 en2.a, .int .i64 en2.b, .int .i64 en2.c, .bool en2.h, .slice A8 en2.v.length c8] 40) = u4 at *
    clear hg8
    go_wp2_with fail
    have K : Calls Try.prog 24 #[.slice A l.length c, .int .i64 0] u4 (RGet u4 (rgetS l 0)) := rgetE_ (Kd.C_below HR0.out HB.out) hc 0 (Nat.zero_le _) hl HBt.out
    have HQ := HQ.out
    rw [List.drop_zero, HG.out] at HQ
    (with_reducible refine K.mono ?_)
    clear K
    rcases HQ with ⟨en3, j, q1, hj, q2⟩ | ⟨e3, s3, he, q1, hs, q2⟩
    · obtain ⟨rfl, rfl⟩ := Prod.mk.inj q2
      rw [q1]
      have hle : ((l.drop j).length : Int) = (l.length : Int) - (j : Int) := by rw [List.length_drop]; omega
      have HLen : Aside0 (en2.v.length ≤ 140737488351232) := ⟨by have := getS_vlen ⟨l, 0⟩; rw [HG.out] at this; simp only at this; omega⟩
      have HLen2 : Aside0 (en.v.length ≤ 140737488351232) := ⟨by have := readP_vlen l; rw [HRP.out] at this; simp only at this; omega⟩
      have teq2 : (((l.drop j).length : Int) != (l.length : Int) - (j : Int)) = false := by rw [hle]; simp
      obtain ⟨nd, hnd⟩ : ∃ nd, (l.drop j).length = nd := ⟨_, rfl⟩
      rw [hnd] at teq2
      have HNd := Lib.hid hnd
      obtain ⟨en3, he3⟩ : ∃ en3, en2 = en3 := ⟨_, rfl⟩
      obtain rfl := he3
      clear q1 q2 hle hnd
      rintro x w5 ⟨A9, c9, rfl, hC9, hc9, hb⟩
      simp only at hC9 hc9
      have HC9 := Aside0.mk hC9
      have HC3 := Aside0.mk (Kd.C_below HC3.out hb)
      have HC5 := Aside0.mk (Kd.C_below HC5.out hb)
      have HC8 := Aside0.mk (Kd.C_below HC8.out hb)
      have B3 := Aside0.mk (blk_below B3.out hb)
      have B5 := Aside0.mk (blk_below B5.out hb)
      have B8 := Aside0.mk (blk_below B8.out hb)
      have HRd := Aside0.mk (HRd.out.below hb)
      have HB := Aside0.mk (below_then HB.out HB.out.size hb)
      clear hC9 hb
      have B9 := Aside0.mk (blk_new w5 (.cells #[.string (strOfNums en2.k), .int .i64 en2.a, .int .i64 en2.b, .int .i64 en2.c, .bool en2.h, .slice A9 en2.v.length c9] 40))
      have HB := Aside0.mk (below_alloc HB.out (.cells #[.string (strOfNums en2.k), .int .i64 en2.a, .int .i64 en2.b, .int .i64 en2.c, .bool en2.h, .slice A9 en2.v.length c9] 40))
      have B3 := Aside0.mk (blk_alloc B3.out (.cells #[.string (strOfNums en2.k), .int .i64 en2.a, .int .i64 en2.b, .int .i64 en2.c, .bool en2.h, .slice A9 en2.v.length c9] 40))
      have B5 := Aside0.mk (blk_alloc B5.out (.cells #[.string (strOfNums en2.k), .int .i64 en2.a, .int .i64 en2.b, .int .i64 en2.c, .bool en2.h, .slice A9 en2.v.length c9] 40))
      have B8 := Aside0.mk (blk_alloc B8.out (.cells #[.string (strOfNums en2.k), .int .i64 en2.a, .int .i64 en2.b, .int .i64 en2.c, .bool en2.h, .slice A9 en2.v.length c9] 40))
      have HC3 := Aside0.mk (Kd.C_alloc HC3.out (.cells #[.string (strOfNums en2.k), .int .i64 en2.a, .int .i64 en2.b, .int .i64 en2.c, .bool en2.h, .slice A9 en2.v.length c9] 40))
      have HC5 := Aside0.mk (Kd.C_alloc HC5.out (.cells #[.string (strOfNums en2.k), .int .i64 en2.a, .int .i64 en2.b, .int .i64 en2.c, .bool en2.h, .slice A9 en2.v.length c9] 40))
      have HC8 := Aside0.mk (Kd.C_alloc HC8.out (.cells #[.string (strOfNums en2.k), .int .i64 en2.a, .int .i64 en2.b, .int .i64 en2.c, .bool en2.h, .slice A9 en2.v.length c9] 40))
      have HC9 := Aside0.mk (Kd.C_alloc HC9.out (.cells #[.string (strOfNums en2.k), .int .i64 en2.a, .int .i64 en2.b, .int .i64 en2.c, .bool en2.h, .slice A9 en2.v.length c9] 40))
      have HRd := Aside0.mk (HRd.out.below (below_alloc (Below.refl _ _) (.cells #[.string (strOfNums en2.k), .int .i64 en2.a, .int .i64 en2.b, .int .i64 en2.c, .bool en2.h, .slice A9 en2.v.length c9] 40)))
      go_upto_region 8 with fail
      obtain ⟨g9, hg9⟩ : ∃ g, w5.heap.size = g := ⟨_, rfl⟩
      rw [hg9] at B9
      simp only [hg9]
      generalize w5.alloc (.cells #[.string (strOfNums en2.k), .int .i64 en2.a, .int .i64 en2.b, .int .i64 en2.c, .bool en2.h, .slice A9 en2.v.length c9] 40) = u5 at *
      clear hg9
      obtain ⟨e0, e1, e2, e3, e4, e5⟩ := en_cells B8.out
      obtain ⟨f0, f1, f2, f3, f4, f5⟩ := en_cells B9.out
      go_wp2_with fail
      (with_reducible refine (rse_c (strOfNums en2.k) en2.a en2.b en2.c en2.h (strOfNums en2.k) en2.a en2.b en2.c en2.h (sameE_self _ _ _ _ _ _) HC8.out hc8 HC9.out hc9 HLen.out).mono ?_)
      rintro x w6 ⟨rfl, hb⟩
      have HC3 := Aside0.mk (Kd.C_below HC3.out hb)
      have HC5 := Aside0.mk (Kd.C_below HC5.out hb)
      have B3 := Aside0.mk (blk_below B3.out hb)
      have B5 := Aside0.mk (blk_below B5.out hb)
      have HRd := Aside0.mk (HRd.out.below hb)
      have HB := Aside0.mk (below_then HB.out HB.out.size hb)
      clear hb e0 e1 e2 e3 e4 e5 f0 f1 f2 f3 f4 f5
      obtain ⟨e0, e1, e2, e3, e4, e5⟩ := en_cells B3.out
      obtain ⟨f0, f1, f2, f3, f4, f5⟩ := en_cells B5.out
      have HLs := Aside0.mk (show (strOfNums en.k).size = (strOfNums en.k).size from rfl)
      have teq : (er == er) = true := by simp
      go_wp2_with (first | (go_at_call 26; (with_reducible refine (failed_ HRd.out).mono ?_); rintro e w' ⟨rfl, rfl⟩) | (go_at_call 27; (with_reducible refine (left_ HRd.out).mono ?_); rintro e w' ⟨rfl, rfl⟩) | (go_at_call 25; (with_reducible refine (rse_c (strOfNums en.k) en.a en.b en.c en.h (strOfNums en.k) en.a en.b en.c en.h (sameE_self _ _ _ _ _ _) HC3.out hc3 HC5.out hc5 HLen2.out).mono ?_); rintro x w7 ⟨rfl, hb⟩; have HB7 := Aside0.mk (below_then HB.out HB.out.size hb); clear hb) | (go_at_call 19; (with_reducible refine (Fk.known_ _).mono ?_); rintro x w8 ⟨rfl, hb⟩; have HB8 := Aside0.mk (below_then HB7.out HB7.out.size hb); clear hb))
      go_ret
      exact ⟨rfl, HB8.out⟩
    · obtain ⟨rfl, rfl⟩ := Prod.mk.inj q2
      rw [q1]
      have HLen : Aside0 (En.zero.v.length ≤ 140737488351232) := ⟨by simp [En.zero]⟩
      have HLen2 : Aside0 (en.v.length ≤ 140737488351232) := ⟨by have := readP_vlen l; rw [HRP.out] at this; simp only at this; omega⟩
      have t2 : (e3 != 0) = true := bne_iff_ne.2 he
      have t3 : (e3 == 0) = false := beq_eq_false_iff_ne.2 he
      have t4 : (s2.e != 0) = true := by rw [hs]; exact t2
      clear q1 q2 hs he
      rintro x w5 ⟨A9, c9, rfl, hC9, hc9, hb⟩
      simp only at hC9 hc9
      have HC9 := Aside0.mk hC9
      have HC3 := Aside0.mk (Kd.C_below HC3.out hb)
      have HC5 := Aside0.mk (Kd.C_below HC5.out hb)
      have HC8 := Aside0.mk (Kd.C_below HC8.out hb)
      have B3 := Aside0.mk (blk_below B3.out hb)
      have B5 := Aside0.mk (blk_below B5.out hb)
      have B8 := Aside0.mk (blk_below B8.out hb)
      have HRd := Aside0.mk (HRd.out.below hb)
      have HB := Aside0.mk (below_then HB.out HB.out.size hb)
      clear hC9 hb
      have B9 := Aside0.mk (blk_new w5 (.cells #[.string (strOfNums En.zero.k), .int .i64 En.zero.a, .int .i64 En.zero.b, .int .i64 En.zero.c, .bool En.zero.h, .slice A9 En.zero.v.length c9] 40))
      have HB := Aside0.mk (below_alloc HB.out (.cells #[.string (strOfNums En.zero.k), .int .i64 En.zero.a, .int .i64 En.zero.b, .int .i64 En.zero.c, .bool En.zero.h, .slice A9 En.zero.v.length c9] 40))
      have B3 := Aside0.mk (blk_alloc B3.out (.cells #[.string (strOfNums En.zero.k), .int .i64 En.zero.a, .int .i64 En.zero.b, .int .i64 En.zero.c, .bool En.zero.h, .slice A9 En.zero.v.length c9] 40))
      have B5 := Aside0.mk (blk_alloc B5.out (.cells #[.string (strOfNums En.zero.k), .int .i64 En.zero.a, .int .i64 En.zero.b, .int .i64 En.zero.c, .bool En.zero.h, .slice A9 En.zero.v.length c9] 40))
      have B8 := Aside0.mk (blk_alloc B8.out (.cells #[.string (strOfNums En.zero.k), .int .i64 En.zero.a, .int .i64 En.zero.b, .int .i64 En.zero.c, .bool En.zero.h, .slice A9 En.zero.v.length c9] 40))
      have HC3 := Aside0.mk (Kd.C_alloc HC3.out (.cells #[.string (strOfNums En.zero.k), .int .i64 En.zero.a, .int .i64 En.zero.b, .int .i64 En.zero.c, .bool En.zero.h, .slice A9 En.zero.v.length c9] 40))
      have HC5 := Aside0.mk (Kd.C_alloc HC5.out (.cells #[.string (strOfNums En.zero.k), .int .i64 En.zero.a, .int .i64 En.zero.b, .int .i64 En.zero.c, .bool En.zero.h, .slice A9 En.zero.v.length c9] 40))
      have HC8 := Aside0.mk (Kd.C_alloc HC8.out (.cells #[.string (strOfNums En.zero.k), .int .i64 En.zero.a, .int .i64 En.zero.b, .int .i64 En.zero.c, .bool En.zero.h, .slice A9 En.zero.v.length c9] 40))
      have HC9 := Aside0.mk (Kd.C_alloc HC9.out (.cells #[.string (strOfNums En.zero.k), .int .i64 En.zero.a, .int .i64 En.zero.b, .int .i64 En.zero.c, .bool En.zero.h, .slice A9 En.zero.v.length c9] 40))
      have HRd := Aside0.mk (HRd.out.below (below_alloc (Below.refl _ _) (.cells #[.string (strOfNums En.zero.k), .int .i64 En.zero.a, .int .i64 En.zero.b, .int .i64 En.zero.c, .bool En.zero.h, .slice A9 En.zero.v.length c9] 40)))
      go_upto_region 8 with fail
      obtain ⟨g9, hg9⟩ : ∃ g, w5.heap.size = g := ⟨_, rfl⟩
      rw [hg9] at B9
      simp only [hg9]
      generalize w5.alloc (.cells #[.string (strOfNums En.zero.k), .int .i64 En.zero.a, .int .i64 En.zero.b, .int .i64 En.zero.c, .bool En.zero.h, .slice A9 En.zero.v.length c9] 40) = u5 at *
      clear hg9
      obtain ⟨e0, e1, e2, e3, e4, e5⟩ := en_cells B8.out
      obtain ⟨f0, f1, f2, f3, f4, f5⟩ := en_cells B9.out
      go_wp2_with fail
      (with_reducible refine (rse_c (strOfNums En.zero.k) En.zero.a En.zero.b En.zero.c En.zero.h (strOfNums En.zero.k) En.zero.a En.zero.b En.zero.c En.zero.h (sameE_self _ _ _ _ _ _) HC8.out hc8 HC9.out hc9 HLen.out).mono ?_)
      rintro x w6 ⟨rfl, hb⟩
      have HC3 := Aside0.mk (Kd.C_below HC3.out hb)
      have HC5 := Aside0.mk (Kd.C_below HC5.out hb)
      have B3 := Aside0.mk (blk_below B3.out hb)
      have B5 := Aside0.mk (blk_below B5.out hb)
      have HRd := Aside0.mk (HRd.out.below hb)
      have HB := Aside0.mk (below_then HB.out HB.out.size hb)
      clear hb e0 e1 e2 e3 e4 e5 f0 f1 f2 f3 f4 f5
      obtain ⟨e0, e1, e2, e3, e4, e5⟩ := en_cells B3.out
      obtain ⟨f0, f1, f2, f3, f4, f5⟩ := en_cells B5.out
      have HLs := Aside0.mk (show (strOfNums en.k).size = (strOfNums en.k).size from rfl)
      have teq : (er == er) = true := by simp
      go_wp2_with (first | (go_at_call 26; (with_reducible refine (failed_ HRd.out).mono ?_); rintro e w' ⟨rfl, rfl⟩) | (go_at_call 27; (with_reducible refine (left_ HRd.out).mono ?_); rintro e w' ⟨rfl, rfl⟩) | (go_at_call 25; (with_reducible refine (rse_c (strOfNums en.k) en.a en.b en.c en.h (strOfNums en.k) en.a en.b en.c en.h (sameE_self _ _ _ _ _ _) HC3.out hc3 HC5.out hc5 HLen2.out).mono ?_); rintro x w7 ⟨rfl, hb⟩; have HB7 := Aside0.mk (below_then HB.out HB.out.size hb); clear hb) | (go_at_call 19; (with_reducible refine (Fk.known_ _).mono ?_); rintro x w8 ⟨rfl, hb⟩; have HB8 := Aside0.mk (below_then HB7.out HB7.out.size hb); clear hb))
      go_ret
      exact ⟨rfl, HB8.out⟩
theorem u8_rangeR {x : Int} (h : (Lit.int .u8 x).wf = true) : 0 ≤ x ∧ x < 256 := by
  have h2 : 0 ≤ x ∧ x ≤ 255 := by simpa [Lit.wf, IntKind.min, IntKind.max, IntKind.bits, IntKind.signed] using h
  omega
theorem tagsReads (w : World) (A : Option Addr) (c : Nat) (l : List Int) (hr : Kd.C (Kd.int .u8) w A l.length l) (hc : l.length ≤ c) (wf : l.length ≤ maxLen ∧ l.length * 1 ≤ 140737488351232 ∧ ∀ x ∈ l, (Lit.int .u8 x).wf = true) :
    Calls Try.prog 5 #[.slice A l.length c] w fun e w' => e = .returned (.bool true) ∧ Below w.heap.size w w' :=
  reads_law w A c l hr hc (fun x hx => u8_rangeR (wf.2.2 x hx)) (by have := wf.2.1; omega)
end Go.Proofs.Ytbmbnkoggmeanaa.Tg
