/- The reference's Get of an entry. Conditions: bytes that fit in memory. · The reference's Get and Read read what the reader reads. Plain. Conditions: bytes. · The contract of the reference's Get of an entry, for the print. Conditions: none. · Written by a program of this session over the kit's print: functions and their contracts. -/
import Derived.Test.YthaoiamgkpkcbaaDoorYMsgsReads17
import Derived.Test.YthaoiamgkpkcbaaDoorYMsgsReads15
import Derived.Test.YthaoiamgkpkcbaaDoorProg
import Derived.Below
import Derived.Deep.Draws
import Derived.Deep.AppendLies
import Derived.Maps.AppendAt
import Derived.OwnWalk
import Derived.Laws.BytesArg
import Derived.Laws.MakeOwn
import Derived.Laws.OwnMore
import Derived.Deep.OwnRows
import Derived.Tactics
import Derived.Lib.ConvBytes
import Derived.Laws.Slices
import Derived.WalkKit
import Derived.KernelRfl
import Derived.RowKit3
import Derived.Deep.LoopGhost
import Derived.Deep.QuietTactic
import Derived.BigQuiet
import Derived.WideLaws
import Derived.Deep.DeepCutAuto
import Derived.Deep.CutBlock
import Derived.Deep.RegionHeld3
import Derived.Laws.Rows
import Derived.Lib.AppendStr
import Derived.ArgAppend
import Derived.Laws.IdiomCopy
import Derived.OrdersHeld
import Derived.Laws.BitsLemmas
import Derived.RowKit
import Derived.Test.YthaoiamgkpkcbaaDoorYMsgsReads9
import Derived.Test.YthaoiamgkpkcbaaDoorYMsgsReads13
import Derived.Test.YthaoiamgkpkcbaaDoorYMsgsReads0
import Derived.Test.YthaoiamgkpkcbaaDoorYMsgsReads2
import Derived.Test.YthaoiamgkpkcbaaDoorYMsgsReads5
import Derived.Test.YthaoiamgkpkcbaaDoorYMsgsReads3

namespace Go.Proofs.YthaoiamgkpkcbaaDoor.Tg
open Go.ChangeShapes Go.WideShapes Go.ChangeAt Go.RowKit Go.Proofs.YthaoiamgkpkcbaaDoor.Pk Go.Proofs.YthaoiamgkpkcbaaDoor.EncC Go.Proofs.YthaoiamgkpkcbaaDoor.Lex
open Go.Proofs.YthaoiamgkpkcbaaDoor.Hlp Go.Proofs.YthaoiamgkpkcbaaDoor.Wrd Go.Proofs.YthaoiamgkpkcbaaDoorW.PrintWords Go.Proofs.YthaoiamgkpkcbaaDoorW.PrintLast Go.Proofs.YthaoiamgkpkcbaaDoorW.PrintMore
set_option linter.unusedVariables false
set_option linter.unusedSimpArgs false
def rget7 (p : Nat) (k : List Int) (a b c : Int) (h : Bool) (v : List Int) (m : Int) : En × Int × Int := if okEnt (strOfNums k) a b c h v then (⟨k, a, b, c, h, v⟩, m, 0) else (En.zero, (p : Int), 11)
def rget6 (l : List Int) (p : Nat) (k : List Int) (a b c : Int) (h : Bool) (i : Nat) : En × Int × Int := if h = true then (if (getRowP l i).2.2 = 0 then rget7 p k a b c h (getRowP l i).1 (getRowP l i).2.1 else (En.zero, (p : Int), (getRowP l i).2.2)) else rget7 p k a b c h [] (i : Int)
def rget5 (l : List Int) (p : Nat) (k : List Int) (a b c : Int) (i : Nat) : En × Int × Int := if (getTruthP l i).2.2 = 0 then rget6 l p k a b c (getTruthP l i).1 (getTruthP l i).2.1.toNat else (En.zero, (p : Int), (getTruthP l i).2.2)
def rget4 (l : List Int) (p : Nat) (k : List Int) (a b : Int) (i : Nat) : En × Int × Int := if (getNumP l i 1048575).2.2 = 0 then rget5 l p k a b (getNumP l i 1048575).1 (getNumP l i 1048575).2.1.toNat else (En.zero, (p : Int), (getNumP l i 1048575).2.2)
def rget3 (l : List Int) (p : Nat) (k : List Int) (a : Int) (i : Nat) : En × Int × Int := if (getNumP l i 1048575).2.2 = 0 then rget4 l p k a (getNumP l i 1048575).1 (getNumP l i 1048575).2.1.toNat else (En.zero, (p : Int), (getNumP l i 1048575).2.2)
def rget2 (l : List Int) (p : Nat) (k : List Int) (i : Nat) : En × Int × Int := if (getNumP l i 1099511627775).2.2 = 0 then rget3 l p k (getNumP l i 1099511627775).1 (getNumP l i 1099511627775).2.1.toNat else (En.zero, (p : Int), (getNumP l i 1099511627775).2.2)
/-- an entry at a place: it, the place behind, what is wrong -/
def rgetS (l : List Int) (p : Nat) : En × Int × Int := if (getRowP l p).2.2 = 0 then rget2 l p (getRowP l p).1 (getRowP l p).2.1.toNat else (En.zero, (p : Int), (getRowP l p).2.2)
theorem getNumP_ok {l : List Int} {p : Nat} {m n t : Int} (h : getNumP l p m = (n, t, 0)) (hb : ∀ x ∈ l, 0 ≤ x ∧ x < 256) : ∃ i : Nat, t = (i : Int) ∧ i ≤ l.length ∧ getP l p = (n, t, 0) ∧ 0 ≤ n ∧ n ≤ m := by
  unfold getNumP at h
  by_cases h0 : (getP l p).2.2 = 0
  · rw [if_pos h0] at h
    by_cases h1 : 0 ≤ (getP l p).1 ∧ (getP l p).1 ≤ m
    · rw [if_pos h1] at h
      have hq : getP l p = (n, t, 0) := by
        rw [← h, ← h0]
      obtain ⟨k, _, e, _, h2, _⟩ := getP_ok hq hb
      simp only [Prod.mk.injEq] at h
      exact ⟨p + k, by omega, h2, hq, by rw [← h.1]; exact h1.1, by rw [← h.1]; exact h1.2⟩
    · rw [if_neg h1] at h; simp at h
  · rw [if_neg h0] at h
    simp only [Prod.mk.injEq] at h
    exact absurd h.2.2 h0
theorem getRowP_ok {l r : List Int} {p : Nat} {t : Int} (h : getRowP l p = (r, t, 0)) (hb : ∀ x ∈ l, 0 ≤ x ∧ x < 256) : ∃ i : Nat, t = (i : Int) ∧ i ≤ l.length ∧ r.length ≤ 65536 := by
  unfold getRowP at h
  by_cases h0 : (getP l p).2.2 = 0
  · rw [if_pos h0] at h
    by_cases h1 : 0 ≤ (getP l p).1 ∧ (getP l p).1 ≤ 65536
    · rw [if_pos h1] at h
      by_cases h2 : (l.length : Int) - (getP l p).2.1 < (getP l p).1
      · rw [if_pos h2] at h; simp at h
      · rw [if_neg h2] at h
        simp only [Prod.mk.injEq] at h
        have hq : getP l p = ((getP l p).1, (getP l p).2.1, 0) := by rw [← h0]
        obtain ⟨k, _, e, _, _, _⟩ := getP_ok hq hb
        refine ⟨((getP l p).2.1 + (getP l p).1).toNat, by omega, by omega, ?_⟩
        rw [← h.1, List.length_take]
        omega
    · rw [if_neg h1] at h; simp at h
  · rw [if_neg h0] at h
    simp only [Prod.mk.injEq] at h
    exact absurd h.2.2 h0
theorem getTruthP_ok {l : List Int} {p : Nat} {b : Bool} {t : Int} (h : getTruthP l p = (b, t, 0)) (hp : p ≤ l.length) : ∃ i : Nat, t = (i : Int) ∧ i ≤ l.length := by
  unfold getTruthP at h
  cases hs : l.drop p with
  | nil => rw [hs] at h; simp at h
  | cons x r =>
    have := drop_len hs
    rw [hs] at h
    simp only at h
    by_cases h1 : 1 < x
    · rw [if_pos h1] at h; simp at h
    · rw [if_neg h1] at h
      simp only [Prod.mk.injEq] at h
      exact ⟨p + 1, by omega, by omega⟩
/-- what the reference's Get tells -/
def RGet (w : World) (r : En × Int × Int) (x : Ending) (w' : World) : Prop :=
  ∃ A c, x = .returned (.tuple #[.agg #[.string (strOfNums r.1.k), .int .i64 r.1.a, .int .i64 r.1.b, .int .i64 r.1.c, .bool r.1.h, .slice A r.1.v.length c], .int .i64 r.2.1, .int .i64 r.2.2]) ∧ Kd.R (Kd.int .u8) 5 w' w.heap.size (fun _ => True) (.slice A r.1.v.length c) r.1.v ∧ Below w.heap.size w w'
theorem RGet.bad {w w' : World} (p e : Int) (h : Below w.heap.size w w') : RGet w (En.zero, p, e) (.returned (.tuple #[.agg #[.string ⟨#[]⟩, .int .i64 0, .int .i64 0, .int .i64 0, .bool false, .slice none 0 0], .int .i64 p, .int .i64 e])) w' := ⟨none, 0, rfl, Kd.R_nil _ _ _ _ _, h⟩
set_option maxHeartbeats 8000000 in
set_option maxRecDepth 100000 in
theorem rgetE_ {w : World} {A : Option Addr} {n c : Nat} {l : List Int} (hr : Kd.C (Kd.int .u8) w A n l) (hc : n ≤ c) (p : Nat) (hp : p ≤ n) (hl : n ≤ 140737488351232) (hb : ∀ x ∈ l, 0 ≤ x ∧ x < 256) :
    Calls Tryd.prog 52 #[.slice A n c, .int .i64 p] w (RGet w (rgetS l p)) := by
  obtain rfl : l.length = n := hr.1
  have hu40 := Tryd.underlying28
  have hu23 := Tryd.underlying23
  have hu38 := Tryd.underlying26
  obtain ⟨b4, b7⟩ := two_blks w (.cells #[.string ⟨#[]⟩, .int .i64 0, .int .i64 0, .int .i64 0, .bool false, .slice none 0 0] 28) (.cells #[.string ⟨#[]⟩, .int .i64 0, .int .i64 0, .int .i64 0, .bool false, .slice none 0 0] 28)
  have HR0 := Aside0.mk hr
  have HR := Aside0.mk (Kd.C_alloc (Kd.C_alloc hr (.cells #[.string ⟨#[]⟩, .int .i64 0, .int .i64 0, .int .i64 0, .bool false, .slice none 0 0] 28)) (.cells #[.string ⟨#[]⟩, .int .i64 0, .int .i64 0, .int .i64 0, .bool false, .slice none 0 0] 28))
  have HB := Aside0.mk (below_allocs (Below.refl w.heap.size w) (.cells #[.string ⟨#[]⟩, .int .i64 0, .int .i64 0, .int .i64 0, .bool false, .slice none 0 0] 28) (.cells #[.string ⟨#[]⟩, .int .i64 0, .int .i64 0, .int .i64 0, .bool false, .slice none 0 0] 28))
  have B4 := Aside0.mk b4
  have B7 := Aside0.mk b7
  have HBt := Aside0.mk hb
  clear hr b4 b7 hb
  go_enter Tryd.func52, Tryd.ntmps52
  go_upto_region 2 with fail
  generalize (w.alloc (.cells #[.string ⟨#[]⟩, .int .i64 0, .int .i64 0, .int .i64 0, .bool false, .slice none 0 0] 28)).alloc (.cells #[.string ⟨#[]⟩, .int .i64 0, .int .i64 0, .int .i64 0, .bool false, .slice none 0 0] 28) = W at *
  go_wp2_with fail
  obtain ⟨x, y, z, hq⟩ : ∃ x y z, getRowP l p = (x, y, z) := ⟨_, _, _, rfl⟩
  have K := rgetrow_c HR.out hc p hp hl HBt.out
  rw [hq] at K
  (with_reducible refine K.mono ?_)
  rintro e w1 ⟨Ak, ck, rfl, hCk, hck, hb⟩
  have HCk := Aside0.mk hCk
  clear K hCk
  have HB := Aside0.mk (below_then HB.out HB.out.size hb)
  have HR := Aside0.mk (Kd.C_below HR.out hb)
  have B4 := Aside0.mk (blk_below B4.out hb)
  have B7 := Aside0.mk (blk_below B7.out hb)
  clear hb
  by_cases hz : z = 0
  · subst hz
    obtain ⟨i1, rfl, hi1, hkl⟩ := getRowP_ok hq HBt.out
    have E1 := Lib.hid (show rgetS l p = rget2 l p x i1 by unfold rgetS; rw [hq]; simp only [if_true, Int.toNat_natCast])
    obtain ⟨nk, hnk⟩ : ∃ nk, x.length = nk := ⟨_, rfl⟩
    simp only at HCk hck
    rw [hnk] at HCk hck ⊢
    have HNk := Lib.hid hnk
    clear hq hnk hkl
    go_wp2_with fail
    obtain ⟨a, y1, z1, hq⟩ : ∃ x y z, getNumP l i1 1099511627775 = (x, y, z) := ⟨_, _, _, rfl⟩
    (with_reducible refine (rgetnum_c HR.out hc i1 hi1 1099511627775 hl HBt.out hq).mono ?_)
    rintro e w2 ⟨rfl, hb⟩
    have HCk := Aside0.mk (Kd.C_below HCk.out hb)
    have HB := Aside0.mk (below_then HB.out HB.out.size hb)
    have HR := Aside0.mk (Kd.C_below HR.out hb)
    have B4 := Aside0.mk (blk_below B4.out hb)
    have B7 := Aside0.mk (blk_below B7.out hb)
    clear hb
    by_cases hz : z1 = 0
    · subst hz
      obtain ⟨i2, rfl, hi2, _, _, _⟩ := getNumP_ok hq HBt.out
      have E2 := Lib.hid (show rgetS l p = rget3 l p x a i2 by rw [E1.out]; unfold rget2; rw [hq]; simp only [if_true, Int.toNat_natCast])
      clear hq
      go_wp2_with fail
      obtain ⟨b, y2, z2, hq⟩ : ∃ x y z, getNumP l i2 1048575 = (x, y, z) := ⟨_, _, _, rfl⟩
      (with_reducible refine (rgetnum_c HR.out hc i2 hi2 1048575 hl HBt.out hq).mono ?_)
      rintro e w3 ⟨rfl, hb⟩
      have HCk := Aside0.mk (Kd.C_below HCk.out hb)
      have HB := Aside0.mk (below_then HB.out HB.out.size hb)
      have HR := Aside0.mk (Kd.C_below HR.out hb)
      have B4 := Aside0.mk (blk_below B4.out hb)
      have B7 := Aside0.mk (blk_below B7.out hb)
      clear hb
      by_cases hz : z2 = 0
      · subst hz
        obtain ⟨i3, rfl, hi3, _, _, _⟩ := getNumP_ok hq HBt.out
        have E3 := Lib.hid (show rgetS l p = rget4 l p x a b i3 by rw [E2.out]; unfold rget3; rw [hq]; simp only [if_true, Int.toNat_natCast])
        clear hq
        go_wp2_with fail
        obtain ⟨c, y3, z3, hq⟩ : ∃ x y z, getNumP l i3 1048575 = (x, y, z) := ⟨_, _, _, rfl⟩
        (with_reducible refine (rgetnum_c HR.out hc i3 hi3 1048575 hl HBt.out hq).mono ?_)
        rintro e w4 ⟨rfl, hb⟩
        have HCk := Aside0.mk (Kd.C_below HCk.out hb)
        have HB := Aside0.mk (below_then HB.out HB.out.size hb)
        have HR := Aside0.mk (Kd.C_below HR.out hb)
        have B4 := Aside0.mk (blk_below B4.out hb)
        have B7 := Aside0.mk (blk_below B7.out hb)
        clear hb
        by_cases hz : z3 = 0
        · subst hz
          obtain ⟨i4, rfl, hi4, _, _, _⟩ := getNumP_ok hq HBt.out
          have E4 := Lib.hid (show rgetS l p = rget5 l p x a b c i4 by rw [E3.out]; unfold rget4; rw [hq]; simp only [if_true, Int.toNat_natCast])
          clear hq
          go_wp2_with fail
          obtain ⟨h, y4, z4, hq⟩ : ∃ x y z, getTruthP l i4 = (x, y, z) := ⟨_, _, _, rfl⟩
          (with_reducible refine (rgettruth_c HR.out hc i4 hi4 hl hq).mono ?_)
          rintro e w5 ⟨rfl, hb⟩
          have HCk := Aside0.mk (Kd.C_below HCk.out hb)
          have HB := Aside0.mk (below_then HB.out HB.out.size hb)
          have HR := Aside0.mk (Kd.C_below HR.out hb)
          have B4 := Aside0.mk (blk_below B4.out hb)
          have B7 := Aside0.mk (blk_below B7.out hb)
          clear hb
          by_cases hz : z4 = 0
          · subst hz
            obtain ⟨i5, rfl, hi5⟩ := getTruthP_ok hq hi4
            have E5 := Lib.hid (show rgetS l p = rget6 l p x a b c h i5 by rw [E4.out]; unfold rget5; rw [hq]; simp only [if_true, Int.toNat_natCast])
            clear hq
            have hcv := conv_str (c := ck) HCk.out
            have B7p := B7
            go_upto_region 18 with fail
            have BO := Aside0.mk (blk_new w5 (.cells #[.string (strOfNums x), .int .i64 a, .int .i64 b, .int .i64 c, .bool h, .slice none 0 0] 28))
            have HB := Aside0.mk (below_alloc HB.out (.cells #[.string (strOfNums x), .int .i64 a, .int .i64 b, .int .i64 c, .bool h, .slice none 0 0] 28))
            have B4 := Aside0.mk (blk_alloc B4.out (.cells #[.string (strOfNums x), .int .i64 a, .int .i64 b, .int .i64 c, .bool h, .slice none 0 0] 28))
            have B7 := Aside0.mk (blk_alloc B7.out (.cells #[.string (strOfNums x), .int .i64 a, .int .i64 b, .int .i64 c, .bool h, .slice none 0 0] 28))
            have HR := Aside0.mk (Kd.C_alloc HR.out (.cells #[.string (strOfNums x), .int .i64 a, .int .i64 b, .int .i64 c, .bool h, .slice none 0 0] 28))
            have gO1 : w.heap.size + 1 < w5.heap.size := blk_lt (show w5.heap[w.heap.size + 1]? = _ from B7p.out)
            obtain ⟨gO, hgO⟩ : ∃ g, w5.heap.size = g := ⟨_, rfl⟩
            rw [hgO] at BO gO1
            simp only [hgO]
            generalize w5.alloc (.cells #[.string (strOfNums x), .int .i64 a, .int .i64 b, .int .i64 c, .bool h, .slice none 0 0] 28) = w6 at *
            clear hcv hgO
            have HG := Aside0.mk gO1
            clear gO1
            obtain ⟨o0, o1, o2, o3, o4, o5⟩ := en_cells BO.out
            cases h
            · have E6 := Lib.hid (show rgetS l p = rget7 p x a b c false [] (i5 : Int) by rw [E5.out]; unfold rget6; rw [if_neg Bool.false_ne_true])
              go_wp2_with fail
              have HE : Aside0 (Kd.C (Kd.int .u8) w6 none 0 []) := ⟨C_empty⟩
              obtain ⟨rv, hrv⟩ : ∃ r, rightV (strOfNums x) a b c false [] = r := ⟨_, rfl⟩
              (with_reducible refine (rright_c (strOfNums x) a b c false hrv HE.out (Nat.le_refl 0)).mono ?_)
              rintro e w9 ⟨rfl, hb⟩
              have HVv := Aside0.mk (Kd.C_below (HE.out) hb)
              have HB := Aside0.mk (below_then HB.out HB.out.size hb)
              have B4 := Aside0.mk (blk_below B4.out hb)
              have B7 := Aside0.mk (blk_below B7.out hb)
              have BO := Aside0.mk (blk_below BO.out hb)
              clear hb o0 o1 o2 o3 o4 o5
              by_cases hk : okEnt (strOfNums x) a b c false []
              · obtain rfl : rv = 0 := by rw [← hrv]; exact if_pos hk
                have E := Lib.hid (show rgetS l p = (⟨x, a, b, c, false, []⟩, ((i5 : Int) : Int), 0) by rw [E6.out]; unfold rget7; rw [if_pos hk])
                clear hk hrv
                obtain ⟨o0, o1, o2, o3, o4, o5⟩ := en_cells BO.out
                obtain ⟨n0, n1, n2, n3, n4, n5⟩ := en_cells B4.out
                obtain ⟨m0, m1, m2, m3, m4, m5⟩ := en_free B4.out
                go_wp2_with fail
                have bN := put6_blk (k' := strOfNums x) (a' := a) (b' := b) (c' := c) (h' := false) (v := .slice none 0 0) B4.out
                refine bodyPost_ret (results_ctt rfl _ _ w.heap.size 28 _ (0, 0) _ rfl bN Tryd.underlying28 rfl (by kernel_rfl)) rfl ?_
                rw [E.out]
                exact ⟨_, _, rfl, Kd.R_nil _ _ _ _ _, put6_below HB.out (Nat.le_refl _)⟩
              · obtain rfl : rv = 2 := by rw [← hrv]; exact if_neg hk
                have E := Lib.hid (show rgetS l p = (En.zero, (p : Int), 11) by rw [E6.out]; unfold rget7; rw [if_neg hk])
                clear hk hrv
                obtain ⟨e0, e1, e2, e3, e4, e5⟩ := en_cells B7.out
                obtain ⟨n0, n1, n2, n3, n4, n5⟩ := en_cells B4.out
                obtain ⟨m0, m1, m2, m3, m4, m5⟩ := en_free B4.out
                go_wp2_with fail
                have bN := put6_blk (k' := ⟨#[]⟩) (a' := 0) (b' := 0) (c' := 0) (h' := false) (v := .slice none 0 0) B4.out
                refine bodyPost_ret (results_ctt rfl _ _ w.heap.size 28 _ (0, 0) _ rfl bN Tryd.underlying28 rfl (by kernel_rfl)) rfl ?_
                rw [E.out]
                exact RGet.bad _ _ (put6_below HB.out (Nat.le_refl _))
            · go_wp2_with fail
              obtain ⟨v, y6, z6, hq⟩ : ∃ x y z, getRowP l i5 = (x, y, z) := ⟨_, _, _, rfl⟩
              have K := rgetrow_c HR.out hc i5 hi5 hl HBt.out
              rw [hq] at K
              (with_reducible refine K.mono ?_)
              rintro e w7 ⟨Av, cv, rfl, hCv, hcv, hb⟩
              have HCv := Aside0.mk hCv
              have BO := Aside0.mk (blk_below BO.out hb)
              clear K hCv
              have HB := Aside0.mk (below_then HB.out HB.out.size hb)
              have HR := Aside0.mk (Kd.C_below HR.out hb)
              have B4 := Aside0.mk (blk_below B4.out hb)
              have B7 := Aside0.mk (blk_below B7.out hb)
              clear hb
              clear o0 o1 o2 o3 o4 o5
              by_cases hz : z6 = 0
              · subst hz
                obtain ⟨i6, rfl, hi6, hvl⟩ := getRowP_ok hq HBt.out
                have E6 := Lib.hid (show rgetS l p = rget7 p x a b c true v (i6 : Int) by rw [E5.out]; unfold rget6; rw [if_pos rfl, hq]; simp only [if_true])
                obtain ⟨nv, hnv⟩ : ∃ nv, v.length = nv := ⟨_, rfl⟩
                simp only at HCv hcv hvl
                rw [hnv] at HCv hcv hvl ⊢
                have HNv := Lib.hid hnv
                clear hq hnv
                obtain ⟨o0, o1, o2, o3, o4, o5⟩ := en_cells BO.out
                go_wp2_with ((with_reducible refine gate_builtin (b := .append) rfl ?_); at_builtin; refine Kd.R_append_rows (Kd.int .u8) (w0 := w7) w7.heap.size rfl _ _ 24 5 (.int .u8 0) 1 rfl Tryd.underlying24 info8 rfl (by decide) (by omega) (.slice none 0 0) [] v _ _ _ (fun _ => True) (fun _ => False) rfl rfl (Kd.R_nil _ _ _ _ _) HCv.out (fun _ _ h => h) (fun _ h => h.elim) (fun _ _ => trivial) (Below.refl _ _) (Nat.le_refl _) (by simp; omega) ?_; intro v1 w8 ho hb1 hg hat; rw [List.nil_append] at ho; obtain ⟨A1, c1, rfl⟩ := Kd.R_slice ho; have HO := Aside0.mk ho; have HB8 := Aside0.mk (below_then HB.out HB.out.size hb1); have B48 := Aside0.mk (blk_below B4.out hb1); have B78 := Aside0.mk (blk_below B7.out hb1); have HGs := Aside0.mk (blk_lt BO.out); have BO8 := Aside0.mk (blk_below BO.out hb1); rw [HNv.out] at HO ⊢; clear ho hb1 hg hat o0 o1 o2 o3 o4 o5; obtain ⟨o0, o1, o2, o3, o4, o5⟩ := en_cells BO8.out; obtain ⟨f0, f1, f2, f3, f4, f5⟩ := en_free BO8.out)
                have HB := Aside0.mk (below_set HB8.out (Nat.le_of_lt (Nat.lt_of_succ_lt HG.out)) (j := 5) (v := .slice A1 nv c1))
                have B4 : Aside0 ((w8.setCell ⟨gO, 5, none⟩ (.slice A1 nv c1)).heap[w.heap.size]? = _) := ⟨(Below.heap_setCell w8 _ _ _ (by have := HG.out; simp; omega)).trans B48.out⟩
                have B7 : Aside0 ((w8.setCell ⟨gO, 5, none⟩ (.slice A1 nv c1)).heap[w.heap.size + 1]? = _) := ⟨(Below.heap_setCell w8 _ _ _ (by have := HG.out; simp; omega)).trans B78.out⟩
                have BO : Aside0 ((w8.setCell ⟨gO, 5, none⟩ (.slice A1 nv c1)).heap[gO]? = some (.cells #[.string (strOfNums x), .int .i64 a, .int .i64 b, .int .i64 c, .bool true, .slice A1 nv c1] 28 (0, 0))) := ⟨blk_set BO8.out 5 _⟩
                have HO9 := Aside0.mk (R_farg HO.out HGs.out 5 (.slice A1 nv c1))
                have HS : Aside0 (w.heap.size < w7.heap.size) := ⟨by have h1 := HG.out; have h2 := HGs.out; omega⟩
                generalize w8.setCell ⟨gO, 5, none⟩ (.slice A1 nv c1) = w9 at *
                have HC9 : Aside0 (Kd.C (Kd.int .u8) w9 A1 nv v) := ⟨by have q := (Kd.R_reads' HO9.out).2.2; rwa [HNv.out] at q⟩
                have hc9 : nv ≤ c1 := (Kd.R_reads' HO9.out).2.1
                obtain ⟨rv, hrv⟩ : ∃ r, rightV (strOfNums x) a b c true v = r := ⟨_, rfl⟩
                (with_reducible refine (rright_c (strOfNums x) a b c true hrv HC9.out hc9).mono ?_)
                rintro e w9 ⟨rfl, hb⟩
                have HBv := Aside0.mk hb
                have HB := Aside0.mk (below_then HB.out HB.out.size hb)
                have B4 := Aside0.mk (blk_below B4.out hb)
                have B7 := Aside0.mk (blk_below B7.out hb)
                have BO := Aside0.mk (blk_below BO.out hb)
                clear hb o0 o1 o2 o3 o4 o5
                by_cases hk : okEnt (strOfNums x) a b c true v
                · obtain rfl : rv = 0 := by rw [← hrv]; exact if_pos hk
                  have E := Lib.hid (show rgetS l p = (⟨x, a, b, c, true, v⟩, ((i6 : Int) : Int), 0) by rw [E6.out]; unfold rget7; rw [if_pos hk])
                  clear hk hrv
                  obtain ⟨o0, o1, o2, o3, o4, o5⟩ := en_cells BO.out
                  obtain ⟨n0, n1, n2, n3, n4, n5⟩ := en_cells B4.out
                  obtain ⟨m0, m1, m2, m3, m4, m5⟩ := en_free B4.out
                  go_wp2_with fail
                  have bN := put6_blk (k' := strOfNums x) (a' := a) (b' := b) (c' := c) (h' := true) (v := .slice A1 nv c1) B4.out
                  refine bodyPost_ret (results_ctt rfl _ _ w.heap.size 28 _ (0, 0) _ rfl bN Tryd.underlying28 rfl (by kernel_rfl)) rfl ?_
                  rw [E.out]
                  have HOv := Kd.R_below HO9.out HBv.out
                  have q := put6_R (k := strOfNums x) (a := a) (b := b) (c := c) (h := true) (v := .slice A1 nv c1) HOv HS.out
                  refine ⟨A1, c1, ?_, ?_, put6_below HB.out (Nat.le_refl _)⟩
                  · rw [HNv.out]; rfl
                  · show Kd.R (Kd.int .u8) 5 _ w.heap.size (fun _ => True) (.slice A1 v.length c1) v
                    rw [HNv.out]
                    exact Kd.R_lower q (Nat.le_of_lt HS.out)
                · obtain rfl : rv = 2 := by rw [← hrv]; exact if_neg hk
                  have E := Lib.hid (show rgetS l p = (En.zero, (p : Int), 11) by rw [E6.out]; unfold rget7; rw [if_neg hk])
                  clear hk hrv
                  obtain ⟨e0, e1, e2, e3, e4, e5⟩ := en_cells B7.out
                  obtain ⟨n0, n1, n2, n3, n4, n5⟩ := en_cells B4.out
                  obtain ⟨m0, m1, m2, m3, m4, m5⟩ := en_free B4.out
                  go_wp2_with fail
                  have bN := put6_blk (k' := ⟨#[]⟩) (a' := 0) (b' := 0) (c' := 0) (h' := false) (v := .slice none 0 0) B4.out
                  refine bodyPost_ret (results_ctt rfl _ _ w.heap.size 28 _ (0, 0) _ rfl bN Tryd.underlying28 rfl (by kernel_rfl)) rfl ?_
                  rw [E.out]
                  exact RGet.bad _ _ (put6_below HB.out (Nat.le_refl _))
              · have E := Lib.hid (show rgetS l p = (En.zero, (p : Int), z6) by rw [E5.out]; unfold rget6; rw [if_pos rfl, hq]; simp only [if_neg hz])
                have hz2 : (z6 != 0) = true := bne_iff_ne.2 hz
                clear hq hz
                obtain ⟨e0, e1, e2, e3, e4, e5⟩ := en_cells B7.out
                obtain ⟨n0, n1, n2, n3, n4, n5⟩ := en_cells B4.out
                obtain ⟨m0, m1, m2, m3, m4, m5⟩ := en_free B4.out
                go_wp2_with fail
                have bN := put6_blk (k' := ⟨#[]⟩) (a' := 0) (b' := 0) (c' := 0) (h' := false) (v := .slice none 0 0) B4.out
                refine bodyPost_ret (results_ctt rfl _ _ w.heap.size 28 _ (0, 0) _ rfl bN Tryd.underlying28 rfl (by kernel_rfl)) rfl ?_
                rw [E.out]
                exact RGet.bad _ _ (put6_below HB.out (Nat.le_refl _))
          · have E := Lib.hid (show rgetS l p = (En.zero, (p : Int), z4) by rw [E4.out]; unfold rget5; rw [hq]; simp only [if_neg hz])
            have hz2 : (z4 != 0) = true := bne_iff_ne.2 hz
            clear hq hz
            obtain ⟨e0, e1, e2, e3, e4, e5⟩ := en_cells B7.out
            obtain ⟨n0, n1, n2, n3, n4, n5⟩ := en_cells B4.out
            obtain ⟨m0, m1, m2, m3, m4, m5⟩ := en_free B4.out
            go_wp2_with fail
            have bN := put6_blk (k' := ⟨#[]⟩) (a' := 0) (b' := 0) (c' := 0) (h' := false) (v := .slice none 0 0) B4.out
            refine bodyPost_ret (results_ctt rfl _ _ w.heap.size 28 _ (0, 0) _ rfl bN Tryd.underlying28 rfl (by kernel_rfl)) rfl ?_
            rw [E.out]
            exact RGet.bad _ _ (put6_below HB.out (Nat.le_refl _))
        · have E := Lib.hid (show rgetS l p = (En.zero, (p : Int), z3) by rw [E3.out]; unfold rget4; rw [hq]; simp only [if_neg hz])
          have hz2 : (z3 != 0) = true := bne_iff_ne.2 hz
          clear hq hz
          obtain ⟨e0, e1, e2, e3, e4, e5⟩ := en_cells B7.out
          obtain ⟨n0, n1, n2, n3, n4, n5⟩ := en_cells B4.out
          obtain ⟨m0, m1, m2, m3, m4, m5⟩ := en_free B4.out
          go_wp2_with fail
          have bN := put6_blk (k' := ⟨#[]⟩) (a' := 0) (b' := 0) (c' := 0) (h' := false) (v := .slice none 0 0) B4.out
          refine bodyPost_ret (results_ctt rfl _ _ w.heap.size 28 _ (0, 0) _ rfl bN Tryd.underlying28 rfl (by kernel_rfl)) rfl ?_
          rw [E.out]
          exact RGet.bad _ _ (put6_below HB.out (Nat.le_refl _))
      · have E := Lib.hid (show rgetS l p = (En.zero, (p : Int), z2) by rw [E2.out]; unfold rget3; rw [hq]; simp only [if_neg hz])
        have hz2 : (z2 != 0) = true := bne_iff_ne.2 hz
        clear hq hz
        obtain ⟨e0, e1, e2, e3, e4, e5⟩ := en_cells B7.out
        obtain ⟨n0, n1, n2, n3, n4, n5⟩ := en_cells B4.out
        obtain ⟨m0, m1, m2, m3, m4, m5⟩ := en_free B4.out
        go_wp2_with fail
        have bN := put6_blk (k' := ⟨#[]⟩) (a' := 0) (b' := 0) (c' := 0) (h' := false) (v := .slice none 0 0) B4.out
        refine bodyPost_ret (results_ctt rfl _ _ w.heap.size 28 _ (0, 0) _ rfl bN Tryd.underlying28 rfl (by kernel_rfl)) rfl ?_
        rw [E.out]
        exact RGet.bad _ _ (put6_below HB.out (Nat.le_refl _))
    · have E := Lib.hid (show rgetS l p = (En.zero, (p : Int), z1) by rw [E1.out]; unfold rget2; rw [hq]; simp only [if_neg hz])
      have hz2 : (z1 != 0) = true := bne_iff_ne.2 hz
      clear hq hz
      obtain ⟨e0, e1, e2, e3, e4, e5⟩ := en_cells B7.out
      obtain ⟨n0, n1, n2, n3, n4, n5⟩ := en_cells B4.out
      obtain ⟨m0, m1, m2, m3, m4, m5⟩ := en_free B4.out
      go_wp2_with fail
      have bN := put6_blk (k' := ⟨#[]⟩) (a' := 0) (b' := 0) (c' := 0) (h' := false) (v := .slice none 0 0) B4.out
      refine bodyPost_ret (results_ctt rfl _ _ w.heap.size 28 _ (0, 0) _ rfl bN Tryd.underlying28 rfl (by kernel_rfl)) rfl ?_
      rw [E.out]
      exact RGet.bad _ _ (put6_below HB.out (Nat.le_refl _))
  · have E := Lib.hid (show rgetS l p = (En.zero, (p : Int), z) by unfold rgetS; rw [hq]; simp only [if_neg hz])
    have hz2 : (z != 0) = true := bne_iff_ne.2 hz
    clear hq hz
    obtain ⟨e0, e1, e2, e3, e4, e5⟩ := en_cells B7.out
    obtain ⟨n0, n1, n2, n3, n4, n5⟩ := en_cells B4.out
    obtain ⟨m0, m1, m2, m3, m4, m5⟩ := en_free B4.out
    go_wp2_with fail
    have bN := put6_blk (k' := ⟨#[]⟩) (a' := 0) (b' := 0) (c' := 0) (h' := false) (v := .slice none 0 0) B4.out
    refine bodyPost_ret (results_ctt rfl _ _ w.heap.size 28 _ (0, 0) _ rfl bN Tryd.underlying28 rfl (by kernel_rfl)) rfl ?_
    rw [E.out]
    exact RGet.bad _ _ (put6_below HB.out (Nat.le_refl _))
end Go.Proofs.YthaoiamgkpkcbaaDoor.Tg
namespace Go.Proofs.YthaoiamgkpkcbaaDoor.Tg
open Go.ChangeShapes Go.WideShapes Go.ChangeAt Go.RowKit Go.Proofs.YthaoiamgkpkcbaaDoor.Pk Go.Proofs.YthaoiamgkpkcbaaDoor.EncC Go.Proofs.YthaoiamgkpkcbaaDoor.Lex
open Go.Proofs.YthaoiamgkpkcbaaDoor.Hlp Go.Proofs.YthaoiamgkpkcbaaDoor.Wrd Go.Proofs.YthaoiamgkpkcbaaDoorW.PrintWords Go.Proofs.YthaoiamgkpkcbaaDoorW.PrintLast Go.Proofs.YthaoiamgkpkcbaaDoorW.PrintMore
set_option linter.unusedVariables false
set_option linter.unusedSimpArgs false
theorem getP_bad {l : List Int} {p : Nat} {n t e : Int} (h : getP l p = (n, t, e)) (he : e ≠ 0) : (peekP (l.drop p)).2.2 = e ∧ n = 0 ∧ t = p := by
  unfold getP at h
  by_cases h0 : (peekP (l.drop p)).2.2 = 0
  · rw [if_pos h0] at h
    simp only [Prod.mk.injEq] at h
    exact absurd h.2.2.symm he
  · rw [if_neg h0] at h
    simp only [Prod.mk.injEq] at h
    exact ⟨h.2.2, h.1.symm, h.2.1.symm⟩
theorem row_ok {l r : List Int} {i j : Nat} (hb : ∀ x ∈ l, 0 ≤ x ∧ x < 256) (h : getRowP l i = (r, (j : Int), 0)) : rowS ⟨l.drop i, 0⟩ = (r, ⟨l.drop j, 0⟩) := by
  unfold getRowP at h
  by_cases h0 : (getP l i).2.2 = 0
  · rw [if_pos h0] at h
    by_cases h1 : 0 ≤ (getP l i).1 ∧ (getP l i).1 ≤ 65536
    · rw [if_pos h1] at h
      by_cases h2 : (l.length : Int) - (getP l i).2.1 < (getP l i).1
      · rw [if_pos h2] at h; simp at h
      · rw [if_neg h2] at h
        simp only [Prod.mk.injEq] at h
        have hq : getP l i = ((getP l i).1, (getP l i).2.1, 0) := by rw [← h0]
        obtain ⟨k, hk, e, k1, k2, k3⟩ := getP_ok hq hb
        obtain ⟨m, hm⟩ := Int.eq_ofNat_of_zero_le h1.1
        rw [hm] at hk h2 h1
        rw [e] at h2
        have hjm : j = i + k + m := by have := h.2.1; rw [e, hm] at this; omega
        rw [rowS_ok hk (by omega) (by rw [List.length_drop]; omega), List.drop_drop, List.drop_drop, ← h.1, e, hm]
        rw [hjm, Int.toNat_natCast, show ((i : Int) + (k : Int)).toNat = i + k from by omega, Nat.add_assoc]
    · rw [if_neg h1] at h; simp at h
  · rw [if_neg h0] at h
    simp only [Prod.mk.injEq] at h
    exact absurd h.2.2 h0
theorem row_bad {l r : List Int} {i : Nat} {t e : Int} (hb : ∀ x ∈ l, 0 ≤ x ∧ x < 256) (h : getRowP l i = (r, t, e)) (he : e ≠ 0) : rowS ⟨l.drop i, 0⟩ = ([], ⟨l.drop i, e⟩) := by
  unfold getRowP at h
  by_cases h0 : (getP l i).2.2 = 0
  · rw [if_pos h0] at h
    have hq : getP l i = ((getP l i).1, (getP l i).2.1, 0) := by rw [← h0]
    obtain ⟨k, hk, e1, k1, k2, k3⟩ := getP_ok hq hb
    by_cases h1 : 0 ≤ (getP l i).1 ∧ (getP l i).1 ≤ 65536
    · rw [if_pos h1] at h
      by_cases h2 : (l.length : Int) - (getP l i).2.1 < (getP l i).1
      · rw [if_pos h2] at h
        simp only [Prod.mk.injEq] at h
        rw [rowS_short hk h1 (by rw [List.length_drop]; omega), h.2.2]
      · rw [if_neg h2] at h
        simp only [Prod.mk.injEq] at h
        exact absurd h.2.2.symm he
    · rw [if_neg h1] at h
      simp only [Prod.mk.injEq] at h
      rw [rowS_out hk h1, h.2.2]
  · rw [if_neg h0] at h
    simp only [Prod.mk.injEq] at h
    have h3 : getP l i = ((getP l i).1, (getP l i).2.1, e) := by rw [← h.2.2]
    obtain ⟨b1, _, _⟩ := getP_bad h3 he
    exact rowS_bad (n := (peekP (l.drop i)).1) (k := (peekP (l.drop i)).2.1) (by rw [← b1]) he
theorem num_ok {l : List Int} {i j : Nat} {m n : Int} (hb : ∀ x ∈ l, 0 ≤ x ∧ x < 256) (h : getNumP l i m = (n, (j : Int), 0)) : belowS (m + 1) ⟨l.drop i, 0⟩ = (n, ⟨l.drop j, 0⟩) := by
  obtain ⟨j', e1, h1, hq, h2, h3⟩ := getNumP_ok h hb
  obtain ⟨k, hk, e, k1, k2, k3⟩ := getP_ok hq hb
  rw [belowS_ok hk ⟨h2, by omega⟩, Int.toNat_natCast, List.drop_drop]
  have : j = i + k := by omega
  rw [this]
theorem num_bad {l : List Int} {i : Nat} {m n t e : Int} (hb : ∀ x ∈ l, 0 ≤ x ∧ x < 256) (h : getNumP l i m = (n, t, e)) (he : e ≠ 0) : belowS (m + 1) ⟨l.drop i, 0⟩ = (0, ⟨l.drop i, e⟩) := by
  unfold getNumP at h
  by_cases h0 : (getP l i).2.2 = 0
  · rw [if_pos h0] at h
    have hq : getP l i = ((getP l i).1, (getP l i).2.1, 0) := by rw [← h0]
    obtain ⟨k, hk, e1, k1, k2, k3⟩ := getP_ok hq hb
    by_cases h1 : 0 ≤ (getP l i).1 ∧ (getP l i).1 ≤ m
    · rw [if_pos h1] at h
      simp only [Prod.mk.injEq] at h
      exact absurd h.2.2.symm he
    · rw [if_neg h1] at h
      simp only [Prod.mk.injEq] at h
      rw [belowS_out hk (by omega), h.2.2]
  · rw [if_neg h0] at h
    simp only [Prod.mk.injEq] at h
    have h3 : getP l i = ((getP l i).1, (getP l i).2.1, e) := by rw [← h.2.2]
    obtain ⟨b1, _, _⟩ := getP_bad h3 he
    exact belowS_bad (n := (peekP (l.drop i)).1) (k := (peekP (l.drop i)).2.1) (by rw [← b1]) he
theorem truth_ok {l : List Int} {i j : Nat} {b : Bool} (h : getTruthP l i = (b, (j : Int), 0)) : truthS ⟨l.drop i, 0⟩ = (b, ⟨l.drop j, 0⟩) := by
  unfold getTruthP at h
  unfold truthS
  cases hs : l.drop i with
  | nil => rw [hs] at h; simp at h
  | cons x r =>
    rw [hs] at h
    simp only at h
    by_cases h1 : 1 < x
    · rw [if_pos h1] at h; simp at h
    · rw [if_neg h1] at h
      simp only [Prod.mk.injEq] at h
      have hj : j = i + 1 := by omega
      have hr : l.drop j = r := by rw [hj, ← List.drop_drop, hs]; rfl
      rw [if_pos rfl]
      simp only [if_neg h1, hr, h.1]
theorem truth_bad {l : List Int} {i : Nat} {b : Bool} {t e : Int} (h : getTruthP l i = (b, t, e)) (he : e ≠ 0) : truthS ⟨l.drop i, 0⟩ = (false, ⟨l.drop i, e⟩) := by
  unfold getTruthP at h
  unfold truthS
  cases hs : l.drop i with
  | nil =>
    rw [hs] at h
    simp only [Prod.mk.injEq] at h
    simp [h.2.2]
  | cons x r =>
    rw [hs] at h
    simp only at h
    by_cases h1 : 1 < x
    · rw [if_pos h1] at h
      simp only [Prod.mk.injEq] at h
      simp [h1, h.2.2]
    · rw [if_neg h1] at h
      simp only [Prod.mk.injEq] at h
      exact absurd h.2.2.symm he
/-- both read the same -/
theorem rget_eq {l : List Int} {p : Nat} (hb : ∀ x ∈ l, 0 ≤ x ∧ x < 256) (hp : p ≤ l.length) :
    (∃ (en : En) (j : Nat), rgetS l p = (en, (j : Int), 0) ∧ j ≤ l.length ∧ getS ⟨l.drop p, 0⟩ = (en, ⟨l.drop j, 0⟩)) ∨ (∃ (e : Int) (s : St), e ≠ 0 ∧ rgetS l p = (En.zero, (p : Int), e) ∧ s.e = e ∧ getS ⟨l.drop p, 0⟩ = (En.zero, s)) := by
  obtain ⟨k, t1, e1, hq1⟩ : ∃ x y z, getRowP l p = (x, y, z) := ⟨_, _, _, rfl⟩
  by_cases z1 : e1 = 0
  · subst z1
    obtain ⟨i1, rfl, hi1, _⟩ := getRowP_ok hq1 hb
    have s1 := row_ok hb hq1
    obtain ⟨a, t2, e2, hq2⟩ : ∃ x y z, getNumP l i1 1099511627775 = (x, y, z) := ⟨_, _, _, rfl⟩
    have r1 : rgetS l p = rget2 l p k i1 := by unfold rgetS; rw [hq1]; simp only [if_true, Int.toNat_natCast]
    by_cases z2 : e2 = 0
    · subst z2
      obtain ⟨i2, rfl, hi2, _⟩ := getNumP_ok hq2 hb
      have s2 := num_ok hb hq2
      obtain ⟨b, t3, e3, hq3⟩ : ∃ x y z, getNumP l i2 1048575 = (x, y, z) := ⟨_, _, _, rfl⟩
      have r2 : rgetS l p = rget3 l p k a i2 := by rw [r1]; unfold rget2; rw [hq2]; simp only [if_true, Int.toNat_natCast]
      by_cases z3 : e3 = 0
      · subst z3
        obtain ⟨i3, rfl, hi3, _⟩ := getNumP_ok hq3 hb
        have s3 := num_ok hb hq3
        obtain ⟨c, t4, e4, hq4⟩ : ∃ x y z, getNumP l i3 1048575 = (x, y, z) := ⟨_, _, _, rfl⟩
        have r3 : rgetS l p = rget4 l p k a b i3 := by rw [r2]; unfold rget3; rw [hq3]; simp only [if_true, Int.toNat_natCast]
        by_cases z4 : e4 = 0
        · subst z4
          obtain ⟨i4, rfl, hi4, _⟩ := getNumP_ok hq4 hb
          have s4 := num_ok hb hq4
          obtain ⟨h, t5, e5, hq5⟩ : ∃ x y z, getTruthP l i4 = (x, y, z) := ⟨_, _, _, rfl⟩
          have r4 : rgetS l p = rget5 l p k a b c i4 := by rw [r3]; unfold rget4; rw [hq4]; simp only [if_true, Int.toNat_natCast]
          by_cases z5 : e5 = 0
          · subst z5
            obtain ⟨i5, rfl, hi5⟩ := getTruthP_ok hq5 hi4
            have s5 := truth_ok hq5
            have r5 : rgetS l p = rget6 l p k a b c h i5 := by rw [r4]; unfold rget5; rw [hq5]; simp only [if_true, Int.toNat_natCast]
            have g5 : getS ⟨l.drop p, 0⟩ = (let (v, s6) := if h then rowS ⟨l.drop i5, 0⟩ else ([], ⟨l.drop i5, 0⟩); if s6.e = 0 ∧ okEnt (strOfNums k) a b c h v then (⟨k, a, b, c, h, v⟩, s6) else (En.zero, failS s6)) := by
              simp only [show (1099511627775 : Int) + 1 = 1099511627776 from rfl] at s2
              simp only [show (1048575 : Int) + 1 = 1048576 from rfl] at s3 s4
              unfold getS; rw [s1]; simp only [s2, s3, s4, s5]
            have fin : ∀ (v : List Int) (j : Nat), j ≤ l.length → rgetS l p = rget7 p k a b c h v (j : Int) → getS ⟨l.drop p, 0⟩ = (if (0 : Int) = 0 ∧ okEnt (strOfNums k) a b c h v then (⟨k, a, b, c, h, v⟩, (⟨l.drop j, 0⟩ : St)) else (En.zero, failS ⟨l.drop j, 0⟩)) → (∃ (en : En) (j : Nat), rgetS l p = (en, (j : Int), 0) ∧ j ≤ l.length ∧ getS ⟨l.drop p, 0⟩ = (en, ⟨l.drop j, 0⟩)) ∨ (∃ (e : Int) (s : St), e ≠ 0 ∧ rgetS l p = (En.zero, (p : Int), e) ∧ s.e = e ∧ getS ⟨l.drop p, 0⟩ = (En.zero, s)) := by
              intro v j hj e1 e2
              by_cases hk : okEnt (strOfNums k) a b c h v
              · rw [if_pos ⟨rfl, hk⟩] at e2
                exact .inl ⟨_, j, by rw [e1]; unfold rget7; rw [if_pos hk], hj, e2⟩
              · rw [if_neg (by rintro ⟨_, h⟩; exact hk h)] at e2
                exact .inr ⟨11, _, by decide, by rw [e1]; unfold rget7; rw [if_neg hk], rfl, e2⟩
            cases h
            · refine fin [] i5 hi5 ?_ ?_
              · rw [r5]; unfold rget6; rw [if_neg Bool.false_ne_true]
              · rw [g5]; rfl
            · obtain ⟨v, t6, e6, hq6⟩ : ∃ x y z, getRowP l i5 = (x, y, z) := ⟨_, _, _, rfl⟩
              by_cases z6 : e6 = 0
              · subst z6
                obtain ⟨i6, rfl, hi6, _⟩ := getRowP_ok hq6 hb
                refine fin v i6 hi6 ?_ ?_
                · rw [r5]; unfold rget6; rw [if_pos rfl, hq6]; simp only [if_true]
                · rw [g5]; simp only [if_true, row_ok hb hq6]
              · refine .inr ⟨e6, ⟨l.drop i5, e6⟩, z6, ?_, rfl, ?_⟩
                · rw [r5]; unfold rget6; rw [if_pos rfl, hq6]; simp only [if_neg z6]
                · rw [g5]; simp only [if_true, row_bad hb hq6 z6]
                  rw [if_neg (by rintro ⟨h, _⟩; exact z6 h), failS_dead z6]
          · refine .inr ⟨e5, ⟨l.drop i4, e5⟩, z5, ?_, rfl, ?_⟩
            · rw [r4]; unfold rget5; rw [hq5]; simp only [if_neg z5]
            · have s5 := truth_bad hq5 z5
              simp only [show (1099511627775 : Int) + 1 = 1099511627776 from rfl] at s2
              simp only [show (1048575 : Int) + 1 = 1048576 from rfl] at s3 s4
              unfold getS; rw [s1]; simp only [s2, s3, s4, s5]
              simp only [Bool.false_eq_true, if_false]
              rw [if_neg (by rintro ⟨h, _⟩; exact z5 h), failS_dead z5]
        · refine .inr ⟨e4, ⟨l.drop i3, e4⟩, z4, ?_, rfl, ?_⟩
          · rw [r3]; unfold rget4; rw [hq4]; simp only [if_neg z4]
          · have s4 := num_bad hb hq4 z4
            simp only [show (1099511627775 : Int) + 1 = 1099511627776 from rfl] at s2
            simp only [show (1048575 : Int) + 1 = 1048576 from rfl] at s3 s4
            have d1 := truthS_dead (s := ⟨l.drop i3, e4⟩) z4
            unfold getS; rw [s1]; simp only [s2, s3, s4, d1]
            simp only [Bool.false_eq_true, if_false]
            rw [if_neg (by rintro ⟨h, _⟩; exact z4 h), failS_dead z4]
      · refine .inr ⟨e3, ⟨l.drop i2, e3⟩, z3, ?_, rfl, ?_⟩
        · rw [r2]; unfold rget3; rw [hq3]; simp only [if_neg z3]
        · have s3 := num_bad hb hq3 z3
          simp only [show (1099511627775 : Int) + 1 = 1099511627776 from rfl] at s2
          simp only [show (1048575 : Int) + 1 = 1048576 from rfl] at s3
          have d1 := truthS_dead (s := ⟨l.drop i2, e3⟩) z3
          have d2 := belowS_dead (m := 1048576) (s := ⟨l.drop i2, e3⟩) z3
          unfold getS; rw [s1]; simp only [s2, s3, d1, d2]
          simp only [Bool.false_eq_true, if_false]
          rw [if_neg (by rintro ⟨h, _⟩; exact z3 h), failS_dead z3]
    · refine .inr ⟨e2, ⟨l.drop i1, e2⟩, z2, ?_, rfl, ?_⟩
      · rw [r1]; unfold rget2; rw [hq2]; simp only [if_neg z2]
      · have s2 := num_bad hb hq2 z2
        simp only [show (1099511627775 : Int) + 1 = 1099511627776 from rfl] at s2
        have d1 := truthS_dead (s := ⟨l.drop i1, e2⟩) z2
        have d2 := belowS_dead (m := 1048576) (s := ⟨l.drop i1, e2⟩) z2
        unfold getS; rw [s1]; simp only [s2, d1, d2]
        simp only [Bool.false_eq_true, if_false]
        rw [if_neg (by rintro ⟨h, _⟩; exact z2 h), failS_dead z2]
  · refine .inr ⟨e1, ⟨l.drop p, e1⟩, z1, ?_, rfl, ?_⟩
    · unfold rgetS; rw [hq1]; simp only [if_neg z1]
    · have s1 := row_bad hb hq1 z1
      have d1 := truthS_dead (s := ⟨l.drop p, e1⟩) z1
      have d2 := belowS_dead (m := 1048576) (s := ⟨l.drop p, e1⟩) z1
      have d3 := belowS_dead (m := 1099511627776) (s := ⟨l.drop p, e1⟩) z1
      unfold getS; rw [s1]; simp only [d1, d2, d3]
      simp only [Bool.false_eq_true, if_false]
      rw [if_neg (by rintro ⟨h, _⟩; exact z1 h), failS_dead z1]
end Go.Proofs.YthaoiamgkpkcbaaDoor.Tg
namespace Go.Proofs.YthaoiamgkpkcbaaDoor.Fd
open Go.ChangeShapes Go.WideShapes Go.ChangeAt Go.RowKit Go.Proofs.YthaoiamgkpkcbaaDoor.Tg Go.Proofs.YthaoiamgkpkcbaaDoor.EncC Go.Proofs.YthaoiamgkpkcbaaDoor.Ms
open Go.Proofs.YthaoiamgkpkcbaaDoorW.PrintWords Go.Proofs.YthaoiamgkpkcbaaDoorW.PrintLast Go.Proofs.YthaoiamgkpkcbaaDoorW.PrintMore
def okG (l : List Int) (a : Int) : Prop := l.length ≤ 140737488351232 ∧ (∀ x ∈ l, 0 ≤ x ∧ x < 256) ∧ 0 ≤ a ∧ a ≤ l.length
instance (l : List Int) (a : Int) : Decidable (okG l a) := by unfold okG; infer_instance
def icehouseref03_Get.f (l : List Int) (a : Int) : Option (ByteArray × Int × Int × Int × Bool × List Int × Int × Int) := if okG l a then some (strOfNums (rgetS l a.toNat).1.k, (rgetS l a.toNat).1.a, (rgetS l a.toNat).1.b, (rgetS l a.toNat).1.c, (rgetS l a.toNat).1.h, (rgetS l a.toNat).1.v, (rgetS l a.toNat).2.1, (rgetS l a.toNat).2.2) else none
theorem icehouseref03_Get.is {l : List Int} {a : Int} (h : okG l a) : icehouseref03_Get.f l a = some (strOfNums (rgetS l a.toNat).1.k, (rgetS l a.toNat).1.a, (rgetS l a.toNat).1.b, (rgetS l a.toNat).1.c, (rgetS l a.toNat).1.h, (rgetS l a.toNat).1.v, (rgetS l a.toNat).2.1, (rgetS l a.toNat).2.2) := if_pos h
theorem icehouseref03_Get.calls (A : Option Addr) (d : Nat) (l : List Int) (a : Int) (r1 : ByteArray) (r2 : Int) (r3 : Int) (r4 : Int) (r5 : Bool) (r6 : List Int) (r7 : Int) (r8 : Int) (w : World) (hr : Kd.C (Kd.int .u8) w A l.length l) (hc : l.length ≤ d) (hf : icehouseref03_Get.f l a = some (r1, r2, r3, r4, r5, r6, r7, r8)) :
    Calls Tryd.prog 52 #[.slice A l.length d, .int .i64 a] w fun e w' => ∃ v5_ : Value, e = .returned (.tuple #[.agg #[.string r1, .int .i64 r2, .int .i64 r3, .int .i64 r4, .bool r5, v5_], .int .i64 r7, .int .i64 r8]) ∧ Kd.R (Kd.int .u8) 5 w' w.heap.size (fun _ => True) v5_ r6 ∧ Below w.heap.size w w' := by
  by_cases h : okG l a
  · rw [icehouseref03_Get.is h] at hf
    simp only [Option.some.injEq, Prod.mk.injEq] at hf
    obtain ⟨rfl, rfl, rfl, rfl, rfl, rfl, rfl, rfl⟩ := hf
    obtain ⟨h1, h2, h3, h4⟩ := h
    obtain ⟨p, rfl⟩ := Int.eq_ofNat_of_zero_le h3
    rw [Int.toNat_natCast]
    refine (rgetE_ hr hc p (by omega) h1 h2).mono ?_
    rintro e w' ⟨A2, c2, rfl, hR, hB⟩
    exact ⟨_, rfl, hR, hB⟩
  · exact absurd (show icehouseref03_Get.f l a = none from if_neg h) (by rw [hf]; simp)
end Go.Proofs.YthaoiamgkpkcbaaDoor.Fd
namespace Go.Proofs.YthaoiamgkpkcbaaDoor.QD
open Go.Proofs.YthaoiamgkpkcbaaDoor.QL
open Go.RowKit Go.Proofs.YthaoiamgkpkcbaaDoorW.PrintWords Go.Proofs.YthaoiamgkpkcbaaDoorW.PrintLast Go.Proofs.YthaoiamgkpkcbaaDoorW.PrintMore
attribute [local go_sem] max2_int min2_int max_two min_two max_three min_three max_four min_four   -- for this text's walks alone
set_option linter.unusedVariables false
set_option linter.unusedSimpArgs false
theorem info3 : (Tryd.prog.info? 3).map (fun i => (i.zero, i.size, i.bytes)) = some (some (.int .i64 0), 1, 8) := by kernel_rfl
theorem info28 : (Tryd.prog.info? 28).map (fun i => (i.zero, i.size, i.bytes)) = some (some (.agg #[(.string ⟨#[]⟩), (.int .i64 0), (.int .i64 0), (.int .i64 0), (.bool false), (.slice none 0 0)]), 6, 72) := by kernel_rfl
-- the values' own types
/-! #### struct type 23 -/
/-! #### struct type 26 -/
/-! #### struct type 28 -/
end Go.Proofs.YthaoiamgkpkcbaaDoor.QD
