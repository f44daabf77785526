/- The reference's Get of an entry. Conditions: bytes that fit in memory. -/
import Derived.Test.YtbmbnkoggmeanaaZTagsBack25
namespace Go.Proofs.Ytbmbnkoggmeanaa.Tg
open Go.ChangeShapes Go.WideShapes Go.ChangeAt Go.RowKit Go.Proofs.Ytbmbnkoggmeanaa.Pk Go.Proofs.Ytbmbnkoggmeanaa.EncC Go.Proofs.Ytbmbnkoggmeanaa.Lex
open Go.Proofs.Ytbmbnkoggmeanaa.Hlp Go.Proofs.Ytbmbnkoggmeanaa.Wrd Go.Proofs.YtbmbnkoggmeanaaW.PrintWords Go.Proofs.YtbmbnkoggmeanaaW.PrintLast Go.Proofs.YtbmbnkoggmeanaaW.PrintMore
set_option linter.unusedVariables false
set_option linter.unusedSimpArgs false
def rget7 (p : Nat) (k : List Int) (a b c : Int) (h : Bool) (v : List Int) (m : Int) : En × Int × Int := if okEnt (strOfNums k) a b c h v then (⟨k, a, b, c, h, v⟩, m, 0) else (En.zero, (p : Int), 11)
def rget6 (l : List Int) (p : Nat) (k : List Int) (a b c : Int) (h : Bool) (i : Nat) : En × Int × Int := if h = true then (if (getRowP l i).2.2 = 0 then rget7 p k a b c h (getRowP l i).1 (getRowP l i).2.1 else (En.zero, (p : Int), (getRowP l i).2.2)) else rget7 p k a b c h [] (i : Int)
def rget5 (l : List Int) (p : Nat) (k : List Int) (a b c : Int) (i : Nat) : En × Int × Int := if (getTruthP l i).2.2 = 0 then rget6 l p k a b c (getTruthP l i).1 (getTruthP l i).2.1.toNat else (En.zero, (p : Int), (getTruthP l i).2.2)
def rget4 (l : List Int) (p : Nat) (k : List Int) (a b : Int) (i : Nat) : En × Int × Int := if (getNumP l i 1048575).2.2 = 0 then rget5 l p k a b (getNumP l i 1048575).1 (getNumP l i 1048575).2.1.toNat else (En.zero, (p : Int), (getNumP l i 1048575).2.2)
def rget3 (l : List Int) (p : Nat) (k : List Int) (a : Int) (i : Nat) : En × Int × Int := if (getNumP l i 1048575).2.2 = 0 then rget4 l p k a (getNumP l i 1048575).1 (getNumP l i 1048575).2.1.toNat else (En.zero, (p : Int), (getNumP l i 1048575).2.2)
def rget2 (l : List Int) (p : Nat) (k : List Int) (i : Nat) : En × Int × Int := if (getNumP l i 1099511627775).2.2 = 0 then rget3 l p k (getNumP l i 1099511627775).1 (getNumP l i 1099511627775).2.1.toNat else (En.zero, (p : Int), (getNumP l i 1099511627775).2.2)
/-- an entry at a place: it, the place behind, what is wrong -/
def rgetS (l : List Int) (p : Nat) : En × Int × Int := if (getRowP l p).2.2 = 0 then rget2 l p (getRowP l p).1 (getRowP l p).2.1.toNat else (En.zero, (p : Int), (getRowP l p).2.2)
theorem getNumP_ok {l : List Int} {p : Nat} {m n t : Int} (h : getNumP l p m = (n, t, 0)) (hb : ∀ x ∈ l, 0 ≤ x ∧ x < 256) : ∃ i : Nat, t = (i : Int) ∧ i ≤ l.length ∧ getP l p = (n, t, 0) ∧ 0 ≤ n ∧ n ≤ m := by
  unfold getNumP at h
  by_cases h0 : (getP l p).2.2 = 0
  · rw [if_pos h0] at h
    by_cases h1 : 0 ≤ (getP l p).1 ∧ (getP l p).1 ≤ m
    · rw [if_pos h1] at h
      have hq : getP l p = (n, t, 0) := by
        rw [← h, ← h0]
      obtain ⟨k, _, e, _, h2, _⟩ := getP_ok hq hb
      simp only [Prod.mk.injEq] at h
      exact ⟨p + k, by omega, h2, hq, by rw [← h.1]; exact h1.1, by rw [← h.1]; exact h1.2⟩
    · rw [if_neg h1] at h; simp at h
  · rw [if_neg h0] at h
    simp only [Prod.mk.injEq] at h
    exact absurd h.2.2 h0
theorem getRowP_ok {l r : List Int} {p : Nat} {t : Int} (h : getRowP l p = (r, t, 0)) (hb : ∀ x ∈ l, 0 ≤ x ∧ x < 256) : ∃ i : Nat, t = (i : Int) ∧ i ≤ l.length ∧ r.length ≤ 65536 := by
  unfold getRowP at h
  by_cases h0 : (getP l p).2.2 = 0
  · rw [if_pos h0] at h
    by_cases h1 : 0 ≤ (getP l p).1 ∧ (getP l p).1 ≤ 65536
    · rw [if_pos h1] at h
      by_cases h2 : (l.length : Int) - (getP l p).2.1 < (getP l p).1
      · rw [if_pos h2] at h; simp at h
      · rw [if_neg h2] at h
        simp only [Prod.mk.injEq] at h
        have hq : getP l p = ((getP l p).1, (getP l p).2.1, 0) := by rw [← h0]
        obtain ⟨k, _, e, _, _, _⟩ := getP_ok hq hb
        refine ⟨((getP l p).2.1 + (getP l p).1).toNat, by omega, by omega, ?_⟩
        rw [← h.1, List.length_take]
        omega
    · rw [if_neg h1] at h; simp at h
  · rw [if_neg h0] at h
    simp only [Prod.mk.injEq] at h
    exact absurd h.2.2 h0
theorem getTruthP_ok {l : List Int} {p : Nat} {b : Bool} {t : Int} (h : getTruthP l p = (b, t, 0)) (hp : p ≤ l.length) : ∃ i : Nat, t = (i : Int) ∧ i ≤ l.length := by
  unfold getTruthP at h
  cases hs : l.drop p with
  | nil => rw [hs] at h; simp at h
  | cons x r =>
    have := drop_len hs
    rw [hs] at h
    simp only at h
    by_cases h1 : 1 < x
    · rw [if_pos h1] at h; simp at h
    · rw [if_neg h1] at h
      simp only [Prod.mk.injEq] at h
      exact ⟨p + 1, by omega, by omega⟩
/-- what the reference's Get tells -/
def RGet (w : World) (r : En × Int × Int) (x : Ending) (w' : World) : Prop :=
  ∃ A c, x = .returned (.tuple #[.agg #[.string (strOfNums r.1.k), .int .i64 r.1.a, .int .i64 r.1.b, .int .i64 r.1.c, .bool r.1.h, .slice A r.1.v.length c], .int .i64 r.2.1, .int .i64 r.2.2]) ∧ Kd.C (Kd.int .u8) w' A r.1.v.length r.1.v ∧ r.1.v.length ≤ c ∧ Below w.heap.size w w'
theorem strOfNums_nil : strOfNums [] = ⟨#[]⟩ := rfl
theorem RGet.bad {w w' : World} (p e : Int) (h : Below w.heap.size w w') : RGet w (En.zero, p, e) (.returned (.tuple #[.agg #[.string ⟨#[]⟩, .int .i64 0, .int .i64 0, .int .i64 0, .bool false, .slice none 0 0], .int .i64 p, .int .i64 e])) w' := ⟨none, 0, rfl, C_empty, Nat.le_refl _, h⟩
set_option maxHeartbeats 8000000 in
set_option maxRecDepth 100000 in
theorem rgetE_ {w : World} {A : Option Addr} {n c : Nat} {l : List Int} (hr : Kd.C (Kd.int .u8) w A n l) (hc : n ≤ c) (p : Nat) (hp : p ≤ n) (hl : n ≤ 140737488351232) (hb : ∀ x ∈ l, 0 ≤ x ∧ x < 256) :
    Calls Try.prog 24 #[.slice A n c, .int .i64 p] w (RGet w (rgetS l p)) := by
  obtain rfl : l.length = n := hr.1
  have hu40 := Try.underlying40
  have hu23 := Try.underlying23
  have hu38 := Try.underlying38
  obtain ⟨b4, b7⟩ := two_blks w (.cells #[.string ⟨#[]⟩, .int .i64 0, .int .i64 0, .int .i64 0, .bool false, .slice none 0 0] 40) (.cells #[.string ⟨#[]⟩, .int .i64 0, .int .i64 0, .int .i64 0, .bool false, .slice none 0 0] 40)
  have HR0 := Aside0.mk hr
  have HR := Aside0.mk (Kd.C_alloc (Kd.C_alloc hr (.cells #[.string ⟨#[]⟩, .int .i64 0, .int .i64 0, .int .i64 0, .bool false, .slice none 0 0] 40)) (.cells #[.string ⟨#[]⟩, .int .i64 0, .int .i64 0, .int .i64 0, .bool false, .slice none 0 0] 40))
  have HB := Aside0.mk (below_allocs (Below.refl w.heap.size w) (.cells #[.string ⟨#[]⟩, .int .i64 0, .int .i64 0, .int .i64 0, .bool false, .slice none 0 0] 40) (.cells #[.string ⟨#[]⟩, .int .i64 0, .int .i64 0, .int .i64 0, .bool false, .slice none 0 0] 40))
  have B4 := Aside0.mk b4
  have B7 := Aside0.mk b7
  have HBt := Aside0.mk hb
  clear hr b4 b7 hb
  go_enter Try.func24, Try.ntmps24
  go_upto_region 2 with fail
  generalize (w.alloc (.cells #[.string ⟨#[]⟩, .int .i64 0, .int .i64 0, .int .i64 0, .bool false, .slice none 0 0] 40)).alloc (.cells #[.string ⟨#[]⟩, .int .i64 0, .int .i64 0, .int .i64 0, .bool false, .slice none 0 0] 40) = W at *
  go_wp2_with fail
  obtain ⟨x, y, z, hq⟩ : ∃ x y z, getRowP l p = (x, y, z) := ⟨_, _, _, rfl⟩
  have K := rgetrow_c HR.out hc p hp hl HBt.out
  rw [hq] at K
  (with_reducible refine K.mono ?_)
  rintro e w1 ⟨Ak, ck, rfl, hCk, hck, hb⟩
  have HCk := Aside0.mk hCk
  clear K hCk
  have HB := Aside0.mk (below_then HB.out HB.out.size hb)
  have HR := Aside0.mk (Kd.C_below HR.out hb)
  have B4 := Aside0.mk (blk_below B4.out hb)
  have B7 := Aside0.mk (blk_below B7.out hb)
  clear hb
  by_cases hz : z = 0
  · subst hz
    obtain ⟨i1, rfl, hi1, hkl⟩ := getRowP_ok hq HBt.out
    have E1 := Lib.hid (show rgetS l p = rget2 l p x i1 by unfold rgetS; rw [hq]; simp only [if_true, Int.toNat_natCast])
    obtain ⟨nk, hnk⟩ : ∃ nk, x.length = nk := ⟨_, rfl⟩
    simp only at HCk hck
    rw [hnk] at HCk hck ⊢
    have HNk := Lib.hid hnk
    clear hq hnk hkl
    go_wp2_with fail
    obtain ⟨a, y1, z1, hq⟩ : ∃ x y z, getNumP l i1 1099511627775 = (x, y, z) := ⟨_, _, _, rfl⟩
    (with_reducible refine (rgetnum_c HR.out hc i1 hi1 1099511627775 hl HBt.out hq).mono ?_)
    rintro e w2 ⟨rfl, hb⟩
    have HCk := Aside0.mk (Kd.C_below HCk.out hb)
    have HB := Aside0.mk (below_then HB.out HB.out.size hb)
    have HR := Aside0.mk (Kd.C_below HR.out hb)
    have B4 := Aside0.mk (blk_below B4.out hb)
    have B7 := Aside0.mk (blk_below B7.out hb)
    clear hb
    by_cases hz : z1 = 0
    · subst hz
      obtain ⟨i2, rfl, hi2, _, _, _⟩ := getNumP_ok hq HBt.out
      have E2 := Lib.hid (show rgetS l p = rget3 l p x a i2 by rw [E1.out]; unfold rget2; rw [hq]; simp only [if_true, Int.toNat_natCast])
      clear hq
      go_wp2_with fail
      obtain ⟨b, y2, z2, hq⟩ : ∃ x y z, getNumP l i2 1048575 = (x, y, z) := ⟨_, _, _, rfl⟩
      (with_reducible refine (rgetnum_c HR.out hc i2 hi2 1048575 hl HBt.out hq).mono ?_)
      rintro e w3 ⟨rfl, hb⟩
      have HCk := Aside0.mk (Kd.C_below HCk.out hb)
      have HB := Aside0.mk (below_then HB.out HB.out.size hb)
      have HR := Aside0.mk (Kd.C_below HR.out hb)
      have B4 := Aside0.mk (blk_below B4.out hb)
      have B7 := Aside0.mk (blk_below B7.out hb)
      clear hb
      by_cases hz : z2 = 0
      · subst hz
        obtain ⟨i3, rfl, hi3, _, _, _⟩ := getNumP_ok hq HBt.out
        have E3 := Lib.hid (show rgetS l p = rget4 l p x a b i3 by rw [E2.out]; unfold rget3; rw [hq]; simp only [if_true, Int.toNat_natCast])
        clear hq
        go_wp2_with fail
        obtain ⟨c, y3, z3, hq⟩ : ∃ x y z, getNumP l i3 1048575 = (x, y, z) := ⟨_, _, _, rfl⟩
        (with_reducible refine (rgetnum_c HR.out hc i3 hi3 1048575 hl HBt.out hq).mono ?_)
        rintro e w4 ⟨rfl, hb⟩
        have HCk := Aside0.mk (Kd.C_below HCk.out hb)
        have HB := Aside0.mk (below_then HB.out HB.out.size hb)
        have HR := Aside0.mk (Kd.C_below HR.out hb)
        have B4 := Aside0.mk (blk_below B4.out hb)
        have B7 := Aside0.mk (blk_below B7.out hb)
        clear hb
        by_cases hz : z3 = 0
        · subst hz
          obtain ⟨i4, rfl, hi4, _, _, _⟩ := getNumP_ok hq HBt.out
          have E4 := Lib.hid (show rgetS l p = rget5 l p x a b c i4 by rw [E3.out]; unfold rget4; rw [hq]; simp only [if_true, Int.toNat_natCast])
          clear hq
          go_wp2_with fail
          obtain ⟨h, y4, z4, hq⟩ : ∃ x y z, getTruthP l i4 = (x, y, z) := ⟨_, _, _, rfl⟩
          (with_reducible refine (rgettruth_c HR.out hc i4 hi4 hl hq).mono ?_)
          rintro e w5 ⟨rfl, hb⟩
          have HCk := Aside0.mk (Kd.C_below HCk.out hb)
          have HB := Aside0.mk (below_then HB.out HB.out.size hb)
          have HR := Aside0.mk (Kd.C_below HR.out hb)
          have B4 := Aside0.mk (blk_below B4.out hb)
          have B7 := Aside0.mk (blk_below B7.out hb)
          clear hb
          by_cases hz : z4 = 0
          · subst hz
            obtain ⟨i5, rfl, hi5⟩ := getTruthP_ok hq hi4
            have E5 := Lib.hid (show rgetS l p = rget6 l p x a b c h i5 by rw [E4.out]; unfold rget5; rw [hq]; simp only [if_true, Int.toNat_natCast])
            clear hq
            have hcv := conv_str (c := ck) HCk.out
            have B7p := B7
            go_upto_region 18 with fail
            have BO := Aside0.mk (blk_new w5 (.cells #[.string (strOfNums x), .int .i64 a, .int .i64 b, .int .i64 c, .bool h, .slice none 0 0] 40))
            have HB := Aside0.mk (below_alloc HB.out (.cells #[.string (strOfNums x), .int .i64 a, .int .i64 b, .int .i64 c, .bool h, .slice none 0 0] 40))
            have B4 := Aside0.mk (blk_alloc B4.out (.cells #[.string (strOfNums x), .int .i64 a, .int .i64 b, .int .i64 c, .bool h, .slice none 0 0] 40))
            have B7 := Aside0.mk (blk_alloc B7.out (.cells #[.string (strOfNums x), .int .i64 a, .int .i64 b, .int .i64 c, .bool h, .slice none 0 0] 40))
            have HR := Aside0.mk (Kd.C_alloc HR.out (.cells #[.string (strOfNums x), .int .i64 a, .int .i64 b, .int .i64 c, .bool h, .slice none 0 0] 40))
            have gO1 : w.heap.size + 1 < w5.heap.size := blk_lt (show w5.heap[w.heap.size + 1]? = _ from B7p.out)
            obtain ⟨gO, hgO⟩ : ∃ g, w5.heap.size = g := ⟨_, rfl⟩
            rw [hgO] at BO gO1
            simp only [hgO]
            generalize w5.alloc (.cells #[.string (strOfNums x), .int .i64 a, .int .i64 b, .int .i64 c, .bool h, .slice none 0 0] 40) = w6 at *
            clear hcv hgO
            have HG := Aside0.mk gO1
            clear gO1
            obtain ⟨o0, o1, o2, o3, o4, o5⟩ := en_cells BO.out
            cases h
            · have E6 := Lib.hid (show rgetS l p = rget7 p x a b c false [] (i5 : Int) by rw [E5.out]; unfold rget6; rw [if_neg Bool.false_ne_true])
              go_wp2_with fail
              have HE : Aside0 (Kd.C (Kd.int .u8) w6 none 0 []) := ⟨C_empty⟩
              obtain ⟨rv, hrv⟩ : ∃ r, rightV (strOfNums x) a b c false [] = r := ⟨_, rfl⟩
              (with_reducible refine (rright_c (strOfNums x) a b c false hrv HE.out (Nat.le_refl 0)).mono ?_)
              rintro e w9 ⟨rfl, hb⟩
              have HVv := Aside0.mk (Kd.C_below (HE.out) hb)
              have HB := Aside0.mk (below_then HB.out HB.out.size hb)
              have B4 := Aside0.mk (blk_below B4.out hb)
              have B7 := Aside0.mk (blk_below B7.out hb)
              have BO := Aside0.mk (blk_below BO.out hb)
              clear hb o0 o1 o2 o3 o4 o5
              by_cases hk : okEnt (strOfNums x) a b c false []
              · obtain rfl : rv = 0 := by rw [← hrv]; exact if_pos hk
                have E := Lib.hid (show rgetS l p = (⟨x, a, b, c, false, []⟩, ((i5 : Int) : Int), 0) by rw [E6.out]; unfold rget7; rw [if_pos hk])
                clear hk hrv
                obtain ⟨o0, o1, o2, o3, o4, o5⟩ := en_cells BO.out
                obtain ⟨n0, n1, n2, n3, n4, n5⟩ := en_cells B4.out
                obtain ⟨m0, m1, m2, m3, m4, m5⟩ := en_free B4.out
                go_wp2_with fail
                have bN := put6_blk (k' := strOfNums x) (a' := a) (b' := b) (c' := c) (h' := false) (v := .slice none 0 0) B4.out
                refine bodyPost_ret (results_ctt rfl _ _ w.heap.size 40 _ (0, 0) _ rfl bN Try.underlying40 rfl (by kernel_rfl)) rfl ?_
                rw [E.out]
                exact ⟨_, _, rfl, C_empty, Nat.le_refl _, put6_below HB.out (Nat.le_refl _)⟩
              · obtain rfl : rv = 2 := by rw [← hrv]; exact if_neg hk
                have E := Lib.hid (show rgetS l p = (En.zero, (p : Int), 11) by rw [E6.out]; unfold rget7; rw [if_neg hk])
                clear hk hrv
                obtain ⟨e0, e1, e2, e3, e4, e5⟩ := en_cells B7.out
                obtain ⟨n0, n1, n2, n3, n4, n5⟩ := en_cells B4.out
                obtain ⟨m0, m1, m2, m3, m4, m5⟩ := en_free B4.out
                go_wp2_with fail
                have bN := put6_blk (k' := ⟨#[]⟩) (a' := 0) (b' := 0) (c' := 0) (h' := false) (v := .slice none 0 0) B4.out
                refine bodyPost_ret (results_ctt rfl _ _ w.heap.size 40 _ (0, 0) _ rfl bN Try.underlying40 rfl (by kernel_rfl)) rfl ?_
                rw [E.out]
                exact RGet.bad _ _ (put6_below HB.out (Nat.le_refl _))
            · go_wp2_with fail
              obtain ⟨v, y6, z6, hq⟩ : ∃ x y z, getRowP l i5 = (x, y, z) := ⟨_, _, _, rfl⟩
              have K := rgetrow_c HR.out hc i5 hi5 hl HBt.out
              rw [hq] at K
              (with_reducible refine K.mono ?_)
              rintro e w7 ⟨Av, cv, rfl, hCv, hcv, hb⟩
              have HCv := Aside0.mk hCv
              have BO := Aside0.mk (blk_below BO.out hb)
              clear K hCv
              have HB := Aside0.mk (below_then HB.out HB.out.size hb)
              have HR := Aside0.mk (Kd.C_below HR.out hb)
              have B4 := Aside0.mk (blk_below B4.out hb)
              have B7 := Aside0.mk (blk_below B7.out hb)
              clear hb
              clear o0 o1 o2 o3 o4 o5
              by_cases hz : z6 = 0
              · subst hz
                obtain ⟨i6, rfl, hi6, hvl⟩ := getRowP_ok hq HBt.out
                have E6 := Lib.hid (show rgetS l p = rget7 p x a b c true v (i6 : Int) by rw [E5.out]; unfold rget6; rw [if_pos rfl, hq]; simp only [if_true])
                obtain ⟨nv, hnv⟩ : ∃ nv, v.length = nv := ⟨_, rfl⟩
                simp only at HCv hcv hvl
                rw [hnv] at HCv hcv hvl ⊢
                have HNv := Lib.hid hnv
                clear hq hnv
                obtain ⟨o0, o1, o2, o3, o4, o5⟩ := en_cells BO.out
                go_wp2_with ((with_reducible refine gate_builtin (b := .append) rfl ?_); at_builtin; refine Kd.R_append_rows (Kd.int .u8) (w0 := w7) w7.heap.size rfl _ _ 36 5 (.int .u8 0) 1 rfl Try.underlying36 info8 rfl (by decide) (by omega) (.slice none 0 0) [] v _ _ _ (fun _ => True) (fun _ => False) rfl rfl (Kd.R_nil _ _ _ _ _) HCv.out (fun _ _ h => h) (fun _ h => h.elim) (fun _ _ => trivial) (Below.refl _ _) (Nat.le_refl _) (by simp; omega) ?_; intro v1 w8 ho hb1 hg hat; rw [List.nil_append] at ho; obtain ⟨A1, c1, rfl⟩ := Kd.R_slice ho; have HO := Aside0.mk ho; have HB8 := Aside0.mk (below_then HB.out HB.out.size hb1); have B48 := Aside0.mk (blk_below B4.out hb1); have B78 := Aside0.mk (blk_below B7.out hb1); have HGs := Aside0.mk (blk_lt BO.out); have BO8 := Aside0.mk (blk_below BO.out hb1); rw [HNv.out] at HO ⊢; clear ho hb1 hg hat o0 o1 o2 o3 o4 o5; obtain ⟨o0, o1, o2, o3, o4, o5⟩ := en_cells BO8.out; obtain ⟨f0, f1, f2, f3, f4, f5⟩ := en_free BO8.out)
                have HB := Aside0.mk (below_set HB8.out (Nat.le_of_lt (Nat.lt_of_succ_lt HG.out)) (j := 5) (v := .slice A1 nv c1))
                have B4 : Aside0 ((w8.setCell ⟨gO, 5, none⟩ (.slice A1 nv c1)).heap[w.heap.size]? = _) := ⟨(Below.heap_setCell w8 _ _ _ (by have := HG.out; simp; omega)).trans B48.out⟩
                have B7 : Aside0 ((w8.setCell ⟨gO, 5, none⟩ (.slice A1 nv c1)).heap[w.heap.size + 1]? = _) := ⟨(Below.heap_setCell w8 _ _ _ (by have := HG.out; simp; omega)).trans B78.out⟩
                have BO : Aside0 ((w8.setCell ⟨gO, 5, none⟩ (.slice A1 nv c1)).heap[gO]? = some (.cells #[.string (strOfNums x), .int .i64 a, .int .i64 b, .int .i64 c, .bool true, .slice A1 nv c1] 40 (0, 0))) := ⟨blk_set BO8.out 5 _⟩
                have HO9 := Aside0.mk (R_farg HO.out HGs.out 5 (.slice A1 nv c1))
                have HS : Aside0 (w.heap.size < w7.heap.size) := ⟨by have h1 := HG.out; have h2 := HGs.out; omega⟩
                generalize w8.setCell ⟨gO, 5, none⟩ (.slice A1 nv c1) = w9 at *
                have HC9 : Aside0 (Kd.C (Kd.int .u8) w9 A1 nv v) := ⟨by have q := (Kd.R_reads' HO9.out).2.2; rwa [HNv.out] at q⟩
                have hc9 : nv ≤ c1 := (Kd.R_reads' HO9.out).2.1
                obtain ⟨rv, hrv⟩ : ∃ r, rightV (strOfNums x) a b c true v = r := ⟨_, rfl⟩
                (with_reducible refine (rright_c (strOfNums x) a b c true hrv HC9.out hc9).mono ?_)
                rintro e w9 ⟨rfl, hb⟩
                have HBv := Aside0.mk hb
                have HB := Aside0.mk (below_then HB.out HB.out.size hb)
                have B4 := Aside0.mk (blk_below B4.out hb)
                have B7 := Aside0.mk (blk_below B7.out hb)
                have BO := Aside0.mk (blk_below BO.out hb)
                clear hb o0 o1 o2 o3 o4 o5
                by_cases hk : okEnt (strOfNums x) a b c true v
                · obtain rfl : rv = 0 := by rw [← hrv]; exact if_pos hk
                  have E := Lib.hid (show rgetS l p = (⟨x, a, b, c, true, v⟩, ((i6 : Int) : Int), 0) by rw [E6.out]; unfold rget7; rw [if_pos hk])
                  clear hk hrv
                  obtain ⟨o0, o1, o2, o3, o4, o5⟩ := en_cells BO.out
                  obtain ⟨n0, n1, n2, n3, n4, n5⟩ := en_cells B4.out
                  obtain ⟨m0, m1, m2, m3, m4, m5⟩ := en_free B4.out
                  go_wp2_with fail
                  have bN := put6_blk (k' := strOfNums x) (a' := a) (b' := b) (c' := c) (h' := true) (v := .slice A1 nv c1) B4.out
                  refine bodyPost_ret (results_ctt rfl _ _ w.heap.size 40 _ (0, 0) _ rfl bN Try.underlying40 rfl (by kernel_rfl)) rfl ?_
                  rw [E.out]
                  have HOv := Kd.R_below HO9.out HBv.out
                  have q := Kd.R_reads' (put6_R (k := strOfNums x) (a := a) (b := b) (c := c) (h := true) (v := .slice A1 nv c1) HOv HS.out)
                  refine ⟨A1, c1, ?_, q.2.2, by rw [← q.1]; exact q.2.1, put6_below HB.out (Nat.le_refl _)⟩
                  rw [HNv.out]; rfl
                · obtain rfl : rv = 2 := by rw [← hrv]; exact if_neg hk
                  have E := Lib.hid (show rgetS l p = (En.zero, (p : Int), 11) by rw [E6.out]; unfold rget7; rw [if_neg hk])
                  clear hk hrv
                  obtain ⟨e0, e1, e2, e3, e4, e5⟩ := en_cells B7.out
                  obtain ⟨n0, n1, n2, n3, n4, n5⟩ := en_cells B4.out
                  obtain ⟨m0, m1, m2, m3, m4, m5⟩ := en_free B4.out
                  go_wp2_with fail
                  have bN := put6_blk (k' := ⟨#[]⟩) (a' := 0) (b' := 0) (c' := 0) (h' := false) (v := .slice none 0 0) B4.out
                  refine bodyPost_ret (results_ctt rfl _ _ w.heap.size 40 _ (0, 0) _ rfl bN Try.underlying40 rfl (by kernel_rfl)) rfl ?_
                  rw [E.out]
                  exact RGet.bad _ _ (put6_below HB.out (Nat.le_refl _))
              · have E := Lib.hid (show rgetS l p = (En.zero, (p : Int), z6) by rw [E5.out]; unfold rget6; rw [if_pos rfl, hq]; simp only [if_neg hz])
                have hz2 : (z6 != 0) = true := bne_iff_ne.2 hz
                clear hq hz
                obtain ⟨e0, e1, e2, e3, e4, e5⟩ := en_cells B7.out
                obtain ⟨n0, n1, n2, n3, n4, n5⟩ := en_cells B4.out
                obtain ⟨m0, m1, m2, m3, m4, m5⟩ := en_free B4.out
                go_wp2_with fail
                have bN := put6_blk (k' := ⟨#[]⟩) (a' := 0) (b' := 0) (c' := 0) (h' := false) (v := .slice none 0 0) B4.out
                refine bodyPost_ret (results_ctt rfl _ _ w.heap.size 40 _ (0, 0) _ rfl bN Try.underlying40 rfl (by kernel_rfl)) rfl ?_
                rw [E.out]
                exact RGet.bad _ _ (put6_below HB.out (Nat.le_refl _))
          · have E := Lib.hid (show rgetS l p = (En.zero, (p : Int), z4) by rw [E4.out]; unfold rget5; rw [hq]; simp only [if_neg hz])
            have hz2 : (z4 != 0) = true := bne_iff_ne.2 hz
            clear hq hz
            obtain ⟨e0, e1, e2, e3, e4, e5⟩ := en_cells B7.out
            obtain ⟨n0, n1, n2, n3, n4, n5⟩ := en_cells B4.out
            obtain ⟨m0, m1, m2, m3, m4, m5⟩ := en_free B4.out
            go_wp2_with fail
            have bN := put6_blk (k' := ⟨#[]⟩) (a' := 0) (b' := 0) (c' := 0) (h' := false) (v := .slice none 0 0) B4.out
            refine bodyPost_ret (results_ctt rfl _ _ w.heap.size 40 _ (0, 0) _ rfl bN Try.underlying40 rfl (by kernel_rfl)) rfl ?_
            rw [E.out]
            exact RGet.bad _ _ (put6_below HB.out (Nat.le_refl _))
        · have E := Lib.hid (show rgetS l p = (En.zero, (p : Int), z3) by rw [E3.out]; unfold rget4; rw [hq]; simp only [if_neg hz])
          have hz2 : (z3 != 0) = true := bne_iff_ne.2 hz
          clear hq hz
          obtain ⟨e0, e1, e2, e3, e4, e5⟩ := en_cells B7.out
          obtain ⟨n0, n1, n2, n3, n4, n5⟩ := en_cells B4.out
          obtain ⟨m0, m1, m2, m3, m4, m5⟩ := en_free B4.out
          go_wp2_with fail
          have bN := put6_blk (k' := ⟨#[]⟩) (a' := 0) (b' := 0) (c' := 0) (h' := false) (v := .slice none 0 0) B4.out
          refine bodyPost_ret (results_ctt rfl _ _ w.heap.size 40 _ (0, 0) _ rfl bN Try.underlying40 rfl (by kernel_rfl)) rfl ?_
          rw [E.out]
          exact RGet.bad _ _ (put6_below HB.out (Nat.le_refl _))
      · have E := Lib.hid (show rgetS l p = (En.zero, (p : Int), z2) by rw [E2.out]; unfold rget3; rw [hq]; simp only [if_neg hz])
        have hz2 : (z2 != 0) = true := bne_iff_ne.2 hz
        clear hq hz
        obtain ⟨e0, e1, e2, e3, e4, e5⟩ := en_cells B7.out
        obtain ⟨n0, n1, n2, n3, n4, n5⟩ := en_cells B4.out
        obtain ⟨m0, m1, m2, m3, m4, m5⟩ := en_free B4.out
        go_wp2_with fail
        have bN := put6_blk (k' := ⟨#[]⟩) (a' := 0) (b' := 0) (c' := 0) (h' := false) (v := .slice none 0 0) B4.out
        refine bodyPost_ret (results_ctt rfl _ _ w.heap.size 40 _ (0, 0) _ rfl bN Try.underlying40 rfl (by kernel_rfl)) rfl ?_
        rw [E.out]
        exact RGet.bad _ _ (put6_below HB.out (Nat.le_refl _))
    · have E := Lib.hid (show rgetS l p = (En.zero, (p : Int), z1) by rw [E1.out]; unfold rget2; rw [hq]; simp only [if_neg hz])
      have hz2 : (z1 != 0) = true := bne_iff_ne.2 hz
      clear hq hz
      obtain ⟨e0, e1, e2, e3, e4, e5⟩ := en_cells B7.out
      obtain ⟨n0, n1, n2, n3, n4, n5⟩ := en_cells B4.out
      obtain ⟨m0, m1, m2, m3, m4, m5⟩ := en_free B4.out
      go_wp2_with fail
      have bN := put6_blk (k' := ⟨#[]⟩) (a' := 0) (b' := 0) (c' := 0) (h' := false) (v := .slice none 0 0) B4.out
      refine bodyPost_ret (results_ctt rfl _ _ w.heap.size 40 _ (0, 0) _ rfl bN Try.underlying40 rfl (by kernel_rfl)) rfl ?_
      rw [E.out]
      exact RGet.bad _ _ (put6_below HB.out (Nat.le_refl _))
  · have E := Lib.hid (show rgetS l p = (En.zero, (p : Int), z) by unfold rgetS; rw [hq]; simp only [if_neg hz])
    have hz2 : (z != 0) = true := bne_iff_ne.2 hz
    clear hq hz
    obtain ⟨e0, e1, e2, e3, e4, e5⟩ := en_cells B7.out
    obtain ⟨n0, n1, n2, n3, n4, n5⟩ := en_cells B4.out
    obtain ⟨m0, m1, m2, m3, m4, m5⟩ := en_free B4.out
    go_wp2_with fail
    have bN := put6_blk (k' := ⟨#[]⟩) (a' := 0) (b' := 0) (c' := 0) (h' := false) (v := .slice none 0 0) B4.out
    refine bodyPost_ret (results_ctt rfl _ _ w.heap.size 40 _ (0, 0) _ rfl bN Try.underlying40 rfl (by kernel_rfl)) rfl ?_
    rw [E.out]
    exact RGet.bad _ _ (put6_below HB.out (Nat.le_refl _))
end Go.Proofs.Ytbmbnkoggmeanaa.Tg
