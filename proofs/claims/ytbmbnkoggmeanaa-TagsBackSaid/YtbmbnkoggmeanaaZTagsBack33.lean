/- The walk of the law TagsBack, for every entry, row of bytes, cut, and further byte. No condition. -/
import Derived.Test.YtbmbnkoggmeanaaZTagsBack30
import Derived.Test.YtbmbnkoggmeanaaZTagsBack32
namespace Go.Proofs.Ytbmbnkoggmeanaa.Tg
open Go.ChangeShapes Go.WideShapes Go.ChangeAt Go.RowKit Go.Proofs.Ytbmbnkoggmeanaa.Pk Go.Proofs.Ytbmbnkoggmeanaa.EncC Go.Proofs.Ytbmbnkoggmeanaa.EncP Go.Proofs.Ytbmbnkoggmeanaa.Lex Go.Proofs.Ytbmbnkoggmeanaa.Opn Go.Proofs.Ytbmbnkoggmeanaa.Seg
open Go.Proofs.Ytbmbnkoggmeanaa.Hlp Go.Proofs.Ytbmbnkoggmeanaa.Wrd Go.Proofs.YtbmbnkoggmeanaaW.PrintWords Go.Proofs.YtbmbnkoggmeanaaW.PrintLast Go.Proofs.YtbmbnkoggmeanaaW.PrintMore
set_option linter.unusedVariables false
set_option linter.unusedSimpArgs false
theorem entB_len {k : ByteArray} {a b c : Int} {h : Bool} {v : List Int} (hk : k.size ≤ 250) (hv : v.length ≤ 60000) : 0 < (entB k a b c h v).length ∧ (entB k a b c h v).length ≤ 70000 := by
  have h1 := rowB_len (l := bytesOf k); rw [bytesOf_len] at h1
  have h2 := Enc.numB_len a; have h3 := Enc.numB_len b; have h4 := Enc.numB_len c
  have h5 := rowB_len (l := v)
  have h6 : (truthB h).length = 1 := by cases h <;> rfl
  have h7 := Enc.numB_pos a
  unfold entB
  simp only [List.length_append]
  constructor
  · omega
  · split <;> (try simp only [List.length_nil]) <;> omega
theorem C_takeN {w : World} {A : Option Addr} {n k : Nat} {xs : List Int} (h : Kd.C (Kd.int .u8) w A n xs) (hk : k ≤ n) : Kd.C (Kd.int .u8) w A k (xs.take k) := by
  obtain rfl : xs.length = n := h.1
  exact C_take h k hk
set_option maxHeartbeats 16000000 in
set_option maxRecDepth 100000 in
theorem back_law (w : World) (k : ByteArray) (a b c : Int) (h : Bool) (v : List Int) (A : Option Addr) (d : Nat) (l : List Int) (A' : Option Addr) (d' : Nat) (x : Nat) (m : Int) (hr : Kd.C (Kd.int .u8) w A v.length v) (hr' : Kd.C (Kd.int .u8) w A' l.length l) (hc : v.length ≤ d) (hl : v.length ≤ 140737488351232) (hc' : l.length ≤ d') (hl' : l.length ≤ 140737488351232) (hv : ∀ x ∈ v, 0 ≤ x ∧ x < 256) (hv' : ∀ x ∈ l, 0 ≤ x ∧ x < 256) (hx : x < 65536) (hm0 : 0 ≤ m) (hm1 : m < 256) :
    Calls Try.prog 10 #[.agg #[.string k, .int .i64 a, .int .i64 b, .int .i64 c, .bool h, .slice A v.length d], .slice A' l.length d', .int .u16 x, .int .u8 m] w fun e w' => e = .returned (.bool true) ∧ Below w.heap.size w w' := by
  have hu40 := Try.underlying40
  have hu23 := Try.underlying23
  have hu38 := Try.underlying38
  have HV := Aside0.mk hv
  have HV' := Aside0.mk hv'
  have HR0 := Aside0.mk hr
  have HR0' := Aside0.mk hr'
  have HB := Aside0.mk (below_alloc (Below.refl w.heap.size w) (.cells #[.string k, .int .i64 a, .int .i64 b, .int .i64 c, .bool h, .slice A v.length d] 40))
  have B0 := Aside0.mk (blk_new w (.cells #[.string k, .int .i64 a, .int .i64 b, .int .i64 c, .bool h, .slice A v.length d] 40))
  obtain ⟨q, hq⟩ : ∃ q, longB k v = q := ⟨_, rfl⟩
  have HQ := Aside0.mk hq
  clear hv hv' hr hr' hq
  go_enter Try.func10, Try.ntmps10
  go_upto_region 1 with fail
  generalize w.alloc (.cells #[.string k, .int .i64 a, .int .i64 b, .int .i64 c, .bool h, .slice A v.length d] 40) = W at *
  obtain ⟨e0, e1, e2, e3, e4, e5⟩ := en_cells B0.out
  go_wp2_with fail
  (with_reducible refine (long_c k a b c h HQ.out (Kd.C_below HR0.out HB.out) hc).mono ?_)
  rintro y w1 ⟨rfl, hb⟩
  have HB := Aside0.mk (below_then HB.out HB.out.size hb)
  have B0 := Aside0.mk (blk_below B0.out hb)
  clear hb e0 e1 e2 e3 e4 e5
  by_cases hlong : q = true ∨ 1500 < l.length
  · have t1 : decide (1500 < (l.length : Int)) = true ∨ q = true := by
      rcases hlong with h | h
      · exact .inr h
      · exact .inl (decide_eq_true (by omega))
    cases q
    · have t1 : decide (1500 < (l.length : Int)) = true := by simpa using t1
      go_wp2_with fail
      (with_reducible refine (Fk.known_ _).mono ?_)
      rintro y z9 ⟨rfl, hb⟩
      have HB := Aside0.mk (below_then HB.out HB.out.size hb)
      clear hb
      go_wp2_with fail
      go_ret
      exact ⟨rfl, HB.out⟩
    · clear t1 hlong
      go_wp2_with fail
      (with_reducible refine (Fk.known_ _).mono ?_)
      rintro y z9 ⟨rfl, hb⟩
      have HB := Aside0.mk (below_then HB.out HB.out.size hb)
      clear hb
      go_wp2_with fail
      go_ret
      exact ⟨rfl, HB.out⟩
  · obtain rfl : q = false := by cases q <;> simp_all
    have hl1 : ¬ 1500 < l.length := fun h => hlong (.inr h)
    have t1 : decide (1500 < (l.length : Int)) = false := decide_eq_false (by omega)
    clear hlong
    obtain ⟨e0, e1, e2, e3, e4, e5⟩ := en_cells B0.out
    go_wp2_with fail
    (with_reducible refine (bytes_ k a b c h (Kd.C_below HR0.out HB.out) hc).mono ?_)
    by_cases ok : okEnt k a b c h v
    · rw [show bytesV k a b c h v = (entB k a b c h v, 0) from if_pos ok]
      have hsb : ∀ x ∈ entB k a b c h v, 0 ≤ x ∧ x < 256 := entB_byte (k := k) (a := a) (b := b) (c := c) (h := h) HV.out
      obtain ⟨hs0, hs1⟩ := entB_len (k := k) (a := a) (b := b) (c := c) (h := h) (v := v) ok.2.1 ok.2.2.1
      have r1 := read_whole ok
      have r2 := read_cut ok
      have r3 := read_more ok m
      obtain ⟨s, hs⟩ : ∃ s, entB k a b c h v = s := ⟨_, rfl⟩
      rw [hs] at hsb hs0 hs1 r1 r2 r3 ⊢
      have HS := Aside0.mk hsb
      have R1 := Aside0.mk r1
      have R2 := Aside0.mk r2
      have R3 := Aside0.mk r3
      clear ok hsb r1 r2 r3 hs
      rintro y w2 ⟨vs, rfl, ho, hb⟩
      obtain ⟨As, cs, rfl, hcs, hrs⟩ := Kd.R_reads ho
      have HSr := Aside0.mk hrs
      have HB := Aside0.mk (below_then HB.out HB.out.size hb)
      have B0 := Aside0.mk (blk_below B0.out hb)
      clear ho hb hrs e0 e1 e2 e3 e4 e5
      obtain ⟨n, hn⟩ : ∃ n, s.length = n := ⟨_, rfl⟩
      rw [hn] at HSr hcs hs0 hs1 ⊢
      have HN := Lib.hid hn
      clear hn
      have tn : (n == 0) = false := beq_eq_false_iff_ne.2 (by omega)
      go_wp2_with fail
      (with_reducible refine (read_ HSr.out hcs HS.out (by omega)).mono ?_)
      rw [R1.out]
      rintro y w3 ⟨A1, c1, rfl, ho, hb⟩
      simp only [str_of_bytes] at ho ⊢
      have HC1 := Aside0.mk (Kd.C_alloc (Kd.R_reads' ho).2.2 (.cells #[.string k, .int .i64 a, .int .i64 b, .int .i64 c, .bool h, .slice A1 v.length c1] 40))
      have hc1 := (Kd.R_reads' ho).2.1
      have HB := Aside0.mk (below_alloc (below_then HB.out HB.out.size hb) (.cells #[.string k, .int .i64 a, .int .i64 b, .int .i64 c, .bool h, .slice A1 v.length c1] 40))
      have B1 := Aside0.mk (blk_new w3 (.cells #[.string k, .int .i64 a, .int .i64 b, .int .i64 c, .bool h, .slice A1 v.length c1] 40))
      have B0 := Aside0.mk (blk_alloc (blk_below B0.out hb) (.cells #[.string k, .int .i64 a, .int .i64 b, .int .i64 c, .bool h, .slice A1 v.length c1] 40))
      have HSr := Aside0.mk (Kd.C_alloc (Kd.C_below HSr.out hb) (.cells #[.string k, .int .i64 a, .int .i64 b, .int .i64 c, .bool h, .slice A1 v.length c1] 40))
      clear ho hb
      go_upto_region 8 with fail
      obtain ⟨g1, hg1⟩ : ∃ g, w3.heap.size = g := ⟨_, rfl⟩
      rw [hg1] at B1
      simp only [hg1]
      generalize w3.alloc (.cells #[.string k, .int .i64 a, .int .i64 b, .int .i64 c, .bool h, .slice A1 v.length c1] 40) = w4 at *
      clear hg1
      obtain ⟨p, hp⟩ : ∃ p, x % n = p := ⟨_, rfl⟩
      have hpn : p < n := by rw [← hp]; exact Nat.mod_lt _ (by omega)
      have hrem : (x : Int) % (n : Int) = (p : Int) := by omega
      have HP := Lib.hid hp
      clear hp
      have p0 : (0 : Int) ≤ (p : Int) := by omega
      have p1 : (p : Int) ≤ (cs : Int) := by omega
      go_wp2_with fail
      have hcut := R2.out p (by rw [HN.out]; exact hpn)
      (with_reducible refine (read_ (C_takeN HSr.out (Nat.le_of_lt hpn)) (by omega) (fun y hy => HS.out y (List.mem_of_mem_take hy)) (by omega)).mono ?_)
      rw [hcut]
      rintro y w5 ⟨A2, c2, rfl, ho, hb⟩
      have HB := Aside0.mk (below_alloc (below_then HB.out HB.out.size hb) (.cells #[.string (strOfNums En.zero.k), .int .i64 En.zero.a, .int .i64 En.zero.b, .int .i64 En.zero.c, .bool En.zero.h, .slice A2 En.zero.v.length c2] 40))
      have B1 := Aside0.mk (blk_alloc (blk_below B1.out hb) (.cells #[.string (strOfNums En.zero.k), .int .i64 En.zero.a, .int .i64 En.zero.b, .int .i64 En.zero.c, .bool En.zero.h, .slice A2 En.zero.v.length c2] 40))
      have B0 := Aside0.mk (blk_alloc (blk_below B0.out hb) (.cells #[.string (strOfNums En.zero.k), .int .i64 En.zero.a, .int .i64 En.zero.b, .int .i64 En.zero.c, .bool En.zero.h, .slice A2 En.zero.v.length c2] 40))
      have HC1 := Aside0.mk (Kd.C_alloc (Kd.C_below HC1.out hb) (.cells #[.string (strOfNums En.zero.k), .int .i64 En.zero.a, .int .i64 En.zero.b, .int .i64 En.zero.c, .bool En.zero.h, .slice A2 En.zero.v.length c2] 40))
      have HSr := Aside0.mk (Kd.C_alloc (Kd.C_below HSr.out hb) (.cells #[.string (strOfNums En.zero.k), .int .i64 En.zero.a, .int .i64 En.zero.b, .int .i64 En.zero.c, .bool En.zero.h, .slice A2 En.zero.v.length c2] 40))
      clear ho hb hcut
      go_upto_region 9 with fail
      generalize w5.alloc (.cells #[.string (strOfNums En.zero.k), .int .i64 En.zero.a, .int .i64 En.zero.b, .int .i64 En.zero.c, .bool En.zero.h, .slice A2 En.zero.v.length c2] 40) = w6 at *
      clear hrem p0 p1
      go_wp2_with fail
      (with_reducible refine (copyb_c HSr.out hcs (by omega)).mono ?_)
      rintro y w7 ⟨vt, rfl, ho, hb⟩
      have HT := Aside0.mk ho
      have HB7 := Aside0.mk hb
      have HNs := Lib.hid (show s.length = n from HN.out)
      obtain ⟨At, ct, rfl⟩ := Kd.R_slice HT.out
      rw [HN.out] at HT ⊢
      clear hb ho
      have hlen : (s ++ [m]).length = n + 1 := by rw [List.length_append, HN.out]; rfl
      have HLn := Lib.hid hlen
      clear hlen
      go_wp2_with ((with_reducible refine gate_builtin (b := .append) (xs := #[.tmp 58, .tmp 60]) rfl ?_); at_builtin; refine Kd.R_append (Kd.int .u8) (w0 := w6) w6.heap.size rfl (.tmp 58) (.tmp 60) 36 5 (.int .u8 0) 1 rfl Try.underlying36 info8 rfl (by decide) (by omega) _ _ m [.int .u8 m] (fun _ => True) (fun _ => False) rfl rfl rfl (fun _ hk => hk.elim) (fun _ _ => trivial) HT.out HB7.out HB7.out.size ?aL ?_; (case aL => rw [HN.out]; omega); intro va w8 ho hb hg hat; obtain ⟨Au, cu, eu⟩ := Kd.R_slice ho; subst eu; have HU := Aside0.mk (Kd.R_reads' ho).2.2; have HcU := Aside0.mk (Kd.R_reads' ho).2.1; have HB8 := Aside0.mk hb; rw [HLn.out] at HU HcU ⊢; clear ho hb hg hat)
      have hm : ∀ y ∈ s ++ [m], 0 ≤ y ∧ y < 256 := by
        intro y hy
        rcases List.mem_append.1 hy with h | h
        · exact HS.out y h
        · rw [List.mem_singleton.1 h]; exact ⟨hm0, hm1⟩
      have HM := Aside0.mk hm
      have hcu := HcU.out
      clear hm HcU
      have HB := Aside0.mk (below_then HB.out HB.out.size HB8.out)
      have B1 := Aside0.mk (blk_below B1.out HB8.out)
      have B0 := Aside0.mk (blk_below B0.out HB8.out)
      have HC1 := Aside0.mk (Kd.C_below HC1.out HB8.out)
      (with_reducible refine (read_ HU.out hcu HM.out (by omega)).mono ?_)
      rw [R3.out]
      rintro y w9 ⟨A3, c3, rfl, ho, hb⟩
      have HB := Aside0.mk (below_alloc (below_then HB.out HB.out.size hb) (.cells #[.string (strOfNums En.zero.k), .int .i64 En.zero.a, .int .i64 En.zero.b, .int .i64 En.zero.c, .bool En.zero.h, .slice A3 En.zero.v.length c3] 40))
      have B1 := Aside0.mk (blk_alloc (blk_below B1.out hb) (.cells #[.string (strOfNums En.zero.k), .int .i64 En.zero.a, .int .i64 En.zero.b, .int .i64 En.zero.c, .bool En.zero.h, .slice A3 En.zero.v.length c3] 40))
      have B0 := Aside0.mk (blk_alloc (blk_below B0.out hb) (.cells #[.string (strOfNums En.zero.k), .int .i64 En.zero.a, .int .i64 En.zero.b, .int .i64 En.zero.c, .bool En.zero.h, .slice A3 En.zero.v.length c3] 40))
      have HC1 := Aside0.mk (Kd.C_alloc (Kd.C_below HC1.out hb) (.cells #[.string (strOfNums En.zero.k), .int .i64 En.zero.a, .int .i64 En.zero.b, .int .i64 En.zero.c, .bool En.zero.h, .slice A3 En.zero.v.length c3] 40))
      clear ho hb
      go_upto_region 12 with fail
      generalize w9.alloc (.cells #[.string (strOfNums En.zero.k), .int .i64 En.zero.a, .int .i64 En.zero.b, .int .i64 En.zero.c, .bool En.zero.h, .slice A3 En.zero.v.length c3] 40) = w10 at *
      obtain ⟨e0, e1, e2, e3, e4, e5⟩ := en_cells B0.out
      obtain ⟨f0, f1, f2, f3, f4, f5⟩ := en_cells B1.out
      go_wp2_with fail
      (with_reducible refine (rse_c k a b c h k a b c h (sameE_self k a b c h v) HC1.out hc1 (Kd.C_below HR0.out HB.out) hc hl).mono ?_)
      rintro y w11 ⟨rfl, hb⟩
      have HB := Aside0.mk (below_then HB.out HB.out.size hb)
      clear hb e0 e1 e2 e3 e4 e5 f0 f1 f2 f3 f4 f5
      go_wp2_with fail
      obtain ⟨⟨en, er⟩, hrp⟩ : ∃ r, readP l = r := ⟨_, rfl⟩
      have HRP := Aside0.mk hrp
      (with_reducible refine (read_ (Kd.C_below HR0'.out HB.out) hc' HV'.out hl').mono ?_)
      rw [hrp]
      rintro y p1 ⟨A8, c8, rfl, ho, hb⟩
      simp only at ho
      have HC8 := Aside0.mk (Kd.C_alloc (Kd.R_reads' ho).2.2 (.cells #[.string (strOfNums en.k), .int .i64 en.a, .int .i64 en.b, .int .i64 en.c, .bool en.h, .slice A8 en.v.length c8] 40))
      have hc8 := (Kd.R_reads' ho).2.1
      have HB := Aside0.mk (below_alloc (below_then HB.out HB.out.size hb) (.cells #[.string (strOfNums en.k), .int .i64 en.a, .int .i64 en.b, .int .i64 en.c, .bool en.h, .slice A8 en.v.length c8] 40))
      have B8 := Aside0.mk (blk_new p1 (.cells #[.string (strOfNums en.k), .int .i64 en.a, .int .i64 en.b, .int .i64 en.c, .bool en.h, .slice A8 en.v.length c8] 40))
      clear ho hb
      go_upto_region 15 with fail
      obtain ⟨g8, hg8⟩ : ∃ g, p1.heap.size = g := ⟨_, rfl⟩
      rw [hg8] at B8
      simp only [hg8]
      generalize p1.alloc (.cells #[.string (strOfNums en.k), .int .i64 en.a, .int .i64 en.b, .int .i64 en.c, .bool en.h, .slice A8 en.v.length c8] 40) = p2 at *
      clear hg8
      obtain ⟨o0, o1, o2, o3, o4, o5⟩ := en_cells B8.out
      by_cases he : er = 0
      · have HBk := Aside0.mk (read_back HV'.out (by rw [hrp]; exact he))
        obtain rfl := he
        have hbk2 := HBk.out
        rw [hrp] at hbk2
        simp only at hbk2
        have HV1 := Aside0.mk (show bytesV (strOfNums en.k) en.a en.b en.c en.h en.v = (l, 0) by rw [show bytesV (strOfNums en.k) en.a en.b en.c en.h en.v = (entB (strOfNums en.k) en.a en.b en.c en.h en.v, 0) from if_pos hbk2.2, ← hbk2.1])
        clear hbk2 hrp
        go_wp2_with fail
        (with_reducible refine (bytes_ (strOfNums en.k) en.a en.b en.c en.h HC8.out hc8).mono ?_)
        rw [HV1.out]
        rintro y p3 ⟨vt, rfl, ho, hb⟩
        obtain ⟨At, ct, rfl, hct, hrt⟩ := Kd.R_reads ho
        have HT := Aside0.mk hrt
        have HB := Aside0.mk (below_then HB.out HB.out.size hb)
        clear ho hb hrt o0 o1 o2 o3 o4 o5
        go_wp2_with fail
        (with_reducible refine (same_c HT.out hct (Kd.C_below HR0'.out HB.out) hc').mono ?_)
        rintro y p4 ⟨rfl, hb⟩
        have HB := Aside0.mk (below_then HB.out HB.out.size hb.below)
        clear hb
        go_wp2_with fail
        (with_reducible refine (Fk.known_ _).mono ?_)
        rintro y z9 ⟨rfl, hb⟩
        have HB := Aside0.mk (below_then HB.out HB.out.size hb)
        clear hb
        go_wp2_with fail
        go_ret
        exact ⟨rfl, HB.out⟩
      · have he2 : (er != 0) = true := bne_iff_ne.2 he
        have hz := read_zero (l := l) (by rw [hrp]; exact he)
        rw [hrp] at hz
        simp only at hz
        have hk0 : (strOfNums en.k) = ⟨#[]⟩ := by rw [hz]; rfl
        rw [hk0] at o0
        clear hz hrp he hk0
        go_wp2_with fail
        (with_reducible refine (Fk.known_ _).mono ?_)
        rintro y z9 ⟨rfl, hb⟩
        have HB := Aside0.mk (below_then HB.out HB.out.size hb)
        clear hb
        go_wp2_with fail
        go_ret
        exact ⟨rfl, HB.out⟩
    · rw [show bytesV k a b c h v = ([], 2) from if_neg ok]
      clear ok
      rintro y w2 ⟨vs, rfl, ho, hb⟩
      have HB := Aside0.mk (below_then HB.out HB.out.size hb)
      clear ho hb e0 e1 e2 e3 e4 e5
      go_wp2_with fail
      obtain ⟨⟨en, er⟩, hrp⟩ : ∃ r, readP l = r := ⟨_, rfl⟩
      have HRP := Aside0.mk hrp
      (with_reducible refine (read_ (Kd.C_below HR0'.out HB.out) hc' HV'.out hl').mono ?_)
      rw [hrp]
      rintro y p1 ⟨A8, c8, rfl, ho, hb⟩
      simp only at ho
      have HC8 := Aside0.mk (Kd.C_alloc (Kd.R_reads' ho).2.2 (.cells #[.string (strOfNums en.k), .int .i64 en.a, .int .i64 en.b, .int .i64 en.c, .bool en.h, .slice A8 en.v.length c8] 40))
      have hc8 := (Kd.R_reads' ho).2.1
      have HB := Aside0.mk (below_alloc (below_then HB.out HB.out.size hb) (.cells #[.string (strOfNums en.k), .int .i64 en.a, .int .i64 en.b, .int .i64 en.c, .bool en.h, .slice A8 en.v.length c8] 40))
      have B8 := Aside0.mk (blk_new p1 (.cells #[.string (strOfNums en.k), .int .i64 en.a, .int .i64 en.b, .int .i64 en.c, .bool en.h, .slice A8 en.v.length c8] 40))
      clear ho hb
      go_upto_region 15 with fail
      obtain ⟨g8, hg8⟩ : ∃ g, p1.heap.size = g := ⟨_, rfl⟩
      rw [hg8] at B8
      simp only [hg8]
      generalize p1.alloc (.cells #[.string (strOfNums en.k), .int .i64 en.a, .int .i64 en.b, .int .i64 en.c, .bool en.h, .slice A8 en.v.length c8] 40) = p2 at *
      clear hg8
      obtain ⟨o0, o1, o2, o3, o4, o5⟩ := en_cells B8.out
      by_cases he : er = 0
      · have HBk := Aside0.mk (read_back HV'.out (by rw [hrp]; exact he))
        obtain rfl := he
        have hbk2 := HBk.out
        rw [hrp] at hbk2
        simp only at hbk2
        have HV1 := Aside0.mk (show bytesV (strOfNums en.k) en.a en.b en.c en.h en.v = (l, 0) by rw [show bytesV (strOfNums en.k) en.a en.b en.c en.h en.v = (entB (strOfNums en.k) en.a en.b en.c en.h en.v, 0) from if_pos hbk2.2, ← hbk2.1])
        clear hbk2 hrp
        go_wp2_with fail
        (with_reducible refine (bytes_ (strOfNums en.k) en.a en.b en.c en.h HC8.out hc8).mono ?_)
        rw [HV1.out]
        rintro y p3 ⟨vt, rfl, ho, hb⟩
        obtain ⟨At, ct, rfl, hct, hrt⟩ := Kd.R_reads ho
        have HT := Aside0.mk hrt
        have HB := Aside0.mk (below_then HB.out HB.out.size hb)
        clear ho hb hrt o0 o1 o2 o3 o4 o5
        go_wp2_with fail
        (with_reducible refine (same_c HT.out hct (Kd.C_below HR0'.out HB.out) hc').mono ?_)
        rintro y p4 ⟨rfl, hb⟩
        have HB := Aside0.mk (below_then HB.out HB.out.size hb.below)
        clear hb
        go_wp2_with fail
        (with_reducible refine (Fk.known_ _).mono ?_)
        rintro y z9 ⟨rfl, hb⟩
        have HB := Aside0.mk (below_then HB.out HB.out.size hb)
        clear hb
        go_wp2_with fail
        go_ret
        exact ⟨rfl, HB.out⟩
      · have he2 : (er != 0) = true := bne_iff_ne.2 he
        have hz := read_zero (l := l) (by rw [hrp]; exact he)
        rw [hrp] at hz
        simp only at hz
        have hk0 : (strOfNums en.k) = ⟨#[]⟩ := by rw [hz]; rfl
        rw [hk0] at o0
        clear hz hrp he hk0
        go_wp2_with fail
        (with_reducible refine (Fk.known_ _).mono ?_)
        rintro y z9 ⟨rfl, hb⟩
        have HB := Aside0.mk (below_then HB.out HB.out.size hb)
        clear hb
        go_wp2_with fail
        go_ret
        exact ⟨rfl, HB.out⟩
theorem u8_rangeB {x : Int} (h : (Lit.int .u8 x).wf = true) : 0 ≤ x ∧ x < 256 := by
  have h2 : 0 ≤ x ∧ x ≤ 255 := by simpa [Lit.wf, IntKind.min, IntKind.max, IntKind.bits, IntKind.signed] using h
  omega
theorem u16_rangeB {x : Int} (h : (Lit.int .u16 x).wf = true) : 0 ≤ x ∧ x < 65536 := by
  have h2 : 0 ≤ x ∧ x ≤ 65535 := by simpa [Lit.wf, IntKind.min, IntKind.max, IntKind.bits, IntKind.signed] using h
  omega
theorem tagsBack (w : World) (cs0 : Array Value) (a0 : ByteArray × (Int × Int × Int) × Bool × List Int) (K0 : kEnt.K w a0 cs0.toList) (wf0 : wEnt a0) (A : Option Addr) (c : Nat) (l : List Int) (hr : Kd.C (Kd.int .u8) w A l.length l) (hc : l.length ≤ c) (wf : l.length ≤ maxLen ∧ l.length * 1 ≤ 140737488351232 ∧ ∀ x ∈ l, (Lit.int .u8 x).wf = true) (x : Int) (wx : (Lit.int .u16 x).wf = true) (m : Int) (wm : (Lit.int .u8 m).wf = true) :
    Calls Try.prog 10 #[.agg cs0, .slice A l.length c, .int .u16 x, .int .u8 m] w fun e w' => e = .returned (.bool true) ∧ Below w.heap.size w w' := by
  obtain ⟨A0, c0, e0, hc0, C0⟩ := ent_cells K0
  have b0 := wf0.2.2.2
  obtain ⟨x0, x1⟩ := u16_rangeB wx
  obtain ⟨m0, m1⟩ := u8_rangeB wm
  obtain ⟨X, rfl⟩ := Int.eq_ofNat_of_zero_le x0
  rw [show cs0 = #[.string a0.1, .int .i64 a0.2.1.1, .int .i64 a0.2.1.2.1, .int .i64 a0.2.1.2.2, .bool a0.2.2.1, .slice A0 a0.2.2.2.length c0] from by rw [← Array.toList_inj, e0]]
  exact back_law w a0.1 a0.2.1.1 a0.2.1.2.1 a0.2.1.2.2 a0.2.2.1 a0.2.2.2 A0 c0 l A c X m C0 hr hc0 (by have := b0.2.1; omega) hc (by have := wf.2.1; omega) (fun y hy => u8_rangeB (b0.2.2 y hy)) (fun y hy => u8_rangeB (wf.2.2 y hy)) (by omega) m0 m1
end Go.Proofs.Ytbmbnkoggmeanaa.Tg
