/- The contract of the reference's Read of a message. Conditions: bytes that fit in memory. · Two messages that may be are the same just if their bytes are; a message's bytes are bytes. Plain. Conditions: messages that may be. · The walk of the law MsgsReads, for all bytes. Conditions: the table lies in its variable. · What the card's condition tells: the table of msgs lies in its variable; and the world in which the door lays it. Conditions: none. -/
import Derived.Test.YthaoiamgkpkcbaaDoorYMsgsReads21
import Derived.Test.YthaoiamgkpkcbaaDoorYMsgsReads27
import Derived.Test.YthaoiamgkpkcbaaDoorYMsgsReads25
import Derived.Test.YthaoiamgkpkcbaaDoorYMsgsReads17
import Derived.Test.YthaoiamgkpkcbaaDoorRows
import Derived.Test.YthaoiamgkpkcbaaDoorYMsgsReads13
import Derived.ProofKit
import Derived.LaidMore
import Derived.OpenShut
import Derived.Stop.Joined

namespace Go.Proofs.YthaoiamgkpkcbaaDoor.Ms
open Go.ChangeShapes Go.WideShapes Go.ChangeAt Go.RowKit Go.Proofs.YthaoiamgkpkcbaaDoor.Pk Go.Proofs.YthaoiamgkpkcbaaDoor.Tg Go.Proofs.YthaoiamgkpkcbaaDoor.Enc Go.Proofs.YthaoiamgkpkcbaaDoor.EncC Go.Proofs.YthaoiamgkpkcbaaDoor.EncP
open Go.Proofs.YthaoiamgkpkcbaaDoor.Hlp Go.Proofs.YthaoiamgkpkcbaaDoor.Wrd Go.Proofs.YthaoiamgkpkcbaaDoor.Lex Go.Proofs.YthaoiamgkpkcbaaDoorW.PrintWords Go.Proofs.YthaoiamgkpkcbaaDoorW.PrintLast Go.Proofs.YthaoiamgkpkcbaaDoorW.PrintMore
set_option linter.unusedVariables false
set_option linter.unusedSimpArgs false
theorem rl_skip {l : List Int} {kd : Int} {Q Q' : Ms → Prop} {m : Ms} {t e : Int} {x : Ms × St} {b : Bool} {G : Ms × St → Ms × St} (h : Rl l kd Q m t e x) (hq : (decide (e = 0) && b) = false) (hno : b = false → G x = x) (hd : Dead G) (hQ : ∀ m, Q m → Q' m) : Rl l kd Q' m t e (G x) := by
  by_cases he : e = 0
  · subst he
    obtain ⟨p, h1, h2, h3, h4, h5⟩ := h.good
    rw [hno (by simpa using hq)]
    exact ⟨.inl ⟨p, rfl, h1, h2, h3, hQ _ h4, h5⟩⟩
  · exact h.bad he hd
theorem rlist_c {w : World} {A : Option Addr} {n c : Nat} {l : List Int} {L : List E6} {a1 t e : Int} (hS : Since (fun k => QD.icehouseref12_list.f k l a1) (L, t, e)) (hr : Kd.C (Kd.int .u8) w A n l) (hc : n ≤ c) :
    Calls Tryd.prog 53 #[.slice A n c, .int .i64 a1] w fun x w' => ∃ A2 c2, x = .returned (.tuple #[.slice A2 L.length c2, .int .i64 t, .int .i64 e]) ∧ Kd.R kE 28 w' w.heap.size (fun _ => True) (.slice A2 L.length c2) L ∧ Below w.heap.size w w' := by
  obtain rfl : l.length = n := hr.1
  obtain ⟨K, hK⟩ := hS
  refine (QD.icehouseref12_list.calls K A c l a1 L t e w hr hc (hK K (Nat.le_refl _))).mono ?_
  rintro x w' ⟨v, rfl, hR, hb⟩
  obtain ⟨A2, c2, rfl⟩ := Kd.R_slice (Kd.S_R hR)
  exact ⟨A2, c2, rfl, Kd.S_R hR, hb⟩
theorem rringrd_c {w : World} {A : Option Addr} {n c : Nat} {l R : List Int} {a1 ea kp t e : Int} (hS : Since (fun k => QD.icehouseref12_ring.f k l a1) (R, ea, kp, t, e)) (hr : Kd.C (Kd.int .u8) w A n l) (hc : n ≤ c) :
    Calls Tryd.prog 54 #[.slice A n c, .int .i64 a1] w fun x w' => ∃ A2 c2, x = .returned (.tuple #[.agg #[.slice A2 R.length c2, .int .i64 ea, .int .i64 kp], .int .i64 t, .int .i64 e]) ∧ Kd.R (Kd.int .i64) 3 w' w.heap.size (fun _ => True) (.slice A2 R.length c2) R ∧ Below w.heap.size w w' := by
  obtain rfl : l.length = n := hr.1
  obtain ⟨K, hK⟩ := hS
  refine (QD.icehouseref12_ring.calls K A c l a1 R ea kp t e w hr hc (hK K (Nat.le_refl _))).mono ?_
  rintro x w' ⟨v, rfl, hR, hb⟩
  obtain ⟨A2, c2, rfl⟩ := Kd.R_slice hR
  exact ⟨A2, c2, rfl, hR, hb⟩
theorem row_over {α : Type} {d : Kd α} {e : Nat} {W : World} {base g : Nat} {v : Value} {xs : List α} {cs vs : Array Value} (h : d.R e W base (fun _ => True) v xs) (hg : W.heap[g]? = some (.cells cs 34 (0, 0))) (ht : ∀ q, q ∈ e :: d.E → q ≠ 34) : d.R e (W.setRow g vs) base (fun _ => True) v xs :=
  Kd.R_mono (Kd.R_step (Kd.R_bound h) (fun k hk _ => setRow_other W g k vs (by
    rintro rfl
    obtain ⟨q, hq, cells, hc⟩ := hk.2.2.2
    rw [hg] at hc
    injection hc with hc
    injection hc with _ hc _
    exact ht q hq hc.symm))) (fun _ _ => trivial)
theorem own_row {W : World} {base g : Nat} {m : Ms} {p : Pl} {cs vs : Array Value} (h : Own W base m p) (hg : W.heap[g]? = some (.cells cs 34 (0, 0))) : Own (W.setRow g vs) base m p :=
  ⟨row_over h.v hg (by intro q hq; rcases List.mem_cons.1 hq with rfl | hq; decide; cases hq),
   row_over h.l hg (by
    intro q hq
    have : q ∈ [28, 5] := hq
    rcases List.mem_cons.1 this with rfl | hq
    · decide
    · obtain rfl := List.mem_singleton.1 hq; decide),
   row_over h.r hg (by intro q hq; rcases List.mem_cons.1 hq with rfl | hq; decide; cases hq)⟩
theorem iter_rL (x : Ms × St) : ∀ n, (iter rstep n x).1.L = x.1.L
  | 0 => rfl
  | n + 1 => iter_rL x n
theorem getM_L (s : St) : (getM s).1.L.length ≤ 1000 := by
  unfold getM
  simp only
  have hx : (gep (gfr (g0 s))).1.L = [] := rfl
  generalize gep (gfr (g0 s)) = x at hx
  generalize hasV (g0 s).1.kind = b
  have h1 : (gr b (gl b (ge b (gf b (gn b x))))).1.L = (gl b (ge b (gf b (gn b x)))).1.L := by
    unfold gr; split
    · exact iter_rL _ _
    · rfl
  rw [h1]
  have h2 : (ge b (gf b (gn b x))).1.L = [] := by rw [(ge_LR _ _).1, (gf_LR _ _).1, (gn_LR _ _).1, hx]
  generalize ge b (gf b (gn b x)) = y at h2
  unfold gl; split
  · obtain ⟨c, hc, hc2⟩ := below_rng 1001 y.2 (by decide)
    rw [iter_L, hc, Int.toNat_natCast]
    show y.1.L.length + c ≤ 1000
    rw [h2]; simp; omega
  · rw [h2]; exact Nat.zero_le _
theorem endP_bad {s : List Int} {e : Int} (h : e ≠ 0) : endP s e = e := by unfold endP; rw [if_neg h]
theorem endP_more {s : List Int} (h : s ≠ []) : endP s 0 = 11 := by unfold endP; rw [if_pos rfl, if_neg h]
theorem cells_nil {m : Ms} (hE : m.e = zE) (hL : m.L = []) (hR : m.R = []) : m.val nP = cellsG m (.slice none 0 0) (.slice none 0 0) (.slice none 0 0) := by
  have h1 : m.e.f2.f1.length = 0 := by rw [hE]; rfl
  have h2 : m.L.length = 0 := by rw [hL]; rfl
  have h3 : m.R.length = 0 := by rw [hR]; rfl
  unfold Ms.val
  rw [h1, h2, h3]
  rfl
set_option maxHeartbeats 16000000 in
set_option maxRecDepth 100000 in
theorem rread_ {w : World} {A : Option Addr} {n c : Nat} {l : List Int} (hr : Kd.C (Kd.int .u8) w A n l) (hc : n ≤ c) (hb : Bytes l) (hl : n ≤ 140737488351232) :
    Calls Tryd.prog 18 #[.slice A n c] w (ReadPost w (readM l)) := by
  obtain rfl : l.length = n := hr.1
  have HP := Aside0.mk (blk_new w (.cells zMs 34))
  have HB0 := Aside0.mk (below_alloc (Below.refl w.heap.size w) (.cells zMs 34))
  have HC := Aside0.mk hr
  have HBy : Aside0 (∀ x ∈ l, 0 ≤ x ∧ x < 256) := ⟨hb⟩
  have HBY := Aside0.mk hb
  clear hr hb
  go_enter Tryd.func18, Tryd.ntmps18
  go_upto_region 1 with fail
  generalize w.alloc (.cells zMs 34) = W at *
  go_upto_region 2 with (go_at_call 49; (with_reducible refine (head_c (Kd.C_below HC.out HB0.out) hc HBy.out hl).mono ?_); rintro y w1 ⟨m, t, e, rfl, hR, hE, hL, hRr, hq⟩; have HR := Aside0.mk hR; have HE := Aside0.mk hE; have HL := Aside0.mk hL; have HRr := Aside0.mk hRr; have HB1 := Aside0.mk (below_then HB0.out HB0.out.size hq); have HP1 := Aside0.mk (blk_below HP.out hq); clear hR hE hL hRr hq)
  have BM := Aside0.mk (blk_new w1 (.cells (m.val nP) 34))
  have HBb := Aside0.mk (below_alloc HB1.out (.cells (m.val nP) 34))
  have HP2 := Aside0.mk (blk_alloc HP1.out (.cells (m.val nP) 34))
  have HPM : Aside0 (w.heap.size < w1.heap.size) := ⟨blk_lt HP1.out⟩
  obtain ⟨M, hM⟩ : ∃ g, w1.heap.size = g := ⟨_, rfl⟩
  rw [hM] at BM HPM
  simp only [hM]
  generalize w1.alloc (.cells (m.val nP) 34) = wb at *
  clear hM HB0 HB1 HP HP1
  have HPs : Aside0 (w.heap.size < wb.heap.size) := ⟨blk_lt HP2.out⟩
  have HM0 : Aside0 (w.heap.size ≤ M) := ⟨Nat.le_of_lt HPM.out⟩
  have HZ : Aside0 (Rz w.heap.size wb wb M m (.slice none 0 0) (.slice none 0 0) (.slice none 0 0)) := ⟨⟨⟨by rw [← cells_nil HE.out HL.out HRr.out]; exact BM.out, Kg.refl _ _ _, blk_lt BM.out⟩, by rw [HE.out]; exact Kd.R_nil _ _ _ _ _, by rw [HL.out]; exact Kd.R_nil _ _ _ _ _, by rw [HRr.out]; exact Kd.R_nil _ _ _ _ _⟩⟩
  obtain ⟨kd, hkd⟩ : ∃ k, (g0 ⟨l, 0⟩).1.kind = k := ⟨_, rfl⟩
  obtain ⟨x, hx0⟩ : ∃ x, gep (gfr (g0 ⟨l, 0⟩)) = x := ⟨_, rfl⟩
  have HGM : Aside0 (getM ⟨l, 0⟩ = gr (hasV kd) (gl (hasV kd) (ge (hasV kd) (gf (hasV kd) (gn (hasV kd) x))))) := ⟨by rw [← hkd, ← hx0]; rfl⟩
  rw [hkd, hx0] at HR
  have HR : Aside0 (Rl l kd Q0 m t e x) := HR
  clear hkd hx0 HE HL HRr BM
  obtain ⟨q1, hq⟩ : ∃ q, (decide (e = 0) && (hasV kd).n) = q := ⟨_, rfl⟩
  have HQ := Aside0.mk hq
  clear hq
  have c0 := (blk_cell HZ.out.cb.blk 0).trans (show _ = some (Value.int .i64 m.kind) from rfl)
  go_cut [19] (fun v wc => v = .bool q1 ∧ Aside0 (Below wb.heap.size wb wc))
  case first =>
    as_aux_lemma =>
    by_cases he : e = 0
    · subst he
      have HK0 : Aside0 ((hasV m.kind).n = q1) := ⟨by obtain ⟨p, _, _, hk, _⟩ := HR.out.good; rw [hk, ← HQ.out]; simp⟩
      go_wp2_with (go_at_call 21; (with_reducible refine (rhas_n m.kind HK0.out _).mono ?_); rintro y w9 ⟨rfl, hb⟩; have HB9 := Aside0.mk hb; clear hb)
      go_meet
      exact ⟨by first | rfl | simp, HB9⟩
    · have t0 : (e == 0) = false := beq_eq_false_iff_ne.2 he
      have hqf : q1 = false := by rw [← HQ.out]; simp [he]
      subst hqf
      go_wp2_with fail
      go_meet
      exact ⟨by first | rfl | simp, ⟨Below.refl _ _⟩⟩
  case rest =>
    as_aux_lemma =>
    obtain ⟨rfl, HBq⟩ := hcut
    go_upto_if 19 with fail
    clear c0
    obtain ⟨u1, hu⟩ : ∃ u, u = wc := ⟨_, rfl⟩
    subst hu
    replace HZ := Aside0.mk (HZ.out.below HBq.out)
    clear HBq
    go_cut [5, 6] (fun v5 v6 wc => ∃ (m' : Ms) (t' e' : Int) (vE' vL' vR' : Value), v5 = .int .i64 t' ∧ v6 = .int .i64 e' ∧ Aside0 (Rl l kd Q0 m' t' e' (gn (hasV kd) x)) ∧ Aside0 (Rz w.heap.size wb wc M m' vE' vL' vR'))
    case first =>
      as_aux_lemma =>
      cases q1
      · have HR2 : Aside0 (Rl l kd Q0 m t e (gn (hasV kd) x)) := ⟨rl_skip HR.out HQ.out (fun h => gn_no h _) (gn_dead _) (fun _ h => h)⟩
        go_wp2_with fail
        go_meet
        exact ⟨m, t, e, (.slice none 0 0), (.slice none 0 0), (.slice none 0 0), rfl, rfl, HR2, HZ⟩
      · obtain ⟨he, hf⟩ : e = 0 ∧ (hasV kd).n = true := by have h := HQ.out; rw [Bool.and_eq_true, decide_eq_true_iff] at h; exact h
        subst he
        obtain ⟨p, rfl, hp, hk, hQ0, hx⟩ := HR.out.good
        have HCu := Aside0.mk (Kd.C_below HC.out (HZ.out.cb.out0 HBb.out HM0.out))
        obtain ⟨nn, tt, ee, hg⟩ : ∃ a b c, getNumP l p 1099511627775 = (a, b, c) := ⟨_, _, _, rfl⟩
        have HG := Aside0.mk hg
        have HR2 : Aside0 (Rl l kd Q0 { m with n := nn } tt ee (gn (hasV kd) x)) := ⟨by rw [hx]; exact rl_n HBy.out hf hk hQ0 hg⟩
        clear hg hx hk hQ0 hf
        go_wp2_with (go_at_call 50; (with_reducible refine (rgetnum_c HCu.out hc p hp _ hl HBy.out HG.out).mono ?_); rintro y w9 ⟨rfl, hb⟩; have HZ2 := Aside0.mk (HZ.out.below hb); clear hb; have o5 := (blk_cell HZ2.out.cb.blk 5).trans (show _ = some (Value.int .i64 m.n) from rfl); have f5 := blk_frozen HZ2.out.cb.blk 5)
        go_meet
        exact ⟨{ m with n := nn }, tt, ee, (.slice none 0 0), (.slice none 0 0), (.slice none 0 0), rfl, rfl, HR2, ⟨HZ2.out.put 5 (.int .i64 nn) rfl rfl rfl rfl⟩⟩
    case rest =>
      as_aux_lemma =>
      clear HR HQ HZ
      obtain ⟨m1, t1, e1, vE1, vL1, vR1, rfl, rfl, HR, HZ⟩ := hcut
      go_upto_region 4 with fail
      obtain ⟨y1, hu⟩ : ∃ u, u = wc := ⟨_, rfl⟩
      subst hu
      obtain ⟨q2, hq⟩ : ∃ q, (decide (e1 = 0) && (hasV kd).f) = q := ⟨_, rfl⟩
      have HQ := Aside0.mk hq
      clear hq
      have c0 := (blk_cell HZ.out.cb.blk 0).trans (show _ = some (Value.int .i64 m1.kind) from rfl)
      go_cut [34] (fun v wc => v = .bool q2 ∧ Aside0 (Below y1.heap.size y1 wc))
      case first =>
        as_aux_lemma =>
        by_cases he : e1 = 0
        · subst he
          have HK0 : Aside0 ((hasV m1.kind).f = q2) := ⟨by obtain ⟨p, _, _, hk, _⟩ := HR.out.good; rw [hk, ← HQ.out]; simp⟩
          go_wp2_with (go_at_call 21; (with_reducible refine (rhas_f m1.kind HK0.out _).mono ?_); rintro y w9 ⟨rfl, hb⟩; have HB9 := Aside0.mk hb; clear hb)
          go_meet
          exact ⟨by first | rfl | simp, HB9⟩
        · have t0 : (e1 == 0) = false := beq_eq_false_iff_ne.2 he
          have hqf : q2 = false := by rw [← HQ.out]; simp [he]
          subst hqf
          go_wp2_with fail
          go_meet
          exact ⟨by first | rfl | simp, ⟨Below.refl _ _⟩⟩
      case rest =>
        as_aux_lemma =>
        obtain ⟨rfl, HBq⟩ := hcut
        go_upto_if 34 with fail
        clear c0
        obtain ⟨u2, hu⟩ : ∃ u, u = wc := ⟨_, rfl⟩
        subst hu
        replace HZ := Aside0.mk (HZ.out.below HBq.out)
        clear HBq
        go_cut [5, 6] (fun v5 v6 wc => ∃ (m' : Ms) (t' e' : Int) (vE' vL' vR' : Value), v5 = .int .i64 t' ∧ v6 = .int .i64 e' ∧ Aside0 (Rl l kd Q0 m' t' e' (gf (hasV kd) (gn (hasV kd) x))) ∧ Aside0 (Rz w.heap.size wb wc M m' vE' vL' vR'))
        case first =>
          as_aux_lemma =>
          cases q2
          · have HR2 : Aside0 (Rl l kd Q0 m1 t1 e1 (gf (hasV kd) (gn (hasV kd) x))) := ⟨rl_skip HR.out HQ.out (fun h => gf_no h _) (gf_dead _) (fun _ h => h)⟩
            go_wp2_with fail
            go_meet
            exact ⟨m1, t1, e1, vE1, vL1, vR1, rfl, rfl, HR2, HZ⟩
          · obtain ⟨he, hf⟩ : e1 = 0 ∧ (hasV kd).f = true := by have h := HQ.out; rw [Bool.and_eq_true, decide_eq_true_iff] at h; exact h
            subst he
            obtain ⟨p, rfl, hp, hk, hQ0, hx⟩ := HR.out.good
            have HCu := Aside0.mk (Kd.C_below HC.out (HZ.out.cb.out0 HBb.out HM0.out))
            obtain ⟨nn, tt, ee, hg⟩ : ∃ a b c, getTruthP l p = (a, b, c) := ⟨_, _, _, rfl⟩
            have HG := Aside0.mk hg
            have HR2 : Aside0 (Rl l kd Q0 { m1 with f := nn } tt ee (gf (hasV kd) (gn (hasV kd) x))) := ⟨by rw [hx]; exact rl_f HBy.out hp hf hk hQ0 hg⟩
            clear hg hx hk hQ0 hf
            go_wp2_with (go_at_call 51; (with_reducible refine (rgettruth_c HCu.out hc p hp hl HG.out).mono ?_); rintro y w9 ⟨rfl, hb⟩; have HZ2 := Aside0.mk (HZ.out.below hb); clear hb; have o6 := (blk_cell HZ2.out.cb.blk 6).trans (show _ = some (Value.bool m1.f) from rfl); have f6 := blk_frozen HZ2.out.cb.blk 6)
            go_meet
            exact ⟨{ m1 with f := nn }, tt, ee, vE1, vL1, vR1, rfl, rfl, HR2, ⟨HZ2.out.put 6 (.bool nn) rfl rfl rfl rfl⟩⟩
        case rest =>
          as_aux_lemma =>
          clear HR HQ HZ
          obtain ⟨m2, t2, e2, vE2, vL2, vR2, rfl, rfl, HR, HZ⟩ := hcut
          go_upto_region 6 with fail
          obtain ⟨y2, hu⟩ : ∃ u, u = wc := ⟨_, rfl⟩
          subst hu
          obtain ⟨q3, hq⟩ : ∃ q, (decide (e2 = 0) && (hasV kd).e) = q := ⟨_, rfl⟩
          have HQ := Aside0.mk hq
          clear hq
          have c0 := (blk_cell HZ.out.cb.blk 0).trans (show _ = some (Value.int .i64 m2.kind) from rfl)
          go_cut [49] (fun v wc => v = .bool q3 ∧ Aside0 (Below y2.heap.size y2 wc))
          case first =>
            as_aux_lemma =>
            by_cases he : e2 = 0
            · subst he
              have HK0 : Aside0 ((hasV m2.kind).e = q3) := ⟨by obtain ⟨p, _, _, hk, _⟩ := HR.out.good; rw [hk, ← HQ.out]; simp⟩
              go_wp2_with (go_at_call 21; (with_reducible refine (rhas_e m2.kind HK0.out _).mono ?_); rintro y w9 ⟨rfl, hb⟩; have HB9 := Aside0.mk hb; clear hb)
              go_meet
              exact ⟨by first | rfl | simp, HB9⟩
            · have t0 : (e2 == 0) = false := beq_eq_false_iff_ne.2 he
              have hqf : q3 = false := by rw [← HQ.out]; simp [he]
              subst hqf
              go_wp2_with fail
              go_meet
              exact ⟨by first | rfl | simp, ⟨Below.refl _ _⟩⟩
          case rest =>
            as_aux_lemma =>
            obtain ⟨rfl, HBq⟩ := hcut
            go_upto_if 49 with fail
            clear c0
            obtain ⟨u3, hu⟩ : ∃ u, u = wc := ⟨_, rfl⟩
            subst hu
            replace HZ := Aside0.mk (HZ.out.below HBq.out)
            clear HBq
            go_cut [5, 6] (fun v5 v6 wc => ∃ (m' : Ms) (t' e' : Int) (vE' vL' vR' : Value), v5 = .int .i64 t' ∧ v6 = .int .i64 e' ∧ Aside0 (Rl l kd Q0 m' t' e' (ge (hasV kd) (gf (hasV kd) (gn (hasV kd) x)))) ∧ Aside0 (Rz w.heap.size wb wc M m' vE' vL' vR'))
            case first =>
              as_aux_lemma =>
              cases q3
              · have HR2 : Aside0 (Rl l kd Q0 m2 t2 e2 (ge (hasV kd) (gf (hasV kd) (gn (hasV kd) x)))) := ⟨rl_skip HR.out HQ.out (fun h => ge_no h _) (ge_dead _) (fun _ h => h)⟩
                go_wp2_with fail
                go_meet
                exact ⟨m2, t2, e2, vE2, vL2, vR2, rfl, rfl, HR2, HZ⟩
              · obtain ⟨he, hf⟩ : e2 = 0 ∧ (hasV kd).e = true := by have h := HQ.out; rw [Bool.and_eq_true, decide_eq_true_iff] at h; exact h
                subst he
                obtain ⟨p, rfl, hp, hk, hQ0, hx⟩ := HR.out.good
                have HCu := Aside0.mk (Kd.C_below HC.out (HZ.out.cb.out0 HBb.out HM0.out))
                obtain ⟨⟨en, tt, ee⟩, hg⟩ : ∃ r, rgetS l p = r := ⟨_, rfl⟩
                have HG := Aside0.mk hg
                have HR2 : Aside0 (Rl l kd Q0 { m2 with e := toE en } tt ee (ge (hasV kd) (gf (hasV kd) (gn (hasV kd) x)))) := ⟨by have h := rl_e HBy.out hp hf hk hQ0; rw [hg] at h; rw [hx]; exact h⟩
                clear hg hx hk hQ0 hf
                go_wp2_with (go_at_call 52; (with_reducible refine (rgetE_ HCu.out hc p hp hl HBy.out).mono ?_); rw [HG.out]; rintro y w9 ⟨A2, c2, rfl, hO, hb⟩; have HZ2 := Aside0.mk (HZ.out.below hb); clear hb; have HO := Aside0.mk (R_newM (M := M) hO (blk_lt HZ.out.cb.blk) (Nat.le_trans HBb.out.size HZ.out.cb.up.size)); clear hO; have o7 := (blk_cell HZ2.out.cb.blk 7).trans (show _ = some (Value.string m2.e.f0) from rfl); have f7 := blk_frozen HZ2.out.cb.blk 7; have o8 := (blk_cell HZ2.out.cb.blk 8).trans (show _ = some (Value.int .i64 m2.e.f1.f0) from rfl); have f8 := blk_frozen HZ2.out.cb.blk 8; have o9 := (blk_cell HZ2.out.cb.blk 9).trans (show _ = some (Value.int .i64 m2.e.f1.f1) from rfl); have f9 := blk_frozen HZ2.out.cb.blk 9; have o10 := (blk_cell HZ2.out.cb.blk 10).trans (show _ = some (Value.int .i64 m2.e.f1.f2) from rfl); have f10 := blk_frozen HZ2.out.cb.blk 10; have o11 := (blk_cell HZ2.out.cb.blk 11).trans (show _ = some (Value.bool m2.e.f2.f0) from rfl); have f11 := blk_frozen HZ2.out.cb.blk 11; have o12 := (blk_cell HZ2.out.cb.blk 12).trans (show _ = some (vE2) from rfl); have f12 := blk_frozen HZ2.out.cb.blk 12)
                go_meet
                exact ⟨{ m2 with e := toE en }, tt, ee, .slice A2 en.v.length c2, vL2, vR2, rfl, rfl, HR2, ⟨HZ2.out.putE (toE en) HO.out⟩⟩
            case rest =>
              as_aux_lemma =>
              clear HR HQ HZ
              obtain ⟨m3, t3, e3, vE3, vL3, vR3, rfl, rfl, HR, HZ⟩ := hcut
              go_upto_region 8 with fail
              obtain ⟨y3, hu⟩ : ∃ u, u = wc := ⟨_, rfl⟩
              subst hu
              obtain ⟨q4, hq⟩ : ∃ q, (decide (e3 = 0) && (hasV kd).l) = q := ⟨_, rfl⟩
              have HQ := Aside0.mk hq
              clear hq
              have c0 := (blk_cell HZ.out.cb.blk 0).trans (show _ = some (Value.int .i64 m3.kind) from rfl)
              go_cut [64] (fun v wc => v = .bool q4 ∧ Aside0 (Below y3.heap.size y3 wc))
              case first =>
                as_aux_lemma =>
                by_cases he : e3 = 0
                · subst he
                  have HK0 : Aside0 ((hasV m3.kind).l = q4) := ⟨by obtain ⟨p, _, _, hk, _⟩ := HR.out.good; rw [hk, ← HQ.out]; simp⟩
                  go_wp2_with (go_at_call 21; (with_reducible refine (rhas_l m3.kind HK0.out _).mono ?_); rintro y w9 ⟨rfl, hb⟩; have HB9 := Aside0.mk hb; clear hb)
                  go_meet
                  exact ⟨by first | rfl | simp, HB9⟩
                · have t0 : (e3 == 0) = false := beq_eq_false_iff_ne.2 he
                  have hqf : q4 = false := by rw [← HQ.out]; simp [he]
                  subst hqf
                  go_wp2_with fail
                  go_meet
                  exact ⟨by first | rfl | simp, ⟨Below.refl _ _⟩⟩
              case rest =>
                as_aux_lemma =>
                obtain ⟨rfl, HBq⟩ := hcut
                go_upto_if 64 with fail
                clear c0
                obtain ⟨u4, hu⟩ : ∃ u, u = wc := ⟨_, rfl⟩
                subst hu
                replace HZ := Aside0.mk (HZ.out.below HBq.out)
                clear HBq
                go_cut [5, 6] (fun v5 v6 wc => ∃ (m' : Ms) (t' e' : Int) (vE' vL' vR' : Value), v5 = .int .i64 t' ∧ v6 = .int .i64 e' ∧ Aside0 (Rl l kd Q1 m' t' e' (gl (hasV kd) (ge (hasV kd) (gf (hasV kd) (gn (hasV kd) x))))) ∧ Aside0 (Rz w.heap.size wb wc M m' vE' vL' vR'))
                case first =>
                  as_aux_lemma =>
                  cases q4
                  · have HR2 : Aside0 (Rl l kd Q1 m3 t3 e3 (gl (hasV kd) (ge (hasV kd) (gf (hasV kd) (gn (hasV kd) x))))) := ⟨rl_skip HR.out HQ.out (fun h => gl_no h _) (gl_dead _) (fun _ h => h.2)⟩
                    go_wp2_with fail
                    go_meet
                    exact ⟨m3, t3, e3, vE3, vL3, vR3, rfl, rfl, HR2, HZ⟩
                  · obtain ⟨he, hf⟩ : e3 = 0 ∧ (hasV kd).l = true := by have h := HQ.out; rw [Bool.and_eq_true, decide_eq_true_iff] at h; exact h
                    subst he
                    obtain ⟨p, rfl, hp, hk, hQ0, hx⟩ := HR.out.good
                    have HCu := Aside0.mk (Kd.C_below HC.out (HZ.out.cb.out0 HBb.out HM0.out))
                    obtain ⟨L, tt, ee, hS, hRl⟩ := rl_l HBy.out hl hp hf hk hQ0
                    have HS := Aside0.mk hS
                    have HR2 : Aside0 (Rl l kd Q1 { m3 with L := L } tt ee (gl (hasV kd) (ge (hasV kd) (gf (hasV kd) (gn (hasV kd) x))))) := ⟨by rw [hx]; exact hRl⟩
                    clear hS hRl hx hk hQ0 hf
                    go_wp2_with (go_at_call 53; (with_reducible refine (rlist_c HS.out HCu.out hc).mono ?_); rintro y w9 ⟨A2, c2, rfl, hO, hb⟩; have HZ2 := Aside0.mk (HZ.out.below hb); clear hb; have HO := Aside0.mk (R_newM (M := M) hO (blk_lt HZ.out.cb.blk) (Nat.le_trans HBb.out.size HZ.out.cb.up.size)); clear hO; have o13 := (blk_cell HZ2.out.cb.blk 13).trans (show _ = some (vL3) from rfl); have f13 := blk_frozen HZ2.out.cb.blk 13)
                    go_meet
                    exact ⟨{ m3 with L := L }, tt, ee, vE3, .slice A2 L.length c2, vR3, rfl, rfl, HR2, ⟨HZ2.out.putL L HO.out⟩⟩
                case rest =>
                  as_aux_lemma =>
                  clear HR HQ HZ
                  obtain ⟨m4, t4, e4, vE4, vL4, vR4, rfl, rfl, HR, HZ⟩ := hcut
                  go_upto_region 10 with fail
                  obtain ⟨y4, hu⟩ : ∃ u, u = wc := ⟨_, rfl⟩
                  subst hu
                  obtain ⟨q5, hq⟩ : ∃ q, (decide (e4 = 0) && (hasV kd).r) = q := ⟨_, rfl⟩
                  have HQ := Aside0.mk hq
                  clear hq
                  have c0 := (blk_cell HZ.out.cb.blk 0).trans (show _ = some (Value.int .i64 m4.kind) from rfl)
                  go_cut [79] (fun v wc => v = .bool q5 ∧ Aside0 (Below y4.heap.size y4 wc))
                  case first =>
                    as_aux_lemma =>
                    by_cases he : e4 = 0
                    · subst he
                      have HK0 : Aside0 ((hasV m4.kind).r = q5) := ⟨by obtain ⟨p, _, _, hk, _⟩ := HR.out.good; rw [hk, ← HQ.out]; simp⟩
                      go_wp2_with (go_at_call 21; (with_reducible refine (rhas_r m4.kind HK0.out _).mono ?_); rintro y w9 ⟨rfl, hb⟩; have HB9 := Aside0.mk hb; clear hb)
                      go_meet
                      exact ⟨by first | rfl | simp, HB9⟩
                    · have t0 : (e4 == 0) = false := beq_eq_false_iff_ne.2 he
                      have hqf : q5 = false := by rw [← HQ.out]; simp [he]
                      subst hqf
                      go_wp2_with fail
                      go_meet
                      exact ⟨by first | rfl | simp, ⟨Below.refl _ _⟩⟩
                  case rest =>
                    as_aux_lemma =>
                    obtain ⟨rfl, HBq⟩ := hcut
                    go_upto_if 79 with fail
                    clear c0
                    obtain ⟨u5, hu⟩ : ∃ u, u = wc := ⟨_, rfl⟩
                    subst hu
                    replace HZ := Aside0.mk (HZ.out.below HBq.out)
                    clear HBq
                    go_cut [5, 6] (fun v5 v6 wc => ∃ (m' : Ms) (t' e' : Int) (vE' vL' vR' : Value), v5 = .int .i64 t' ∧ v6 = .int .i64 e' ∧ Aside0 (Rl l kd Q2 m' t' e' (gr (hasV kd) (gl (hasV kd) (ge (hasV kd) (gf (hasV kd) (gn (hasV kd) x)))))) ∧ Aside0 (Rz w.heap.size wb wc M m' vE' vL' vR'))
                    case first =>
                      as_aux_lemma =>
                      cases q5
                      · have HR2 : Aside0 (Rl l kd Q2 m4 t4 e4 (gr (hasV kd) (gl (hasV kd) (ge (hasV kd) (gf (hasV kd) (gn (hasV kd) x)))))) := ⟨rl_skip HR.out HQ.out (fun h => gr_no h _) (gr_dead _) (fun _ h => trivial)⟩
                        go_wp2_with fail
                        go_meet
                        exact ⟨m4, t4, e4, vE4, vL4, vR4, rfl, rfl, HR2, HZ⟩
                      · obtain ⟨he, hf⟩ : e4 = 0 ∧ (hasV kd).r = true := by have h := HQ.out; rw [Bool.and_eq_true, decide_eq_true_iff] at h; exact h
                        subst he
                        obtain ⟨p, rfl, hp, hk, hQ0, hx⟩ := HR.out.good
                        have HCu := Aside0.mk (Kd.C_below HC.out (HZ.out.cb.out0 HBb.out HM0.out))
                        obtain ⟨R, ea, kp, tt, ee, hS, hRl⟩ := rl_r HBy.out hl hp hf hk hQ0
                        have HS := Aside0.mk hS
                        have HR2 : Aside0 (Rl l kd Q2 { m4 with R := R, each := ea, keep := kp } tt ee (gr (hasV kd) (gl (hasV kd) (ge (hasV kd) (gf (hasV kd) (gn (hasV kd) x)))))) := ⟨by rw [hx]; exact hRl⟩
                        clear hS hRl hx hk hQ0 hf
                        go_wp2_with (go_at_call 54; (with_reducible refine (rringrd_c HS.out HCu.out hc).mono ?_); rintro y w9 ⟨A2, c2, rfl, hO, hb⟩; have HZ2 := Aside0.mk (HZ.out.below hb); clear hb; have HO := Aside0.mk (R_newM (M := M) hO (blk_lt HZ.out.cb.blk) (Nat.le_trans HBb.out.size HZ.out.cb.up.size)); clear hO; have o14 := (blk_cell HZ2.out.cb.blk 14).trans (show _ = some (vR4) from rfl); have f14 := blk_frozen HZ2.out.cb.blk 14; have o15 := (blk_cell HZ2.out.cb.blk 15).trans (show _ = some (Value.int .i64 m4.each) from rfl); have f15 := blk_frozen HZ2.out.cb.blk 15; have o16 := (blk_cell HZ2.out.cb.blk 16).trans (show _ = some (Value.int .i64 m4.keep) from rfl); have f16 := blk_frozen HZ2.out.cb.blk 16)
                        go_meet
                        exact ⟨{ m4 with R := R, each := ea, keep := kp }, tt, ee, vE4, vL4, .slice A2 R.length c2, rfl, rfl, HR2, ⟨HZ2.out.putR R ea kp HO.out⟩⟩
                    case rest =>
                      as_aux_lemma =>
                      clear HR HQ HZ
                      obtain ⟨m5, t5, e5, vE5, vL5, vR5, rfl, rfl, HR, HZ⟩ := hcut
                      obtain ⟨y5, hu⟩ : ∃ u, u = wc := ⟨_, rfl⟩
                      subst hu
                      rw [← HGM.out] at HR
                      obtain ⟨m, hm⟩ : ∃ m, m5 = m := ⟨_, rfl⟩
                      subst hm
                      obtain ⟨A1, a1, rfl⟩ := Kd.R_slice HZ.out.rE
                      obtain ⟨A2, a2, rfl⟩ := Kd.R_slice HZ.out.rL
                      obtain ⟨A3, a3, rfl⟩ := Kd.R_slice HZ.out.rR
                      have HO : Aside0 (Own y5 w.heap.size m5 ⟨A1, a1, A2, a2, A3, a3⟩) := ⟨⟨Kd.R_mono HZ.out.rE (fun _ _ => trivial), Kd.R_mono HZ.out.rL (fun _ _ => trivial), Kd.R_mono HZ.out.rR (fun _ _ => trivial)⟩⟩
                      have HOb : Aside0 (Own y5 (w.heap.size + 1) m5 ⟨A1, a1, A2, a2, A3, a3⟩ ∨ True) := ⟨.inr trivial⟩
                      have HBM : Aside0 (y5.heap[M]? = some (.cells (m5.val ⟨A1, a1, A2, a2, A3, a3⟩) 34 (0, 0))) := ⟨HZ.out.cb.blk⟩
                      have HPy : Aside0 (y5.heap[w.heap.size]? = some (.cells zMs 34 (0, 0))) := ⟨(HZ.out.cb.up.block w.heap.size HPs.out (by have := HPM.out; omega) (by have := HPM.out; omega)).trans HP2.out⟩
                      have HBw : Aside0 (Below w.heap.size w y5) := ⟨HZ.out.cb.out0 HBb.out HM0.out⟩
                      clear HOb
                      by_cases he : e5 = 0
                      · subst he
                        obtain ⟨p, rfl, hp, hk, _, hx⟩ := HR.out.good
                        have HX := Aside0.mk hx
                        clear hx hk
                        by_cases hlt : p < l.length
                        · have t3 : decide ((p : Int) < (l.length : Int)) = true := decide_eq_true (by omega)
                          have t4 : decide (p < l.length) = true := decide_eq_true hlt
                          have HRd : Aside0 (readM l = (zM, 11)) := ⟨by unfold readM; rw [HX.out, endP_more (by intro h; have := congrArg List.length h; rw [List.length_drop] at this; simp at this; omega), if_neg (by decide)]⟩
                          as_aux_lemma =>
                          go_wp2_with (refine wpList_store_row rfl 34 (.tmp 2) (.tmp 101) rfl w.heap.size zMs rfl rfl 34 zMs HPy.out (by kernel_rfl) rfl (by simp [Value.oneCell']) ?_)
                          refine bodyPost_ret (results_row_tmp rfl _ _ w.heap.size zMs rfl (load_ms (setRow_heap _ _ _ _ _ _ HPy.out) rfl)) rfl ?_
                          rw [HRd.out]
                          exact ⟨nP, rfl, own_zero _ _, below_setRow HBw.out (Nat.le_refl _) _⟩
                        · have t3 : decide ((p : Int) < (l.length : Int)) = false := decide_eq_false (by omega)
                          have t4 : decide (p < l.length) = false := decide_eq_false hlt
                          have HD : Aside0 (l.drop p = []) := ⟨List.drop_eq_nil_of_le (by omega)⟩
                          have hLm : m5.L.length < 9223372036854775807 := by have h := getM_L ⟨l, 0⟩; rw [HX.out] at h; have h : m5.L.length ≤ 1000 := h; omega
                          have hRm : m5.R.length < 9223372036854775807 := by have h := getM_R ⟨l, 0⟩; rw [HX.out] at h; have h : m5.R.length ≤ 64 := h; omega
                          obtain ⟨d0, d1, d2, d3, d4, d5, d6, d7, d8, d9, d10, d11, d12, d13, d14, d15, d16⟩ := ms_cells HBM.out
                          cases ha : a4 m5
                          · have HCk : Aside0 (checkM m5 = 2) := ⟨by unfold checkM; rw [ha]; rfl⟩
                            have HRd : Aside0 (readM l = (zM, 11)) := ⟨by unfold readM; rw [HX.out, HD.out]; rw [show endP ([] : List Int) 0 = 0 from rfl, if_pos rfl, if_neg (by rw [ha]; decide)]⟩
                            clear ha
                            as_aux_lemma =>
                            go_wp2_with (first
                              | (go_at_call 16; (with_reducible refine (rcheck_ HO.out.lies hLm hRm).mono ?_); rw [HCk.out]; rintro y w9 ⟨rfl, hb⟩; have HPz := Aside0.mk (blk_below HPy.out hb); have HBz := Aside0.mk (below_then HBw.out HBw.out.size hb); clear hb d0 d1 d2 d3 d4 d5 d6 d7 d8 d9 d10 d11 d12 d13 d14 d15 d16)
                              | (refine wpList_store_row rfl 34 (.tmp 2) (.tmp 101) rfl w.heap.size zMs rfl rfl 34 zMs HPz.out (by kernel_rfl) rfl (by simp [Value.oneCell']) ?_))
                            refine bodyPost_ret (results_row_tmp rfl _ _ w.heap.size zMs rfl (load_ms (setRow_heap _ _ _ _ _ _ HPz.out) rfl)) rfl ?_
                            rw [HRd.out]
                            exact ⟨nP, rfl, own_zero _ _, below_setRow HBz.out (Nat.le_refl _) _⟩
                          · have HCk : Aside0 (checkM m5 = 0) := ⟨by unfold checkM; rw [ha]; rfl⟩
                            have HRd : Aside0 (readM l = (m5, 0)) := ⟨by unfold readM; rw [HX.out, HD.out]; rw [show endP ([] : List Int) 0 = 0 from rfl, if_pos rfl, if_pos ha]⟩
                            clear ha
                            as_aux_lemma =>
                            go_wp2_with (first
                              | (go_at_call 16; (with_reducible refine (rcheck_ HO.out.lies hLm hRm).mono ?_); rw [HCk.out]; rintro y w9 ⟨rfl, hb⟩; have HPz := Aside0.mk (blk_below HPy.out hb); have HMz := Aside0.mk (blk_below HBM.out hb); have HBz := Aside0.mk (below_then HBw.out HBw.out.size hb); have HOz := Aside0.mk (HO.out.below hb); have hPl := blk_lt HPy.out; clear hb d0 d1 d2 d3 d4 d5 d6 d7 d8 d9 d10 d11 d12 d13 d14 d15 d16)
                              | (refine wpList_load_row rfl 34 (.tmp 4) rfl M rfl 34 (m5.val ⟨A1, a1, A2, a2, A3, a3⟩) (0, 0) _ HMz.out Tryd.underlying34 rfl (by kernel_rfl) ?_)
                              | (refine wpList_store_row rfl 34 (.tmp 2) (.tmp 102) rfl w.heap.size (m5.val ⟨A1, a1, A2, a2, A3, a3⟩) rfl rfl 34 zMs HPz.out (by kernel_rfl) rfl (val_one m5 _) ?_))
                            refine bodyPost_ret (results_row_tmp rfl _ _ w.heap.size (m5.val ⟨A1, a1, A2, a2, A3, a3⟩) rfl (load_ms (setRow_heap _ _ _ _ _ _ HPz.out) (val_size m5 _))) rfl ?_
                            rw [HRd.out]
                            exact ⟨⟨A1, a1, A2, a2, A3, a3⟩, rfl, own_row HOz.out HPz.out, below_setRow HBz.out (Nat.le_refl _) _⟩
                      · have t5 : (e5 != 0) = true := bne_iff_ne.2 he
                        have HRd : Aside0 (readM l = (zM, e5)) := ⟨by
                          rcases HR.out.out with ⟨_, h0, _⟩ | ⟨_, h1⟩
                          · exact absurd h0 he
                          · unfold readM; rw [h1, endP_bad he, if_neg he]⟩
                        clear he
                        as_aux_lemma =>
                        go_wp2_with (refine wpList_store_row rfl 34 (.tmp 2) (.tmp 90) rfl w.heap.size zMs rfl rfl 34 zMs HPy.out (by kernel_rfl) rfl (by simp [Value.oneCell']) ?_)
                        refine bodyPost_ret (results_row_tmp rfl _ _ w.heap.size zMs rfl (load_ms (setRow_heap _ _ _ _ _ _ HPy.out) rfl)) rfl ?_
                        rw [HRd.out]
                        exact ⟨nP, rfl, own_zero _ _, below_setRow HBw.out (Nat.le_refl _) _⟩
end Go.Proofs.YthaoiamgkpkcbaaDoor.Ms
namespace Go.Proofs.YthaoiamgkpkcbaaDoor.Ms
open Go.ChangeShapes Go.WideShapes Go.ChangeAt Go.RowKit Go.Proofs.YthaoiamgkpkcbaaDoor.Pk Go.Proofs.YthaoiamgkpkcbaaDoor.Tg Go.Proofs.YthaoiamgkpkcbaaDoor.Enc Go.Proofs.YthaoiamgkpkcbaaDoor.EncC Go.Proofs.YthaoiamgkpkcbaaDoor.EncP
open Go.Proofs.YthaoiamgkpkcbaaDoor.Hlp Go.Proofs.YthaoiamgkpkcbaaDoor.Wrd Go.Proofs.YthaoiamgkpkcbaaDoor.Lex Go.Proofs.YthaoiamgkpkcbaaDoorW.PrintWords Go.Proofs.YthaoiamgkpkcbaaDoorW.PrintLast Go.Proofs.YthaoiamgkpkcbaaDoorW.PrintMore
set_option linter.unusedVariables false
set_option linter.unusedSimpArgs false
theorem sameX_self (x : E6) : sameX x x = true := sameE_self _ _ _ _ _ _
theorem sameLs_self : ∀ l : List E6, sameLs l l = true
  | [] => rfl
  | x :: l => by
    unfold sameLs
    rw [sameX_self, sameLs_self l]; rfl
theorem sameM_self (m : Ms) : sameM m m = true := by
  rw [sameM_yes ⟨rfl, rfl, rfl, rfl, rfl, rfl, rfl⟩, sameX_self, sameLs_self, decide_eq_true rfl, decide_eq_true ⟨rfl, rfl⟩]; rfl
end Go.Proofs.YthaoiamgkpkcbaaDoor.Ms
namespace Go.Proofs.YthaoiamgkpkcbaaDoor.Ms
open Go.ChangeShapes Go.WideShapes Go.ChangeAt Go.RowKit Go.Proofs.YthaoiamgkpkcbaaDoor.Pk Go.Proofs.YthaoiamgkpkcbaaDoor.Tg Go.Proofs.YthaoiamgkpkcbaaDoor.Enc Go.Proofs.YthaoiamgkpkcbaaDoor.EncC Go.Proofs.YthaoiamgkpkcbaaDoor.EncP
open Go.Proofs.YthaoiamgkpkcbaaDoor.Hlp Go.Proofs.YthaoiamgkpkcbaaDoor.Wrd Go.Proofs.YthaoiamgkpkcbaaDoor.Lex Go.Proofs.YthaoiamgkpkcbaaDoorW.PrintWords Go.Proofs.YthaoiamgkpkcbaaDoorW.PrintLast Go.Proofs.YthaoiamgkpkcbaaDoorW.PrintMore
set_option linter.unusedVariables false
set_option linter.unusedSimpArgs false
theorem readM_okz {l : List Int} {m : Ms} {e : Int} (h : readM l = (m, e)) : m = zM ∨ Okm m := by
  unfold readM at h
  split at h
  · split at h
    · rename_i h4
      obtain ⟨rfl, _⟩ := Prod.mk.inj h
      exact .inr ((okm_iff _).1 h4)
    · exact .inl (Prod.mk.inj h).1.symm
  · exact .inl (Prod.mk.inj h).1.symm
theorem okE_len {x : E6} (h : okE x) : x.f2.f1.length ≤ 60000 := by
  have h' : okEnt x.f0 x.f1.f0 x.f1.f1 x.f1.f2 x.f2.f0 x.f2.f1 := h
  exact h'.2.2.1
theorem readM_small {l : List Int} {m : Ms} {e : Int} (h : readM l = (m, e)) : m.e.f2.f1.length < 9223372036854775807 ∧ m.L.length < 9223372036854775807 ∧ (∀ x ∈ m.L, x.f2.f1.length < 9223372036854775807) ∧ m.R.length < 9223372036854775807 := by
  rcases readM_okz h with rfl | ok
  · exact ⟨by decide, by decide, (fun x hx => by cases hx), by decide⟩
  · refine ⟨?_, by have := ok.len; omega, fun x hx => by have := okE_len (ok.all x hx); omega, ?_⟩
    · cases he : (hasV m.kind).e
      · have := (ok.e0 he).2; omega
      · have := okE_len (ok.e1 he); omega
    · cases hr : (hasV m.kind).r
      · have h0 := ok.r0 hr
        unfold noneB at h0
        have := (of_decide_eq_true h0).1
        omega
      · have := ring_len (ok.r1 hr); omega
theorem read_h {w : World} {A : Option Addr} {n c : Nat} {l : List Int} {m : Ms} {e : Int} (hq : readM l = (m, e)) (hK : Kin w) (hr : Kd.C (Kd.int .u8) w A n l) (hc : n ≤ c) (hb : Bytes l) (hl : n ≤ 140737488351232) :
    Calls Tryd.prog 17 #[.slice A n c] w fun x w' => ∃ p : Pl, x = .returned (.tuple #[.agg (m.val p), .int .i64 e]) ∧ Lies w' m p ∧ Below w.heap.size w w' := by
  refine (read_m hK hr hc hb hl).mono ?_
  rw [hq]
  rintro x w' ⟨p, rfl, ho, hb⟩
  exact ⟨p, rfl, ho.lies, hb⟩
theorem rread_h {w : World} {A : Option Addr} {n c : Nat} {l : List Int} {m : Ms} {e : Int} (hq : readM l = (m, e)) (hr : Kd.C (Kd.int .u8) w A n l) (hc : n ≤ c) (hb : Bytes l) (hl : n ≤ 140737488351232) :
    Calls Tryd.prog 18 #[.slice A n c] w fun x w' => ∃ p : Pl, x = .returned (.tuple #[.agg (m.val p), .int .i64 e]) ∧ Lies w' m p ∧ Below w.heap.size w w' := by
  refine (rread_ hr hc hb hl).mono ?_
  rw [hq]
  rintro x w' ⟨p, rfl, ho, hb⟩
  exact ⟨p, rfl, ho.lies, hb⟩
set_option maxHeartbeats 8000000 in
set_option maxRecDepth 100000 in
theorem reads_law {w : World} {A : Option Addr} {c : Nat} {xs : List Int} (hK : Kin w) (hr : Kd.C (Kd.int .u8) w A xs.length xs) (hc : xs.length ≤ c) (hb : Bytes xs) :
    Calls Tryd.prog 4 #[.slice A xs.length c] w fun e w' => e = .returned (.bool true) ∧ Below w.heap.size w w' := by
  have HK := Aside0.mk hK
  have HX := Aside0.mk hr
  have HXB := Aside0.mk hb
  clear hK hr hb
  go_enter Tryd.func4, Tryd.ntmps4
  by_cases hlong : 1500 < xs.length
  · have t1 : decide (1500 < (xs.length : Int)) = true := decide_eq_true (by omega)
    go_wp2_with (go_at_call 11; (with_reducible refine (known_ _ HK.out).mono ?_); rintro z w9 ⟨rfl, hq⟩; have HB9 := Aside0.mk hq; clear hq)
    go_ret
    exact ⟨rfl, HB9.out⟩
  · have t1 : decide (1500 < (xs.length : Int)) = false := decide_eq_false (by omega)
    have hxl : xs.length ≤ 140737488351232 := by omega
    obtain ⟨⟨m, e⟩, hrp⟩ : ∃ r, readM xs = r := ⟨_, rfl⟩
    obtain ⟨hv, hl, hx, hR⟩ := readM_small hrp
    have Hx := Aside0.mk hx
    have HRP := Aside0.mk hrp
    have tee : (e == e) = true := by simp
    clear hx hrp
    go_upto_region 4 with (go_at_call 17; (with_reducible refine (read_h HRP.out HK.out HX.out hc HXB.out hxl).mono ?_); rintro y w1 ⟨p, rfl, hL, hq⟩; have HL1 := Aside0.mk hL; have HB1 := Aside0.mk hq; clear hL hq)
    have HL2 := Aside0.mk (HL1.out.below (below_alloc (Below.refl w1.heap.size w1) (.cells (m.val p) 34)))
    have HB2 := Aside0.mk (below_alloc HB1.out (.cells (m.val p) 34))
    have BM := Aside0.mk (blk_new w1 (.cells (m.val p) 34))
    obtain ⟨G, hG⟩ : ∃ g, w1.heap.size = g := ⟨_, rfl⟩
    rw [hG] at BM
    simp only [hG]
    generalize w1.alloc (.cells (m.val p) 34) = w2 at *
    clear hG HL1 HB1
    go_upto_region 5 with (go_at_call 18; (with_reducible refine (rread_h HRP.out (Kd.C_below HX.out HB2.out) hc HXB.out hxl).mono ?_); rintro y w3 ⟨q, rfl, hL, hq⟩; have HN3 := Aside0.mk hL; have HL3 := Aside0.mk (HL2.out.below hq); have HB3 := Aside0.mk (below_then HB2.out HB2.out.size hq); have BM3 := Aside0.mk (blk_below BM.out hq); clear hL hq)
    have HA := Aside0.mk (below_alloc (Below.refl w3.heap.size w3) (.cells (m.val q) 34))
    have HL4 := Aside0.mk (HL3.out.below HA.out)
    have HN4 := Aside0.mk (HN3.out.below HA.out)
    have HB4 := Aside0.mk (below_then HB3.out HB3.out.size HA.out)
    have BM4 := Aside0.mk (blk_below BM3.out HA.out)
    have BN4 := Aside0.mk (blk_new w3 (.cells (m.val q) 34))
    obtain ⟨G2, hG⟩ : ∃ g, w3.heap.size = g := ⟨_, rfl⟩
    rw [hG] at BN4
    simp only [hG]
    generalize w3.alloc (.cells (m.val q) 34) = w4 at *
    clear hG HL3 HB3 HN3 BM3 HA HL2 HB2 BM
    go_wp2_with (first
      | (refine wpList_load_row rfl 34 (.tmp 3) rfl G rfl 34 (m.val p) (0, 0) _ BM4.out Tryd.underlying34 rfl (by kernel_rfl) ?_)
      | (refine wpList_load_row rfl 34 (.tmp 5) rfl G2 rfl 34 (m.val q) (0, 0) _ BN4.out Tryd.underlying34 rfl (by kernel_rfl) ?_)
      | (go_at_call 19; (with_reducible refine (rsame_c (sameM_self m) HL4.out HN4.out hv hl Hx.out hR).mono ?_); rintro z w5 ⟨rfl, hq⟩; have HB5 := Aside0.mk (below_then HB4.out HB4.out.size hq); clear hq)
      | (go_at_call 11; (with_reducible refine (known_ _ (HK.out.below HB5.out)).mono ?_); rintro z w6 ⟨rfl, hq⟩; have HB6 := Aside0.mk (below_then HB5.out HB5.out.size hq); clear hq))
    go_ret
    exact ⟨rfl, HB6.out⟩
theorem msgsReads (w : World) (hK : Kin w) (A : Option Addr) (c : Nat) (l : List Int) (hr : Kd.C (Kd.int .u8) w A l.length l) (hc : l.length ≤ c) (wl : l.length ≤ maxLen ∧ l.length * 1 ≤ 140737488351232 ∧ ∀ x ∈ l, (Lit.int .u8 x).wf = true) :
    Calls Tryd.prog 4 #[.slice A l.length c] w fun e w' => e = .returned (.bool true) ∧ Below w.heap.size w w' :=
  reads_law hK hr hc (fun y hy => Opn.u8_rng (wl.2.2 y hy))
end Go.Proofs.YthaoiamgkpkcbaaDoor.Ms
namespace Go.Proofs.YthaoiamgkpkcbaaDoor.Ms
open Go.ChangeShapes Go.WideShapes Go.ChangeAt Go.RowKit
abbrev laidK : List (String × DataW Unit) := [("icehouse/msgs.kinds", Rows.laid_icehouse_msgs_kinds)]
theorem gKinds : Tryd.prog.globalNamed "icehouse/msgs.kinds" = some 0 := by kernel_rfl
theorem tKinds : (Tryd.prog.globals[0]?).map (·.type) = some 98 := by kernel_rfl
theorem door_met (os : Os) (args : Array Value) : laidMetH Tryd.prog laidK ((World.doorLaid Tryd.prog 30 os).forCall (fun _ _ => 0) ⟨#[], args, []⟩).memory :=
  laidMetH_of_parts3 (fuel := 8) (laidMet_of_run' 8 (by kernel_rfl) (by kernel_rfl)) (by kernel_rfl) (by kernel_rfl)
theorem bool_trod {H : Type} {enc : TypeId × Value → H} {P : Program} {w : World} {base : Nat} {sp : Nat → Bool} {held : Bool} {fuel : Nat} {t : TypeId} {cs : List Value} {y : DataW H × List MemPlace}
    (ht : P.underlying t = some .bool) (hl : cs.length = 1) (h : DataW.trod enc P w base sp held fuel t cs = some y) : ∃ b, cs = [.bool b] ∧ y.1 = .lit (.bool b) := by
  match cs, hl with
  | [c], _ =>
    cases fuel with
    | zero => simp [DataW.trod] at h
    | succ fuel =>
      cases c with
      | bool b =>
        simp [DataW.trod, ht] at h
        exact ⟨b, rfl, by rw [← h]⟩
      | _ => simp [DataW.trod, ht] at h
set_option maxRecDepth 100000 in
theorem five_trod {H : Type} {enc : TypeId × Value → H} {w : World} {base : Nat} {sp : Nat → Bool} {held : Bool} {fuel : Nat} {cs : List Value} {y : DataW H × List MemPlace} {b0 b1 b2 b3 b4 : Bool}
    (h : DataW.trod enc Tryd.prog w base sp held fuel 97 cs = some y) (hy : y.1 = .agg [.lit (.bool b0), .lit (.bool b1), .lit (.bool b2), .lit (.bool b3), .lit (.bool b4)]) : cs = [.bool b0, .bool b1, .bool b2, .bool b3, .bool b4] := by
  obtain ⟨xs, m1, rfl, rfl, hlen, hn, hel⟩ := DataW.trod_array Tryd.underlying97 h
  have c5 : Tryd.prog.cellsOf 97 = 5 := by kernel_rfl
  have c1 : Tryd.prog.cellsOf 4 = 1 := by kernel_rfl
  rw [c5] at hlen
  match cs, hlen with
  | [v0, v1, v2, v3, v4], _ =>
    have e0 := hel 0 (by decide)
    have e1 := hel 1 (by decide)
    have e2 := hel 2 (by decide)
    have e3 := hel 3 (by decide)
    have e4 := hel 4 (by decide)
    rw [c1] at e0 e1 e2 e3 e4
    match xs, hn with
    | [x0, x1, x2, x3, x4], _ =>
      simp only [List.map_cons, List.map_nil, DataW.agg.injEq, List.cons.injEq, and_true] at hy
      obtain ⟨y0, y1, y2, y3, y4⟩ := hy
      obtain ⟨z0, h0, q0⟩ := bool_trod Tryd.underlying4 rfl (show DataW.trod enc Tryd.prog w base sp held m1 4 [v0] = some x0 from e0)
      obtain ⟨z1, h1, q1⟩ := bool_trod Tryd.underlying4 rfl (show DataW.trod enc Tryd.prog w base sp held m1 4 [v1] = some x1 from e1)
      obtain ⟨z2, h2, q2⟩ := bool_trod Tryd.underlying4 rfl (show DataW.trod enc Tryd.prog w base sp held m1 4 [v2] = some x2 from e2)
      obtain ⟨z3, h3, q3⟩ := bool_trod Tryd.underlying4 rfl (show DataW.trod enc Tryd.prog w base sp held m1 4 [v3] = some x3 from e3)
      obtain ⟨z4, h4, q4⟩ := bool_trod Tryd.underlying4 rfl (show DataW.trod enc Tryd.prog w base sp held m1 4 [v4] = some x4 from e4)
      rw [q0] at y0; rw [q1] at y1; rw [q2] at y2; rw [q3] at y3; rw [q4] at y4
      simp only [DataW.lit.injEq, Lit.bool.injEq] at y0 y1 y2 y3 y4
      subst y0 y1 y2 y3 y4
      simp only [List.cons.injEq, and_true] at h0 h1 h2 h3 h4
      rw [h0, h1, h2, h3, h4]
theorem chunks : ∀ (n : Nat) (l : List Value) (f : Nat → List Value), l.length = n * 5 → (∀ i, i < n → (l.drop (i * 5)).take 5 = f i) → l = (List.range n).flatMap f := by
  intro n
  induction n with
  | zero => intro l f hl _; simpa using hl
  | succ n ih =>
    intro l f hl h
    have h1 := ih (l.take (n * 5)) f (by rw [List.length_take]; omega) (fun i hi => by
      rw [← h i (by omega), List.drop_take, List.take_take]
      congr 1; omega)
    have h2 := h n (by omega)
    rw [List.range_succ, List.flatMap_append, ← h1]
    simp only [List.flatMap_cons, List.flatMap_nil, List.append_nil]
    rw [← h2, List.take_of_length_le (i := 5) (l := l.drop (n * 5)) (by rw [List.length_drop]; omega), List.take_append_drop]
def rowK (i : Nat) : List Value := match tab[i]? with
  | some h => [.bool h.n, .bool h.f, .bool h.e, .bool h.l, .bool h.r]
  | none => []
theorem kinds_chunks : kindsC.toList = (List.range 18).flatMap rowK := by kernel_rfl
set_option maxRecDepth 100000 in
theorem kin_of_laid {W : World} (h : laidMetH Tryd.prog laidK W) : Kin W := by
  rw [MakeChecks.laidMetH_plain _ _ _ (by kernel_rfl)] at h
  obtain ⟨ps, ⟨g0, t0, cs0, f0, p0, q0, hg0, ht0, hv0, hd0, _, _⟩, _⟩ := h
  obtain rfl := Option.some.inj (gKinds.symm.trans hg0)
  obtain rfl := Option.some.inj (tKinds.symm.trans ht0)
  obtain ⟨xs, m1, rfl, hx, hlen, hn, hel⟩ := DataW.trod_array Tryd.underlying98 hd0
  have c5 : Tryd.prog.cellsOf 97 = 5 := by kernel_rfl
  have c90 : Tryd.prog.cellsOf 98 = 90 := by kernel_rfl
  rw [c90] at hlen
  simp only [c5] at hel
  have hcs : cs0.toList = kindsC.toList := by
    rw [kinds_chunks]
    refine chunks 18 cs0.toList rowK hlen fun i hi => ?_
    have he := hel i hi
    have hxs : xs.map (·.1) = (tab.map fun h => (DataW.agg [.lit (.bool h.n), .lit (.bool h.f), .lit (.bool h.e), .lit (.bool h.l), .lit (.bool h.r)] : DataW Unit)) := by
      have := congrArg Prod.fst hx
      simp only at this
      injection this with this
      rw [← this]; rfl
    obtain ⟨x, hxi⟩ : ∃ x, xs[i]? = some x := ⟨xs[i]'(by omega), List.getElem?_eq_getElem (by omega)⟩
    rw [hxi] at he
    have ht : i < tab.length := hi
    have hm : (xs.map (·.1))[i]? = some x.1 := by rw [List.getElem?_map, hxi]; rfl
    rw [hxs, List.getElem?_map, List.getElem?_eq_getElem ht] at hm
    have hm2 := Option.some.inj hm
    unfold rowK
    rw [List.getElem?_eq_getElem ht]
    exact five_trod he hm2.symm
  have : cs0 = kindsC := Array.toList_inj.1 hcs
  subst this
  unfold World.var? at hv0
  rw [gKinds, Option.bind_some] at hv0
  split at hv0
  · rename_i c t fr hb
    obtain rfl := Option.some.inj hv0
    exact ⟨t, fr, hb⟩
  · cases hv0
end Go.Proofs.YthaoiamgkpkcbaaDoor.Ms
