/- The walk of the law BeatOrders, for every now and row of beats. No condition. -/
import Derived.Test.YtlifioeeooclfaaOB
import Derived.Test.YtlifioeeooclfaaQSx1
namespace Go.Proofs.Ytlifioeeooclfaa.Rl
open Go.ChangeShapes Go.WideShapes Go.ChangeAt Go.RowKit Dbl
open Go.Proofs.YtlifioeeooclfaaW.PrintWords Go.Proofs.YtlifioeeooclfaaW.PrintLast Go.Proofs.YtlifioeeooclfaaW.PrintMore
set_option linter.unusedVariables false
set_option linter.unusedSimpArgs false
theorem same_l0 (l : List Int) (hl : l.length ≤ 9223372036854775807) : ∀ (n i : Nat), l.length - i = n → i ≤ l.length → ∃ k, QS.icehouseref00_SameInts.l0 k l l (i : Int) = some true := by
  intro n
  induction n with
  | zero =>
    intro i hn hi
    have hf : ¬ ((i : Int) < (l.length : Int)) := by omega
    exact ⟨1, by simp only [QS.icehouseref00_SameInts.l0, if_neg hf]⟩
  | succ n ih =>
    intro i hn hi
    have f1 : (i : Int) < (l.length : Int) := by omega
    have f0 : (0 : Int) ≤ (i : Int) := by omega
    obtain ⟨k, hk⟩ := ih (i + 1) (by omega) (by omega)
    refine ⟨k + 1, ?_⟩
    have hw : wrap64 ((i : Int) + 1) = ((i + 1 : Nat) : Int) := by unfold wrap64; omega
    simp only [QS.icehouseref00_SameInts.l0, if_pos f1, if_pos f0, if_true, hw]
    exact hk
theorem same_g {A B : Option Addr} {c d n : Nat} {l : List Int} {w : World} (hn : l.length = n) (h : Kd.C (Kd.int .i64) w A l.length l) (hc : n ≤ c) (h' : Kd.C (Kd.int .i64) w B l.length l) (hd : n ≤ d) (hl : n ≤ 9223372036854775807) :
    Calls Try.prog 29 #[.slice A n c, .slice B n d] w fun e w' => e = .returned (.bool true) ∧ Below w.heap.size w w' := by
  subst hn
  obtain ⟨K, hK⟩ := same_l0 l hl _ 0 rfl (Nat.zero_le _)
  have hf : QS.icehouseref00_SameInts.f K l l = some true := by unfold QS.icehouseref00_SameInts.f; rw [if_pos rfl]; exact hK
  refine (QS.icehouseref00_SameInts.calls K A c l B d l _ w h hc h' hd hf).mono ?_
  rintro e w1 ⟨rfl, hb⟩
  exact ⟨rfl, by first | exact hb | exact hb.below⟩
theorem not_gt {a b : Nat} (ha : a ≤ inf) (hb : b ≤ inf) (h : ¬ 0 < cmpU b a) : (FloatKind.f64.format.order b a == some .gt) = false := by
  have hba : b ≤ a := by
    apply Classical.byContradiction
    intro hc
    apply h
    rw [cmp_pos, canon_low ha, canon_low hb]
    have h1 := inf_lt_top
    unfold keyU
    rw [if_neg (show ¬ top ≤ a by omega), if_neg (show ¬ top ≤ b by omega)]
    omega
  obtain ⟨s1, s2, _⟩ := low_word ha
  obtain ⟨t1, t2, _⟩ := low_word hb
  have : FloatKind.f64.format.order b a = some (compare (pos b) (pos a)) := order_num (by omega) (by omega)
  rw [this]
  have e : ¬ compare (pos b) (pos a) = .gt := by
    rw [Int.compare_eq_gt]
    unfold pos
    rw [s2, t2, s1, t1]
    simp; exact hba
  cases hq : compare (pos b) (pos a)
  · rfl
  · rfl
  · exact absurd hq e
theorem allOk_of {now : Int} : ∀ {l : List (Int × List Nat)}, firstErr now l = 0 → allOk now l
  | [], _ => by intro p hp; cases hp
  | p :: t, h => by
    unfold firstErr at h
    by_cases h0 : (scoreR p.1 p.2 now).2 = 0
    · rw [if_pos h0] at h
      intro q hq
      rcases List.mem_cons.1 hq with rfl | hq
      · exact h0
      · exact allOk_of h q hq
    · rw [if_neg h0] at h; exact absurd h h0
theorem score_le {last : Int} {ts : List Nat} {now : Int} (h : (scoreR last ts now).2 = 0) : (scoreR last ts now).1 ≤ inf := by
  by_cases ho : okN last ts now
  · obtain ⟨s, hs, hl⟩ := score_low ho
    rw [hs]; exact hl
  · rw [score_no ho] at h; cases h
theorem ordR_len {now : Int} {l : List (Int × List Nat)} : (ordR now l).length ≤ l.length := by
  unfold ordR; split
  · rw [List.length_map, ordN_len]; exact Nat.le_refl _
  · exact Nat.zero_le _
/-- two that stand side by side in the order -/
theorem side_by {now : Int} {l : List (Int × List Nat)} {j : Nat} (hj : j + 1 < (ordR now l).length) :
    ∃ (x y : Nat) (hx : x < l.length) (hy : y < l.length) (a b : Nat), (ordR now l)[j] = (x : Int) ∧ (ordR now l)[j + 1] = (y : Int) ∧ scoreR l[x].1 l[x].2 now = (a, 0) ∧ scoreR l[y].1 l[y].2 now = (b, 0) ∧ (FloatKind.f64.format.order b a == some .gt) = false ∧ (FloatKind.f64.format.order b b != some .eq) = false := by
  by_cases hf : firstErr now l = 0
  · have hok := allOk_of hf
    have e : ordR now l = (ordN (scs now l) l.length).map (fun x : Nat => (x : Int)) := by unfold ordR; rw [if_pos hf]
    have hj2 : j + 1 < (ordN (scs now l) l.length).length := by rw [e, List.length_map] at hj; exact hj
    obtain ⟨x, hx⟩ : ∃ x, (ordN (scs now l) l.length)[j] = x := ⟨_, rfl⟩
    obtain ⟨y, hy⟩ : ∃ y, (ordN (scs now l) l.length)[j + 1] = y := ⟨_, rfl⟩
    have hxl : x < l.length := by rw [← hx]; exact ordN_lt _ _ _ (List.getElem_mem _)
    have hyl : y < l.length := by rw [← hy]; exact ordN_lt _ _ _ (List.getElem_mem _)
    have hfall := ordN_falls (scs now l) l.length j hj2
    rw [hx, hy, ltN_pos, scs_at now l x hxl, scs_at now l y hyl] at hfall
    have kx := hok l[x] (List.getElem_mem hxl)
    have ky := hok l[y] (List.getElem_mem hyl)
    refine ⟨x, y, hxl, hyl, (scoreR l[x].1 l[x].2 now).1, (scoreR l[y].1 l[y].2 now).1, ?_, ?_, Prod.ext rfl kx, Prod.ext rfl ky, not_gt (score_le kx) (score_le ky) (of_decide_eq_false hfall), not_nan (score_le ky)⟩
    · simp only [e, List.getElem_map, hx]
    · simp only [e, List.getElem_map, hy]
  · have : ordR now l = [] := by unfold ordR; rw [if_neg hf]
    rw [this] at hj; simp at hj
set_option maxHeartbeats 8000000 in
set_option maxRecDepth 100000 in
theorem beatOrders (w : World) (now : Int) {p : Prop} (wn : p) (A : Option Addr) (c : Nat) (l : List (Int × List Nat)) (hr : Kd.C kBts w A l.length l) (hc : l.length ≤ c) (wf : l.length ≤ maxLen ∧ l.length * 32 ≤ 140737488351232 ∧ ∀ x ∈ l, wBts x) :
    Calls Try.prog 8 #[.int .i64 now, .slice A l.length c] w fun e w' => e = .returned (.bool true) ∧ Below w.heap.size w w' := by
  have HR := Aside0.mk hr
  have HW := Aside0.mk wf.2.2
  have hm : l.length ≤ 9223372036854775807 := wf.1
  clear hr wf
  by_cases h20 : 20 < l.length
  · have t1 : decide (20 < (l.length : Int)) = true := decide_eq_true (by omega)
    go_enter Try.func8, Try.ntmps8
    go_wp2_with fail
    (with_reducible refine (known_ _).mono ?_)
    rintro e w9 ⟨rfl, hb⟩
    go_wp2_with fail
    go_ret
    exact ⟨rfl, hb⟩
  · have t1 : decide (20 < (l.length : Int)) = false := decide_eq_false (by omega)
    have hn : l.length ≤ 20 := by omega
    go_enter Try.func8, Try.ntmps8
    go_wp2_with fail
    go_loop [5] (fun i => ∃ k : Nat, k ≤ l.length ∧ i = .int .i64 k) (fun i => l.length - (intOf i).toNat)
    case atStart => exact ⟨0, Nat.zero_le _, rfl⟩
    case round =>
      obtain ⟨k, hk, rfl⟩ := hrel
      by_cases hlt : k < l.length
      · obtain ⟨bb, off, E, ce, hAd, z0, z1, ht⟩ := beats_blk HR.out k hlt (HW.out _ (List.getElem_mem hlt)) (HW.out _ (List.getElem_mem _))
        subst hAd
        have t2 : decide ((k : Int) < (l.length : Int)) = true := decide_eq_true (by omega)
        have i0 : (0 : Int) ≤ (k : Int) := by omega
        have i1 : (k : Int) < (l.length : Int) := by omega
        obtain ⟨m, hm⟩ : ∃ m, l[k].2.length = m := ⟨_, rfl⟩
        rw [hm] at z1
        clear hm ht
        by_cases h30 : 30 < m
        · have t3 : decide (30 < (m : Int)) = true := decide_eq_true (by omega)
          go_wp2_with fail
          (with_reducible refine (known_ _).mono ?_)
          rintro e w9 ⟨rfl, hb⟩
          go_wp2_with fail
          go_ret
          exact ⟨rfl, hb⟩
        · have t3 : decide (30 < (m : Int)) = false := decide_eq_false (by omega)
          go_wp2_with fail
          go_round
          case rel => exact ⟨k + 1, by omega, by go_num⟩
          case measure => simp [intOf]; omega
      · obtain rfl : k = l.length := by omega
        have t2 : decide ((l.length : Int) < (l.length : Int)) = false := decide_eq_false (by omega)
        go_wp2_with fail
        (with_reducible refine (order_ HR.out hc HW.out hn).mono ?_)
        rintro e w1 ⟨v, rfl, hO, hb⟩
        obtain ⟨n, hnl⟩ : ∃ n, (ordR now l).length = n := ⟨_, rfl⟩
        have hn2 : n ≤ l.length := by rw [← hnl]; exact ordR_len
        obtain ⟨B, d, rfl, hd, hC⟩ := Kd.R_reads hO
        obtain ⟨er, her⟩ : ∃ er, firstErr now l = er := ⟨_, rfl⟩
        have HER := Lib.hid her
        have HRo := Lib.hid (rorder_ (now := now) (Kd.C_below HR.out hb) hc HW.out hn)
        rw [her]
        have HB1 := Aside0.mk hb
        have HC1 := Aside0.mk hC
        rw [hnl] at hd ⊢
        have HN := Lib.hid hnl
        clear hO hC hb hnl her
        go_wp2_with fail
        (with_reducible refine HRo.out.mono ?_)
        rintro e w2 ⟨v, rfl, hO, hb⟩
        obtain ⟨B', d', rfl, hd', hC'⟩ := Kd.R_reads hO
        rw [HER.out]
        rw [HN.out] at hd' ⊢
        have HC2 := Aside0.mk (Kd.C_below HC1.out hb)
        have HD2 := Aside0.mk hC'
        have HB2 := Aside0.mk (below_then HB1.out HB1.out.size hb)
        clear hO hC' hb HC1 HRo HER
        go_wp2_with fail
        (with_reducible refine (same_g HN.out HC2.out hd HD2.out hd' (by omega)).mono ?_)
        rintro e w3 ⟨rfl, hb⟩
        have HC3 := Aside0.mk (Kd.C_below HC2.out hb)
        have HB3 := Aside0.mk (below_then HB2.out HB2.out.size hb)
        clear hb HC2 HD2
        have hneq : (er != er) = false := by simp
        go_wp2_with fail
        go_loopw [10] (fun i w' => ∃ j : Nat, i = .int .i64 ((j + 1 : Nat) : Int) ∧ j ≤ n ∧ Aside0 (Below w3.heap.size w3 w')) (fun i _ => n + 1 - (intOf i).toNat)
        case atStart => exact ⟨0, rfl, Nat.zero_le _, ⟨Below.refl _ _⟩⟩
        case round =>
          obtain ⟨j, rfl, hj, HBr⟩ := hrel
          have HBw := Aside0.mk (below_then HB3.out HB3.out.size HBr.out)
          by_cases hlt : j + 1 < n
          · obtain ⟨x, y, hx, hy, a, b, e1, e2, s1, s2, f1, f2⟩ := side_by (now := now) (l := l) (j := j) (by rw [HN.out]; exact hlt)
            have hCr := Kd.C_below HC3.out HBr.out
            obtain ⟨g, o, rfl, hcell⟩ := Hlp.C_block hCr (by rw [HN.out]; omega)
            have c1 := hcell j (by rw [HN.out]; omega)
            have c2 := hcell (j + 1) (by rw [HN.out]; omega)
            rw [e1] at c1
            rw [e2] at c2
            have hAr := Kd.C_below HR.out HBw.out
            obtain ⟨bb, off, E, ce, hAd, z0, z1, ht⟩ := beats_blk hAr x hx (HW.out _ (List.getElem_mem hx)) (HW.out _ (List.getElem_mem _))
            subst hAd
            obtain ⟨last, hla⟩ : ∃ q, l[x].1 = q := ⟨_, rfl⟩
            obtain ⟨ts, hts⟩ : ∃ q, l[x].2 = q := ⟨_, rfl⟩
            obtain ⟨last', hla'⟩ : ∃ q, l[y].1 = q := ⟨_, rfl⟩
            obtain ⟨ts', hts'⟩ : ∃ q, l[y].2 = q := ⟨_, rfl⟩
            rw [hla] at z0 s1
            rw [hts] at z1 ht s1
            rw [hla', hts'] at s2
            obtain ⟨m, hm⟩ : ∃ m, ts.length = m := ⟨_, rfl⟩
            rw [hm] at z1
            have HM := Lib.hid hm
            have HS1 := Aside0.mk s1
            have HS2 := Aside0.mk s2
            have HE := Aside0.mk ht
            have HLa := Aside0.mk hla'
            have HTs := Aside0.mk hts'
            have x0 : (0 : Int) ≤ (x : Int) := by omega
            have x1 : (x : Int) < (l.length : Int) := by omega
            have y0 : (0 : Int) ≤ (y : Int) := by omega
            have y1 : (y : Int) < (l.length : Int) := by omega
            have j0 : (0 : Int) ≤ (j : Int) := by omega
            have j1 : (j : Int) < (n : Int) := by omega
            have j2 : (0 : Int) ≤ (j : Int) + 1 := by omega
            have j3 : (j : Int) + 1 < (n : Int) := by omega
            have t2 : decide ((j : Int) + 1 < (n : Int)) = true := decide_eq_true (by omega)
            clear hCr hAr hcell s1 s2 e1 e2 hla hts hla' hts' hm ht
            go_wp2_with fail
            (with_reducible refine (score_n HM.out HS1.out (HE.out)).mono ?_)
            rintro e w4 ⟨rfl, hb⟩
            have HB4 := Aside0.mk (below_then HBr.out HBr.out.size hb)
            replace c2 := pw_cell_below hb c2
            have HBw4 := Aside0.mk (below_then HBw.out HBw.out.size hb)
            obtain ⟨bb', off', E', ce', hAd', z0', z1', ht'⟩ := beats_blk (Kd.C_below HR.out HBw4.out) y hy (HW.out _ (List.getElem_mem hy)) (HW.out _ (List.getElem_mem _))
            injection hAd' with hAd'
            injection hAd' with hA1 hA2 hA3
            subst hA1 hA2
            clear hA3
            rw [HLa.out] at z0'
            rw [HTs.out] at z1' ht'
            obtain ⟨m', hm'⟩ : ∃ m, ts'.length = m := ⟨_, rfl⟩
            rw [hm'] at z1'
            have HM' := Lib.hid hm'
            have HE' := Aside0.mk ht'
            clear ht' hm' hb z0 z1 c1
            go_wp2_with fail
            (with_reducible refine (score_n HM'.out HS2.out (HE'.out)).mono ?_)
            rintro e w5 ⟨rfl, hb⟩
            have HB5 := Aside0.mk (below_then HB4.out HB4.out.size hb)
            clear hb c2 z0' z1'
            go_wp2_with fail
            go_roundw
            case rel => exact ⟨j + 1, by go_num, by omega, HB5⟩
            case measure => simp [intOf]; omega
          · have t2 : decide ((j : Int) + 1 < (n : Int)) = false := decide_eq_false (by omega)
            go_wp2_with fail
            (with_reducible refine (known_ _).mono ?_)
            rintro e w9 ⟨rfl, hb⟩
            have HB9 := Aside0.mk (below_then HBw.out HBw.out.size hb)
            clear hb
            go_wp2_with fail
            go_ret
            exact ⟨rfl, HB9.out⟩
end Go.Proofs.Ytlifioeeooclfaa.Rl
