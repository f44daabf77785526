/- The walk of the law BeatScores, for every time, words, and most. No condition. -/
import Derived.Test.YtlifioeeooclfaaB10
import Derived.Deep.RegionWith
namespace Go.Proofs.Ytlifioeeooclfaa.Rl
open Go.ChangeShapes Go.WideShapes Go.ChangeAt Go.RowKit Dbl
open Go.Proofs.YtlifioeeooclfaaW.PrintWords Go.Proofs.YtlifioeeooclfaaW.PrintLast Go.Proofs.YtlifioeeooclfaaW.PrintMore
set_option linter.unusedVariables false
set_option linter.unusedSimpArgs false
theorem rusual_n {A : Option Addr} {c n : Nat} {last : Int} {ts : List Nat} {w : World} {u : Nat} {k : Int} (hn : ts.length = n) (hp : usualR last ts = (u, k)) (h : Bt w A c ts) : Calls Try.prog 19 #[.agg #[.int .i64 last, .slice A n c]] w fun e w' => e = .returned (.tuple #[.float .f64 u, .int .i64 k]) ∧ Below w.heap.size w w' := by
  subst hn; exact rusual_p hp h
theorem rscore_n {A : Option Addr} {c n : Nat} {last : Int} {ts : List Nat} {now : Int} {w : World} {u : Nat} {k : Int} (hn : ts.length = n) (hp : scoreR last ts now = (u, k)) (h : Bt w A c ts) : Calls Try.prog 20 #[.agg #[.int .i64 last, .slice A n c], .int .i64 now] w fun e w' => e = .returned (.tuple #[.float .f64 u, .int .i64 k]) ∧ Below w.heap.size w w' := by
  subst hn; exact rscore_p hp h
theorem suspect_n {A : Option Addr} {c n : Nat} {last : Int} {ts : List Nat} {now : Int} {most : Nat} {w : World} {b : Bool} {k : Int} (hn : ts.length = n) (hp : suspR last ts now most = (b, k)) (hm : most < full) (h : Bt w A c ts) : Calls Try.prog 21 #[.agg #[.int .i64 last, .slice A n c], .int .i64 now, .float .f64 most] w fun e w' => e = .returned (.tuple #[.bool b, .int .i64 k]) ∧ Below w.heap.size w w' := by
  subst hn; exact suspect_p hp hm h
theorem check_n {A : Option Addr} {c n : Nat} {last : Int} {ts : List Nat} {w : World} (hn : ts.length = n) (h : Bt w A c ts) : Calls Try.prog 18 #[.agg #[.int .i64 last, .slice A n c]] w fun e w' => e = .returned (.int .i64 (errB last ts)) ∧ Below w.heap.size w w' := by
  subst hn; exact check_ A c last ts w h.r h.c h.l h.w
theorem rcheck_n {A : Option Addr} {c n : Nat} {last : Int} {ts : List Nat} {w : World} (hn : ts.length = n) (h : Bt w A c ts) : Calls Try.prog 24 #[.agg #[.int .i64 last, .slice A n c]] w fun e w' => e = .returned (.int .i64 (errB last ts)) ∧ Below w.heap.size w w' := by
  subst hn; exact rcheck_ A c last ts w h.r h.c h.l h.w
theorem of_n {A : Option Addr} {c : Nat} {last : Int} {l : List Int} {w : World} (hr : Kd.C (Kd.int .u64) w A l.length l) (hc : l.length ≤ c) (hl : l.length ≤ 17592186044400) (hw : ∀ x ∈ l, Wd x) :
    Calls Try.prog 14 #[.int .i64 last, .slice A l.length c] w fun e w' => ∃ B d, e = .returned (.agg #[.int .i64 last, .slice B l.length d]) ∧ Bt w' B d (l.map Int.toNat) ∧ Below w.heap.size w w' := by
  refine (of_beats A c last l w hr hc (by omega)).mono ?_
  rintro e w' ⟨v, rfl, ho, hb⟩
  obtain ⟨B, d, rfl⟩ := R_slice_n (n := l.length) ho (by rw [List.length_map])
  obtain ⟨_, h2, h3⟩ := Kd.R_reads' ho
  refine ⟨B, d, rfl, ⟨h3, ?_, ?_, ?_⟩, hb⟩
  · rw [List.length_map] at *; exact h2
  · rw [List.length_map]; omega
  · intro x hx
    obtain ⟨y, hy, rfl⟩ := List.mem_map.1 hx
    exact (hw y hy).nat
theorem wds {l : List Int} (h : ∀ x ∈ l, (Lit.int .u64 x).wf = true) : ∀ x ∈ l, Wd x := fun x hx => wd_of_wf (h x hx)
set_option maxHeartbeats 16000000 in
set_option maxRecDepth 100000 in
theorem beatScores (w : World) (last : Int) (wl : (Lit.int .i64 last).wf = true) (A : Option Addr) (c : Nat) (l : List Int) (hr : Kd.C (Kd.int .u64) w A l.length l) (hc : l.length ≤ c) (wf : l.length ≤ maxLen ∧ l.length * 8 ≤ 140737488351232 ∧ ∀ x ∈ l, (Lit.int .u64 x).wf = true) (now : Int) (wn : (Lit.int .i64 now).wf = true) (most : Int) (wm : (Lit.int .u64 most).wf = true) :
    Calls Try.prog 5 #[.int .i64 last, .slice A l.length c, .int .i64 now, .int .u64 most] w fun e w' => e = .returned (.bool true) ∧ Below w.heap.size w w' := by
  have HW := Aside0.mk (wds wf.2.2)
  have HR := Aside0.mk hr
  have hmf := (wd_of_wf wm).nat
  have hmw := wd_of_wf wm
  have hA : ∀ w : World, (callFunc 22 #[.int .u64 most]).run Try.prog w = .ok (.value (.float .f64 most.toNat)) w := c12 most
  have h13 := c13
  clear wl wf wn wm hr
  by_cases h30 : 30 < l.length
  · have t1 : decide ((30 : Int) < (l.length : Int)) = true := decide_eq_true (by omega)
    go_enter Try.func5, Try.ntmps5
    go_wp2_with fail
    (with_reducible refine (known_ _).mono ?_)
    rintro e w' ⟨rfl, hb⟩
    go_wp2_with fail
    go_ret
    exact ⟨rfl, hb⟩
  have t1 : decide ((30 : Int) < (l.length : Int)) = false := decide_eq_false (by omega)
  have hl : l.length ≤ 17592186044400 := by omega
  have HL := Lib.hid (show (l.map Int.toNat).length = l.length from List.length_map ..)
  obtain ⟨⟨u, ku⟩, hu⟩ : ∃ p, usualR last (l.map Int.toNat) = p := ⟨_, rfl⟩
  obtain ⟨⟨s, ks⟩, hs⟩ : ∃ p, scoreR last (l.map Int.toNat) now = p := ⟨_, rfl⟩
  obtain ⟨⟨b, kb⟩, hp⟩ : ∃ p, suspR last (l.map Int.toNat) now most.toNat = p := ⟨_, rfl⟩
  have HU := Aside0.mk hu
  have HS := Aside0.mk hs
  have HP := Aside0.mk hp
  have HMf := Aside0.mk hmf
  by_cases ho : okN last (l.map Int.toNat) now
  · obtain ⟨s', hs', hsi⟩ := score_low ho
    obtain ⟨rfl, rfl⟩ := Prod.mk.inj (hs.symm.trans hs')
    have sf := (low_word hsi).2.2
    obtain ⟨v, hv⟩ : ∃ v, kindU most.toNat = v := ⟨_, rfl⟩
    have K0 := Lib.hid (fun w => kind most hmw w)
    rw [hv] at K0
    have CM := Lib.hid (fun w => rcompare (s : Int) most (wd_nat sf) hmw w)
    rw [Int.toNat_natCast] at CM
    by_cases hn : inf < rung most.toNat
    · obtain ⟨rfl, rfl⟩ := Prod.mk.inj (hp.symm.trans (susp_nan ho hn))
      obtain rfl : v = 3 := hv.symm.trans (kind_nan.2 hn)
      clear hs hp hu ho hmf hs' hsi sf hv hn hmw
      go_enter Try.func5, Try.ntmps5
      go_wp2_with fail
      (with_reducible refine (of_n HR.out hc hl HW.out).mono ?_)
      rintro e w1 ⟨B, d, rfl, ht, hb⟩
      have HT := Aside0.mk (ht.alloc (.cells #[.int .i64 last, .slice B l.length d] 25))
      have HB := Aside0.mk (below_alloc hb (.cells #[.int .i64 last, .slice B l.length d] 25))
      have hg := blk_new w1 (.cells #[.int .i64 last, .slice B l.length d] 25)
      have g0 := (blk_cell hg 0).trans (show _ = some (Value.int .i64 last) from rfl)
      have g1 := (blk_cell hg 1).trans (show _ = some (Value.slice B l.length d) from rfl)
      clear ht hb hg
      go_wp2_with fail
      (with_reducible refine (usual_n HL.out HU.out HT.out).mono ?_)
      rintro e w2 ⟨rfl, hb⟩
      have HT := Aside0.mk (HT.out.below hb)
      have HB := Aside0.mk (below_then HB.out HB.out.size hb)
      replace g0 := pw_cell_below hb g0
      replace g1 := pw_cell_below hb g1
      clear hb
      go_wp2_with fail
      (with_reducible refine (rusual_n HL.out HU.out HT.out).mono ?_)
      rintro e w3 ⟨rfl, hb⟩
      have HT := Aside0.mk (HT.out.below hb)
      have HB := Aside0.mk (below_then HB.out HB.out.size hb)
      replace g0 := pw_cell_below hb g0
      replace g1 := pw_cell_below hb g1
      clear hb
      go_wp2_with fail
      (with_reducible refine (score_n HL.out HS.out HT.out).mono ?_)
      rintro e w4 ⟨rfl, hb⟩
      have HT := Aside0.mk (HT.out.below hb)
      have HB := Aside0.mk (below_then HB.out HB.out.size hb)
      replace g0 := pw_cell_below hb g0
      replace g1 := pw_cell_below hb g1
      clear hb
      go_wp2_with fail
      (with_reducible refine (rscore_n HL.out HS.out HT.out).mono ?_)
      rintro e w5 ⟨rfl, hb⟩
      have HT := Aside0.mk (HT.out.below hb)
      have HB := Aside0.mk (below_then HB.out HB.out.size hb)
      replace g0 := pw_cell_below hb g0
      replace g1 := pw_cell_below hb g1
      clear hb
      go_wp2_with fail
      go_region_with (go_at_call 21; (with_reducible refine (suspect_n HL.out HP.out HMf.out (w := w5.drew) HT.out.drew).mono ?_); rintro e w6 ⟨rfl, hb⟩; have HT6 := Aside0.mk (HT.out.drew.below hb); have HB6 := Aside0.mk (below_then (below_drew HB.out) (below_drew HB.out).size hb); have p0 := pw_cell_below (w := w5.drew) hb g0; have p1 := pw_cell_below (w := w5.drew) hb g1; clear hb)
      all_goals
        go_wp2_with fail
        go_region_held3 (fun W => W.cell? ⟨w1.heap.size, 0, none⟩ = some (.int .i64 last) ∧ W.cell? ⟨w1.heap.size, 1, none⟩ = some (.slice B l.length d)) (first | go_keep | exact ⟨pw_cell_below (w := w6.drew) hb p0, pw_cell_below (w := w6.drew) hb p1⟩ | exact ⟨pw_cell_below (w := w7) hb q0, pw_cell_below (w := w7) hb q1⟩) (first | (go_at_call 18; (with_reducible refine (check_n HL.out (w := w6.drew) HT6.out.drew).mono ?_); rintro e w7 ⟨rfl, hb⟩; have HT7 := Aside0.mk (HT6.out.drew.below hb); have HB7 := Aside0.mk (below_then (below_drew HB6.out) (below_drew HB6.out).size hb); have q0 := pw_cell_below (w := w6.drew) hb p0; have q1 := pw_cell_below (w := w6.drew) hb p1) | (go_at_call 24; (with_reducible refine (rcheck_n HL.out HT7.out).mono ?_); rintro e w8 ⟨rfl, hb⟩; have HB8 := Aside0.mk (below_then HB7.out HB7.out.size hb)))
        all_goals
          go_wp2_with (first | (go_at_call 25; (with_reducible refine (K0.out _).mono ?_); rintro e w' ⟨rfl, rfl⟩) | (go_at_call 26; (with_reducible refine (CM.out _).mono ?_); rintro e w' ⟨rfl, rfl⟩) | (go_at_call 13; (with_reducible refine (known_ _).mono ?_); rintro e w9 ⟨rfl, hb9⟩))
          go_ret
          exact ⟨rfl, below_then HB8.out HB8.out.size hb9⟩
    · obtain ⟨rfl, rfl⟩ := Prod.mk.inj (hp.symm.trans (susp_yes ho hn hs))
      have t3 : (v == 3) = false := beq_eq_false_iff_ne.2 (fun e => hn (kind_nan.1 (hv.trans e)))
      obtain ⟨x, hx⟩ : ∃ x, cmpU s most.toNat = x := ⟨_, rfl⟩
      rw [hx] at CM HP
      clear hs hp hu ho hmf hs' hsi sf hv hn hmw hx
      go_enter Try.func5, Try.ntmps5
      go_wp2_with fail
      (with_reducible refine (of_n HR.out hc hl HW.out).mono ?_)
      rintro e w1 ⟨B, d, rfl, ht, hb⟩
      have HT := Aside0.mk (ht.alloc (.cells #[.int .i64 last, .slice B l.length d] 25))
      have HB := Aside0.mk (below_alloc hb (.cells #[.int .i64 last, .slice B l.length d] 25))
      have hg := blk_new w1 (.cells #[.int .i64 last, .slice B l.length d] 25)
      have g0 := (blk_cell hg 0).trans (show _ = some (Value.int .i64 last) from rfl)
      have g1 := (blk_cell hg 1).trans (show _ = some (Value.slice B l.length d) from rfl)
      clear ht hb hg
      go_wp2_with fail
      (with_reducible refine (usual_n HL.out HU.out HT.out).mono ?_)
      rintro e w2 ⟨rfl, hb⟩
      have HT := Aside0.mk (HT.out.below hb)
      have HB := Aside0.mk (below_then HB.out HB.out.size hb)
      replace g0 := pw_cell_below hb g0
      replace g1 := pw_cell_below hb g1
      clear hb
      go_wp2_with fail
      (with_reducible refine (rusual_n HL.out HU.out HT.out).mono ?_)
      rintro e w3 ⟨rfl, hb⟩
      have HT := Aside0.mk (HT.out.below hb)
      have HB := Aside0.mk (below_then HB.out HB.out.size hb)
      replace g0 := pw_cell_below hb g0
      replace g1 := pw_cell_below hb g1
      clear hb
      go_wp2_with fail
      (with_reducible refine (score_n HL.out HS.out HT.out).mono ?_)
      rintro e w4 ⟨rfl, hb⟩
      have HT := Aside0.mk (HT.out.below hb)
      have HB := Aside0.mk (below_then HB.out HB.out.size hb)
      replace g0 := pw_cell_below hb g0
      replace g1 := pw_cell_below hb g1
      clear hb
      go_wp2_with fail
      (with_reducible refine (rscore_n HL.out HS.out HT.out).mono ?_)
      rintro e w5 ⟨rfl, hb⟩
      have HT := Aside0.mk (HT.out.below hb)
      have HB := Aside0.mk (below_then HB.out HB.out.size hb)
      replace g0 := pw_cell_below hb g0
      replace g1 := pw_cell_below hb g1
      clear hb
      go_wp2_with fail
      go_region_with (go_at_call 21; (with_reducible refine (suspect_n HL.out HP.out HMf.out (w := w5.drew) HT.out.drew).mono ?_); rintro e w6 ⟨rfl, hb⟩; have HT6 := Aside0.mk (HT.out.drew.below hb); have HB6 := Aside0.mk (below_then (below_drew HB.out) (below_drew HB.out).size hb); have p0 := pw_cell_below (w := w5.drew) hb g0; have p1 := pw_cell_below (w := w5.drew) hb g1; clear hb)
      all_goals
        go_wp2_with fail
        go_region_held3 (fun W => W.cell? ⟨w1.heap.size, 0, none⟩ = some (.int .i64 last) ∧ W.cell? ⟨w1.heap.size, 1, none⟩ = some (.slice B l.length d)) (first | go_keep | exact ⟨pw_cell_below (w := w6.drew) hb p0, pw_cell_below (w := w6.drew) hb p1⟩ | exact ⟨pw_cell_below (w := w7) hb q0, pw_cell_below (w := w7) hb q1⟩) (first | (go_at_call 18; (with_reducible refine (check_n HL.out (w := w6.drew) HT6.out.drew).mono ?_); rintro e w7 ⟨rfl, hb⟩; have HT7 := Aside0.mk (HT6.out.drew.below hb); have HB7 := Aside0.mk (below_then (below_drew HB6.out) (below_drew HB6.out).size hb); have q0 := pw_cell_below (w := w6.drew) hb p0; have q1 := pw_cell_below (w := w6.drew) hb p1) | (go_at_call 24; (with_reducible refine (rcheck_n HL.out HT7.out).mono ?_); rintro e w8 ⟨rfl, hb⟩; have HB8 := Aside0.mk (below_then HB7.out HB7.out.size hb)))
        all_goals
          go_wp2_with (first | (go_at_call 25; (with_reducible refine (K0.out _).mono ?_); rintro e w' ⟨rfl, rfl⟩) | (go_at_call 26; (with_reducible refine (CM.out _).mono ?_); rintro e w' ⟨rfl, rfl⟩) | (go_at_call 13; (with_reducible refine (known_ _).mono ?_); rintro e w9 ⟨rfl, hb9⟩))
          go_ret
          exact ⟨rfl, below_then HB8.out HB8.out.size hb9⟩
  · obtain ⟨rfl, rfl⟩ := Prod.mk.inj (hs.symm.trans (score_no ho))
    obtain ⟨rfl, rfl⟩ := Prod.mk.inj (hp.symm.trans (susp_no ho))
    clear hs hp hu ho hmf
    go_enter Try.func5, Try.ntmps5
    go_wp2_with fail
    (with_reducible refine (of_n HR.out hc hl HW.out).mono ?_)
    rintro e w1 ⟨B, d, rfl, ht, hb⟩
    have HT := Aside0.mk (ht.alloc (.cells #[.int .i64 last, .slice B l.length d] 25))
    have HB := Aside0.mk (below_alloc hb (.cells #[.int .i64 last, .slice B l.length d] 25))
    have hg := blk_new w1 (.cells #[.int .i64 last, .slice B l.length d] 25)
    have g0 := (blk_cell hg 0).trans (show _ = some (Value.int .i64 last) from rfl)
    have g1 := (blk_cell hg 1).trans (show _ = some (Value.slice B l.length d) from rfl)
    clear ht hb hg
    go_wp2_with fail
    (with_reducible refine (usual_n HL.out HU.out HT.out).mono ?_)
    rintro e w2 ⟨rfl, hb⟩
    have HT := Aside0.mk (HT.out.below hb)
    have HB := Aside0.mk (below_then HB.out HB.out.size hb)
    replace g0 := pw_cell_below hb g0
    replace g1 := pw_cell_below hb g1
    clear hb
    go_wp2_with fail
    (with_reducible refine (rusual_n HL.out HU.out HT.out).mono ?_)
    rintro e w3 ⟨rfl, hb⟩
    have HT := Aside0.mk (HT.out.below hb)
    have HB := Aside0.mk (below_then HB.out HB.out.size hb)
    replace g0 := pw_cell_below hb g0
    replace g1 := pw_cell_below hb g1
    clear hb
    go_wp2_with fail
    (with_reducible refine (score_n HL.out HS.out HT.out).mono ?_)
    rintro e w4 ⟨rfl, hb⟩
    have HT := Aside0.mk (HT.out.below hb)
    have HB := Aside0.mk (below_then HB.out HB.out.size hb)
    replace g0 := pw_cell_below hb g0
    replace g1 := pw_cell_below hb g1
    clear hb
    go_wp2_with fail
    (with_reducible refine (rscore_n HL.out HS.out HT.out).mono ?_)
    rintro e w5 ⟨rfl, hb⟩
    have HT := Aside0.mk (HT.out.below hb)
    have HB := Aside0.mk (below_then HB.out HB.out.size hb)
    replace g0 := pw_cell_below hb g0
    replace g1 := pw_cell_below hb g1
    clear hb
    go_wp2_with fail
    go_region_with (go_at_call 21; (with_reducible refine (suspect_n HL.out HP.out HMf.out (w := w5.drew) HT.out.drew).mono ?_); rintro e w6 ⟨rfl, hb⟩; have HT6 := Aside0.mk (HT.out.drew.below hb); have HB6 := Aside0.mk (below_then (below_drew HB.out) (below_drew HB.out).size hb); have p0 := pw_cell_below (w := w5.drew) hb g0; have p1 := pw_cell_below (w := w5.drew) hb g1; clear hb)
    all_goals
      go_wp2_with fail
      go_region_held3 (fun W => W.cell? ⟨w1.heap.size, 0, none⟩ = some (.int .i64 last) ∧ W.cell? ⟨w1.heap.size, 1, none⟩ = some (.slice B l.length d)) (first | go_keep | exact ⟨pw_cell_below (w := w6.drew) hb p0, pw_cell_below (w := w6.drew) hb p1⟩ | exact ⟨pw_cell_below (w := w7) hb q0, pw_cell_below (w := w7) hb q1⟩) (first | (go_at_call 18; (with_reducible refine (check_n HL.out (w := w6.drew) HT6.out.drew).mono ?_); rintro e w7 ⟨rfl, hb⟩; have HT7 := Aside0.mk (HT6.out.drew.below hb); have HB7 := Aside0.mk (below_then (below_drew HB6.out) (below_drew HB6.out).size hb); have q0 := pw_cell_below (w := w6.drew) hb p0; have q1 := pw_cell_below (w := w6.drew) hb p1) | (go_at_call 24; (with_reducible refine (rcheck_n HL.out HT7.out).mono ?_); rintro e w8 ⟨rfl, hb⟩; have HB8 := Aside0.mk (below_then HB7.out HB7.out.size hb)))
      all_goals
        go_wp2_with (first | (go_at_call 25; (with_reducible refine (K0.out _).mono ?_); rintro e w' ⟨rfl, rfl⟩) | (go_at_call 26; (with_reducible refine (CM.out _).mono ?_); rintro e w' ⟨rfl, rfl⟩) | (go_at_call 13; (with_reducible refine (known_ _).mono ?_); rintro e w9 ⟨rfl, hb9⟩))
        go_ret
        exact ⟨rfl, below_then HB8.out HB8.out.size hb9⟩
end Go.Proofs.Ytlifioeeooclfaa.Rl
