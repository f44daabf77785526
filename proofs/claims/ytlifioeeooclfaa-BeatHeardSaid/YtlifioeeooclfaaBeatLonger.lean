/- The walk of the law BeatLonger, for every time, row of words, two waits, and most. No condition. -/
import Derived.Test.YtlifioeeooclfaaB11
namespace Go.Proofs.Ytlifioeeooclfaa.Rl
open Go.ChangeShapes Go.WideShapes Go.ChangeAt Go.RowKit Dbl
open Go.Proofs.YtlifioeeooclfaaW.PrintWords Go.Proofs.YtlifioeeooclfaaW.PrintLast Go.Proofs.YtlifioeeooclfaaW.PrintMore
set_option linter.unusedVariables false
set_option linter.unusedSimpArgs false
theorem rcheck_r {A : Option Addr} {c n : Nat} {last r : Int} {ts : List Nat} {w : World} (hn : ts.length = n) (hr : errB last ts = r) (h : Bt w A c ts) : Calls Try.prog 24 #[.agg #[.int .i64 last, .slice A n c]] w fun e w' => e = .returned (.int .i64 r) ∧ Below w.heap.size w w' := by
  subst hr; exact rcheck_n hn h
theorem wf_u32 {a : Int} (h : (Lit.int .u32 a).wf = true) : 0 ≤ a ∧ a < 4294967296 := by
  simp [Lit.wf, IntKind.max, IntKind.min, IntKind.bits, IntKind.signed] at h
  omega
theorem wf_i64 {a : Int} (h : (Lit.int .i64 a).wf = true) : -9223372036854775808 ≤ a ∧ a ≤ 9223372036854775807 := by
  simp [Lit.wf, IntKind.max, IntKind.min, IntKind.bits, IntKind.signed] at h
  omega
set_option maxHeartbeats 16000000 in
set_option maxRecDepth 100000 in
theorem beatLonger (w : World) (last : Int) (wl : (Lit.int .i64 last).wf = true) (A : Option Addr) (c : Nat) (l : List Int) (hr : Kd.C (Kd.int .u64) w A l.length l) (hc : l.length ≤ c) (wf : l.length ≤ maxLen ∧ l.length * 8 ≤ 140737488351232 ∧ ∀ x ∈ l, (Lit.int .u64 x).wf = true)
    (a : Int) (wa : (Lit.int .u32 a).wf = true) (b : Int) (wb : (Lit.int .u32 b).wf = true) (most : Int) (wm : (Lit.int .u64 most).wf = true) :
    Calls Try.prog 6 #[.int .i64 last, .slice A l.length c, .int .u32 a, .int .u32 b, .int .u64 most] w fun e w' => e = .returned (.bool true) ∧ Below w.heap.size w w' := by
  have HW := Aside0.mk (wds wf.2.2)
  have HR := Aside0.mk hr
  have h13 := c13
  have hmf := (wd_of_wf wm).nat
  have hA : ∀ w : World, (callFunc 22 #[.int .u64 most]).run Try.prog w = .ok (.value (.float .f64 most.toNat)) w := c12 most
  obtain ⟨a0, a1⟩ := wf_u32 wa
  obtain ⟨b0, b1⟩ := wf_u32 wb
  clear wa wf wb wm wl hr
  by_cases h30 : 30 < l.length
  · have t1 : decide ((30 : Int) < (l.length : Int)) = true := decide_eq_true (by omega)
    go_enter Try.func6, Try.ntmps6
    go_wp2_with fail
    (with_reducible refine (known_ _).mono ?_)
    rintro e w' ⟨rfl, hb⟩
    go_wp2_with fail
    go_ret
    exact ⟨rfl, hb⟩
  have t1 : decide ((30 : Int) < (l.length : Int)) = false := decide_eq_false (by omega)
  have hl : l.length ≤ 17592186044400 := by omega
  have HL := Lib.hid (show (l.map Int.toNat).length = l.length from List.length_map ..)
  have HMf := Aside0.mk hmf
  rcases errB_cases last (l.map Int.toNat) with ⟨ho, he⟩ | ⟨ho, he⟩
  · have HE := Aside0.mk he
    have l0 := ho.1
    have l1 := ho.2.1
    by_cases hs : 1099511627775 < last + a + b
    · have t2 := decide_eq_true hs
      clear ho he hmf hs
      go_enter Try.func6, Try.ntmps6
      go_wp2_with fail
      (with_reducible refine (of_n HR.out hc hl HW.out).mono ?_)
      rintro e w1 ⟨B, d, rfl, ht, hb⟩
      have HT := Aside0.mk (ht.alloc (.cells #[.int .i64 last, .slice B l.length d] 25))
      have HB := Aside0.mk (below_alloc hb (.cells #[.int .i64 last, .slice B l.length d] 25))
      have hg := blk_new w1 (.cells #[.int .i64 last, .slice B l.length d] 25)
      have g0 := (blk_cell hg 0).trans (show _ = some (Value.int .i64 last) from rfl)
      have g1 := (blk_cell hg 1).trans (show _ = some (Value.slice B l.length d) from rfl)
      clear ht hb hg
      go_wp2_with fail
      (with_reducible refine (rcheck_r HL.out HE.out HT.out).mono ?_)
      rintro e w2 ⟨rfl, hb⟩
      have HT := Aside0.mk (HT.out.below hb)
      have HB := Aside0.mk (below_then HB.out HB.out.size hb)
      replace g0 := pw_cell_below hb g0
      replace g1 := pw_cell_below hb g1
      clear hb
      go_wp2_with fail
      (with_reducible refine (known_ _).mono ?_)
      rintro e w9 ⟨rfl, hb⟩
      have HB := Aside0.mk (below_then HB.out HB.out.size hb)
      clear hb
      go_wp2_with fail
      go_ret
      exact ⟨rfl, HB.out⟩
    · have t2 : decide (1099511627775 < last + a + b) = false := decide_eq_false hs
      have o2 : okN last (l.map Int.toNat) (last + a + b) := ⟨ho, by omega, by omega⟩
      have o1 : okN last (l.map Int.toNat) (last + a) := ⟨ho, by omega, by omega⟩
      have o0 : okN last (l.map Int.toNat) last := ⟨ho, by omega, by omega⟩
      obtain ⟨s, hs1, hsi⟩ := score_low o1
      obtain ⟨t, hs2, hti⟩ := score_low o2
      have hst : s ≤ t := by
        have := score_mono (n := last + a) o2 (by omega) (by omega)
        rw [hs1, hs2] at this; exact this
      have HS1 := Aside0.mk hs1
      have HS2 := Aside0.mk hs2
      have HS0 := Aside0.mk (score_same o0 rfl)
      have x1 := not_less hst hti
      have x2 := not_nan hsi
      have x3 := not_nan hti
      obtain ⟨⟨p, kp⟩, hp⟩ : ∃ p, suspR last (l.map Int.toNat) (last + a) most.toNat = p := ⟨_, rfl⟩
      obtain ⟨⟨q, kq⟩, hq⟩ : ∃ p, suspR last (l.map Int.toNat) (last + a + b) most.toNat = p := ⟨_, rfl⟩
      have hpq : kp = kq ∧ (p = true → q = true) := by
        by_cases hn : inf < rung most.toNat
        · obtain ⟨rfl, rfl⟩ := Prod.mk.inj (hp.symm.trans (susp_nan o1 hn))
          obtain ⟨rfl, rfl⟩ := Prod.mk.inj (hq.symm.trans (susp_nan o2 hn))
          exact ⟨rfl, fun h => h⟩
        · obtain ⟨rfl, rfl⟩ := Prod.mk.inj (hp.symm.trans (susp_yes o1 hn hs1))
          obtain ⟨rfl, rfl⟩ := Prod.mk.inj (hq.symm.trans (susp_yes o2 hn hs2))
          exact ⟨rfl, fun h => decide_eq_true (susp_mono hst hti (of_decide_eq_true h))⟩
      obtain ⟨rfl, hpq⟩ := hpq
      have HP1 := Aside0.mk hp
      have HP2 := Aside0.mk hq
      clear ho he hmf hs o2 o1 o0 hs1 hsi hs2 hti hst hp hq
      cases p with
      | false =>
        clear hpq
        go_enter Try.func6, Try.ntmps6
        go_wp2_with fail
        (with_reducible refine (of_n HR.out hc hl HW.out).mono ?_)
        rintro e w1 ⟨B, d, rfl, ht, hb⟩
        have HT := Aside0.mk (ht.alloc (.cells #[.int .i64 last, .slice B l.length d] 25))
        have HB := Aside0.mk (below_alloc hb (.cells #[.int .i64 last, .slice B l.length d] 25))
        have hg := blk_new w1 (.cells #[.int .i64 last, .slice B l.length d] 25)
        have g0 := (blk_cell hg 0).trans (show _ = some (Value.int .i64 last) from rfl)
        have g1 := (blk_cell hg 1).trans (show _ = some (Value.slice B l.length d) from rfl)
        clear ht hb hg
        go_wp2_with fail
        (with_reducible refine (rcheck_r HL.out HE.out HT.out).mono ?_)
        rintro e w2 ⟨rfl, hb⟩
        have HT := Aside0.mk (HT.out.below hb)
        have HB := Aside0.mk (below_then HB.out HB.out.size hb)
        replace g0 := pw_cell_below hb g0
        replace g1 := pw_cell_below hb g1
        clear hb
        go_wp2_with fail
        (with_reducible refine (score_n HL.out HS1.out HT.out).mono ?_)
        rintro e w3 ⟨rfl, hb⟩
        have HT := Aside0.mk (HT.out.below hb)
        have HB := Aside0.mk (below_then HB.out HB.out.size hb)
        replace g0 := pw_cell_below hb g0
        replace g1 := pw_cell_below hb g1
        clear hb
        go_wp2_with fail
        (with_reducible refine (score_n HL.out HS2.out HT.out).mono ?_)
        rintro e w4 ⟨rfl, hb⟩
        have HT := Aside0.mk (HT.out.below hb)
        have HB := Aside0.mk (below_then HB.out HB.out.size hb)
        replace g0 := pw_cell_below hb g0
        replace g1 := pw_cell_below hb g1
        clear hb
        go_wp2_with fail
        (with_reducible refine (score_n HL.out HS0.out HT.out).mono ?_)
        rintro e w5 ⟨rfl, hb⟩
        have HT := Aside0.mk (HT.out.below hb)
        have HB := Aside0.mk (below_then HB.out HB.out.size hb)
        replace g0 := pw_cell_below hb g0
        replace g1 := pw_cell_below hb g1
        clear hb
        go_wp2_with fail
        have e1 : IntKind.i64.wrap a = a := by rw [IntKind.wrap_i64]; omega
        have e2 : IntKind.i64.wrap b = b := by rw [IntKind.wrap_i64]; omega
        have e3 : IntKind.i64.wrap (last + a) = last + a := by rw [IntKind.wrap_i64]; omega
        have e4 : IntKind.i64.wrap (last + a + b) = last + a + b := by rw [IntKind.wrap_i64]; omega
        go_region_held3 (fun W => W.cell? ⟨w1.heap.size, 0, none⟩ = some (.int .i64 last) ∧ W.cell? ⟨w1.heap.size, 1, none⟩ = some (.slice B l.length d)) (first | go_keep | exact ⟨pw_cell_below (w := w5.drew) hb g0, pw_cell_below (w := w5.drew) hb g1⟩) (first | (go_at_call 21; (with_reducible refine (suspect_n HL.out HP1.out HMf.out (w := w5.drew) HT.out.drew).mono ?_); rintro e w6 ⟨rfl, hb⟩; have HT6 := Aside0.mk (HT.out.drew.below hb); have HB6 := Aside0.mk (below_then (below_drew HB.out) (below_drew HB.out).size hb); have p0 := pw_cell_below (w := w5.drew) hb g0; have p1 := pw_cell_below (w := w5.drew) hb g1))
        go_wp2_with fail
        go_region_held3 (fun W => W.cell? ⟨w1.heap.size, 0, none⟩ = some (.int .i64 last) ∧ W.cell? ⟨w1.heap.size, 1, none⟩ = some (.slice B l.length d)) (first | go_keep | exact ⟨pw_cell_below (w := w6.drew) hb p0, pw_cell_below (w := w6.drew) hb p1⟩) (first | (go_at_call 21; (with_reducible refine (suspect_n HL.out HP2.out HMf.out (w := w6.drew) HT6.out.drew).mono ?_); rintro e w7 ⟨rfl, hb⟩; have HB7 := Aside0.mk (below_then (below_drew HB6.out) (below_drew HB6.out).size hb)))
        clear e1 e2 e3 e4
        go_wp2_with fail
        (with_reducible refine (known_ _).mono ?_)
        rintro e w8 ⟨rfl, hb⟩
        have HB8 := Aside0.mk (below_then HB7.out HB7.out.size hb)
        clear hb
        go_wp2_with fail
        go_ret
        exact ⟨rfl, HB8.out⟩
      | true =>
        obtain rfl := hpq rfl
        clear hpq
        go_enter Try.func6, Try.ntmps6
        go_wp2_with fail
        (with_reducible refine (of_n HR.out hc hl HW.out).mono ?_)
        rintro e w1 ⟨B, d, rfl, ht, hb⟩
        have HT := Aside0.mk (ht.alloc (.cells #[.int .i64 last, .slice B l.length d] 25))
        have HB := Aside0.mk (below_alloc hb (.cells #[.int .i64 last, .slice B l.length d] 25))
        have hg := blk_new w1 (.cells #[.int .i64 last, .slice B l.length d] 25)
        have g0 := (blk_cell hg 0).trans (show _ = some (Value.int .i64 last) from rfl)
        have g1 := (blk_cell hg 1).trans (show _ = some (Value.slice B l.length d) from rfl)
        clear ht hb hg
        go_wp2_with fail
        (with_reducible refine (rcheck_r HL.out HE.out HT.out).mono ?_)
        rintro e w2 ⟨rfl, hb⟩
        have HT := Aside0.mk (HT.out.below hb)
        have HB := Aside0.mk (below_then HB.out HB.out.size hb)
        replace g0 := pw_cell_below hb g0
        replace g1 := pw_cell_below hb g1
        clear hb
        go_wp2_with fail
        (with_reducible refine (score_n HL.out HS1.out HT.out).mono ?_)
        rintro e w3 ⟨rfl, hb⟩
        have HT := Aside0.mk (HT.out.below hb)
        have HB := Aside0.mk (below_then HB.out HB.out.size hb)
        replace g0 := pw_cell_below hb g0
        replace g1 := pw_cell_below hb g1
        clear hb
        go_wp2_with fail
        (with_reducible refine (score_n HL.out HS2.out HT.out).mono ?_)
        rintro e w4 ⟨rfl, hb⟩
        have HT := Aside0.mk (HT.out.below hb)
        have HB := Aside0.mk (below_then HB.out HB.out.size hb)
        replace g0 := pw_cell_below hb g0
        replace g1 := pw_cell_below hb g1
        clear hb
        go_wp2_with fail
        (with_reducible refine (score_n HL.out HS0.out HT.out).mono ?_)
        rintro e w5 ⟨rfl, hb⟩
        have HT := Aside0.mk (HT.out.below hb)
        have HB := Aside0.mk (below_then HB.out HB.out.size hb)
        replace g0 := pw_cell_below hb g0
        replace g1 := pw_cell_below hb g1
        clear hb
        go_wp2_with fail
        have e1 : IntKind.i64.wrap a = a := by rw [IntKind.wrap_i64]; omega
        have e2 : IntKind.i64.wrap b = b := by rw [IntKind.wrap_i64]; omega
        have e3 : IntKind.i64.wrap (last + a) = last + a := by rw [IntKind.wrap_i64]; omega
        have e4 : IntKind.i64.wrap (last + a + b) = last + a + b := by rw [IntKind.wrap_i64]; omega
        go_region_held3 (fun W => W.cell? ⟨w1.heap.size, 0, none⟩ = some (.int .i64 last) ∧ W.cell? ⟨w1.heap.size, 1, none⟩ = some (.slice B l.length d)) (first | go_keep | exact ⟨pw_cell_below (w := w5.drew) hb g0, pw_cell_below (w := w5.drew) hb g1⟩) (first | (go_at_call 21; (with_reducible refine (suspect_n HL.out HP1.out HMf.out (w := w5.drew) HT.out.drew).mono ?_); rintro e w6 ⟨rfl, hb⟩; have HT6 := Aside0.mk (HT.out.drew.below hb); have HB6 := Aside0.mk (below_then (below_drew HB.out) (below_drew HB.out).size hb); have p0 := pw_cell_below (w := w5.drew) hb g0; have p1 := pw_cell_below (w := w5.drew) hb g1))
        go_wp2_with fail
        go_region_held3 (fun W => W.cell? ⟨w1.heap.size, 0, none⟩ = some (.int .i64 last) ∧ W.cell? ⟨w1.heap.size, 1, none⟩ = some (.slice B l.length d)) (first | go_keep | exact ⟨pw_cell_below (w := w6.drew) hb p0, pw_cell_below (w := w6.drew) hb p1⟩) (first | (go_at_call 21; (with_reducible refine (suspect_n HL.out HP2.out HMf.out (w := w6.drew) HT6.out.drew).mono ?_); rintro e w7 ⟨rfl, hb⟩; have HB7 := Aside0.mk (below_then (below_drew HB6.out) (below_drew HB6.out).size hb)))
        clear e1 e2 e3 e4
        go_wp2_with fail
        (with_reducible refine (known_ _).mono ?_)
        rintro e w8 ⟨rfl, hb⟩
        have HB8 := Aside0.mk (below_then HB7.out HB7.out.size hb)
        clear hb
        go_wp2_with fail
        go_ret
        exact ⟨rfl, HB8.out⟩
  · have HE := Aside0.mk he
    clear ho he hmf
    go_enter Try.func6, Try.ntmps6
    go_wp2_with fail
    (with_reducible refine (of_n HR.out hc hl HW.out).mono ?_)
    rintro e w1 ⟨B, d, rfl, ht, hb⟩
    have HT := Aside0.mk (ht.alloc (.cells #[.int .i64 last, .slice B l.length d] 25))
    have HB := Aside0.mk (below_alloc hb (.cells #[.int .i64 last, .slice B l.length d] 25))
    have hg := blk_new w1 (.cells #[.int .i64 last, .slice B l.length d] 25)
    have g0 := (blk_cell hg 0).trans (show _ = some (Value.int .i64 last) from rfl)
    have g1 := (blk_cell hg 1).trans (show _ = some (Value.slice B l.length d) from rfl)
    clear ht hb hg
    go_wp2_with fail
    (with_reducible refine (rcheck_r HL.out HE.out HT.out).mono ?_)
    rintro e w2 ⟨rfl, hb⟩
    have HT := Aside0.mk (HT.out.below hb)
    have HB := Aside0.mk (below_then HB.out HB.out.size hb)
    replace g0 := pw_cell_below hb g0
    replace g1 := pw_cell_below hb g1
    clear hb
    go_wp2_with fail
    (with_reducible refine (known_ _).mono ?_)
    rintro e w9 ⟨rfl, hb⟩
    have HB := Aside0.mk (below_then HB.out HB.out.size hb)
    clear hb
    go_wp2_with fail
    go_ret
    exact ⟨rfl, HB.out⟩
end Go.Proofs.Ytlifioeeooclfaa.Rl
