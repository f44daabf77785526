/- The walk of the law BeatSame, for every two times, rows of words, and now. No condition. -/
import Derived.Test.YtlifioeeooclfaaBeatScores
namespace Go.Proofs.Ytlifioeeooclfaa.Rl
open Go.ChangeShapes Go.WideShapes Go.ChangeAt Go.RowKit Dbl
open Go.Proofs.YtlifioeeooclfaaW.PrintWords Go.Proofs.YtlifioeeooclfaaW.PrintLast Go.Proofs.YtlifioeeooclfaaW.PrintMore
set_option linter.unusedVariables false
set_option linter.unusedSimpArgs false
theorem bsame_n {A A' : Option Addr} {c c' n n' : Nat} {a b : Int} {ts us : List Nat} {w : World} {r : Bool} (hn : ts.length = n) (hn' : us.length = n') (hr : sameB a b ts us = r) (h : Bt w A c ts) (h' : Bt w A' c' us) :
    Calls Try.prog 17 #[.agg #[.int .i64 a, .slice A n c], .agg #[.int .i64 b, .slice A' n' c']] w fun e w' => e = .returned (.bool r) ∧ Below w.heap.size w w' := by
  subst hn hn' hr; exact bsame_ h h'
theorem rsame_n {A A' : Option Addr} {c c' n n' : Nat} {a b : Int} {ts us : List Nat} {w : World} {r : Bool} (hn : ts.length = n) (hn' : us.length = n') (hr : sameB a b ts us = r) (h : Bt w A c ts) (h' : Bt w A' c' us) :
    Calls Try.prog 16 #[.agg #[.int .i64 a, .slice A n c], .agg #[.int .i64 b, .slice A' n' c']] w fun e w' => e = .returned (.bool r) ∧ Below w.heap.size w w' := by
  subst hn hn' hr; exact rsame_ h h'
theorem sameB_self (a : Int) (ts : List Nat) : sameB a a ts ts = true := decide_eq_true ⟨rfl, rfl⟩
theorem kind_low {s : Nat} (h : s ≤ inf) : kindU s < 3 := by
  have hn : ¬ kindU s = 3 := fun e => by
    have := kind_nan.1 e
    rw [(low_word h).1] at this
    omega
  have := kind_pos s
  omega
theorem score_fine (last : Int) (ts : List Nat) (now : Int) : (scoreR last ts now).1 ≤ inf := by
  by_cases h : okN last ts now
  · obtain ⟨s, hs, hi⟩ := score_low h
    rw [hs]; exact hi
  · rw [score_no h]; exact Nat.zero_le _
set_option maxHeartbeats 16000000 in
set_option maxRecDepth 100000 in
theorem beatSame (w : World) (a : Int) (wa : (Lit.int .i64 a).wf = true) (A : Option Addr) (c : Nat) (l : List Int) (hr : Kd.C (Kd.int .u64) w A l.length l) (hc : l.length ≤ c) (wf : l.length ≤ maxLen ∧ l.length * 8 ≤ 140737488351232 ∧ ∀ x ∈ l, (Lit.int .u64 x).wf = true)
    (b : Int) (wb : (Lit.int .i64 b).wf = true) (A' : Option Addr) (c' : Nat) (m : List Int) (hr' : Kd.C (Kd.int .u64) w A' m.length m) (hc' : m.length ≤ c') (wf' : m.length ≤ maxLen ∧ m.length * 8 ≤ 140737488351232 ∧ ∀ x ∈ m, (Lit.int .u64 x).wf = true) (now : Int) (wn : (Lit.int .i64 now).wf = true) :
    Calls Try.prog 7 #[.int .i64 a, .slice A l.length c, .int .i64 b, .slice A' m.length c', .int .i64 now] w fun e w' => e = .returned (.bool true) ∧ Below w.heap.size w w' := by
  have HW := Aside0.mk (wds wf.2.2)
  have HW' := Aside0.mk (wds wf'.2.2)
  have HR := Aside0.mk hr
  have HR' := Aside0.mk hr'
  have h13 := c13
  clear wa wf wb wf' wn hr hr'
  by_cases h30 : 30 < l.length
  · have t1 : decide ((30 : Int) < (l.length : Int)) = true := decide_eq_true (by omega)
    go_enter Try.func7, Try.ntmps7
    go_wp2_with fail
    (with_reducible refine (known_ _).mono ?_)
    rintro e w' ⟨rfl, hb⟩
    go_wp2_with fail
    go_ret
    exact ⟨rfl, hb⟩
  have t1 : decide ((30 : Int) < (l.length : Int)) = false := decide_eq_false (by omega)
  by_cases h31 : 30 < m.length
  · have t2 : decide ((30 : Int) < (m.length : Int)) = true := decide_eq_true (by omega)
    go_enter Try.func7, Try.ntmps7
    go_wp2_with fail
    (with_reducible refine (known_ _).mono ?_)
    rintro e w' ⟨rfl, hb⟩
    go_wp2_with fail
    go_ret
    exact ⟨rfl, hb⟩
  have t2 : decide ((30 : Int) < (m.length : Int)) = false := decide_eq_false (by omega)
  have hl : l.length ≤ 17592186044400 := by omega
  have hl' : m.length ≤ 17592186044400 := by omega
  have HL := Lib.hid (show (l.map Int.toNat).length = l.length from List.length_map ..)
  have HL' := Lib.hid (show (m.map Int.toNat).length = m.length from List.length_map ..)
  obtain ⟨⟨s, ks⟩, hs⟩ : ∃ p, scoreR a (l.map Int.toNat) now = p := ⟨_, rfl⟩
  obtain ⟨⟨t, kt⟩, ht⟩ : ∃ p, scoreR b (m.map Int.toNat) now = p := ⟨_, rfl⟩
  obtain ⟨⟨p, kp⟩, hp⟩ : ∃ p, suspR a (l.map Int.toNat) now 4611686018427387904 = p := ⟨_, rfl⟩
  obtain ⟨⟨q, kq⟩, hq⟩ : ∃ p, suspR b (m.map Int.toNat) now 4611686018427387904 = p := ⟨_, rfl⟩
  have hsi : s ≤ inf := by have := score_fine a (l.map Int.toNat) now; rw [hs] at this; exact this
  obtain ⟨v, hv⟩ : ∃ v, kindU s = v := ⟨_, rfl⟩
  have hv3 : v < 3 := hv ▸ kind_low hsi
  have t5 := decide_eq_true hv3
  have K0 := Lib.hid (fun w => kind_n (low_word hsi).2.2 hv w)
  by_cases hn : a = b ∧ l.map Int.toNat = m.map Int.toNat
  · have HN := Aside0.mk (show sameB a b (l.map Int.toNat) (m.map Int.toNat) = true from decide_eq_true hn)
    obtain ⟨rfl, rfl⟩ := Prod.mk.inj ((hn.1 ▸ hn.2 ▸ hs : scoreR b (m.map Int.toNat) now = (s, ks)).symm.trans ht)
    obtain ⟨rfl, rfl⟩ := Prod.mk.inj ((hn.1 ▸ hn.2 ▸ hp : suspR b (m.map Int.toNat) now 4611686018427387904 = (p, kp)).symm.trans hq)
    have HS := Aside0.mk hs
    have HS' := Aside0.mk ht
    have HP := Aside0.mk hp
    have HP' := Aside0.mk hq
    clear hs ht hp hq hn hsi hv hv3
    go_enter Try.func7, Try.ntmps7
    go_wp2_with fail
    (with_reducible refine (of_n HR.out hc hl HW.out).mono ?_)
    rintro e w1 ⟨B, d, rfl, ht, hb⟩
    have HT := Aside0.mk (ht.alloc (.cells #[.int .i64 a, .slice B l.length d] 25))
    have HR' := Aside0.mk (Kd.C_alloc (Kd.C_below HR'.out hb) (.cells #[.int .i64 a, .slice B l.length d] 25))
    have HB := Aside0.mk (below_alloc hb (.cells #[.int .i64 a, .slice B l.length d] 25))
    have hg := blk_new w1 (.cells #[.int .i64 a, .slice B l.length d] 25)
    have g0 := (blk_cell hg 0).trans (show _ = some (Value.int .i64 a) from rfl)
    have g1 := (blk_cell hg 1).trans (show _ = some (Value.slice B l.length d) from rfl)
    clear ht hb hg
    go_wp2_with fail
    (with_reducible refine (of_n HR'.out hc' hl' HW'.out).mono ?_)
    rintro e w2 ⟨B', d', rfl, ht, hb⟩
    have HT := Aside0.mk ((HT.out.below hb).alloc (.cells #[.int .i64 b, .slice B' m.length d'] 25))
    have HT' := Aside0.mk (ht.alloc (.cells #[.int .i64 b, .slice B' m.length d'] 25))
    have HB := Aside0.mk (below_alloc (below_then HB.out HB.out.size hb) (.cells #[.int .i64 b, .slice B' m.length d'] 25))
    have hg := blk_new w2 (.cells #[.int .i64 b, .slice B' m.length d'] 25)
    have k0 := (blk_cell hg 0).trans (show _ = some (Value.int .i64 b) from rfl)
    have k1 := (blk_cell hg 1).trans (show _ = some (Value.slice B' m.length d') from rfl)
    replace g0 := Go.Lib.cell?_alloc_some (.cells #[.int .i64 b, .slice B' m.length d'] 25) (pw_cell_below hb g0)
    replace g1 := Go.Lib.cell?_alloc_some (.cells #[.int .i64 b, .slice B' m.length d'] 25) (pw_cell_below hb g1)
    clear ht hb hg
    go_wp2_with fail
    (with_reducible refine (bsame_n HL.out HL'.out HN.out HT.out HT'.out).mono ?_)
    rintro e w3 ⟨rfl, hb⟩
    have HT := Aside0.mk (HT.out.below hb)
    have HT' := Aside0.mk (HT'.out.below hb)
    have HB := Aside0.mk (below_then HB.out HB.out.size hb)
    replace g0 := pw_cell_below hb g0
    replace g1 := pw_cell_below hb g1
    replace k0 := pw_cell_below hb k0
    replace k1 := pw_cell_below hb k1
    clear hb
    go_wp2_with fail
    (with_reducible refine (rsame_n HL.out HL'.out HN.out HT.out HT'.out).mono ?_)
    rintro e w4 ⟨rfl, hb⟩
    have HT := Aside0.mk (HT.out.below hb)
    have HT' := Aside0.mk (HT'.out.below hb)
    have HB := Aside0.mk (below_then HB.out HB.out.size hb)
    replace g0 := pw_cell_below hb g0
    replace g1 := pw_cell_below hb g1
    replace k0 := pw_cell_below hb k0
    replace k1 := pw_cell_below hb k1
    clear hb
    go_wp2_with fail
    (with_reducible refine (bsame_n HL.out HL.out (sameB_self a _) HT.out HT.out).mono ?_)
    rintro e w5 ⟨rfl, hb⟩
    have HT := Aside0.mk (HT.out.below hb)
    have HT' := Aside0.mk (HT'.out.below hb)
    have HB := Aside0.mk (below_then HB.out HB.out.size hb)
    replace g0 := pw_cell_below hb g0
    replace g1 := pw_cell_below hb g1
    replace k0 := pw_cell_below hb k0
    replace k1 := pw_cell_below hb k1
    clear hb
    go_wp2_with fail
    (with_reducible refine (score_n HL.out HS.out HT.out).mono ?_)
    rintro e w6 ⟨rfl, hb⟩
    have HT := Aside0.mk (HT.out.below hb)
    have HT' := Aside0.mk (HT'.out.below hb)
    have HB := Aside0.mk (below_then HB.out HB.out.size hb)
    replace g0 := pw_cell_below hb g0
    replace g1 := pw_cell_below hb g1
    replace k0 := pw_cell_below hb k0
    replace k1 := pw_cell_below hb k1
    clear hb
    go_wp2_with fail
    (with_reducible refine (score_n HL'.out HS'.out HT'.out).mono ?_)
    rintro e w7 ⟨rfl, hb⟩
    have HT := Aside0.mk (HT.out.below hb)
    have HT' := Aside0.mk (HT'.out.below hb)
    have HB := Aside0.mk (below_then HB.out HB.out.size hb)
    replace g0 := pw_cell_below hb g0
    replace g1 := pw_cell_below hb g1
    replace k0 := pw_cell_below hb k0
    replace k1 := pw_cell_below hb k1
    clear hb
    go_wp2_with fail
    (with_reducible refine (suspect_n HL.out HP.out (show 4611686018427387904 < full by decide) HT.out).mono ?_)
    rintro e w8 ⟨rfl, hb⟩
    have HT := Aside0.mk (HT.out.below hb)
    have HT' := Aside0.mk (HT'.out.below hb)
    have HB := Aside0.mk (below_then HB.out HB.out.size hb)
    replace g0 := pw_cell_below hb g0
    replace g1 := pw_cell_below hb g1
    replace k0 := pw_cell_below hb k0
    replace k1 := pw_cell_below hb k1
    clear hb
    go_wp2_with fail
    (with_reducible refine (suspect_n HL'.out HP'.out (show 4611686018427387904 < full by decide) HT'.out).mono ?_)
    rintro e w9 ⟨rfl, hb⟩
    have HT := Aside0.mk (HT.out.below hb)
    have HT' := Aside0.mk (HT'.out.below hb)
    have HB := Aside0.mk (below_then HB.out HB.out.size hb)
    replace g0 := pw_cell_below hb g0
    replace g1 := pw_cell_below hb g1
    replace k0 := pw_cell_below hb k0
    replace k1 := pw_cell_below hb k1
    clear hb
    go_wp2_with fail
    (with_reducible refine (K0.out _).mono ?_)
    rintro e w' ⟨rfl, rfl⟩
    go_wp2_with fail
    (with_reducible refine (known_ _).mono ?_)
    rintro e w10 ⟨rfl, hb⟩
    have HB := Aside0.mk (below_then HB.out HB.out.size hb)
    clear hb
    go_wp2_with fail
    go_ret
    exact ⟨rfl, HB.out⟩
  · have HN := Aside0.mk (show sameB a b (l.map Int.toNat) (m.map Int.toNat) = false from decide_eq_false hn)
    have HS := Aside0.mk hs
    have HS' := Aside0.mk ht
    have HP := Aside0.mk hp
    have HP' := Aside0.mk hq
    clear hs ht hp hq hn hsi hv hv3
    go_enter Try.func7, Try.ntmps7
    go_wp2_with fail
    (with_reducible refine (of_n HR.out hc hl HW.out).mono ?_)
    rintro e w1 ⟨B, d, rfl, ht, hb⟩
    have HT := Aside0.mk (ht.alloc (.cells #[.int .i64 a, .slice B l.length d] 25))
    have HR' := Aside0.mk (Kd.C_alloc (Kd.C_below HR'.out hb) (.cells #[.int .i64 a, .slice B l.length d] 25))
    have HB := Aside0.mk (below_alloc hb (.cells #[.int .i64 a, .slice B l.length d] 25))
    have hg := blk_new w1 (.cells #[.int .i64 a, .slice B l.length d] 25)
    have g0 := (blk_cell hg 0).trans (show _ = some (Value.int .i64 a) from rfl)
    have g1 := (blk_cell hg 1).trans (show _ = some (Value.slice B l.length d) from rfl)
    clear ht hb hg
    go_wp2_with fail
    (with_reducible refine (of_n HR'.out hc' hl' HW'.out).mono ?_)
    rintro e w2 ⟨B', d', rfl, ht, hb⟩
    have HT := Aside0.mk ((HT.out.below hb).alloc (.cells #[.int .i64 b, .slice B' m.length d'] 25))
    have HT' := Aside0.mk (ht.alloc (.cells #[.int .i64 b, .slice B' m.length d'] 25))
    have HB := Aside0.mk (below_alloc (below_then HB.out HB.out.size hb) (.cells #[.int .i64 b, .slice B' m.length d'] 25))
    have hg := blk_new w2 (.cells #[.int .i64 b, .slice B' m.length d'] 25)
    have k0 := (blk_cell hg 0).trans (show _ = some (Value.int .i64 b) from rfl)
    have k1 := (blk_cell hg 1).trans (show _ = some (Value.slice B' m.length d') from rfl)
    replace g0 := Go.Lib.cell?_alloc_some (.cells #[.int .i64 b, .slice B' m.length d'] 25) (pw_cell_below hb g0)
    replace g1 := Go.Lib.cell?_alloc_some (.cells #[.int .i64 b, .slice B' m.length d'] 25) (pw_cell_below hb g1)
    clear ht hb hg
    go_wp2_with fail
    (with_reducible refine (bsame_n HL.out HL'.out HN.out HT.out HT'.out).mono ?_)
    rintro e w3 ⟨rfl, hb⟩
    have HT := Aside0.mk (HT.out.below hb)
    have HT' := Aside0.mk (HT'.out.below hb)
    have HB := Aside0.mk (below_then HB.out HB.out.size hb)
    replace g0 := pw_cell_below hb g0
    replace g1 := pw_cell_below hb g1
    replace k0 := pw_cell_below hb k0
    replace k1 := pw_cell_below hb k1
    clear hb
    go_wp2_with fail
    (with_reducible refine (rsame_n HL.out HL'.out HN.out HT.out HT'.out).mono ?_)
    rintro e w4 ⟨rfl, hb⟩
    have HT := Aside0.mk (HT.out.below hb)
    have HT' := Aside0.mk (HT'.out.below hb)
    have HB := Aside0.mk (below_then HB.out HB.out.size hb)
    replace g0 := pw_cell_below hb g0
    replace g1 := pw_cell_below hb g1
    replace k0 := pw_cell_below hb k0
    replace k1 := pw_cell_below hb k1
    clear hb
    go_wp2_with fail
    (with_reducible refine (bsame_n HL.out HL.out (sameB_self a _) HT.out HT.out).mono ?_)
    rintro e w5 ⟨rfl, hb⟩
    have HT := Aside0.mk (HT.out.below hb)
    have HT' := Aside0.mk (HT'.out.below hb)
    have HB := Aside0.mk (below_then HB.out HB.out.size hb)
    replace g0 := pw_cell_below hb g0
    replace g1 := pw_cell_below hb g1
    replace k0 := pw_cell_below hb k0
    replace k1 := pw_cell_below hb k1
    clear hb
    go_wp2_with fail
    (with_reducible refine (score_n HL.out HS.out HT.out).mono ?_)
    rintro e w6 ⟨rfl, hb⟩
    have HT := Aside0.mk (HT.out.below hb)
    have HT' := Aside0.mk (HT'.out.below hb)
    have HB := Aside0.mk (below_then HB.out HB.out.size hb)
    replace g0 := pw_cell_below hb g0
    replace g1 := pw_cell_below hb g1
    replace k0 := pw_cell_below hb k0
    replace k1 := pw_cell_below hb k1
    clear hb
    go_wp2_with fail
    (with_reducible refine (score_n HL'.out HS'.out HT'.out).mono ?_)
    rintro e w7 ⟨rfl, hb⟩
    have HT := Aside0.mk (HT.out.below hb)
    have HT' := Aside0.mk (HT'.out.below hb)
    have HB := Aside0.mk (below_then HB.out HB.out.size hb)
    replace g0 := pw_cell_below hb g0
    replace g1 := pw_cell_below hb g1
    replace k0 := pw_cell_below hb k0
    replace k1 := pw_cell_below hb k1
    clear hb
    go_wp2_with fail
    (with_reducible refine (suspect_n HL.out HP.out (show 4611686018427387904 < full by decide) HT.out).mono ?_)
    rintro e w8 ⟨rfl, hb⟩
    have HT := Aside0.mk (HT.out.below hb)
    have HT' := Aside0.mk (HT'.out.below hb)
    have HB := Aside0.mk (below_then HB.out HB.out.size hb)
    replace g0 := pw_cell_below hb g0
    replace g1 := pw_cell_below hb g1
    replace k0 := pw_cell_below hb k0
    replace k1 := pw_cell_below hb k1
    clear hb
    go_wp2_with fail
    (with_reducible refine (suspect_n HL'.out HP'.out (show 4611686018427387904 < full by decide) HT'.out).mono ?_)
    rintro e w9 ⟨rfl, hb⟩
    have HT := Aside0.mk (HT.out.below hb)
    have HT' := Aside0.mk (HT'.out.below hb)
    have HB := Aside0.mk (below_then HB.out HB.out.size hb)
    replace g0 := pw_cell_below hb g0
    replace g1 := pw_cell_below hb g1
    replace k0 := pw_cell_below hb k0
    replace k1 := pw_cell_below hb k1
    clear hb
    go_wp2_with fail
    (with_reducible refine (K0.out _).mono ?_)
    rintro e w' ⟨rfl, rfl⟩
    go_wp2_with fail
    (with_reducible refine (known_ _).mono ?_)
    rintro e w10 ⟨rfl, hb⟩
    have HB := Aside0.mk (below_then HB.out HB.out.size hb)
    clear hb
    go_wp2_with fail
    go_ret
    exact ⟨rfl, HB.out⟩
end Go.Proofs.Ytlifioeeooclfaa.Rl
