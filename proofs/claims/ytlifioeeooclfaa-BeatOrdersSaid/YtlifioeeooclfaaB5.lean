/- Contracts of icehouseref15.Score, icehouseref15.less and beat.Suspect. Conditions: a list that fits in memory, words of 64 bits. -/
import Derived.Test.YtlifioeeooclfaaB4
namespace Go.Proofs.Ytlifioeeooclfaa.Rl
open Go.ChangeShapes Go.WideShapes Go.ChangeAt Go.RowKit Dbl
open Go.Proofs.YtlifioeeooclfaaW.PrintWords Go.Proofs.YtlifioeeooclfaaW.PrintLast Go.Proofs.YtlifioeeooclfaaW.PrintMore
set_option linter.unusedVariables false
set_option linter.unusedSimpArgs false
theorem inf_cast : ((9218868437227405312 : Int)).toNat = inf1 := rfl
set_option maxHeartbeats 4000000 in
theorem rscore_ {A : Option Addr} {c : Nat} {last : Int} {ts : List Nat} {now : Int} {w : World} (h : Bt w A c ts) :
    Calls Try.prog 20 #[.agg #[.int .i64 last, .slice A ts.length c], .int .i64 now] w (TupB (scoreR last ts now) w) := by
  have hI : ∀ w : World, (callFunc 22 #[.int .u64 9218868437227405312]).run Try.prog w = .ok (.value (.float .f64 inf1)) w := c12 9218868437227405312
  have h13 := c13
  have HT := Aside0.mk (h.alloc (.cells #[.int .i64 last, .slice A ts.length c] 25))
  have K := Lib.hid (rright_ A c last ts now _ HT.out.r HT.out.c HT.out.l HT.out.w)
  have HB := Aside0.mk (box_below w last A ts.length c)
  clear h
  rcases errN_cases last ts now with ⟨ho, he⟩ | ⟨ho, he⟩
  · rw [he] at K
    obtain ⟨u, hu, hui⟩ := usual_low ho.1
    obtain ⟨hd1, hd2⟩ := okN_d ho
    obtain ⟨d, hd⟩ : ∃ d, (now - last).toNat = d := ⟨_, rfl⟩
    have HS0 := Lib.hid (since_eq (hd ▸ hd1 : (d : Int) = now - last) (hd ▸ hd2))
    have hdn : d < 9007199254740992 := hd ▸ hd2
    have wf := (wi_rung hdn).2.2
    have uf := (low_word hui).2.2
    have HU := Aside0.mk hu
    have hw : wrap64 (now - last) = now - last := by
      have := ho.1.1; have := ho.2.1; have := ho.2.2
      unfold wrap64; omega
    have HW := Lib.hid hw
    obtain ⟨⟨r, kr⟩, hr2⟩ : ∃ p, scoreR last ts now = p := ⟨_, rfl⟩
    rw [hr2]
    obtain ⟨v, hv⟩ : ∃ v, kindU u = v := ⟨_, rfl⟩
    have KU := Lib.hid (fun w => kind_n uf hv w)
    by_cases hn : now = last
    · obtain ⟨rfl, rfl⟩ := Prod.mk.inj (hr2.symm.trans (score_same ho hn))
      have t1 : (now == last) = true := beq_iff_eq.2 hn
      clear hr2 hn ho he hu hui hd1 hd2 hd hdn wf uf hw hv
      go_enter Try.func20, Try.ntmps20
      go_wp2_with fail
      (with_reducible refine K.out.mono ?_)
      rintro e w1 ⟨rfl, hb⟩
      obtain ⟨c0, c1⟩ := boxed hb
      have HT1 := Aside0.mk (HT.out.below hb)
      have HB := Aside0.mk (below_then HB.out HB.out.size hb)
      clear hb
      go_wp2_with fail
      (with_reducible refine (rusual_p HU.out HT1.out).mono ?_)
      rintro e w2 ⟨rfl, hb⟩
      have HB := Aside0.mk (below_then HB.out HB.out.size hb)
      replace c0 := pw_cell_below hb c0
      replace c1 := pw_cell_below hb c1
      clear hb
      go_wp2_with fail
      go_ret2
      exact ⟨rfl, HB.out⟩
    · have t1 : (now == last) = false := beq_eq_false_iff_ne.2 hn
      by_cases h0 : u = 0
      · obtain ⟨rfl, rfl⟩ := Prod.mk.inj (hr2.symm.trans (score_inf ho hn hu h0))
        obtain rfl : v = 0 := hv.symm.trans (kind_zero.2 (by rw [(low_word hui).1]; exact h0))
        clear hr2 hn ho he hu hui hd1 hd2 hd hdn wf uf hw hv h0
        go_enter Try.func20, Try.ntmps20
        go_wp2_with fail
        (with_reducible refine K.out.mono ?_)
        rintro e w1 ⟨rfl, hb⟩
        obtain ⟨c0, c1⟩ := boxed hb
        have HT1 := Aside0.mk (HT.out.below hb)
        have HB := Aside0.mk (below_then HB.out HB.out.size hb)
        clear hb
        go_wp2_with fail
        (with_reducible refine (rusual_p HU.out HT1.out).mono ?_)
        rintro e w2 ⟨rfl, hb⟩
        have HB := Aside0.mk (below_then HB.out HB.out.size hb)
        replace c0 := pw_cell_below hb c0
        replace c1 := pw_cell_below hb c1
        clear hb
        go_wp2_with (go_at_call 25; (with_reducible refine (KU.out _).mono ?_); rintro e w' ⟨rfl, rfl⟩)
        go_ret2
        exact ⟨rfl, HB.out⟩
      · have t2 : (v == 0) = false := beq_eq_false_iff_ne.2 (fun e => h0 (by have := kind_zero.1 (hv.trans e); rwa [(low_word hui).1] at this))
        obtain ⟨s, hs, hsi, hs0⟩ := share_low hdn hui h0
        have SH := Lib.hid (fun w => rshare_p wf uf hs w)
        obtain ⟨rfl, rfl⟩ := Prod.mk.inj (hr2.symm.trans (score_share ho hn hu h0 (hd ▸ hs)))
        clear hr2 hn ho he hu hui hd1 hd2 hd hdn wf uf hw hv h0 hs hsi hs0
        go_enter Try.func20, Try.ntmps20
        go_wp2_with fail
        (with_reducible refine K.out.mono ?_)
        rintro e w1 ⟨rfl, hb⟩
        obtain ⟨c0, c1⟩ := boxed hb
        have HT1 := Aside0.mk (HT.out.below hb)
        have HB := Aside0.mk (below_then HB.out HB.out.size hb)
        clear hb
        go_wp2_with fail
        (with_reducible refine (rusual_p HU.out HT1.out).mono ?_)
        rintro e w2 ⟨rfl, hb⟩
        have HB := Aside0.mk (below_then HB.out HB.out.size hb)
        replace c0 := pw_cell_below hb c0
        replace c1 := pw_cell_below hb c1
        clear hb
        go_wp2_with (first | (go_at_call 25; (with_reducible refine (KU.out _).mono ?_); rintro e w' ⟨rfl, rfl⟩) | (go_at_call 42; rw [HW.out, HS0.out]; (with_reducible refine (SH.out _).mono ?_); rintro e w' ⟨rfl, rfl⟩))
        go_ret2
        exact ⟨rfl, HB.out⟩
  · rw [he] at K
    rw [score_no ho]
    clear ho he
    go_enter Try.func20, Try.ntmps20
    go_wp2_with fail
    (with_reducible refine K.out.mono ?_)
    rintro e w1 ⟨rfl, hb⟩
    have HB := Aside0.mk (below_then HB.out HB.out.size hb)
    clear hb
    go_wp2_with fail
    go_ret2
    exact ⟨rfl, HB.out⟩
theorem score_p {A : Option Addr} {c : Nat} {last : Int} {ts : List Nat} {now : Int} {w : World} {u : Nat} {k : Int} (hp : scoreR last ts now = (u, k)) (h : Bt w A c ts) : Calls Try.prog 12 #[.agg #[.int .i64 last, .slice A ts.length c], .int .i64 now] w fun e w' => e = .returned (.tuple #[.float .f64 u, .int .i64 k]) ∧ Below w.heap.size w w' := by
  have := score_ (last := last) (now := now) h
  rw [hp] at this
  exact this
theorem rscore_p {A : Option Addr} {c : Nat} {last : Int} {ts : List Nat} {now : Int} {w : World} {u : Nat} {k : Int} (hp : scoreR last ts now = (u, k)) (h : Bt w A c ts) : Calls Try.prog 20 #[.agg #[.int .i64 last, .slice A ts.length c], .int .i64 now] w fun e w' => e = .returned (.tuple #[.float .f64 u, .int .i64 k]) ∧ Below w.heap.size w w' := by
  have := rscore_ (last := last) (now := now) h
  rw [hp] at this
  exact this
/-- is it suspected, and the error -/
def suspR (last : Int) (ts : List Nat) (now : Int) (most : Nat) : Bool × Int := if okN last ts now then (if inf < rung most then (false, 10) else (decide (0 < cmpU (scoreR last ts now).1 most), 0)) else (false, 2)
theorem susp_no {last : Int} {ts : List Nat} {now : Int} {most : Nat} (h : ¬ okN last ts now) : suspR last ts now most = (false, 2) := if_neg h
theorem susp_nan {last : Int} {ts : List Nat} {now : Int} {most : Nat} (h : okN last ts now) (hm : inf < rung most) : suspR last ts now most = (false, 10) := by unfold suspR; rw [if_pos h, if_pos hm]
theorem susp_yes {last : Int} {ts : List Nat} {now : Int} {most s : Nat} {k : Int} (h : okN last ts now) (hm : ¬ inf < rung most) (hs : scoreR last ts now = (s, k)) : suspR last ts now most = (decide (0 < cmpU s most), 0) := by
  unfold suspR; rw [if_pos h, if_neg hm, hs]
def TupS (p : Bool × Int) (w : World) (e : Ending) (w' : World) : Prop := e = .returned (.tuple #[.bool p.1, .int .i64 p.2]) ∧ Below w.heap.size w w'
set_option maxHeartbeats 4000000 in
theorem suspect_ {A : Option Addr} {c : Nat} {last : Int} {ts : List Nat} {now : Int} {most : Nat} {w : World} (hm : most < full) (h : Bt w A c ts) :
    Calls Try.prog 21 #[.agg #[.int .i64 last, .slice A ts.length c], .int .i64 now, .float .f64 most] w (TupS (suspR last ts now most) w) := by
  have HT := Aside0.mk (h.alloc (.cells #[.int .i64 last, .slice A ts.length c] 25))
  have HB := Aside0.mk (box_below w last A ts.length c)
  clear h
  by_cases ho : okN last ts now
  · obtain ⟨s, hs, hsi⟩ := score_low ho
    have HS := Aside0.mk hs
    by_cases n : inf < rung most
    · rw [susp_nan ho n]
      have t1 := self_nan n
      clear ho hs n hsi
      go_enter Try.func21, Try.ntmps21
      go_wp2_with fail
      (with_reducible refine (score_p HS.out HT.out).mono ?_)
      rintro e w1 ⟨rfl, hb⟩
      have HB := Aside0.mk (below_then HB.out HB.out.size hb)
      clear hb
      go_wp2_with fail
      go_ret2
      exact ⟨rfl, HB.out⟩
    · rw [susp_yes ho n hs]
      have t1 := self_num (a := most) (by omega)
      have C := Lib.hid (fun w => compare_ s most (low_word hsi).2.2 hm w)
      generalize cmpU s most = x at *
      clear ho hs n hsi
      go_enter Try.func21, Try.ntmps21
      go_wp2_with fail
      (with_reducible refine (score_p HS.out HT.out).mono ?_)
      rintro e w1 ⟨rfl, hb⟩
      have HB := Aside0.mk (below_then HB.out HB.out.size hb)
      clear hb
      go_wp2_with (go_at_call 43; (with_reducible refine (C.out _).mono ?_); rintro e w' ⟨rfl, rfl⟩)
      go_ret2
      exact ⟨rfl, HB.out⟩
  · rw [susp_no ho]
    have HS := Aside0.mk (score_no ho)
    clear ho
    go_enter Try.func21, Try.ntmps21
    go_wp2_with fail
    (with_reducible refine (score_p HS.out HT.out).mono ?_)
    rintro e w1 ⟨rfl, hb⟩
    have HB := Aside0.mk (below_then HB.out HB.out.size hb)
    clear hb
    go_wp2_with fail
    go_ret2
    exact ⟨rfl, HB.out⟩
theorem suspect_p {A : Option Addr} {c : Nat} {last : Int} {ts : List Nat} {now : Int} {most : Nat} {w : World} {b : Bool} {k : Int} (hp : suspR last ts now most = (b, k)) (hm : most < full) (h : Bt w A c ts) : Calls Try.prog 21 #[.agg #[.int .i64 last, .slice A ts.length c], .int .i64 now, .float .f64 most] w fun e w' => e = .returned (.tuple #[.bool b, .int .i64 k]) ∧ Below w.heap.size w w' := by
  have := suspect_ (last := last) (now := now) hm h
  rw [hp] at this
  exact this
end Go.Proofs.Ytlifioeeooclfaa.Rl
