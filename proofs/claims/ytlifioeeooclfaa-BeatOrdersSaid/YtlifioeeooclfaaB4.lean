/- Contracts of beat.Usual, beat.Score, beat.Suspect and the reference's Usual and Score. Conditions: a list that fits in memory, words of 64 bits. -/
import Derived.Test.YtlifioeeooclfaaB3
namespace Go.Proofs.Ytlifioeeooclfaa.Rl
open Go.ChangeShapes Go.WideShapes Go.ChangeAt Go.RowKit Dbl
open Go.Proofs.YtlifioeeooclfaaW.PrintWords Go.Proofs.YtlifioeeooclfaaW.PrintLast Go.Proofs.YtlifioeeooclfaaW.PrintMore
set_option linter.unusedVariables false
set_option linter.unusedSimpArgs false
/-- a row of times that is read -/
structure Bt (w : World) (A : Option Addr) (c : Nat) (ts : List Nat) : Prop where
  r : Kd.C Opn.flt w A ts.length ts
  c : ts.length ≤ c
  l : ts.length ≤ 17592186044415
  w : ∀ x ∈ ts, x < full
theorem Bt.below {w w1 : World} {A : Option Addr} {c : Nat} {ts : List Nat} (h : Bt w A c ts) (hb : Below w.heap.size w w1) : Bt w1 A c ts := ⟨Kd.C_below h.r hb, h.c, h.l, h.w⟩
theorem Bt.alloc {w : World} {A : Option Addr} {c : Nat} {ts : List Nat} (h : Bt w A c ts) (o : Obj) : Bt (w.alloc o) A c ts := ⟨Kd.C_alloc h.r o, h.c, h.l, h.w⟩
def TupB (p : Nat × Int) (w : World) (e : Ending) (w' : World) : Prop := e = .returned (.tuple #[.float .f64 p.1, .int .i64 p.2]) ∧ Below w.heap.size w w'
def box (last : Int) (A : Option Addr) (n c : Nat) : Obj := .cells #[.int .i64 last, .slice A n c] 25
/-- the box of a parameter, in any later world -/
theorem boxed {w w1 : World} {last : Int} {A : Option Addr} {n c : Nat} (h : Below (w.alloc (.cells #[.int .i64 last, .slice A n c] 25)).heap.size (w.alloc (.cells #[.int .i64 last, .slice A n c] 25)) w1) : w1.cell? ⟨w.heap.size, 0, none⟩ = some (.int .i64 last) ∧ w1.cell? ⟨w.heap.size, 1, none⟩ = some (.slice A n c) := by
  have hg := blk_below (blk_new w (.cells #[.int .i64 last, .slice A n c] 25)) h
  exact ⟨(blk_cell hg 0).trans rfl, (blk_cell hg 1).trans rfl⟩
theorem box_below (w : World) (last : Int) (A : Option Addr) (n c : Nat) : Below w.heap.size w (w.alloc (.cells #[.int .i64 last, .slice A n c] 25)) := below_alloc (Below.refl w.heap.size w) _
theorem mean_p {A : Option Addr} {c : Nat} {ts : List Nat} {w : World} {m : Nat} {k : Int} (hp : meanR ts = (m, k)) (h : Bt w A c ts) : Calls Try.prog 33 #[.slice A ts.length c] w fun e w' => e = .returned (.tuple #[.float .f64 m, .int .i64 k]) ∧ Below w.heap.size w w' := by
  have := mean A c ts w h.r h.c h.l h.w
  rw [hp] at this
  exact this.mono fun e w' h => ⟨h.1, h.2.below⟩
theorem rmean_p {A : Option Addr} {c : Nat} {ts : List Nat} {w : World} {m : Nat} {k : Int} (hp : meanR ts = (m, k)) (h : Bt w A c ts) : Calls Try.prog 41 #[.slice A ts.length c] w fun e w' => e = .returned (.tuple #[.float .f64 m, .int .i64 k]) ∧ Below w.heap.size w w' := by
  have := rmean A c ts w h.r h.c h.l h.w
  rw [hp] at this
  exact this.mono fun e w' h => ⟨h.1, h.2.below⟩
set_option maxHeartbeats 2000000 in
theorem usual_ {A : Option Addr} {c : Nat} {last : Int} {ts : List Nat} {w : World} (h : Bt w A c ts) :
    Calls Try.prog 11 #[.agg #[.int .i64 last, .slice A ts.length c]] w (TupB (usualR last ts) w) := by
  have HT := Aside0.mk (h.alloc (.cells #[.int .i64 last, .slice A ts.length c] 25))
  have K := Lib.hid (check_ A c last ts _ HT.out.r HT.out.c HT.out.l HT.out.w)
  have HB := Aside0.mk (box_below w last A ts.length c)
  clear h
  rcases errB_cases last ts with ⟨ho, he⟩ | ⟨ho, he⟩
  · rw [he] at K
    by_cases h0 : ts.length = 0
    · rw [usual_none ho h0]
      have t0 : ((ts.length : Int) == 0) = true := beq_iff_eq.2 (by omega)
      clear ho he h0
      go_enter Try.func11, Try.ntmps11
      go_wp2_with fail
      (with_reducible refine K.out.mono ?_)
      rintro e w1 ⟨rfl, hb⟩
      obtain ⟨c0, c1⟩ := boxed hb
      have HB := Aside0.mk (below_then HB.out HB.out.size hb)
      clear hb
      go_wp2_with fail
      go_ret2
      exact ⟨rfl, HB.out⟩
    · rw [usual_some ho h0]
      have t0 : ((ts.length : Int) == 0) = false := beq_eq_false_iff_ne.2 (by omega)
      obtain ⟨⟨m, k⟩, hm⟩ : ∃ p, meanR ts = p := ⟨_, rfl⟩
      rw [hm]
      have HM := Aside0.mk hm
      clear ho he h0 hm
      go_enter Try.func11, Try.ntmps11
      go_wp2_with fail
      (with_reducible refine K.out.mono ?_)
      rintro e w1 ⟨rfl, hb⟩
      obtain ⟨c0, c1⟩ := boxed hb
      have HT1 := Aside0.mk (HT.out.below hb)
      have HB := Aside0.mk (below_then HB.out HB.out.size hb)
      clear hb
      go_wp2_with fail
      (with_reducible refine (mean_p HM.out HT1.out).mono ?_)
      rintro e w2 ⟨rfl, hb⟩
      have HB := Aside0.mk (below_then HB.out HB.out.size hb)
      clear hb
      go_wp2_with fail
      go_ret2
      exact ⟨rfl, HB.out⟩
  · rw [he] at K
    rw [usual_no ho]
    clear ho he
    go_enter Try.func11, Try.ntmps11
    go_wp2_with fail
    (with_reducible refine K.out.mono ?_)
    rintro e w1 ⟨rfl, hb⟩
    have HB := Aside0.mk (below_then HB.out HB.out.size hb)
    clear hb
    go_wp2_with fail
    go_ret2
    exact ⟨rfl, HB.out⟩
set_option maxHeartbeats 2000000 in
theorem rusual_ {A : Option Addr} {c : Nat} {last : Int} {ts : List Nat} {w : World} (h : Bt w A c ts) :
    Calls Try.prog 19 #[.agg #[.int .i64 last, .slice A ts.length c]] w (TupB (usualR last ts) w) := by
  have HT := Aside0.mk (h.alloc (.cells #[.int .i64 last, .slice A ts.length c] 25))
  have K := Lib.hid (rcheck_ A c last ts _ HT.out.r HT.out.c HT.out.l HT.out.w)
  have HB := Aside0.mk (box_below w last A ts.length c)
  clear h
  rcases errB_cases last ts with ⟨ho, he⟩ | ⟨ho, he⟩
  · rw [he] at K
    by_cases h0 : ts.length = 0
    · rw [usual_none ho h0]
      have t0 : ((ts.length : Int) == 0) = true := beq_iff_eq.2 (by omega)
      clear ho he h0
      go_enter Try.func19, Try.ntmps19
      go_wp2_with fail
      (with_reducible refine K.out.mono ?_)
      rintro e w1 ⟨rfl, hb⟩
      obtain ⟨c0, c1⟩ := boxed hb
      have HB := Aside0.mk (below_then HB.out HB.out.size hb)
      clear hb
      go_wp2_with fail
      go_ret2
      exact ⟨rfl, HB.out⟩
    · rw [usual_some ho h0]
      have t0 : ((ts.length : Int) == 0) = false := beq_eq_false_iff_ne.2 (by omega)
      obtain ⟨⟨m, k⟩, hm⟩ : ∃ p, meanR ts = p := ⟨_, rfl⟩
      rw [hm]
      have HM := Aside0.mk hm
      clear ho he h0 hm
      go_enter Try.func19, Try.ntmps19
      go_wp2_with fail
      (with_reducible refine K.out.mono ?_)
      rintro e w1 ⟨rfl, hb⟩
      obtain ⟨c0, c1⟩ := boxed hb
      have HT1 := Aside0.mk (HT.out.below hb)
      have HB := Aside0.mk (below_then HB.out HB.out.size hb)
      clear hb
      go_wp2_with fail
      (with_reducible refine (rmean_p HM.out HT1.out).mono ?_)
      rintro e w2 ⟨rfl, hb⟩
      have HB := Aside0.mk (below_then HB.out HB.out.size hb)
      clear hb
      go_wp2_with fail
      go_ret2
      exact ⟨rfl, HB.out⟩
  · rw [he] at K
    rw [usual_no ho]
    clear ho he
    go_enter Try.func19, Try.ntmps19
    go_wp2_with fail
    (with_reducible refine K.out.mono ?_)
    rintro e w1 ⟨rfl, hb⟩
    have HB := Aside0.mk (below_then HB.out HB.out.size hb)
    clear hb
    go_wp2_with fail
    go_ret2
    exact ⟨rfl, HB.out⟩
theorem errN_cases (last : Int) (ts : List Nat) (now : Int) : (okN last ts now ∧ errN last ts now = 0) ∨ (¬ okN last ts now ∧ errN last ts now = 2) := by
  by_cases h : okN last ts now
  · exact .inl ⟨h, errN_yes h⟩
  · exact .inr ⟨h, errN_no h⟩
theorem usual_p {A : Option Addr} {c : Nat} {last : Int} {ts : List Nat} {w : World} {u : Nat} {k : Int} (hp : usualR last ts = (u, k)) (h : Bt w A c ts) : Calls Try.prog 11 #[.agg #[.int .i64 last, .slice A ts.length c]] w fun e w' => e = .returned (.tuple #[.float .f64 u, .int .i64 k]) ∧ Below w.heap.size w w' := by
  have := usual_ (last := last) h
  rw [hp] at this
  exact this
theorem rusual_p {A : Option Addr} {c : Nat} {last : Int} {ts : List Nat} {w : World} {u : Nat} {k : Int} (hp : usualR last ts = (u, k)) (h : Bt w A c ts) : Calls Try.prog 19 #[.agg #[.int .i64 last, .slice A ts.length c]] w fun e w' => e = .returned (.tuple #[.float .f64 u, .int .i64 k]) ∧ Below w.heap.size w w' := by
  have := rusual_ (last := last) h
  rw [hp] at this
  exact this
theorem share_p {a b s : Nat} {k : Int} (ha : a < full) (hb : b < full) (hp : shareR a b = (s, k)) (w : World) : Calls Try.prog 34 #[.float .f64 a, .float .f64 b] w fun e w' => e = .returned (.tuple #[.float .f64 s, .int .i64 k]) ∧ w = w' := by
  have := share a b ha hb w
  rw [hp] at this
  exact this
theorem rshare_p {a b s : Nat} {k : Int} (ha : a < full) (hb : b < full) (hp : shareR a b = (s, k)) (w : World) : Calls Try.prog 42 #[.float .f64 a, .float .f64 b] w fun e w' => e = .returned (.tuple #[.float .f64 s, .int .i64 k]) ∧ w = w' := by
  have := rshare a b ha hb w
  rw [hp] at this
  exact this
theorem since_eq {now last : Int} {d : Nat} (h : (d : Int) = now - last) (hd : d < 9007199254740992) : floatOfInt .f64 (now - last) = wi d := by rw [← h]; exact ofInt_eq hd
theorem zero_test {d : Nat} (hd : d < 9007199254740992) : (FloatKind.f64.format.order (wi d) 0 == some .eq) = decide (d = 0) := by
  by_cases h : d = 0
  · subst h
    rw [wi_zero]
    exact (zero_eq (by decide)).trans (decide_eq_true rfl).symm
  · rw [decide_eq_false h]
    exact zero_ne (by rw [(wi_rung hd).1]; exact wi_pos hd (by omega))
set_option maxHeartbeats 4000000 in
theorem score_ {A : Option Addr} {c : Nat} {last : Int} {ts : List Nat} {now : Int} {w : World} (h : Bt w A c ts) :
    Calls Try.prog 12 #[.agg #[.int .i64 last, .slice A ts.length c], .int .i64 now] w (TupB (scoreR last ts now) w) := by
  have HT := Aside0.mk (h.alloc (.cells #[.int .i64 last, .slice A ts.length c] 25))
  have K := Lib.hid (right_ A c last ts now _ HT.out.r HT.out.c HT.out.l HT.out.w)
  have HB := Aside0.mk (box_below w last A ts.length c)
  clear h
  rcases errN_cases last ts now with ⟨ho, he⟩ | ⟨ho, he⟩
  · rw [he] at K
    obtain ⟨u, hu, hui⟩ := usual_low ho.1
    obtain ⟨hd1, hd2⟩ := okN_d ho
    obtain ⟨d, hd⟩ : ∃ d, (now - last).toNat = d := ⟨_, rfl⟩
    have HS0 := Lib.hid (since_eq (hd ▸ hd1 : (d : Int) = now - last) (hd ▸ hd2))
    have hdn : d < 9007199254740992 := hd ▸ hd2
    have Z := Lib.hid (zero_test hdn)
    have wf := (wi_rung hdn).2.2
    have uf := (low_word hui).2.2
    have hdz : d = 0 ↔ now = last := by omega
    have HU := Aside0.mk hu
    have hw : wrap64 (now - last) = now - last := by
      have := ho.1.1; have := ho.2.1; have := ho.2.2
      unfold wrap64; omega
    have HW := Lib.hid hw
    obtain ⟨⟨r, kr⟩, hr2⟩ : ∃ p, scoreR last ts now = p := ⟨_, rfl⟩
    rw [hr2]
    by_cases h0 : u = 0
    · have SH := Lib.hid (fun w => share_p wf uf (share_none h0) w)
      by_cases hz : d = 0
      · obtain ⟨rfl, rfl⟩ := Prod.mk.inj (hr2.symm.trans (score_same ho (hdz.1 hz)))
        have t9 := Z.out.trans (decide_eq_true hz)
        clear hd2 hd1 hd ho he hu hui hdn wf uf hdz hw hr2 h0 hz
        go_enter Try.func12, Try.ntmps12
        go_wp2_with fail
        (with_reducible refine K.out.mono ?_)
        rintro e w1 ⟨rfl, hb⟩
        obtain ⟨c0, c1⟩ := boxed hb
        have HT1 := Aside0.mk (HT.out.below hb)
        have HB := Aside0.mk (below_then HB.out HB.out.size hb)
        clear hb
        go_wp2_with fail
        (with_reducible refine (usual_p HU.out HT1.out).mono ?_)
        rintro e w2 ⟨rfl, hb⟩
        have HB := Aside0.mk (below_then HB.out HB.out.size hb)
        replace c0 := pw_cell_below hb c0
        replace c1 := pw_cell_below hb c1
        clear hb
        go_wp2_with fail
        rw [HW.out, HS0.out]
        (with_reducible refine (SH.out _).mono ?_)
        rintro e w' ⟨rfl, rfl⟩
        go_wp2_with fail
        go_ret2
        exact ⟨rfl, HB.out⟩
      · obtain ⟨rfl, rfl⟩ := Prod.mk.inj (hr2.symm.trans (score_inf ho (fun e => hz (hdz.2 e)) hu h0))
        have t9 := Z.out.trans (decide_eq_false hz)
        clear hd2 hd1 hd ho he hu hui hdn wf uf hdz hw hr2 h0 hz
        go_enter Try.func12, Try.ntmps12
        go_wp2_with fail
        (with_reducible refine K.out.mono ?_)
        rintro e w1 ⟨rfl, hb⟩
        obtain ⟨c0, c1⟩ := boxed hb
        have HT1 := Aside0.mk (HT.out.below hb)
        have HB := Aside0.mk (below_then HB.out HB.out.size hb)
        clear hb
        go_wp2_with fail
        (with_reducible refine (usual_p HU.out HT1.out).mono ?_)
        rintro e w2 ⟨rfl, hb⟩
        have HB := Aside0.mk (below_then HB.out HB.out.size hb)
        replace c0 := pw_cell_below hb c0
        replace c1 := pw_cell_below hb c1
        clear hb
        go_wp2_with fail
        rw [HW.out, HS0.out]
        (with_reducible refine (SH.out _).mono ?_)
        rintro e w' ⟨rfl, rfl⟩
        go_wp2_with (go_at_call 35; (with_reducible refine (inf_ _).mono ?_); rintro e w' ⟨rfl, rfl⟩)
        go_ret2
        exact ⟨rfl, HB.out⟩
    · obtain ⟨s, hs, hsi, hs0⟩ := share_low hdn hui h0
      have SH := Lib.hid (fun w => share_p wf uf hs w)
      have hsr : scoreR last ts now = (s, 0) := by
        by_cases hz : d = 0
        · rw [score_same ho (hdz.1 hz), hs0 hz]
        · exact score_share ho (fun e => hz (hdz.2 e)) hu h0 (hd ▸ hs)
      obtain ⟨rfl, rfl⟩ := Prod.mk.inj (hr2.symm.trans hsr)
      clear hd2 hd1 hd ho he hu hui hdn wf uf hdz hw hr2 h0 hs hsi hs0 hsr
      go_enter Try.func12, Try.ntmps12
      go_wp2_with fail
      (with_reducible refine K.out.mono ?_)
      rintro e w1 ⟨rfl, hb⟩
      obtain ⟨c0, c1⟩ := boxed hb
      have HT1 := Aside0.mk (HT.out.below hb)
      have HB := Aside0.mk (below_then HB.out HB.out.size hb)
      clear hb
      go_wp2_with fail
      (with_reducible refine (usual_p HU.out HT1.out).mono ?_)
      rintro e w2 ⟨rfl, hb⟩
      have HB := Aside0.mk (below_then HB.out HB.out.size hb)
      replace c0 := pw_cell_below hb c0
      replace c1 := pw_cell_below hb c1
      clear hb
      go_wp2_with fail
      rw [HW.out, HS0.out]
      (with_reducible refine (SH.out _).mono ?_)
      rintro e w' ⟨rfl, rfl⟩
      go_wp2_with fail
      go_ret2
      exact ⟨rfl, HB.out⟩
  · rw [he] at K
    rw [score_no ho]
    clear ho he
    go_enter Try.func12, Try.ntmps12
    go_wp2_with fail
    (with_reducible refine K.out.mono ?_)
    rintro e w1 ⟨rfl, hb⟩
    have HB := Aside0.mk (below_then HB.out HB.out.size hb)
    clear hb
    go_wp2_with fail
    go_ret2
    exact ⟨rfl, HB.out⟩
end Go.Proofs.Ytlifioeeooclfaa.Rl
