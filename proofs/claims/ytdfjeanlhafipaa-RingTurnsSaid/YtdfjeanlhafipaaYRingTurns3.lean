/- The contracts of ring.With and ring.Without. Conditions: lists that fit in memory. · ring.With and ring.Without, for the print. Conditions: none. · A ring with a node more, or less: who keeps a word, plain. Conditions: a ring that may be. · The contract of the reference's Without. Conditions: lists that fit in memory. · Written by a program of this session over the kit's print: functions and their contracts. · Written by a program of this session over the kit's print: functions and their contracts. -/
import Derived.Test.YtdfjeanlhafipaaYRingTurns2
import Derived.Test.YtdfjeanlhafipaaYRingTurns1
import Derived.Test.YtdfjeanlhafipaaProg
import Derived.Below
import Derived.Deep.Draws
import Derived.Deep.AppendLies
import Derived.Maps.AppendAt
import Derived.OwnWalk
import Derived.Laws.BytesArg
import Derived.Laws.MakeOwn
import Derived.Laws.OwnMore
import Derived.Deep.OwnRows
import Derived.Tactics
import Derived.Lib.ConvBytes
import Derived.Laws.Slices
import Derived.WalkKit
import Derived.KernelRfl
import Derived.RowKit3
import Derived.Deep.LoopGhost
import Derived.Deep.QuietTactic
import Derived.BigQuiet
import Derived.WideLaws
import Derived.Deep.DeepCutAuto
import Derived.Deep.CutBlock
import Derived.Deep.RegionHeld3
import Derived.Laws.Rows
import Derived.Lib.AppendStr
import Derived.ArgAppend
import Derived.Laws.IdiomCopy
import Derived.OrdersHeld
import Derived.Laws.BitsLemmas
import Derived.RowKit
import Derived.Test.YtdfjeanlhafipaaYRingTurns0

namespace Go.Proofs.Ytdfjeanlhafipaa.Hs
open Go.ChangeShapes Go.WideShapes Go.ChangeAt Go.RowKit Go.Proofs.Ytdfjeanlhafipaa.QH Go.Proofs.Ytdfjeanlhafipaa.Lex
open Go.Proofs.YtdfjeanlhafipaaW.PrintWords Go.Proofs.YtdfjeanlhafipaaW.PrintLast Go.Proofs.YtdfjeanlhafipaaW.PrintMore
set_option linter.unusedVariables false
set_option linter.unusedSimpArgs false
theorem contains_c {A : Option Addr} {c : Nat} {l : List Int} {w : World} (hr : Kd.C (Kd.int .i64) w A l.length l) (hc : l.length ≤ c) (x : Int) : Calls Try.prog 48 #[.slice A l.length c, .int .i64 x] w fun e w' => e = .returned (.bool (decide (x ∈ l))) ∧ Drawn0 w w' := by
  obtain ⟨K, hK⟩ := contains_ev l x hr.2.1
  exact slices_Contains_int_int.calls K A c l x _ w hr hc (hK K (Nat.le_refl K))
abbrev zR : Obj := .cells #[.slice none 0 0, .int .i64 0, .int .i64 0] TR
theorem z_blk (w : World) (o : Obj) : ((w.alloc o).alloc zR).heap[w.heap.size + 1]? = some (.cells #[.slice none 0 0, .int .i64 0, .int .i64 0] TR (0, 0)) := by
  have e := size_alloc' w o
  rw [← e]
  exact blk_new _ _
/-- a result's cells, all three laid -/
theorem put3 {w : World} {g : Nat} {a b c x y z : Value} (h : w.heap[g]? = some (.cells #[a, b, c] TR (0, 0))) : (((w.setCell ⟨g, 0, none⟩ x).setCell ⟨g, 1, none⟩ y).setCell ⟨g, 2, none⟩ z).heap[g]? = some (.cells #[x, y, z] TR (0, 0)) :=
  blk_put (cs := #[x, y, c]) (blk_put (cs := #[x, b, c]) (blk_put h 0 x rfl) 1 y rfl) 2 z rfl
set_option maxHeartbeats 4000000 in
set_option maxRecDepth 100000 in
theorem with_bad {A : Option Addr} {c : Nat} {l : List Int} {w : World} (each keep node : Int) (hr : Kd.C (Kd.int .i64) w A l.length l) (hc : l.length ≤ c) (hb : node < 0 ∨ node > 1048575 ∨ node ∈ l) :
    Calls Try.prog 28 #[.agg #[.slice A l.length c, .int .i64 each, .int .i64 keep], .int .i64 node] w (Rng w (([], 0, 0), 2)) := by
  have hu := Try.underlying24
  have HR := Aside0.mk (Kd.C_alloc (Kd.C_alloc hr (.cells #[.slice A l.length c, .int .i64 each, .int .i64 keep] TR)) zR)
  have HB := Aside0.mk (below_alloc (below_alloc (Below.refl w.heap.size w) (.cells #[.slice A l.length c, .int .i64 each, .int .i64 keep] TR)) zR)
  have BZ := Aside0.mk (z_blk w (.cells #[.slice A l.length c, .int .i64 each, .int .i64 keep] TR))
  have BK := Aside0.mk (blk_alloc (blk_new w (.cells #[.slice A l.length c, .int .i64 each, .int .i64 keep] TR)) zR)
  clear hr
  by_cases h0 : node < 0
  · have t0 : decide (node < 0) = true := decide_eq_true h0
    clear hb h0
    go_enter Try.func28, Try.ntmps28
    go_wp2_with fail
    refine bodyPost_ret (results_ct rfl _ _ (w.heap.size + 1) TR #[.slice none 0 0, .int .i64 0, .int .i64 0] (0, 0) _ rfl BZ.out hu rfl (by kernel_rfl)) rfl ?_
    exact ⟨none, 0, rfl, Nat.le_refl _, Kd.R_nil _ _ _ _ _, HB.out⟩
  · have t0 : decide (node < 0) = false := decide_eq_false h0
    by_cases h1 : node > 1048575
    · have t1 : decide ((1048575 : Int) < node) = true := decide_eq_true h1
      clear hb h0 h1
      go_enter Try.func28, Try.ntmps28
      go_wp2_with fail
      refine bodyPost_ret (results_ct rfl _ _ (w.heap.size + 1) TR #[.slice none 0 0, .int .i64 0, .int .i64 0] (0, 0) _ rfl BZ.out hu rfl (by kernel_rfl)) rfl ?_
      exact ⟨none, 0, rfl, Nat.le_refl _, Kd.R_nil _ _ _ _ _, HB.out⟩
    · have t1 : decide ((1048575 : Int) < node) = false := decide_eq_false h1
      have hin : node ∈ l := by
        rcases hb with h | h | h
        · exact absurd h h0
        · exact absurd h h1
        · exact h
      have HD := Aside0.mk (decide_eq_true hin)
      clear hb h0 h1 hin
      go_enter Try.func28, Try.ntmps28
      go_upto_region 1 with fail
      generalize hg2 : w.heap.size + 1 = g2 at *
      have HG2 := Aside0.mk hg2
      generalize ((w.alloc (.cells #[.slice A l.length c, .int .i64 each, .int .i64 keep] TR)).alloc zR) = W at *
      obtain ⟨c0, c1, c2⟩ := ring_cells BK.out
      clear hg2
      go_wp2_with fail
      (with_reducible refine (contains_c HR.out hc node).mono ?_)
      rw [HD.out]
      rintro e w1 ⟨rfl, hd⟩
      have HB1 := Aside0.mk (below_then HB.out HB.out.size hd.below)
      have BZ1 := Aside0.mk (blk_below BZ.out hd.below)
      obtain ⟨z0, z1, z2⟩ := ring_cells BZ1.out
      have f0 := blk_frozen BZ1.out 0
      have f1 := blk_frozen BZ1.out 1
      have f2 := blk_frozen BZ1.out 2
      clear hd c0 c1 c2
      go_wp2_with fail
      refine bodyPost_ret (results_ct rfl _ _ g2 TR #[.slice none 0 0, .int .i64 0, .int .i64 0] (0, 0) _ rfl (put3 BZ1.out) hu rfl (by kernel_rfl)) rfl ?_
      have hg := HG2.out
      exact ⟨none, 0, rfl, Nat.le_refl _, Kd.R_nil _ _ _ _ _, ((HB1.out.setCell (by simp; omega) _).setCell (by simp; omega) _).setCell (by simp; omega) _⟩
/-- a row behind the stores into a ring's block -/
theorem R_put3 {w : World} {base g : Nat} {v : Value} {l : List Int} {ok : Nat → Prop} {a b c x y z : Value} (h : Kd.R (Kd.int .i64) 3 w base ok v l) (hg : w.heap[g]? = some (.cells #[a, b, c] TR (0, 0))) :
    Kd.R (Kd.int .i64) 3 (((w.setCell ⟨g, 0, none⟩ x).setCell ⟨g, 1, none⟩ y).setCell ⟨g, 2, none⟩ z) base ok v l :=
  Kd.R_mono (Kd.R_far (p := ⟨g, 2, none⟩) (Kd.R_far (p := ⟨g, 1, none⟩) (Kd.R_far (p := ⟨g, 0, none⟩) (Kd.R_types h hg (by decide)) (fun _ hk => hk.2) x) (fun _ hk => hk.2) y) (fun _ hk => hk.2) z) (fun _ hk => hk.1)
theorem R_put1 {w : World} {base g : Nat} {v : Value} {l : List Int} {ok : Nat → Prop} {a b c x : Value} (h : Kd.R (Kd.int .i64) 3 w base ok v l) (hg : w.heap[g]? = some (.cells #[a, b, c] TR (0, 0))) :
    Kd.R (Kd.int .i64) 3 (w.setCell ⟨g, 0, none⟩ x) base ok v l :=
  Kd.R_mono (Kd.R_far (p := ⟨g, 0, none⟩) (Kd.R_types h hg (by decide)) (fun _ hk => hk.2) x) (fun _ hk => hk.1)
/-- the ring whose nodes lie in a row of its own, looked at and handed back: what both end with -/
theorem checked_c {w w0 : World} {B : Nat} {A : Option Addr} {d : Nat} {l : List Int} (each keep : Int) (hB : Below w0.heap.size w0 w) (ho : Kd.R (Kd.int .i64) 3 w w0.heap.size (fun k => B ≤ k) (.slice A l.length d) l) (hl : l.length ≤ 9223372036854775807) :
    Calls Try.prog 47 #[.agg #[.slice A l.length d, .int .i64 each, .int .i64 keep]] w fun e w' => ∃ C f, e = .returned (.tuple #[.agg #[.slice C (ringV l each keep).1.1.length f, .int .i64 (ringV l each keep).1.2.1, .int .i64 (ringV l each keep).1.2.2], .int .i64 (ringV l each keep).2]) ∧ Kd.R (Kd.int .i64) 3 w' w0.heap.size (fun _ => True) (.slice C (ringV l each keep).1.1.length f) (ringV l each keep).1.1 ∧ Below w0.heap.size w0 w' ∧ Kept w w' (fun k => B ≤ k) := by
  obtain ⟨K, hK⟩ := checked_f l hl each keep
  refine (ring_checked.calls K (fun k => B ≤ k) _ l each keep _ _ _ _ w0 w hB ho (hK K (Nat.le_refl K))).mono ?_
  rintro e w' ⟨v, rfl, hR, hb, hk⟩
  obtain ⟨C, f, rfl⟩ := Kd.R_slice hR
  exact ⟨C, f, rfl, Kd.R_mono hR (fun _ _ => trivial), hb, hk⟩
set_option maxHeartbeats 4000000 in
set_option maxRecDepth 100000 in
theorem with_ok {A : Option Addr} {c : Nat} {l : List Int} {w : World} (each keep node : Int) (hr : Kd.C (Kd.int .i64) w A l.length l) (hc : l.length ≤ c) (h0 : ¬ node < 0) (h1 : ¬ node > 1048575) (hni : node ∉ l) (hl : l.length ≤ 17592186040000) :
    Calls Try.prog 28 #[.agg #[.slice A l.length c, .int .i64 each, .int .i64 keep], .int .i64 node] w (Rng w (ringV (insL l node) each keep)) := by
  have hu := Try.underlying24
  have HR := Aside0.mk (Kd.C_alloc (Kd.C_alloc hr (.cells #[.slice A l.length c, .int .i64 each, .int .i64 keep] TR)) zR)
  have HB := Aside0.mk (below_alloc (below_alloc (Below.refl w.heap.size w) (.cells #[.slice A l.length c, .int .i64 each, .int .i64 keep] TR)) zR)
  have BZ := Aside0.mk (z_blk w (.cells #[.slice A l.length c, .int .i64 each, .int .i64 keep] TR))
  have BK := Aside0.mk (blk_alloc (blk_new w (.cells #[.slice A l.length c, .int .i64 each, .int .i64 keep] TR)) zR)
  have t0 : decide (node < 0) = false := decide_eq_false h0
  have t1 : decide ((1048575 : Int) < node) = false := decide_eq_false h1
  have HD := Aside0.mk (decide_eq_false hni)
  clear hr h0 h1 hni
  obtain ⟨R, hR⟩ : ∃ R, R = ringV (insL l node) each keep := ⟨_, rfl⟩
  have HRv := Aside0.mk hR
  rw [← hR]
  clear hR
  go_enter Try.func28, Try.ntmps28
  go_upto_region 1 with fail
  generalize hg2 : w.heap.size + 1 = g2 at *
  have HG2 := Aside0.mk hg2
  generalize ((w.alloc (.cells #[.slice A l.length c, .int .i64 each, .int .i64 keep] TR)).alloc zR) = W at *
  obtain ⟨c0, c1, c2⟩ := ring_cells BK.out
  clear hg2
  go_wp2_with fail
  (with_reducible refine (contains_c HR.out hc node).mono ?_)
  rw [HD.out]
  rintro e w1 ⟨rfl, hd⟩
  have HB1 := Aside0.mk (below_then HB.out HB.out.size hd.below)
  have HR1 := Aside0.mk (Kd.C_below HR.out hd.below)
  have BZ1 := Aside0.mk (blk_below BZ.out hd.below)
  have BK1 := Aside0.mk (blk_below BK.out hd.below)
  clear hd c0 c1 c2 HB HR BZ BK t0 t1
  obtain ⟨c0, c1, c2⟩ := ring_cells BK1.out
  go_wp2_with fail
  go_loopg [6] l.length (fun q vi w' => ∃ k : Nat, vi = .int .i64 k ∧ k ≤ l.length ∧ q = l.length - k ∧ Aside0 (∀ m (hm : m < k) (h : m < l.length), l[m] < node) ∧ w' = w1)
  case atStart => exact ⟨0, rfl, Nat.zero_le _, rfl, ⟨fun m hm => absurd hm (Nat.not_lt_zero m)⟩, rfl⟩
  case round =>
    obtain ⟨k, rfl, hk, rfl, HM, rfl⟩ := hrel
    by_cases hgo : ∃ h : k < l.length, l[k] < node
    · obtain ⟨hlt, hx⟩ := hgo
      obtain ⟨b0, off, hA, hcl⟩ := Hlp.C_block HR1.out (by omega)
      have hcell := hcl k hlt
      subst hA
      have t2 : decide ((k : Int) < (l.length : Int)) = true := decide_eq_true (by omega)
      have t3 : decide (l[k] < node) = true := decide_eq_true hx
      have HX := Aside0.mk hx
      clear hcl hx
      go_wp2_with fail
      go_roundg (l.length - (k + 1))
      case measure => omega
      case rel => exact ⟨k + 1, by go_num, hlt, rfl, ⟨fun m hm h => by
        by_cases hmk : m = k
        · subst hmk; exact HX.out
        · exact HM.out m (by omega) h⟩, rfl⟩
    · have hins := tw_dw hk HM.out (fun h hx => hgo ⟨h, hx⟩)
      have HI := Aside0.mk hins
      have HGo := Aside0.mk hgo
      clear hins hgo HM
      by_cases hlt : k < l.length
      case pos =>
        obtain ⟨b0, off, hA, hcl⟩ := Hlp.C_block HR1.out (by omega)
        have hcell := hcl k hlt
        subst hA
        have t2 : decide ((k : Int) < (l.length : Int)) = true := decide_eq_true (by omega)
        have t3 : decide (l[k] < node) = false := decide_eq_false (fun hx => HGo.out ⟨hlt, hx⟩)
        clear hcl
        go_wp2_with fail
        clear hcell t2 t3
        (with_reducible refine (clone_ HR1.out (by omega)).mono ?_)
        rintro e w2 ⟨v, rfl, hR, hb⟩
        have HB2 := Aside0.mk (below_then HB1.out HB1.out.size hb)
        have BK2 := Aside0.mk (blk_below BK1.out hb)
        have BZ2 := Aside0.mk (blk_below BZ1.out hb)
        have HBl := Aside0.mk hb
        have HO2 := Aside0.mk (Kd.R_alloc (Kd.R_mono (Kd.R_bound hR) (ok' := fun k => k ≠ w2.heap.size) (fun q hq => Nat.ne_of_lt hq.2.2.1)) (.cells #[.int .i64 node] 3))
        clear hb hR c0 c1 c2
        go_wp2_with fail
        (with_reducible refine (insert_any (w0 := wr) k HO2.out hk (blk_new w2 _) (by omega) (below_alloc HBl.out _) (Nat.le_trans HBl.out.size (by rw [size_alloc']; omega))).mono ?_)
        rw [HI.out]
        rintro e w3 ⟨v3, rfl, hR3, hb3⟩
        obtain ⟨C3, f3, hv3⟩ := Kd.R_slice hR3
        subst hv3
        have HB3 := Aside0.mk (below_then HB1.out HB1.out.size hb3)
        have BK3 := Aside0.mk (blk_below BK1.out hb3)
        have BZ3 := Aside0.mk (blk_below BZ1.out hb3)
        have HO3 := Aside0.mk (Kd.R_mono (Kd.R_bound hR3) (ok' := fun q => wr.heap.size ≤ q) (fun q hq => hq.2.1))
        have hs1 := HB1.out.size
        clear hb3 hR3
        obtain ⟨c0, c1, c2⟩ := ring_cells BK3.out
        have f0 := blk_frozen BK3.out 0
        obtain ⟨m, hm⟩ : ∃ m, insL l node = m := ⟨_, rfl⟩
        have HM := Aside0.mk hm
        have hml : m.length = l.length + 1 := by rw [← hm, ← HI.out, List.length_append, List.length_cons, List.length_take, List.length_drop]; omega
        have HMl := Aside0.mk hml
        rw [hm] at HO3 HRv ⊢
        clear hm hml
        go_wp2_with fail
        have HO4 := Aside0.mk (R_put1 (x := .slice C3 m.length f3) (Kd.R_lower HO3.out hs1) BK3.out)
        have hg2 := HG2.out
        have hgz := blk_lt BZ1.out
        have HB4 := Aside0.mk (HB3.out.setCell (p := ⟨w.heap.size, 0, none⟩) (Nat.le_refl _) (.slice C3 m.length f3))
        have BZ4 := Aside0.mk (blk_far BZ3.out (p := ⟨w.heap.size, 0, none⟩) (by simp; omega) (.slice C3 m.length f3))
        (with_reducible refine (checked_c (w0 := w) (B := wr.heap.size) each keep HB4.out HO4.out (by have := HMl.out; omega)).mono ?_)
        rw [← HRv.out]
        rintro e w5 ⟨C5, f5, rfl, hR5, hb5, hk5⟩
        have HB5 := Aside0.mk hb5
        have HO5 := Aside0.mk hR5
        have BZ5 := Aside0.mk (blk_kept BZ4.out hk5 (by omega))
        have hd5 := (Kd.R_reads' hR5).2.1
        clear hR5 hb5 hk5 c0 c1 c2 f0
        obtain ⟨z0, z1, z2⟩ := ring_cells BZ5.out
        have g0 := blk_frozen BZ5.out 0
        have g1 := blk_frozen BZ5.out 1
        have g3 := blk_frozen BZ5.out 2
        go_wp2_with fail
        refine bodyPost_ret (results_ct rfl _ _ g2 TR #[.slice C5 R.1.1.length f5, .int .i64 R.1.2.1, .int .i64 R.1.2.2] (0, 0) _ rfl (put3 BZ5.out) hu rfl (by kernel_rfl)) rfl ?_
        exact ⟨C5, f5, rfl, hd5, R_put3 HO5.out BZ5.out, ((HB5.out.setCell (by simp; omega) _).setCell (by simp; omega) _).setCell (by simp; omega) _⟩
      case neg =>
        have t2 : decide ((k : Int) < (l.length : Int)) = false := decide_eq_false (by omega)
        have t4 : decide (k < l.length) = false := decide_eq_false hlt
        go_wp2_with fail
        clear t2 t4
        (with_reducible refine (clone_ HR1.out (by omega)).mono ?_)
        rintro e w2 ⟨v, rfl, hR, hb⟩
        have HB2 := Aside0.mk (below_then HB1.out HB1.out.size hb)
        have BK2 := Aside0.mk (blk_below BK1.out hb)
        have BZ2 := Aside0.mk (blk_below BZ1.out hb)
        have HBl := Aside0.mk hb
        have HO2 := Aside0.mk (Kd.R_alloc (Kd.R_mono (Kd.R_bound hR) (ok' := fun k => k ≠ w2.heap.size) (fun q hq => Nat.ne_of_lt hq.2.2.1)) (.cells #[.int .i64 node] 3))
        clear hb hR c0 c1 c2
        go_wp2_with fail
        (with_reducible refine (insert_any (w0 := wr) k HO2.out hk (blk_new w2 _) (by omega) (below_alloc HBl.out _) (Nat.le_trans HBl.out.size (by rw [size_alloc']; omega))).mono ?_)
        rw [HI.out]
        rintro e w3 ⟨v3, rfl, hR3, hb3⟩
        obtain ⟨C3, f3, hv3⟩ := Kd.R_slice hR3
        subst hv3
        have HB3 := Aside0.mk (below_then HB1.out HB1.out.size hb3)
        have BK3 := Aside0.mk (blk_below BK1.out hb3)
        have BZ3 := Aside0.mk (blk_below BZ1.out hb3)
        have HO3 := Aside0.mk (Kd.R_mono (Kd.R_bound hR3) (ok' := fun q => wr.heap.size ≤ q) (fun q hq => hq.2.1))
        have hs1 := HB1.out.size
        clear hb3 hR3
        obtain ⟨c0, c1, c2⟩ := ring_cells BK3.out
        have f0 := blk_frozen BK3.out 0
        obtain ⟨m, hm⟩ : ∃ m, insL l node = m := ⟨_, rfl⟩
        have HM := Aside0.mk hm
        have hml : m.length = l.length + 1 := by rw [← hm, ← HI.out, List.length_append, List.length_cons, List.length_take, List.length_drop]; omega
        have HMl := Aside0.mk hml
        rw [hm] at HO3 HRv ⊢
        clear hm hml
        go_wp2_with fail
        have HO4 := Aside0.mk (R_put1 (x := .slice C3 m.length f3) (Kd.R_lower HO3.out hs1) BK3.out)
        have hg2 := HG2.out
        have hgz := blk_lt BZ1.out
        have HB4 := Aside0.mk (HB3.out.setCell (p := ⟨w.heap.size, 0, none⟩) (Nat.le_refl _) (.slice C3 m.length f3))
        have BZ4 := Aside0.mk (blk_far BZ3.out (p := ⟨w.heap.size, 0, none⟩) (by simp; omega) (.slice C3 m.length f3))
        (with_reducible refine (checked_c (w0 := w) (B := wr.heap.size) each keep HB4.out HO4.out (by have := HMl.out; omega)).mono ?_)
        rw [← HRv.out]
        rintro e w5 ⟨C5, f5, rfl, hR5, hb5, hk5⟩
        have HB5 := Aside0.mk hb5
        have HO5 := Aside0.mk hR5
        have BZ5 := Aside0.mk (blk_kept BZ4.out hk5 (by omega))
        have hd5 := (Kd.R_reads' hR5).2.1
        clear hR5 hb5 hk5 c0 c1 c2 f0
        obtain ⟨z0, z1, z2⟩ := ring_cells BZ5.out
        have g0 := blk_frozen BZ5.out 0
        have g1 := blk_frozen BZ5.out 1
        have g3 := blk_frozen BZ5.out 2
        go_wp2_with fail
        refine bodyPost_ret (results_ct rfl _ _ g2 TR #[.slice C5 R.1.1.length f5, .int .i64 R.1.2.1, .int .i64 R.1.2.2] (0, 0) _ rfl (put3 BZ5.out) hu rfl (by kernel_rfl)) rfl ?_
        exact ⟨C5, f5, rfl, hd5, R_put3 HO5.out BZ5.out, ((HB5.out.setCell (by simp; omega) _).setCell (by simp; omega) _).setCell (by simp; omega) _⟩
theorem index_l1 (l : List Int) (x : Int) (hl : l.length ≤ 9223372036854775807) : ∀ (n i : Nat), l.length - i = n → i ≤ l.length →
    Since (fun k => slices_Index_int_int.l0 k l x (l.length : Int) (i : Int)) (if x ∈ l.drop i then ((i + (l.drop i).idxOf x : Nat) : Int) else -1) := by
  intro n
  induction n with
  | zero =>
    intro i hn hi
    have hf : ¬ ((i : Int) < (l.length : Int)) := by omega
    rw [List.drop_eq_nil_of_le (by omega)]
    exact Since.none fun k => by simp only [slices_Index_int_int.l0, if_neg hf]; simp
  | succ n ih =>
    intro i hn hi
    have h1 : i < l.length := by omega
    have f1 : (i : Int) < (l.length : Int) := by omega
    have f0 : (0 : Int) ≤ (i : Int) := by omega
    have r1 : rd l (i : Int) = l[i] := by simp [rd, h1]
    have d := List.drop_eq_getElem_cons h1
    by_cases he : x = l[i]
    · refine Since.none fun k => ?_
      simp only [slices_Index_int_int.l0, if_pos f1, if_pos f0, r1, if_pos he]
      rw [d, if_pos (by rw [he]; exact List.mem_cons_self), he, List.idxOf_cons_self, Nat.add_zero]
    · refine Since.one (ih (i + 1) (by omega) (by omega)) fun k h => ?_
      simp only [slices_Index_int_int.l0, if_pos f1, if_pos f0, r1, if_neg he, w_succ i (by omega)]
      rw [h]
      congr 1
      have e1 : (x ∈ l.drop i) ↔ x ∈ l.drop (i + 1) := by rw [d, List.mem_cons]; exact ⟨fun h => h.resolve_left he, .inr⟩
      have e2 : (l.drop i).idxOf x = (l.drop (i + 1)).idxOf x + 1 := by rw [d, List.idxOf_cons, show (l[i] == x) = false from beq_eq_false_iff_ne.2 (fun e => he e.symm)]; rfl
      by_cases hm : x ∈ l.drop (i + 1)
      · rw [if_pos hm, if_pos (e1.2 hm), e2]
        congr 1
        omega
      · rw [if_neg hm, if_neg (fun h => hm (e1.1 h))]
def idxV (l : List Int) (x : Int) : Int := if x ∈ l then ((l.idxOf x : Nat) : Int) else -1
theorem index_c {A : Option Addr} {c : Nat} {l : List Int} {w : World} (hr : Kd.C (Kd.int .i64) w A l.length l) (hc : l.length ≤ c) (x : Int) : Calls Try.prog 44 #[.slice A l.length c, .int .i64 x] w fun e w' => e = .returned (.int .i64 (idxV l x)) ∧ Drawn0 w w' := by
  have h := index_l1 l x hr.2.1 _ 0 rfl (Nat.zero_le _)
  rw [List.drop_zero, Nat.zero_add] at h
  obtain ⟨K, hK⟩ := h
  refine slices_Index_int_int.calls K A c l x _ w hr hc ?_
  simp only [slices_Index_int_int.f]
  exact hK K (Nat.le_refl K)
def delL (l : List Int) (x : Int) : List Int := l.take (l.idxOf x) ++ l.drop (l.idxOf x + 1)
def withoutV (l : List Int) (each keep node : Int) : (List Int × Int × Int) × Int := if node ∈ l then ringV (delL l node) each keep else (([], 0, 0), 4)
set_option maxHeartbeats 4000000 in
set_option maxRecDepth 100000 in
theorem without_bad {A : Option Addr} {c : Nat} {l : List Int} {w : World} (each keep node : Int) (hr : Kd.C (Kd.int .i64) w A l.length l) (hc : l.length ≤ c) (hni : node ∉ l) :
    Calls Try.prog 27 #[.agg #[.slice A l.length c, .int .i64 each, .int .i64 keep], .int .i64 node] w (Rng w (([], 0, 0), 4)) := by
  have hu := Try.underlying24
  have HR := Aside0.mk (Kd.C_alloc (Kd.C_alloc hr (.cells #[.slice A l.length c, .int .i64 each, .int .i64 keep] TR)) zR)
  have HB := Aside0.mk (below_alloc (below_alloc (Below.refl w.heap.size w) (.cells #[.slice A l.length c, .int .i64 each, .int .i64 keep] TR)) zR)
  have BZ := Aside0.mk (z_blk w (.cells #[.slice A l.length c, .int .i64 each, .int .i64 keep] TR))
  have BK := Aside0.mk (blk_alloc (blk_new w (.cells #[.slice A l.length c, .int .i64 each, .int .i64 keep] TR)) zR)
  have HD := Aside0.mk (show idxV l node = -1 from if_neg hni)
  clear hr hni
  go_enter Try.func27, Try.ntmps27
  go_upto_region 1 with fail
  generalize hg2 : w.heap.size + 1 = g2 at *
  have HG2 := Aside0.mk hg2
  generalize ((w.alloc (.cells #[.slice A l.length c, .int .i64 each, .int .i64 keep] TR)).alloc zR) = W at *
  obtain ⟨c0, c1, c2⟩ := ring_cells BK.out
  clear hg2
  go_wp2_with fail
  (with_reducible refine (index_c HR.out hc node).mono ?_)
  rw [HD.out]
  rintro e w1 ⟨rfl, hd⟩
  have HB1 := Aside0.mk (below_then HB.out HB.out.size hd.below)
  have BZ1 := Aside0.mk (blk_below BZ.out hd.below)
  obtain ⟨z0, z1, z2⟩ := ring_cells BZ1.out
  have f0 := blk_frozen BZ1.out 0
  have f1 := blk_frozen BZ1.out 1
  have f2 := blk_frozen BZ1.out 2
  clear hd c0 c1 c2
  go_wp2_with fail
  refine bodyPost_ret (results_ct rfl _ _ g2 TR #[.slice none 0 0, .int .i64 0, .int .i64 0] (0, 0) _ rfl (put3 BZ1.out) hu rfl (by kernel_rfl)) rfl ?_
  have hg := HG2.out
  exact ⟨none, 0, rfl, Nat.le_refl _, Kd.R_nil _ _ _ _ _, ((HB1.out.setCell (by simp; omega) _).setCell (by simp; omega) _).setCell (by simp; omega) _⟩
set_option maxHeartbeats 4000000 in
set_option maxRecDepth 100000 in
theorem without_ok {A : Option Addr} {c : Nat} {l : List Int} {w : World} (each keep node : Int) (hr : Kd.C (Kd.int .i64) w A l.length l) (hc : l.length ≤ c) (hin : node ∈ l) (hl : l.length ≤ 17592186040000) :
    Calls Try.prog 27 #[.agg #[.slice A l.length c, .int .i64 each, .int .i64 keep], .int .i64 node] w (Rng w (ringV (delL l node) each keep)) := by
  have hu := Try.underlying24
  have HR := Aside0.mk (Kd.C_alloc (Kd.C_alloc hr (.cells #[.slice A l.length c, .int .i64 each, .int .i64 keep] TR)) zR)
  have HB := Aside0.mk (below_alloc (below_alloc (Below.refl w.heap.size w) (.cells #[.slice A l.length c, .int .i64 each, .int .i64 keep] TR)) zR)
  have BZ := Aside0.mk (z_blk w (.cells #[.slice A l.length c, .int .i64 each, .int .i64 keep] TR))
  have BK := Aside0.mk (blk_alloc (blk_new w (.cells #[.slice A l.length c, .int .i64 each, .int .i64 keep] TR)) zR)
  have hil := List.idxOf_lt_length_of_mem hin
  have hidx : idxV l node = ((l.idxOf node : Nat) : Int) := if_pos hin
  have hpos : 0 < l.length := List.length_pos_of_mem hin
  obtain ⟨R, hR⟩ : ∃ R, R = ringV (delL l node) each keep := ⟨_, rfl⟩
  have HRv := Aside0.mk hR
  have hdel : delL l node = l.take (l.idxOf node) ++ l.drop (l.idxOf node + 1) := rfl
  rw [← hR]
  clear hR hr hin
  obtain ⟨i, hi⟩ : ∃ i, l.idxOf node = i := ⟨_, rfl⟩
  rw [hi] at hil hidx hdel
  have HD := Aside0.mk hidx
  have HDel := Aside0.mk hdel
  clear hidx hdel hi
  go_enter Try.func27, Try.ntmps27
  go_upto_region 1 with fail
  generalize hg2 : w.heap.size + 1 = g2 at *
  have HG2 := Aside0.mk hg2
  generalize ((w.alloc (.cells #[.slice A l.length c, .int .i64 each, .int .i64 keep] TR)).alloc zR) = W at *
  obtain ⟨c0, c1, c2⟩ := ring_cells BK.out
  clear hg2
  go_wp2_with fail
  (with_reducible refine (index_c HR.out hc node).mono ?_)
  rw [HD.out]
  rintro e w1 ⟨rfl, hd⟩
  have HB1 := Aside0.mk (below_then HB.out HB.out.size hd.below)
  have HR1 := Aside0.mk (Kd.C_below HR.out hd.below)
  have BZ1 := Aside0.mk (blk_below BZ.out hd.below)
  have BK1 := Aside0.mk (blk_below BK.out hd.below)
  clear hd c0 c1 c2 HB HR BZ BK
  obtain ⟨c0, c1, c2⟩ := ring_cells BK1.out
  go_wp2_with fail
  (with_reducible refine (clone_ HR1.out (by omega)).mono ?_)
  rintro e w2 ⟨v, rfl, hR, hb⟩
  have HB2 := Aside0.mk (below_then HB1.out HB1.out.size hb)
  have BK2 := Aside0.mk (blk_below BK1.out hb)
  have BZ2 := Aside0.mk (blk_below BZ1.out hb)
  have HBl := Aside0.mk hb
  obtain ⟨g, cap, hv, hgb, hI⟩ : ∃ g cap, v = .slice (some ⟨g, 0, none⟩) l.length cap ∧ w1.heap.size ≤ g ∧ IB w2 g cap l := by
    rcases IB.of_R hR with ⟨_, h0⟩ | ⟨g, cap, hv, hb, _, hI⟩
    · rw [h0] at hpos; exact absurd hpos (by simp)
    · exact ⟨g, cap, hv, hb, hI⟩
  subst hv
  have HI := Aside0.mk hI
  have HGb := Aside0.mk hgb
  clear hb hR c0 c1 c2 hI hgb
  go_wp2_with fail
  (with_reducible refine (delete_ (w0 := w1) i HI.out hil HGb.out HBl.out HBl.out.size).mono ?_)
  rw [← HDel.out]
  rintro e w3 ⟨v3, rfl, hR3, hb3⟩
  obtain ⟨C3, f3, hv3⟩ := Kd.R_slice hR3
  subst hv3
  have HB3 := Aside0.mk (below_then HB1.out HB1.out.size hb3)
  have BK3 := Aside0.mk (blk_below BK1.out hb3)
  have BZ3 := Aside0.mk (blk_below BZ1.out hb3)
  have HO3 := Aside0.mk (Kd.R_mono (Kd.R_bound hR3) (ok' := fun q => w1.heap.size ≤ q) (fun q hq => hq.2.1))
  have hs1 := HB1.out.size
  clear hb3 hR3
  obtain ⟨c0, c1, c2⟩ := ring_cells BK3.out
  have f0 := blk_frozen BK3.out 0
  obtain ⟨m, hm⟩ : ∃ m, delL l node = m := ⟨_, rfl⟩
  have HM := Aside0.mk hm
  have hml : m.length ≤ l.length := by rw [← hm, HDel.out, List.length_append, List.length_take, List.length_drop]; omega
  have HMl := Aside0.mk hml
  rw [hm] at HO3 HRv ⊢
  clear hm hml
  go_wp2_with fail
  have HO4 := Aside0.mk (R_put1 (x := .slice C3 m.length f3) (Kd.R_lower HO3.out hs1) BK3.out)
  have hg2 := HG2.out
  have hgz := blk_lt BZ1.out
  have HB4 := Aside0.mk (HB3.out.setCell (p := ⟨w.heap.size, 0, none⟩) (Nat.le_refl _) (.slice C3 m.length f3))
  have BZ4 := Aside0.mk (blk_far BZ3.out (p := ⟨w.heap.size, 0, none⟩) (by simp; omega) (.slice C3 m.length f3))
  (with_reducible refine (checked_c (w0 := w) (B := w1.heap.size) each keep HB4.out HO4.out (by have := HMl.out; omega)).mono ?_)
  rw [← HRv.out]
  rintro e w5 ⟨C5, f5, rfl, hR5, hb5, hk5⟩
  have HB5 := Aside0.mk hb5
  have HO5 := Aside0.mk hR5
  have BZ5 := Aside0.mk (blk_kept BZ4.out hk5 (by omega))
  have hd5 := (Kd.R_reads' hR5).2.1
  clear hR5 hb5 hk5 c0 c1 c2 f0
  obtain ⟨z0, z1, z2⟩ := ring_cells BZ5.out
  have g0 := blk_frozen BZ5.out 0
  have g1 := blk_frozen BZ5.out 1
  have g3 := blk_frozen BZ5.out 2
  go_wp2_with fail
  refine bodyPost_ret (results_ct rfl _ _ g2 TR #[.slice C5 R.1.1.length f5, .int .i64 R.1.2.1, .int .i64 R.1.2.2] (0, 0) _ rfl (put3 BZ5.out) hu rfl (by kernel_rfl)) rfl ?_
  exact ⟨C5, f5, rfl, hd5, R_put3 HO5.out BZ5.out, ((HB5.out.setCell (by simp; omega) _).setCell (by simp; omega) _).setCell (by simp; omega) _⟩
theorem with_c {A : Option Addr} {c : Nat} {l : List Int} {w : World} (each keep node : Int) (hr : Kd.C (Kd.int .i64) w A l.length l) (hc : l.length ≤ c) (hl : l.length ≤ 17592186040000) :
    Calls Try.prog 28 #[.agg #[.slice A l.length c, .int .i64 each, .int .i64 keep], .int .i64 node] w (Rng w (withV l each keep node)) := by
  unfold withV
  by_cases hb : node < 0 ∨ node > 1048575 ∨ node ∈ l
  · rw [if_pos hb]
    exact with_bad each keep node hr hc hb
  · rw [if_neg hb]
    exact with_ok each keep node hr hc (fun h => hb (.inl h)) (fun h => hb (.inr (.inl h))) (fun h => hb (.inr (.inr h))) hl
theorem without_c {A : Option Addr} {c : Nat} {l : List Int} {w : World} (each keep node : Int) (hr : Kd.C (Kd.int .i64) w A l.length l) (hc : l.length ≤ c) (hl : l.length ≤ 17592186040000) :
    Calls Try.prog 27 #[.agg #[.slice A l.length c, .int .i64 each, .int .i64 keep], .int .i64 node] w (Rng w (withoutV l each keep node)) := by
  unfold withoutV
  by_cases hb : node ∈ l
  · rw [if_pos hb]
    exact without_ok each keep node hr hc hb hl
  · rw [if_neg hb]
    exact without_bad each keep node hr hc hb
end Go.Proofs.Ytdfjeanlhafipaa.Hs
namespace Go.Proofs.Ytdfjeanlhafipaa.Hs
open Go.ChangeShapes Go.WideShapes Go.ChangeAt Go.RowKit Go.Proofs.Ytdfjeanlhafipaa.QH Go.Proofs.Ytdfjeanlhafipaa.Lex
open Go.Proofs.YtdfjeanlhafipaaW.PrintWords Go.Proofs.YtdfjeanlhafipaaW.PrintLast Go.Proofs.YtdfjeanlhafipaaW.PrintMore
def flatV (r : (List Int × Int × Int) × Int) : List Int × Int × Int × Int := (r.1.1, r.1.2.1, r.1.2.2, r.2)
def ring_With.f (l : List Int) (each keep node : Int) : Option (List Int × Int × Int × Int) := if l.length ≤ 17592186040000 then some (flatV (withV l each keep node)) else none
theorem ring_With.calls (A : Option Addr) (c : Nat) (l : List Int) (each keep node : Int) (r1 : List Int) (r2 r3 r4 : Int) (w : World) (hr : Kd.C (Kd.int .i64) w A l.length l) (hc : l.length ≤ c) (hf : ring_With.f l each keep node = some (r1, r2, r3, r4)) :
    Calls Try.prog 28 #[.agg #[.slice A l.length c, .int .i64 each, .int .i64 keep], .int .i64 node] w fun e w' => ∃ v0_ : Value, e = .returned (.tuple #[.agg #[v0_, .int .i64 r2, .int .i64 r3], .int .i64 r4]) ∧ Kd.R (Kd.int .i64) 3 w' w.heap.size (fun _ => True) v0_ r1 ∧ Below w.heap.size w w' := by
  unfold ring_With.f at hf
  split at hf
  · rename_i hl
    have h := Option.some.inj hf
    unfold flatV at h
    injection h with h1 h
    injection h with h2 h
    injection h with h3 h4
    refine (with_c each keep node hr hc hl).mono ?_
    rintro e w' ⟨B, d, rfl, hd, hR, hb⟩
    rw [h2, h3, h4]
    rw [h1] at hR ⊢
    exact ⟨_, rfl, hR, hb⟩
  · cases hf
def ring_Without.f (l : List Int) (each keep node : Int) : Option (List Int × Int × Int × Int) := if l.length ≤ 17592186040000 then some (flatV (withoutV l each keep node)) else none
theorem ring_Without.calls (A : Option Addr) (c : Nat) (l : List Int) (each keep node : Int) (r1 : List Int) (r2 r3 r4 : Int) (w : World) (hr : Kd.C (Kd.int .i64) w A l.length l) (hc : l.length ≤ c) (hf : ring_Without.f l each keep node = some (r1, r2, r3, r4)) :
    Calls Try.prog 27 #[.agg #[.slice A l.length c, .int .i64 each, .int .i64 keep], .int .i64 node] w fun e w' => ∃ v0_ : Value, e = .returned (.tuple #[.agg #[v0_, .int .i64 r2, .int .i64 r3], .int .i64 r4]) ∧ Kd.R (Kd.int .i64) 3 w' w.heap.size (fun _ => True) v0_ r1 ∧ Below w.heap.size w w' := by
  unfold ring_Without.f at hf
  split at hf
  · rename_i hl
    have h := Option.some.inj hf
    unfold flatV at h
    injection h with h1 h
    injection h with h2 h
    injection h with h3 h4
    refine (without_c each keep node hr hc hl).mono ?_
    rintro e w' ⟨B, d, rfl, hd, hR, hb⟩
    rw [h2, h3, h4]
    rw [h1] at hR ⊢
    exact ⟨_, rfl, hR, hb⟩
  · cases hf
end Go.Proofs.Ytdfjeanlhafipaa.Hs
namespace Go.Proofs.Ytdfjeanlhafipaa.Hs
open Go.RowKit Go.Proofs.Ytdfjeanlhafipaa.QH Go.Proofs.Ytdfjeanlhafipaa.Lex Go.Proofs.Ytdfjeanlhafipaa.Rg
open Go.Proofs.YtdfjeanlhafipaaW.PrintWords Go.Proofs.YtdfjeanlhafipaaW.PrintLast Go.Proofs.YtdfjeanlhafipaaW.PrintMore
set_option linter.unusedVariables false
set_option linter.unusedSimpArgs false
theorem mem_insL (l : List Int) (x y : Int) : y ∈ insL l x ↔ y = x ∨ y ∈ l := by
  have e : l.takeWhile (fun y => decide (y < x)) ++ l.dropWhile (fun y => decide (y < x)) = l := List.takeWhile_append_dropWhile
  unfold insL
  rw [List.mem_append, List.mem_cons]
  constructor
  · rintro (h | h | h)
    · exact .inr (by rw [← e]; exact List.mem_append_left _ h)
    · exact .inl h
    · exact .inr (by rw [← e]; exact List.mem_append_right _ h)
  · rintro (h | h)
    · exact .inr (.inl h)
    · rw [← e] at h
      rcases List.mem_append.1 h with h | h
      · exact .inl h
      · exact .inr (.inr h)
theorem insL_len (l : List Int) (x : Int) : (insL l x).length = l.length + 1 := by
  have e : l.takeWhile (fun y => decide (y < x)) ++ l.dropWhile (fun y => decide (y < x)) = l := List.takeWhile_append_dropWhile
  have e2 := congrArg List.length e
  rw [List.length_append] at e2
  unfold insL
  rw [List.length_append, List.length_cons]
  omega
theorem delL_cons (y x : Int) (l : List Int) : delL (y :: l) x = if y = x then l else y :: delL l x := by
  unfold delL
  by_cases h : y = x
  · rw [if_pos h, h, List.idxOf_cons_self]; simp
  · rw [if_neg h, List.idxOf_cons, show (y == x) = false from beq_eq_false_iff_ne.2 h]
    simp
theorem delL_len : ∀ {l : List Int} {x : Int}, x ∈ l → (delL l x).length + 1 = l.length
  | [], x, h => absurd h List.not_mem_nil
  | y :: l, x, h => by
    rw [delL_cons]
    by_cases e : y = x
    · rw [if_pos e]; rfl
    · rw [if_neg e, List.length_cons, List.length_cons, delL_len ((List.mem_cons.1 h).resolve_left (fun h => e h.symm))]
/-- those that are no such node -/
def others (l : List Int) (x : Int) : List Int := l.filter fun y => decide (y ≠ x)
end Go.Proofs.Ytdfjeanlhafipaa.Hs
namespace Go.Proofs.Ytdfjeanlhafipaa.Hs
open Go.ChangeShapes Go.WideShapes Go.ChangeAt Go.RowKit Go.Proofs.Ytdfjeanlhafipaa.QH Go.Proofs.Ytdfjeanlhafipaa.Lex
open Go.Proofs.YtdfjeanlhafipaaW.PrintWords Go.Proofs.YtdfjeanlhafipaaW.PrintLast Go.Proofs.YtdfjeanlhafipaaW.PrintMore
set_option linter.unusedVariables false
set_option linter.unusedSimpArgs false
/-- the first place from one on -/
def fromV (l : List Int) (x : Int) (m : Nat) : Int := if x ∈ l.drop m then ((m + (l.drop m).idxOf x : Nat) : Int) else -1
theorem fromV_zero (l : List Int) (x : Int) : fromV l x 0 = idxV l x := by unfold fromV idxV; rw [List.drop_zero, Nat.zero_add]
theorem fromV_end (l : List Int) (x : Int) : fromV l x l.length = -1 := by unfold fromV; rw [List.drop_length]; simp
theorem fromV_yes {l : List Int} {x : Int} {m : Nat} (h : m < l.length) (e : l[m] = x) : fromV l x m = (m : Int) := by
  unfold fromV
  rw [List.drop_eq_getElem_cons h, if_pos (by rw [e]; exact List.mem_cons_self), e, List.idxOf_cons_self, Nat.add_zero]
theorem fromV_no {l : List Int} {x : Int} {m : Nat} (h : m < l.length) (e : l[m] ≠ x) : fromV l x m = fromV l x (m + 1) := by
  have d := List.drop_eq_getElem_cons h
  have e1 : (x ∈ l.drop m) ↔ x ∈ l.drop (m + 1) := by rw [d, List.mem_cons]; exact ⟨fun h => h.resolve_left (fun h => e h.symm), .inr⟩
  have e2 : (l.drop m).idxOf x = (l.drop (m + 1)).idxOf x + 1 := by rw [d, List.idxOf_cons, show (l[m] == x) = false from beq_eq_false_iff_ne.2 e]; rfl
  unfold fromV
  by_cases hm : x ∈ l.drop (m + 1)
  · rw [if_pos (e1.2 hm), if_pos hm, e2]
    congr 1
    omega
  · rw [if_neg (fun h => hm (e1.1 h)), if_neg hm]
set_option maxHeartbeats 4000000 in
set_option maxRecDepth 100000 in
theorem rwithout_c {A : Option Addr} {c : Nat} {l : List Int} {w : World} (each keep node : Int) (hr : Kd.C (Kd.int .i64) w A l.length l) (hc : l.length ≤ c) (hl : l.length ≤ 4398046511103) :
    Calls Try.prog 30 #[.agg #[.slice A l.length c, .int .i64 each, .int .i64 keep], .int .i64 node] w (Rng w (withoutV l each keep node)) := by
  have hu := Try.underlying24
  have HR := Aside0.mk (Kd.C_alloc (Kd.C_alloc hr (.cells #[.slice A l.length c, .int .i64 each, .int .i64 keep] TR)) zR)
  have HB := Aside0.mk (below_alloc (below_alloc (Below.refl w.heap.size w) (.cells #[.slice A l.length c, .int .i64 each, .int .i64 keep] TR)) zR)
  have BZ := Aside0.mk (z_blk w (.cells #[.slice A l.length c, .int .i64 each, .int .i64 keep] TR))
  have BK := Aside0.mk (blk_alloc (blk_new w (.cells #[.slice A l.length c, .int .i64 each, .int .i64 keep] TR)) zR)
  clear hr
  obtain ⟨R, hR⟩ : ∃ R, R = withoutV l each keep node := ⟨_, rfl⟩
  have HRv := Aside0.mk hR
  rw [← hR]
  clear hR
  go_enter Try.func30, Try.ntmps30
  go_upto_region 1 with fail
  generalize hg2 : w.heap.size + 1 = g2 at *
  have HG2 := Aside0.mk hg2
  generalize ((w.alloc (.cells #[.slice A l.length c, .int .i64 each, .int .i64 keep] TR)).alloc zR) = W at *
  obtain ⟨c0, c1, c2⟩ := ring_cells BK.out
  clear hg2
  go_wp2_with fail
  go_loopg [6, 7] l.length (fun q va vi w' => ∃ z : Int, vi = .int .i64 z ∧ -1 ≤ z ∧ z < (l.length : Int) ∧ q = (z + 1).toNat ∧ va = .int .i64 (fromV l node (z + 1).toNat) ∧ w' = W)
  case atStart => exact ⟨(l.length : Int) - 1, rfl, by omega, by omega, by omega, by rw [show ((l.length : Int) - 1 + 1).toNat = l.length by omega, fromV_end], rfl⟩
  case round =>
    obtain ⟨z, rfl, hz0, hz1, rfl, rfl, rfl⟩ := hrel
    by_cases hge : 0 ≤ z
    · obtain ⟨m, rfl⟩ := Int.eq_ofNat_of_zero_le hge
      have hm : m < l.length := by omega
      obtain ⟨b0, off, hA, hcl⟩ := Hlp.C_block HR.out (by omega)
      have hcell := hcl m hm
      subst hA
      have t1 : decide ((0 : Int) ≤ (m : Int)) = true := decide_eq_true hge
      have i1 : (m : Int) < (l.length : Int) := hz1
      have e0 : ((m : Int) + 1).toNat = m + 1 := by omega
      have HE0 := Aside0.mk e0
      have HF : Aside0 (if l[m] = node then fromV l node m = (m : Int) else fromV l node m = fromV l node (m + 1)) := ⟨by
        split
        · rename_i h; exact fromV_yes hm h
        · rename_i h; exact fromV_no hm h⟩
      clear hcl e0
      by_cases hx : l[m] = node
      · have HF2 := Aside0.mk (show fromV l node m = (m : Int) by have := HF.out; rwa [if_pos hx] at this)
        have t2 : (l[m] == node) = true := beq_iff_eq.2 hx
        clear hx HF
        go_wp2_with fail
        go_roundg m
        case measure => omega
        case rel => exact ⟨(m : Int) - 1, rfl, by omega, by omega, by omega, by rw [show ((m : Int) - 1 + 1).toNat = m by omega, HF2.out], rfl⟩
      · have HF2 := Aside0.mk (show fromV l node m = fromV l node (m + 1) by have := HF.out; rwa [if_neg hx] at this)
        have t2 : (l[m] == node) = false := beq_eq_false_iff_ne.2 hx
        clear hx HF
        go_wp2_with fail
        go_roundg m
        case measure => omega
        case rel => exact ⟨(m : Int) - 1, rfl, by omega, by omega, by omega, by rw [show ((m : Int) - 1 + 1).toNat = m by omega, HF2.out, HE0.out], rfl⟩
    · obtain rfl : z = -1 := by omega
      have t1 : decide ((0 : Int) ≤ -1) = false := rfl
      rw [show ((-1 : Int) + 1).toNat = 0 from rfl, fromV_zero]
      by_cases hin : node ∈ l
      · have hidx : idxV l node = ((l.idxOf node : Nat) : Int) := if_pos hin
        have hil := List.idxOf_lt_length_of_mem hin
        have hdel : delL l node = l.take (l.idxOf node) ++ l.drop (l.idxOf node + 1) := rfl
        obtain ⟨i, hi⟩ : ∃ i, l.idxOf node = i := ⟨_, rfl⟩
        rw [hi] at hidx hil hdel
        have HDel := Aside0.mk hdel
        have HIn := Aside0.mk hin
        rw [hidx]
        obtain ⟨b0, off, hA, hcl⟩ := Hlp.C_block HR.out (by omega)
        subst hA
        have hapi : (0 + i) * 8 ≤ 140737488355328 := by omega
        obtain ⟨xs, hxs⟩ : ∃ xs, xs = l.take i := ⟨_, rfl⟩
        obtain ⟨ys, hys⟩ : ∃ ys, ys = l.drop (i + 1) := ⟨_, rfl⟩
        have hxl : xs.length = i := by rw [hxs, List.length_take]; omega
        have hyl : ys.length = l.length - (i + 1) := by rw [hys, List.length_drop]
        have HXY : Aside0 (xs ++ ys = delL l node) := ⟨by rw [hdel, hxs, hys]⟩
        have HTk : Aside0 (Kd.C (Kd.int .i64) wr (some ⟨b0, off, none⟩) i xs) := ⟨by
          have := Kd.C_take HR.out (Nat.le_of_lt hil)
          rw [← hxs, hxl] at this
          exact this⟩
        have hap2 : (xs.length + (l.length - (i + 1))) * 8 ≤ 140737488355328 := by omega
        have HO0 : Aside0 (Kd.R (Kd.int .i64) 3 wr wr.heap.size (fun _ => True) (.slice none 0 0) []) := ⟨Kd.R_nil _ _ _ _ _⟩
        have HB0 : Aside0 (Below wr.heap.size wr wr) := ⟨Below.refl _ _⟩
        have HIn := Aside0.mk hin
        have HHl := Aside0.mk hl
        have HHx := Aside0.mk hxl
        have HHy := Aside0.mk hyl
        have i2 : (i : Int) ≤ (l.length : Int) := by omega
        have i3 : (0 : Int) ≤ (i : Int) + 1 := by omega
        have i4 : (i : Int) + 1 ≤ (l.length : Int) := by omega
        have i5 : (0 : Int) ≤ (i : Int) := by omega
        have i6 : i + 1 ≤ c := by omega
        have i7 : decide ((i : Int) < 0) = false := decide_eq_false (by omega)
        have HDr0 := Aside0.mk (Hlp.C_drop HR.out (i + 1) hil)
        rw [← hys, hyl] at HDr0
        by_cases hcap : c = i + 1
        · have HDr : Aside0 (Kd.C (Kd.int .i64) wr (some ⟨b0, off, none⟩) 0 ys) := ⟨by
            have h0 : ys = [] := List.length_eq_zero_iff.1 (by omega)
            rw [h0]
            exact Hlp.C_empty⟩
          subst hcap
          have hap2 : (xs.length + 0) * 8 ≤ 140737488355328 := by omega
          clear hidx hi hin hdel hcl hz0 hz1 hge hxs hys hxl hyl
          go_wp2_with (first
            | ((with_reducible refine gate_builtin (b := .append) (xs := #[.tmp 29, .tmp 33]) rfl ?_); at_builtin; refine Kd.R_append_rows (Kd.int .i64) (Rr := fun x cs => cs = [.int .i64 x]) (w0 := wr) wr.heap.size rfl (.tmp 29) (.tmp 33) 22 3 (.int .i64 0) 8 rfl Try.underlying22 info3 rfl (by decide) (by omega) (.slice none 0 0) [] xs (some ⟨b0, off, none⟩) i (i + 1) (fun _ => True) (fun _ => False) rfl rfl HO0.out HTk.out (fun _ _ h => h) (fun _ hk => hk.elim) (fun _ _ => trivial) HB0.out (Nat.le_refl _) hapi ?_; intro v1 w1 ho hb hg hat; rw [List.nil_append] at ho; obtain ⟨C1, f1, e1⟩ := Kd.R_slice ho; subst e1; have HO1 := Aside0.mk ho; have HBl := Aside0.mk hb; have HT2 := Aside0.mk (Kd.C_below HDr.out hb); have BK1 := Aside0.mk (blk_below BK.out hb); have BZ1 := Aside0.mk (blk_below BZ.out hb); obtain ⟨d0, d1, d2⟩ := ring_cells BK1.out; clear ho hb hg hat)
            | ((with_reducible refine gate_builtin (b := .append) (xs := #[.tmp 35, .tmp 40]) rfl ?_); at_builtin; refine Kd.R_append_rows (Kd.int .i64) (Rr := fun x cs => cs = [.int .i64 x]) (w0 := wr) wr.heap.size rfl (.tmp 35) (.tmp 40) 22 3 (.int .i64 0) 8 rfl Try.underlying22 info3 rfl (by decide) (by omega) (.slice C1 xs.length f1) xs ys (some ⟨b0, off, none⟩) 0 0 (fun _ => True) (fun _ => False) rfl rfl HO1.out HT2.out (fun _ _ h => h) (fun _ hk => hk.elim) (fun _ _ => trivial) HBl.out HBl.out.size hap2 ?_; intro v2 w2 ho hb hg hat; rw [HXY.out] at ho; obtain ⟨C2, f2, e2⟩ := Kd.R_slice ho; subst e2; have HO2 := Aside0.mk ho; have HBm := Aside0.mk hb; have BK2 := Aside0.mk (blk_below BK.out hb); have BZ2 := Aside0.mk (blk_below BZ.out hb); clear d0 d1 d2; obtain ⟨d0, d1, d2⟩ := ring_cells BK2.out; clear ho hb hg hat))
          have HBf := Aside0.mk (below_alloc HBm.out (.cells #[.slice C2 (delL l node).length f2, .int .i64 each, .int .i64 keep] TR))
          have HOa := Aside0.mk (Kd.R_alloc HO2.out (.cells #[.slice C2 (delL l node).length f2, .int .i64 each, .int .i64 keep] TR))
          have BN := Aside0.mk (blk_new w2 (.cells #[.slice C2 (delL l node).length f2, .int .i64 each, .int .i64 keep] TR))
          have BZa := Aside0.mk (blk_alloc BZ2.out (.cells #[.slice C2 (delL l node).length f2, .int .i64 each, .int .i64 keep] TR))
          have hd2 := (Kd.R_reads' HO2.out).2.1
          (with_reducible refine (rcheck_c (Kd.R_reads' HOa.out).2.2 hd2 each keep).mono ?_)
          cases hok : okB (delL l node) each keep
          · have hchk : chk (delL l node) each keep = 2 := by unfold chk; rw [hok]; rfl
            have hR0 : R = (([], 0, 0), 2) := by rw [HRv.out]; unfold withoutV ringV; rw [if_pos HIn.out, hok]; rfl
            have HR0 := Aside0.mk hR0
            rw [hchk]
            clear hok hchk hR0
            rintro e w3 ⟨rfl, hb⟩
            have BZ3 := Aside0.mk (blk_below BZa.out hb)
            have HB3 := Aside0.mk (below_then HB.out HB.out.size (below_then HBf.out HBf.out.size hb))
            clear hb d0 d1 d2
            obtain ⟨z0, z1, z2⟩ := ring_cells BZ3.out
            have g0 := blk_frozen BZ3.out 0
            have g1 := blk_frozen BZ3.out 1
            have g3 := blk_frozen BZ3.out 2
            go_wp2_with fail
            refine bodyPost_ret (results_ct rfl _ _ g2 TR #[.slice none 0 0, .int .i64 0, .int .i64 0] (0, 0) _ rfl (put3 BZ3.out) hu rfl (by kernel_rfl)) rfl ?_
            have hg := HG2.out
            rw [HR0.out]
            exact ⟨none, 0, rfl, Nat.le_refl _, Kd.R_nil _ _ _ _ _, ((HB3.out.setCell (by simp; omega) _).setCell (by simp; omega) _).setCell (by simp; omega) _⟩
          · have hchk : chk (delL l node) each keep = 0 := by unfold chk; rw [hok]; rfl
            have hR0 : R = ((delL l node, each, keep), 0) := by rw [HRv.out]; unfold withoutV ringV; rw [if_pos HIn.out, hok]; rfl
            have HR0 := Aside0.mk hR0
            rw [hchk]
            clear hok hchk hR0
            rintro e w3 ⟨rfl, hb⟩
            have BZ3 := Aside0.mk (blk_below BZa.out hb)
            have BN3 := Aside0.mk (blk_below BN.out hb)
            have HO3 := Aside0.mk (Kd.R_below HOa.out hb)
            have hs1 := HB.out.size
            have HB3 := Aside0.mk (below_then HB.out HB.out.size (below_then HBf.out HBf.out.size hb))
            clear hb d0 d1 d2
            obtain ⟨y0, y1, y2⟩ := ring_cells BN3.out
            obtain ⟨z0, z1, z2⟩ := ring_cells BZ3.out
            have g0 := blk_frozen BZ3.out 0
            have g1 := blk_frozen BZ3.out 1
            have g3 := blk_frozen BZ3.out 2
            go_wp2_with fail
            refine bodyPost_ret (results_ct rfl _ _ g2 TR #[.slice C2 (delL l node).length f2, .int .i64 each, .int .i64 keep] (0, 0) _ rfl (put3 BZ3.out) hu rfl (by kernel_rfl)) rfl ?_
            have hg := HG2.out
            rw [HR0.out]
            exact ⟨C2, f2, rfl, hd2, R_put3 (Kd.R_lower HO3.out hs1) BZ3.out, ((HB3.out.setCell (by simp; omega) _).setCell (by simp; omega) _).setCell (by simp; omega) _⟩
        · have t4 : (c == i + 1) = false := beq_eq_false_iff_ne.2 hcap
          have HDr := HDr0
          clear hidx hi hin hdel hcl hz0 hz1 hge hxs hys hxl hyl
          go_wp2_with (first
            | ((with_reducible refine gate_builtin (b := .append) (xs := #[.tmp 29, .tmp 33]) rfl ?_); at_builtin; refine Kd.R_append_rows (Kd.int .i64) (Rr := fun x cs => cs = [.int .i64 x]) (w0 := wr) wr.heap.size rfl (.tmp 29) (.tmp 33) 22 3 (.int .i64 0) 8 rfl Try.underlying22 info3 rfl (by decide) (by omega) (.slice none 0 0) [] xs (some ⟨b0, off, none⟩) i c (fun _ => True) (fun _ => False) rfl rfl HO0.out HTk.out (fun _ _ h => h) (fun _ hk => hk.elim) (fun _ _ => trivial) HB0.out (Nat.le_refl _) hapi ?_; intro v1 w1 ho hb hg hat; rw [List.nil_append] at ho; obtain ⟨C1, f1, e1⟩ := Kd.R_slice ho; subst e1; have HO1 := Aside0.mk ho; have HBl := Aside0.mk hb; have HT2 := Aside0.mk (Kd.C_below HDr.out hb); have BK1 := Aside0.mk (blk_below BK.out hb); have BZ1 := Aside0.mk (blk_below BZ.out hb); obtain ⟨d0, d1, d2⟩ := ring_cells BK1.out; clear ho hb hg hat)
            | ((with_reducible refine gate_builtin (b := .append) (xs := #[.tmp 35, .tmp 40]) rfl ?_); at_builtin; refine Kd.R_append_rows (Kd.int .i64) (Rr := fun x cs => cs = [.int .i64 x]) (w0 := wr) wr.heap.size rfl (.tmp 35) (.tmp 40) 22 3 (.int .i64 0) 8 rfl Try.underlying22 info3 rfl (by decide) (by omega) (.slice C1 xs.length f1) xs ys (some ⟨b0, off + (i + 1), none⟩) (l.length - (i + 1)) (c - (i + 1)) (fun _ => True) (fun _ => False) rfl rfl HO1.out HT2.out (fun _ _ h => h) (fun _ hk => hk.elim) (fun _ _ => trivial) HBl.out HBl.out.size hap2 ?_; intro v2 w2 ho hb hg hat; rw [HXY.out] at ho; obtain ⟨C2, f2, e2⟩ := Kd.R_slice ho; subst e2; have HO2 := Aside0.mk ho; have HBm := Aside0.mk hb; have BK2 := Aside0.mk (blk_below BK.out hb); have BZ2 := Aside0.mk (blk_below BZ.out hb); clear d0 d1 d2; obtain ⟨d0, d1, d2⟩ := ring_cells BK2.out; clear ho hb hg hat))
          have HBf := Aside0.mk (below_alloc HBm.out (.cells #[.slice C2 (delL l node).length f2, .int .i64 each, .int .i64 keep] TR))
          have HOa := Aside0.mk (Kd.R_alloc HO2.out (.cells #[.slice C2 (delL l node).length f2, .int .i64 each, .int .i64 keep] TR))
          have BN := Aside0.mk (blk_new w2 (.cells #[.slice C2 (delL l node).length f2, .int .i64 each, .int .i64 keep] TR))
          have BZa := Aside0.mk (blk_alloc BZ2.out (.cells #[.slice C2 (delL l node).length f2, .int .i64 each, .int .i64 keep] TR))
          have hd2 := (Kd.R_reads' HO2.out).2.1
          (with_reducible refine (rcheck_c (Kd.R_reads' HOa.out).2.2 hd2 each keep).mono ?_)
          cases hok : okB (delL l node) each keep
          · have hchk : chk (delL l node) each keep = 2 := by unfold chk; rw [hok]; rfl
            have hR0 : R = (([], 0, 0), 2) := by rw [HRv.out]; unfold withoutV ringV; rw [if_pos HIn.out, hok]; rfl
            have HR0 := Aside0.mk hR0
            rw [hchk]
            clear hok hchk hR0
            rintro e w3 ⟨rfl, hb⟩
            have BZ3 := Aside0.mk (blk_below BZa.out hb)
            have HB3 := Aside0.mk (below_then HB.out HB.out.size (below_then HBf.out HBf.out.size hb))
            clear hb d0 d1 d2
            obtain ⟨z0, z1, z2⟩ := ring_cells BZ3.out
            have g0 := blk_frozen BZ3.out 0
            have g1 := blk_frozen BZ3.out 1
            have g3 := blk_frozen BZ3.out 2
            go_wp2_with fail
            refine bodyPost_ret (results_ct rfl _ _ g2 TR #[.slice none 0 0, .int .i64 0, .int .i64 0] (0, 0) _ rfl (put3 BZ3.out) hu rfl (by kernel_rfl)) rfl ?_
            have hg := HG2.out
            rw [HR0.out]
            exact ⟨none, 0, rfl, Nat.le_refl _, Kd.R_nil _ _ _ _ _, ((HB3.out.setCell (by simp; omega) _).setCell (by simp; omega) _).setCell (by simp; omega) _⟩
          · have hchk : chk (delL l node) each keep = 0 := by unfold chk; rw [hok]; rfl
            have hR0 : R = ((delL l node, each, keep), 0) := by rw [HRv.out]; unfold withoutV ringV; rw [if_pos HIn.out, hok]; rfl
            have HR0 := Aside0.mk hR0
            rw [hchk]
            clear hok hchk hR0
            rintro e w3 ⟨rfl, hb⟩
            have BZ3 := Aside0.mk (blk_below BZa.out hb)
            have BN3 := Aside0.mk (blk_below BN.out hb)
            have HO3 := Aside0.mk (Kd.R_below HOa.out hb)
            have hs1 := HB.out.size
            have HB3 := Aside0.mk (below_then HB.out HB.out.size (below_then HBf.out HBf.out.size hb))
            clear hb d0 d1 d2
            obtain ⟨y0, y1, y2⟩ := ring_cells BN3.out
            obtain ⟨z0, z1, z2⟩ := ring_cells BZ3.out
            have g0 := blk_frozen BZ3.out 0
            have g1 := blk_frozen BZ3.out 1
            have g3 := blk_frozen BZ3.out 2
            go_wp2_with fail
            refine bodyPost_ret (results_ct rfl _ _ g2 TR #[.slice C2 (delL l node).length f2, .int .i64 each, .int .i64 keep] (0, 0) _ rfl (put3 BZ3.out) hu rfl (by kernel_rfl)) rfl ?_
            have hg := HG2.out
            rw [HR0.out]
            exact ⟨C2, f2, rfl, hd2, R_put3 (Kd.R_lower HO3.out hs1) BZ3.out, ((HB3.out.setCell (by simp; omega) _).setCell (by simp; omega) _).setCell (by simp; omega) _⟩
      · have hidx : idxV l node = -1 := if_neg hin
        have hR0 : R = (([], 0, 0), 4) := by rw [HRv.out]; exact if_neg hin
        have HR0 := Aside0.mk hR0
        rw [hidx]
        obtain ⟨z0, z1, z2⟩ := ring_cells BZ.out
        have g0 := blk_frozen BZ.out 0
        have g1 := blk_frozen BZ.out 1
        have g3 := blk_frozen BZ.out 2
        clear hidx hin hR0 hz0 hz1 hge c0 c1 c2
        go_wp2_with fail
        refine bodyPost_ret (results_ct rfl _ _ g2 TR #[.slice none 0 0, .int .i64 0, .int .i64 0] (0, 0) _ rfl (put3 BZ.out) hu rfl (by kernel_rfl)) rfl ?_
        have hg := HG2.out
        rw [HR0.out]
        exact ⟨none, 0, rfl, Nat.le_refl _, Kd.R_nil _ _ _ _ _, ((HB.out.setCell (by simp; omega) _).setCell (by simp; omega) _).setCell (by simp; omega) _⟩
def icehouseref09_Without.f (l : List Int) (each keep node : Int) : Option (List Int × Int × Int × Int) := if l.length ≤ 4398046511103 then some (flatV (withoutV l each keep node)) else none
theorem icehouseref09_Without.calls (A : Option Addr) (c : Nat) (l : List Int) (each keep node : Int) (r1 : List Int) (r2 r3 r4 : Int) (w : World) (hr : Kd.C (Kd.int .i64) w A l.length l) (hc : l.length ≤ c) (hf : icehouseref09_Without.f l each keep node = some (r1, r2, r3, r4)) :
    Calls Try.prog 30 #[.agg #[.slice A l.length c, .int .i64 each, .int .i64 keep], .int .i64 node] w fun e w' => ∃ v0_ : Value, e = .returned (.tuple #[.agg #[v0_, .int .i64 r2, .int .i64 r3], .int .i64 r4]) ∧ Kd.R (Kd.int .i64) 3 w' w.heap.size (fun _ => True) v0_ r1 ∧ Below w.heap.size w w' := by
  unfold icehouseref09_Without.f at hf
  split at hf
  · rename_i hl
    have h := Option.some.inj hf
    unfold flatV at h
    injection h with h1 h
    injection h with h2 h
    injection h with h3 h4
    refine (rwithout_c each keep node hr hc hl).mono ?_
    rintro e w' ⟨B, d, rfl, hd, hR, hb⟩
    rw [h2, h3, h4]
    rw [h1] at hR ⊢
    exact ⟨_, rfl, hR, hb⟩
  · cases hf
end Go.Proofs.Ytdfjeanlhafipaa.Hs
namespace Go.Proofs.Ytdfjeanlhafipaa.QT
open Go.Proofs.Ytdfjeanlhafipaa.QH
open Go.RowKit Go.Proofs.YtdfjeanlhafipaaW.PrintWords Go.Proofs.YtdfjeanlhafipaaW.PrintLast Go.Proofs.YtdfjeanlhafipaaW.PrintMore
attribute [local go_sem] max2_int min2_int max_two min_two max_three min_three max_four min_four   -- for this text's walks alone
set_option linter.unusedVariables false
set_option linter.unusedSimpArgs false



-- the values' own types
end Go.Proofs.Ytdfjeanlhafipaa.QT
namespace Go.Proofs.Ytdfjeanlhafipaa.QT
open Go.Proofs.Ytdfjeanlhafipaa.QH
open Go.RowKit Go.Proofs.YtdfjeanlhafipaaW.PrintWords Go.Proofs.YtdfjeanlhafipaaW.PrintLast Go.Proofs.YtdfjeanlhafipaaW.PrintMore
attribute [local go_sem] max2_int min2_int max_two min_two max_three min_three max_four min_four   -- for this text's walks alone
set_option linter.unusedVariables false
set_option linter.unusedSimpArgs false
/-! ### icehouseref09_With: function 29 -/
mutual
def icehouseref09_With.j0 : Nat → Int → Bool → List Int → Int → Int → Option (List Int × Int × Int × Int)
  | 0, _, _, _, _, _ => none
  | k + 1, x1, x20, x102000, x102001, x102002 => if x20 = true then (some (([] : List Int), 0, 0, 2)) else (icehouseref09_With.l0 k x1 ([] : List Int) 0 x102000 x102001 x102002)
def icehouseref09_With.l0 : Nat → Int → List Int → Int → List Int → Int → Int → Option (List Int × Int × Int × Int)
  | 0, _, _, _, _, _, _ => none
  | k + 1, x1, x6, x7, x102000, x102001, x102002 => if x7 < (x102000.length : Int) then (if 0 ≤ x7 then (if (rd x102000 x7) < x1 then (if x6.length < 17592186044416 then (icehouseref09_With.l0 k x1 (x6 ++ [rd x102000 x7]) (wrap64 (x7 + 1)) x102000 x102001 x102002) else (none)) else (if x6.length < 17592186044416 then ((some (x6 ++ [x1] : List Int)).bind fun y109 => (if x7 ≤ (x102000.length : Int) then (if y109.length + (x102000.drop (x7 : Int).toNat).length < 17592186044416 then ((some (y109 ++ (x102000.drop (x7 : Int).toNat) : List Int)).bind fun y113 => ((QH.icehouseref09_Check.f k y113 x102001 x102002).bind fun t117 => (if t117 = 0 then (some (y113, x102001, x102002, 0)) else (some (([] : List Int), 0, 0, 2))))) else (none)) else (none))) else (none))) else (none)) else (if x6.length < 17592186044416 then ((some (x6 ++ [x1] : List Int)).bind fun y118 => (if 0 ≤ x7 then (if x7 ≤ (x102000.length : Int) then (if y118.length + (x102000.drop (x7 : Int).toNat).length < 17592186044416 then ((some (y118 ++ (x102000.drop (x7 : Int).toNat) : List Int)).bind fun y122 => ((QH.icehouseref09_Check.f k y122 x102001 x102002).bind fun t126 => (if t126 = 0 then (some (y122, x102001, x102002, 0)) else (some (([] : List Int), 0, 0, 2))))) else (none)) else (none)) else (none))) else (none))
end
def icehouseref09_With.f (k : Nat) (l0_0 : List Int) (a0_1 : Int) (a0_2 : Int) (a1 : Int) : Option (List Int × Int × Int × Int) := if a1 < 0 then (icehouseref09_With.j0 k a1 true l0_0 a0_1 a0_2) else (if a1 > 1048575 then (icehouseref09_With.j0 k a1 true l0_0 a0_1 a0_2) else ((QH.icehouseref09_Has.f k l0_0 a1).bind fun t103 => (icehouseref09_With.j0 k a1 t103 l0_0 a0_1 a0_2)))
set_option maxHeartbeats 8000000 in
set_option maxRecDepth 100000 in
theorem icehouseref09_With.calls (k : Nat) (A0_0 : Option Addr) (c0_0 : Nat) (l0_0 : List Int) (a0_1 : Int) (a0_2 : Int) (a1 : Int) (r1 : List Int) (r2 : Int) (r3 : Int) (r4 : Int) (w : World) (hr0_0 : Kd.C (Kd.int .i64) w A0_0 l0_0.length l0_0) (hc0_0 : l0_0.length ≤ c0_0) (h : icehouseref09_With.f k l0_0 a0_1 a0_2 a1 = some (r1, r2, r3, r4)) :
    Calls Try.prog 29 #[.agg #[.slice A0_0 l0_0.length c0_0, .int .i64 a0_1, .int .i64 a0_2], .int .i64 a1] w fun e w' => ∃ v0_ : Value, e = .returned (.tuple #[.agg #[v0_, .int .i64 r2, .int .i64 r3], .int .i64 r4]) ∧ Kd.R (Kd.int .i64) 3 w' w.heap.size (fun _ => True) v0_ r1 ∧ Below w.heap.size w w' := by
  have hu24 := Try.underlying24
  have HR0_0 := Aside0.mk hr0_0
  have HC0_0 := Aside0.mk hc0_0
  clear hr0_0 hc0_0
  have HB := Aside0.mk (Below.refl w.heap.size w)
  have H : (if a1 < 0 then (icehouseref09_With.j0 k a1 true l0_0 a0_1 a0_2) else (if a1 > 1048575 then (icehouseref09_With.j0 k a1 true l0_0 a0_1 a0_2) else ((QH.icehouseref09_Has.f k l0_0 a1).bind fun t103 => (icehouseref09_With.j0 k a1 t103 l0_0 a0_1 a0_2)))) = some (r1, r2, r3, r4) := h
  clear h
  have HC3 := Aside0.mk H
  clear H
  go_enter Try.func29, Try.ntmps29
  go_upto_region 1 with (first | ((with_reducible refine gate_dst (N := 2) rfl ?_); refine box_event ?hg (N := 2) ?hd (cs := #[.slice A0_0 l0_0.length c0_0, .int .i64 a0_1, .int .i64 a0_2]) (t := 24) ?hr ?_; (case hd => rfl); (case hg => rfl); (case hr => first | (go_simp; done) | (go_simp; rfl)); intro gb101 hg w4 hbox hb; have n0_ := Aside0.mk (below_step (by repeat (first | (with_reducible first | exact HB.out | apply below_alloc | apply pw_below_drewN | apply below_drew1) | exact HB.out)) hb); have n1_ := Aside0.mk (hbox); have n2_ := Aside0.mk ((by rw [hg]; exact (below_size (by repeat (first | (with_reducible first | exact HB.out | apply below_alloc | apply pw_below_drewN | apply below_drew1) | exact HB.out))) : w.heap.size ≤ gb101)); have n3_ := Aside0.mk ((by rw [hg]; exact (below_size (by repeat (first | (with_reducible first | exact HB.out | apply below_alloc | apply pw_below_drewN | apply below_drew1) | exact HB.out))) : w.heap.size ≤ gb101)); clear HB; have HB := n0_; have BK101 := n1_; have GW101 := n2_; have GE101 := n3_; clear n0_ n1_ n2_ n3_; clear hb hbox hg) | ((with_reducible refine gate_dst (N := 4) rfl ?_); refine box_event ?hg (N := 4) ?hd (cs := #[.slice none 0 0, .int .i64 0, .int .i64 0]) (t := 24) ?hr ?_; (case hd => rfl); (case hg => rfl); (case hr => first | (go_simp; done) | (go_simp; rfl)); intro gb102 hg w5 hbox hb; have n0_ := Aside0.mk (blk_below (g := gb101) (o := .cells #[.slice A0_0 l0_0.length c0_0, .int .i64 a0_1, .int .i64 a0_2] 24 (0, 0)) (by (with_reducible repeat (first | refine blk_drewN ?_ _ | refine blk_drew ?_ | refine blk_alloc ?_ _)); exact BK101.out) hb); have n1_ := Aside0.mk (below_step (by repeat (first | (with_reducible first | exact HB.out | apply below_alloc | apply pw_below_drewN | apply below_drew1 | refine below_set ?_ GE101.out) | exact HB.out)) hb); have n2_ := Aside0.mk (hbox); have n3_ := Aside0.mk ((by rw [hg]; exact (below_size (by repeat (first | (with_reducible first | exact HB.out | apply below_alloc | apply pw_below_drewN | apply below_drew1 | refine below_set ?_ GE101.out) | exact HB.out))) : w.heap.size ≤ gb102)); have n4_ := Aside0.mk ((by rw [hg]; exact (below_size (by repeat (first | (with_reducible first | exact HB.out | apply below_alloc | apply pw_below_drewN | apply below_drew1 | refine below_set ?_ GE101.out) | exact HB.out))) : w.heap.size ≤ gb102)); have n5_ := Aside0.mk ((by rw [hg]; exact Nat.ne_of_lt (blk_lt (g := gb101) (o := .cells #[.slice A0_0 l0_0.length c0_0, .int .i64 a0_1, .int .i64 a0_2] 24 (0, 0)) (by (with_reducible repeat (first | refine blk_drewN ?_ _ | refine blk_drew ?_ | refine blk_alloc ?_ _)); exact BK101.out)) : gb101 ≠ gb102)); have n6_ := Aside0.mk ((by rw [hg]; exact Nat.ne_of_gt (blk_lt (g := gb101) (o := .cells #[.slice A0_0 l0_0.length c0_0, .int .i64 a0_1, .int .i64 a0_2] 24 (0, 0)) (by (with_reducible repeat (first | refine blk_drewN ?_ _ | refine blk_drew ?_ | refine blk_alloc ?_ _)); exact BK101.out)) : gb102 ≠ gb101)); clear BK101; clear HB; have BK101 := n0_; have HB := n1_; have BK102 := n2_; have GW102 := n3_; have GE102 := n4_; have NB101_102 := n5_; have NB102_101 := n6_; clear n0_ n1_ n2_ n3_ n4_ n5_ n6_; clear hb hbox hg))
  (try simp only [Act.put, List.setIfInBounds_toArray, List.set_cons_zero, List.set_cons_succ])
  go_cut [20] (fun v20 wc => ∃ (kq : Nat) (x20_2 : Bool), v20 = .bool x20_2 ∧ Aside0 (icehouseref09_With.j0 kq a1 x20_2 l0_0 a0_1 a0_2 = some (r1, r2, r3, r4)) ∧ Aside0 (kq ≤ k) ∧ Aside0 (wc.heap[gb101]? = some (.cells #[(.slice A0_0 l0_0.length c0_0), .int .i64 a0_1, .int .i64 a0_2] 24 (0, 0))) ∧ Aside0 (wc.heap[gb102]? = some (.cells #[(.slice none 0 0), .int .i64 0, .int .i64 0] 24 (0, 0))) ∧ Aside0 (Below w.heap.size w wc))
  case first =>
    have H := HC3.out
    clear HC3
    by_cases c6 : a1 < 0
    · rw [if_pos c6] at H
      have c6b0 : decide (a1 < 0) = true := decide_eq_true c6
      clear c6
      (first | rw [c6b0] | (simp only [i64_w, i32_w]; rw [c6b0]) | skip)
      have H' := Aside0.mk H
      clear H
      go_wp2
      go_meet
      case rel => exact ⟨_, (true), (by first | rfl | (simp; done) | (simp [*]; done)), H', ⟨by first | omega | exact Nat.le_refl _⟩, ⟨by (with_reducible repeat (first | refine blk_drewN ?_ _ | refine blk_drew ?_ | refine blk_alloc ?_ _)); exact BK101.out⟩, ⟨by (with_reducible repeat (first | refine blk_drewN ?_ _ | refine blk_drew ?_ | refine blk_alloc ?_ _)); exact BK102.out⟩, ⟨by repeat (first | (with_reducible first | exact HB.out | apply below_alloc | apply pw_below_drewN | apply below_drew1 | refine below_set ?_ GE101.out | refine below_set ?_ GE102.out) | exact HB.out)⟩⟩
    · rw [if_neg c6] at H
      have c6b0 : decide (a1 < 0) = false := decide_eq_false c6
      clear c6
      (first | rw [c6b0] | (simp only [i64_w, i32_w]; rw [c6b0]) | skip)
      by_cases c7 : a1 > 1048575
      · rw [if_pos c7] at H
        have c7b0 : decide (1048575 < a1) = true := decide_eq_true c7
        clear c7
        have H' := Aside0.mk H
        clear H
        go_wp2
        go_meet
        case rel => exact ⟨_, (true), (by first | rfl | (simp; done) | (simp [*]; done)), H', ⟨by first | omega | exact Nat.le_refl _⟩, ⟨by (with_reducible repeat (first | refine blk_drewN ?_ _ | refine blk_drew ?_ | refine blk_alloc ?_ _)); exact BK101.out⟩, ⟨by (with_reducible repeat (first | refine blk_drewN ?_ _ | refine blk_drew ?_ | refine blk_alloc ?_ _)); exact BK102.out⟩, ⟨by repeat (first | (with_reducible first | exact HB.out | apply below_alloc | apply pw_below_drewN | apply below_drew1 | refine below_set ?_ GE101.out | refine below_set ?_ GE102.out) | exact HB.out)⟩⟩
      · rw [if_neg c7] at H
        have c7b0 : decide (1048575 < a1) = false := decide_eq_false c7
        clear c7
        replace H := Option.bind_eq_some_iff.mp H
        obtain ⟨t103, A80, H⟩ := H
        replace H : (icehouseref09_With.j0 k a1 t103 l0_0 a0_1 a0_2) = some (r1, r2, r3, r4) := H
        have A8 := Aside0.mk A80
        clear A80
        have H' := Aside0.mk H
        clear H
        have hnb9 := NB101_102.out
        have hnc9 := NB102_101.out
        have hcz10_0 : w5.cell? ⟨gb101, 0, none⟩ = some (.slice A0_0 l0_0.length c0_0) := (blk_cell BK101.out 0).trans rfl
        have hcz10_1 : w5.cell? ⟨gb101, 1, none⟩ = some (.int .i64 a0_1) := (blk_cell BK101.out 1).trans rfl
        have hcz10_2 : w5.cell? ⟨gb101, 2, none⟩ = some (.int .i64 a0_2) := (blk_cell BK101.out 2).trans rfl
        have hfz10_0 := blk_frozen BK101.out 0
        have hfz10_1 := blk_frozen BK101.out 1
        have hfz10_2 := blk_frozen BK101.out 2
        go_wp2_with (first | (go_at_call 15; (with_reducible refine (QH.icehouseref09_Has.calls k _ _ l0_0 a1 t103 _ ?side1 ?side2 A8.out).mono ?_); (case side1 => repeat (first | exact (Kd.C_below HR0_0.out HB.out) | (with_reducible refine Kd.C_alloc ?_ _) | (with_reducible refine Kd.C_drewN ?_ _) | (with_reducible refine Kd.C_drew ?_))); (case side2 => exact HC0_0.out); rintro e w' ⟨rfl, ⟨nd, rfl⟩⟩))
        go_meet
        case rel => exact ⟨_, (t103), (by first | rfl | (simp; done) | (simp [*]; done)), H', ⟨by first | omega | exact Nat.le_refl _⟩, ⟨by (with_reducible repeat (first | refine blk_drewN ?_ _ | refine blk_drew ?_ | refine blk_alloc ?_ _)); exact BK101.out⟩, ⟨by (with_reducible repeat (first | refine blk_drewN ?_ _ | refine blk_drew ?_ | refine blk_alloc ?_ _)); exact BK102.out⟩, ⟨by repeat (first | (with_reducible first | exact HB.out | apply below_alloc | apply pw_below_drewN | apply below_drew1 | refine below_set ?_ GE101.out | refine below_set ?_ GE102.out) | exact HB.out)⟩⟩
  case rest =>
    clear HC3
    try clear c2
    try clear p2
    try clear c6
    try clear c6b0
    try clear c7
    try clear c7b0
    try clear c9
    try clear hcz10_0
    try clear hcz10_1
    try clear hcz10_2
    try clear hfz10_0
    try clear hfz10_1
    try clear hfz10_2
    obtain ⟨kq, x20_2, rfl, HA, HJ2, BK101, BK102, HB⟩ := hcut
    cases kq with
    | zero => exact absurd HA.out (by simp [icehouseref09_With.j0])
    | succ kj2 =>
      have H := HA.out
      clear HA
      simp only [icehouseref09_With.j0] at H
      by_cases c11 : x20_2 = true
      · subst c11
        have H1 : (some (([] : List Int), 0, 0, 2)) = some (r1, r2, r3, r4) := by rw [if_pos rfl] at H; exact H
        clear H
        have H := H1
        clear H1
        simp only [Option.some.injEq, Prod.mk.injEq] at H
        obtain ⟨rfl, rfl, rfl, rfl⟩ := H
        have hnb12 := NB102_101.out
        have hnc12 := NB101_102.out
        have hcz13_0 : wc.cell? ⟨gb102, 0, none⟩ = some (.slice none 0 0) := (blk_cell BK102.out 0).trans rfl
        have hcz13_1 : wc.cell? ⟨gb102, 1, none⟩ = some (.int .i64 0) := (blk_cell BK102.out 1).trans rfl
        have hcz13_2 : wc.cell? ⟨gb102, 2, none⟩ = some (.int .i64 0) := (blk_cell BK102.out 2).trans rfl
        have hfz13_0 := blk_frozen BK102.out 0
        have hfz13_1 := blk_frozen BK102.out 1
        have hfz13_2 := blk_frozen BK102.out 2
        go_wp2
        refine bodyPost_ret (results_ct rfl _ _ gb102 24 #[.slice none 0 0, .int .i64 0, .int .i64 0] (0, 0) _ rfl (by (with_reducible repeat (first | refine blk_drewN ?_ _ | refine blk_drew ?_ | refine blk_alloc ?_ _)); refine blk_put (cs := #[.slice none 0 0, .int .i64 0, .int .i64 0]) ?_ 2 _ rfl; (with_reducible repeat (first | refine blk_drewN ?_ _ | refine blk_drew ?_ | refine blk_alloc ?_ _)); refine blk_put (cs := #[.slice none 0 0, .int .i64 0, .int .i64 0]) ?_ 1 _ rfl; (with_reducible repeat (first | refine blk_drewN ?_ _ | refine blk_drew ?_ | refine blk_alloc ?_ _)); refine blk_put (cs := #[.slice none 0 0, .int .i64 0, .int .i64 0]) ?_ 0 _ rfl; (with_reducible repeat (first | refine blk_drewN ?_ _ | refine blk_drew ?_ | refine blk_alloc ?_ _)); exact BK102.out) Try.underlying24 rfl (by kernel_rfl)) rfl ?_
        exact ⟨_, by first | rfl | (simp [errW_none, errW_some] <;> rfl) | (simp [*, errW_none, errW_some] <;> rfl), by first | exact Kd.R_nil _ _ _ _ _ | exact Kd.N_nil _ _ _ _ _ | exact Kd.V_nil _ _ _ _ _ | exact Kd.Q_nil _ _ _ _ _ | exact Kd.S_nil _ _ _ _ _, by repeat (first | (with_reducible first | exact HB.out | apply below_alloc | apply pw_below_drewN | apply below_drew1 | refine below_set ?_ GE101.out | refine below_set ?_ GE102.out) | exact HB.out)⟩
      · replace c11 := Bool.eq_false_iff.mpr c11
        subst c11
        have H1 : (icehouseref09_With.l0 kj2 a1 ([] : List Int) 0 l0_0 a0_1 a0_2) = some (r1, r2, r3, r4) := by rw [if_neg (show ¬ (false = true) by decide)] at H; exact H
        clear H
        have H := H1
        clear H1
        have H' := Aside0.mk H
        clear H
        go_wp2
        go_loopg [6, 7] kj2 (fun kq v6 v7 w' => ∃ (x6_2 : List Int) (x7_2 : Int), v7 = .int .i64 x7_2 ∧ Aside0 (icehouseref09_With.l0 kq a1 x6_2 x7_2 l0_0 a0_1 a0_2 = some (r1, r2, r3, r4)) ∧ Aside0 (kq ≤ kj2) ∧ Aside0 (Kd.R (Kd.int .i64) 3 w' w.heap.size (fun _ => True) v6 x6_2) ∧ Aside0 (w'.heap[gb101]? = some (.cells #[(.slice A0_0 l0_0.length c0_0), .int .i64 a0_1, .int .i64 a0_2] 24 (0, 0))) ∧ Aside0 (w'.heap[gb102]? = some (.cells #[(.slice none 0 0), .int .i64 0, .int .i64 0] 24 (0, 0))) ∧ Aside0 (Below w.heap.size w w'))
        case atStart => exact ⟨(([] : List Int)), (0), (by first | rfl | (simp; done) | (simp [*]; done)), H', ⟨Nat.le_refl _⟩, ⟨by first | exact Kd.R_nil _ _ _ _ _ | exact Kd.N_nil _ _ _ _ _ | exact Kd.V_nil _ _ _ _ _ | exact Kd.Q_nil _ _ _ _ _ | exact Kd.S_nil _ _ _ _ _⟩, ⟨by (with_reducible repeat (first | refine blk_drewN ?_ _ | refine blk_drew ?_ | refine blk_alloc ?_ _)); exact BK101.out⟩, ⟨by (with_reducible repeat (first | refine blk_drewN ?_ _ | refine blk_drew ?_ | refine blk_alloc ?_ _)); exact BK102.out⟩, ⟨by repeat (first | (with_reducible first | exact HB.out | apply below_alloc | apply pw_below_drewN | apply below_drew1 | refine below_set ?_ GE101.out | refine below_set ?_ GE102.out) | exact HB.out)⟩⟩
        case round =>
          clear H'
          try clear c1
          try clear c2
          try clear p2
          try clear c6
          try clear c6b0
          try clear c7
          try clear c7b0
          try clear c9
          try clear c11
          try clear c12
          try clear hcz10_0
          try clear hcz10_1
          try clear hcz10_2
          try clear hcz13_0
          try clear hcz13_1
          try clear hcz13_2
          try clear hfz10_0
          try clear hfz10_1
          try clear hfz10_2
          try clear hfz13_0
          try clear hfz13_1
          try clear hfz13_2
          try clear p2
          obtain ⟨x6_2, x7_2, rfl, HA, HK2, HO_6, BK101, BK102, HB⟩ := hrel
          cases gk with
          | zero => exact absurd HA.out (by simp [icehouseref09_With.l0])
          | succ k2 =>
            have H := HA.out
            clear HA
            simp only [icehouseref09_With.l0] at H
            by_cases c14 : x7_2 < (l0_0.length : Int)
            · rw [if_pos c14] at H
              have c14b0 : decide (x7_2 < (l0_0.length : Int)) = true := decide_eq_true c14
              clear c14
              by_cases c15 : 0 ≤ x7_2
              · rw [if_pos c15] at H
                have c15b0 : decide (0 ≤ x7_2) = true := decide_eq_true c15
                clear c15
                by_cases c16 : (rd l0_0 x7_2) < a1
                · rw [if_pos c16] at H
                  have c16b0 : decide ((rd l0_0 x7_2) < a1) = true := decide_eq_true c16
                  clear c16
                  by_cases c17 : x6_2.length < 17592186044416
                  · rw [if_pos c17] at H
                    have LMc17 := Aside0.mk c17
                    clear c17
                    obtain ⟨y106, hy106⟩ : ∃ y_ : List Int, y_ = (x6_2 ++ [rd l0_0 x7_2]) := ⟨_, rfl⟩
                    replace H : (icehouseref09_With.l0 k2 a1 y106 (wrap64 (x7_2 + 1)) l0_0 a0_1 a0_2) = some (r1, r2, r3, r4) := by first | (rw [hy106]; with_reducible exact H) | (have H2_ := (Option.bind_some _ _).symm.trans H; rw [hy106]; with_reducible exact H2_) | (have H2_ := (Option.bind_some _ _).symm.trans H; with_reducible exact H2_) | with_reducible exact H | (rw [hy106]; exact H) | exact H
                    have Ny106 := Aside0.mk hy106
                    clear hy106
                    have H' := Aside0.mk H
                    clear H
                    have hnb18 := NB101_102.out
                    have hnc18 := NB102_101.out
                    have hcz19_0 : wr.cell? ⟨gb101, 0, none⟩ = some (.slice A0_0 l0_0.length c0_0) := (blk_cell BK101.out 0).trans rfl
                    have hcz19_1 : wr.cell? ⟨gb101, 1, none⟩ = some (.int .i64 a0_1) := (blk_cell BK101.out 1).trans rfl
                    have hcz19_2 : wr.cell? ⟨gb101, 2, none⟩ = some (.int .i64 a0_2) := (blk_cell BK101.out 2).trans rfl
                    have hfz19_0 := blk_frozen BK101.out 0
                    have hfz19_1 := blk_frozen BK101.out 1
                    have hfz19_2 := blk_frozen BK101.out 2
                    have p104 : 0 ≤ (x7_2 : Int) := of_decide_eq_true (by first | (with_reducible assumption) | assumption)
                    have q104 : x7_2 < (l0_0.length : Int) := of_decide_eq_true (by first | (with_reducible assumption) | assumption)
                    obtain ⟨ad104, e104, hx104_0⟩ := Kd.at_int HR0_0.out x7_2 p104 q104
                    cases e104
                    replace hx104_0 := (HB.out.cell (World.block_lt_of_cell? w _ hx104_0)).trans hx104_0
                    replace p104 := eq_true p104
                    replace q104 := eq_true q104
                    have p105 : 0 ≤ (x7_2 : Int) := of_decide_eq_true (by first | (with_reducible assumption) | assumption)
                    have q105 : x7_2 < (l0_0.length : Int) := of_decide_eq_true (by first | (with_reducible assumption) | assumption)
                    obtain ⟨ad105, e105, hx105_0⟩ := Kd.at_int HR0_0.out x7_2 p105 q105
                    obtain rfl : ad104 = ad105 := (by injection e105)
                    replace hx105_0 := (HB.out.cell (World.block_lt_of_cell? w _ hx105_0)).trans hx105_0
                    replace p105 := eq_true p105
                    replace q105 := eq_true q105
                    go_wp2_with (first | ((with_reducible refine gate_builtin (b := .append) (xs := #[.tmp 36, .tmp 42]) rfl ?_); at_builtin; refine Kd.R_append (Kd.int .i64) (w0 := w) w.heap.size rfl (.tmp 36) (.tmp 42) 22 3 (.int .i64 0) 8 rfl Try.underlying22 info3 rfl (by decide) (by omega) u6 x6_2 (rd l0_0 x7_2) [.int .i64 (rd l0_0 x7_2)] (fun _ => True) (fun _ => False) rfl rfl ?aP (fun _ hk => hk.elim) ?aF ?aO ?aB ?aS ?aL ?_; (case aP => exact rfl); (case aB => exact (by repeat (first | (with_reducible first | exact HB.out | apply below_alloc | apply pw_below_drewN | apply below_drew1 | refine below_set ?_ GE101.out | refine below_set ?_ GE102.out) | exact HB.out))); (case aF => exact (fun _ _ => trivial)); (case aO => exact (by (with_reducible repeat (first | apply Kd.R_alloc | apply Kd.R_drewN | apply Kd.R_drew)); exact HO_6.out)); (case aS => exact (below_size (by repeat (first | (with_reducible first | exact HB.out | apply below_alloc | apply pw_below_drewN | apply below_drew1 | refine below_set ?_ GE101.out | refine below_set ?_ GE102.out) | exact HB.out)))); (case aL => have := LMc17.out; omega); intro v107 w20 ho hb hg hat; rw [← Ny106.out] at ho; have n0_ := Aside0.mk (blk_grown (g := gb101) (o := .cells #[.slice (some ad104) l0_0.length c0_0, .int .i64 a0_1, .int .i64 a0_2] 24 (0, 0)) (by (with_reducible repeat (first | refine blk_drewN ?_ _ | refine blk_drew ?_ | refine blk_alloc ?_ _)); exact BK101.out) hg (Kd.R_ne HO_6.out BK101.out (by decide))); have n1_ := Aside0.mk (blk_grown (g := gb102) (o := .cells #[.slice none 0 0, .int .i64 0, .int .i64 0] 24 (0, 0)) (by (with_reducible repeat (first | refine blk_drewN ?_ _ | refine blk_drew ?_ | refine blk_alloc ?_ _)); exact BK102.out) hg (Kd.R_ne HO_6.out BK102.out (by decide))); have n2_ := Aside0.mk (hb); have n3_ := Aside0.mk (ho); clear BK101; clear BK102; clear HB; clear HO_6; have BK101 := n0_; have BK102 := n1_; have HB := n2_; have HO108 := n3_; clear n0_ n1_ n2_ n3_; clear ho hb hg hat))
                    go_roundg k2
                    case measure => have := HJ2.out; have := HK2.out; omega
                    case rel => exact ⟨(y106), (wrap64 (x7_2 + 1)), (by first | rfl | (simp; done) | (simp [*]; done)), H', ⟨by have := HJ2.out; have := HK2.out; omega⟩, ⟨by (with_reducible repeat (first | apply Kd.R_alloc | apply Kd.R_drewN | apply Kd.R_drew)); exact HO108.out⟩, ⟨by (with_reducible repeat (first | refine blk_drewN ?_ _ | refine blk_drew ?_ | refine blk_alloc ?_ _)); exact BK101.out⟩, ⟨by (with_reducible repeat (first | refine blk_drewN ?_ _ | refine blk_drew ?_ | refine blk_alloc ?_ _)); exact BK102.out⟩, ⟨by repeat (first | (with_reducible first | exact HB.out | apply below_alloc | apply pw_below_drewN | apply below_drew1 | refine below_set ?_ GE101.out | refine below_set ?_ GE102.out) | exact HB.out)⟩⟩
                  · rw [if_neg c17] at H
                    exact absurd H (by simp)
                · rw [if_neg c16] at H
                  have c16b0 : decide ((rd l0_0 x7_2) < a1) = false := decide_eq_false c16
                  clear c16
                  by_cases c21 : x6_2.length < 17592186044416
                  · rw [if_pos c21] at H
                    have LMc21 := Aside0.mk c21
                    clear c21
                    obtain ⟨y109, hy109⟩ : ∃ y_ : List Int, y_ = (x6_2 ++ [a1]) := ⟨_, rfl⟩
                    replace H : (if x7_2 ≤ (l0_0.length : Int) then (if y109.length + (l0_0.drop (x7_2 : Int).toNat).length < 17592186044416 then ((some (y109 ++ (l0_0.drop (x7_2 : Int).toNat) : List Int)).bind fun y113 => ((QH.icehouseref09_Check.f k2 y113 a0_1 a0_2).bind fun t117 => (if t117 = 0 then (some (y113, a0_1, a0_2, 0)) else (some (([] : List Int), 0, 0, 2))))) else (none)) else (none)) = some (r1, r2, r3, r4) := by first | (rw [hy109]; with_reducible exact H) | (have H2_ := (Option.bind_some _ _).symm.trans H; rw [hy109]; with_reducible exact H2_) | (have H2_ := (Option.bind_some _ _).symm.trans H; with_reducible exact H2_) | with_reducible exact H | (rw [hy109]; exact H) | exact H
                    have Ny109 := Aside0.mk hy109
                    clear hy109
                    have c22b0 := eq_true (of_decide_eq_true (by first | (with_reducible assumption) | assumption) : 0 ≤ x7_2)
                    by_cases c23 : x7_2 ≤ (l0_0.length : Int)
                    · rw [if_pos c23] at H
                      have c23b0 := eq_true c23
                      have c23b1 : decide (x7_2 ≤ (l0_0.length : Int)) = true := decide_eq_true c23
                      clear c23
                      by_cases c24 : y109.length + (l0_0.drop (x7_2 : Int).toNat).length < 17592186044416
                      · rw [if_pos c24] at H
                        have LMc24 := Aside0.mk c24
                        clear c24
                        obtain ⟨y113, hy113⟩ : ∃ y_ : List Int, y_ = (y109 ++ (l0_0.drop (x7_2 : Int).toNat)) := ⟨_, rfl⟩
                        replace H : ((QH.icehouseref09_Check.f k2 y113 a0_1 a0_2).bind fun t117 => (if t117 = 0 then (some (y113, a0_1, a0_2, 0)) else (some (([] : List Int), 0, 0, 2)))) = some (r1, r2, r3, r4) := by first | (rw [hy113]; with_reducible exact H) | (have H2_ := (Option.bind_some _ _).symm.trans H; rw [hy113]; with_reducible exact H2_) | (have H2_ := (Option.bind_some _ _).symm.trans H; with_reducible exact H2_) | with_reducible exact H | (rw [hy113]; exact H) | exact H
                        have Ny113 := Aside0.mk hy113
                        clear hy113
                        replace H := Option.bind_eq_some_iff.mp H
                        obtain ⟨t117, A250, H⟩ := H
                        replace H : (if t117 = 0 then (some (y113, a0_1, a0_2, 0)) else (some (([] : List Int), 0, 0, 2))) = some (r1, r2, r3, r4) := H
                        have A25 := Aside0.mk A250
                        clear A250
                        by_cases c26 : t117 = 0
                        · rw [if_pos c26] at H
                          have c26b0 : (t117 == 0) = true := beq_iff_eq.mpr c26
                          have c26b1 : (t117 != 0) = false := bne_eq_false_iff_eq.mpr c26
                          clear c26
                          simp only [Option.some.injEq, Prod.mk.injEq] at H
                          obtain ⟨rfl, rfl, rfl, rfl⟩ := H
                          have hnb27 := NB101_102.out
                          have hnc27 := NB102_101.out
                          have hcz28_0 : wr.cell? ⟨gb101, 0, none⟩ = some (.slice A0_0 l0_0.length c0_0) := (blk_cell BK101.out 0).trans rfl
                          have hcz28_1 : wr.cell? ⟨gb101, 1, none⟩ = some (.int .i64 a0_1) := (blk_cell BK101.out 1).trans rfl
                          have hcz28_2 : wr.cell? ⟨gb101, 2, none⟩ = some (.int .i64 a0_2) := (blk_cell BK101.out 2).trans rfl
                          have hfz28_0 := blk_frozen BK101.out 0
                          have hfz28_1 := blk_frozen BK101.out 1
                          have hfz28_2 := blk_frozen BK101.out 2
                          have p104 : 0 ≤ (x7_2 : Int) := of_decide_eq_true (by first | (with_reducible assumption) | assumption)
                          have q104 : x7_2 < (l0_0.length : Int) := of_decide_eq_true (by first | (with_reducible assumption) | assumption)
                          obtain ⟨ad104, e104, hx104_0⟩ := Kd.at_int HR0_0.out x7_2 p104 q104
                          cases e104
                          replace hx104_0 := (HB.out.cell (World.block_lt_of_cell? w _ hx104_0)).trans hx104_0
                          replace p104 := eq_true p104
                          replace q104 := eq_true q104
                          go_wp2_with (first | ((with_reducible refine gate_builtin (b := .append) (xs := #[.tmp 46, .tmp 48]) rfl ?_); at_builtin; refine Kd.R_append (Kd.int .i64) (w0 := w) w.heap.size rfl (.tmp 46) (.tmp 48) 22 3 (.int .i64 0) 8 rfl Try.underlying22 info3 rfl (by decide) (by omega) u6 x6_2 a1 [.int .i64 a1] (fun _ => True) (fun _ => False) rfl rfl ?aP (fun _ hk => hk.elim) ?aF ?aO ?aB ?aS ?aL ?_; (case aP => exact rfl); (case aB => exact (by repeat (first | (with_reducible first | exact HB.out | apply below_alloc | apply pw_below_drewN | apply below_drew1 | refine below_set ?_ GE101.out | refine below_set ?_ GE102.out) | exact HB.out))); (case aF => exact (fun _ _ => trivial)); (case aO => exact (by (with_reducible repeat (first | apply Kd.R_alloc | apply Kd.R_drewN | apply Kd.R_drew)); exact HO_6.out)); (case aS => exact (below_size (by repeat (first | (with_reducible first | exact HB.out | apply below_alloc | apply pw_below_drewN | apply below_drew1 | refine below_set ?_ GE101.out | refine below_set ?_ GE102.out) | exact HB.out)))); (case aL => have := LMc21.out; omega); intro v110 w29 ho hb hg hat; rw [← Ny109.out] at ho; have n0_ := Aside0.mk (blk_grown (g := gb101) (o := .cells #[.slice (some ad104) l0_0.length c0_0, .int .i64 a0_1, .int .i64 a0_2] 24 (0, 0)) (by (with_reducible repeat (first | refine blk_drewN ?_ _ | refine blk_drew ?_ | refine blk_alloc ?_ _)); exact BK101.out) hg (Kd.R_ne HO_6.out BK101.out (by decide))); have n1_ := Aside0.mk (blk_grown (g := gb102) (o := .cells #[.slice none 0 0, .int .i64 0, .int .i64 0] 24 (0, 0)) (by (with_reducible repeat (first | refine blk_drewN ?_ _ | refine blk_drew ?_ | refine blk_alloc ?_ _)); exact BK102.out) hg (Kd.R_ne HO_6.out BK102.out (by decide))); have n2_ := Aside0.mk (hb); have n3_ := Aside0.mk (ho); clear BK101; clear BK102; clear HB; clear HO_6; have BK101 := n0_; have BK102 := n1_; have HB := n2_; have HO111 := n3_; clear n0_ n1_ n2_ n3_; clear ho hb hg hat; have hcz30_0 : w29.cell? ⟨gb101, 0, none⟩ = some (.slice (some ad104) l0_0.length c0_0) := (blk_cell BK101.out 0).trans rfl; have hcz30_1 : w29.cell? ⟨gb101, 1, none⟩ = some (.int .i64 a0_1) := (blk_cell BK101.out 1).trans rfl; have hcz30_2 : w29.cell? ⟨gb101, 2, none⟩ = some (.int .i64 a0_2) := (blk_cell BK101.out 2).trans rfl; have hfz30_0 := blk_frozen BK101.out 0; have hfz30_1 := blk_frozen BK101.out 1; have hfz30_2 := blk_frozen BK101.out 2; obtain ⟨i031, hi031, _, hsz31, _⟩ := info_parts info3; obtain ⟨A31, hcut31, hA31, hC31⟩ := print_drop_of (P := Try.prog) (Value.int .i64) 0 22 3 .i64 Try.underlying22 hi031 hsz31 (some ad104) c0_0 l0_0 x7_2 (of_decide_eq_true (by first | (with_reducible assumption) | assumption)) (of_decide_eq_true (by first | (with_reducible assumption) | assumption)) HC0_0.out; have HR112 := Aside0.mk (Kd.C_of_reads (h1 := fun _ => rfl) (hA31 _ (Kd.reads_of_C HR0_0.out))); have HC112 := Aside0.mk hC31; clear hA31 hC31 hi031 hsz31) | ((with_reducible refine gate_builtin (b := .append) (xs := #[.tmp 50, .tmp 54]) rfl ?_); at_builtin; refine Kd.R_append_rows (Kd.int .i64) (w0 := w) w.heap.size rfl (.tmp 50) (.tmp 54) 22 3 (.int .i64 0) 8 rfl Try.underlying22 info3 rfl (by decide) (by omega) v110 y109 (l0_0.drop (x7_2 : Int).toNat) _ _ _ (fun _ => True) (fun _ => False) rfl rfl ?aO ?aR (fun _ _ h => h) (fun _ h => h.elim) ?aF ?aB ?aS ?aL ?_; (case aR => first | (rw [← show (l0_0.drop (x7_2 : Int).toNat).length = (l0_0.length - x7_2.toNat) from List.length_drop]; repeat (first | exact (Kd.C_below HR112.out HB.out) | (with_reducible refine Kd.C_alloc ?_ _) | (with_reducible refine Kd.C_drewN ?_ _) | (with_reducible refine Kd.C_drew ?_))) | (repeat (first | exact (Kd.C_below HR112.out HB.out) | (with_reducible refine Kd.C_alloc ?_ _) | (with_reducible refine Kd.C_drewN ?_ _) | (with_reducible refine Kd.C_drew ?_)))); (case aB => exact (by repeat (first | (with_reducible first | exact HB.out | apply below_alloc | apply pw_below_drewN | apply below_drew1 | refine below_set ?_ GE101.out | refine below_set ?_ GE102.out) | exact HB.out))); (case aF => exact (fun _ _ => trivial)); (case aO => exact (by (with_reducible repeat (first | apply Kd.R_alloc | apply Kd.R_drewN | apply Kd.R_drew)); exact HO111.out)); (case aS => exact (below_size (by repeat (first | (with_reducible first | exact HB.out | apply below_alloc | apply pw_below_drewN | apply below_drew1 | refine below_set ?_ GE101.out | refine below_set ?_ GE102.out) | exact HB.out)))); (case aL => have := LMc24.out; have hlx_ := (show (l0_0.drop (x7_2 : Int).toNat).length = (l0_0.length - x7_2.toNat) from List.length_drop); omega); intro v114 w32 ho hb hg hat; rw [← Ny113.out] at ho; have n0_ := Aside0.mk (blk_grown (g := gb101) (o := .cells #[.slice (some ad104) l0_0.length c0_0, .int .i64 a0_1, .int .i64 a0_2] 24 (0, 0)) (by (with_reducible repeat (first | refine blk_drewN ?_ _ | refine blk_drew ?_ | refine blk_alloc ?_ _)); exact BK101.out) hg (Kd.R_ne HO111.out BK101.out (by decide))); have n1_ := Aside0.mk (blk_grown (g := gb102) (o := .cells #[.slice none 0 0, .int .i64 0, .int .i64 0] 24 (0, 0)) (by (with_reducible repeat (first | refine blk_drewN ?_ _ | refine blk_drew ?_ | refine blk_alloc ?_ _)); exact BK102.out) hg (Kd.R_ne HO111.out BK102.out (by decide))); have n2_ := Aside0.mk (hb); have n3_ := Aside0.mk (ho); clear BK101; clear BK102; clear HB; clear HO111; have BK101 := n0_; have BK102 := n1_; have HB := n2_; have HO115 := n3_; clear n0_ n1_ n2_ n3_; clear ho hb hg hat; have hcz33_0 : w32.cell? ⟨gb101, 0, none⟩ = some (.slice (some ad104) l0_0.length c0_0) := (blk_cell BK101.out 0).trans rfl; have hcz33_1 : w32.cell? ⟨gb101, 1, none⟩ = some (.int .i64 a0_1) := (blk_cell BK101.out 1).trans rfl; have hcz33_2 : w32.cell? ⟨gb101, 2, none⟩ = some (.int .i64 a0_2) := (blk_cell BK101.out 2).trans rfl; have hfz33_0 := blk_frozen BK101.out 0; have hfz33_1 := blk_frozen BK101.out 1; have hfz33_2 := blk_frozen BK101.out 2; obtain ⟨Ao34, co34, eo34⟩ := Kd.R_slice HO115.out; subst eo34) | ((with_reducible refine gate_dst (N := 8) rfl ?_); refine box_event ?hg (N := 8) ?hd (cs := #[.slice none 0 0, .int .i64 0, .int .i64 0]) (t := 24) ?hr ?_; (case hd => rfl); (case hg => rfl); (case hr => first | (go_simp; done) | (go_simp; rfl)); intro gb116 hg w35 hbox hb; have n0_ := Aside0.mk (Kd.R_below (by (with_reducible repeat (first | apply Kd.R_alloc | apply Kd.R_drewN | apply Kd.R_drew)); exact HO115.out) hb); have n1_ := Aside0.mk (blk_below (g := gb101) (o := .cells #[.slice (some ad104) l0_0.length c0_0, .int .i64 a0_1, .int .i64 a0_2] 24 (0, 0)) (by (with_reducible repeat (first | refine blk_drewN ?_ _ | refine blk_drew ?_ | refine blk_alloc ?_ _)); exact BK101.out) hb); have n2_ := Aside0.mk (blk_below (g := gb102) (o := .cells #[.slice none 0 0, .int .i64 0, .int .i64 0] 24 (0, 0)) (by (with_reducible repeat (first | refine blk_drewN ?_ _ | refine blk_drew ?_ | refine blk_alloc ?_ _)); exact BK102.out) hb); have n3_ := Aside0.mk (below_step (by repeat (first | (with_reducible first | exact HB.out | apply below_alloc | apply pw_below_drewN | apply below_drew1 | refine below_set ?_ GE101.out | refine below_set ?_ GE102.out) | exact HB.out)) hb); have n4_ := Aside0.mk (hbox); have n5_ := Aside0.mk ((by rw [hg]; exact (below_size (by repeat (first | (with_reducible first | exact HB.out | apply below_alloc | apply pw_below_drewN | apply below_drew1 | refine below_set ?_ GE101.out | refine below_set ?_ GE102.out) | exact HB.out))) : w.heap.size ≤ gb116)); have n6_ := Aside0.mk ((by rw [hg]; exact (below_size (by repeat (first | (with_reducible first | exact HB.out | apply below_alloc | apply pw_below_drewN | apply below_drew1 | refine below_set ?_ GE101.out | refine below_set ?_ GE102.out) | exact HB.out))) : w.heap.size ≤ gb116)); have n7_ := Aside0.mk ((by rw [hg]; exact Nat.ne_of_lt (blk_lt (g := gb101) (o := .cells #[.slice (some ad104) l0_0.length c0_0, .int .i64 a0_1, .int .i64 a0_2] 24 (0, 0)) (by (with_reducible repeat (first | refine blk_drewN ?_ _ | refine blk_drew ?_ | refine blk_alloc ?_ _)); exact BK101.out)) : gb101 ≠ gb116)); have n8_ := Aside0.mk ((by rw [hg]; exact Nat.ne_of_gt (blk_lt (g := gb101) (o := .cells #[.slice (some ad104) l0_0.length c0_0, .int .i64 a0_1, .int .i64 a0_2] 24 (0, 0)) (by (with_reducible repeat (first | refine blk_drewN ?_ _ | refine blk_drew ?_ | refine blk_alloc ?_ _)); exact BK101.out)) : gb116 ≠ gb101)); have n9_ := Aside0.mk ((by rw [hg]; exact Nat.ne_of_lt (blk_lt (g := gb102) (o := .cells #[.slice none 0 0, .int .i64 0, .int .i64 0] 24 (0, 0)) (by (with_reducible repeat (first | refine blk_drewN ?_ _ | refine blk_drew ?_ | refine blk_alloc ?_ _)); exact BK102.out)) : gb102 ≠ gb116)); have n10_ := Aside0.mk ((by rw [hg]; exact Nat.ne_of_gt (blk_lt (g := gb102) (o := .cells #[.slice none 0 0, .int .i64 0, .int .i64 0] 24 (0, 0)) (by (with_reducible repeat (first | refine blk_drewN ?_ _ | refine blk_drew ?_ | refine blk_alloc ?_ _)); exact BK102.out)) : gb116 ≠ gb102)); clear HO115; clear BK101; clear BK102; clear HB; have HO115 := n0_; have BK101 := n1_; have BK102 := n2_; have HB := n3_; have BK116 := n4_; have GW116 := n5_; have GE116 := n6_; have NB101_116 := n7_; have NB116_101 := n8_; have NB102_116 := n9_; have NB116_102 := n10_; clear n0_ n1_ n2_ n3_ n4_ n5_ n6_ n7_ n8_ n9_ n10_; clear hb hbox hg; have hnb36 := NB116_101.out; have hnc36 := NB101_116.out; have hnb37 := NB116_102.out; have hnc37 := NB102_116.out; have hcz38_0 : w35.cell? ⟨gb116, 0, none⟩ = some (.slice none 0 0) := (blk_cell BK116.out 0).trans rfl; have hcz38_1 : w35.cell? ⟨gb116, 1, none⟩ = some (.int .i64 0) := (blk_cell BK116.out 1).trans rfl; have hcz38_2 : w35.cell? ⟨gb116, 2, none⟩ = some (.int .i64 0) := (blk_cell BK116.out 2).trans rfl; have hfz38_0 := blk_frozen BK116.out 0; have hfz38_1 := blk_frozen BK116.out 1; have hfz38_2 := blk_frozen BK116.out 2) | ((with_reducible refine gate_callee (f := 11) rfl ?_); refine goesL_ (some 63) rfl rfl Try.func11 (by kernel_rfl) rfl #[.agg #[.slice Ao34 y113.length co34, .int .i64 a0_1, .int .i64 a0_2]] rfl (by (try simp only [List.map_toArray, List.map_cons, List.map_nil]); first | done | rfl | (simp only [List.length_drop, List.length_take]; rfl)) ?_; (with_reducible refine (QH.icehouseref09_Check.calls k2 _ _ y113 a0_1 a0_2 t117 _ ?side1 ?side2 A25.out).mono ?_); (case side1 => refine (Kd.R_reads' (e := 3) (base := w.heap.size) (ok := fun k_ => True) (n := y113.length) (c := co34) ?_).2.2; exact (by (with_reducible repeat (first | apply Kd.R_alloc | apply Kd.R_drewN | apply Kd.R_drew)); exact (Kd.R_mono (Kd.R_far (p := ⟨gb116, 2, none⟩) (Kd.R_far (p := ⟨gb116, 1, none⟩) (Kd.R_far (p := ⟨gb116, 0, none⟩) (Kd.R_types HO115.out BK116.out (by decide)) (fun _ hk => hk.2) (.slice Ao34 y113.length co34)) (fun _ hk => hk.2) (.int .i64 a0_1)) (fun _ hk => hk.2) (.int .i64 a0_2)) (fun _ h_ => h_.1)))); (case side2 => exact (Kd.R_reads' HO115.out).2.1); rintro e w39 ⟨rfl, hb⟩; refine ⟨_, rfl, ?_⟩; have n0_ := Aside0.mk (Kd.R_below (by (with_reducible repeat (first | apply Kd.R_alloc | apply Kd.R_drewN | apply Kd.R_drew)); exact (Kd.R_mono (Kd.R_far (p := ⟨gb116, 2, none⟩) (Kd.R_far (p := ⟨gb116, 1, none⟩) (Kd.R_far (p := ⟨gb116, 0, none⟩) (Kd.R_types HO115.out BK116.out (by decide)) (fun _ hk => hk.2) (.slice Ao34 y113.length co34)) (fun _ hk => hk.2) (.int .i64 a0_1)) (fun _ hk => hk.2) (.int .i64 a0_2)) (fun _ h_ => h_.1))) hb); have n1_ := Aside0.mk (blk_below (g := gb101) (o := .cells #[.slice (some ad104) l0_0.length c0_0, .int .i64 a0_1, .int .i64 a0_2] 24 (0, 0)) (by (with_reducible repeat (first | refine blk_drewN ?_ _ | refine blk_drew ?_ | refine blk_alloc ?_ _)); refine blk_far ?_ NB101_116.out _; (with_reducible repeat (first | refine blk_drewN ?_ _ | refine blk_drew ?_ | refine blk_alloc ?_ _)); refine blk_far ?_ NB101_116.out _; (with_reducible repeat (first | refine blk_drewN ?_ _ | refine blk_drew ?_ | refine blk_alloc ?_ _)); refine blk_far ?_ NB101_116.out _; (with_reducible repeat (first | refine blk_drewN ?_ _ | refine blk_drew ?_ | refine blk_alloc ?_ _)); exact BK101.out) hb); have n2_ := Aside0.mk (blk_below (g := gb102) (o := .cells #[.slice none 0 0, .int .i64 0, .int .i64 0] 24 (0, 0)) (by (with_reducible repeat (first | refine blk_drewN ?_ _ | refine blk_drew ?_ | refine blk_alloc ?_ _)); refine blk_far ?_ NB102_116.out _; (with_reducible repeat (first | refine blk_drewN ?_ _ | refine blk_drew ?_ | refine blk_alloc ?_ _)); refine blk_far ?_ NB102_116.out _; (with_reducible repeat (first | refine blk_drewN ?_ _ | refine blk_drew ?_ | refine blk_alloc ?_ _)); refine blk_far ?_ NB102_116.out _; (with_reducible repeat (first | refine blk_drewN ?_ _ | refine blk_drew ?_ | refine blk_alloc ?_ _)); exact BK102.out) hb); have n3_ := Aside0.mk (blk_below (g := gb116) (o := .cells #[.slice Ao34 y113.length co34, .int .i64 a0_1, .int .i64 a0_2] 24 (0, 0)) (by (with_reducible repeat (first | refine blk_drewN ?_ _ | refine blk_drew ?_ | refine blk_alloc ?_ _)); refine blk_put (cs := #[.slice Ao34 y113.length co34, .int .i64 a0_1, .int .i64 0]) ?_ 2 _ rfl; (with_reducible repeat (first | refine blk_drewN ?_ _ | refine blk_drew ?_ | refine blk_alloc ?_ _)); refine blk_put (cs := #[.slice Ao34 y113.length co34, .int .i64 0, .int .i64 0]) ?_ 1 _ rfl; (with_reducible repeat (first | refine blk_drewN ?_ _ | refine blk_drew ?_ | refine blk_alloc ?_ _)); refine blk_put (cs := #[.slice none 0 0, .int .i64 0, .int .i64 0]) ?_ 0 _ rfl; (with_reducible repeat (first | refine blk_drewN ?_ _ | refine blk_drew ?_ | refine blk_alloc ?_ _)); exact BK116.out) hb); have n4_ := Aside0.mk (below_step (by repeat (first | (with_reducible first | exact HB.out | apply below_alloc | apply pw_below_drewN | apply below_drew1 | refine below_set ?_ GE101.out | refine below_set ?_ GE102.out | refine below_set ?_ GE116.out) | exact HB.out)) hb); clear HO115; clear BK101; clear BK102; clear BK116; clear HB; have HO115 := n0_; have BK101 := n1_; have BK102 := n2_; have BK116 := n3_; have HB := n4_; clear n0_ n1_ n2_ n3_ n4_; (try clear hb); (try clear hb2); (try clear hk); (try clear hi); have hcz40_0 : w39.cell? ⟨gb116, 0, none⟩ = some (.slice Ao34 y113.length co34) := (blk_cell BK116.out 0).trans rfl; have hcz40_1 : w39.cell? ⟨gb116, 1, none⟩ = some (.int .i64 a0_1) := (blk_cell BK116.out 1).trans rfl; have hcz40_2 : w39.cell? ⟨gb116, 2, none⟩ = some (.int .i64 a0_2) := (blk_cell BK116.out 2).trans rfl; have hfz40_0 := blk_frozen BK116.out 0; have hfz40_1 := blk_frozen BK116.out 1; have hfz40_2 := blk_frozen BK116.out 2; have hcz41_0 : w39.cell? ⟨gb102, 0, none⟩ = some (.slice none 0 0) := (blk_cell BK102.out 0).trans rfl; have hcz41_1 : w39.cell? ⟨gb102, 1, none⟩ = some (.int .i64 0) := (blk_cell BK102.out 1).trans rfl; have hcz41_2 : w39.cell? ⟨gb102, 2, none⟩ = some (.int .i64 0) := (blk_cell BK102.out 2).trans rfl; have hfz41_0 := blk_frozen BK102.out 0; have hfz41_1 := blk_frozen BK102.out 1; have hfz41_2 := blk_frozen BK102.out 2))
                          refine bodyPost_ret (results_ct rfl _ _ gb102 24 #[.slice Ao34 y113.length co34, .int .i64 a0_1, .int .i64 a0_2] (0, 0) _ rfl (by (with_reducible repeat (first | refine blk_drewN ?_ _ | refine blk_drew ?_ | refine blk_alloc ?_ _)); refine blk_put (cs := #[.slice Ao34 y113.length co34, .int .i64 a0_1, .int .i64 0]) ?_ 2 _ rfl; (with_reducible repeat (first | refine blk_drewN ?_ _ | refine blk_drew ?_ | refine blk_alloc ?_ _)); refine blk_put (cs := #[.slice Ao34 y113.length co34, .int .i64 0, .int .i64 0]) ?_ 1 _ rfl; (with_reducible repeat (first | refine blk_drewN ?_ _ | refine blk_drew ?_ | refine blk_alloc ?_ _)); refine blk_put (cs := #[.slice none 0 0, .int .i64 0, .int .i64 0]) ?_ 0 _ rfl; (with_reducible repeat (first | refine blk_drewN ?_ _ | refine blk_drew ?_ | refine blk_alloc ?_ _)); exact BK102.out) Try.underlying24 rfl (by kernel_rfl)) rfl ?_
                          exact ⟨_, by first | rfl | (simp [errW_none, errW_some] <;> rfl) | (simp [*, errW_none, errW_some] <;> rfl), by (with_reducible repeat (first | apply Kd.R_alloc | apply Kd.R_drewN | apply Kd.R_drew)); exact Kd.R_mono (Kd.R_far (p := ⟨gb102, 2, none⟩) (Kd.R_far (p := ⟨gb102, 1, none⟩) (Kd.R_far (p := ⟨gb102, 0, none⟩) (Kd.R_types HO115.out BK102.out (by decide)) (fun _ hk => hk.2) (.slice Ao34 y113.length co34)) (fun _ hk => hk.2) (.int .i64 a0_1)) (fun _ hk => hk.2) (.int .i64 a0_2)) (fun _ hk => trivial), by repeat (first | (with_reducible first | exact HB.out | apply below_alloc | apply pw_below_drewN | apply below_drew1 | refine below_set ?_ GE101.out | refine below_set ?_ GE102.out | refine below_set ?_ GE116.out) | exact HB.out)⟩
                        · rw [if_neg c26] at H
                          have c26b0 : (t117 == 0) = false := beq_eq_false_iff_ne.mpr c26
                          have c26b1 : (t117 != 0) = true := bne_iff_ne.mpr c26
                          simp only [Option.some.injEq, Prod.mk.injEq] at H
                          obtain ⟨rfl, rfl, rfl, rfl⟩ := H
                          have hnb42 := NB101_102.out
                          have hnc42 := NB102_101.out
                          have hcz43_0 : wr.cell? ⟨gb101, 0, none⟩ = some (.slice A0_0 l0_0.length c0_0) := (blk_cell BK101.out 0).trans rfl
                          have hcz43_1 : wr.cell? ⟨gb101, 1, none⟩ = some (.int .i64 a0_1) := (blk_cell BK101.out 1).trans rfl
                          have hcz43_2 : wr.cell? ⟨gb101, 2, none⟩ = some (.int .i64 a0_2) := (blk_cell BK101.out 2).trans rfl
                          have hfz43_0 := blk_frozen BK101.out 0
                          have hfz43_1 := blk_frozen BK101.out 1
                          have hfz43_2 := blk_frozen BK101.out 2
                          have p104 : 0 ≤ (x7_2 : Int) := of_decide_eq_true (by first | (with_reducible assumption) | assumption)
                          have q104 : x7_2 < (l0_0.length : Int) := of_decide_eq_true (by first | (with_reducible assumption) | assumption)
                          obtain ⟨ad104, e104, hx104_0⟩ := Kd.at_int HR0_0.out x7_2 p104 q104
                          cases e104
                          replace hx104_0 := (HB.out.cell (World.block_lt_of_cell? w _ hx104_0)).trans hx104_0
                          replace p104 := eq_true p104
                          replace q104 := eq_true q104
                          go_wp2_with (first | ((with_reducible refine gate_builtin (b := .append) (xs := #[.tmp 46, .tmp 48]) rfl ?_); at_builtin; refine Kd.R_append (Kd.int .i64) (w0 := w) w.heap.size rfl (.tmp 46) (.tmp 48) 22 3 (.int .i64 0) 8 rfl Try.underlying22 info3 rfl (by decide) (by omega) u6 x6_2 a1 [.int .i64 a1] (fun _ => True) (fun _ => False) rfl rfl ?aP (fun _ hk => hk.elim) ?aF ?aO ?aB ?aS ?aL ?_; (case aP => exact rfl); (case aB => exact (by repeat (first | (with_reducible first | exact HB.out | apply below_alloc | apply pw_below_drewN | apply below_drew1 | refine below_set ?_ GE101.out | refine below_set ?_ GE102.out) | exact HB.out))); (case aF => exact (fun _ _ => trivial)); (case aO => exact (by (with_reducible repeat (first | apply Kd.R_alloc | apply Kd.R_drewN | apply Kd.R_drew)); exact HO_6.out)); (case aS => exact (below_size (by repeat (first | (with_reducible first | exact HB.out | apply below_alloc | apply pw_below_drewN | apply below_drew1 | refine below_set ?_ GE101.out | refine below_set ?_ GE102.out) | exact HB.out)))); (case aL => have := LMc21.out; omega); intro v110 w44 ho hb hg hat; rw [← Ny109.out] at ho; have n0_ := Aside0.mk (blk_grown (g := gb101) (o := .cells #[.slice (some ad104) l0_0.length c0_0, .int .i64 a0_1, .int .i64 a0_2] 24 (0, 0)) (by (with_reducible repeat (first | refine blk_drewN ?_ _ | refine blk_drew ?_ | refine blk_alloc ?_ _)); exact BK101.out) hg (Kd.R_ne HO_6.out BK101.out (by decide))); have n1_ := Aside0.mk (blk_grown (g := gb102) (o := .cells #[.slice none 0 0, .int .i64 0, .int .i64 0] 24 (0, 0)) (by (with_reducible repeat (first | refine blk_drewN ?_ _ | refine blk_drew ?_ | refine blk_alloc ?_ _)); exact BK102.out) hg (Kd.R_ne HO_6.out BK102.out (by decide))); have n2_ := Aside0.mk (hb); have n3_ := Aside0.mk (ho); clear BK101; clear BK102; clear HB; clear HO_6; have BK101 := n0_; have BK102 := n1_; have HB := n2_; have HO111 := n3_; clear n0_ n1_ n2_ n3_; clear ho hb hg hat; have hcz45_0 : w44.cell? ⟨gb101, 0, none⟩ = some (.slice (some ad104) l0_0.length c0_0) := (blk_cell BK101.out 0).trans rfl; have hcz45_1 : w44.cell? ⟨gb101, 1, none⟩ = some (.int .i64 a0_1) := (blk_cell BK101.out 1).trans rfl; have hcz45_2 : w44.cell? ⟨gb101, 2, none⟩ = some (.int .i64 a0_2) := (blk_cell BK101.out 2).trans rfl; have hfz45_0 := blk_frozen BK101.out 0; have hfz45_1 := blk_frozen BK101.out 1; have hfz45_2 := blk_frozen BK101.out 2; obtain ⟨i046, hi046, _, hsz46, _⟩ := info_parts info3; obtain ⟨A46, hcut46, hA46, hC46⟩ := print_drop_of (P := Try.prog) (Value.int .i64) 0 22 3 .i64 Try.underlying22 hi046 hsz46 (some ad104) c0_0 l0_0 x7_2 (of_decide_eq_true (by first | (with_reducible assumption) | assumption)) (of_decide_eq_true (by first | (with_reducible assumption) | assumption)) HC0_0.out; have HR112 := Aside0.mk (Kd.C_of_reads (h1 := fun _ => rfl) (hA46 _ (Kd.reads_of_C HR0_0.out))); have HC112 := Aside0.mk hC46; clear hA46 hC46 hi046 hsz46) | ((with_reducible refine gate_builtin (b := .append) (xs := #[.tmp 50, .tmp 54]) rfl ?_); at_builtin; refine Kd.R_append_rows (Kd.int .i64) (w0 := w) w.heap.size rfl (.tmp 50) (.tmp 54) 22 3 (.int .i64 0) 8 rfl Try.underlying22 info3 rfl (by decide) (by omega) v110 y109 (l0_0.drop (x7_2 : Int).toNat) _ _ _ (fun _ => True) (fun _ => False) rfl rfl ?aO ?aR (fun _ _ h => h) (fun _ h => h.elim) ?aF ?aB ?aS ?aL ?_; (case aR => first | (rw [← show (l0_0.drop (x7_2 : Int).toNat).length = (l0_0.length - x7_2.toNat) from List.length_drop]; repeat (first | exact (Kd.C_below HR112.out HB.out) | (with_reducible refine Kd.C_alloc ?_ _) | (with_reducible refine Kd.C_drewN ?_ _) | (with_reducible refine Kd.C_drew ?_))) | (repeat (first | exact (Kd.C_below HR112.out HB.out) | (with_reducible refine Kd.C_alloc ?_ _) | (with_reducible refine Kd.C_drewN ?_ _) | (with_reducible refine Kd.C_drew ?_)))); (case aB => exact (by repeat (first | (with_reducible first | exact HB.out | apply below_alloc | apply pw_below_drewN | apply below_drew1 | refine below_set ?_ GE101.out | refine below_set ?_ GE102.out) | exact HB.out))); (case aF => exact (fun _ _ => trivial)); (case aO => exact (by (with_reducible repeat (first | apply Kd.R_alloc | apply Kd.R_drewN | apply Kd.R_drew)); exact HO111.out)); (case aS => exact (below_size (by repeat (first | (with_reducible first | exact HB.out | apply below_alloc | apply pw_below_drewN | apply below_drew1 | refine below_set ?_ GE101.out | refine below_set ?_ GE102.out) | exact HB.out)))); (case aL => have := LMc24.out; have hlx_ := (show (l0_0.drop (x7_2 : Int).toNat).length = (l0_0.length - x7_2.toNat) from List.length_drop); omega); intro v114 w47 ho hb hg hat; rw [← Ny113.out] at ho; have n0_ := Aside0.mk (blk_grown (g := gb101) (o := .cells #[.slice (some ad104) l0_0.length c0_0, .int .i64 a0_1, .int .i64 a0_2] 24 (0, 0)) (by (with_reducible repeat (first | refine blk_drewN ?_ _ | refine blk_drew ?_ | refine blk_alloc ?_ _)); exact BK101.out) hg (Kd.R_ne HO111.out BK101.out (by decide))); have n1_ := Aside0.mk (blk_grown (g := gb102) (o := .cells #[.slice none 0 0, .int .i64 0, .int .i64 0] 24 (0, 0)) (by (with_reducible repeat (first | refine blk_drewN ?_ _ | refine blk_drew ?_ | refine blk_alloc ?_ _)); exact BK102.out) hg (Kd.R_ne HO111.out BK102.out (by decide))); have n2_ := Aside0.mk (hb); have n3_ := Aside0.mk (ho); clear BK101; clear BK102; clear HB; clear HO111; have BK101 := n0_; have BK102 := n1_; have HB := n2_; have HO115 := n3_; clear n0_ n1_ n2_ n3_; clear ho hb hg hat; have hcz48_0 : w47.cell? ⟨gb101, 0, none⟩ = some (.slice (some ad104) l0_0.length c0_0) := (blk_cell BK101.out 0).trans rfl; have hcz48_1 : w47.cell? ⟨gb101, 1, none⟩ = some (.int .i64 a0_1) := (blk_cell BK101.out 1).trans rfl; have hcz48_2 : w47.cell? ⟨gb101, 2, none⟩ = some (.int .i64 a0_2) := (blk_cell BK101.out 2).trans rfl; have hfz48_0 := blk_frozen BK101.out 0; have hfz48_1 := blk_frozen BK101.out 1; have hfz48_2 := blk_frozen BK101.out 2; obtain ⟨Ao49, co49, eo49⟩ := Kd.R_slice HO115.out; subst eo49) | ((with_reducible refine gate_dst (N := 8) rfl ?_); refine box_event ?hg (N := 8) ?hd (cs := #[.slice none 0 0, .int .i64 0, .int .i64 0]) (t := 24) ?hr ?_; (case hd => rfl); (case hg => rfl); (case hr => first | (go_simp; done) | (go_simp; rfl)); intro gb116 hg w50 hbox hb; have n0_ := Aside0.mk (Kd.R_below (by (with_reducible repeat (first | apply Kd.R_alloc | apply Kd.R_drewN | apply Kd.R_drew)); exact HO115.out) hb); have n1_ := Aside0.mk (blk_below (g := gb101) (o := .cells #[.slice (some ad104) l0_0.length c0_0, .int .i64 a0_1, .int .i64 a0_2] 24 (0, 0)) (by (with_reducible repeat (first | refine blk_drewN ?_ _ | refine blk_drew ?_ | refine blk_alloc ?_ _)); exact BK101.out) hb); have n2_ := Aside0.mk (blk_below (g := gb102) (o := .cells #[.slice none 0 0, .int .i64 0, .int .i64 0] 24 (0, 0)) (by (with_reducible repeat (first | refine blk_drewN ?_ _ | refine blk_drew ?_ | refine blk_alloc ?_ _)); exact BK102.out) hb); have n3_ := Aside0.mk (below_step (by repeat (first | (with_reducible first | exact HB.out | apply below_alloc | apply pw_below_drewN | apply below_drew1 | refine below_set ?_ GE101.out | refine below_set ?_ GE102.out) | exact HB.out)) hb); have n4_ := Aside0.mk (hbox); have n5_ := Aside0.mk ((by rw [hg]; exact (below_size (by repeat (first | (with_reducible first | exact HB.out | apply below_alloc | apply pw_below_drewN | apply below_drew1 | refine below_set ?_ GE101.out | refine below_set ?_ GE102.out) | exact HB.out))) : w.heap.size ≤ gb116)); have n6_ := Aside0.mk ((by rw [hg]; exact (below_size (by repeat (first | (with_reducible first | exact HB.out | apply below_alloc | apply pw_below_drewN | apply below_drew1 | refine below_set ?_ GE101.out | refine below_set ?_ GE102.out) | exact HB.out))) : w.heap.size ≤ gb116)); have n7_ := Aside0.mk ((by rw [hg]; exact Nat.ne_of_lt (blk_lt (g := gb101) (o := .cells #[.slice (some ad104) l0_0.length c0_0, .int .i64 a0_1, .int .i64 a0_2] 24 (0, 0)) (by (with_reducible repeat (first | refine blk_drewN ?_ _ | refine blk_drew ?_ | refine blk_alloc ?_ _)); exact BK101.out)) : gb101 ≠ gb116)); have n8_ := Aside0.mk ((by rw [hg]; exact Nat.ne_of_gt (blk_lt (g := gb101) (o := .cells #[.slice (some ad104) l0_0.length c0_0, .int .i64 a0_1, .int .i64 a0_2] 24 (0, 0)) (by (with_reducible repeat (first | refine blk_drewN ?_ _ | refine blk_drew ?_ | refine blk_alloc ?_ _)); exact BK101.out)) : gb116 ≠ gb101)); have n9_ := Aside0.mk ((by rw [hg]; exact Nat.ne_of_lt (blk_lt (g := gb102) (o := .cells #[.slice none 0 0, .int .i64 0, .int .i64 0] 24 (0, 0)) (by (with_reducible repeat (first | refine blk_drewN ?_ _ | refine blk_drew ?_ | refine blk_alloc ?_ _)); exact BK102.out)) : gb102 ≠ gb116)); have n10_ := Aside0.mk ((by rw [hg]; exact Nat.ne_of_gt (blk_lt (g := gb102) (o := .cells #[.slice none 0 0, .int .i64 0, .int .i64 0] 24 (0, 0)) (by (with_reducible repeat (first | refine blk_drewN ?_ _ | refine blk_drew ?_ | refine blk_alloc ?_ _)); exact BK102.out)) : gb116 ≠ gb102)); clear HO115; clear BK101; clear BK102; clear HB; have HO115 := n0_; have BK101 := n1_; have BK102 := n2_; have HB := n3_; have BK116 := n4_; have GW116 := n5_; have GE116 := n6_; have NB101_116 := n7_; have NB116_101 := n8_; have NB102_116 := n9_; have NB116_102 := n10_; clear n0_ n1_ n2_ n3_ n4_ n5_ n6_ n7_ n8_ n9_ n10_; clear hb hbox hg; have hnb51 := NB116_101.out; have hnc51 := NB101_116.out; have hnb52 := NB116_102.out; have hnc52 := NB102_116.out; have hcz53_0 : w50.cell? ⟨gb116, 0, none⟩ = some (.slice none 0 0) := (blk_cell BK116.out 0).trans rfl; have hcz53_1 : w50.cell? ⟨gb116, 1, none⟩ = some (.int .i64 0) := (blk_cell BK116.out 1).trans rfl; have hcz53_2 : w50.cell? ⟨gb116, 2, none⟩ = some (.int .i64 0) := (blk_cell BK116.out 2).trans rfl; have hfz53_0 := blk_frozen BK116.out 0; have hfz53_1 := blk_frozen BK116.out 1; have hfz53_2 := blk_frozen BK116.out 2) | ((with_reducible refine gate_callee (f := 11) rfl ?_); refine goesL_ (some 63) rfl rfl Try.func11 (by kernel_rfl) rfl #[.agg #[.slice Ao49 y113.length co49, .int .i64 a0_1, .int .i64 a0_2]] rfl (by (try simp only [List.map_toArray, List.map_cons, List.map_nil]); first | done | rfl | (simp only [List.length_drop, List.length_take]; rfl)) ?_; (with_reducible refine (QH.icehouseref09_Check.calls k2 _ _ y113 a0_1 a0_2 t117 _ ?side1 ?side2 A25.out).mono ?_); (case side1 => refine (Kd.R_reads' (e := 3) (base := w.heap.size) (ok := fun k_ => True) (n := y113.length) (c := co49) ?_).2.2; exact (by (with_reducible repeat (first | apply Kd.R_alloc | apply Kd.R_drewN | apply Kd.R_drew)); exact (Kd.R_mono (Kd.R_far (p := ⟨gb116, 2, none⟩) (Kd.R_far (p := ⟨gb116, 1, none⟩) (Kd.R_far (p := ⟨gb116, 0, none⟩) (Kd.R_types HO115.out BK116.out (by decide)) (fun _ hk => hk.2) (.slice Ao49 y113.length co49)) (fun _ hk => hk.2) (.int .i64 a0_1)) (fun _ hk => hk.2) (.int .i64 a0_2)) (fun _ h_ => h_.1)))); (case side2 => exact (Kd.R_reads' HO115.out).2.1); rintro e w54 ⟨rfl, hb⟩; refine ⟨_, rfl, ?_⟩; have n0_ := Aside0.mk (Kd.R_below (by (with_reducible repeat (first | apply Kd.R_alloc | apply Kd.R_drewN | apply Kd.R_drew)); exact (Kd.R_mono (Kd.R_far (p := ⟨gb116, 2, none⟩) (Kd.R_far (p := ⟨gb116, 1, none⟩) (Kd.R_far (p := ⟨gb116, 0, none⟩) (Kd.R_types HO115.out BK116.out (by decide)) (fun _ hk => hk.2) (.slice Ao49 y113.length co49)) (fun _ hk => hk.2) (.int .i64 a0_1)) (fun _ hk => hk.2) (.int .i64 a0_2)) (fun _ h_ => h_.1))) hb); have n1_ := Aside0.mk (blk_below (g := gb101) (o := .cells #[.slice (some ad104) l0_0.length c0_0, .int .i64 a0_1, .int .i64 a0_2] 24 (0, 0)) (by (with_reducible repeat (first | refine blk_drewN ?_ _ | refine blk_drew ?_ | refine blk_alloc ?_ _)); refine blk_far ?_ NB101_116.out _; (with_reducible repeat (first | refine blk_drewN ?_ _ | refine blk_drew ?_ | refine blk_alloc ?_ _)); refine blk_far ?_ NB101_116.out _; (with_reducible repeat (first | refine blk_drewN ?_ _ | refine blk_drew ?_ | refine blk_alloc ?_ _)); refine blk_far ?_ NB101_116.out _; (with_reducible repeat (first | refine blk_drewN ?_ _ | refine blk_drew ?_ | refine blk_alloc ?_ _)); exact BK101.out) hb); have n2_ := Aside0.mk (blk_below (g := gb102) (o := .cells #[.slice none 0 0, .int .i64 0, .int .i64 0] 24 (0, 0)) (by (with_reducible repeat (first | refine blk_drewN ?_ _ | refine blk_drew ?_ | refine blk_alloc ?_ _)); refine blk_far ?_ NB102_116.out _; (with_reducible repeat (first | refine blk_drewN ?_ _ | refine blk_drew ?_ | refine blk_alloc ?_ _)); refine blk_far ?_ NB102_116.out _; (with_reducible repeat (first | refine blk_drewN ?_ _ | refine blk_drew ?_ | refine blk_alloc ?_ _)); refine blk_far ?_ NB102_116.out _; (with_reducible repeat (first | refine blk_drewN ?_ _ | refine blk_drew ?_ | refine blk_alloc ?_ _)); exact BK102.out) hb); have n3_ := Aside0.mk (blk_below (g := gb116) (o := .cells #[.slice Ao49 y113.length co49, .int .i64 a0_1, .int .i64 a0_2] 24 (0, 0)) (by (with_reducible repeat (first | refine blk_drewN ?_ _ | refine blk_drew ?_ | refine blk_alloc ?_ _)); refine blk_put (cs := #[.slice Ao49 y113.length co49, .int .i64 a0_1, .int .i64 0]) ?_ 2 _ rfl; (with_reducible repeat (first | refine blk_drewN ?_ _ | refine blk_drew ?_ | refine blk_alloc ?_ _)); refine blk_put (cs := #[.slice Ao49 y113.length co49, .int .i64 0, .int .i64 0]) ?_ 1 _ rfl; (with_reducible repeat (first | refine blk_drewN ?_ _ | refine blk_drew ?_ | refine blk_alloc ?_ _)); refine blk_put (cs := #[.slice none 0 0, .int .i64 0, .int .i64 0]) ?_ 0 _ rfl; (with_reducible repeat (first | refine blk_drewN ?_ _ | refine blk_drew ?_ | refine blk_alloc ?_ _)); exact BK116.out) hb); have n4_ := Aside0.mk (below_step (by repeat (first | (with_reducible first | exact HB.out | apply below_alloc | apply pw_below_drewN | apply below_drew1 | refine below_set ?_ GE101.out | refine below_set ?_ GE102.out | refine below_set ?_ GE116.out) | exact HB.out)) hb); clear HO115; clear BK101; clear BK102; clear BK116; clear HB; have HO115 := n0_; have BK101 := n1_; have BK102 := n2_; have BK116 := n3_; have HB := n4_; clear n0_ n1_ n2_ n3_ n4_; (try clear hb); (try clear hb2); (try clear hk); (try clear hi); have hcz55_0 : w54.cell? ⟨gb102, 0, none⟩ = some (.slice none 0 0) := (blk_cell BK102.out 0).trans rfl; have hcz55_1 : w54.cell? ⟨gb102, 1, none⟩ = some (.int .i64 0) := (blk_cell BK102.out 1).trans rfl; have hcz55_2 : w54.cell? ⟨gb102, 2, none⟩ = some (.int .i64 0) := (blk_cell BK102.out 2).trans rfl; have hfz55_0 := blk_frozen BK102.out 0; have hfz55_1 := blk_frozen BK102.out 1; have hfz55_2 := blk_frozen BK102.out 2))
                          refine bodyPost_ret (results_ct rfl _ _ gb102 24 #[.slice none 0 0, .int .i64 0, .int .i64 0] (0, 0) _ rfl (by (with_reducible repeat (first | refine blk_drewN ?_ _ | refine blk_drew ?_ | refine blk_alloc ?_ _)); refine blk_put (cs := #[.slice none 0 0, .int .i64 0, .int .i64 0]) ?_ 2 _ rfl; (with_reducible repeat (first | refine blk_drewN ?_ _ | refine blk_drew ?_ | refine blk_alloc ?_ _)); refine blk_put (cs := #[.slice none 0 0, .int .i64 0, .int .i64 0]) ?_ 1 _ rfl; (with_reducible repeat (first | refine blk_drewN ?_ _ | refine blk_drew ?_ | refine blk_alloc ?_ _)); refine blk_put (cs := #[.slice none 0 0, .int .i64 0, .int .i64 0]) ?_ 0 _ rfl; (with_reducible repeat (first | refine blk_drewN ?_ _ | refine blk_drew ?_ | refine blk_alloc ?_ _)); exact BK102.out) Try.underlying24 rfl (by kernel_rfl)) rfl ?_
                          exact ⟨_, by first | rfl | (simp [errW_none, errW_some] <;> rfl) | (simp [*, errW_none, errW_some] <;> rfl), by first | exact Kd.R_nil _ _ _ _ _ | exact Kd.N_nil _ _ _ _ _ | exact Kd.V_nil _ _ _ _ _ | exact Kd.Q_nil _ _ _ _ _ | exact Kd.S_nil _ _ _ _ _, by repeat (first | (with_reducible first | exact HB.out | apply below_alloc | apply pw_below_drewN | apply below_drew1 | refine below_set ?_ GE101.out | refine below_set ?_ GE102.out | refine below_set ?_ GE116.out) | exact HB.out)⟩
                      · rw [if_neg c24] at H
                        exact absurd H (by simp)
                    · rw [if_neg c23] at H
                      exact absurd H (by simp)
                  · rw [if_neg c21] at H
                    exact absurd H (by simp)
              · rw [if_neg c15] at H
                exact absurd H (by simp)
            · rw [if_neg c14] at H
              have c14b0 : decide (x7_2 < (l0_0.length : Int)) = false := decide_eq_false c14
              clear c14
              by_cases c56 : x6_2.length < 17592186044416
              · rw [if_pos c56] at H
                have LMc56 := Aside0.mk c56
                clear c56
                obtain ⟨y118, hy118⟩ : ∃ y_ : List Int, y_ = (x6_2 ++ [a1]) := ⟨_, rfl⟩
                replace H : (if 0 ≤ x7_2 then (if x7_2 ≤ (l0_0.length : Int) then (if y118.length + (l0_0.drop (x7_2 : Int).toNat).length < 17592186044416 then ((some (y118 ++ (l0_0.drop (x7_2 : Int).toNat) : List Int)).bind fun y122 => ((QH.icehouseref09_Check.f k2 y122 a0_1 a0_2).bind fun t126 => (if t126 = 0 then (some (y122, a0_1, a0_2, 0)) else (some (([] : List Int), 0, 0, 2))))) else (none)) else (none)) else (none)) = some (r1, r2, r3, r4) := by first | (rw [hy118]; with_reducible exact H) | (have H2_ := (Option.bind_some _ _).symm.trans H; rw [hy118]; with_reducible exact H2_) | (have H2_ := (Option.bind_some _ _).symm.trans H; with_reducible exact H2_) | with_reducible exact H | (rw [hy118]; exact H) | exact H
                have Ny118 := Aside0.mk hy118
                clear hy118
                by_cases c57 : 0 ≤ x7_2
                · rw [if_pos c57] at H
                  have c57b0 := eq_true c57
                  have c57b1 : decide (0 ≤ x7_2) = true := decide_eq_true c57
                  clear c57
                  by_cases c58 : x7_2 ≤ (l0_0.length : Int)
                  · rw [if_pos c58] at H
                    have c58b0 := eq_true c58
                    have c58b1 : decide (x7_2 ≤ (l0_0.length : Int)) = true := decide_eq_true c58
                    clear c58
                    by_cases c59 : y118.length + (l0_0.drop (x7_2 : Int).toNat).length < 17592186044416
                    · rw [if_pos c59] at H
                      have LMc59 := Aside0.mk c59
                      clear c59
                      obtain ⟨y122, hy122⟩ : ∃ y_ : List Int, y_ = (y118 ++ (l0_0.drop (x7_2 : Int).toNat)) := ⟨_, rfl⟩
                      replace H : ((QH.icehouseref09_Check.f k2 y122 a0_1 a0_2).bind fun t126 => (if t126 = 0 then (some (y122, a0_1, a0_2, 0)) else (some (([] : List Int), 0, 0, 2)))) = some (r1, r2, r3, r4) := by first | (rw [hy122]; with_reducible exact H) | (have H2_ := (Option.bind_some _ _).symm.trans H; rw [hy122]; with_reducible exact H2_) | (have H2_ := (Option.bind_some _ _).symm.trans H; with_reducible exact H2_) | with_reducible exact H | (rw [hy122]; exact H) | exact H
                      have Ny122 := Aside0.mk hy122
                      clear hy122
                      replace H := Option.bind_eq_some_iff.mp H
                      obtain ⟨t126, A600, H⟩ := H
                      replace H : (if t126 = 0 then (some (y122, a0_1, a0_2, 0)) else (some (([] : List Int), 0, 0, 2))) = some (r1, r2, r3, r4) := H
                      have A60 := Aside0.mk A600
                      clear A600
                      by_cases c61 : t126 = 0
                      · rw [if_pos c61] at H
                        have c61b0 : (t126 == 0) = true := beq_iff_eq.mpr c61
                        have c61b1 : (t126 != 0) = false := bne_eq_false_iff_eq.mpr c61
                        clear c61
                        simp only [Option.some.injEq, Prod.mk.injEq] at H
                        obtain ⟨rfl, rfl, rfl, rfl⟩ := H
                        have hnb62 := NB101_102.out
                        have hnc62 := NB102_101.out
                        have hcz63_0 : wr.cell? ⟨gb101, 0, none⟩ = some (.slice A0_0 l0_0.length c0_0) := (blk_cell BK101.out 0).trans rfl
                        have hcz63_1 : wr.cell? ⟨gb101, 1, none⟩ = some (.int .i64 a0_1) := (blk_cell BK101.out 1).trans rfl
                        have hcz63_2 : wr.cell? ⟨gb101, 2, none⟩ = some (.int .i64 a0_2) := (blk_cell BK101.out 2).trans rfl
                        have hfz63_0 := blk_frozen BK101.out 0
                        have hfz63_1 := blk_frozen BK101.out 1
                        have hfz63_2 := blk_frozen BK101.out 2
                        go_wp2_with (first | ((with_reducible refine gate_builtin (b := .append) (xs := #[.tmp 46, .tmp 48]) rfl ?_); at_builtin; refine Kd.R_append (Kd.int .i64) (w0 := w) w.heap.size rfl (.tmp 46) (.tmp 48) 22 3 (.int .i64 0) 8 rfl Try.underlying22 info3 rfl (by decide) (by omega) u6 x6_2 a1 [.int .i64 a1] (fun _ => True) (fun _ => False) rfl rfl ?aP (fun _ hk => hk.elim) ?aF ?aO ?aB ?aS ?aL ?_; (case aP => exact rfl); (case aB => exact (by repeat (first | (with_reducible first | exact HB.out | apply below_alloc | apply pw_below_drewN | apply below_drew1 | refine below_set ?_ GE101.out | refine below_set ?_ GE102.out) | exact HB.out))); (case aF => exact (fun _ _ => trivial)); (case aO => exact (by (with_reducible repeat (first | apply Kd.R_alloc | apply Kd.R_drewN | apply Kd.R_drew)); exact HO_6.out)); (case aS => exact (below_size (by repeat (first | (with_reducible first | exact HB.out | apply below_alloc | apply pw_below_drewN | apply below_drew1 | refine below_set ?_ GE101.out | refine below_set ?_ GE102.out) | exact HB.out)))); (case aL => have := LMc56.out; omega); intro v119 w64 ho hb hg hat; rw [← Ny118.out] at ho; have n0_ := Aside0.mk (blk_grown (g := gb101) (o := .cells #[.slice A0_0 l0_0.length c0_0, .int .i64 a0_1, .int .i64 a0_2] 24 (0, 0)) (by (with_reducible repeat (first | refine blk_drewN ?_ _ | refine blk_drew ?_ | refine blk_alloc ?_ _)); exact BK101.out) hg (Kd.R_ne HO_6.out BK101.out (by decide))); have n1_ := Aside0.mk (blk_grown (g := gb102) (o := .cells #[.slice none 0 0, .int .i64 0, .int .i64 0] 24 (0, 0)) (by (with_reducible repeat (first | refine blk_drewN ?_ _ | refine blk_drew ?_ | refine blk_alloc ?_ _)); exact BK102.out) hg (Kd.R_ne HO_6.out BK102.out (by decide))); have n2_ := Aside0.mk (hb); have n3_ := Aside0.mk (ho); clear BK101; clear BK102; clear HB; clear HO_6; have BK101 := n0_; have BK102 := n1_; have HB := n2_; have HO120 := n3_; clear n0_ n1_ n2_ n3_; clear ho hb hg hat; have hcz65_0 : w64.cell? ⟨gb101, 0, none⟩ = some (.slice A0_0 l0_0.length c0_0) := (blk_cell BK101.out 0).trans rfl; have hcz65_1 : w64.cell? ⟨gb101, 1, none⟩ = some (.int .i64 a0_1) := (blk_cell BK101.out 1).trans rfl; have hcz65_2 : w64.cell? ⟨gb101, 2, none⟩ = some (.int .i64 a0_2) := (blk_cell BK101.out 2).trans rfl; have hfz65_0 := blk_frozen BK101.out 0; have hfz65_1 := blk_frozen BK101.out 1; have hfz65_2 := blk_frozen BK101.out 2; obtain ⟨i066, hi066, _, hsz66, _⟩ := info_parts info3; obtain ⟨A66, hcut66, hA66, hC66⟩ := print_drop_of (P := Try.prog) (Value.int .i64) 0 22 3 .i64 Try.underlying22 hi066 hsz66 A0_0 c0_0 l0_0 x7_2 (of_decide_eq_true (by first | (with_reducible assumption) | assumption)) (of_decide_eq_true (by first | (with_reducible assumption) | assumption)) HC0_0.out; have HR121 := Aside0.mk (Kd.C_of_reads (h1 := fun _ => rfl) (hA66 _ (Kd.reads_of_C HR0_0.out))); have HC121 := Aside0.mk hC66; clear hA66 hC66 hi066 hsz66) | ((with_reducible refine gate_builtin (b := .append) (xs := #[.tmp 50, .tmp 54]) rfl ?_); at_builtin; refine Kd.R_append_rows (Kd.int .i64) (w0 := w) w.heap.size rfl (.tmp 50) (.tmp 54) 22 3 (.int .i64 0) 8 rfl Try.underlying22 info3 rfl (by decide) (by omega) v119 y118 (l0_0.drop (x7_2 : Int).toNat) _ _ _ (fun _ => True) (fun _ => False) rfl rfl ?aO ?aR (fun _ _ h => h) (fun _ h => h.elim) ?aF ?aB ?aS ?aL ?_; (case aR => first | (rw [← show (l0_0.drop (x7_2 : Int).toNat).length = (l0_0.length - x7_2.toNat) from List.length_drop]; repeat (first | exact (Kd.C_below HR121.out HB.out) | (with_reducible refine Kd.C_alloc ?_ _) | (with_reducible refine Kd.C_drewN ?_ _) | (with_reducible refine Kd.C_drew ?_))) | (repeat (first | exact (Kd.C_below HR121.out HB.out) | (with_reducible refine Kd.C_alloc ?_ _) | (with_reducible refine Kd.C_drewN ?_ _) | (with_reducible refine Kd.C_drew ?_)))); (case aB => exact (by repeat (first | (with_reducible first | exact HB.out | apply below_alloc | apply pw_below_drewN | apply below_drew1 | refine below_set ?_ GE101.out | refine below_set ?_ GE102.out) | exact HB.out))); (case aF => exact (fun _ _ => trivial)); (case aO => exact (by (with_reducible repeat (first | apply Kd.R_alloc | apply Kd.R_drewN | apply Kd.R_drew)); exact HO120.out)); (case aS => exact (below_size (by repeat (first | (with_reducible first | exact HB.out | apply below_alloc | apply pw_below_drewN | apply below_drew1 | refine below_set ?_ GE101.out | refine below_set ?_ GE102.out) | exact HB.out)))); (case aL => have := LMc59.out; have hlx_ := (show (l0_0.drop (x7_2 : Int).toNat).length = (l0_0.length - x7_2.toNat) from List.length_drop); omega); intro v123 w67 ho hb hg hat; rw [← Ny122.out] at ho; have n0_ := Aside0.mk (blk_grown (g := gb101) (o := .cells #[.slice A0_0 l0_0.length c0_0, .int .i64 a0_1, .int .i64 a0_2] 24 (0, 0)) (by (with_reducible repeat (first | refine blk_drewN ?_ _ | refine blk_drew ?_ | refine blk_alloc ?_ _)); exact BK101.out) hg (Kd.R_ne HO120.out BK101.out (by decide))); have n1_ := Aside0.mk (blk_grown (g := gb102) (o := .cells #[.slice none 0 0, .int .i64 0, .int .i64 0] 24 (0, 0)) (by (with_reducible repeat (first | refine blk_drewN ?_ _ | refine blk_drew ?_ | refine blk_alloc ?_ _)); exact BK102.out) hg (Kd.R_ne HO120.out BK102.out (by decide))); have n2_ := Aside0.mk (hb); have n3_ := Aside0.mk (ho); clear BK101; clear BK102; clear HB; clear HO120; have BK101 := n0_; have BK102 := n1_; have HB := n2_; have HO124 := n3_; clear n0_ n1_ n2_ n3_; clear ho hb hg hat; have hcz68_0 : w67.cell? ⟨gb101, 0, none⟩ = some (.slice A0_0 l0_0.length c0_0) := (blk_cell BK101.out 0).trans rfl; have hcz68_1 : w67.cell? ⟨gb101, 1, none⟩ = some (.int .i64 a0_1) := (blk_cell BK101.out 1).trans rfl; have hcz68_2 : w67.cell? ⟨gb101, 2, none⟩ = some (.int .i64 a0_2) := (blk_cell BK101.out 2).trans rfl; have hfz68_0 := blk_frozen BK101.out 0; have hfz68_1 := blk_frozen BK101.out 1; have hfz68_2 := blk_frozen BK101.out 2; obtain ⟨Ao69, co69, eo69⟩ := Kd.R_slice HO124.out; subst eo69) | ((with_reducible refine gate_dst (N := 8) rfl ?_); refine box_event ?hg (N := 8) ?hd (cs := #[.slice none 0 0, .int .i64 0, .int .i64 0]) (t := 24) ?hr ?_; (case hd => rfl); (case hg => rfl); (case hr => first | (go_simp; done) | (go_simp; rfl)); intro gb125 hg w70 hbox hb; have n0_ := Aside0.mk (Kd.R_below (by (with_reducible repeat (first | apply Kd.R_alloc | apply Kd.R_drewN | apply Kd.R_drew)); exact HO124.out) hb); have n1_ := Aside0.mk (blk_below (g := gb101) (o := .cells #[.slice A0_0 l0_0.length c0_0, .int .i64 a0_1, .int .i64 a0_2] 24 (0, 0)) (by (with_reducible repeat (first | refine blk_drewN ?_ _ | refine blk_drew ?_ | refine blk_alloc ?_ _)); exact BK101.out) hb); have n2_ := Aside0.mk (blk_below (g := gb102) (o := .cells #[.slice none 0 0, .int .i64 0, .int .i64 0] 24 (0, 0)) (by (with_reducible repeat (first | refine blk_drewN ?_ _ | refine blk_drew ?_ | refine blk_alloc ?_ _)); exact BK102.out) hb); have n3_ := Aside0.mk (below_step (by repeat (first | (with_reducible first | exact HB.out | apply below_alloc | apply pw_below_drewN | apply below_drew1 | refine below_set ?_ GE101.out | refine below_set ?_ GE102.out) | exact HB.out)) hb); have n4_ := Aside0.mk (hbox); have n5_ := Aside0.mk ((by rw [hg]; exact (below_size (by repeat (first | (with_reducible first | exact HB.out | apply below_alloc | apply pw_below_drewN | apply below_drew1 | refine below_set ?_ GE101.out | refine below_set ?_ GE102.out) | exact HB.out))) : w.heap.size ≤ gb125)); have n6_ := Aside0.mk ((by rw [hg]; exact (below_size (by repeat (first | (with_reducible first | exact HB.out | apply below_alloc | apply pw_below_drewN | apply below_drew1 | refine below_set ?_ GE101.out | refine below_set ?_ GE102.out) | exact HB.out))) : w.heap.size ≤ gb125)); have n7_ := Aside0.mk ((by rw [hg]; exact Nat.ne_of_lt (blk_lt (g := gb101) (o := .cells #[.slice A0_0 l0_0.length c0_0, .int .i64 a0_1, .int .i64 a0_2] 24 (0, 0)) (by (with_reducible repeat (first | refine blk_drewN ?_ _ | refine blk_drew ?_ | refine blk_alloc ?_ _)); exact BK101.out)) : gb101 ≠ gb125)); have n8_ := Aside0.mk ((by rw [hg]; exact Nat.ne_of_gt (blk_lt (g := gb101) (o := .cells #[.slice A0_0 l0_0.length c0_0, .int .i64 a0_1, .int .i64 a0_2] 24 (0, 0)) (by (with_reducible repeat (first | refine blk_drewN ?_ _ | refine blk_drew ?_ | refine blk_alloc ?_ _)); exact BK101.out)) : gb125 ≠ gb101)); have n9_ := Aside0.mk ((by rw [hg]; exact Nat.ne_of_lt (blk_lt (g := gb102) (o := .cells #[.slice none 0 0, .int .i64 0, .int .i64 0] 24 (0, 0)) (by (with_reducible repeat (first | refine blk_drewN ?_ _ | refine blk_drew ?_ | refine blk_alloc ?_ _)); exact BK102.out)) : gb102 ≠ gb125)); have n10_ := Aside0.mk ((by rw [hg]; exact Nat.ne_of_gt (blk_lt (g := gb102) (o := .cells #[.slice none 0 0, .int .i64 0, .int .i64 0] 24 (0, 0)) (by (with_reducible repeat (first | refine blk_drewN ?_ _ | refine blk_drew ?_ | refine blk_alloc ?_ _)); exact BK102.out)) : gb125 ≠ gb102)); clear HO124; clear BK101; clear BK102; clear HB; have HO124 := n0_; have BK101 := n1_; have BK102 := n2_; have HB := n3_; have BK125 := n4_; have GW125 := n5_; have GE125 := n6_; have NB101_125 := n7_; have NB125_101 := n8_; have NB102_125 := n9_; have NB125_102 := n10_; clear n0_ n1_ n2_ n3_ n4_ n5_ n6_ n7_ n8_ n9_ n10_; clear hb hbox hg; have hnb71 := NB125_101.out; have hnc71 := NB101_125.out; have hnb72 := NB125_102.out; have hnc72 := NB102_125.out; have hcz73_0 : w70.cell? ⟨gb125, 0, none⟩ = some (.slice none 0 0) := (blk_cell BK125.out 0).trans rfl; have hcz73_1 : w70.cell? ⟨gb125, 1, none⟩ = some (.int .i64 0) := (blk_cell BK125.out 1).trans rfl; have hcz73_2 : w70.cell? ⟨gb125, 2, none⟩ = some (.int .i64 0) := (blk_cell BK125.out 2).trans rfl; have hfz73_0 := blk_frozen BK125.out 0; have hfz73_1 := blk_frozen BK125.out 1; have hfz73_2 := blk_frozen BK125.out 2) | ((with_reducible refine gate_callee (f := 11) rfl ?_); refine goesL_ (some 63) rfl rfl Try.func11 (by kernel_rfl) rfl #[.agg #[.slice Ao69 y122.length co69, .int .i64 a0_1, .int .i64 a0_2]] rfl (by (try simp only [List.map_toArray, List.map_cons, List.map_nil]); first | done | rfl | (simp only [List.length_drop, List.length_take]; rfl)) ?_; (with_reducible refine (QH.icehouseref09_Check.calls k2 _ _ y122 a0_1 a0_2 t126 _ ?side1 ?side2 A60.out).mono ?_); (case side1 => refine (Kd.R_reads' (e := 3) (base := w.heap.size) (ok := fun k_ => True) (n := y122.length) (c := co69) ?_).2.2; exact (by (with_reducible repeat (first | apply Kd.R_alloc | apply Kd.R_drewN | apply Kd.R_drew)); exact (Kd.R_mono (Kd.R_far (p := ⟨gb125, 2, none⟩) (Kd.R_far (p := ⟨gb125, 1, none⟩) (Kd.R_far (p := ⟨gb125, 0, none⟩) (Kd.R_types HO124.out BK125.out (by decide)) (fun _ hk => hk.2) (.slice Ao69 y122.length co69)) (fun _ hk => hk.2) (.int .i64 a0_1)) (fun _ hk => hk.2) (.int .i64 a0_2)) (fun _ h_ => h_.1)))); (case side2 => exact (Kd.R_reads' HO124.out).2.1); rintro e w74 ⟨rfl, hb⟩; refine ⟨_, rfl, ?_⟩; have n0_ := Aside0.mk (Kd.R_below (by (with_reducible repeat (first | apply Kd.R_alloc | apply Kd.R_drewN | apply Kd.R_drew)); exact (Kd.R_mono (Kd.R_far (p := ⟨gb125, 2, none⟩) (Kd.R_far (p := ⟨gb125, 1, none⟩) (Kd.R_far (p := ⟨gb125, 0, none⟩) (Kd.R_types HO124.out BK125.out (by decide)) (fun _ hk => hk.2) (.slice Ao69 y122.length co69)) (fun _ hk => hk.2) (.int .i64 a0_1)) (fun _ hk => hk.2) (.int .i64 a0_2)) (fun _ h_ => h_.1))) hb); have n1_ := Aside0.mk (blk_below (g := gb101) (o := .cells #[.slice A0_0 l0_0.length c0_0, .int .i64 a0_1, .int .i64 a0_2] 24 (0, 0)) (by (with_reducible repeat (first | refine blk_drewN ?_ _ | refine blk_drew ?_ | refine blk_alloc ?_ _)); refine blk_far ?_ NB101_125.out _; (with_reducible repeat (first | refine blk_drewN ?_ _ | refine blk_drew ?_ | refine blk_alloc ?_ _)); refine blk_far ?_ NB101_125.out _; (with_reducible repeat (first | refine blk_drewN ?_ _ | refine blk_drew ?_ | refine blk_alloc ?_ _)); refine blk_far ?_ NB101_125.out _; (with_reducible repeat (first | refine blk_drewN ?_ _ | refine blk_drew ?_ | refine blk_alloc ?_ _)); exact BK101.out) hb); have n2_ := Aside0.mk (blk_below (g := gb102) (o := .cells #[.slice none 0 0, .int .i64 0, .int .i64 0] 24 (0, 0)) (by (with_reducible repeat (first | refine blk_drewN ?_ _ | refine blk_drew ?_ | refine blk_alloc ?_ _)); refine blk_far ?_ NB102_125.out _; (with_reducible repeat (first | refine blk_drewN ?_ _ | refine blk_drew ?_ | refine blk_alloc ?_ _)); refine blk_far ?_ NB102_125.out _; (with_reducible repeat (first | refine blk_drewN ?_ _ | refine blk_drew ?_ | refine blk_alloc ?_ _)); refine blk_far ?_ NB102_125.out _; (with_reducible repeat (first | refine blk_drewN ?_ _ | refine blk_drew ?_ | refine blk_alloc ?_ _)); exact BK102.out) hb); have n3_ := Aside0.mk (blk_below (g := gb125) (o := .cells #[.slice Ao69 y122.length co69, .int .i64 a0_1, .int .i64 a0_2] 24 (0, 0)) (by (with_reducible repeat (first | refine blk_drewN ?_ _ | refine blk_drew ?_ | refine blk_alloc ?_ _)); refine blk_put (cs := #[.slice Ao69 y122.length co69, .int .i64 a0_1, .int .i64 0]) ?_ 2 _ rfl; (with_reducible repeat (first | refine blk_drewN ?_ _ | refine blk_drew ?_ | refine blk_alloc ?_ _)); refine blk_put (cs := #[.slice Ao69 y122.length co69, .int .i64 0, .int .i64 0]) ?_ 1 _ rfl; (with_reducible repeat (first | refine blk_drewN ?_ _ | refine blk_drew ?_ | refine blk_alloc ?_ _)); refine blk_put (cs := #[.slice none 0 0, .int .i64 0, .int .i64 0]) ?_ 0 _ rfl; (with_reducible repeat (first | refine blk_drewN ?_ _ | refine blk_drew ?_ | refine blk_alloc ?_ _)); exact BK125.out) hb); have n4_ := Aside0.mk (below_step (by repeat (first | (with_reducible first | exact HB.out | apply below_alloc | apply pw_below_drewN | apply below_drew1 | refine below_set ?_ GE101.out | refine below_set ?_ GE102.out | refine below_set ?_ GE125.out) | exact HB.out)) hb); clear HO124; clear BK101; clear BK102; clear BK125; clear HB; have HO124 := n0_; have BK101 := n1_; have BK102 := n2_; have BK125 := n3_; have HB := n4_; clear n0_ n1_ n2_ n3_ n4_; (try clear hb); (try clear hb2); (try clear hk); (try clear hi); have hcz75_0 : w74.cell? ⟨gb125, 0, none⟩ = some (.slice Ao69 y122.length co69) := (blk_cell BK125.out 0).trans rfl; have hcz75_1 : w74.cell? ⟨gb125, 1, none⟩ = some (.int .i64 a0_1) := (blk_cell BK125.out 1).trans rfl; have hcz75_2 : w74.cell? ⟨gb125, 2, none⟩ = some (.int .i64 a0_2) := (blk_cell BK125.out 2).trans rfl; have hfz75_0 := blk_frozen BK125.out 0; have hfz75_1 := blk_frozen BK125.out 1; have hfz75_2 := blk_frozen BK125.out 2; have hcz76_0 : w74.cell? ⟨gb102, 0, none⟩ = some (.slice none 0 0) := (blk_cell BK102.out 0).trans rfl; have hcz76_1 : w74.cell? ⟨gb102, 1, none⟩ = some (.int .i64 0) := (blk_cell BK102.out 1).trans rfl; have hcz76_2 : w74.cell? ⟨gb102, 2, none⟩ = some (.int .i64 0) := (blk_cell BK102.out 2).trans rfl; have hfz76_0 := blk_frozen BK102.out 0; have hfz76_1 := blk_frozen BK102.out 1; have hfz76_2 := blk_frozen BK102.out 2))
                        refine bodyPost_ret (results_ct rfl _ _ gb102 24 #[.slice Ao69 y122.length co69, .int .i64 a0_1, .int .i64 a0_2] (0, 0) _ rfl (by (with_reducible repeat (first | refine blk_drewN ?_ _ | refine blk_drew ?_ | refine blk_alloc ?_ _)); refine blk_put (cs := #[.slice Ao69 y122.length co69, .int .i64 a0_1, .int .i64 0]) ?_ 2 _ rfl; (with_reducible repeat (first | refine blk_drewN ?_ _ | refine blk_drew ?_ | refine blk_alloc ?_ _)); refine blk_put (cs := #[.slice Ao69 y122.length co69, .int .i64 0, .int .i64 0]) ?_ 1 _ rfl; (with_reducible repeat (first | refine blk_drewN ?_ _ | refine blk_drew ?_ | refine blk_alloc ?_ _)); refine blk_put (cs := #[.slice none 0 0, .int .i64 0, .int .i64 0]) ?_ 0 _ rfl; (with_reducible repeat (first | refine blk_drewN ?_ _ | refine blk_drew ?_ | refine blk_alloc ?_ _)); exact BK102.out) Try.underlying24 rfl (by kernel_rfl)) rfl ?_
                        exact ⟨_, by first | rfl | (simp [errW_none, errW_some] <;> rfl) | (simp [*, errW_none, errW_some] <;> rfl), by (with_reducible repeat (first | apply Kd.R_alloc | apply Kd.R_drewN | apply Kd.R_drew)); exact Kd.R_mono (Kd.R_far (p := ⟨gb102, 2, none⟩) (Kd.R_far (p := ⟨gb102, 1, none⟩) (Kd.R_far (p := ⟨gb102, 0, none⟩) (Kd.R_types HO124.out BK102.out (by decide)) (fun _ hk => hk.2) (.slice Ao69 y122.length co69)) (fun _ hk => hk.2) (.int .i64 a0_1)) (fun _ hk => hk.2) (.int .i64 a0_2)) (fun _ hk => trivial), by repeat (first | (with_reducible first | exact HB.out | apply below_alloc | apply pw_below_drewN | apply below_drew1 | refine below_set ?_ GE101.out | refine below_set ?_ GE102.out | refine below_set ?_ GE125.out) | exact HB.out)⟩
                      · rw [if_neg c61] at H
                        have c61b0 : (t126 == 0) = false := beq_eq_false_iff_ne.mpr c61
                        have c61b1 : (t126 != 0) = true := bne_iff_ne.mpr c61
                        simp only [Option.some.injEq, Prod.mk.injEq] at H
                        obtain ⟨rfl, rfl, rfl, rfl⟩ := H
                        have hnb77 := NB101_102.out
                        have hnc77 := NB102_101.out
                        have hcz78_0 : wr.cell? ⟨gb101, 0, none⟩ = some (.slice A0_0 l0_0.length c0_0) := (blk_cell BK101.out 0).trans rfl
                        have hcz78_1 : wr.cell? ⟨gb101, 1, none⟩ = some (.int .i64 a0_1) := (blk_cell BK101.out 1).trans rfl
                        have hcz78_2 : wr.cell? ⟨gb101, 2, none⟩ = some (.int .i64 a0_2) := (blk_cell BK101.out 2).trans rfl
                        have hfz78_0 := blk_frozen BK101.out 0
                        have hfz78_1 := blk_frozen BK101.out 1
                        have hfz78_2 := blk_frozen BK101.out 2
                        go_wp2_with (first | ((with_reducible refine gate_builtin (b := .append) (xs := #[.tmp 46, .tmp 48]) rfl ?_); at_builtin; refine Kd.R_append (Kd.int .i64) (w0 := w) w.heap.size rfl (.tmp 46) (.tmp 48) 22 3 (.int .i64 0) 8 rfl Try.underlying22 info3 rfl (by decide) (by omega) u6 x6_2 a1 [.int .i64 a1] (fun _ => True) (fun _ => False) rfl rfl ?aP (fun _ hk => hk.elim) ?aF ?aO ?aB ?aS ?aL ?_; (case aP => exact rfl); (case aB => exact (by repeat (first | (with_reducible first | exact HB.out | apply below_alloc | apply pw_below_drewN | apply below_drew1 | refine below_set ?_ GE101.out | refine below_set ?_ GE102.out) | exact HB.out))); (case aF => exact (fun _ _ => trivial)); (case aO => exact (by (with_reducible repeat (first | apply Kd.R_alloc | apply Kd.R_drewN | apply Kd.R_drew)); exact HO_6.out)); (case aS => exact (below_size (by repeat (first | (with_reducible first | exact HB.out | apply below_alloc | apply pw_below_drewN | apply below_drew1 | refine below_set ?_ GE101.out | refine below_set ?_ GE102.out) | exact HB.out)))); (case aL => have := LMc56.out; omega); intro v119 w79 ho hb hg hat; rw [← Ny118.out] at ho; have n0_ := Aside0.mk (blk_grown (g := gb101) (o := .cells #[.slice A0_0 l0_0.length c0_0, .int .i64 a0_1, .int .i64 a0_2] 24 (0, 0)) (by (with_reducible repeat (first | refine blk_drewN ?_ _ | refine blk_drew ?_ | refine blk_alloc ?_ _)); exact BK101.out) hg (Kd.R_ne HO_6.out BK101.out (by decide))); have n1_ := Aside0.mk (blk_grown (g := gb102) (o := .cells #[.slice none 0 0, .int .i64 0, .int .i64 0] 24 (0, 0)) (by (with_reducible repeat (first | refine blk_drewN ?_ _ | refine blk_drew ?_ | refine blk_alloc ?_ _)); exact BK102.out) hg (Kd.R_ne HO_6.out BK102.out (by decide))); have n2_ := Aside0.mk (hb); have n3_ := Aside0.mk (ho); clear BK101; clear BK102; clear HB; clear HO_6; have BK101 := n0_; have BK102 := n1_; have HB := n2_; have HO120 := n3_; clear n0_ n1_ n2_ n3_; clear ho hb hg hat; have hcz80_0 : w79.cell? ⟨gb101, 0, none⟩ = some (.slice A0_0 l0_0.length c0_0) := (blk_cell BK101.out 0).trans rfl; have hcz80_1 : w79.cell? ⟨gb101, 1, none⟩ = some (.int .i64 a0_1) := (blk_cell BK101.out 1).trans rfl; have hcz80_2 : w79.cell? ⟨gb101, 2, none⟩ = some (.int .i64 a0_2) := (blk_cell BK101.out 2).trans rfl; have hfz80_0 := blk_frozen BK101.out 0; have hfz80_1 := blk_frozen BK101.out 1; have hfz80_2 := blk_frozen BK101.out 2; obtain ⟨i081, hi081, _, hsz81, _⟩ := info_parts info3; obtain ⟨A81, hcut81, hA81, hC81⟩ := print_drop_of (P := Try.prog) (Value.int .i64) 0 22 3 .i64 Try.underlying22 hi081 hsz81 A0_0 c0_0 l0_0 x7_2 (of_decide_eq_true (by first | (with_reducible assumption) | assumption)) (of_decide_eq_true (by first | (with_reducible assumption) | assumption)) HC0_0.out; have HR121 := Aside0.mk (Kd.C_of_reads (h1 := fun _ => rfl) (hA81 _ (Kd.reads_of_C HR0_0.out))); have HC121 := Aside0.mk hC81; clear hA81 hC81 hi081 hsz81) | ((with_reducible refine gate_builtin (b := .append) (xs := #[.tmp 50, .tmp 54]) rfl ?_); at_builtin; refine Kd.R_append_rows (Kd.int .i64) (w0 := w) w.heap.size rfl (.tmp 50) (.tmp 54) 22 3 (.int .i64 0) 8 rfl Try.underlying22 info3 rfl (by decide) (by omega) v119 y118 (l0_0.drop (x7_2 : Int).toNat) _ _ _ (fun _ => True) (fun _ => False) rfl rfl ?aO ?aR (fun _ _ h => h) (fun _ h => h.elim) ?aF ?aB ?aS ?aL ?_; (case aR => first | (rw [← show (l0_0.drop (x7_2 : Int).toNat).length = (l0_0.length - x7_2.toNat) from List.length_drop]; repeat (first | exact (Kd.C_below HR121.out HB.out) | (with_reducible refine Kd.C_alloc ?_ _) | (with_reducible refine Kd.C_drewN ?_ _) | (with_reducible refine Kd.C_drew ?_))) | (repeat (first | exact (Kd.C_below HR121.out HB.out) | (with_reducible refine Kd.C_alloc ?_ _) | (with_reducible refine Kd.C_drewN ?_ _) | (with_reducible refine Kd.C_drew ?_)))); (case aB => exact (by repeat (first | (with_reducible first | exact HB.out | apply below_alloc | apply pw_below_drewN | apply below_drew1 | refine below_set ?_ GE101.out | refine below_set ?_ GE102.out) | exact HB.out))); (case aF => exact (fun _ _ => trivial)); (case aO => exact (by (with_reducible repeat (first | apply Kd.R_alloc | apply Kd.R_drewN | apply Kd.R_drew)); exact HO120.out)); (case aS => exact (below_size (by repeat (first | (with_reducible first | exact HB.out | apply below_alloc | apply pw_below_drewN | apply below_drew1 | refine below_set ?_ GE101.out | refine below_set ?_ GE102.out) | exact HB.out)))); (case aL => have := LMc59.out; have hlx_ := (show (l0_0.drop (x7_2 : Int).toNat).length = (l0_0.length - x7_2.toNat) from List.length_drop); omega); intro v123 w82 ho hb hg hat; rw [← Ny122.out] at ho; have n0_ := Aside0.mk (blk_grown (g := gb101) (o := .cells #[.slice A0_0 l0_0.length c0_0, .int .i64 a0_1, .int .i64 a0_2] 24 (0, 0)) (by (with_reducible repeat (first | refine blk_drewN ?_ _ | refine blk_drew ?_ | refine blk_alloc ?_ _)); exact BK101.out) hg (Kd.R_ne HO120.out BK101.out (by decide))); have n1_ := Aside0.mk (blk_grown (g := gb102) (o := .cells #[.slice none 0 0, .int .i64 0, .int .i64 0] 24 (0, 0)) (by (with_reducible repeat (first | refine blk_drewN ?_ _ | refine blk_drew ?_ | refine blk_alloc ?_ _)); exact BK102.out) hg (Kd.R_ne HO120.out BK102.out (by decide))); have n2_ := Aside0.mk (hb); have n3_ := Aside0.mk (ho); clear BK101; clear BK102; clear HB; clear HO120; have BK101 := n0_; have BK102 := n1_; have HB := n2_; have HO124 := n3_; clear n0_ n1_ n2_ n3_; clear ho hb hg hat; have hcz83_0 : w82.cell? ⟨gb101, 0, none⟩ = some (.slice A0_0 l0_0.length c0_0) := (blk_cell BK101.out 0).trans rfl; have hcz83_1 : w82.cell? ⟨gb101, 1, none⟩ = some (.int .i64 a0_1) := (blk_cell BK101.out 1).trans rfl; have hcz83_2 : w82.cell? ⟨gb101, 2, none⟩ = some (.int .i64 a0_2) := (blk_cell BK101.out 2).trans rfl; have hfz83_0 := blk_frozen BK101.out 0; have hfz83_1 := blk_frozen BK101.out 1; have hfz83_2 := blk_frozen BK101.out 2; obtain ⟨Ao84, co84, eo84⟩ := Kd.R_slice HO124.out; subst eo84) | ((with_reducible refine gate_dst (N := 8) rfl ?_); refine box_event ?hg (N := 8) ?hd (cs := #[.slice none 0 0, .int .i64 0, .int .i64 0]) (t := 24) ?hr ?_; (case hd => rfl); (case hg => rfl); (case hr => first | (go_simp; done) | (go_simp; rfl)); intro gb125 hg w85 hbox hb; have n0_ := Aside0.mk (Kd.R_below (by (with_reducible repeat (first | apply Kd.R_alloc | apply Kd.R_drewN | apply Kd.R_drew)); exact HO124.out) hb); have n1_ := Aside0.mk (blk_below (g := gb101) (o := .cells #[.slice A0_0 l0_0.length c0_0, .int .i64 a0_1, .int .i64 a0_2] 24 (0, 0)) (by (with_reducible repeat (first | refine blk_drewN ?_ _ | refine blk_drew ?_ | refine blk_alloc ?_ _)); exact BK101.out) hb); have n2_ := Aside0.mk (blk_below (g := gb102) (o := .cells #[.slice none 0 0, .int .i64 0, .int .i64 0] 24 (0, 0)) (by (with_reducible repeat (first | refine blk_drewN ?_ _ | refine blk_drew ?_ | refine blk_alloc ?_ _)); exact BK102.out) hb); have n3_ := Aside0.mk (below_step (by repeat (first | (with_reducible first | exact HB.out | apply below_alloc | apply pw_below_drewN | apply below_drew1 | refine below_set ?_ GE101.out | refine below_set ?_ GE102.out) | exact HB.out)) hb); have n4_ := Aside0.mk (hbox); have n5_ := Aside0.mk ((by rw [hg]; exact (below_size (by repeat (first | (with_reducible first | exact HB.out | apply below_alloc | apply pw_below_drewN | apply below_drew1 | refine below_set ?_ GE101.out | refine below_set ?_ GE102.out) | exact HB.out))) : w.heap.size ≤ gb125)); have n6_ := Aside0.mk ((by rw [hg]; exact (below_size (by repeat (first | (with_reducible first | exact HB.out | apply below_alloc | apply pw_below_drewN | apply below_drew1 | refine below_set ?_ GE101.out | refine below_set ?_ GE102.out) | exact HB.out))) : w.heap.size ≤ gb125)); have n7_ := Aside0.mk ((by rw [hg]; exact Nat.ne_of_lt (blk_lt (g := gb101) (o := .cells #[.slice A0_0 l0_0.length c0_0, .int .i64 a0_1, .int .i64 a0_2] 24 (0, 0)) (by (with_reducible repeat (first | refine blk_drewN ?_ _ | refine blk_drew ?_ | refine blk_alloc ?_ _)); exact BK101.out)) : gb101 ≠ gb125)); have n8_ := Aside0.mk ((by rw [hg]; exact Nat.ne_of_gt (blk_lt (g := gb101) (o := .cells #[.slice A0_0 l0_0.length c0_0, .int .i64 a0_1, .int .i64 a0_2] 24 (0, 0)) (by (with_reducible repeat (first | refine blk_drewN ?_ _ | refine blk_drew ?_ | refine blk_alloc ?_ _)); exact BK101.out)) : gb125 ≠ gb101)); have n9_ := Aside0.mk ((by rw [hg]; exact Nat.ne_of_lt (blk_lt (g := gb102) (o := .cells #[.slice none 0 0, .int .i64 0, .int .i64 0] 24 (0, 0)) (by (with_reducible repeat (first | refine blk_drewN ?_ _ | refine blk_drew ?_ | refine blk_alloc ?_ _)); exact BK102.out)) : gb102 ≠ gb125)); have n10_ := Aside0.mk ((by rw [hg]; exact Nat.ne_of_gt (blk_lt (g := gb102) (o := .cells #[.slice none 0 0, .int .i64 0, .int .i64 0] 24 (0, 0)) (by (with_reducible repeat (first | refine blk_drewN ?_ _ | refine blk_drew ?_ | refine blk_alloc ?_ _)); exact BK102.out)) : gb125 ≠ gb102)); clear HO124; clear BK101; clear BK102; clear HB; have HO124 := n0_; have BK101 := n1_; have BK102 := n2_; have HB := n3_; have BK125 := n4_; have GW125 := n5_; have GE125 := n6_; have NB101_125 := n7_; have NB125_101 := n8_; have NB102_125 := n9_; have NB125_102 := n10_; clear n0_ n1_ n2_ n3_ n4_ n5_ n6_ n7_ n8_ n9_ n10_; clear hb hbox hg; have hnb86 := NB125_101.out; have hnc86 := NB101_125.out; have hnb87 := NB125_102.out; have hnc87 := NB102_125.out; have hcz88_0 : w85.cell? ⟨gb125, 0, none⟩ = some (.slice none 0 0) := (blk_cell BK125.out 0).trans rfl; have hcz88_1 : w85.cell? ⟨gb125, 1, none⟩ = some (.int .i64 0) := (blk_cell BK125.out 1).trans rfl; have hcz88_2 : w85.cell? ⟨gb125, 2, none⟩ = some (.int .i64 0) := (blk_cell BK125.out 2).trans rfl; have hfz88_0 := blk_frozen BK125.out 0; have hfz88_1 := blk_frozen BK125.out 1; have hfz88_2 := blk_frozen BK125.out 2) | ((with_reducible refine gate_callee (f := 11) rfl ?_); refine goesL_ (some 63) rfl rfl Try.func11 (by kernel_rfl) rfl #[.agg #[.slice Ao84 y122.length co84, .int .i64 a0_1, .int .i64 a0_2]] rfl (by (try simp only [List.map_toArray, List.map_cons, List.map_nil]); first | done | rfl | (simp only [List.length_drop, List.length_take]; rfl)) ?_; (with_reducible refine (QH.icehouseref09_Check.calls k2 _ _ y122 a0_1 a0_2 t126 _ ?side1 ?side2 A60.out).mono ?_); (case side1 => refine (Kd.R_reads' (e := 3) (base := w.heap.size) (ok := fun k_ => True) (n := y122.length) (c := co84) ?_).2.2; exact (by (with_reducible repeat (first | apply Kd.R_alloc | apply Kd.R_drewN | apply Kd.R_drew)); exact (Kd.R_mono (Kd.R_far (p := ⟨gb125, 2, none⟩) (Kd.R_far (p := ⟨gb125, 1, none⟩) (Kd.R_far (p := ⟨gb125, 0, none⟩) (Kd.R_types HO124.out BK125.out (by decide)) (fun _ hk => hk.2) (.slice Ao84 y122.length co84)) (fun _ hk => hk.2) (.int .i64 a0_1)) (fun _ hk => hk.2) (.int .i64 a0_2)) (fun _ h_ => h_.1)))); (case side2 => exact (Kd.R_reads' HO124.out).2.1); rintro e w89 ⟨rfl, hb⟩; refine ⟨_, rfl, ?_⟩; have n0_ := Aside0.mk (Kd.R_below (by (with_reducible repeat (first | apply Kd.R_alloc | apply Kd.R_drewN | apply Kd.R_drew)); exact (Kd.R_mono (Kd.R_far (p := ⟨gb125, 2, none⟩) (Kd.R_far (p := ⟨gb125, 1, none⟩) (Kd.R_far (p := ⟨gb125, 0, none⟩) (Kd.R_types HO124.out BK125.out (by decide)) (fun _ hk => hk.2) (.slice Ao84 y122.length co84)) (fun _ hk => hk.2) (.int .i64 a0_1)) (fun _ hk => hk.2) (.int .i64 a0_2)) (fun _ h_ => h_.1))) hb); have n1_ := Aside0.mk (blk_below (g := gb101) (o := .cells #[.slice A0_0 l0_0.length c0_0, .int .i64 a0_1, .int .i64 a0_2] 24 (0, 0)) (by (with_reducible repeat (first | refine blk_drewN ?_ _ | refine blk_drew ?_ | refine blk_alloc ?_ _)); refine blk_far ?_ NB101_125.out _; (with_reducible repeat (first | refine blk_drewN ?_ _ | refine blk_drew ?_ | refine blk_alloc ?_ _)); refine blk_far ?_ NB101_125.out _; (with_reducible repeat (first | refine blk_drewN ?_ _ | refine blk_drew ?_ | refine blk_alloc ?_ _)); refine blk_far ?_ NB101_125.out _; (with_reducible repeat (first | refine blk_drewN ?_ _ | refine blk_drew ?_ | refine blk_alloc ?_ _)); exact BK101.out) hb); have n2_ := Aside0.mk (blk_below (g := gb102) (o := .cells #[.slice none 0 0, .int .i64 0, .int .i64 0] 24 (0, 0)) (by (with_reducible repeat (first | refine blk_drewN ?_ _ | refine blk_drew ?_ | refine blk_alloc ?_ _)); refine blk_far ?_ NB102_125.out _; (with_reducible repeat (first | refine blk_drewN ?_ _ | refine blk_drew ?_ | refine blk_alloc ?_ _)); refine blk_far ?_ NB102_125.out _; (with_reducible repeat (first | refine blk_drewN ?_ _ | refine blk_drew ?_ | refine blk_alloc ?_ _)); refine blk_far ?_ NB102_125.out _; (with_reducible repeat (first | refine blk_drewN ?_ _ | refine blk_drew ?_ | refine blk_alloc ?_ _)); exact BK102.out) hb); have n3_ := Aside0.mk (blk_below (g := gb125) (o := .cells #[.slice Ao84 y122.length co84, .int .i64 a0_1, .int .i64 a0_2] 24 (0, 0)) (by (with_reducible repeat (first | refine blk_drewN ?_ _ | refine blk_drew ?_ | refine blk_alloc ?_ _)); refine blk_put (cs := #[.slice Ao84 y122.length co84, .int .i64 a0_1, .int .i64 0]) ?_ 2 _ rfl; (with_reducible repeat (first | refine blk_drewN ?_ _ | refine blk_drew ?_ | refine blk_alloc ?_ _)); refine blk_put (cs := #[.slice Ao84 y122.length co84, .int .i64 0, .int .i64 0]) ?_ 1 _ rfl; (with_reducible repeat (first | refine blk_drewN ?_ _ | refine blk_drew ?_ | refine blk_alloc ?_ _)); refine blk_put (cs := #[.slice none 0 0, .int .i64 0, .int .i64 0]) ?_ 0 _ rfl; (with_reducible repeat (first | refine blk_drewN ?_ _ | refine blk_drew ?_ | refine blk_alloc ?_ _)); exact BK125.out) hb); have n4_ := Aside0.mk (below_step (by repeat (first | (with_reducible first | exact HB.out | apply below_alloc | apply pw_below_drewN | apply below_drew1 | refine below_set ?_ GE101.out | refine below_set ?_ GE102.out | refine below_set ?_ GE125.out) | exact HB.out)) hb); clear HO124; clear BK101; clear BK102; clear BK125; clear HB; have HO124 := n0_; have BK101 := n1_; have BK102 := n2_; have BK125 := n3_; have HB := n4_; clear n0_ n1_ n2_ n3_ n4_; (try clear hb); (try clear hb2); (try clear hk); (try clear hi); have hcz90_0 : w89.cell? ⟨gb102, 0, none⟩ = some (.slice none 0 0) := (blk_cell BK102.out 0).trans rfl; have hcz90_1 : w89.cell? ⟨gb102, 1, none⟩ = some (.int .i64 0) := (blk_cell BK102.out 1).trans rfl; have hcz90_2 : w89.cell? ⟨gb102, 2, none⟩ = some (.int .i64 0) := (blk_cell BK102.out 2).trans rfl; have hfz90_0 := blk_frozen BK102.out 0; have hfz90_1 := blk_frozen BK102.out 1; have hfz90_2 := blk_frozen BK102.out 2))
                        refine bodyPost_ret (results_ct rfl _ _ gb102 24 #[.slice none 0 0, .int .i64 0, .int .i64 0] (0, 0) _ rfl (by (with_reducible repeat (first | refine blk_drewN ?_ _ | refine blk_drew ?_ | refine blk_alloc ?_ _)); refine blk_put (cs := #[.slice none 0 0, .int .i64 0, .int .i64 0]) ?_ 2 _ rfl; (with_reducible repeat (first | refine blk_drewN ?_ _ | refine blk_drew ?_ | refine blk_alloc ?_ _)); refine blk_put (cs := #[.slice none 0 0, .int .i64 0, .int .i64 0]) ?_ 1 _ rfl; (with_reducible repeat (first | refine blk_drewN ?_ _ | refine blk_drew ?_ | refine blk_alloc ?_ _)); refine blk_put (cs := #[.slice none 0 0, .int .i64 0, .int .i64 0]) ?_ 0 _ rfl; (with_reducible repeat (first | refine blk_drewN ?_ _ | refine blk_drew ?_ | refine blk_alloc ?_ _)); exact BK102.out) Try.underlying24 rfl (by kernel_rfl)) rfl ?_
                        exact ⟨_, by first | rfl | (simp [errW_none, errW_some] <;> rfl) | (simp [*, errW_none, errW_some] <;> rfl), by first | exact Kd.R_nil _ _ _ _ _ | exact Kd.N_nil _ _ _ _ _ | exact Kd.V_nil _ _ _ _ _ | exact Kd.Q_nil _ _ _ _ _ | exact Kd.S_nil _ _ _ _ _, by repeat (first | (with_reducible first | exact HB.out | apply below_alloc | apply pw_below_drewN | apply below_drew1 | refine below_set ?_ GE101.out | refine below_set ?_ GE102.out | refine below_set ?_ GE125.out) | exact HB.out)⟩
                    · rw [if_neg c59] at H
                      exact absurd H (by simp)
                  · rw [if_neg c58] at H
                    exact absurd H (by simp)
                · rw [if_neg c57] at H
                  exact absurd H (by simp)
              · rw [if_neg c56] at H
                exact absurd H (by simp)
end Go.Proofs.Ytdfjeanlhafipaa.QT
