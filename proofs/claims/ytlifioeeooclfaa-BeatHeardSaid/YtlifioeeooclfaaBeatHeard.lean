/- The walk of the law BeatHeard, for every time, row of words, and row of times. No condition. -/
import Derived.Test.YtlifioeeooclfaaBeatUsual
import Derived.Test.YtlifioeeooclfaaBeatSame
import Derived.Deep.RegionHeld3
import Derived.Deep.DeepCutAuto
import Derived.Deep.CutBlock
import Derived.Lib.SliceRun
namespace Go.Proofs.Ytlifioeeooclfaa.Rl
open Go.ChangeShapes Go.WideShapes Go.ChangeAt Go.RowKit Dbl
open Go.Proofs.YtlifioeeooclfaaW.PrintWords Go.Proofs.YtlifioeeooclfaaW.PrintLast Go.Proofs.YtlifioeeooclfaaW.PrintMore
set_option linter.unusedVariables false
set_option linter.unusedSimpArgs false
/-- what both tell: the times, the time, the error -/
def hT (last : Int) (ts : List Nat) (now : Int) : List Nat := if okN last ts now then heardR last ts now else []
def hL (last : Int) (ts : List Nat) (now : Int) : Int := if okN last ts now then now else 0
theorem heard_g {A : Option Addr} {c n m : Nat} {last now L : Int} {ts us : List Nat} {e : Int} {w : World} (hn : ts.length = n) (hm : us.length = m) (hu : hT last ts now = us) (hl : hL last ts now = L) (he : errN last ts now = e) (h : Bt w A c ts) :
    Calls Try.prog 10 #[.agg #[.int .i64 last, .slice A n c], .int .i64 now] w fun x w' => ∃ A c, x = .returned (.tuple #[.agg #[.int .i64 L, .slice A m c], .int .i64 e]) ∧ Bt w' A c us ∧ Below w.heap.size w w' := by
  subst hn hm hu hl he
  refine (heard_ (last := last) (now := now) h).mono ?_
  intro x w' hp
  unfold HeardPost at hp
  unfold hT hL
  by_cases ho : okN last ts now
  · rw [if_pos ho] at hp
    rw [if_pos ho, if_pos ho, errN_yes ho]; exact hp
  · rw [if_neg ho] at hp
    rw [if_neg ho, if_neg ho, errN_no ho]
    exact ⟨none, 0, hp.1, ⟨Hlp.C_empty (enc := Value.float .f64) (h1 := fun _ => rfl), Nat.le_refl _, by simp, by simp⟩, hp.2⟩
theorem rheard_g {A : Option Addr} {c n m : Nat} {last now L : Int} {ts us : List Nat} {e : Int} {w : World} (hn : ts.length = n) (hm : us.length = m) (hu : hT last ts now = us) (hl : hL last ts now = L) (he : errN last ts now = e) (h : Bt w A c ts) :
    Calls Try.prog 15 #[.agg #[.int .i64 last, .slice A n c], .int .i64 now] w fun x w' => ∃ A c, x = .returned (.tuple #[.agg #[.int .i64 L, .slice A m c], .int .i64 e]) ∧ Bt w' A c us ∧ Below w.heap.size w w' := by
  subst hn hm hu hl he
  refine (rheard_ (last := last) (now := now) h).mono ?_
  intro x w' hp
  unfold HeardPost at hp
  unfold hT hL
  by_cases ho : okN last ts now
  · rw [if_pos ho] at hp
    rw [if_pos ho, if_pos ho, errN_yes ho]; exact hp
  · rw [if_neg ho] at hp
    rw [if_neg ho, if_neg ho, errN_no ho]
    exact ⟨none, 0, hp.1, ⟨Hlp.C_empty (enc := Value.float .f64) (h1 := fun _ => rfl), Nat.le_refl _, by simp, by simp⟩, hp.2⟩
theorem heard_ok {last now : Int} {ts : List Nat} (h : okN last ts now) : okB now (heardR last ts now) := by
  have hd := okN_d h
  refine ⟨by have := h.1.1; have := h.2.1; omega, h.2.2, ?_, ?_⟩
  · unfold heardR
    rw [List.length_drop, List.length_append, List.length_singleton]; omega
  · intro x hx
    have hx := List.mem_of_mem_drop hx
    rcases List.mem_append.1 hx with h1 | h1
    · exact h.1.2.2.2 x h1
    · rw [List.mem_singleton.1 h1]; exact wi_lt_inf hd.2
theorem check_r {A : Option Addr} {c n : Nat} {last r : Int} {ts : List Nat} {w : World} (hn : ts.length = n) (hr : errB last ts = r) (h : Bt w A c ts) : Calls Try.prog 18 #[.agg #[.int .i64 last, .slice A n c]] w fun e w' => e = .returned (.int .i64 r) ∧ Below w.heap.size w w' := by
  subst hr; exact check_n hn h
theorem new_bad {now : Int} (h : ¬ (0 ≤ now ∧ now ≤ 1099511627775)) (w : World) : Calls Try.prog 9 #[.int .i64 now] w fun e w' => e = .returned (.tuple #[.agg #[.int .i64 0, .slice none 0 0], .int .i64 2]) ∧ Below w.heap.size w w' := by
  have := new_ now w
  rw [if_neg h, if_neg h] at this
  exact this
set_option maxHeartbeats 16000000 in
set_option maxRecDepth 100000 in
theorem beatHeard (w : World) (last : Int) (wl : (Lit.int .i64 last).wf = true) (A : Option Addr) (c : Nat) (l : List Int) (hr : Kd.C (Kd.int .u64) w A l.length l) (hc : l.length ≤ c) (wf : l.length ≤ maxLen ∧ l.length * 8 ≤ 140737488351232 ∧ ∀ x ∈ l, (Lit.int .u64 x).wf = true)
    (A' : Option Addr) (c' : Nat) (ms : List Int) (hr' : Kd.C (Kd.int .i64) w A' ms.length ms) (hc' : ms.length ≤ c') (wf' : ms.length ≤ maxLen ∧ ms.length * 8 ≤ 140737488351232 ∧ ∀ x ∈ ms, (Lit.int .i64 x).wf = true) :
    Calls Try.prog 4 #[.int .i64 last, .slice A l.length c, .slice A' ms.length c'] w fun e w' => e = .returned (.bool true) ∧ Below w.heap.size w w' := by
  have HW := Aside0.mk (wds wf.2.2)
  have HR := Aside0.mk hr
  have HR' := Aside0.mk hr'
  clear wl wf wf' hr hr'
  by_cases h30 : 30 < l.length
  · have t1 : decide ((30 : Int) < (l.length : Int)) = true := decide_eq_true (by omega)
    go_enter Try.func4, Try.ntmps4
    go_wp2_with fail
    (with_reducible refine (known_ _).mono ?_)
    rintro e w' ⟨rfl, hb⟩
    go_wp2_with fail
    go_ret
    exact ⟨rfl, hb⟩
  have t1 : decide ((30 : Int) < (l.length : Int)) = false := decide_eq_false (by omega)
  by_cases h31 : 60 < ms.length
  · have t2 : decide ((60 : Int) < (ms.length : Int)) = true := decide_eq_true (by omega)
    go_enter Try.func4, Try.ntmps4
    go_wp2_with fail
    (with_reducible refine (known_ _).mono ?_)
    rintro e w' ⟨rfl, hb⟩
    go_wp2_with fail
    go_ret
    exact ⟨rfl, hb⟩
  have t2 : decide ((60 : Int) < (ms.length : Int)) = false := decide_eq_false (by omega)
  have hl : l.length ≤ 17592186044400 := by omega
  have hm : ms.length ≤ 60 := by omega
  have HL := Lib.hid (show (l.map Int.toNat).length = l.length from List.length_map ..)
  clear h30 h31
  go_enter Try.func4, Try.ntmps4
  go_wp2_with fail
  (with_reducible refine (of_n HR.out hc hl HW.out).mono ?_)
  rintro e w1 ⟨B, d, rfl, ht, hb⟩
  have HT0 := Aside0.mk (ht.alloc (.cells #[.int .i64 last, .slice B l.length d] 25))
  have HB0 := Aside0.mk (below_alloc hb (.cells #[.int .i64 last, .slice B l.length d] 25))
  have HG0 := Aside0.mk (blk_new w1 (.cells #[.int .i64 last, .slice B l.length d] 25))
  have hgs := hb.size
  clear ht hb
  go_wp2_with fail
  generalize w1.heap.size = g at *
  generalize w1.alloc (.cells #[.int .i64 last, .slice B l.length d] 25) = w2 at *
  go_loopg [8] ms.length (fun q i w' => ∃ (k n : Nat) (L : Int) (ts : List Nat) (A : Option Addr) (c : Nat), k ≤ ms.length ∧ i = .int .i64 k ∧ q = ms.length - k ∧ Hid (ts.length = n) ∧ Aside0 (w'.heap[g]? = some (.cells #[.int .i64 L, .slice A n c] 25 (0, 0))) ∧ Aside0 (Bt w' A c ts) ∧ Aside0 (Below w.heap.size w w'))
  case atStart => exact ⟨0, l.length, last, l.map Int.toNat, B, d, Nat.zero_le _, rfl, rfl, HL, HG0, HT0, HB0⟩
  case round =>
    obtain ⟨k, n, L, ts, A1, c1, hk, rfl, rfl, HN, HG, HT, HBr⟩ := hrel
    have g0 : wr.cell? ⟨g, 0, none⟩ = some (.int .i64 L) := (blk_cell HG.out 0).trans rfl
    have g1 : wr.cell? ⟨g, 1, none⟩ = some (.slice A1 n c1) := (blk_cell HG.out 1).trans rfl
    by_cases hlt : k < ms.length
    · have t3 : decide ((k : Int) < (ms.length : Int)) = true := decide_eq_true (by omega)
      obtain ⟨ad, hA, hcw⟩ := Hlp.C_at HR'.out k hlt
      subst hA
      have i0 : (0 : Int) ≤ (k : Int) := by omega
      have i1 : (k : Int) < (ms.length : Int) := by omega
      obtain ⟨x, hx⟩ : ∃ x, ms[k] = x := ⟨_, rfl⟩
      rw [hx] at hcw
      have HCw := Aside0.mk hcw
      have hc0 := pw_cell_below HBr.out hcw
      clear hx hcw
      obtain ⟨us, hus⟩ : ∃ us, hT L ts x = us := ⟨_, rfl⟩
      obtain ⟨m, hmm⟩ : ∃ m, us.length = m := ⟨_, rfl⟩
      obtain ⟨M, hM⟩ : ∃ M, hL L ts x = M := ⟨_, rfl⟩
      obtain ⟨er, her⟩ : ∃ er, errN L ts x = er := ⟨_, rfl⟩
      have HU := Aside0.mk hus
      have HMm := Aside0.mk hmm
      have HM := Aside0.mk hM
      have HE := Aside0.mk her
      clear hus hmm hM her
      go_upto_region 7 with (fail)
      go_cut [9, 10] (fun v9 v10 wc => ∃ (g3 c3 : Nat) (A3 : Option Addr), v9 = .pointer (some ⟨g3, 0, none⟩) ∧ v10 = .int .i64 er ∧ wr.heap.size ≤ g3 ∧ Aside0 (wc.heap[g3]? = some (.cells #[.int .i64 M, .slice A3 m c3] 25 (0, 0))) ∧ Aside0 (Bt wc A3 c3 us) ∧ Aside0 (Below wr.heap.size wr wc))
      case first =>
        have e0 := Go.Lib.cell?_alloc_some (.cells #[.int .i64 0, .slice none 0 0] 25) g0
        have e1 := Go.Lib.cell?_alloc_some (.cells #[.int .i64 0, .slice none 0 0] 25) g1
        have e2 := Go.Lib.cell?_alloc_some (.cells #[.int .i64 0, .slice none 0 0] 25) hc0
        go_region_with (go_at_call 10; (with_reducible refine (heard_g (w := _) HN.out HMm.out HU.out HM.out HE.out ?b1).mono ?_); (case b1 => repeat (first | exact HT.out | refine Bt.alloc ?_ _ | refine Bt.drew ?_)); rintro e w3 ⟨A3, c3, rfl, ht3, hb⟩; have h13 : Aside0 (Below wr.heap.size wr w3) := ⟨below_then (by first | exact below_drew (Below.refl _ _) | exact below_alloc (below_drew (Below.refl _ _)) _ | exact below_drew (below_alloc (Below.refl _ _) _)) (by simp) hb⟩; (first | (have nb : w3.heap[wr.heap.size]? = some (.cells #[.int .i64 0, .slice none 0 0] 25 (0, 0)) := ?nb; (case nb => exact blk_below (blk_new (wr.drew) (.cells #[.int .i64 0, .slice none 0 0] 25)) hb); have n0 := (blk_cell nb 0).trans (show _ = some (Value.int .i64 0) from rfl); have n1 := (blk_cell nb 1).trans (show _ = some (Value.slice none 0 0) from rfl); have m0 := blk_frozen nb 0; have m1 := blk_frozen nb 1) | skip))
        all_goals
          (go_wp2_with fail; go_meet)
          case rel =>
            first
              | exact ⟨w3.heap.size, c3, A3, rfl, rfl, h13.out.size, ⟨blk_new w3 (.cells #[.int .i64 M, .slice A3 m c3] 25)⟩, ⟨ht3.alloc _⟩, ⟨below_alloc h13.out _⟩⟩
              | exact ⟨wr.heap.size, c3, A3, rfl, rfl, Nat.le_refl _, ⟨blk_set (blk_set nb 0 _) 1 _⟩, ⟨Bt.set (Bt.set ht3 nb) (blk_set nb 0 _)⟩, ⟨(h13.out.setCell (Nat.le_refl _) _).setCell (Nat.le_refl _) _⟩⟩
      case rest =>
        obtain ⟨g3, c3, A3, rfl, rfl, hg3, HG3, HT3, HB3⟩ := hcut
        obtain ⟨wa, hwa⟩ : ∃ wa, wa = wc := ⟨_, rfl⟩
        subst hwa
        have HGc := Aside0.mk (blk_below HG.out HB3.out)
        have HTc := Aside0.mk (HT.out.below HB3.out)
        replace g0 := pw_cell_below HB3.out g0
        replace g1 := pw_cell_below HB3.out g1
        replace hc0 := pw_cell_below HB3.out hc0
        have HBc := Aside0.mk (below_then HBr.out HBr.out.size HB3.out)
        go_upto_region 8 with (fail)
        go_cut [11, 12] (fun v11 v12 wd => ∃ (g4 c4 : Nat) (A4 : Option Addr), v11 = .pointer (some ⟨g4, 0, none⟩) ∧ v12 = .int .i64 er ∧ wa.heap.size ≤ g4 ∧ Aside0 (wd.heap[g4]? = some (.cells #[.int .i64 M, .slice A4 m c4] 25 (0, 0))) ∧ Aside0 (Bt wd A4 c4 us) ∧ Aside0 (Below wa.heap.size wa wd))
        case first =>
          have e0 := Go.Lib.cell?_alloc_some (.cells #[.int .i64 0, .slice none 0 0] 25) g0
          have e1 := Go.Lib.cell?_alloc_some (.cells #[.int .i64 0, .slice none 0 0] 25) g1
          have e2 := Go.Lib.cell?_alloc_some (.cells #[.int .i64 0, .slice none 0 0] 25) hc0
          go_region_with (go_at_call 15; (with_reducible refine (rheard_g (w := _) HN.out HMm.out HU.out HM.out HE.out ?b1).mono ?_); (case b1 => repeat (first | exact HTc.out | refine Bt.alloc ?_ _ | refine Bt.drew ?_)); rintro e w3 ⟨A4, c4, rfl, ht3, hb⟩; have h13 : Aside0 (Below wa.heap.size wa w3) := ⟨below_then (by first | exact below_drew (Below.refl _ _) | exact below_alloc (below_drew (Below.refl _ _)) _ | exact below_drew (below_alloc (Below.refl _ _) _)) (by simp) hb⟩; (first | (have nb : w3.heap[wa.heap.size]? = some (.cells #[.int .i64 0, .slice none 0 0] 25 (0, 0)) := ?nb; (case nb => exact blk_below (blk_new (wa.drew) (.cells #[.int .i64 0, .slice none 0 0] 25)) hb); have n0 := (blk_cell nb 0).trans (show _ = some (Value.int .i64 0) from rfl); have n1 := (blk_cell nb 1).trans (show _ = some (Value.slice none 0 0) from rfl); have m0 := blk_frozen nb 0; have m1 := blk_frozen nb 1) | skip))
          all_goals
            (go_wp2_with fail; go_meet)
            case rel =>
              first
                | exact ⟨w3.heap.size, c4, A4, rfl, rfl, h13.out.size, ⟨blk_new w3 (.cells #[.int .i64 M, .slice A4 m c4] 25)⟩, ⟨ht3.alloc _⟩, ⟨below_alloc h13.out _⟩⟩
                | exact ⟨wa.heap.size, c4, A4, rfl, rfl, Nat.le_refl _, ⟨blk_set (blk_set nb 0 _) 1 _⟩, ⟨Bt.set (Bt.set ht3 nb) (blk_set nb 0 _)⟩, ⟨(h13.out.setCell (Nat.le_refl _) _).setCell (Nat.le_refl _) _⟩⟩
        case rest =>
          obtain ⟨g4, c4, A4, rfl, rfl, hg4, HG4, HT4, HB4⟩ := hcut
          have HG3d := Aside0.mk (blk_below HG3.out HB4.out)
          have HGd := Aside0.mk (blk_below HGc.out HB4.out)
          have HT3d := Aside0.mk (HT3.out.below HB4.out)
          replace hc0 := pw_cell_below HB4.out hc0
          have HBd := Aside0.mk (below_then HBc.out HBc.out.size HB4.out)
          clear g0 g1
          have p0 : wc.cell? ⟨g3, 0, none⟩ = some (.int .i64 M) := (blk_cell HG3d.out 0).trans rfl
          have p1 : wc.cell? ⟨g3, 1, none⟩ = some (.slice A3 m c3) := (blk_cell HG3d.out 1).trans rfl
          have q0 : wc.cell? ⟨g4, 0, none⟩ = some (.int .i64 M) := (blk_cell HG4.out 0).trans rfl
          have q1 : wc.cell? ⟨g4, 1, none⟩ = some (.slice A4 m c4) := (blk_cell HG4.out 1).trans rfl
          have hg3w : w.heap.size ≤ g := by omega
          have t4 : (er != er) = false := by simp
          have HSm := Aside0.mk (sameB_self M us)
          go_wp2_with fail
          (with_reducible refine (rsame_n HMm.out HMm.out HSm.out HT3d.out HT4.out).mono ?_)
          rintro e w5 ⟨rfl, hb⟩
          have HT5 := Aside0.mk (HT4.out.below hb)
          have HT53 := Aside0.mk (HT3d.out.below hb)
          have HG5 := Aside0.mk (blk_below HGd.out hb)
          have HG53 := Aside0.mk (blk_below HG3d.out hb)
          have HTt := Aside0.mk ((HTc.out.below HB4.out).below hb)
          have HB5 := Aside0.mk (below_then HBd.out HBd.out.size hb)
          replace p0 := pw_cell_below hb p0
          replace p1 := pw_cell_below hb p1
          replace q0 := pw_cell_below hb q0
          replace q1 := pw_cell_below hb q1
          replace hc0 := pw_cell_below hb hc0
          clear hb HT4 HT3d HTc
          go_wp2_with fail
          (with_reducible refine (bsame_n HMm.out HMm.out HSm.out HT53.out HT5.out).mono ?_)
          rintro e w6 ⟨rfl, hb⟩
          have HT6 := Aside0.mk (HT53.out.below hb)
          have HG6 := Aside0.mk (blk_below HG5.out hb)
          have HG63 := Aside0.mk (blk_below HG53.out hb)
          have HTu := Aside0.mk (HTt.out.below hb)
          have HB6 := Aside0.mk (below_then HB5.out HB5.out.size hb)
          replace p0 := pw_cell_below hb p0
          replace p1 := pw_cell_below hb p1
          replace hc0 := pw_cell_below hb hc0
          have hlt6 := hgs
          clear q0 q1 hb HT53 HT5 HTt
          by_cases ho : okN L ts x
          · obtain rfl : er = 0 := HE.out.symm.trans (errN_yes ho)
            obtain rfl : M = x := by have h := HM.out; unfold hL at h; rw [if_pos ho] at h; exact h.symm
            have hu : us = heardR L ts M := by have h := HU.out; unfold hT at h; rw [if_pos ho] at h; exact h.symm
            have hk1 := heard_ok ho
            rw [← hu] at hk1
            have HK : Aside0 (errB M us = 0) := ⟨if_pos hk1⟩
            have m16 : m ≤ 16 := by have := hk1.2.2.1; have := HMm.out; omega
            clear hu hk1 ho
            have f0 : w6.frozen? ⟨g, 0, none⟩ = false := blk_frozen HG6.out 0
            have f1 : w6.frozen? ⟨g, 1, none⟩ = false := blk_frozen HG6.out 1
            have s0 : w6.cell? ⟨g, 0, none⟩ = some (.int .i64 L) := (blk_cell HG6.out 0).trans rfl
            have s1 : w6.cell? ⟨g, 1, none⟩ = some (.slice A1 n c1) := (blk_cell HG6.out 1).trans rfl
            go_wp2_with fail
            have HW1 := Aside0.mk (blk_set (blk_set HG6.out 0 (.int .i64 M)) 1 (.slice A3 m c3))
            have HW2 := Aside0.mk (Bt.set (i := 1) (u := .slice A3 m c3) (Bt.set (i := 0) (u := .int .i64 M) HT6.out HG6.out) (blk_set HG6.out 0 (.int .i64 M)))
            have HW3 : Aside0 (Below w.heap.size w ((w6.setCell ⟨g, 0, none⟩ (.int .i64 M)).setCell ⟨g, 1, none⟩ (.slice A3 m c3))) := ⟨(HB6.out.setCell hg3w _).setCell hg3w _⟩
            generalize ((w6.setCell ⟨g, 0, none⟩ (.int .i64 M)).setCell ⟨g, 1, none⟩ (.slice A3 m c3)) = w7 at *
            have z0 : w7.cell? ⟨g, 0, none⟩ = some (.int .i64 M) := (blk_cell HW1.out 0).trans rfl
            have z1 : w7.cell? ⟨g, 1, none⟩ = some (.slice A3 m c3) := (blk_cell HW1.out 1).trans rfl
            have hc7 := pw_cell_below HW3.out HCw.out
            clear hc0 p0 p1 s0 s1 f0 f1
            have u16 : decide ((16 : Int) < (m : Int)) = false := decide_eq_false (by omega)
            have uM : (M != M) = false := by simp
            go_region_held3 (fun W => W.cell? ⟨g, 0, none⟩ = some (.int .i64 M) ∧ W.cell? ⟨g, 1, none⟩ = some (.slice A3 m c3) ∧ W.cell? (ad.add k) = some (.int .i64 M)) (first | go_keep | exact ⟨pw_cell_below (w := w7.drew) hb z0, pw_cell_below (w := w7.drew) hb z1, pw_cell_below (w := w7.drew) hb hc7⟩) (first | (go_at_call 18; (with_reducible refine (check_r HMm.out HK.out (w := w7.drew) HW2.out.drew).mono ?_); rintro e w8 ⟨rfl, hb⟩; have HB8 := Aside0.mk (below_then (below_drew HW3.out) (below_drew HW3.out).size hb); have HT8 := Aside0.mk (HW2.out.drew.below hb); have HG8 := Aside0.mk (blk_below (w := w7.drew) HW1.out hb)))
            all_goals
              go_wp2_with fail
              go_roundg (ms.length - (k + 1))
              case measure => omega
              case rel => exact ⟨k + 1, m, M, us, A3, c3, hlt, by go_num, rfl, Lib.hid HMm.out, HG8, HT8, HB8⟩
          · obtain rfl : er = 2 := HE.out.symm.trans (errN_no ho)
            go_wp2_with fail
            go_roundg (ms.length - (k + 1))
            case measure => omega
            case rel => exact ⟨k + 1, n, L, ts, A1, c1, hlt, by go_num, rfl, HN, HG6, HTu, HB6⟩
    · obtain rfl : k = ms.length := by omega
      have t3 : decide ((ms.length : Int) < (ms.length : Int)) = false := decide_eq_false (by omega)
      by_cases hN : 0 ≤ last ∧ last ≤ 1099511627775
      · have e1 : decide (0 ≤ last) = true := decide_eq_true hN.1
        have e2 : decide (last ≤ 1099511627775) = true := decide_eq_true hN.2
        have HN := Aside0.mk (fun w => new_n (now := last) hN.1 hN.2 w)
        go_wp2_with fail
        (with_reducible refine (HN.out _).mono ?_)
        rintro e w8 ⟨rfl, hb⟩
        have HB8 := Aside0.mk (below_then HBr.out HBr.out.size hb)
        clear hb
        go_wp2_with fail
        (with_reducible refine (known_ _).mono ?_)
        rintro e w9 ⟨rfl, hb⟩
        have HB9 := Aside0.mk (below_then (below_alloc HB8.out _) (below_alloc HB8.out _).size hb)
        go_wp2_with fail
        go_ret
        exact ⟨rfl, HB9.out⟩
      · have HN := Aside0.mk (fun w => new_bad (now := last) hN w)
        go_wp2_with fail
        (with_reducible refine (HN.out _).mono ?_)
        rintro e w8 ⟨rfl, hb⟩
        have HB8 := Aside0.mk (below_then HBr.out HBr.out.size hb)
        clear hb
        have hcs : (decide (0 ≤ last) = false) ∨ (decide (0 ≤ last) = true ∧ decide (last ≤ 1099511627775) = false) := by
          by_cases h1 : 0 ≤ last
          · exact .inr ⟨decide_eq_true h1, decide_eq_false (fun h => hN ⟨h1, h⟩)⟩
          · exact .inl (decide_eq_false h1)
        rcases hcs with e1 | ⟨e1, e2⟩
        all_goals
          go_wp2_with fail
          (with_reducible refine (known_ _).mono ?_)
          rintro e w9 ⟨rfl, hb⟩
          have HB9 := Aside0.mk (below_then (below_alloc HB8.out _) (below_alloc HB8.out _).size hb)
          go_wp2_with fail
          go_ret
          exact ⟨rfl, HB9.out⟩
end Go.Proofs.Ytlifioeeooclfaa.Rl
