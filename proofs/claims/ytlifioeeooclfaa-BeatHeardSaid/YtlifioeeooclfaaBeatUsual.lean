/- The walk of the law BeatUsual, for every begin, step, and count. No condition. -/
import Derived.Test.YtlifioeeooclfaaBeatLonger
namespace Go.Proofs.Ytlifioeeooclfaa.Rl
open Go.ChangeShapes Go.WideShapes Go.ChangeAt Go.RowKit Dbl
open Go.Proofs.YtlifioeeooclfaaW.PrintWords Go.Proofs.YtlifioeeooclfaaW.PrintLast Go.Proofs.YtlifioeeooclfaaW.PrintMore
set_option linter.unusedVariables false
set_option linter.unusedSimpArgs false
theorem wf_u16 {a : Int} (h : (Lit.int .u16 a).wf = true) : 0 ≤ a ∧ a ≤ 65535 := by
  simp [Lit.wf, IntKind.max, IntKind.min, IntKind.bits, IntKind.signed] at h
  omega
theorem wf_u8 {a : Int} (h : (Lit.int .u8 a).wf = true) : 0 ≤ a ∧ a ≤ 255 := by
  simp [Lit.wf, IntKind.max, IntKind.min, IntKind.bits, IntKind.signed] at h
  omega
theorem ok_rep {L : Int} {m s : Nat} (h0 : 0 ≤ L) (h1 : L ≤ 1099511627775) (hm : m ≤ 16) (hs : s < 9007199254740992) : okB L (List.replicate m (wi s)) :=
  ⟨h0, h1, by rw [List.length_replicate]; exact hm, fun x hx => by rw [List.eq_of_mem_replicate hx]; exact wi_lt_inf hs⟩
theorem heard_rep {L n : Int} {m s : Nat} (hn : n = L + (s : Int)) : heardR L (List.replicate m (wi s)) n = List.replicate (min (m + 1) 16) (wi s) := by
  unfold heardR
  rw [hn, show (L + (s : Int) - L).toNat = s by omega, List.length_replicate]
  have : List.replicate m (wi s) ++ [wi s] = List.replicate (m + 1) (wi s) := by
    rw [List.replicate_succ', ]
  rw [this, List.drop_replicate]
  congr 1
  omega
theorem usual_rep {L : Int} {m s : Nat} (h0 : 0 ≤ L) (h1 : L ≤ 1099511627775) (hm : m ≤ 16) (hm0 : 0 < m) (hs : s ≤ 65535) : usualR L (List.replicate m (wi s)) = (wi s, 0) := by
  rw [usual_some (ok_rep h0 h1 hm (by omega)) (by rw [List.length_replicate]; omega)]
  refine mean_rep hm0 ?_ (by omega) (by omega)
  have : m * s ≤ 16 * 65535 := Nat.mul_le_mul hm hs
  omega
theorem score_rep {L n : Int} {m s : Nat} (h0 : 0 ≤ L) (h1 : L ≤ 1099511000000) (hm : m ≤ 16) (hm0 : 0 < m) (hs : s ≤ 65535) (hn : n = L + (s : Int)) : scoreR L (List.replicate m (wi s)) n = if s = 0 then (0, 0) else (one, 0) := by
  have ho : okN L (List.replicate m (wi s)) n := ⟨ok_rep h0 (by omega) hm (by omega), by omega, by omega⟩
  by_cases hz : s = 0
  · rw [if_pos hz]; exact score_same ho (by omega)
  · rw [if_neg hz]
    have hw := wi_lt_inf (n := s) (by omega)
    obtain ⟨w1, _, _⟩ := wi_rung (n := s) (by omega)
    have hp := wi_pos (n := s) (by omega) (by omega)
    refine score_share ho (by omega) (usual_rep h0 (by omega) hm hm0 hs) hp (k := 0) ?_
    rw [show (n - L).toNat = s by omega]
    have hd := Dbl.div_self (a := wi s) (by omega) (by omega)
    rw [one_eq] at hd
    exact shareR_some (by omega) hd (by decide)
theorem same_order {a : Nat} (h : a ≤ inf) : (FloatKind.f64.format.order a a != some .eq) = false := not_nan h
theorem same_eq {a : Nat} (h : a ≤ inf) : (FloatKind.f64.format.order a a == some .eq) = true := by
  have := not_nan h
  simpa using this
theorem new_n {now : Int} (h0 : 0 ≤ now) (h1 : now ≤ 1099511627775) (w : World) : Calls Try.prog 9 #[.int .i64 now] w fun e w' => e = .returned (.tuple #[.agg #[.int .i64 now, .slice none 0 0], .int .i64 0]) ∧ Below w.heap.size w w' := by
  have := new_ now w
  rw [if_pos ⟨h0, h1⟩, if_pos ⟨h0, h1⟩] at this
  exact this
theorem Bt.set {w : World} {A B : Option Addr} {c n d g i : Nat} {ts : List Nat} {x : Int} {u : Value} (h : Bt w A c ts) (hg : w.heap[g]? = some (.cells #[.int .i64 x, .slice B n d] 25 (0, 0))) : Bt (w.setCell ⟨g, i, none⟩ u) A c ts := by
  refine ⟨Hlp.C_set h.r ?_, h.c, h.l, h.w⟩
  intro y j hj
  rw [blk_cell hg j] at hj
  match j, hj with
  | 0, hj => cases hj
  | 1, hj => cases hj
  | j + 2, hj => simp at hj
set_option maxHeartbeats 16000000 in
set_option maxRecDepth 100000 in
theorem beatUsual (w : World) (a : Int) (wa : (Lit.int .u16 a).wf = true) (b : Int) (wb : (Lit.int .u16 b).wf = true) (n : Int) (wn : (Lit.int .u8 n).wf = true) :
    Calls Try.prog 3 #[.int .u16 a, .int .u16 b, .int .u8 n] w fun e w' => e = .returned (.bool true) ∧ Below w.heap.size w w' := by
  obtain ⟨a0, a1⟩ := wf_u16 wa
  obtain ⟨b0, b1⟩ := wf_u16 wb
  obtain ⟨n0, n1⟩ := wf_u8 wn
  clear wa wb wn
  obtain ⟨s, hs⟩ : ∃ s : Nat, b.toNat = s := ⟨_, rfl⟩
  have hbs : b = (s : Int) := by omega
  have HBS := Lib.hid hbs
  have s1 : s ≤ 65535 := by omega
  have HN := Aside0.mk (fun w => new_n (now := a) a0 (by omega) w)
  clear hs hbs
  go_enter Try.func3, Try.ntmps3
  go_wp2_with fail
  (with_reducible refine (HN.out _).mono ?_)
  rintro e w1 ⟨rfl, hb⟩
  have HB := Aside0.mk (below_alloc hb (.cells #[.int .i64 a, .slice none 0 0] 25))
  have hlt1 := hb.size
  have HG0 := Aside0.mk (blk_new w1 (.cells #[.int .i64 a, .slice none 0 0] 25))
  have H0 : Aside0 (∀ W : World, Bt W none 0 []) := ⟨fun W => ⟨Hlp.C_empty (enc := Value.float .f64) (h1 := fun _ => rfl), Nat.le_refl _, by simp, by simp⟩⟩
  clear hb HN
  go_wp2_with fail
  generalize w1.heap.size = g at *
  generalize w1.alloc (.cells #[.int .i64 a, .slice none 0 0] 25) = w2 at *
  obtain ⟨N, hN⟩ : ∃ N : Nat, (N : Int) = 1 + n % 40 := ⟨(1 + n % 40).toNat, by omega⟩
  have N1 : 1 ≤ N := by omega
  have N2 : N ≤ 40 := by omega
  go_loopg [9] N (fun q i w' => ∃ (k m : Nat) (L : Int) (A : Option Addr) (c : Nat), k ≤ N ∧ i = .int .i64 k ∧ q = N - k ∧ 0 ≤ L ∧ L ≤ 65535 + 65535 * k ∧ m = min k 16 ∧ Aside0 (w'.heap[g]? = some (.cells #[.int .i64 L, .slice A m c] 25 (0, 0))) ∧ Aside0 (Bt w' A c (List.replicate m (wi s))) ∧ Aside0 (Below w.heap.size w w'))
  case atStart => exact ⟨0, 0, a, none, 0, Nat.zero_le _, rfl, rfl, a0, by omega, rfl, HG0, H0.out _ |> Aside0.mk, HB⟩
  case round =>
    obtain ⟨k, m, L, A, c, hk, rfl, rfl, L0, L1, hm, HG, HT, HBr⟩ := hrel
    have hmm := Lib.hid hm
    have m16 : m ≤ 16 := by omega
    clear hm
    have g0 : wr.cell? ⟨g, 0, none⟩ = some (.int .i64 L) := (blk_cell HG.out 0).trans rfl
    have g1 : wr.cell? ⟨g, 1, none⟩ = some (.slice A m c) := (blk_cell HG.out 1).trans rfl
    by_cases hlt : k < N
    · have t1 : decide ((k : Int) < 1 + n % 40) = true := decide_eq_true (by omega)
      have L2 : L ≤ 2700000 := by omega
      have HO := Aside0.mk (okN_mk (last := L) (now := L + b) (ok_rep (m := m) (s := s) L0 (by omega) m16 (by omega)) (by omega) (by omega))
      have HH := Aside0.mk (heard_rep (L := L) (n := L + b) (m := m) (s := s) (by rw [HBS.out]))
      go_wp2_with fail
      (with_reducible refine (heard_n (n := m) (m := min (m + 1) 16) (List.length_replicate ..) (List.length_replicate ..) HO.out HH.out HT.out).mono ?_)
      rintro e w3 ⟨A3, c3, rfl, ht, hb⟩
      have HG3 := Aside0.mk (blk_alloc (blk_below HG.out hb) (.cells #[.int .i64 (L + b), .slice A3 (min (m + 1) 16) c3] 25))
      have HN3 := Aside0.mk (blk_new w3 (.cells #[.int .i64 (L + b), .slice A3 (min (m + 1) 16) c3] 25))
      have HT3 := Aside0.mk (ht.alloc (.cells #[.int .i64 (L + b), .slice A3 (min (m + 1) 16) c3] 25))
      have HB3 := Aside0.mk (below_alloc (below_then HBr.out HBr.out.size hb) (.cells #[.int .i64 (L + b), .slice A3 (min (m + 1) 16) c3] 25))
      clear hb ht
      have p0 : (w3.alloc (.cells #[.int .i64 (L + b), .slice A3 (min (m + 1) 16) c3] 25)).cell? ⟨g, 0, none⟩ = some (.int .i64 L) := (blk_cell HG3.out 0).trans rfl
      have p1 : (w3.alloc (.cells #[.int .i64 (L + b), .slice A3 (min (m + 1) 16) c3] 25)).cell? ⟨g, 1, none⟩ = some (.slice A m c) := (blk_cell HG3.out 1).trans rfl
      have f0 : (w3.alloc (.cells #[.int .i64 (L + b), .slice A3 (min (m + 1) 16) c3] 25)).frozen? ⟨g, 0, none⟩ = false := blk_frozen HG3.out 0
      have f1 : (w3.alloc (.cells #[.int .i64 (L + b), .slice A3 (min (m + 1) 16) c3] 25)).frozen? ⟨g, 1, none⟩ = false := blk_frozen HG3.out 1
      have hgb : w.heap.size ≤ g := by omega
      go_wp2_with fail
      go_roundg (N - (k + 1))
      case measure => omega
      case rel => exact ⟨k + 1, min (m + 1) 16, L + b, A3, c3, hlt, by go_num, rfl, by omega, by omega, by have := hmm.out; omega, ⟨blk_set (blk_set HG3.out 0 _) 1 _⟩, ⟨Bt.set (Bt.set HT3.out HG3.out) (blk_set HG3.out 0 (.int .i64 (L + b)))⟩, ⟨(HB3.out.setCell hgb _).setCell hgb _⟩⟩
    · obtain rfl : k = N := by omega
      have t1 : decide ((k : Int) < 1 + n % 40) = false := decide_eq_false (by omega)
      have m0 : 0 < m := by have := hmm.out; omega
      have L2 : L ≤ 2700000 := by omega
      have HU := Aside0.mk (usual_rep (m := m) (s := s) L0 (by omega) m16 m0 s1)
      have hsc := score_rep (n := L + b) (m := m) (s := s) L0 (by omega) m16 m0 s1 (by rw [HBS.out])
      have hf : floatOfInt .f64 b = wi s := by rw [HBS.out]; exact ofInt_eq (by omega)
      have hsi := Nat.le_of_lt (wi_lt_inf (n := s) (by omega))
      have o1 : (FloatKind.f64.format.order (wi s) (floatOfInt .f64 b) != some .eq) = false := by rw [hf]; exact same_order hsi
      clear hf hsi
      by_cases hz : s = 0
      · rw [if_pos hz] at hsc
        have HS := Aside0.mk hsc
        have t2 : (b == 0) = true := beq_iff_eq.2 (by rw [HBS.out, hz]; rfl)
        have o2 : (FloatKind.f64.format.order 0 0 == some .eq) = true := same_eq (Nat.zero_le _)
        clear hsc hz
        go_wp2_with fail
        (with_reducible refine (usual_n (n := m) (List.length_replicate ..) HU.out HT.out).mono ?_)
        rintro e w5 ⟨rfl, hb⟩
        have HT5 := Aside0.mk (HT.out.below hb)
        have HB5 := Aside0.mk (below_then HBr.out HBr.out.size hb)
        replace g0 := pw_cell_below hb g0
        replace g1 := pw_cell_below hb g1
        clear hb
        go_wp2_with fail
        (with_reducible refine (score_n (n := m) (List.length_replicate ..) HS.out HT5.out).mono ?_)
        rintro e w6 ⟨rfl, hb⟩
        have HB6 := Aside0.mk (below_then HB5.out HB5.out.size hb)
        clear hb
        go_wp2_with (go_at_call 13; (with_reducible refine (known_ _).mono ?_); rintro e w7 ⟨rfl, hb⟩; have HB7 := Aside0.mk (below_then HB6.out HB6.out.size hb))
        go_ret
        exact ⟨rfl, HB7.out⟩
      · rw [if_neg hz] at hsc
        have HS := Aside0.mk hsc
        have t2 : (b == 0) = false := beq_eq_false_iff_ne.2 (by rw [HBS.out]; omega)
        have o2 : (FloatKind.f64.format.order one 4607182418800017408 == some .eq) = true := same_eq (by decide)
        clear hsc hz
        go_wp2_with fail
        (with_reducible refine (usual_n (n := m) (List.length_replicate ..) HU.out HT.out).mono ?_)
        rintro e w5 ⟨rfl, hb⟩
        have HT5 := Aside0.mk (HT.out.below hb)
        have HB5 := Aside0.mk (below_then HBr.out HBr.out.size hb)
        replace g0 := pw_cell_below hb g0
        replace g1 := pw_cell_below hb g1
        clear hb
        go_wp2_with fail
        (with_reducible refine (score_n (n := m) (List.length_replicate ..) HS.out HT5.out).mono ?_)
        rintro e w6 ⟨rfl, hb⟩
        have HB6 := Aside0.mk (below_then HB5.out HB5.out.size hb)
        clear hb
        go_wp2_with (go_at_call 13; (with_reducible refine (known_ _).mono ?_); rintro e w7 ⟨rfl, hb⟩; have HB7 := Aside0.mk (below_then HB6.out HB6.out.size hb))
        go_ret
        exact ⟨rfl, HB7.out⟩
end Go.Proofs.Ytlifioeeooclfaa.Rl
