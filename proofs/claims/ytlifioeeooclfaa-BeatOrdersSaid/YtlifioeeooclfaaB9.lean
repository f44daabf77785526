/- Contracts of slices.EqualFunc over real.Same, beat.Same and icehouseref15.Same. Conditions: lists that fit in memory, words of 64 bits. -/
import Derived.Test.YtlifioeeooclfaaB8
namespace Go.Proofs.Ytlifioeeooclfaa.Rl
open Go.ChangeShapes Go.WideShapes Go.ChangeAt Go.RowKit Dbl
open Go.Proofs.YtlifioeeooclfaaW.PrintWords Go.Proofs.YtlifioeeooclfaaW.PrintLast Go.Proofs.YtlifioeeooclfaaW.PrintMore
set_option linter.unusedVariables false
set_option linter.unusedSimpArgs false
theorem take_eq_next {ts us : List Nat} {k : Nat} (hn : ts.length = us.length) (hk : k < ts.length) (h : ts.take k = us.take k) : (ts[k] = us[k]'(hn ▸ hk) → ts.take (k + 1) = us.take (k + 1)) ∧ (ts[k] ≠ us[k]'(hn ▸ hk) → ts ≠ us) := by
  have hk' : k < us.length := hn ▸ hk
  constructor
  · intro e
    rw [List.take_succ_eq_append_getElem hk, List.take_succ_eq_append_getElem hk', h, e]
  · intro e he
    subst he
    exact e rfl
theorem cellAt {w : World} {A : Option Addr} {c : Nat} {ts : List Nat} (h : Bt w A c ts) : ∀ (k : Nat) (hk : k < ts.length), ∃ ad, A = some ad ∧ w.cell? (ad.add k) = some (.float .f64 ts[k]) := fun k hk => Hlp.C_at h.r k hk
set_option maxHeartbeats 4000000 in
set_option maxRecDepth 100000 in
theorem equalf_ {A A' : Option Addr} {c c' : Nat} {ts us : List Nat} {w : World} (h : Bt w A c ts) (h' : Bt w A' c' us) :
    Calls Try.prog 37 #[.slice A ts.length c, .slice A' us.length c', .func (.func 38) #[] #[]] w fun e w' => e = .returned (.bool (decide (ts = us))) ∧ w = w' := by
  by_cases hn : ts.length = us.length
  · have HC := Aside0.mk (cellAt h)
    have HC' := Aside0.mk (cellAt h')
    have hm := h.l
    obtain ⟨r, hr⟩ : ∃ r, decide (ts = us) = r := ⟨_, rfl⟩
    rw [hr]
    have HR := Aside0.mk hr
    have HN := Lib.hid hn
    have t0 : ((ts.length : Int) != (us.length : Int)) = false := by rw [bne_eq_false_iff_eq]; omega
    rw [← hn]
    clear h h' hr
    rw [← hn] at t0
    clear hn
    go_enter Try.func37, Try.ntmps37
    go_wp2_with fail
    go_loop [17] (fun i => ∃ k : Nat, k ≤ ts.length ∧ i = .int .i64 k ∧ Aside0 (ts.take k = us.take k)) (fun i => ts.length - (intOf i).toNat)
    case atStart => exact ⟨0, Nat.zero_le _, rfl, ⟨rfl⟩⟩
    case round =>
      obtain ⟨k, hk, rfl, HA⟩ := hrel
      by_cases hlt : k < ts.length
      · obtain ⟨ad, hA, hc1⟩ := HC.out k hlt
        obtain ⟨ad', hA', hc2⟩ := HC'.out k (HN.out ▸ hlt)
        subst hA hA'
        obtain ⟨n1, n2⟩ := take_eq_next HN.out hlt HA.out
        have t1 : decide ((k : Int) < (ts.length : Int)) = true := decide_eq_true (by omega)
        have i0 : (0 : Int) ≤ (k : Int) := by omega
        have i1 : (k : Int) < (ts.length : Int) := by omega
        obtain ⟨x, hx⟩ : ∃ x, ts[k] = x := ⟨_, rfl⟩
        obtain ⟨y, hy⟩ : ∃ y, us[k]'(HN.out ▸ hlt) = y := ⟨_, rfl⟩
        rw [hx] at hc1
        rw [hy] at hc2
        rw [hx, hy] at n1 n2
        clear hx hy
        by_cases he : x = y
        · have HA' := Aside0.mk (n1 he)
          have t2 : ((x : Int) == (y : Int)) = true := beq_iff_eq.2 (by omega)
          clear n1 n2 he
          go_wp2_with (go_at_call 38; (with_reducible refine (same _ _ _).mono ?_); rintro e w' ⟨rfl, rfl⟩)
          go_round
          case rel => exact ⟨k + 1, by omega, by go_num, HA'⟩
          case measure => simp [intOf]; omega
        · have t2 : ((x : Int) == (y : Int)) = false := beq_eq_false_iff_ne.2 (by omega)
          have hr2 : r = false := by rw [← HR.out]; exact decide_eq_false (n2 he)
          subst hr2
          clear n1 n2 he
          go_wp2_with (go_at_call 38; (with_reducible refine (same _ _ _).mono ?_); rintro e w' ⟨rfl, rfl⟩)
          go_ret
          exact ⟨rfl, rfl⟩
      · obtain rfl : k = ts.length := by omega
        have t1 : decide ((ts.length : Int) < (ts.length : Int)) = false := decide_eq_false (by omega)
        have hr2 : r = true := by
          rw [← HR.out]; refine decide_eq_true ?_
          have := HA.out
          rwa [List.take_length, List.take_of_length_le (by rw [HN.out]; exact Nat.le_refl _)] at this
        subst hr2
        go_wp2_with fail
        go_ret
        exact ⟨rfl, rfl⟩
  · have t0 : ((ts.length : Int) != (us.length : Int)) = true := by rw [bne_iff_ne]; omega
    rw [decide_eq_false (fun e => hn (congrArg List.length e))]
    clear hn h h'
    go_enter Try.func37, Try.ntmps37
    go_wp2_with fail
    go_ret
    exact ⟨rfl, rfl⟩
def sameB (a b : Int) (ts us : List Nat) : Bool := decide (a = b ∧ ts = us)
set_option maxHeartbeats 4000000 in
theorem bsame_ {A A' : Option Addr} {c c' : Nat} {a b : Int} {ts us : List Nat} {w : World} (h : Bt w A c ts) (h' : Bt w A' c' us) :
    Calls Try.prog 17 #[.agg #[.int .i64 a, .slice A ts.length c], .agg #[.int .i64 b, .slice A' us.length c']] w fun e w' => e = .returned (.bool (sameB a b ts us)) ∧ Below w.heap.size w w' := by
  have HA := Aside0.mk ((h.alloc (.cells #[.int .i64 a, .slice A ts.length c] 25)).alloc (.cells #[.int .i64 b, .slice A' us.length c'] 25))
  have HA' := Aside0.mk ((h'.alloc (.cells #[.int .i64 a, .slice A ts.length c] 25)).alloc (.cells #[.int .i64 b, .slice A' us.length c'] 25))
  have HB := Aside0.mk (below_alloc (below_alloc (Below.refl w.heap.size w) (.cells #[.int .i64 a, .slice A ts.length c] 25)) (.cells #[.int .i64 b, .slice A' us.length c'] 25))
  have E := Lib.hid (equalf_ HA.out HA'.out)
  clear h h'
  unfold sameB
  by_cases he : a = b
  · subst he
    have t0 : (a == a) = true := beq_self_eq_true a
    rw [show decide (a = a ∧ ts = us) = decide (ts = us) from decide_eq_decide.2 (by simp)]
    generalize decide (ts = us) = r at *
    go_enter Try.func17, Try.ntmps17
    go_wp2_with fail
    (with_reducible refine E.out.mono ?_)
    rintro e w' ⟨rfl, rfl⟩
    go_wp2_with fail
    go_ret
    exact ⟨rfl, HB.out⟩
  · have t0 : (a == b) = false := beq_eq_false_iff_ne.2 he
    rw [decide_eq_false (fun e => he e.1)]
    clear he
    go_enter Try.func17, Try.ntmps17
    go_wp2_with fail
    go_ret
    exact ⟨rfl, HB.out⟩
set_option maxHeartbeats 4000000 in
set_option maxRecDepth 100000 in
theorem rsame_ {A A' : Option Addr} {c c' : Nat} {a b : Int} {ts us : List Nat} {w : World} (h : Bt w A c ts) (h' : Bt w A' c' us) :
    Calls Try.prog 16 #[.agg #[.int .i64 a, .slice A ts.length c], .agg #[.int .i64 b, .slice A' us.length c']] w fun e w' => e = .returned (.bool (sameB a b ts us)) ∧ Below w.heap.size w w' := by
  have h13 := c13
  obtain ⟨W, hW⟩ : ∃ W, W = (w.alloc (.cells #[.int .i64 a, .slice A ts.length c] 25)).alloc (.cells #[.int .i64 b, .slice A' us.length c'] 25) := ⟨_, rfl⟩
  have HA : Aside0 (Bt W A c ts) := ⟨by rw [hW]; exact (h.alloc _).alloc _⟩
  have HA' : Aside0 (Bt W A' c' us) := ⟨by rw [hW]; exact (h'.alloc _).alloc _⟩
  have HB : Aside0 (Below w.heap.size w W) := ⟨by rw [hW]; exact below_alloc (below_alloc (Below.refl _ _) _) _⟩
  have HS1 : (w.alloc (.cells #[.int .i64 a, .slice A ts.length c] 25)).heap.size = w.heap.size + 1 := Array.size_push ..
  have HG : Aside0 (W.heap[w.heap.size]? = some (.cells #[.int .i64 a, .slice A ts.length c] 25 (0, 0))) := ⟨by rw [hW]; exact blk_alloc (blk_new w _) _⟩
  have HZ : Aside0 (W.heap[w.heap.size + 1]? = some (.cells #[.int .i64 b, .slice A' us.length c'] 25 (0, 0))) := ⟨by
    have := blk_new (w.alloc (.cells #[.int .i64 a, .slice A ts.length c] 25)) (.cells #[.int .i64 b, .slice A' us.length c'] 25)
    rw [HS1] at this
    rw [hW]; exact this⟩
  have HW := Lib.hid hW
  have hm := h.l
  clear h h' HS1 hW
  unfold sameB
  by_cases he : a = b
  · subst he
    have t0 : (a != a) = false := by simp
    rw [show decide (a = a ∧ ts = us) = decide (ts = us) from decide_eq_decide.2 (by simp)]
    by_cases hn : ts.length = us.length
    · obtain ⟨r, hr⟩ : ∃ r, decide (ts = us) = r := ⟨_, rfl⟩
      rw [hr]
      have HR := Aside0.mk hr
      have HN := Lib.hid hn
      clear hr
      have t2 : ((ts.length : Int) != (us.length : Int)) = false := by rw [bne_eq_false_iff_eq]; omega
      rw [← hn] at t2 HZ HW ⊢
      clear hn
      go_enter Try.func16, Try.ntmps16
      go_wp2_with fail
      rw [← HW.out]
      have HC := Aside0.mk (cellAt HA.out)
      have HC' := Aside0.mk (cellAt HA'.out)
      go_loopg [5] ts.length (fun q i w' => ∃ k : Nat, k ≤ ts.length ∧ i = .int .i64 k ∧ q = ts.length - k ∧ Aside0 (ts.take k = us.take k) ∧ Aside0 (Drawn0 W w'))
      case atStart => exact ⟨0, Nat.zero_le _, rfl, rfl, ⟨rfl⟩, ⟨Drawn0.refl W⟩⟩
      case round =>
        obtain ⟨k, hk, rfl, rfl, HE, HD⟩ := hrel
        have g1 : wr.cell? ⟨w.heap.size, 1, none⟩ = some (.slice A ts.length c) := (blk_cell (blk_below HG.out HD.out.below) 1).trans rfl
        have g2 : wr.cell? ⟨w.heap.size + 1, 1, none⟩ = some (.slice A' ts.length c') := (blk_cell (blk_below HZ.out HD.out.below) 1).trans rfl
        have HBr := Aside0.mk (below_then HB.out HB.out.size HD.out.below)
        by_cases hlt : k < ts.length
        · obtain ⟨ad, hA, hc1⟩ := HC.out k hlt
          obtain ⟨ad', hA', hc2⟩ := HC'.out k (HN.out ▸ hlt)
          replace hc1 := pw_cell_below HD.out.below hc1
          replace hc2 := pw_cell_below HD.out.below hc2
          subst hA hA'
          obtain ⟨n1, n2⟩ := take_eq_next HN.out hlt HE.out
          have t1 : decide ((k : Int) < (ts.length : Int)) = true := decide_eq_true (by omega)
          have i0 : (0 : Int) ≤ (k : Int) := by omega
          have i1 : (k : Int) < (ts.length : Int) := by omega
          obtain ⟨x, hx⟩ : ∃ x, ts[k] = x := ⟨_, rfl⟩
          obtain ⟨y, hy⟩ : ∃ y, us[k]'(HN.out ▸ hlt) = y := ⟨_, rfl⟩
          rw [hx] at hc1
          rw [hy] at hc2
          rw [hx, hy] at n1 n2
          clear hx hy
          by_cases he : x = y
          · have HA' := Aside0.mk (n1 he)
            have t3 : ((x : Int) != (y : Int)) = false := by rw [bne_eq_false_iff_eq]; omega
            clear n1 n2 he
            go_wp2_with fail
            go_quiet (fail)
            go_wp2_with fail
            go_roundg (ts.length - (k + 1))
            case measure => omega
            case rel => exact ⟨k + 1, by omega, by go_num, rfl, HA', ⟨HD.out.step _⟩⟩
          · have t3 : ((x : Int) != (y : Int)) = true := by rw [bne_iff_ne]; omega
            have hr2 : r = false := by rw [← HR.out]; exact decide_eq_false (n2 he)
            subst hr2
            clear n1 n2 he
            go_wp2_with fail
            go_quiet (fail)
            go_wp2_with fail
            go_ret
            exact ⟨rfl, pw_below_drewN HBr.out _⟩
        · obtain rfl : k = ts.length := by omega
          have t1 : decide ((ts.length : Int) < (ts.length : Int)) = false := decide_eq_false (by omega)
          have hr2 : r = true := by
            rw [← HR.out]; refine decide_eq_true ?_
            have := HE.out
            rwa [List.take_length, List.take_of_length_le (by rw [HN.out]; exact Nat.le_refl _)] at this
          subst hr2
          go_wp2_with fail
          go_ret
          exact ⟨rfl, HBr.out⟩
    · rw [decide_eq_false (fun e => hn (congrArg List.length e))]
      have t2 : ((ts.length : Int) != (us.length : Int)) = true := by rw [bne_iff_ne]; omega
      clear hn
      rw [HW.out] at HB
      go_enter Try.func16, Try.ntmps16
      go_wp2_with fail
      go_ret
      exact ⟨rfl, HB.out⟩
  · have t0 : (a != b) = true := by rw [bne_iff_ne]; exact he
    rw [decide_eq_false (fun e => he e.1)]
    clear he
    rw [HW.out] at HB
    go_enter Try.func16, Try.ntmps16
    go_wp2_with fail
    go_ret
    exact ⟨rfl, HB.out⟩
end Go.Proofs.Ytlifioeeooclfaa.Rl
