/- Contracts of icehouseref15.Check, beat.right and icehouseref15.Right. Conditions: a list that fits in memory, words of 64 bits. -/
import Derived.Test.YtlifioeeooclfaaB1
namespace Go.Proofs.Ytlifioeeooclfaa.Rl
open Go.ChangeShapes Go.WideShapes Go.ChangeAt Go.RowKit Dbl
open Go.Proofs.YtlifioeeooclfaaW.PrintWords Go.Proofs.YtlifioeeooclfaaW.PrintLast Go.Proofs.YtlifioeeooclfaaW.PrintMore
set_option linter.unusedVariables false
set_option linter.unusedSimpArgs false
theorem fine_kind {x : Nat} (h : x < full) : x < inf ↔ x < top ∧ kindU x ≤ 1 := by
  rw [fine_iff h]
  have h3 := kind_nan (a := x)
  have h2 := kind_inf (a := x)
  have hp := kind_pos x
  constructor
  · rintro ⟨a, b, c⟩
    have : kindU x ≠ 3 := fun e => a (h3.1 e)
    have : kindU x ≠ 2 := fun e => b (h2.1 e)
    exact ⟨c, by omega⟩
  · rintro ⟨c, d⟩
    exact ⟨fun e => (by have := h3.2 e; omega), fun e => (by have := h2.2 e; omega), c⟩
set_option maxHeartbeats 4000000 in
set_option maxRecDepth 100000 in
theorem rcheck_ (A : Option Addr) (c : Nat) (last : Int) (ts : List Nat) (w : World) (hr : Kd.C Opn.flt w A ts.length ts) (hc : ts.length ≤ c) (hl : ts.length ≤ 17592186044415) (hw : ∀ x ∈ ts, x < full) :
    Calls Try.prog 24 #[.agg #[.int .i64 last, .slice A ts.length c]] w fun e w' => e = .returned (.int .i64 (errB last ts)) ∧ Below w.heap.size w w' := by
  have h13 := c13
  have HC : Aside0 (∀ (k : Nat) (hk : k < ts.length), ∃ b off, A = some ⟨b, off, none⟩ ∧ (w.alloc (.cells #[.int .i64 last, .slice A ts.length c] 25)).cell? ⟨b, off + k, none⟩ = some (.float .f64 ts[k])) := ⟨fun k hk => by
    obtain ⟨b, off, hA, hcell⟩ := Hlp.C_block (Kd.C_alloc hr (.cells #[.int .i64 last, .slice A ts.length c] 25)) (by omega)
    exact ⟨b, off, hA, hcell k hk⟩⟩
  have HW := Aside0.mk hw
  have HB := Aside0.mk (below_alloc (Below.refl w.heap.size w) (.cells #[.int .i64 last, .slice A ts.length c] 25))
  obtain ⟨r, hr2⟩ : ∃ r, errB last ts = r := ⟨_, rfl⟩
  have HE : Aside0 (r = if okB last ts then 0 else 2) := ⟨hr2.symm⟩
  rw [hr2]
  clear hr hw hr2
  by_cases h1 : last < 0
  · have hr2 : r = 2 := by rw [HE.out, if_neg (fun o => by have := o.1; omega)]
    subst hr2
    have t1 := decide_eq_true h1
    go_enter Try.func24, Try.ntmps24
    go_wp2_with fail
    go_ret
    exact ⟨rfl, HB.out⟩
  have t1 : decide (last < 0) = false := decide_eq_false h1
  by_cases h2 : 1099511627775 < last
  · have hr2 : r = 2 := by rw [HE.out, if_neg (fun o => by have := o.2.1; omega)]
    subst hr2
    have t2 := decide_eq_true h2
    go_enter Try.func24, Try.ntmps24
    go_wp2_with fail
    go_ret
    exact ⟨rfl, HB.out⟩
  have t2 : decide (1099511627775 < last) = false := decide_eq_false h2
  by_cases h3 : 16 < ts.length
  · have hr2 : r = 2 := by rw [HE.out, if_neg (fun o => by have := o.2.2.1; omega)]
    subst hr2
    have t3 : decide ((16 : Int) < (ts.length : Int)) = true := decide_eq_true (by omega)
    go_enter Try.func24, Try.ntmps24
    go_wp2_with fail
    go_ret
    exact ⟨rfl, HB.out⟩
  have t3 : decide ((16 : Int) < (ts.length : Int)) = false := decide_eq_false (by omega)
  go_enter Try.func24, Try.ntmps24
  go_wp2_with fail
  go_loop [3] (fun i => ∃ k : Nat, k ≤ ts.length ∧ i = .int .i64 k ∧ Aside0 (∀ x ∈ ts.take k, x < inf)) (fun i => ts.length - (intOf i).toNat)
  case atStart => exact ⟨0, Nat.zero_le _, rfl, ⟨by simp⟩⟩
  case round =>
    obtain ⟨k, hk, rfl, HA⟩ := hrel
    by_cases hlt : k < ts.length
    · obtain ⟨b, off, hA, hcell⟩ := HC.out k hlt
      subst hA
      have HX := Aside0.mk (HW.out _ (List.getElem_mem hlt))
      have HN := Aside0.mk (fun h : ¬ ts[k] < inf => show r = 2 from by rw [HE.out, if_neg (fun o => h (o.2.2.2 _ (List.getElem_mem hlt)))])
      have HT := Aside0.mk (fun h : ts[k] < inf => show ∀ x ∈ ts.take (k + 1), x < inf from by
        intro y hy
        rw [List.take_succ_eq_append_getElem hlt] at hy
        rcases List.mem_append.1 hy with hy | hy
        · exact HA.out y hy
        · rw [List.mem_singleton.1 hy]; exact h)
      have t4 : decide ((k : Int) < (ts.length : Int)) = true := decide_eq_true (by omega)
      generalize ts[k] = x at *
      by_cases n1 : x < top
      · have t5 : decide ((9223372036854775808 : Int) ≤ (x : Int)) = false := decide_eq_false (by unfold top at n1; omega)
        obtain ⟨v, hv⟩ : ∃ v, kindU x = v := ⟨_, rfl⟩
        have K0 := Lib.hid (fun w => kind_n HX.out hv w)
        by_cases n2 : v ≤ 1
        · have HA' := Aside0.mk (HT.out ((fine_kind HX.out).2 ⟨n1, by omega⟩))
          have t6 : decide (1 < v) = false := decide_eq_false (by omega)
          clear n1 n2 hv
          go_wp2_with (go_at_call 25; (with_reducible refine (K0.out _).mono ?_); rintro e w' ⟨rfl, rfl⟩)
          go_round
          case rel => exact ⟨k + 1, by omega, by go_num, HA'⟩
          case measure => simp [intOf]; omega
        · have hr2 := HN.out (fun h => by have := ((fine_kind HX.out).1 h).2; omega)
          subst hr2
          have t6 : decide (1 < v) = true := decide_eq_true (by omega)
          clear n1 n2 hv
          go_wp2_with (go_at_call 25; (with_reducible refine (K0.out _).mono ?_); rintro e w' ⟨rfl, rfl⟩)
          go_ret
          exact ⟨rfl, HB.out⟩
      · have hr2 := HN.out (fun h => by have := ((fine_kind HX.out).1 h).1; omega)
        subst hr2
        have t5 : decide ((9223372036854775808 : Int) ≤ (x : Int)) = true := decide_eq_true (by unfold top at n1; omega)
        clear n1
        go_wp2_with fail
        go_ret
        exact ⟨rfl, HB.out⟩
    · obtain rfl : k = ts.length := by omega
      have t4 : decide ((ts.length : Int) < (ts.length : Int)) = false := decide_eq_false (by omega)
      have hr2 : r = 0 := by rw [HE.out, if_pos ⟨by omega, by omega, by omega, fun x hx => HA.out x (by rw [List.take_length]; exact hx)⟩]
      subst hr2
      go_wp2_with fail
      go_ret
      exact ⟨rfl, HB.out⟩
/-- may it be asked now -/
def okN (last : Int) (ts : List Nat) (now : Int) : Prop := okB last ts ∧ last ≤ now ∧ now ≤ 1099511627775
instance (last : Int) (ts : List Nat) (now : Int) : Decidable (okN last ts now) := by unfold okN; exact inferInstance
def errN (last : Int) (ts : List Nat) (now : Int) : Int := if okN last ts now then 0 else 2
theorem errB_cases (last : Int) (ts : List Nat) : (okB last ts ∧ errB last ts = 0) ∨ (¬ okB last ts ∧ errB last ts = 2) := by
  unfold errB; by_cases h : okB last ts
  · exact .inl ⟨h, if_pos h⟩
  · exact .inr ⟨h, if_neg h⟩
theorem errN_yes {last : Int} {ts : List Nat} {now : Int} (h : okN last ts now) : errN last ts now = 0 := if_pos h
theorem errN_no {last : Int} {ts : List Nat} {now : Int} (h : ¬ okN last ts now) : errN last ts now = 2 := if_neg h
set_option maxHeartbeats 2000000 in
theorem right_ (A : Option Addr) (c : Nat) (last : Int) (ts : List Nat) (now : Int) (w : World) (hr : Kd.C Opn.flt w A ts.length ts) (hc : ts.length ≤ c) (hl : ts.length ≤ 17592186044415) (hw : ∀ x ∈ ts, x < full) :
    Calls Try.prog 31 #[.agg #[.int .i64 last, .slice A ts.length c], .int .i64 now] w fun e w' => e = .returned (.int .i64 (errN last ts now)) ∧ Below w.heap.size w w' := by
  have HB := Aside0.mk (below_alloc (Below.refl w.heap.size w) (.cells #[.int .i64 last, .slice A ts.length c] 25))
  have K := Lib.hid (check_ A c last ts _ (Kd.C_alloc hr (.cells #[.int .i64 last, .slice A ts.length c] 25)) hc hl hw)
  have W0 := Lib.hid (fun w => within_ now w)
  have HG := Aside0.mk (blk_new w (.cells #[.int .i64 last, .slice A ts.length c] 25))
  clear hr hw
  rcases errB_cases last ts with ⟨ho, he⟩ | ⟨ho, he⟩
  · rw [he] at K
    by_cases h1 : 0 ≤ now ∧ now ≤ 1099511627775
    · rw [decide_eq_true h1] at W0
      have hf : errN last ts now = if now < last then 2 else 0 := by
        by_cases h : now < last
        · rw [if_pos h, errN_no (fun o => by have := o.2.1; omega)]
        · rw [if_neg h, errN_yes ⟨ho, by omega, h1.2⟩]
      obtain ⟨r, hr2⟩ : ∃ r, errN last ts now = r := ⟨_, rfl⟩
      rw [hr2] at hf ⊢
      have HF := Aside0.mk hf
      clear hf he ho h1 hr2
      go_enter Try.func31, Try.ntmps31
      go_wp2_with fail
      (with_reducible refine K.out.mono ?_)
      rintro e w1 ⟨rfl, hb⟩
      have HB := Aside0.mk (below_then HB.out HB.out.size hb)
      have hcell : w1.cell? ⟨w.heap.size, 0, none⟩ = some (.int .i64 last) := (blk_cell (blk_below HG.out hb) 0).trans rfl
      clear hb
      by_cases h : now < last
      · have t1 := decide_eq_true h
        have hr2 : r = 2 := by rw [HF.out, if_pos h]
        subst hr2
        go_wp2_with (go_at_call 30; (with_reducible refine (W0.out _).mono ?_); rintro e w' ⟨rfl, rfl⟩)
        go_ret
        exact ⟨rfl, HB.out⟩
      · have t1 := decide_eq_false h
        have hr2 : r = 0 := by rw [HF.out, if_neg h]
        subst hr2
        go_wp2_with (go_at_call 30; (with_reducible refine (W0.out _).mono ?_); rintro e w' ⟨rfl, rfl⟩)
        go_ret
        exact ⟨rfl, HB.out⟩
    · rw [decide_eq_false h1] at W0
      have hf : errN last ts now = 2 := if_neg (fun o => h1 ⟨by have := o.2.1; have := ho.1; omega, o.2.2⟩)
      rw [hf]
      clear hf he ho h1
      go_enter Try.func31, Try.ntmps31
      go_wp2_with fail
      (with_reducible refine K.out.mono ?_)
      rintro e w1 ⟨rfl, hb⟩
      have HB := Aside0.mk (below_then HB.out HB.out.size hb)
      clear hb
      go_wp2_with (go_at_call 30; (with_reducible refine (W0.out _).mono ?_); rintro e w' ⟨rfl, rfl⟩)
      go_ret
      exact ⟨rfl, HB.out⟩
  · rw [he] at K
    have hf : errN last ts now = 2 := if_neg (fun o => ho o.1)
    rw [hf]
    clear hf he ho
    go_enter Try.func31, Try.ntmps31
    go_wp2_with fail
    (with_reducible refine K.out.mono ?_)
    rintro e w1 ⟨rfl, hb⟩
    have HB := Aside0.mk (below_then HB.out HB.out.size hb)
    clear hb
    go_wp2_with fail
    go_ret
    exact ⟨rfl, HB.out⟩
set_option maxHeartbeats 2000000 in
theorem rright_ (A : Option Addr) (c : Nat) (last : Int) (ts : List Nat) (now : Int) (w : World) (hr : Kd.C Opn.flt w A ts.length ts) (hc : ts.length ≤ c) (hl : ts.length ≤ 17592186044415) (hw : ∀ x ∈ ts, x < full) :
    Calls Try.prog 36 #[.agg #[.int .i64 last, .slice A ts.length c], .int .i64 now] w fun e w' => e = .returned (.int .i64 (errN last ts now)) ∧ Below w.heap.size w w' := by
  have HB := Aside0.mk (below_alloc (Below.refl w.heap.size w) (.cells #[.int .i64 last, .slice A ts.length c] 25))
  have K := Lib.hid (rcheck_ A c last ts _ (Kd.C_alloc hr (.cells #[.int .i64 last, .slice A ts.length c] 25)) hc hl hw)
  have HG := Aside0.mk (blk_new w (.cells #[.int .i64 last, .slice A ts.length c] 25))
  clear hr hw
  rcases errB_cases last ts with ⟨ho, he⟩ | ⟨ho, he⟩
  · rw [he] at K
    have hf : errN last ts now = if now < last then 2 else if 1099511627775 < now then 2 else 0 := by
      by_cases h : now < last
      · rw [if_pos h, errN_no (fun o => by have := o.2.1; omega)]
      · rw [if_neg h]
        by_cases h' : 1099511627775 < now
        · rw [if_pos h', errN_no (fun o => by have := o.2.2; omega)]
        · rw [if_neg h', errN_yes ⟨ho, by omega, by omega⟩]
    obtain ⟨r, hr2⟩ : ∃ r, errN last ts now = r := ⟨_, rfl⟩
    rw [hr2] at hf ⊢
    have HF := Aside0.mk hf
    clear hf he ho hr2
    go_enter Try.func36, Try.ntmps36
    go_wp2_with fail
    (with_reducible refine K.out.mono ?_)
    rintro e w1 ⟨rfl, hb⟩
    have HB := Aside0.mk (below_then HB.out HB.out.size hb)
    have hcell : w1.cell? ⟨w.heap.size, 0, none⟩ = some (.int .i64 last) := (blk_cell (blk_below HG.out hb) 0).trans rfl
    clear hb
    by_cases h : now < last
    · have t1 := decide_eq_true h
      have hr2 : r = 2 := by rw [HF.out, if_pos h]
      subst hr2
      go_wp2_with fail
      go_ret
      exact ⟨rfl, HB.out⟩
    · have t1 := decide_eq_false h
      by_cases h' : 1099511627775 < now
      · have t2 := decide_eq_true h'
        have hr2 : r = 2 := by rw [HF.out, if_neg h, if_pos h']
        subst hr2
        go_wp2_with fail
        go_ret
        exact ⟨rfl, HB.out⟩
      · have t2 := decide_eq_false h'
        have hr2 : r = 0 := by rw [HF.out, if_neg h, if_neg h']
        subst hr2
        go_wp2_with fail
        go_ret
        exact ⟨rfl, HB.out⟩
  · rw [he] at K
    have hf : errN last ts now = 2 := if_neg (fun o => ho o.1)
    rw [hf]
    clear hf he ho
    go_enter Try.func36, Try.ntmps36
    go_wp2_with fail
    (with_reducible refine K.out.mono ?_)
    rintro e w1 ⟨rfl, hb⟩
    have HB := Aside0.mk (below_then HB.out HB.out.size hb)
    clear hb
    go_wp2_with fail
    go_ret
    exact ⟨rfl, HB.out⟩
end Go.Proofs.Ytlifioeeooclfaa.Rl
