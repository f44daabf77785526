/- Contracts of beat.Check and icehouseref15.Check. Conditions: a list that fits in memory, words of 64 bits. -/
import Derived.Test.YtlifioeeooclfaaC9
import Derived.WalkMore
namespace Go.Proofs.Ytlifioeeooclfaa.Rl
open Go.ChangeShapes Go.WideShapes Go.ChangeAt Go.RowKit Dbl
open Go.Proofs.YtlifioeeooclfaaW.PrintWords Go.Proofs.YtlifioeeooclfaaW.PrintLast Go.Proofs.YtlifioeeooclfaaW.PrintMore
set_option linter.unusedVariables false
set_option linter.unusedSimpArgs false
/-- may it be -/
def okB (last : Int) (ts : List Nat) : Prop := 0 ≤ last ∧ last ≤ 1099511627775 ∧ ts.length ≤ 16 ∧ ∀ x ∈ ts, x < inf
instance (last : Int) (ts : List Nat) : Decidable (okB last ts) := by unfold okB; exact inferInstance
def errB (last : Int) (ts : List Nat) : Int := if okB last ts then 0 else 2
theorem fine_iff {x : Nat} (h : x < full) : x < inf ↔ ¬ inf < rung x ∧ rung x ≠ inf ∧ x < top := by
  have h1 := inf_lt_top
  unfold rung at *
  constructor
  · intro hx
    rw [Nat.mod_eq_of_lt (by omega)]; omega
  · rintro ⟨h2, h3, h4⟩
    rw [Nat.mod_eq_of_lt h4] at h2 h3; omega
set_option maxHeartbeats 1000000 in
theorem within_ (t : Int) (w : World) : Calls Try.prog 30 #[.int .i64 t] w fun e w' => e = .returned (.bool (decide (0 ≤ t ∧ t ≤ 1099511627775))) ∧ w = w' := by
  have hp : decide (0 ≤ t ∧ t ≤ 1099511627775) = (decide (0 ≤ t) && decide (t ≤ 1099511627775)) := Bool.decide_and ..
  rw [hp]
  clear hp
  go_enter Try.func30, Try.ntmps30
  go_wp2
  all_goals
    go_ret
    exact ⟨ret_b (by simp; omega), rfl⟩
theorem sign_wrap {x : Nat} (h : x < full) : decide (wrap64 (x : Int) < 0) = decide (top ≤ x) := by
  apply decide_eq_decide.2
  unfold wrap64 top; unfold full at h; omega
theorem signbit_ (x : Nat) (h : x < full) (w : World) : Calls Try.prog 40 #[.float .f64 x] w fun e w' => e = .returned (.bool (decide (top ≤ x))) ∧ w = w' := by
  have h13 := c13
  have HS := Lib.hid (sign_wrap h)
  clear h
  go_enter Try.func40, Try.ntmps40
  go_wp2
  go_ret
  exact ⟨ret_b HS.out, rfl⟩
set_option maxHeartbeats 8000000 in
set_option maxRecDepth 100000 in
theorem check_ (A : Option Addr) (c : Nat) (last : Int) (ts : List Nat) (w : World) (hr : Kd.C Opn.flt w A ts.length ts) (hc : ts.length ≤ c) (hl : ts.length ≤ 17592186044415) (hw : ∀ x ∈ ts, x < full) :
    Calls Try.prog 18 #[.agg #[.int .i64 last, .slice A ts.length c]] w fun e w' => e = .returned (.int .i64 (errB last ts)) ∧ Below w.heap.size w w' := by
  have HC : Aside0 (∀ (k : Nat) (hk : k < ts.length), ∃ b off, A = some ⟨b, off, none⟩ ∧ (w.alloc (.cells #[.int .i64 last, .slice A ts.length c] 25)).cell? ⟨b, off + k, none⟩ = some (.float .f64 ts[k])) := ⟨fun k hk => by
    obtain ⟨b, off, hA, hcell⟩ := Hlp.C_block (Kd.C_alloc hr (.cells #[.int .i64 last, .slice A ts.length c] 25)) (by omega)
    exact ⟨b, off, hA, hcell k hk⟩⟩
  have HW := Aside0.mk hw
  have HB := Aside0.mk (below_alloc (Below.refl w.heap.size w) (.cells #[.int .i64 last, .slice A ts.length c] 25))
  have W0 := Lib.hid (fun w => within_ last w)
  obtain ⟨r, hr2⟩ : ∃ r, errB last ts = r := ⟨_, rfl⟩
  have HE : Aside0 (r = if okB last ts then 0 else 2) := ⟨hr2.symm⟩
  rw [hr2]
  clear hr hw hr2
  by_cases h1 : 0 ≤ last ∧ last ≤ 1099511627775
  · rw [decide_eq_true h1] at W0
    by_cases h2 : ts.length ≤ 16
    · have t1 : decide ((ts.length : Int) ≤ 16) = true := decide_eq_true (by omega)
      go_enter Try.func18, Try.ntmps18
      go_wp2
      go_step3
      go_wp2_with (go_at_call 30; (with_reducible refine (W0.out _).mono ?_); rintro e w' ⟨rfl, rfl⟩)
      go_step3
      go_wp2
      go_loop [3, 18] (fun o i => ∃ k : Nat, k ≤ ts.length ∧ i = .int .i64 k ∧ o = .bool true ∧ Aside0 (∀ x ∈ ts.take k, x < inf)) (fun _ i => ts.length - (intOf i).toNat)
      case atStart => exact ⟨0, Nat.zero_le _, rfl, rfl, ⟨by simp⟩⟩
      case round =>
        obtain ⟨k, hk, rfl, rfl, HA⟩ := hrel
        by_cases hlt : k < ts.length
        · obtain ⟨b, off, hA, hcell⟩ := HC.out k hlt
          subst hA
          have HX := Aside0.mk (HW.out _ (List.getElem_mem hlt))
          have HN := Aside0.mk (fun h : ¬ ts[k] < inf => show r = 2 from by rw [HE.out, if_neg (fun o => h (o.2.2.2 _ (List.getElem_mem hlt)))])
          have HT := Aside0.mk (fun h : ts[k] < inf => show ∀ x ∈ ts.take (k + 1), x < inf from by
            intro y hy
            rw [List.take_succ_eq_append_getElem hlt] at hy
            rcases List.mem_append.1 hy with hy | hy
            · exact HA.out y hy
            · rw [List.mem_singleton.1 hy]; exact h)
          have t2 : decide ((k : Int) < (ts.length : Int)) = true := decide_eq_true (by omega)
          generalize ts[k] = x at *
          by_cases n1 : inf < rung x
          · have hr2 := HN.out (fun h => ((fine_iff HX.out).1 h).1 n1)
            subst hr2
            have h1 := self_nan n1
            clear n1
            go_wp2_with fail
            (try rw [Exit.noGoto_ret])
            go_ret
            exact ⟨rfl, HB.out⟩
          have h1 := self_num (a := x) (by omega)
          have I0 := Lib.hid (fun w => isinf0 x HX.out w)
          by_cases n2 : rung x = inf
          · have hr2 := HN.out (fun h => ((fine_iff HX.out).1 h).2.1 n2)
            subst hr2
            rw [decide_eq_true n2] at I0
            clear n1 n2
            go_wp2_with (go_at_call 39; (with_reducible refine (I0.out _).mono ?_); rintro e w' ⟨rfl, rfl⟩)
            (try rw [Exit.noGoto_ret])
            go_ret
            exact ⟨rfl, HB.out⟩
          rw [decide_eq_false n2] at I0
          have S0 := Lib.hid (fun w => signbit_ x HX.out w)
          by_cases n3 : top ≤ x
          · have hr2 := HN.out (fun h => by have := ((fine_iff HX.out).1 h).2.2; omega)
            subst hr2
            rw [decide_eq_true n3] at S0
            clear n1 n2 n3
            go_wp2_with (first | (go_at_call 39; (with_reducible refine (I0.out _).mono ?_); rintro e w' ⟨rfl, rfl⟩) | (go_at_call 40; (with_reducible refine (S0.out _).mono ?_); rintro e w' ⟨rfl, rfl⟩))
            (try rw [Exit.noGoto_ret])
            go_ret
            exact ⟨rfl, HB.out⟩
          · have HA' := Aside0.mk (HT.out ((fine_iff HX.out).2 ⟨n1, n2, by omega⟩))
            rw [decide_eq_false n3] at S0
            clear n1 n2 n3
            go_wp2_with (first | (go_at_call 39; (with_reducible refine (I0.out _).mono ?_); rintro e w' ⟨rfl, rfl⟩) | (go_at_call 40; (with_reducible refine (S0.out _).mono ?_); rintro e w' ⟨rfl, rfl⟩))
            go_round
            case rel => exact ⟨k + 1, by omega, by go_num, rfl, HA'⟩
            case measure => simp [intOf]; omega
        · obtain rfl : k = ts.length := by omega
          have t2 : decide ((ts.length : Int) < (ts.length : Int)) = false := decide_eq_false (by omega)
          have hr2 : r = 0 := by rw [HE.out, if_pos ⟨h1.1, h1.2, h2, fun x hx => HA.out x (by rw [List.take_length]; exact hx)⟩]
          subst hr2
          go_wp2_with fail
          (try rw [Exit.noGoto_ret])
          go_ret
          exact ⟨rfl, HB.out⟩
    · have t1 : decide ((ts.length : Int) ≤ 16) = false := decide_eq_false (by omega)
      have HO : Aside0 (¬ okB last ts) := ⟨fun o => h2 o.2.2.1⟩
      go_enter Try.func18, Try.ntmps18
      go_wp2
      go_step3
      go_wp2_with (go_at_call 30; (with_reducible refine (W0.out _).mono ?_); rintro e w' ⟨rfl, rfl⟩)
      go_step3
      go_wp2
      go_loop [3, 18] (fun o i => ∃ k : Nat, k ≤ ts.length ∧ i = .int .i64 k ∧ o = .bool false ∧ Aside0 (∀ x ∈ ts.take k, x < inf)) (fun _ i => ts.length - (intOf i).toNat)
      case atStart => exact ⟨0, Nat.zero_le _, rfl, rfl, ⟨by simp⟩⟩
      case round =>
        obtain ⟨k, hk, rfl, rfl, HA⟩ := hrel
        by_cases hlt : k < ts.length
        · obtain ⟨b, off, hA, hcell⟩ := HC.out k hlt
          subst hA
          have HX := Aside0.mk (HW.out _ (List.getElem_mem hlt))
          have HN := Aside0.mk (fun h : ¬ ts[k] < inf => show r = 2 from by rw [HE.out, if_neg (fun o => h (o.2.2.2 _ (List.getElem_mem hlt)))])
          have HT := Aside0.mk (fun h : ts[k] < inf => show ∀ x ∈ ts.take (k + 1), x < inf from by
            intro y hy
            rw [List.take_succ_eq_append_getElem hlt] at hy
            rcases List.mem_append.1 hy with hy | hy
            · exact HA.out y hy
            · rw [List.mem_singleton.1 hy]; exact h)
          have t2 : decide ((k : Int) < (ts.length : Int)) = true := decide_eq_true (by omega)
          generalize ts[k] = x at *
          by_cases n1 : inf < rung x
          · have hr2 := HN.out (fun h => ((fine_iff HX.out).1 h).1 n1)
            subst hr2
            have h1 := self_nan n1
            clear n1
            go_wp2_with fail
            (try rw [Exit.noGoto_ret])
            go_ret
            exact ⟨rfl, HB.out⟩
          have h1 := self_num (a := x) (by omega)
          have I0 := Lib.hid (fun w => isinf0 x HX.out w)
          by_cases n2 : rung x = inf
          · have hr2 := HN.out (fun h => ((fine_iff HX.out).1 h).2.1 n2)
            subst hr2
            rw [decide_eq_true n2] at I0
            clear n1 n2
            go_wp2_with (go_at_call 39; (with_reducible refine (I0.out _).mono ?_); rintro e w' ⟨rfl, rfl⟩)
            (try rw [Exit.noGoto_ret])
            go_ret
            exact ⟨rfl, HB.out⟩
          rw [decide_eq_false n2] at I0
          have S0 := Lib.hid (fun w => signbit_ x HX.out w)
          by_cases n3 : top ≤ x
          · have hr2 := HN.out (fun h => by have := ((fine_iff HX.out).1 h).2.2; omega)
            subst hr2
            rw [decide_eq_true n3] at S0
            clear n1 n2 n3
            go_wp2_with (first | (go_at_call 39; (with_reducible refine (I0.out _).mono ?_); rintro e w' ⟨rfl, rfl⟩) | (go_at_call 40; (with_reducible refine (S0.out _).mono ?_); rintro e w' ⟨rfl, rfl⟩))
            (try rw [Exit.noGoto_ret])
            go_ret
            exact ⟨rfl, HB.out⟩
          · have HA' := Aside0.mk (HT.out ((fine_iff HX.out).2 ⟨n1, n2, by omega⟩))
            rw [decide_eq_false n3] at S0
            clear n1 n2 n3
            go_wp2_with (first | (go_at_call 39; (with_reducible refine (I0.out _).mono ?_); rintro e w' ⟨rfl, rfl⟩) | (go_at_call 40; (with_reducible refine (S0.out _).mono ?_); rintro e w' ⟨rfl, rfl⟩))
            go_round
            case rel => exact ⟨k + 1, by omega, by go_num, rfl, HA'⟩
            case measure => simp [intOf]; omega
        · obtain rfl : k = ts.length := by omega
          have t2 : decide ((ts.length : Int) < (ts.length : Int)) = false := decide_eq_false (by omega)
          have hr2 : r = 2 := by rw [HE.out, if_neg HO.out]
          subst hr2
          go_wp2_with fail
          (try rw [Exit.noGoto_ret])
          go_ret
          exact ⟨rfl, HB.out⟩
  · have HO : Aside0 (¬ okB last ts) := ⟨fun o => h1 ⟨o.1, o.2.1⟩⟩
    rw [decide_eq_false h1] at W0
    go_enter Try.func18, Try.ntmps18
    go_wp2
    go_step3
    go_wp2_with (go_at_call 30; (with_reducible refine (W0.out _).mono ?_); rintro e w' ⟨rfl, rfl⟩)
    go_step3
    go_wp2
    go_loop [3, 18] (fun o i => ∃ k : Nat, k ≤ ts.length ∧ i = .int .i64 k ∧ o = .bool false ∧ Aside0 (∀ x ∈ ts.take k, x < inf)) (fun _ i => ts.length - (intOf i).toNat)
    case atStart => exact ⟨0, Nat.zero_le _, rfl, rfl, ⟨by simp⟩⟩
    case round =>
      obtain ⟨k, hk, rfl, rfl, HA⟩ := hrel
      by_cases hlt : k < ts.length
      · obtain ⟨b, off, hA, hcell⟩ := HC.out k hlt
        subst hA
        have HX := Aside0.mk (HW.out _ (List.getElem_mem hlt))
        have HN := Aside0.mk (fun h : ¬ ts[k] < inf => show r = 2 from by rw [HE.out, if_neg (fun o => h (o.2.2.2 _ (List.getElem_mem hlt)))])
        have HT := Aside0.mk (fun h : ts[k] < inf => show ∀ x ∈ ts.take (k + 1), x < inf from by
          intro y hy
          rw [List.take_succ_eq_append_getElem hlt] at hy
          rcases List.mem_append.1 hy with hy | hy
          · exact HA.out y hy
          · rw [List.mem_singleton.1 hy]; exact h)
        have t2 : decide ((k : Int) < (ts.length : Int)) = true := decide_eq_true (by omega)
        generalize ts[k] = x at *
        by_cases n1 : inf < rung x
        · have hr2 := HN.out (fun h => ((fine_iff HX.out).1 h).1 n1)
          subst hr2
          have h1 := self_nan n1
          clear n1
          go_wp2_with fail
          (try rw [Exit.noGoto_ret])
          go_ret
          exact ⟨rfl, HB.out⟩
        have h1 := self_num (a := x) (by omega)
        have I0 := Lib.hid (fun w => isinf0 x HX.out w)
        by_cases n2 : rung x = inf
        · have hr2 := HN.out (fun h => ((fine_iff HX.out).1 h).2.1 n2)
          subst hr2
          rw [decide_eq_true n2] at I0
          clear n1 n2
          go_wp2_with (go_at_call 39; (with_reducible refine (I0.out _).mono ?_); rintro e w' ⟨rfl, rfl⟩)
          (try rw [Exit.noGoto_ret])
          go_ret
          exact ⟨rfl, HB.out⟩
        rw [decide_eq_false n2] at I0
        have S0 := Lib.hid (fun w => signbit_ x HX.out w)
        by_cases n3 : top ≤ x
        · have hr2 := HN.out (fun h => by have := ((fine_iff HX.out).1 h).2.2; omega)
          subst hr2
          rw [decide_eq_true n3] at S0
          clear n1 n2 n3
          go_wp2_with (first | (go_at_call 39; (with_reducible refine (I0.out _).mono ?_); rintro e w' ⟨rfl, rfl⟩) | (go_at_call 40; (with_reducible refine (S0.out _).mono ?_); rintro e w' ⟨rfl, rfl⟩))
          (try rw [Exit.noGoto_ret])
          go_ret
          exact ⟨rfl, HB.out⟩
        · have HA' := Aside0.mk (HT.out ((fine_iff HX.out).2 ⟨n1, n2, by omega⟩))
          rw [decide_eq_false n3] at S0
          clear n1 n2 n3
          go_wp2_with (first | (go_at_call 39; (with_reducible refine (I0.out _).mono ?_); rintro e w' ⟨rfl, rfl⟩) | (go_at_call 40; (with_reducible refine (S0.out _).mono ?_); rintro e w' ⟨rfl, rfl⟩))
          go_round
          case rel => exact ⟨k + 1, by omega, by go_num, rfl, HA'⟩
          case measure => simp [intOf]; omega
      · obtain rfl : k = ts.length := by omega
        have t2 : decide ((ts.length : Int) < (ts.length : Int)) = false := decide_eq_false (by omega)
        have hr2 : r = 2 := by rw [HE.out, if_neg HO.out]
        subst hr2
        go_wp2_with fail
        (try rw [Exit.noGoto_ret])
        go_ret
        exact ⟨rfl, HB.out⟩
end Go.Proofs.Ytlifioeeooclfaa.Rl
