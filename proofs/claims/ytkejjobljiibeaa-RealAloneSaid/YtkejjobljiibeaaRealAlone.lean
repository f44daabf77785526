/- The walk of the law RealAlone, for every word. No condition. -/
import Derived.Test.YtkejjobljiibeaaC9
namespace Go.Proofs.Ytkejjobljiibeaa.Rl
open Go.ChangeShapes Go.WideShapes Go.ChangeAt Go.RowKit Dbl
open Go.Proofs.YtkejjobljiibeaaW.PrintWords Go.Proofs.YtkejjobljiibeaaW.PrintLast Go.Proofs.YtkejjobljiibeaaW.PrintMore
set_option linter.unusedVariables false
set_option linter.unusedSimpArgs false
theorem mean_alone {x : Nat} (h : x < full) (hn : rung x ≤ inf) : meanR [x] = (canonU x, 0) := by
  have e : sumO [x] = some (canonU x) := by
    show Ieee.double.add 0 x = _
    rw [add_zero h hn]
    unfold canonU
    by_cases h0 : rung x = 0
    · rw [if_pos h0, if_pos h0]
    · rw [if_neg h0, if_neg h0, if_neg (by omega)]
  have hc : rung (canonU x) ≤ inf := by
    unfold canonU
    split
    · decide
    · rw [if_neg (by omega)]; exact hn
  exact meanR_some (by simp) e (div_one (canonU_lt h) hc)
theorem mean_nan {x : Nat} (hn : inf < rung x) : meanR [x] = (0, 10) :=
  meanR_none (by simp) (add_nan_right 0 hn)
theorem one_rung : rung 4607182418800017408 = 4607182418800017408 := by decide
theorem share_one {x : Nat} (h : x < full) (hn : rung x ≤ inf) : shareR x 4607182418800017408 = (canonU x, 0) := by
  have hd := div_one h hn
  rw [one_eq] at hd
  have hne : ¬ (inf < rung x ∨ inf < rung 4607182418800017408 ∨ rung 4607182418800017408 = 0 ∨ (rung x = inf ∧ rung 4607182418800017408 = inf)) := by
    rw [one_rung]
    unfold inf at *
    omega
  by_cases h0 : rung x = 0
  · rw [shareR_zero hne hd h0]; unfold canonU; rw [if_pos h0]
  · rw [shareR_some hne hd h0]; unfold canonU; rw [if_neg h0, if_neg (by omega)]
theorem share_self {x : Nat} : shareR x x = if kindU x = 1 then (4607182418800017408, 0) else (0, 10) := by
  rcases kind_cases x with h | h | h | h
  · rw [h, if_neg (by decide), shareR_none (.inr (.inr (.inl (kind_zero.1 h))))]
  · have h3 : ¬ inf < rung x := fun e => by rw [kind_nan.2 e] at h; cases h
    have h2 : ¬ rung x = inf := fun e => by rw [kind_inf.2 e] at h; cases h
    have h0 : ¬ rung x = 0 := fun e => by rw [kind_zero.2 e] at h; cases h
    have hd := Dbl.div_self (a := x) (by omega) h0
    rw [one_eq] at hd
    rw [h, if_pos rfl, shareR_some (by omega) hd (by rw [one_rung]; decide)]
  · rw [h, if_neg (by decide), shareR_none (.inr (.inr (.inr ⟨kind_inf.1 h, kind_inf.1 h⟩)))]
  · rw [h, if_neg (by decide), shareR_none (.inl (kind_nan.1 h))]
theorem one_cell {w : World} {g x : Nat} (h : w.heap[g]? = some (.cells #[.float .f64 x] 23 (0, 0))) : Kd.C Opn.flt w (some ⟨g, 0, none⟩) [x].length [x] :=
  Hlp.C_blk (enc := Value.float .f64) (h1 := fun _ => rfl) (xs := [x]) (by simp) h rfl
theorem mean_call {w : World} {g x : Nat} {p : Nat × Int} (hx : x < full) (hp : meanR [x] = p) (h : w.heap[g]? = some (.cells #[.float .f64 x] 23 (0, 0))) : Calls Try.prog 34 #[.slice (some ⟨g, 0, none⟩) 1 1] w (TupD p w) := by
  have := mean (some ⟨g, 0, none⟩) 1 [x] w (one_cell h) (by simp) (by simp) (by intro y hy; rw [List.mem_singleton.1 hy]; exact hx)
  rw [hp] at this
  exact this
theorem order_one : (FloatKind.f64.format.order 4607182418800017408 4607182418800017408 == some .eq) = true := by
  have : FloatKind.f64.format.order 4607182418800017408 4607182418800017408 = some (compare (pos 4607182418800017408) (pos 4607182418800017408)) := order_num (by decide) (by decide)
  rw [this]; simp
set_option maxHeartbeats 2000000 in
theorem realAlone (w : World) (a : Int) (wa : (Lit.int .u64 a).wf = true) :
    Calls Try.prog 10 #[.int .u64 a] w fun e w' => e = .returned (.bool true) ∧ Below w.heap.size w w' := by
  have ha := (wd_of_wf wa).nat
  have hcast := (wd_of_wf wa).cast
  have hA : ∀ w : World, (callFunc 12 #[.int .u64 a]).run Try.prog w = .ok (.value (.float .f64 a.toNat)) w := c12 a
  have h13 := c13
  have hone := order_one
  obtain ⟨v, hv⟩ : ∃ v, kindU a.toNat = v := ⟨_, rfl⟩
  have K := Lib.hid (fun w => kind a (wd_of_wf wa) w)
  rw [hv] at K
  have S1 := Lib.hid (fun w => share a.toNat 4607182418800017408 ha (by decide) w)
  have S2 := Lib.hid (fun w => share a.toNat a.toNat ha ha w)
  have C := Lib.hid (fun w => canon a.toNat w)
  have KN := Lib.hid (fun w => known_ w)
  generalize a.toNat = x at *
  clear wa hcast
  have HB0 := Aside0.mk (blk_new w (.cells #[.float .f64 x] 23))
  have HA0 := Aside0.mk (below_alloc (Below.refl w.heap.size w) (.cells #[.float .f64 x] 23))
  have HF := Aside0.mk ha
  by_cases h3 : v = 3
  · subst h3
    have hn := kind_nan.1 hv
    have M := Aside0.mk (mean_nan hn)
    rw [shareR_none (.inl hn)] at S1 S2
    clear hv hn ha
    go_enter Try.func10, Try.ntmps10
    go_wp2_with fail
    (with_reducible refine (mean_call HF.out M.out HB0.out).mono ?_)
    rintro e w' ⟨rfl, hd⟩
    have HBel := Aside0.mk (below_then HA0.out HA0.out.size hd.below)
    clear hd
    go_wp2_with (first | (go_at_call 32; (with_reducible refine (S1.out _).mono ?_); rintro e w' ⟨rfl, rfl⟩) | (go_at_call 32; (with_reducible refine (S2.out _).mono ?_); rintro e w' ⟨rfl, rfl⟩) | (go_at_call 24; (with_reducible refine (K.out _).mono ?_); rintro e w' ⟨rfl, rfl⟩) | (go_at_call 14; (with_reducible refine (C.out _).mono ?_); rintro e w' ⟨rfl, rfl⟩) | (go_at_call 22; (with_reducible refine (same _ _ _).mono ?_); rintro e w' ⟨rfl, rfl⟩) | (go_at_call 23; (with_reducible refine (KN.out _).mono ?_); rintro e w' ⟨rfl, rfl⟩))
    go_ret
    exact ⟨rfl, HBel.out⟩
  · have t3 : (v == 3) = false := beq_eq_false_iff_ne.2 h3
    have hn : rung x ≤ inf := by
      have : ¬ inf < rung x := fun e => h3 (hv ▸ kind_nan.2 e)
      omega
    have M := Aside0.mk (mean_alone ha hn)
    rw [share_one ha hn] at S1
    rw [share_self, hv] at S2
    by_cases h1 : v = 1
    · subst h1
      rw [if_pos rfl] at S2
      clear hv hn ha h3
      go_enter Try.func10, Try.ntmps10
      go_wp2_with fail
      (with_reducible refine (mean_call HF.out M.out HB0.out).mono ?_)
      rintro e w' ⟨rfl, hd⟩
      have HBel := Aside0.mk (below_then HA0.out HA0.out.size hd.below)
      clear hd
      go_wp2_with (first | (go_at_call 32; (with_reducible refine (S1.out _).mono ?_); rintro e w' ⟨rfl, rfl⟩) | (go_at_call 32; (with_reducible refine (S2.out _).mono ?_); rintro e w' ⟨rfl, rfl⟩) | (go_at_call 24; (with_reducible refine (K.out _).mono ?_); rintro e w' ⟨rfl, rfl⟩) | (go_at_call 14; (with_reducible refine (C.out _).mono ?_); rintro e w' ⟨rfl, rfl⟩) | (go_at_call 22; (with_reducible refine (same _ _ _).mono ?_); rintro e w' ⟨rfl, rfl⟩) | (go_at_call 23; (with_reducible refine (KN.out _).mono ?_); rintro e w' ⟨rfl, rfl⟩))
      go_ret
      exact ⟨rfl, HBel.out⟩
    · rw [if_neg h1] at S2
      have t1 : (v == 1) = false := beq_eq_false_iff_ne.2 h1
      clear hv hn ha h3 h1
      go_enter Try.func10, Try.ntmps10
      go_wp2_with fail
      (with_reducible refine (mean_call HF.out M.out HB0.out).mono ?_)
      rintro e w' ⟨rfl, hd⟩
      have HBel := Aside0.mk (below_then HA0.out HA0.out.size hd.below)
      clear hd
      go_wp2_with (first | (go_at_call 32; (with_reducible refine (S1.out _).mono ?_); rintro e w' ⟨rfl, rfl⟩) | (go_at_call 32; (with_reducible refine (S2.out _).mono ?_); rintro e w' ⟨rfl, rfl⟩) | (go_at_call 24; (with_reducible refine (K.out _).mono ?_); rintro e w' ⟨rfl, rfl⟩) | (go_at_call 14; (with_reducible refine (C.out _).mono ?_); rintro e w' ⟨rfl, rfl⟩) | (go_at_call 22; (with_reducible refine (same _ _ _).mono ?_); rintro e w' ⟨rfl, rfl⟩) | (go_at_call 23; (with_reducible refine (KN.out _).mono ?_); rintro e w' ⟨rfl, rfl⟩))
      go_ret
      exact ⟨rfl, HBel.out⟩
end Go.Proofs.Ytkejjobljiibeaa.Rl
