/- Whole numbers as doubles: sums, quotients, the mean of the same ones, plain; and the contract of icehouselaw15.known. Conditions: each theorem's own. -/
import Derived.Test.YtlifioeeooclfaaB9
namespace Go.Proofs.Ytlifioeeooclfaa.Rl
open Go.ChangeShapes Go.WideShapes Go.ChangeAt Go.RowKit Dbl
open Go.Proofs.YtlifioeeooclfaaW.PrintWords Go.Proofs.YtlifioeeooclfaaW.PrintLast Go.Proofs.YtlifioeeooclfaaW.PrintMore
set_option linter.unusedVariables false
set_option linter.unusedSimpArgs false
theorem add_int {a b : Nat} (h : a + b < 9007199254740992) : Ieee.double.add (wi a) (wi b) = some (wi (a + b)) := by
  have ha := wi_size (n := a) (by omega)
  have hb := wi_size (n := b) (by omega)
  have hc := wi_size h
  obtain ⟨a1, a2, a3⟩ := wi_rung (n := a) (by omega)
  obtain ⟨b1, b2, b3⟩ := wi_rung (n := b) (by omega)
  rw [add_pos (by omega) (by omega) a2 b2, a1, b1, ha.1, hb.1, ← Nat.add_mul]
  show some (min (wi (a + b)) inf) = _
  rw [Nat.min_eq_left (Nat.le_of_lt hc.2)]
theorem div_int {m n : Nat} (h : m * n < 9007199254740992) (hn : n < 9007199254740992) (hm : m < 9007199254740992) (h0 : 0 < n) : Ieee.double.div (wi (m * n)) (wi n) = some (wi m) := by
  have ha := wi_size h
  have hb := wi_size hn
  have hc := wi_size hm
  obtain ⟨a1, a2, a3⟩ := wi_rung h
  obtain ⟨b1, b2, b3⟩ := wi_rung hn
  rw [div_eq (by omega) (by omega) (by rw [b1]; exact wi_pos hn h0), a1, b1, ha.1, hb.1, a2, b2, show (false ^^ false) = false from rfl, word_pos]
  have e : m * n * unit * unit = size (wi m) * (n * unit) := by
    rw [hc.1]; simp only [Nat.mul_assoc, Nat.mul_left_comm, Nat.mul_comm]
  rw [e, near_exact _ (Nat.mul_pos h0 unit_pos), Nat.min_eq_left (Nat.le_of_lt hc.2)]
theorem lit_eq {r n j : Nat} (h1 : ¬ r < bin) (h2 : bin + r % bin = n * 2 ^ j) (h3 : j + (r / bin - 1) = big) : wi n = r := by
  have : size r = n * unit := by
    unfold size
    rw [if_neg h1, h2, Nat.mul_assoc, ← Nat.pow_add, h3]; rfl
  unfold wi
  rw [← this]
  exact near_one r
theorem two_eq : wi 2 = 4611686018427387904 := lit_eq (j := 51) (by decide) (by decide) (by rw [big_eq]; decide)
theorem three_eq : wi 3 = 4613937818241073152 := lit_eq (j := 51) (by decide) (by decide) (by rw [big_eq]; decide)
theorem six_eq : wi 6 = 4618441417868443648 := lit_eq (j := 50) (by decide) (by decide) (by rw [big_eq]; decide)
theorem addO_some (a b : Nat) : addO (some a) b = Ieee.double.add a b := rfl
/-- the mean of the same ones -/
theorem sum_rep (step : Nat) : ∀ (n m : Nat), (m + n) * step < 9007199254740992 → (List.replicate n (wi step)).foldl addO (some (wi (m * step))) = some (wi ((m + n) * step)) := by
  intro n
  induction n with
  | zero => intro m _; rfl
  | succ n ih =>
    intro m h
    rw [List.replicate_succ, List.foldl_cons]
    have h1 : m * step + step < 9007199254740992 := by
      have : m * step + step ≤ (m + (n + 1)) * step := by rw [← Nat.succ_mul]; exact Nat.mul_le_mul_right step (by omega)
      omega
    have e1 : addO (some (wi (m * step))) (wi step) = some (wi ((m + 1) * step)) := by
      rw [addO_some, add_int h1, Nat.add_mul, Nat.one_mul]
    rw [e1, ih (m + 1) (by rw [show m + 1 + n = m + (n + 1) by omega]; exact h)]
    rw [show m + 1 + n = m + (n + 1) by omega]
theorem mean_rep {n step : Nat} (h0 : 0 < n) (h : n * step < 9007199254740992) (hn : n < 9007199254740992) (hs : step < 9007199254740992) : meanR (List.replicate n (wi step)) = (wi step, 0) := by
  have hsum : sumO (List.replicate n (wi step)) = some (wi (step * n)) := by
    have := sum_rep step n 0 (by rw [Nat.zero_add]; exact h)
    rw [Nat.zero_mul, wi_zero, Nat.zero_add] at this
    rw [Nat.mul_comm step n]
    exact this
  refine meanR_some (by rw [List.length_replicate]; omega) hsum ?_
  rw [List.length_replicate]
  exact div_int (by rw [Nat.mul_comm]; exact h) hn hs h0
theorem wi_lt_inf {n : Nat} (h : n < 9007199254740992) : wi n < inf := (wi_size h).2
theorem heard_one : heardR 0 [] 2 = [wi 2] := rfl
theorem heard_two : heardR 2 [wi 2] 6 = [wi 2, wi 4] := rfl
theorem ok_two : okB 6 [wi 2, wi 4] := ⟨by decide, by decide, by simp, by
  intro x hx
  rcases List.mem_cons.1 hx with h | h
  · rw [h]; exact wi_lt_inf (by decide)
  · rw [List.mem_singleton.1 h]; exact wi_lt_inf (by decide)⟩
theorem usual_k : usualR 6 [wi 2, wi 4] = (4613937818241073152, 0) := by
  rw [usual_some ok_two (by simp), ← three_eq]
  refine meanR_some (s := wi 6) (by simp) ?_ ?_
  · unfold sumO
    rw [List.foldl_cons, List.foldl_cons, List.foldl_nil]
    have e1 : addO (some 0) (wi 2) = some (wi 2) := by
      have := add_int (a := 0) (b := 2) (by decide)
      rw [wi_zero, Nat.zero_add] at this
      rw [addO_some]; exact this
    rw [e1, addO_some]
    exact add_int (a := 2) (b := 4) (by decide)
  · exact div_int (m := 3) (n := 2) (by decide) (by decide) (by decide) (by decide)
theorem score_k : scoreR 6 [wi 2, wi 4] 12 = (4611686018427387904, 0) := by
  have hs : shareR (wi 6) (wi 3) = (wi 2, 0) := by
    obtain ⟨a1, _, _⟩ := wi_rung (n := 6) (by decide)
    obtain ⟨b1, _, _⟩ := wi_rung (n := 3) (by decide)
    obtain ⟨c1, _, _⟩ := wi_rung (n := 2) (by decide)
    have ha := wi_lt_inf (n := 6) (by decide)
    have hb := wi_lt_inf (n := 3) (by decide)
    have hb0 := wi_pos (n := 3) (by decide) (by decide)
    have hc0 := wi_pos (n := 2) (by decide) (by decide)
    exact shareR_some (by rw [a1, b1]; omega) (div_int (m := 2) (n := 3) (by decide) (by decide) (by decide) (by decide)) (by rw [c1]; exact hc0)
  rw [← two_eq]
  refine score_share ⟨ok_two, by decide, by decide⟩ (by decide) usual_k (by decide) (k := 0) ?_
  rw [← three_eq]
  exact hs
theorem heard_p {A : Option Addr} {c : Nat} {last : Int} {ts us : List Nat} {now : Int} {w : World} (ho : okN last ts now) (hu : heardR last ts now = us) (h : Bt w A c ts) :
    Calls Try.prog 10 #[.agg #[.int .i64 last, .slice A ts.length c], .int .i64 now] w fun e w' => ∃ A c, e = .returned (.tuple #[.agg #[.int .i64 now, .slice A us.length c], .int .i64 0]) ∧ Bt w' A c us ∧ Below w.heap.size w w' := by
  refine (heard_ h).mono ?_
  intro e w' hp
  unfold HeardPost at hp
  rw [if_pos ho, hu] at hp
  exact hp
theorem heard_n {A : Option Addr} {c n m : Nat} {last : Int} {ts us : List Nat} {now : Int} {w : World} (hn : ts.length = n) (hm : us.length = m) (ho : okN last ts now) (hu : heardR last ts now = us) (h : Bt w A c ts) :
    Calls Try.prog 10 #[.agg #[.int .i64 last, .slice A n c], .int .i64 now] w fun e w' => ∃ A c, e = .returned (.tuple #[.agg #[.int .i64 now, .slice A m c], .int .i64 0]) ∧ Bt w' A c us ∧ Below w.heap.size w w' := by
  subst hn hm
  exact heard_p ho hu h
theorem usual_n {A : Option Addr} {c n : Nat} {last : Int} {ts : List Nat} {w : World} {u : Nat} {k : Int} (hn : ts.length = n) (hp : usualR last ts = (u, k)) (h : Bt w A c ts) : Calls Try.prog 11 #[.agg #[.int .i64 last, .slice A n c]] w fun e w' => e = .returned (.tuple #[.float .f64 u, .int .i64 k]) ∧ Below w.heap.size w w' := by
  subst hn; exact usual_p hp h
theorem score_n {A : Option Addr} {c n : Nat} {last : Int} {ts : List Nat} {now : Int} {w : World} {u : Nat} {k : Int} (hn : ts.length = n) (hp : scoreR last ts now = (u, k)) (h : Bt w A c ts) : Calls Try.prog 12 #[.agg #[.int .i64 last, .slice A n c], .int .i64 now] w fun e w' => e = .returned (.tuple #[.float .f64 u, .int .i64 k]) ∧ Below w.heap.size w w' := by
  subst hn; exact score_p hp h
theorem okN_mk {last : Int} {ts : List Nat} {now : Int} (h : okB last ts) (h1 : last ≤ now) (h2 : now ≤ 1099511627775) : okN last ts now := ⟨h, h1, h2⟩
theorem ok_zero (last : Int) (h0 : 0 ≤ last) (h1 : last ≤ 1099511627775) : okB last [] := ⟨h0, h1, by simp, by simp⟩
theorem ok_one : okB 2 [wi 2] := ⟨by decide, by decide, by simp, by
  intro x hx
  rw [List.mem_singleton.1 hx]; exact wi_lt_inf (by decide)⟩
theorem order_three : (FloatKind.f64.format.order 4613937818241073152 4613937818241073152 == some .eq) = true := by
  have : FloatKind.f64.format.order 4613937818241073152 4613937818241073152 = some (compare (pos 4613937818241073152) (pos 4613937818241073152)) := order_num (by decide) (by decide)
  rw [this]; simp
theorem order_two : (FloatKind.f64.format.order 4611686018427387904 4611686018427387904 == some .eq) = true := by
  have : FloatKind.f64.format.order 4611686018427387904 4611686018427387904 = some (compare (pos 4611686018427387904) (pos 4611686018427387904)) := order_num (by decide) (by decide)
  rw [this]; simp
theorem new_zero (w : World) : Calls Try.prog 9 #[.int .i64 0] w fun e w' => e = .returned (.tuple #[.agg #[.int .i64 0, .slice none 0 0], .int .i64 0]) ∧ Below w.heap.size w w' := new_ 0 w
set_option maxHeartbeats 4000000 in
set_option maxRecDepth 100000 in
theorem known_ (w : World) : Calls Try.prog 13 #[] w fun e w' => e = .returned (.bool true) ∧ Below w.heap.size w w' := by
  have o2 := order_two
  have o3 := order_three
  go_enter Try.func13, Try.ntmps13
  go_wp2_with fail
  (with_reducible refine (new_zero _).mono ?_)
  rintro e w1 ⟨rfl, hb⟩
  have HB := Aside0.mk hb
  have H0 : Aside0 (∀ W : World, Bt W none 0 []) := ⟨fun W => ⟨Hlp.C_empty (enc := Value.float .f64) (h1 := fun _ => rfl), Nat.le_refl _, by simp, by simp⟩⟩
  clear hb
  go_wp2_with fail
  (with_reducible refine (heard_n (ts := []) (n := 0) (m := 1) rfl rfl (okN_mk (last := 0) (now := 2) (ok_zero 0 (by decide) (by decide)) (by decide) (by decide)) heard_one (H0.out _)).mono ?_)
  rintro e w2 ⟨A2, c2, rfl, ht, hb⟩
  have HB := Aside0.mk (below_then (below_alloc HB.out (.cells #[.int .i64 0, .slice none 0 0] 25)) (below_alloc HB.out (.cells #[.int .i64 0, .slice none 0 0] 25)).size hb)
  have HT2 := Aside0.mk (ht.alloc (.cells #[.int .i64 2, .slice A2 1 c2] 25))
  have HB := Aside0.mk (below_alloc HB.out (.cells #[.int .i64 2, .slice A2 1 c2] 25))
  clear ht hb
  go_wp2_with fail
  (with_reducible refine (heard_n (ts := [wi 2]) (n := 1) (m := 2) rfl rfl (okN_mk (now := 6) ok_one (by decide) (by decide)) heard_two HT2.out).mono ?_)
  rintro e w3 ⟨A3, c3, rfl, ht, hb⟩
  have HB := Aside0.mk (below_then HB.out HB.out.size hb)
  have HT3 := Aside0.mk (ht.alloc (.cells #[.int .i64 6, .slice A3 2 c3] 25))
  have HB := Aside0.mk (below_alloc HB.out (.cells #[.int .i64 6, .slice A3 2 c3] 25))
  have hg := blk_new w3 (.cells #[.int .i64 6, .slice A3 2 c3] 25)
  clear ht hb
  go_wp2_with fail
  (with_reducible refine (usual_n (ts := [wi 2, wi 4]) (n := 2) rfl usual_k HT3.out).mono ?_)
  rintro e w4 ⟨rfl, hb⟩
  have HT4 := Aside0.mk (HT3.out.below hb)
  have HB := Aside0.mk (below_then HB.out HB.out.size hb)
  have hg4 := blk_below hg hb
  have g0 : w4.cell? ⟨w3.heap.size, 0, none⟩ = some (.int .i64 6) := (blk_cell hg4 0).trans rfl
  have g1 : w4.cell? ⟨w3.heap.size, 1, none⟩ = some (.slice A3 2 c3) := (blk_cell hg4 1).trans rfl
  clear hg hg4 hb
  go_wp2_with fail
  (with_reducible refine (score_n (ts := [wi 2, wi 4]) (n := 2) rfl score_k HT4.out).mono ?_)
  rintro e w5 ⟨rfl, hb⟩
  have HB := Aside0.mk (below_then HB.out HB.out.size hb)
  clear hb
  go_wp2_with fail
  go_ret
  exact ⟨rfl, HB.out⟩
end Go.Proofs.Ytlifioeeooclfaa.Rl
