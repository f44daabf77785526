/- Contracts of real.Least, icehouseref01.Least, icehouselaw01.bits. Conditions: lists that fit in memory, words of 64 bits. -/
import Derived.Test.YtkejjobljiibeaaC3
import Derived.Test.YtkejjobljiibeaaP4
namespace Go.Proofs.Ytkejjobljiibeaa.Rl
open Go.ChangeShapes Go.WideShapes Go.ChangeAt Go.RowKit Dbl
open Go.Proofs.YtkejjobljiibeaaW.PrintWords Go.Proofs.YtkejjobljiibeaaW.PrintLast Go.Proofs.YtkejjobljiibeaaW.PrintMore
set_option linter.unusedVariables false
set_option linter.unusedSimpArgs false
/-- the least of some, the first one first -/
def leastOf (m : Nat) (l : List Nat) : Nat := l.foldl (fun m x => if cmpU x m = -1 then x else m) m
theorem leastOf_snoc (m : Nat) (l : List Nat) (x : Nat) : leastOf m (l ++ [x]) = if cmpU x (leastOf m l) = -1 then x else leastOf m l := by
  unfold leastOf; rw [List.foldl_append]; rfl
theorem leastOf_lt {m : Nat} {l : List Nat} (hm : m < full) (hl : ∀ x ∈ l, x < full) : leastOf m l < full := by
  induction l generalizing m with
  | nil => exact hm
  | cons a l ih =>
    unfold leastOf; rw [List.foldl_cons]
    refine ih ?_ (fun x hx => hl x (List.mem_cons_of_mem _ hx))
    split
    · exact hl a List.mem_cons_self
    · exact hm
set_option maxHeartbeats 1000000 in
theorem least_nil (A : Option Addr) (c : Nat) (w : World) : Calls Try.prog 26 #[.slice A 0 c] w fun e w' => e = .returned (.tuple #[.float .f64 0, .int .i64 4]) ∧ w = w' := by
  go_enter Try.func26, Try.ntmps26
  go_wp2
  go_ret2
  exact ⟨rfl, rfl⟩
set_option maxHeartbeats 1000000 in
theorem least (A : Option Addr) (c : Nat) (x0 : Nat) (l : List Nat) (w : World) (hr : Kd.C flt w A (x0 :: l).length (x0 :: l)) (hc : (x0 :: l).length ≤ c) (hl : l.length ≤ 17592186044415) (h0 : x0 < full) (hw : ∀ x ∈ l, x < full) :
    Calls Try.prog 26 #[.slice A (x0 :: l).length c] w fun e w' => e = .returned (.tuple #[.float .f64 (leastOf x0 l), .int .i64 0]) ∧ w = w' := by
  obtain ⟨b, off, hA, hcell⟩ := C_block hr (by simp)
  subst hA
  have hc0 := hcell 0 (by simp)
  rw [List.getElem_cons_zero, Nat.add_zero] at hc0
  have HC := Aside0.mk hcell
  simp only [List.length_cons] at hc ⊢
  clear hr hcell
  have he : ((l.length : Int) + 1 == 0) = false := beq_eq_false_iff_ne.2 (by omega)
  by_cases hc1 : c = 1
  · subst hc1
    obtain rfl : l = [] := by cases l; rfl; simp at hc
    go_enter Try.func26, Try.ntmps26
    go_wp2
    go_loop [4, 16] (fun m i => m = .float .f64 x0 ∧ i = .int .i64 0) (fun _ _ => 0)
    case atStart => exact ⟨rfl, rfl⟩
    case round =>
      obtain ⟨rfl, rfl⟩ := hrel
      go_wp2
      go_ret2
      exact ⟨rfl, rfl⟩
  · have hc2 : (c == 1) = false := by simpa using hc1
    go_enter Try.func26, Try.ntmps26
    go_wp2
    go_loop [4, 16] (fun m i => ∃ k : Nat, k ≤ l.length ∧ m = .float .f64 (leastOf x0 (l.take k)) ∧ i = .int .i64 k) (fun _ i => l.length - (intOf i).toNat)
    case atStart => exact ⟨0, Nat.zero_le _, rfl, rfl⟩
    case round =>
      obtain ⟨k, hk, rfl, rfl⟩ := hrel
      by_cases hlt : k < l.length
      · have hcell := HC.out (k + 1) (by simpa using hlt)
        rw [List.getElem_cons_succ, show off + (k + 1) = off + 1 + k from by omega] at hcell
        have HT : Aside0 (leastOf x0 (l.take (k + 1)) = if cmpU l[k] (leastOf x0 (l.take k)) = -1 then l[k] else leastOf x0 (l.take k)) := ⟨by rw [List.take_succ_eq_append_getElem hlt, leastOf_snoc]⟩
        have hx : l[k] < full := hw _ (List.getElem_mem hlt)
        have hm : leastOf x0 (l.take k) < full := leastOf_lt h0 (fun x hx => hw x (List.mem_of_mem_take hx))
        generalize l[k] = x at *
        generalize leastOf x0 (l.take k) = m at *
        by_cases hlss : cmpU x m = -1
        · rw [if_pos hlss] at HT
          have L := Lib.hid hlss; clear hlss
          go_wp2_with (go_at_call 20; (with_reducible refine (compare_ _ _ hx hm _).mono ?_); rw [L.out]; rintro e w' ⟨rfl, rfl⟩)
          go_round
          case rel => exact ⟨k + 1, by omega, congrArg (Value.float .f64) HT.out.symm, by go_num⟩
          case measure => simp [intOf]; omega
        · rw [if_neg hlss] at HT
          have hb : decide (cmpU x m < 0) = false := decide_eq_false (by rcases cmp_three x m with h | h | h <;> omega)
          clear hlss
          go_wp2_with (go_at_call 20; (with_reducible refine (compare_ _ _ hx hm _).mono ?_); rintro e w' ⟨rfl, rfl⟩)
          go_round
          case rel => exact ⟨k + 1, by omega, congrArg (Value.float .f64) HT.out.symm, by go_num⟩
          case measure => simp [intOf]; omega
      · obtain rfl : k = l.length := by omega
        have HT : Aside0 (l.take l.length = l) := ⟨List.take_length⟩
        go_wp2_with fail
        go_ret2
        exact ⟨rfl, rfl⟩
theorem leastOf_append (m : Nat) (l r : List Nat) : leastOf m (l ++ r) = leastOf (leastOf m l) r := by unfold leastOf; rw [List.foldl_append]
theorem leastOf_mem (m : Nat) (l : List Nat) : leastOf m l ∈ m :: l := by
  induction l generalizing m with
  | nil => exact List.mem_cons_self
  | cons a l ih =>
    show leastOf (if cmpU a m = -1 then a else m) l ∈ _
    have := ih (if cmpU a m = -1 then a else m)
    split at this <;> rename_i h
    · rw [if_pos h]; exact List.mem_cons_of_mem _ this
    · rw [if_neg h]
      rcases List.mem_cons.1 this with e | e
      · rw [e]; exact List.mem_cons_self
      · exact List.mem_cons_of_mem _ (List.mem_cons_of_mem _ e)
theorem leastOf_rank (m : Nat) (l : List Nat) : ∀ z ∈ m :: l, rank (leastOf m l) ≤ rank z := by
  induction l generalizing m with
  | nil => intro z hz; simp at hz; subst hz; exact Nat.le_refl _
  | cons a l ih =>
    intro z hz
    show rank (leastOf (if cmpU a m = -1 then a else m) l) ≤ _
    have h1 := ih (if cmpU a m = -1 then a else m) _ List.mem_cons_self
    have h2 : rank (if cmpU a m = -1 then a else m) ≤ rank m ∧ rank (if cmpU a m = -1 then a else m) ≤ rank a := by
      by_cases h : cmpU a m = -1
      · rw [if_pos h]; have := cmp_lt.1 h; omega
      · rw [if_neg h]; have : ¬ rank a < rank m := fun e => h (cmp_lt.2 e); omega
    rcases List.mem_cons.1 hz with rfl | hz
    · omega
    · rcases List.mem_cons.1 hz with rfl | hz
      · omega
      · exact ih _ z (List.mem_cons_of_mem _ hz)
theorem leastOf_stays (m : Nat) (l : List Nat) (h : ∀ z ∈ l, rank m ≤ rank z) : leastOf m l = m := by
  induction l with
  | nil => rfl
  | cons a l ih =>
    show leastOf (if cmpU a m = -1 then a else m) l = m
    have : ¬ cmpU a m = -1 := fun e => by have := cmp_lt.1 e; have := h a List.mem_cons_self; omega
    rw [if_neg this]
    exact ih fun z hz => h z (List.mem_cons_of_mem _ hz)
/-- of all once more it is the same -/
theorem leastOf_twice (m : Nat) (l : List Nat) : leastOf m (l ++ (m :: l)) = leastOf m l := by
  rw [leastOf_append]
  exact leastOf_stays _ _ (leastOf_rank m l)
theorem least_not_above (m : Nat) (l : List Nat) (z : Nat) (hz : z ∈ m :: l) : cmpU (leastOf m l) z ≤ 0 := by
  have := leastOf_rank m l z hz
  rcases cmp_three (leastOf m l) z with h | h | h
  · omega
  · omega
  · have := cmp_gt.1 h; omega
end Go.Proofs.Ytkejjobljiibeaa.Rl
