/- Contracts of icehouseref01.Least and icehouselaw01.bits. Conditions: lists that fit in memory, words of 64 bits. -/
import Derived.Test.YtkejjobljiibeaaC4
import Derived.Test.YtkejjobljiibeaaC9
namespace Go.Proofs.Ytkejjobljiibeaa.Rl
open Go.ChangeShapes Go.WideShapes Go.ChangeAt Go.RowKit Dbl
open Go.Proofs.YtkejjobljiibeaaW.PrintWords Go.Proofs.YtkejjobljiibeaaW.PrintLast Go.Proofs.YtkejjobljiibeaaW.PrintMore
set_option linter.unusedVariables false
set_option linter.unusedSimpArgs false
/-- the least of the first i (of one at least), and its place -/
def PlaceIs (m : List Nat) (i j : Nat) : Prop := j < i ∧ ∃ h : j < m.length, m[j] = leastOf (m.headD 0) ((m.drop 1).take (i - 1))
theorem place_one {m : List Nat} (h : 0 < m.length) : PlaceIs m 1 0 := by
  refine ⟨Nat.one_pos, h, ?_⟩
  cases m with
  | nil => simp at h
  | cons a l => rfl
theorem place_next {m : List Nat} {i j : Nat} (h : PlaceIs m i j) (hi : i < m.length) : ∃ h0 : j < m.length, (cmpU m[i] m[j] = -1 → PlaceIs m (i + 1) i) ∧ (¬ cmpU m[i] m[j] = -1 → PlaceIs m (i + 1) j) := by
  obtain ⟨hj, h0, e⟩ := h
  refine ⟨h0, ?_⟩
  have e2 : (m.drop 1).take (i + 1 - 1) = (m.drop 1).take (i - 1) ++ [m[i]] := by
    obtain ⟨i, rfl⟩ : ∃ k, i = k + 1 := ⟨i - 1, by omega⟩
    rw [Nat.add_sub_cancel, Nat.add_sub_cancel, List.take_succ_eq_append_getElem (by rw [List.length_drop]; omega)]
    congr 2
    rw [List.getElem_drop]; congr 1; omega
  constructor
  · intro hc
    refine ⟨Nat.lt_succ_self i, hi, ?_⟩
    rw [e2, leastOf_snoc, ← e, if_pos hc]
  · intro hc
    refine ⟨by omega, h0, ?_⟩
    rw [e2, leastOf_snoc, ← e, if_neg hc]
theorem place_end {m : List Nat} {j : Nat} (h : PlaceIs m m.length j) : ∃ h : j < m.length, m[j] = leastOf (m.headD 0) (m.drop 1) := by
  obtain ⟨hj, h0, e⟩ := h
  refine ⟨h0, ?_⟩
  rw [e, List.take_of_length_le (by rw [List.length_drop]; exact Nat.le_refl _)]
set_option maxHeartbeats 4000000 in
set_option maxRecDepth 100000 in
theorem rleast (A : Option Addr) (c : Nat) (l : List Int) (w : World) (h0 : 0 < l.length) (hr : Kd.C (Kd.int .u64) w A l.length l) (hc : l.length ≤ c) (hl : l.length ≤ 17592186044415) (hw : ∀ x ∈ l, Wd x) :
    Calls Try.prog 36 #[.slice A l.length c] w fun e w' => ∃ j : Nat, e = .returned (.int .i64 j) ∧ PlaceIs (l.map Int.toNat) l.length j ∧ Drawn0 w w' := by
  obtain ⟨b, off, hA, hcell⟩ := Hlp.C_block hr h0
  subst hA
  have HC := Aside0.mk hcell
  have HW := Aside0.mk hw
  clear hr hcell hw
  go_enter Try.func36, Try.ntmps36
  go_wp2
  go_loopg [3, 4] (l.length - 1) (fun q v3 v4 w' => ∃ (i j : Nat), i ≤ l.length ∧ v4 = .int .i64 i ∧ q = l.length - i ∧ v3 = .int .i64 j ∧ j < i ∧ Aside0 (PlaceIs (l.map Int.toNat) i j) ∧ Aside0 (Drawn0 w w'))
  case atStart => exact ⟨1, 0, h0, rfl, rfl, rfl, Nat.one_pos, ⟨place_one (by simpa using h0)⟩, ⟨Drawn0.refl w⟩⟩
  case round =>
    obtain ⟨i, j, hi, rfl, rfl, rfl, hji, HP, HR⟩ := hrel
    by_cases hlt : i < l.length
    · have hj : j < l.length := by omega
      have c1 := pw_cell_below HR.out.below (HC.out i hlt)
      have c2 := pw_cell_below HR.out.below (HC.out j hj)
      have w1 := HW.out _ (List.getElem_mem hlt)
      have w2 := HW.out _ (List.getElem_mem hj)
      obtain ⟨hj', hn1, hn2⟩ := place_next HP.out (by rw [List.length_map]; exact hlt)
      rw [List.getElem_map, List.getElem_map] at hn1 hn2
      have t1 : decide ((i : Int) < (l.length : Int)) = true := decide_eq_true (by omega)
      have i0 : (0 : Int) ≤ (i : Int) := by omega
      have i1 : (i : Int) < (l.length : Int) := by omega
      have j0 : (0 : Int) ≤ (j : Int) := by omega
      have j1 : (j : Int) < (l.length : Int) := by omega
      obtain ⟨x, hx⟩ : ∃ x, l[i] = x := ⟨_, rfl⟩
      obtain ⟨y, hy⟩ : ∃ y, l[j] = y := ⟨_, rfl⟩
      rw [hx] at c1 w1
      rw [hx, hy] at hn1 hn2
      rw [hy] at c2 w2
      clear hx hy
      have R := Lib.hid (fun w => rcompare x y w1 w2 w)
      by_cases hc : cmpU x.toNat y.toNat = -1
      · have HN := Aside0.mk (hn1 hc)
        rw [hc] at R
        clear hn1 hn2 hc w1 w2 hj'
        go_wp2_with fail
        go_quiet ((go_at_call 21; exact Calls.quiet_of_same ((R.out _).mono fun _ _ h => ⟨h.1, h.2.symm⟩)))
        go_wp2_with fail
        go_roundg (l.length - (i + 1))
        case measure => omega
        case rel => exact ⟨i + 1, i, by omega, by go_num, rfl, rfl, by omega, HN, ⟨by obtain ⟨n, hn⟩ := HR.out; exact HR.out.step _⟩⟩
      · have HN := Aside0.mk (hn2 hc)
        have t2 : decide (cmpU x.toNat y.toNat < 0) = false := decide_eq_false (by rcases cmp_three x.toNat y.toNat with h | h | h <;> omega)
        clear hn1 hn2 hc w1 w2 hj'
        go_wp2_with fail
        go_quiet ((go_at_call 21; exact Calls.quiet_of_same ((R.out _).mono fun _ _ h => ⟨h.1, h.2.symm⟩)))
        go_wp2_with fail
        go_roundg (l.length - (i + 1))
        case measure => omega
        case rel => exact ⟨i + 1, j, by omega, by go_num, rfl, rfl, by omega, HN, ⟨by obtain ⟨n, hn⟩ := HR.out; exact HR.out.step _⟩⟩
    · obtain rfl : i = l.length := by omega
      have t1 : decide ((l.length : Int) < (l.length : Int)) = false := decide_eq_false (by omega)
      go_wp2_with fail
      go_ret
      exact ⟨j, rfl, HP.out, HR.out⟩
theorem take_succ_cast (l : List Nat) (k : Nat) (hk : k < l.length) : (l.take (k + 1)).map (fun n : Nat => (n : Int)) = (l.take k).map (fun n : Nat => (n : Int)) ++ [(l[k] : Int)] := by
  rw [List.take_succ_eq_append_getElem hk, List.map_append]; rfl
set_option maxHeartbeats 4000000 in
theorem bits_ (A : Option Addr) (c : Nat) (l : List Nat) (w : World) (hr : Kd.C Opn.flt w A l.length l) (hc : l.length ≤ c) (hl : l.length ≤ 17592186044415) :
    Calls Try.prog 37 #[.slice A l.length c] w fun e w' => ∃ v : Value, e = .returned v ∧ Kd.R (Kd.int .u64) 22 w' w.heap.size (fun _ => True) v (l.map (fun n : Nat => (n : Int))) ∧ Below w.heap.size w w' := by
  have HR := Aside0.mk hr
  have h13 := c13
  clear hr
  go_enter Try.func37, Try.ntmps37
  go_wp2
  go_loopg [3, 4] l.length (fun q v i w' => ∃ k : Nat, k ≤ l.length ∧ i = .int .i64 k ∧ q = l.length - k ∧ Aside0 (Kd.R (Kd.int .u64) 22 w' w.heap.size (fun _ => True) v ((l.take k).map (fun n : Nat => (n : Int)))) ∧ Aside0 (Below w.heap.size w w'))
  case atStart => exact ⟨0, Nat.zero_le _, rfl, by simp, ⟨Kd.R_nil _ _ _ _ _⟩, ⟨Below.refl _ _⟩⟩
  case round =>
    obtain ⟨k, hk, rfl, rfl, HO, HB⟩ := hrel
    by_cases hlt : k < l.length
    · obtain ⟨ad, hA, hc0⟩ := Hlp.C_at (Kd.C_below HR.out HB.out) k hlt
      subst hA
      have HT := Aside0.mk (take_succ_cast l k hlt)
      generalize l[k] = x at *
      go_wp2_with ((with_reducible refine gate_builtin (b := .append) rfl ?_); at_builtin; refine Kd.R_append (Kd.int .u64) (w0 := w) w.heap.size rfl (.tmp 11) (.tmp 17) 35 22 (.int .u64 0) 8 rfl Try.underlying35 info22 rfl (by decide) (by omega) _ ((l.take k).map (fun n : Nat => (n : Int))) (x : Int) [.int .u64 (x : Int)] (fun _ => True) (fun _ => False) rfl rfl rfl (fun _ hk => hk.elim) (fun _ _ => trivial) ?aO ?aB ?aS ?aL ?_; (case aO => exact HO.out); (case aB => exact HB.out); (case aS => exact HB.out.size); (case aL => simp only [List.length_map, List.length_take]; omega); intro v1 w1 ho hb hg hat; rw [← HT.out] at ho; have HO' := Aside0.mk ho; have HB' := Aside0.mk hb; clear ho hb hg hat HO HB)
      go_roundg (l.length - (k + 1))
      case measure => omega
      case rel => exact ⟨k + 1, by omega, by go_num, rfl, HO', HB'⟩
    · go_wp2_with fail
      go_ret
      obtain rfl : k = l.length := by omega
      have h := HO.out
      rw [List.take_length] at h
      exact ⟨_, rfl, h, HB.out⟩
end Go.Proofs.Ytkejjobljiibeaa.Rl
