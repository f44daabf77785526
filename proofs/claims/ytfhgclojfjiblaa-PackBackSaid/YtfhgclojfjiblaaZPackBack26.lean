/- Numbers, and rows, laid one behind the other, are read as they were; cut short fewer are, or something is missing; what is read has these bytes. Plain. Conditions: numbers of 64 bits, bytes. -/
import Derived.Test.YtfhgclojfjiblaaZPackBack23
import Derived.Test.YtfhgclojfjiblaaZPackBack25
namespace Go.Proofs.Ytfhgclojfjiblaa.Bk
open Go Go.RowKit Go.Proofs.Ytfhgclojfjiblaa.Wrd Go.Proofs.Ytfhgclojfjiblaa.Enc Go.Proofs.Ytfhgclojfjiblaa.EncP Go.Proofs.Ytfhgclojfjiblaa.Dec Go.Proofs.Ytfhgclojfjiblaa.Pk Go.Proofs.Ytfhgclojfjiblaa.Seg
set_option linter.unusedVariables false
set_option linter.unusedSimpArgs false
def I64 (x : Int) : Prop := -9223372036854775808 ≤ x ∧ x ≤ 9223372036854775807
def cat (l : List Int) : List Int := (l.map numB).flatten
def catR (l : List (List Int)) : List Int := (l.map rowB).flatten
theorem cat_cons (x : Int) (l : List Int) : cat (x :: l) = numB x ++ cat l := rfl
theorem catR_cons (x : List Int) (l : List (List Int)) : catR (x :: l) = rowB x ++ catR l := rfl
theorem cat_snoc (l : List Int) (x : Int) : cat (l ++ [x]) = cat l ++ numB x := by simp [cat]
theorem catR_snoc (l : List (List Int)) (x : List Int) : catR (l ++ [x]) = catR l ++ rowB x := by simp [catR]
theorem cat_byte : ∀ l : List Int, Byte (cat l)
  | [] => Byte.nil
  | x :: l => by rw [cat_cons]; exact (numB_byte x).append (cat_byte l)
theorem catR_byte : ∀ l : List (List Int), (∀ x ∈ l, Byte x) → Byte (catR l)
  | [], _ => Byte.nil
  | x :: l, h => by rw [catR_cons]; exact (rowB_byte (h x List.mem_cons_self)).append (catR_byte l (fun y hy => h y (List.mem_cons_of_mem _ hy)))
theorem cat_len : ∀ l : List Int, (cat l).length ≤ 9 * l.length
  | [] => by simp [cat]
  | x :: l => by rw [cat_cons, List.length_append, List.length_cons]; have := numB_len x; have := cat_len l; omega
theorem catR_len : ∀ l : List (List Int), (∀ x ∈ l, x.length ≤ 500) → (catR l).length ≤ 509 * l.length
  | [], _ => by simp [catR]
  | x :: l, h => by
    rw [catR_cons, List.length_append, List.length_cons, rowB_length]
    have := numB_len (x.length : Int); have := catR_len l (fun y hy => h y (List.mem_cons_of_mem _ hy)); have := h x List.mem_cons_self; omega
theorem numB_ne (x : Int) (r : List Int) : numB x ++ r ≠ [] := by
  intro h; have h1 := congrArg List.length h; have := numB_pos x; rw [List.length_append, List.length_nil] at h1; omega
theorem rowB_ne (x r : List Int) : rowB x ++ r ≠ [] := by
  intro h; have h1 := congrArg List.length h; have := numB_pos (x.length : Int); rw [List.length_append, rowB_length, List.length_nil] at h1; omega
theorem nums_step {x : Int} (h : I64 x) (r : List Int) : numsS (numB x ++ r) = (x :: (numsS r).1, (numsS r).2) := by
  have hp := numB_pos x
  rw [numsS_ok (numB_ne x r) (peek_num h r) (by omega), Int.toNat_natCast, List.drop_left]
theorem nums_cat : ∀ l : List Int, (∀ x ∈ l, I64 x) → numsS (cat l) = (l, 0)
  | [], _ => numsS_nil
  | x :: l, h => by rw [cat_cons, nums_step (h x List.mem_cons_self), nums_cat l (fun y hy => h y (List.mem_cons_of_mem _ hy))]
theorem rows_cat : ∀ l : List (List Int), (∀ x ∈ l, x.length ≤ 65536) → rowsS (catR l) = (l, 0)
  | [], _ => rowsS_nil
  | x :: l, h => by
    rw [catR_cons, rowsS_ok (rowB_ne x _) (row_whole x (catR l) (h x List.mem_cons_self)) (by rw [List.length_append, rowB_length]; have := numB_pos (x.length : Int); omega), rows_cat l (fun y hy => h y (List.mem_cons_of_mem _ hy))]
theorem numsR_cat {l : List Int} (h : ∀ x ∈ l, I64 x) : numsR [] (cat l) = (l, 0) := by unfold numsR; rw [nums_cat l h]; rfl
theorem rowsR_cat {l : List (List Int)} (h : ∀ x ∈ l, x.length ≤ 65536) : rowsR (catR l) = (l, 0) := by unfold rowsR; rw [rows_cat l h]; rfl
/-- cut short: something is missing, or fewer numbers are read -/
theorem nums_cut : ∀ (l : List Int), (∀ x ∈ l, I64 x) → ∀ q : Nat, q < (cat l).length → (numsS ((cat l).take q)).2 = 12 ∨ ((numsS ((cat l).take q)).2 = 0 ∧ (numsS ((cat l).take q)).1.length < l.length)
  | [], _, q, hq => by simp [cat] at hq
  | x :: l, h, q, hq => by
    rw [cat_cons] at hq ⊢
    by_cases h1 : q < (numB x).length
    · rw [List.take_append_of_le_length (Nat.le_of_lt h1)]
      cases q with
      | zero => right; rw [List.take_zero, numsS_nil]; exact ⟨rfl, by simp⟩
      | succ q =>
        left
        rw [numsS_bad (by intro e; have h2 := congrArg List.length e; rw [List.length_take, List.length_nil] at h2; omega) (peek_cut _ h1) (by decide)]
    · obtain ⟨q', rfl⟩ : ∃ q', q = (numB x).length + q' := ⟨q - (numB x).length, by omega⟩
      rw [List.take_length_add_append, nums_step (h x List.mem_cons_self)]
      rw [List.length_append] at hq
      rcases nums_cut l (fun y hy => h y (List.mem_cons_of_mem _ hy)) q' (by omega) with h2 | ⟨h2, h3⟩
      · exact .inl h2
      · exact .inr ⟨h2, by simp; omega⟩
/-- what is read has these bytes -/
theorem nums_back : ∀ (n : Nat) (l : List Int), l.length ≤ n → Byte l → (numsS l).2 = 0 → cat (numsS l).1 = l ∧ (numsS l).1.length ≤ l.length ∧ ∀ x ∈ (numsS l).1, I64 x := by
  intro n
  induction n with
  | zero => intro l hl _ _; obtain rfl : l = [] := List.length_eq_zero_iff.1 (by omega); rw [numsS_nil]; exact ⟨rfl, Nat.le_refl _, fun x hx => by cases hx⟩
  | succ n ih =>
    intro l hl hb he
    by_cases h0 : l = []
    · subst h0; rw [numsS_nil]; exact ⟨rfl, Nat.le_refl _, fun x hx => by cases hx⟩
    obtain ⟨x, k, e, hp⟩ : ∃ x k e, peekP l = (x, k, e) := ⟨_, _, _, rfl⟩
    by_cases h1 : e = 0
    · subst h1
      obtain ⟨r, hlr, hk, hx1, hx2, hd⟩ := peek_back hb hp
      have hpos := numB_pos x
      have hlen : l.length = (numB x).length + r.length := by rw [hlr, List.length_append]
      have hbr : Byte r := by rw [← hd]; exact hb.drop _
      rw [numsS_ok h0 hp (by omega), hd] at he ⊢
      obtain ⟨i1, i2, i3⟩ := ih r (by omega) hbr he
      refine ⟨?_, ?_, ?_⟩
      · show cat (x :: (numsS r).1) = l
        rw [cat_cons, i1, ← hlr]
      · show (x :: (numsS r).1).length ≤ _
        rw [List.length_cons]; omega
      · intro y hy
        rcases List.mem_cons.1 hy with rfl | hy
        · exact ⟨hx1, hx2⟩
        · exact i3 y hy
    · rw [numsS_bad h0 hp h1] at he
      exact absurd he h1
end Go.Proofs.Ytfhgclojfjiblaa.Bk
