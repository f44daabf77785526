/- Helpers on rows that are read: an element's cell, the row's block, a row out of its cells. Conditions: none. -/
import Derived.Test.YtfhgclojfjiblaaWWords
import Derived.Test.YtfhgclojfjiblaaWLast
import Derived.Test.YtfhgclojfjiblaaWMore
namespace Go.Proofs.Ytfhgclojfjiblaa.Hlp
open Go.RowKit Go.Proofs.YtfhgclojfjiblaaW.PrintWords Go.Proofs.YtfhgclojfjiblaaW.PrintLast Go.Proofs.YtfhgclojfjiblaaW.PrintMore
theorem C_at {α : Type} {enc : α → Value} {h1 : ∀ x, (enc x).oneCell' = true} {w : World} {A : Option Addr} {xs : List α} (h : (Kd.scalar enc h1).C w A xs.length xs) (k : Nat) (hk : k < xs.length) :
    ∃ ad, A = some ad ∧ w.cell? (ad.add k) = some (enc xs[k]) := by
  obtain ⟨ad, e, hc⟩ := h.2.2 (by omega)
  obtain ⟨c, hs, hr, hcell⟩ := hc k _ (List.getElem?_eq_getElem hk)
  obtain rfl : c = [enc xs[k]] := hr
  have := hcell 0 _ rfl
  rw [show (Kd.scalar enc h1).sz = 1 from rfl, Nat.mul_one, Nat.add_zero] at this
  exact ⟨ad, e, this⟩
/-- a row that is read, by its block -/
theorem C_block {α : Type} {enc : α → Value} {h1 : ∀ x, (enc x).oneCell' = true} {w : World} {A : Option Addr} {xs : List α} (h : (Kd.scalar enc h1).C w A xs.length xs) (h0 : 0 < xs.length) :
    ∃ b off, A = some ⟨b, off, none⟩ ∧ ∀ (k : Nat) (hk : k < xs.length), w.cell? ⟨b, off + k, none⟩ = some (enc xs[k]) := by
  obtain ⟨ad, rfl, hc⟩ := C_at h 0 h0
  obtain ⟨b, off, sp⟩ := ad
  cases sp with
  | some x => simp [World.cell?, Addr.add] at hc; split at hc <;> simp at hc
  | none =>
    refine ⟨b, off, rfl, fun k hk => ?_⟩
    obtain ⟨ad, he, hc⟩ := C_at h k hk
    injection he with he
    subst he
    rw [← hc]
    unfold Addr.add
    split <;> simp_all
theorem C_mk {α : Type} {enc : α → Value} {h1 : ∀ x, (enc x).oneCell' = true} {w : World} {b off : Nat} {xs : List α} (hm : xs.length ≤ 9223372036854775807) (h : ∀ (k : Nat) (hk : k < xs.length), w.cell? ⟨b, off + k, none⟩ = some (enc xs[k])) :
    (Kd.scalar enc h1).C w (some ⟨b, off, none⟩) xs.length xs := by
  refine ⟨rfl, hm, fun _ => ⟨_, rfl, fun j p hj => ?_⟩⟩
  obtain ⟨hlt, hp⟩ := List.getElem?_eq_some_iff.1 hj
  subst hp
  refine ⟨[enc xs[j]], rfl, rfl, fun i u hu => ?_⟩
  have hi : i = 0 := by
    have := (List.getElem?_eq_some_iff.1 hu).1
    simp at this; exact this
  subst hi
  simp at hu
  subst hu
  rw [show (Kd.scalar enc h1).sz = 1 from rfl, Nat.mul_one, Nat.add_zero, ← h j hlt]
  unfold Addr.add
  split <;> simp_all
theorem C_empty {α : Type} {enc : α → Value} {h1 : ∀ x, (enc x).oneCell' = true} {w : World} {A : Option Addr} : (Kd.scalar enc h1).C w A ([] : List α).length [] := ⟨rfl, by simp, fun h => absurd h (Nat.lt_irrefl 0)⟩
/-- a store into a cell that is not the row's -/
theorem C_set {α : Type} {enc : α → Value} {h1 : ∀ x, (enc x).oneCell' = true} {w : World} {A : Option Addr} {xs : List α} {g i : Nat} {u : Value} (h : (Kd.scalar enc h1).C w A xs.length xs) (hne : ∀ x j, w.cell? ⟨g, j, none⟩ ≠ some (enc x)) :
    (Kd.scalar enc h1).C (w.setCell ⟨g, i, none⟩ u) A xs.length xs := by
  rcases Nat.eq_zero_or_pos xs.length with h0 | h0
  · obtain rfl := List.length_eq_zero_iff.1 h0
    exact C_empty
  · obtain ⟨b, off, rfl, hc⟩ := C_block h h0
    have hb : b ≠ g := by
      rintro rfl
      exact hne _ _ (hc 0 h0)
    refine C_mk h.2.1 fun k hk => ?_
    rw [← hc k hk]
    have : (w.setCell ⟨g, i, none⟩ u).heap[b]? = w.heap[b]? := Below.heap_setCell w _ u b (by simpa using hb)
    simp [World.cell?, this]
/-- the rest of a row -/
theorem C_drop {α : Type} {enc : α → Value} {h1 : ∀ x, (enc x).oneCell' = true} {w : World} {b off : Nat} {xs : List α} (h : (Kd.scalar enc h1).C w (some ⟨b, off, none⟩) xs.length xs) (k : Nat) (hk : k ≤ xs.length) :
    (Kd.scalar enc h1).C w (some ⟨b, off + k, none⟩) (xs.drop k).length (xs.drop k) := by
  rcases Nat.eq_zero_or_pos (xs.drop k).length with h0 | h0
  · rw [List.length_eq_zero_iff.1 h0]; exact C_empty
  · obtain ⟨b', off', he, hc⟩ := C_block h (by rw [List.length_drop] at h0; omega)
    injection he with he
    injection he with e1 e2 _
    subst e1; subst e2
    refine C_mk (by have := h.2.1; rw [List.length_drop]; omega) fun j hj => ?_
    rw [List.length_drop] at hj
    rw [Nat.add_assoc, hc (k + j) (by omega), List.getElem_drop]
/-- a block that was just made is a row -/
theorem C_blk {α : Type} {enc : α → Value} {h1 : ∀ x, (enc x).oneCell' = true} {w : World} {g : Nat} {e : TypeId} {fr : Nat × Nat} {xs : List α} {cs : Array Value} (hm : xs.length ≤ 9223372036854775807) (h : w.heap[g]? = some (.cells cs e fr)) (hcs : cs.toList = xs.map enc) :
    (Kd.scalar enc h1).C w (some ⟨g, 0, none⟩) xs.length xs := by
  refine C_mk hm fun k hk => ?_
  rw [Nat.zero_add, cell_of_row w g k cs e fr h, ← Array.getElem?_toList, hcs]
  simp [hk]
end Go.Proofs.Ytfhgclojfjiblaa.Hlp
