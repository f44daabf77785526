/- A word out of its bytes, the highest first; 'u<<8 | c' as a sum. Conditions: bytes, words of 64 bits. -/
import Derived.Laws.BitsAllLaws
import Derived.Laws.Bits64
namespace Go.Proofs.Ytfhgclojfjiblaa.Wrd
open Go
theorem or_byte {u c : Int} (h0 : 0 ≤ u) (h1 : u < 72057594037927936) (h2 : 0 ≤ c) (h3 : c < 256) : bits .or .u64 (u * 256) c = u * 256 + c := by
  obtain ⟨U, rfl⟩ := Int.eq_ofNat_of_zero_le h0
  obtain ⟨C, rfl⟩ := Int.eq_ofNat_of_zero_le h2
  have := u64_or_nat (U * 256) C (by omega) (by omega)
  have e : (((U * 256 : Nat)) : Int) = (U : Int) * 256 := by omega
  rw [e] at this
  rw [this]
  have h := Nat.two_pow_add_eq_or_of_lt (i := 8) (b := C) (by omega) U
  rw [show U * 256 = 2 ^ 8 * U from by omega, ← h]
  omega
/-- a word out of its bytes, the highest first -/
def wordOf (l : List Int) : Int := l.foldl (fun u c => u * 256 + c) 0
theorem wordOf_snoc (l : List Int) (c : Int) : wordOf (l ++ [c]) = wordOf l * 256 + c := by unfold wordOf; rw [List.foldl_append]; rfl
theorem wordFrom_bd : ∀ (l : List Int) (a : Int) (n : Nat), 0 ≤ a → a < 256 ^ n → (∀ x ∈ l, 0 ≤ x ∧ x < 256) → 0 ≤ l.foldl (fun u c => u * 256 + c) a ∧ l.foldl (fun u c => u * 256 + c) a < 256 ^ (n + l.length)
  | [], a, n, h0, h1, _ => ⟨h0, h1⟩
  | c :: l, a, n, h0, h1, h => by
    obtain ⟨h3, h4⟩ := h c List.mem_cons_self
    have := wordFrom_bd l (a * 256 + c) (n + 1) (by omega) (by rw [Int.pow_succ]; omega) (fun x hx => h x (List.mem_cons_of_mem _ hx))
    rw [List.foldl_cons, List.length_cons, show n + (l.length + 1) = n + 1 + l.length from by omega]
    exact this
theorem wordOf_bd (l : List Int) (h : ∀ x ∈ l, 0 ≤ x ∧ x < 256) : 0 ≤ wordOf l ∧ wordOf l < 256 ^ l.length := by
  have := wordFrom_bd l 0 0 (by omega) (by decide) h
  rwa [Nat.zero_add] at this
end Go.Proofs.Ytfhgclojfjiblaa.Wrd
