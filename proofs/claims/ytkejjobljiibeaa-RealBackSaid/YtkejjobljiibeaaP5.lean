/- What the printed functions icehouseref01.Read, icehouseref01.Bytes and icehouseref00.Same compute. Conditions: words of 64 bits, bytes. -/
import Derived.Test.YtkejjobljiibeaaC5
namespace Go.Proofs.Ytkejjobljiibeaa.Rl
open Go.RowKit Dbl Go.Proofs.Ytkejjobljiibeaa.PRealBytes
open Go.Proofs.YtkejjobljiibeaaW.PrintWords Go.Proofs.YtkejjobljiibeaaW.PrintLast Go.Proofs.YtkejjobljiibeaaW.PrintMore
set_option linter.unusedVariables false
set_option linter.unusedSimpArgs false
/-- what the reference reads -/
def rreadRes (l : List Int) : Int × Int := if canonU (wordOf l).toNat = (wordOf l).toNat then (wordOf l, 0) else (0, 11)
theorem kind_f (a : Int) (h : Wd a) : icehouseref01_Kind.f a = some (kindU a.toNat) := by
  have hp := h.1
  unfold icehouseref01_Kind.f
  rw [Int.tmod_eq_emod_of_nonneg hp]
  by_cases h0 : a % 9223372036854775808 = 0
  · rw [if_pos h0, kind0 h h0]
  · rw [if_neg h0]
    by_cases h1 : a % 9223372036854775808 < 9218868437227405312
    · rw [if_pos h1, kind1 h h0 h1]
    · rw [if_neg h1]
      by_cases h2 : a % 9223372036854775808 = 9218868437227405312
      · rw [if_pos h2, kind2 h h2]
      · rw [if_neg h2, kind3 h (by omega)]
theorem canon_f (a : Int) (h : Wd a) : icehouseref01_Canon.f a = some ((canonU a.toNat : Nat) : Int) := by
  unfold icehouseref01_Canon.f
  rw [kind_f a h]
  simp only [Option.bind_some]
  rcases kind_cases a.toNat with h0 | h0 | h0 | h0
  · rw [h0, if_pos rfl, canon0 h0]; rfl
  · rw [h0, if_neg (by omega), if_neg (by omega), canon12 (by omega) (by omega), h.cast]
  · rw [h0, if_neg (by omega), if_neg (by omega), canon12 (by omega) (by omega), h.cast]
  · rw [h0, if_neg (by omega), if_pos rfl, canon3 h0]; rfl
theorem read_l0 (l : List Int) (hl : l.length = 8) (hb : ∀ x ∈ l, 0 ≤ x ∧ x < 256) : ∀ (d i : Nat), i + d = 8 → ∀ k, d < k →
    icehouseref01_Read.l0 k l (wordOf (l.take i)) i = some (rreadRes l)
  | 0, i, hi, k, hk => by
    obtain ⟨k, rfl⟩ : ∃ m, k = m + 1 := ⟨k - 1, by omega⟩
    obtain rfl : i = 8 := by omega
    have hT : l.take 8 = l := by rw [← hl]; exact List.take_length
    have hbd := wordOf_bd l hb
    rw [hl] at hbd
    have hw : Wd (wordOf l) := ⟨hbd.1, hbd.2⟩
    simp only [icehouseref01_Read.l0]
    rw [if_neg (by omega), hT, canon_f _ hw]
    simp only [Option.bind_some]
    unfold rreadRes
    by_cases h : canonU (wordOf l).toNat = (wordOf l).toNat
    · rw [if_pos h, if_pos (by rw [h, hw.cast])]
    · rw [if_neg h, if_neg (by intro e; have := hw.cast; omega)]
  | d + 1, i, hi, k, hk => by
    obtain ⟨k, rfl⟩ : ∃ m, k = m + 1 := ⟨k - 1, by omega⟩
    have hlt : i < l.length := by omega
    have hbd := wordOf_bd (l.take i) (fun x hx => hb x (List.mem_of_mem_take hx))
    rw [List.length_take, hl, Nat.min_eq_left (by omega)] at hbd
    have hp : (256 : Int) ^ i ≤ 256 ^ 7 := by
      have := Nat.pow_le_pow_right (n := 256) (by decide) (show i ≤ 7 by omega)
      have e : ((256 ^ i : Nat) : Int) ≤ ((256 ^ 7 : Nat) : Int) := Int.ofNat_le.2 this
      simpa using e
    have hU1 : wordOf (l.take i) < 72057594037927936 := by have := hbd.2; omega
    have hx := hb l[i] (List.getElem_mem hlt)
    have hr : rd l (i : Int) = l[i] := by unfold rd; rw [Int.toNat_natCast]; simp [hlt]
    have ih := read_l0 l hl hb d (i + 1) (by omega) k (by omega)
    rw [List.take_succ_eq_append_getElem hlt, wordOf_snoc] at ih
    simp only [icehouseref01_Read.l0]
    rw [if_pos (by omega), if_pos (by omega), if_pos (by omega), hr, IntKind.wrap_u64, IntKind.wrap_u64, IntKind.wrap_u64]
    rw [show (wordOf (l.take i) * 256 % 18446744073709551616 + l[i] % 18446744073709551616) % 18446744073709551616 = wordOf (l.take i) * 256 + l[i] from by have := hbd.1; omega]
    rw [show wrap64 ((i : Int) + 1) = ((i + 1 : Nat) : Int) from by unfold wrap64; omega]
    exact ih
theorem read_f (l : List Int) (hl : l.length = 8) (hb : ∀ x ∈ l, 0 ≤ x ∧ x < 256) : icehouseref01_Read.f 9 l = some (rreadRes l) := by
  unfold icehouseref01_Read.f
  rw [if_pos (by omega)]
  exact read_l0 l hl hb 8 0 (by omega) 9 (by omega)
theorem read_f_len (l : List Int) (hl : l.length ≠ 8) : icehouseref01_Read.f 9 l = some (0, 11) := by
  unfold icehouseref01_Read.f
  rw [if_neg (by omega)]
/-- the bytes from a place on -/
def partR (u : Nat) (k : Nat) : List Int := (List.range 8).map fun i => if k < i + 1 then byteAt u i else 0
theorem partR_set (u k : Nat) (hk : k < 8) : (partR u (k + 1)).set k (byteAt u k) = partR u k := by
  apply List.ext_getElem (by simp [partR])
  intro i h1 h2
  simp only [partR, List.length_map, List.length_range] at h2
  rw [List.getElem_set]
  simp only [partR, List.getElem_map, List.getElem_range]
  by_cases e : k = i
  · subst e; simp
  · rw [if_neg e]
    by_cases h : k < i
    · rw [if_pos (by omega), if_pos (by omega)]
    · rw [if_neg (by omega), if_neg (by omega)]
theorem bytes_l0 (a : Nat) (ha : a < full) : ∀ (j : Nat), j ≤ 8 → ∀ k, j < k →
    icehouseref01_Bytes.l0 k ((a / 2 ^ (64 - 8 * j) : Nat) : Int) (partR a j) ((j : Int) - 1) = some (be8 a)
  | 0, _, k, hk => by
    obtain ⟨k, rfl⟩ : ∃ m, k = m + 1 := ⟨k - 1, by omega⟩
    simp only [icehouseref01_Bytes.l0]
    rw [if_neg (by omega)]
    congr 1
  | j + 1, hj, k, hk => by
    obtain ⟨k, rfl⟩ : ∃ m, k = m + 1 := ⟨k - 1, by omega⟩
    have ih := bytes_l0 a ha j (by omega) k (by omega)
    have hl : (partR a (j + 1)).length = 8 := by simp [partR]
    simp only [icehouseref01_Bytes.l0]
    have e1 : ((j + 1 : Nat) : Int) - 1 = j := by omega
    rw [e1, if_pos (by omega), if_pos (by omega), if_pos (by omega), Int.toNat_natCast]
    have hd : 64 - 8 * j = 64 - 8 * (j + 1) + 8 := by omega
    have hb : byteAt a j = (a / 2 ^ (64 - 8 * (j + 1)) : Nat) % 256 := by unfold byteAt; rw [show 56 - 8 * j = 64 - 8 * (j + 1) from by omega]; omega
    rw [hd, Nat.pow_add, ← Nat.div_div_eq_div_mul] at ih
    generalize hx : a / 2 ^ (64 - 8 * (j + 1)) = x at *
    have hxl : x < 18446744073709551616 := by rw [← hx]; exact Nat.lt_of_le_of_lt (Nat.div_le_self _ _) ha
    rw [Int.tmod_eq_emod_of_nonneg (by omega), Int.tdiv_eq_ediv_of_nonneg (by omega), IntKind.wrap_u64]
    rw [show ((x : Int) % 256) % 256 = byteAt a j from by rw [hb]; omega, partR_set a j (by omega)]
    rw [show (x : Int) / 256 % 18446744073709551616 = ((x / 2 ^ 8 : Nat) : Int) from by omega]
    rw [show wrap64 ((j : Int) - 1) = (j : Int) - 1 from by unfold wrap64; omega]
    exact ih
theorem bytes_f (a : Nat) (ha : a < full) : icehouseref01_Bytes.f 9 (a : Int) = some (be8 a) := by
  unfold icehouseref01_Bytes.f
  rw [if_pos (by omega)]
  have := bytes_l0 a ha 8 (by omega) 9 (by omega)
  rw [show List.replicate 8 (0 : Int) = partR a 8 from by unfold partR; rw [show (List.replicate 8 (0 : Int)) = (List.range 8).map (fun _ => (0 : Int)) from by decide]; exact List.map_congr_left fun i hi => by rw [if_neg (by have := List.mem_range.1 hi; omega)]]
  simpa using this
theorem same_f (l : List Int) : icehouseref00_Same.f l l = some true := by unfold icehouseref00_Same.f; simp
end Go.Proofs.Ytkejjobljiibeaa.Rl
