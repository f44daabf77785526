/- A word out of its bytes, the highest first; 'u<<8 | c' as a sum. Conditions: bytes, words of 64 bits. · The contract of the reader's peek: the number at the place. Conditions: a reader whose bytes fit in memory. -/
import Derived.Laws.BitsAllLaws
import Derived.Laws.Bits64
import Derived.Test.YthaoiamgkpkcbaaDoorZMsgsTwice1
namespace Go.Proofs.YthaoiamgkpkcbaaDoor.Wrd
open Go
theorem or_byte {u c : Int} (h0 : 0 ≤ u) (h1 : u < 72057594037927936) (h2 : 0 ≤ c) (h3 : c < 256) : bits .or .u64 (u * 256) c = u * 256 + c := by
  obtain ⟨U, rfl⟩ := Int.eq_ofNat_of_zero_le h0
  obtain ⟨C, rfl⟩ := Int.eq_ofNat_of_zero_le h2
  have := u64_or_nat (U * 256) C (by omega) (by omega)
  have e : (((U * 256 : Nat)) : Int) = (U : Int) * 256 := by omega
  rw [e] at this
  rw [this]
  have h := Nat.two_pow_add_eq_or_of_lt (i := 8) (b := C) (by omega) U
  rw [show U * 256 = 2 ^ 8 * U from by omega, ← h]
  omega
/-- a word out of its bytes, the highest first -/
def wordOf (l : List Int) : Int := l.foldl (fun u c => u * 256 + c) 0
theorem wordOf_snoc (l : List Int) (c : Int) : wordOf (l ++ [c]) = wordOf l * 256 + c := by unfold wordOf; rw [List.foldl_append]; rfl
theorem wordFrom_bd : ∀ (l : List Int) (a : Int) (n : Nat), 0 ≤ a → a < 256 ^ n → (∀ x ∈ l, 0 ≤ x ∧ x < 256) → 0 ≤ l.foldl (fun u c => u * 256 + c) a ∧ l.foldl (fun u c => u * 256 + c) a < 256 ^ (n + l.length)
  | [], a, n, h0, h1, _ => ⟨h0, h1⟩
  | c :: l, a, n, h0, h1, h => by
    obtain ⟨h3, h4⟩ := h c List.mem_cons_self
    have := wordFrom_bd l (a * 256 + c) (n + 1) (by omega) (by rw [Int.pow_succ]; omega) (fun x hx => h x (List.mem_cons_of_mem _ hx))
    rw [List.foldl_cons, List.length_cons, show n + (l.length + 1) = n + 1 + l.length from by omega]
    exact this
theorem wordOf_bd (l : List Int) (h : ∀ x ∈ l, 0 ≤ x ∧ x < 256) : 0 ≤ wordOf l ∧ wordOf l < 256 ^ l.length := by
  have := wordFrom_bd l 0 0 (by omega) (by decide) h
  rwa [Nat.zero_add] at this
end Go.Proofs.YthaoiamgkpkcbaaDoor.Wrd

namespace Go.Proofs.YthaoiamgkpkcbaaDoor.Pk
open Go.ChangeShapes Go.WideShapes Go.ChangeAt Go.RowKit
open Go.Proofs.YthaoiamgkpkcbaaDoor.Hlp Go.Proofs.YthaoiamgkpkcbaaDoor.Wrd Go.Proofs.YthaoiamgkpkcbaaDoorW.PrintWords Go.Proofs.YthaoiamgkpkcbaaDoorW.PrintLast Go.Proofs.YthaoiamgkpkcbaaDoorW.PrintMore
set_option linter.unusedVariables false
set_option linter.unusedSimpArgs false
/-- the number at the begin: it, the bytes that it takes, what is wrong -/
def peekP : List Int → Int × Int × Int
  | [] => (0, 0, 12)
  | k :: r => if 8 < k then (0, 0, 11) else if (r.length : Int) < k then (0, 0, 12) else if 0 < k ∧ r.getD 0 0 = 0 then (0, 0, 11) else (wrap64 (wordOf (r.take k.toNat)), 1 + k, 0)
theorem peekP_cons (k : Int) (r : List Int) : peekP (k :: r) = if 8 < k then (0, 0, 11) else if (r.length : Int) < k then (0, 0, 12) else if 0 < k ∧ r.getD 0 0 = 0 then (0, 0, 11) else (wrap64 (wordOf (r.take k.toNat)), 1 + k, 0) := rfl
def peekV (l : List Int) : Value := .tuple #[.int .i64 (peekP l).1, .int .i64 (peekP l).2.1, .int .i64 (peekP l).2.2]
theorem peekV_of {l : List Int} {a b c : Int} (h : peekP l = (a, b, c)) : peekV l = .tuple #[.int .i64 a, .int .i64 b, .int .i64 c] := by unfold peekV; rw [h]
set_option maxRecDepth 100000 in
set_option maxHeartbeats 2000000 in
theorem peek_ {w : World} {g : Nat} {b : Option Addr} {c : Nat} {l : List Int} {e : Int} {ins : Bool} (h : Rd w g b c l e ins) :
    Calls Tryd.prog 78 #[.pointer (some ⟨g, 0, none⟩)] w fun x w' => x = .returned (peekV l) ∧ w = w' := by
  have h0 := h.c0
  have hm := h.row.2.1
  cases l with
  | nil =>
    have V := Lib.hid (peekV_of (rfl : peekP [] = (0, 0, 12)))
    go_enter Tryd.func78, Tryd.ntmps78
    go_wp2
    go_ret3
    exact ⟨by rw [V.out]; rfl, rfl⟩
  | cons k r =>
    obtain ⟨bb, off, rfl, hc⟩ := C_block h.row (by simp)
    have hc0 := hc 0 (by simp)
    rw [List.getElem_cons_zero, Nat.add_zero] at hc0
    have hcap := h.cap
    obtain ⟨hk0, hk1⟩ := h.bytes k List.mem_cons_self
    have HB := Aside0.mk (fun x hx => h.bytes x (List.mem_cons_of_mem k hx))
    have HC := Aside0.mk hc
    simp only [List.length_cons] at h0 hm hcap
    clear hc h
    by_cases h8 : 8 < k
    · have V := Lib.hid (peekV_of (show peekP (k :: r) = (0, 0, 11) by rw [peekP_cons, if_pos h8]))
      have t := decide_eq_true h8
      go_enter Tryd.func78, Tryd.ntmps78
      go_wp2
      go_ret3
      exact ⟨by rw [V.out]; rfl, rfl⟩
    have t := decide_eq_false h8
    by_cases hs : (r.length : Int) < k
    · have V := Lib.hid (peekV_of (show peekP (k :: r) = (0, 0, 12) by rw [peekP_cons, if_neg h8, if_pos hs]))
      have t2 : decide ((r.length : Int) + 1 ≤ k) = true := decide_eq_true (by omega)
      go_enter Tryd.func78, Tryd.ntmps78
      go_wp2
      go_ret3
      exact ⟨by rw [V.out]; rfl, rfl⟩
    have t2 : decide ((r.length : Int) + 1 ≤ k) = false := decide_eq_false (by omega)
    by_cases hz : 0 < k ∧ r.getD 0 0 = 0
    · have V := Lib.hid (peekV_of (show peekP (k :: r) = (0, 0, 11) by rw [peekP_cons, if_neg h8, if_neg hs, if_pos hz]))
      obtain ⟨hz1, hz2⟩ := hz
      have hr0 : 0 < r.length := by omega
      have hc1 := HC.out 1 (by simp; omega)
      have hz3 : (k :: r)[1]'(by simp; omega) = 0 := by rw [List.getElem_cons_succ, ← hz2]; simp [hr0]
      rw [hz3] at hc1
      have t3 := decide_eq_true hz1
      clear hz2 hz3
      go_enter Tryd.func78, Tryd.ntmps78
      go_wp2
      go_ret3
      exact ⟨by rw [V.out]; rfl, rfl⟩
    have V := Lib.hid (peekV_of (show peekP (k :: r) = (wrap64 (wordOf (r.take k.toNat)), 1 + k, 0) by rw [peekP_cons, if_neg h8, if_neg hs, if_neg hz]))
    by_cases hk : k = 0
    · subst hk
      have W0 : Aside0 (wrap64 (wordOf (r.take (0 : Int).toNat)) = 0) := ⟨by simp [wordOf, wrap64]⟩
      by_cases hc1 : c = 1
      · subst hc1
        obtain rfl : r = [] := by cases r; rfl; simp at hcap
        go_enter Tryd.func78, Tryd.ntmps78
        go_wp2
        go_loop [6, 53] (fun u i => u = .int .u64 0 ∧ i = .int .i64 0) (fun _ _ => 0)
        case atStart => exact ⟨rfl, rfl⟩
        case round =>
          obtain ⟨rfl, rfl⟩ := hrel
          go_wp2
          go_ret3
          exact ⟨by rw [V.out, W0.out]; rfl, rfl⟩
      · have hc2 : (c == 1) = false := by simpa using hc1
        go_enter Tryd.func78, Tryd.ntmps78
        go_wp2
        go_loop [6, 53] (fun u i => u = .int .u64 0 ∧ i = .int .i64 0) (fun _ _ => 0)
        case atStart => exact ⟨rfl, rfl⟩
        case round =>
          obtain ⟨rfl, rfl⟩ := hrel
          go_wp2
          go_ret3
          exact ⟨by rw [V.out, W0.out]; rfl, rfl⟩
    · have t3 : decide (0 < k) = true := decide_eq_true (by omega)
      have hr0 : 0 < r.length := by omega
      have hc1 := HC.out 1 (by simp; omega)
      have hz3 : r[0] ≠ 0 := fun e => hz ⟨by omega, by simp [hr0, e]⟩
      rw [List.getElem_cons_succ] at hc1
      have t4 : (r[0] == 0) = false := beq_eq_false_iff_ne.2 hz3
      generalize r[0] = y at *
      clear hz3 hz
      obtain ⟨n, rfl⟩ := Int.eq_ofNat_of_zero_le hk0
      have hc2 : (c == 1) = false := by simp; omega
      go_enter Tryd.func78, Tryd.ntmps78
      go_wp2
      have hn8 : n ≤ 8 := by omega
      have hnl : n ≤ r.length := by omega
      rw [Int.toNat_natCast] at V
      go_loop [6, 53] (fun u i => ∃ j : Nat, j ≤ n ∧ u = .int .u64 (wordOf (r.take j)) ∧ i = .int .i64 j) (fun _ i => n - (intOf i).toNat)
      case atStart => exact ⟨0, by omega, rfl, rfl⟩
      case round =>
        obtain ⟨j, hj, rfl, rfl⟩ := hrel
        by_cases hlt : j < n
        · have hjl : j < r.length := by omega
          have hcell := HC.out (j + 1) (by simp; omega)
          rw [List.getElem_cons_succ, show off + (j + 1) = off + 1 + j from by omega] at hcell
          have HT : Aside0 (wordOf (r.take (j + 1)) = wordOf (r.take j) * 256 + r[j]) := ⟨by rw [List.take_succ_eq_append_getElem hjl, wordOf_snoc]⟩
          obtain ⟨hx0, hx1⟩ := HB.out r[j] (List.getElem_mem hjl)
          have hU := wordOf_bd (r.take j) (fun x hx => HB.out x (List.mem_of_mem_take hx))
          rw [List.length_take, Nat.min_eq_left (by omega)] at hU
          have hp : (256 : Int) ^ j ≤ 256 ^ 7 := by
            have := Nat.pow_le_pow_right (n := 256) (by decide) (show j ≤ 7 by omega)
            have e : ((256 ^ j : Nat) : Int) ≤ ((256 ^ 7 : Nat) : Int) := Int.ofNat_le.2 this
            simpa using e
          have hU0 := hU.1
          have hU1 : wordOf (r.take j) < 72057594037927936 := by have := hU.2; omega
          have HO := Aside0.mk (or_byte hU0 hU1 hx0 hx1)
          clear hU hp
          have t9 : decide ((j : Int) < (n : Int)) = true := decide_eq_true (by omega)
          generalize r[j] = x at *
          generalize wordOf (r.take j) = u at *
          go_wp2_with fail
          go_round
          case rel => exact ⟨j + 1, by omega, by rw [HT.out, ← HO.out], by go_num⟩
          case measure => simp [intOf]; omega
        · obtain rfl : j = n := by omega
          clear HB HC
          generalize wordOf (r.take j) = u at *
          go_wp2_with fail
          go_ret3
          exact ⟨by rw [V.out]; rfl, rfl⟩
end Go.Proofs.YthaoiamgkpkcbaaDoor.Pk
