/- The reader inside of read: fail panics. Conditions: bytes that fit in memory. -/
import Derived.Test.YtfhgclojfjiblaaZPackBack5
import Derived.Defers
import Derived.Recover
import Derived.Laws.Pointers
import Derived.Deep.AppendLies
import Derived.Deep.RegionLaw
import Derived.Deep.RegionWith
import Derived.Deep.RegionHeld3
namespace Go.Proofs.Ytfhgclojfjiblaa.Pk
open Go.ChangeShapes Go.WideShapes Go.ChangeAt Go.RowKit
open Go.Proofs.Ytfhgclojfjiblaa.Hlp Go.Proofs.Ytfhgclojfjiblaa.Wrd Go.Proofs.YtfhgclojfjiblaaW.PrintWords Go.Proofs.YtfhgclojfjiblaaW.PrintLast Go.Proofs.YtfhgclojfjiblaaW.PrintMore
set_option linter.unusedVariables false
set_option linter.unusedSimpArgs false
/-- what a reader that is inside of read panics with -/
def pan (e : Int) : List PanicEntry := [{ v := .iface 72 (.agg #[.int .i64 e]), recovered := false }]
theorem fail_in {w : World} {g : Nat} {b : Option Addr} {c : Nat} {l : List Int} {e : Int} (h : Rd w g b c l e true) (e' : Int) :
    Calls Try.prog 33 #[.pointer (some ⟨g, 0, none⟩), .int .i64 e'] w fun x w' => x = .panicked (pan e') ∧ w' = w.setCell ⟨g, 1, none⟩ (.int .i64 e') := by
  have h1 := h.c1
  have h2 := h.c2
  have f1 := h.f 1
  have h3 := (h.wrong e').c2
  go_enter Try.func33, Try.ntmps33
  go_wp2
  exact ⟨rfl, rfl, rfl⟩
set_option maxHeartbeats 1000000 in
theorem advI {w : World} {g bb off c : Nat} {l : List Int} {ins : Bool} {k : Nat} (h : Rd w g (some ⟨bb, off, none⟩) c l 0 ins) (hk : k ≤ l.length) :
    (c = k → ∃ b' c', Rd (w.setCell ⟨g, 0, none⟩ (.slice (some ⟨bb, off, none⟩) 0 0)) g b' c' (l.drop k) 0 ins ∧ ∀ p q, b' = some ⟨p, q, none⟩ → p = bb) ∧
    (c ≠ k → ∃ b' c', Rd (w.setCell ⟨g, 0, none⟩ (.slice (some ⟨bb, off + k, none⟩) (l.length - k) (c - k))) g b' c' (l.drop k) 0 ins ∧ ∀ p q, b' = some ⟨p, q, none⟩ → p = bb) := by
  have hc := h.cap
  constructor
  · intro e
    have hl : l.drop k = [] := List.drop_eq_nil_of_le (by omega)
    rw [hl]
    exact ⟨_, _, h.none 0, fun p q e => by injection e with e; injection e with e _ _; exact e.symm⟩
  · intro _
    have := h.rest k hk
    rw [List.length_drop] at this
    exact ⟨_, _, this, fun p q e => by injection e with e; injection e with e _ _; exact e.symm⟩
theorem num_in {w : World} {g : Nat} {b : Option Addr} {c : Nat} {l : List Int} {n k : Int} (h : Rd w g b c l 0 true) (hp : peekP l = (n, k, 0)) :
    Calls Try.prog 20 #[.pointer (some ⟨g, 0, none⟩)] w fun x w' => x = .returned (.int .i64 n) ∧ (∃ u, w' = w.setCell ⟨g, 0, none⟩ u) ∧ ∃ b' c', Rd w' g b' c' (l.drop k.toNat) 0 true ∧ ∀ p q, b' = some ⟨p, q, none⟩ → ∃ q', b = some ⟨p, q', none⟩ := by
  have hd : ((0 : Int) != 0) = false := rfl
  have V := Lib.hid (peekV_of hp)
  obtain ⟨hk1, hk9, hkl⟩ := peekP_ok hp h.bytes
  have h0 := h.c0
  have f0 := h.f 0
  have hm := h.row.2.1
  obtain ⟨K, rfl⟩ := Int.eq_ofNat_of_zero_le (show 0 ≤ k by omega)
  rw [Int.toNat_natCast]
  obtain ⟨bb, off, rfl, hcell⟩ := C_block h.row (by omega)
  have hA := advI h (k := K) (by omega)
  have hcap := h.cap
  have HR := Aside0.mk h
  clear hp h hcell
  by_cases hc : c = K
  · have A1 := Aside0.mk (hA.1 hc)
    subst hc
    clear hA
    go_enter Try.func20, Try.ntmps20
    go_wp2_with (first | (go_at_call 32; (with_reducible refine (dead_ HR.out).mono ?_); rintro e w' ⟨rfl, rfl⟩) | (go_at_call 34; (with_reducible refine (peek_ HR.out).mono ?_); rw [V.out]; rintro e w' ⟨rfl, rfl⟩))
    go_ret
    obtain ⟨b', c', r1, r2⟩ := A1.out
    exact ⟨rfl, ⟨_, rfl⟩, b', c', r1, fun p q e => ⟨off, by rw [r2 p q e]⟩⟩
  · have A1 := Aside0.mk (hA.2 hc)
    have hc2 : (c == K) = false := beq_eq_false_iff_ne.2 hc
    clear hA
    go_enter Try.func20, Try.ntmps20
    go_wp2_with (first | (go_at_call 32; (with_reducible refine (dead_ HR.out).mono ?_); rintro e w' ⟨rfl, rfl⟩) | (go_at_call 34; (with_reducible refine (peek_ HR.out).mono ?_); rw [V.out]; rintro e w' ⟨rfl, rfl⟩))
    go_ret
    obtain ⟨b', c', r1, r2⟩ := A1.out
    exact ⟨rfl, ⟨_, rfl⟩, b', c', r1, fun p q e => ⟨off, by rw [r2 p q e]⟩⟩
set_option maxHeartbeats 1000000 in
theorem num_panics {w : World} {g : Nat} {b : Option Addr} {c : Nat} {l : List Int} {n k x : Int} (h : Rd w g b c l 0 true) (hp : peekP l = (n, k, x)) (hx : x ≠ 0) :
    Calls Try.prog 20 #[.pointer (some ⟨g, 0, none⟩)] w fun y w' => y = .panicked (pan x) ∧ w' = w.setCell ⟨g, 1, none⟩ (.int .i64 x) := by
  have hd : ((0 : Int) != 0) = false := rfl
  have V := Lib.hid (peekV_of hp)
  have hx2 : (x != 0) = true := bne_iff_ne.2 hx
  have HR := Aside0.mk h
  clear hp h hx
  go_enter Try.func20, Try.ntmps20
  go_wp2_with (first | (go_at_call 32; (with_reducible refine (dead_ HR.out).mono ?_); rintro e w' ⟨rfl, rfl⟩) | (go_at_call 34; (with_reducible refine (peek_ HR.out).mono ?_); rw [V.out]; rintro e w' ⟨rfl, rfl⟩) | (go_at_call 33; (with_reducible refine (fail_in HR.out _).mono ?_); rintro e w' ⟨rfl, rfl⟩))
  exact ⟨rfl, rfl, rfl⟩
theorem C_sameI {w w1 : World} {A : Option Addr} {n : Nat} {xs : List Int} (h : Kd.C (Kd.int .u8) w A n xs) (hs : ∀ p o, A = some ⟨p, o, none⟩ → w1.heap[p]? = w.heap[p]?) : Kd.C (Kd.int .u8) w1 A n xs := by
  obtain rfl : xs.length = n := h.1
  rcases Nat.eq_zero_or_pos xs.length with h0 | h0
  · obtain rfl := List.length_eq_zero_iff.1 h0
    exact C_empty
  · obtain ⟨b, off, rfl, hc⟩ := C_block h h0
    refine C_mk h.2.1 fun k hk => ?_
    rw [← hc k hk]
    have := hs b off rfl
    simp [World.cell?, this]
/-- the block of a row that is read lies in the world -/
theorem C_in {w : World} {p q n : Nat} {xs : List Int} (h : Kd.C (Kd.int .u8) w (some ⟨p, q, none⟩) n xs) (h0 : xs ≠ []) : p < w.heap.size := by
  obtain rfl : xs.length = n := h.1
  have hp := List.length_pos_iff.2 h0
  obtain ⟨b, off, e, hc⟩ := C_block h hp
  injection e with e
  injection e with e _ _
  subst e
  have := hc 0 hp
  cases hq : w.heap[p]? with
  | none => simp [World.cell?, hq] at this
  | some o => exact blk_lt hq
theorem rd_stands {w w1 : World} {g : Nat} {b : Option Addr} {c : Nat} {l : List Int} {e : Int} {ins : Bool} (h : Rd w g b c l e ins) {row : Option Nat} (hg : w.grownBy w1 row) (h1 : some g ≠ row) (h2 : l ≠ [] → ∀ p o, b = some ⟨p, o, none⟩ → some p ≠ row) : Rd w1 g b c l e ins where
  blk := (hg.block g (blk_lt h.blk) h1).trans h.blk
  row := by
    by_cases h0 : l = []
    · subst h0; exact C_empty
    · refine C_sameI h.row fun p q e => ?_
      have := h.row
      rw [e] at this
      exact hg.block p (C_in this h0) (h2 h0 p q e)
  cap := h.cap
  bytes := h.bytes
/-- what an elder world keeps: all below a mark but the reader's block and another one -/
structure Kp (w w' : World) (base g o : Nat) : Prop where
  os : w'.os = w.os
  tape : w'.tape = w.tape
  output : w'.output = w.output
  size : w.heap.size ≤ w'.heap.size
  block : ∀ k, k < base → k ≠ g → k ≠ o → w'.heap[k]? = w.heap[k]?
theorem Kp.refl (w : World) (base g o : Nat) : Kp w w base g o := ⟨rfl, rfl, rfl, Nat.le_refl _, fun _ _ _ _ => rfl⟩
theorem Kp.grown {w w1 w2 : World} {base g o : Nat} {row : Option Nat} (h : Kp w w1 base g o) (hb : base ≤ w.heap.size) (hg : w1.grownBy w2 row) (hr : ∀ q, row = some q → q = g ∨ q = o ∨ base ≤ q) : Kp w w2 base g o :=
  ⟨hg.os.trans h.os, hg.tape.trans h.tape, hg.output.trans h.output, Nat.le_trans h.size hg.size, fun k hk h1 h2 => (hg.block k (Nat.lt_of_lt_of_le hk (Nat.le_trans hb h.size)) (by
    intro hq
    rcases hr k hq.symm with e | e | e
    · exact h1 e
    · exact h2 e
    · omega)).trans (h.block k hk h1 h2)⟩
theorem Kp.drew {w w1 : World} {base g o : Nat} (h : Kp w w1 base g o) : Kp w w1.drew base g o := ⟨h.os, h.tape, h.output, h.size, h.block⟩
/-- all numbers, and what is wrong first -/
def numsS (l : List Int) : List Int × Int :=
  if h0 : l = [] then ([], 0) else
  if h : (peekP l).2.2 = 0 ∧ 1 ≤ (peekP l).2.1 then ((peekP l).1 :: (numsS (l.drop (peekP l).2.1.toNat)).1, (numsS (l.drop (peekP l).2.1.toNat)).2) else ([], (peekP l).2.2)
termination_by l.length
decreasing_by
  all_goals
    rw [List.length_drop]
    have : 0 < l.length := List.length_pos_iff.2 h0
    omega
theorem numsS_nil : numsS [] = ([], 0) := by unfold numsS; simp
theorem numsS_ok {l : List Int} {n k : Int} (h0 : l ≠ []) (hp : peekP l = (n, k, 0)) (hk : 1 ≤ k) : numsS l = (n :: (numsS (l.drop k.toNat)).1, (numsS (l.drop k.toNat)).2) := by
  rw [numsS]
  simp [h0, hp, hk]
theorem numsS_bad {l : List Int} {n k e : Int} (h0 : l ≠ []) (hp : peekP l = (n, k, e)) (he : e ≠ 0) : numsS l = ([], e) := by
  rw [numsS]
  simp [h0, hp, he]
theorem infoI8 : (Try.prog.info? 3).map (fun i => (i.zero, i.size, i.bytes)) = some (some (.int .i64 0), 1, 8) := by kernel_rfl
/-- one more is appended, in a region that draws its order -/
theorem step_int {ops : Array Oper} {o : Oper} {a : Act} {K : Act → World → Prop} {Q : Exit → Act → World → Prop} {E : Prop} {w : World} (hgd : o.guard = none) (s x : Operand)
    (ho : o.op = .call { callee := .builtin .append, args := #[s, x], argTypes := #[44, 44] })
    (base : Nat) (v : Value) (xs : List Int) (y : Int) (g0 : Nat) (ok : Nat → Prop) (hs : a.eval s = v) (hO : Kd.R (Kd.int .i64) 3 w base ok v xs)
    (hx : a.eval x = .slice (some ⟨g0, 0, none⟩) 1 1) (hg0 : w.cell? ⟨g0, 0, none⟩ = some (.int .i64 y)) (hok : ∀ k, w.heap.size ≤ k → ok k)
    (hl : xs.length + 1 ≤ 17592186044415) (hbase : base ≤ w.heap.size)
    (h : ∀ v1 w', Kd.R (Kd.int .i64) 3 w' base ok v1 (xs ++ [y]) → w.grownBy w' v.ownBlock → (v1.ownBlock = v.ownBlock ∨ v1.ownBlock = some w.heap.size) → K (a.put o.dst v1) w') :
    if Region.wanted o (yielded ops a.tmps) = true then Oper.wp Try.prog o a w K Q else E := by
  obtain ⟨i0, hi0, hz0, hz1, hz2⟩ := info_parts infoI8
  have hown := Kd.own_of_R (enc := Value.int .i64) (h1 := fun _ => rfl) hO
  refine step_append_lies w hgd s x _ ho base _ i0 _ 1 8 Try.underlying44 hi0 hz0 hz1 hz2 rfl (by omega) v xs.length _ hs hown ⟨g0, 0, none⟩ 1 1 [.int .i64 y] hx rfl ?_ (by simp [Value.oneCell']) (by omega) (by unfold maxLen; omega) (by omega) hbase _ rfl ?_
  · intro j u hj
    have hj0 : j = 0 := by have := (List.getElem?_eq_some_iff.1 hj).1; simpa using this
    subst hj0
    simp at hj
    subst hj
    rw [show (⟨g0, 0, none⟩ : Addr).add 0 = ⟨g0, 0, none⟩ by unfold Addr.add; split <;> simp_all]
    exact hg0
  · intro g cap w' hown' hgrow hat hlt
    refine h _ w' (Kd.R_of_own (enc := Value.int .i64) (h1 := fun _ => rfl) ?_ ?_) hgrow ?_
    · rw [List.length_append, List.length_singleton]
      simpa [encs] using hown'
    · intro k hk
      have : k = g := by simpa [Value.ownBlock] using hk.symm
      subst this
      rcases hat with hat | hat
      · exact hO.1 k hat
      · exact hok k (by omega)
    · rcases hat with hat | hat
      · exact .inl (Eq.trans rfl hat.symm)
      · exact .inr (congrArg some hat)
end Go.Proofs.Ytfhgclojfjiblaa.Pk
