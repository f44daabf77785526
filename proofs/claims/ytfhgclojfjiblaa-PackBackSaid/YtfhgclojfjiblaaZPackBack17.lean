/- The reference's GetRow: the row lies in the bytes. Conditions: bytes that fit in memory. -/
import Derived.Test.YtfhgclojfjiblaaZPackBack16
namespace Go.Proofs.Ytfhgclojfjiblaa.Pk
open Go.ChangeShapes Go.WideShapes Go.ChangeAt Go.RowKit Go.Proofs.Ytfhgclojfjiblaa.Lex
open Go.Proofs.Ytfhgclojfjiblaa.Hlp Go.Proofs.Ytfhgclojfjiblaa.Wrd Go.Proofs.YtfhgclojfjiblaaW.PrintWords Go.Proofs.YtfhgclojfjiblaaW.PrintLast Go.Proofs.YtfhgclojfjiblaaW.PrintMore
set_option linter.unusedVariables false
set_option linter.unusedSimpArgs false
section
variable {w : World} {A : Option Addr} {n c : Nat} {l : List Int}
theorem rget_c (hr : Kd.C (Kd.int .u8) w A n l) (hc : n ≤ c) (p : Nat) (hp : p ≤ n) (hl : n ≤ 140737488351232) (hb : ∀ x ∈ l, 0 ≤ x ∧ x < 256) {x y z : Int} (hq : getP l p = (x, y, z)) :
    Calls Try.prog 37 #[.slice A n c, .int .i64 p] w fun e w' => e = .returned (.tuple #[.int .i64 x, .int .i64 y, .int .i64 z]) ∧ Below w.heap.size w w' := by
  obtain rfl : l.length = n := hr.1
  obtain ⟨K, hK⟩ := rget_ev l p hp hl hb
  refine (QR.icehouseref02_Get.calls K A c l p x y z w hr hc (by rw [← hq]; exact hK K (Nat.le_refl K))).mono ?_
  rintro e w1 ⟨rfl, h⟩
  exact ⟨rfl, h.below⟩
end
/-- a row at a place -/
def getRowP (l : List Int) (p : Nat) : List Int × Int × Int :=
  if (getP l p).2.2 = 0 then (if 0 ≤ (getP l p).1 ∧ (getP l p).1 ≤ 65536 then (if (l.length : Int) - (getP l p).2.1 < (getP l p).1 then ([], (p : Int), 12) else ((l.drop (getP l p).2.1.toNat).take (getP l p).1.toNat, (getP l p).2.1 + (getP l p).1, 0)) else ([], (p : Int), 11)) else ([], (p : Int), (getP l p).2.2)
theorem getP_at {l : List Int} {p : Nat} {n t : Int} (h : getP l p = (n, t, 0)) (hb : ∀ x ∈ l, 0 ≤ x ∧ x < 256) : ∃ k : Nat, peekP (l.drop p) = (n, (k : Int), 0) ∧ t = (p : Int) + (k : Int) ∧ 1 ≤ k ∧ p + k ≤ l.length ∧ p < l.length := by
  unfold getP at h
  by_cases h0 : (peekP (l.drop p)).2.2 = 0
  · rw [if_pos h0] at h
    simp only [Prod.mk.injEq] at h
    have hp : peekP (l.drop p) = (n, (peekP (l.drop p)).2.1, 0) := by
      rw [← h.1, ← h0]
    obtain ⟨h1, h2, h3⟩ := peekP_ok hp (fun x hx => hb x (List.mem_of_mem_drop hx))
    rw [List.length_drop] at h3
    obtain ⟨k, hk⟩ := Int.eq_ofNat_of_zero_le (show 0 ≤ (peekP (l.drop p)).2.1 by omega)
    rw [hk] at hp h h1 h3
    exact ⟨k, hp, h.2.1.symm, by omega, by omega, by omega⟩
  · rw [if_neg h0] at h
    simp only [Prod.mk.injEq] at h
    exact absurd h.2.2 h0
def RowAt (w0 w : World) (r : List Int × Int × Int) (x : Ending) (w' : World) : Prop := ∃ A c, x = .returned (.tuple #[.slice A r.1.length c, .int .i64 r.2.1, .int .i64 r.2.2]) ∧ Kd.C (Kd.int .u8) w0 A r.1.length r.1 ∧ r.1.length ≤ c ∧ Below w.heap.size w w'
theorem RowAt.nil {w0 w w' : World} (p e : Int) (h : Below w.heap.size w w') : RowAt w0 w ([], p, e) (.returned (.tuple #[.slice none 0 0, .int .i64 p, .int .i64 e])) w' := ⟨none, 0, rfl, C_empty, Nat.le_refl _, h⟩
set_option maxHeartbeats 2000000 in
theorem rgetrow_c {w0 w : World} {A : Option Addr} {n c : Nat} {l : List Int} (hr0 : Kd.C (Kd.int .u8) w0 A n l) (hr : Kd.C (Kd.int .u8) w A n l) (hc : n ≤ c) (p : Nat) (hp : p ≤ n) (hl : n ≤ 140737488351232) (hb : ∀ x ∈ l, 0 ≤ x ∧ x < 256) :
    Calls Try.prog 38 #[.slice A n c, .int .i64 p] w (RowAt w0 w (getRowP l p)) := by
  obtain rfl : l.length = n := hr.1
  obtain ⟨x, y, z, hq⟩ : ∃ x y z, getP l p = (x, y, z) := ⟨_, _, _, rfl⟩
  have K := Lib.hid (rget_c hr hc p hp hl hb hq)
  by_cases hz : z = 0
  · subst hz
    obtain ⟨k, hk, rfl, hk1, hk2, hk3⟩ := getP_at hq hb
    by_cases hin : 0 ≤ x ∧ x ≤ 65536
    · obtain ⟨hin1, hin2⟩ := hin
      obtain ⟨m, rfl⟩ := Int.eq_ofNat_of_zero_le hin1
      have t1 : decide ((m : Int) < 0) = false := decide_eq_false (by omega)
      have t2 : decide (65536 < (m : Int)) = false := decide_eq_false (by omega)
      have t2n : decide (65536 < m) = false := decide_eq_false (by omega)
      by_cases hs : (l.length : Int) - ((p : Int) + (k : Int)) < (m : Int)
      · have E := Lib.hid (show getRowP l p = ([], (p : Int), 12) by unfold getRowP; rw [hq]; simp only [if_true]; rw [if_pos ⟨hin1, hin2⟩, if_pos hs])
        have t3 : decide ((l.length : Int) - ((p : Int) + (k : Int)) < (m : Int)) = true := decide_eq_true hs
        clear hq hk hs
        go_enter Try.func38, Try.ntmps38
        go_wp2_with (go_at_call 37; (with_reducible refine K.out.mono ?_); rintro e w1 ⟨rfl, hb1⟩)
        go_ret3
        rw [E.out]
        exact RowAt.nil _ _ hb1
      · have E := Lib.hid (show getRowP l p = ((l.drop (p + k)).take m, ((p + k + m : Nat) : Int), 0) by unfold getRowP; rw [hq]; simp only [if_true]; rw [if_pos ⟨hin1, hin2⟩, if_neg hs]; simp only [Int.toNat_natCast]; congr 2)
        have t3 : decide ((l.length : Int) - ((p : Int) + (k : Int)) < (m : Int)) = false := decide_eq_false hs
        obtain ⟨bb, off, rfl, hcell⟩ := C_block hr (by omega)
        have hrow := C_take (C_drop hr0 (p + k) hk2) m (by rw [List.length_drop]; omega)
        have HR := Aside0.mk hrow
        have hm : ((l.drop (p + k)).take m).length = m := by rw [List.length_take, List.length_drop]; omega
        have HM := Lib.hid hm
        have b1 : (0 : Int) ≤ (p : Int) + (k : Int) := by omega
        have b2 : (p : Int) + (k : Int) + (m : Int) ≤ (l.length : Int) := by omega
        have b3 : (p : Int) + (k : Int) ≤ (p : Int) + (k : Int) + (m : Int) := by omega
        have b4 : (p : Int) + (k : Int) + (m : Int) ≤ (c : Int) := by omega
        clear hq hk hs hcell hrow hm hr hr0
        by_cases hcc : c = p + k
        · obtain rfl : m = 0 := by omega
          have hc2 : (c == p + k) = true := beq_iff_eq.2 hcc
          have HCc := Lib.hid hcc
          clear hcc
          go_enter Try.func38, Try.ntmps38
          go_wp2_with (go_at_call 37; (with_reducible refine K.out.mono ?_); rintro e w1 ⟨rfl, hb1⟩)
          go_ret3
          rw [E.out]
          refine ⟨some ⟨bb, off, none⟩, 0, ?_, ?_, ?_, hb1⟩
          · simp only [List.take_zero, List.length_nil, Nat.add_zero, Nat.sub_self]; simp
          · rw [List.take_zero]; exact C_empty
          · simp
        · have hc2 : (c == p + k) = false := beq_eq_false_iff_ne.2 hcc
          go_enter Try.func38, Try.ntmps38
          go_wp2_with (go_at_call 37; (with_reducible refine K.out.mono ?_); rintro e w1 ⟨rfl, hb1⟩)
          go_ret3
          rw [E.out]
          refine ⟨some ⟨bb, off + (p + k), none⟩, c - (p + k), ?_, ?_, ?_, hb1⟩
          · rw [HM.out]; simp
          · rw [HM.out]; exact HR.out
          · rw [HM.out]; omega
    · have E := Lib.hid (show getRowP l p = ([], (p : Int), 11) by unfold getRowP; rw [hq]; simp only [if_true]; rw [if_neg hin])
      by_cases hn : x < 0
      · have t1 := decide_eq_true hn
        clear hq hk hin hn
        go_enter Try.func38, Try.ntmps38
        go_wp2_with (go_at_call 37; (with_reducible refine K.out.mono ?_); rintro e w1 ⟨rfl, hb1⟩)
        go_ret3
        rw [E.out]
        exact RowAt.nil _ _ hb1
      · have t1 := decide_eq_false hn
        have t2 : decide (65536 < x) = true := decide_eq_true (by omega)
        clear hq hk hin hn
        go_enter Try.func38, Try.ntmps38
        go_wp2_with (go_at_call 37; (with_reducible refine K.out.mono ?_); rintro e w1 ⟨rfl, hb1⟩)
        go_ret3
        rw [E.out]
        exact RowAt.nil _ _ hb1
  · have E := Lib.hid (show getRowP l p = ([], (p : Int), z) by unfold getRowP; rw [hq]; simp only [if_neg hz])
    have hz2 : (z != 0) = true := bne_iff_ne.2 hz
    clear hq hz
    go_enter Try.func38, Try.ntmps38
    go_wp2_with (go_at_call 37; (with_reducible refine K.out.mono ?_); rintro e w1 ⟨rfl, hb1⟩)
    go_ret3
    rw [E.out]
    exact RowAt.nil _ _ hb1
end Go.Proofs.Ytfhgclojfjiblaa.Pk
