/- The walk of the law RealBack, for every word and every row of bytes. Conditions: those of the row alone. -/
import Derived.Test.YtkejjobljiibeaaRealBytes
namespace Go.Proofs.Ytkejjobljiibeaa.Rl
open Go.ChangeShapes Go.WideShapes Go.ChangeAt Go.RowKit Dbl Go.Proofs.Ytkejjobljiibeaa.PRealBytes
open Go.Proofs.YtkejjobljiibeaaW.PrintWords Go.Proofs.YtkejjobljiibeaaW.PrintLast Go.Proofs.YtkejjobljiibeaaW.PrintMore
set_option linter.unusedVariables false
set_option linter.unusedSimpArgs false
theorem be8_len (a : Nat) : (be8 a).length = 8 := by simp [be8]
theorem be8_bytes (a : Nat) : ∀ x ∈ be8 a, 0 ≤ x ∧ x < 256 := by
  intro x hx
  obtain ⟨i, _, rfl⟩ := List.mem_map.1 hx
  unfold byteAt; omega
/-- the bytes of a word are read as it -/
theorem word_be8 (a : Nat) (h : a < full) : wordOf (be8 a) = a := by
  unfold full at h
  simp only [wordOf, be8, List.range, List.range.loop, List.map, List.foldl, byteAt]
  omega
theorem be8_word (l : List Int) (hl : l.length = 8) (hb : ∀ x ∈ l, 0 ≤ x ∧ x < 256) : be8 (wordOf l).toNat = l := by
  match l, hl with
  | [a, b, c, d, e, f, g, h], _ =>
    have h0 := hb a (by simp); have h1 := hb b (by simp); have h2 := hb c (by simp); have h3 := hb d (by simp)
    have h4 := hb e (by simp); have h5 := hb f (by simp); have h6 := hb g (by simp); have h7 := hb h (by simp)
    simp only [wordOf, be8, List.range, List.range.loop, List.map, List.foldl, byteAt, List.cons.injEq, and_true]
    refine ⟨?_, ?_, ?_, ?_, ?_, ?_, ?_, ?_⟩ <;> omega
theorem canon_canon (a : Nat) : canonU (canonU a) = canonU a := by
  rcases kind_cases a with h | h | h | h
  · rw [canon0 h]; decide
  · rw [canon12 (a := a) (by omega) (by omega), canon12 (by omega) (by omega)]
  · rw [canon12 (a := a) (by omega) (by omega), canon12 (by omega) (by omega)]
  · rw [canon3 h]; decide
theorem cmp_canon (a : Nat) : cmpU a (canonU a) = 0 := by rw [cmp_eq]; unfold rank; rw [canon_canon]
theorem read_be8 (a : Nat) (h : a < full) : readRes (be8 (canonU a)) = .tuple #[.float .f64 (canonU a), .int .i64 0] := by
  have e : (wordOf (be8 (canonU a))).toNat = canonU a := by rw [word_be8 _ (canonU_lt h)]; rfl
  rw [readRes_yes (by rw [e, canon_canon]), e]
set_option maxHeartbeats 2000000 in
/-- the first half: what b reads is, and the law up to its last test -/
theorem realBack (w : World) (a : Int) (wa : (Lit.int .u64 a).wf = true) (A : Option Addr) (c : Nat) (l : List Int) (hr : Kd.C (Kd.int .u8) w A l.length l) (hc : l.length ≤ c) (wf : l.length ≤ maxLen ∧ l.length * 1 ≤ 140737488351232 ∧ ∀ x ∈ l, (Lit.int .u8 x).wf = true) :
    Calls Try.prog 8 #[.int .u64 a, .slice A l.length c] w fun e w' => e = .returned (.bool true) ∧ Below w.heap.size w w' := by
  have ha := wd_of_wf wa
  have hb := byte_wf wf.2.2
  have hm := hr.2.1
  have na := ha.nat
  have nc := canonU_lt na
  obtain ⟨x, hx⟩ : ∃ x, a.toNat = x := ⟨_, rfl⟩
  have HX := Aside0.mk hx
  rw [hx] at na nc
  have h12 : ∀ w : World, (callFunc 12 #[.int .u64 a]).run Try.prog w = .ok (.value (.float .f64 x)) w := fun w => by rw [c12, hx]
  have RB := Aside0.mk (read_be8 x na)
  have CC := Aside0.mk (canon_canon x)
  have CM := Aside0.mk (cmp_canon x)
  have HB8 := Aside0.mk (be8_bytes (canonU x))
  have HR := Aside0.mk hr
  have HL8 := Lib.hid (be8_len (canonU x))
  clear wf wa hr hx ha
  by_cases h8 : l.length = 8
  · have H8 := Lib.hid h8
    clear h8
    by_cases hs : canonU (wordOf l).toNat = (wordOf l).toNat
    · have S := Aside0.mk (readRes_yes hs)
      have BW := Aside0.mk (be8_word l H8.out hb)
      have hbd := wordOf_bd l hb
      rw [H8.out] at hbd
      have hn : (wordOf l).toNat < full := by unfold full; have := hbd.1; have := hbd.2; omega
      clear hbd hs
      generalize (wordOf l).toNat = n at *
      go_enter Try.func8, Try.ntmps8
      go_wp2_with
            (first
            | (go_at_call 14; (with_reducible refine (canon x _).mono ?_); rintro e w' ⟨rfl, rfl⟩)
            | (go_at_call 30; (with_reducible refine (bytes_ _ nc _).mono ?_); rintro e w1 ⟨v1, rfl, ho1, hb1⟩; obtain ⟨A1, c1, rfl, hc1, hr1⟩ := Kd.R_reads ho1; have HR1 := Aside0.mk hr1; have HRr := Aside0.mk (Kd.C_below HR.out hb1); have HB1 := Aside0.mk hb1; clear hr1 ho1 hb1)
            | (go_at_call 27; (with_reducible refine (read_all _ _ (be8 (canonU x)) _ HR1.out HL8 HB8.out).mono ?_); rw [RB.out]; rintro e w' ⟨rfl, rfl⟩)
            | (go_at_call 27; (with_reducible refine (read_all _ _ l _ HRr.out H8 hb).mono ?_); rw [S.out]; rintro e w' ⟨rfl, rfl⟩)
            | (go_at_call 22; (with_reducible refine (same _ _ _).mono ?_); rintro e w' ⟨rfl, rfl⟩)
            | (go_at_call 14; (with_reducible refine (canon (canonU x) _).mono ?_); rw [CC.out]; rintro e w' ⟨rfl, rfl⟩)
            | (go_at_call 20; (with_reducible refine (compare_ x (canonU x) na nc _).mono ?_); rw [CM.out]; rintro e w' ⟨rfl, rfl⟩)
            | (go_at_call 30; (with_reducible refine (bytes_ _ hn _).mono ?_); rw [BW.out]; rintro e w2 ⟨v2, rfl, ho2, hb2⟩; obtain ⟨A2, c2, rfl, hc2, hr2⟩ := Kd.R_reads ho2; have HR2 := Aside0.mk hr2; have HRs := Aside0.mk (Kd.C_below HRr.out hb2); have HB2 := Aside0.mk (below_step HB1.out hb2); clear hr2 ho2 hb2)
            | (go_at_call 29; (with_reducible refine (icehouseref00_Same.calls _ _ l _ _ l true _ HR2.out hc2 HRs.out hc (same_f _)).mono ?_); rintro e w' ⟨rfl, ⟨nd2, rfl⟩⟩)
            | (go_at_call 23; (with_reducible refine (known_ _).mono ?_); rintro e w' ⟨rfl, rfl⟩))
      go_ret
      exact ⟨rfl, pw_below_drewN HB2.out nd2⟩
    · have S := Aside0.mk (readRes_no hs)
      clear hs
      go_enter Try.func8, Try.ntmps8
      go_wp2_with
            (first
            | (go_at_call 14; (with_reducible refine (canon x _).mono ?_); rintro e w' ⟨rfl, rfl⟩)
            | (go_at_call 30; (with_reducible refine (bytes_ _ nc _).mono ?_); rintro e w1 ⟨v1, rfl, ho1, hb1⟩; obtain ⟨A1, c1, rfl, hc1, hr1⟩ := Kd.R_reads ho1; have HR1 := Aside0.mk hr1; have HRr := Aside0.mk (Kd.C_below HR.out hb1); have HB1 := Aside0.mk hb1; clear hr1 ho1 hb1)
            | (go_at_call 27; (with_reducible refine (read_all _ _ (be8 (canonU x)) _ HR1.out HL8 HB8.out).mono ?_); rw [RB.out]; rintro e w' ⟨rfl, rfl⟩)
            | (go_at_call 27; (with_reducible refine (read_all _ _ l _ HRr.out H8 hb).mono ?_); rw [S.out]; rintro e w' ⟨rfl, rfl⟩)
            | (go_at_call 22; (with_reducible refine (same _ _ _).mono ?_); rintro e w' ⟨rfl, rfl⟩)
            | (go_at_call 14; (with_reducible refine (canon (canonU x) _).mono ?_); rw [CC.out]; rintro e w' ⟨rfl, rfl⟩)
            | (go_at_call 20; (with_reducible refine (compare_ x (canonU x) na nc _).mono ?_); rw [CM.out]; rintro e w' ⟨rfl, rfl⟩)
            | (go_at_call 23; (with_reducible refine (known_ _).mono ?_); rintro e w' ⟨rfl, rfl⟩))
      go_ret
      exact ⟨rfl, HB1.out⟩
  · go_enter Try.func8, Try.ntmps8
    go_wp2_with
          (first
          | (go_at_call 14; (with_reducible refine (canon x _).mono ?_); rintro e w' ⟨rfl, rfl⟩)
          | (go_at_call 30; (with_reducible refine (bytes_ _ nc _).mono ?_); rintro e w1 ⟨v1, rfl, ho1, hb1⟩; obtain ⟨A1, c1, rfl, hc1, hr1⟩ := Kd.R_reads ho1; have HR1 := Aside0.mk hr1; have HRr := Aside0.mk (Kd.C_below HR.out hb1); have HB1 := Aside0.mk hb1; clear hr1 ho1 hb1)
          | (go_at_call 27; (with_reducible refine (read_all _ _ (be8 (canonU x)) _ HR1.out HL8 HB8.out).mono ?_); rw [RB.out]; rintro e w' ⟨rfl, rfl⟩)
          | (go_at_call 27; (with_reducible refine (read_len _ _ _ _ h8 hm).mono ?_); rintro e w' ⟨rfl, rfl⟩)
          | (go_at_call 22; (with_reducible refine (same _ _ _).mono ?_); rintro e w' ⟨rfl, rfl⟩)
          | (go_at_call 14; (with_reducible refine (canon (canonU x) _).mono ?_); rw [CC.out]; rintro e w' ⟨rfl, rfl⟩)
          | (go_at_call 20; (with_reducible refine (compare_ x (canonU x) na nc _).mono ?_); rw [CM.out]; rintro e w' ⟨rfl, rfl⟩)
          | (go_at_call 23; (with_reducible refine (known_ _).mono ?_); rintro e w' ⟨rfl, rfl⟩))
    go_ret
    exact ⟨rfl, HB1.out⟩
end Go.Proofs.Ytkejjobljiibeaa.Rl
