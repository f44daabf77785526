/- The walk of the law RealBytes, for every word and every row of bytes. Conditions: those of the row alone. -/
import Derived.Test.YtkejjobljiibeaaP5
namespace Go.Proofs.Ytkejjobljiibeaa.Rl
open Go.ChangeShapes Go.WideShapes Go.ChangeAt Go.RowKit Dbl Go.Proofs.Ytkejjobljiibeaa.PRealBytes
open Go.Proofs.YtkejjobljiibeaaW.PrintWords Go.Proofs.YtkejjobljiibeaaW.PrintLast Go.Proofs.YtkejjobljiibeaaW.PrintMore
set_option linter.unusedVariables false
set_option linter.unusedSimpArgs false
theorem byte_wf {l : List Int} (h : ∀ x ∈ l, (Lit.int .u8 x).wf = true) : ∀ x ∈ l, 0 ≤ x ∧ x < 256 := by
  intro x hx
  have := h x hx
  simp [Lit.wf] at this
  have h2 := this.2
  simp [IntKind.max, IntKind.bits, IntKind.signed] at h2
  exact ⟨this.1, by omega⟩
theorem read_all (A : Option Addr) (c : Nat) (l : List Int) (w : World) (hr : Kd.C (Kd.int .u8) w A l.length l) (h8 : Hid (l.length = 8)) (hb : ∀ x ∈ l, 0 ≤ x ∧ x < 256) :
    Calls Try.prog 27 #[.slice A l.length c] w fun e w' => e = .returned (readRes l) ∧ w = w' := by
  have h := h8.out
  rw [h] at hr ⊢
  exact read_any A c l w hr hb
set_option maxHeartbeats 2000000 in
theorem realBytes (w : World) (a : Int) (wa : (Lit.int .u64 a).wf = true) (A : Option Addr) (c : Nat) (l : List Int) (hr : Kd.C (Kd.int .u8) w A l.length l) (hc : l.length ≤ c) (wf : l.length ≤ maxLen ∧ l.length * 1 ≤ 140737488351232 ∧ ∀ x ∈ l, (Lit.int .u8 x).wf = true) :
    Calls Try.prog 7 #[.int .u64 a, .slice A l.length c] w fun e w' => e = .returned (.bool true) ∧ Below w.heap.size w w' := by
  have ha := wd_of_wf wa
  have hb := byte_wf wf.2.2
  have hm := wf.1
  unfold maxLen at hm
  clear wf wa
  by_cases hlen : (l.length : Int) > 100
  · have t := decide_eq_true hlen
    go_enter Try.func7, Try.ntmps7
    go_wp2_with (go_at_call 23; (with_reducible refine (known_ _).mono ?_); rintro e w' ⟨rfl, rfl⟩)
    go_ret
    exact ⟨rfl, Below.refl _ _⟩
  have t : decide (100 < (l.length : Int)) = false := decide_eq_false (by omega)
  have t2 : decide (100 < l.length) = false := decide_eq_false (by omega)
  by_cases h8 : l.length = 8
  · have hbd := wordOf_bd l hb
    rw [h8] at hbd
    have hW : Wd (wordOf l) := ⟨hbd.1, hbd.2⟩
    have hcast := hW.cast
    have R1 := read_f l h8 hb
    have H8 := Lib.hid h8
    by_cases hs : canonU (wordOf l).toNat = (wordOf l).toNat
    · have S := readRes_yes hs
      unfold rreadRes at R1
      rw [if_pos hs] at R1
      rw [← hcast] at R1
      have S1 := Lib.hid S
      clear S hs hbd hcast hW
      generalize (wordOf l).toNat = n at *
      have R1 := Lib.hid R1
      have h12 := c12
      have h13 := c13
      have hn := ha.nat
      have B1 := Lib.hid (show icehouseref01_Bytes.f 9 a = some (be8 a.toNat) from by have := bytes_f a.toNat hn; rwa [ha.cast] at this)
      have HR := Aside0.mk hr
      clear h8
      clear hr hlen
      go_enter Try.func7, Try.ntmps7
      go_wp2_with (first
        | (go_at_call 27; (with_reducible refine (read_all _ _ _ _ HR.out H8 hb).mono ?_); rw [S1.out]; rintro e w' ⟨rfl, rfl⟩)
        | (go_at_call 28; (with_reducible refine (icehouseref01_Read.calls 9 _ _ l _ _ _ HR.out hc R1.out).mono ?_); rintro e w' ⟨rfl, ⟨nd, rfl⟩⟩)
        | (go_at_call 30; (with_reducible refine (bytes_ _ hn _).mono ?_); rintro e w1 ⟨v1, rfl, ho1, hb1⟩; obtain ⟨A1, c1, rfl, hc1, hr1⟩ := Kd.R_reads ho1; have HR1 := Aside0.mk hr1; have HB1 := Aside0.mk (below_step (pw_below_drewN (Below.refl _ w) nd) hb1); clear hr1 ho1 hb1)
        | (go_at_call 31; (with_reducible refine (icehouseref01_Bytes.calls 9 _ _ _ B1.out).mono ?_); rintro e w2 ⟨v2, rfl, ho2, hb2⟩; obtain ⟨A2, c2, rfl, hc2, hr2⟩ := Kd.R_reads ho2; have HR2 := Aside0.mk hr2; have HR3 := Aside0.mk (Kd.C_below HR1.out hb2); have HB2 := Aside0.mk (below_step HB1.out hb2); clear hr2 ho2 hb2)
        | (go_at_call 29; (with_reducible refine (icehouseref00_Same.calls _ _ _ _ _ _ true _ HR3.out hc1 HR2.out hc2 (same_f _)).mono ?_); rintro e w' ⟨rfl, ⟨nd2, rfl⟩⟩)
        | (go_at_call 23; (with_reducible refine (known_ _).mono ?_); rintro e w' ⟨rfl, rfl⟩))
      go_ret
      exact ⟨rfl, pw_below_drewN HB2.out nd2⟩
    · have S := readRes_no hs
      unfold rreadRes at R1
      rw [if_neg hs] at R1
      have S1 := Lib.hid S
      clear S hs hbd hcast hW
      have R1 := Lib.hid R1
      have h12 := c12
      have h13 := c13
      have hn := ha.nat
      have B1 := Lib.hid (show icehouseref01_Bytes.f 9 a = some (be8 a.toNat) from by have := bytes_f a.toNat hn; rwa [ha.cast] at this)
      have HR := Aside0.mk hr
      clear h8
      clear hr hlen
      go_enter Try.func7, Try.ntmps7
      go_wp2_with (first
        | (go_at_call 27; (with_reducible refine (read_all _ _ _ _ HR.out H8 hb).mono ?_); rw [S1.out]; rintro e w' ⟨rfl, rfl⟩)
        | (go_at_call 28; (with_reducible refine (icehouseref01_Read.calls 9 _ _ l _ _ _ HR.out hc R1.out).mono ?_); rintro e w' ⟨rfl, ⟨nd, rfl⟩⟩)
        | (go_at_call 30; (with_reducible refine (bytes_ _ hn _).mono ?_); rintro e w1 ⟨v1, rfl, ho1, hb1⟩; obtain ⟨A1, c1, rfl, hc1, hr1⟩ := Kd.R_reads ho1; have HR1 := Aside0.mk hr1; have HB1 := Aside0.mk (below_step (pw_below_drewN (Below.refl _ w) nd) hb1); clear hr1 ho1 hb1)
        | (go_at_call 31; (with_reducible refine (icehouseref01_Bytes.calls 9 _ _ _ B1.out).mono ?_); rintro e w2 ⟨v2, rfl, ho2, hb2⟩; obtain ⟨A2, c2, rfl, hc2, hr2⟩ := Kd.R_reads ho2; have HR2 := Aside0.mk hr2; have HR3 := Aside0.mk (Kd.C_below HR1.out hb2); have HB2 := Aside0.mk (below_step HB1.out hb2); clear hr2 ho2 hb2)
        | (go_at_call 29; (with_reducible refine (icehouseref00_Same.calls _ _ _ _ _ _ true _ HR3.out hc1 HR2.out hc2 (same_f _)).mono ?_); rintro e w' ⟨rfl, ⟨nd2, rfl⟩⟩)
        | (go_at_call 23; (with_reducible refine (known_ _).mono ?_); rintro e w' ⟨rfl, rfl⟩))
      go_ret
      exact ⟨rfl, pw_below_drewN HB2.out nd2⟩
  · have R1 := Lib.hid (read_f_len l h8)
    have h12 := c12
    have h13 := c13
    have hn := ha.nat
    have B1 := Lib.hid (show icehouseref01_Bytes.f 9 a = some (be8 a.toNat) from by have := bytes_f a.toNat hn; rwa [ha.cast] at this)
    have HR := Aside0.mk hr
    clear hr hlen
    go_enter Try.func7, Try.ntmps7
    go_wp2_with (first
      | (go_at_call 27; (with_reducible refine (read_len _ _ _ _ h8 hm).mono ?_); rintro e w' ⟨rfl, rfl⟩)
      | (go_at_call 28; (with_reducible refine (icehouseref01_Read.calls 9 _ _ l _ _ _ HR.out hc R1.out).mono ?_); rintro e w' ⟨rfl, ⟨nd, rfl⟩⟩)
      | (go_at_call 30; (with_reducible refine (bytes_ _ hn _).mono ?_); rintro e w1 ⟨v1, rfl, ho1, hb1⟩; obtain ⟨A1, c1, rfl, hc1, hr1⟩ := Kd.R_reads ho1; have HR1 := Aside0.mk hr1; have HB1 := Aside0.mk (below_step (pw_below_drewN (Below.refl _ w) nd) hb1); clear hr1 ho1 hb1)
      | (go_at_call 31; (with_reducible refine (icehouseref01_Bytes.calls 9 _ _ _ B1.out).mono ?_); rintro e w2 ⟨v2, rfl, ho2, hb2⟩; obtain ⟨A2, c2, rfl, hc2, hr2⟩ := Kd.R_reads ho2; have HR2 := Aside0.mk hr2; have HR3 := Aside0.mk (Kd.C_below HR1.out hb2); have HB2 := Aside0.mk (below_step HB1.out hb2); clear hr2 ho2 hb2)
      | (go_at_call 29; (with_reducible refine (icehouseref00_Same.calls _ _ _ _ _ _ true _ HR3.out hc1 HR2.out hc2 (same_f _)).mono ?_); rintro e w' ⟨rfl, ⟨nd2, rfl⟩⟩)
      | (go_at_call 23; (with_reducible refine (known_ _).mono ?_); rintro e w' ⟨rfl, rfl⟩))
    go_ret
    exact ⟨rfl, pw_below_drewN HB2.out nd2⟩
end Go.Proofs.Ytkejjobljiibeaa.Rl
