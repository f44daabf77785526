/- The contract of the reference's Rows: its rows lie in the bytes. Conditions: bytes that fit in memory. -/
import Derived.Test.YtfhgclojfjiblaaZPackBack17
namespace Go.Proofs.Ytfhgclojfjiblaa.Pk
open Go.ChangeShapes Go.WideShapes Go.ChangeAt Go.RowKit Go.Proofs.Ytfhgclojfjiblaa.Lex
open Go.Proofs.Ytfhgclojfjiblaa.Hlp Go.Proofs.Ytfhgclojfjiblaa.Wrd Go.Proofs.YtfhgclojfjiblaaW.PrintWords Go.Proofs.YtfhgclojfjiblaaW.PrintLast Go.Proofs.YtfhgclojfjiblaaW.PrintMore
set_option linter.unusedVariables false
set_option linter.unusedSimpArgs false
theorem getRowP_ok {l r l' : List Int} {p : Nat} (hb : ∀ x ∈ l, 0 ≤ x ∧ x < 256) (hp : p < l.length) (h : rowS ⟨l.drop p, 0⟩ = (r, ⟨l', 0⟩)) : ∃ t : Nat, getRowP l p = (r, (t : Int), 0) ∧ p < t ∧ t ≤ l.length ∧ l' = l.drop t := by
  obtain ⟨n, k, hpk, hk1, hn, hkn, hr1, hr2⟩ := rowS_go (drop_bytes hb p) h
  rw [List.length_drop] at hkn
  refine ⟨p + (k + n), ?_, by omega, by omega, by rw [hr2, List.drop_drop]⟩
  unfold getRowP
  rw [getP_ok hpk]
  simp only [if_true]
  rw [if_pos ⟨by omega, by omega⟩, if_neg (by omega), hr1, List.drop_drop]
  have e1 : ((p : Int) + (k : Int)).toNat = p + k := by omega
  have e2 : ((n : Int)).toNat = n := by omega
  have e3 : (p : Int) + (k : Int) + (n : Int) = ((p + (k + n) : Nat) : Int) := by omega
  rw [e1, e2, e3]
theorem getRowP_bad {l r l' : List Int} {p : Nat} {e : Int} (hp : p < l.length) (h : rowS ⟨l.drop p, 0⟩ = (r, ⟨l', e⟩)) (he : e ≠ 0) : getRowP l p = ([], (p : Int), e) := by
  obtain ⟨n, k, x, hpk⟩ : ∃ n k x, peekP (l.drop p) = (n, k, x) := ⟨_, _, _, rfl⟩
  by_cases hx : x = 0
  · subst hx
    unfold getRowP
    rw [getP_ok hpk]
    simp only [if_true]
    by_cases hin : 0 ≤ n ∧ n ≤ 65536
    · rw [if_pos hin]
      by_cases hs : ((l.drop p).length : Int) - k < n
      · rw [rowS_short hpk hin hs] at h
        injection h with _ h; injection h with _ h
        rw [List.length_drop] at hs
        rw [if_pos (by omega), ← h]
      · exfalso
        apply he
        have : (rowS ⟨l.drop p, 0⟩).2.e = 0 := by
          unfold rowS
          rw [if_pos rfl]
          simp only [hpk, if_true]
          rw [if_pos hin, if_neg hs]
        rw [h] at this
        exact this
    · rw [rowS_out hpk hin] at h
      injection h with _ h; injection h with _ h
      rw [if_neg hin, ← h]
  · rw [rowS_bad hpk hx] at h
    injection h with _ h; injection h with _ h
    unfold getRowP
    rw [getP_bad hpk hx]
    simp only [if_neg hx]
    rw [h]
/-- elements that are rows of an elder world -/
def kz (W0 : World) : Kd (List Int) where
  sz := 1
  E := []
  K := fun _ x cs => (Kd.slice 5 (Kd.int .u8)).K W0 x cs
  M := fun _ _ _ x cs => (Kd.slice 5 (Kd.int .u8)).K W0 x cs
  K_len := fun h => (Kd.slice 5 (Kd.int .u8)).K_len h
  K_one := fun h => (Kd.slice 5 (Kd.int .u8)).K_one h
  K_below := fun _ h => h
  K_of_M := fun h => h
  M_mono := fun _ h => h
  M_bound := fun h => h
  M_move := fun _ h => h
  M_lower := fun _ h => h
def RowsRef (w : World) (l : List Int) (x : Ending) (w' : World) : Prop :=
  (∃ v d, x = .returned (.tuple #[v, .int .i64 (rowsS l).2]) ∧ ((rowsS l).2 = 0 → ∃ B, v = .slice B (rowsS l).1.length d ∧ (rowsS l).1.length ≤ d ∧ Kd.C (Kd.slice 5 (Kd.int .u8)) w' B (rowsS l).1.length (rowsS l).1) ∧ ((rowsS l).2 ≠ 0 → v = .slice none 0 0)) ∧ Below w.heap.size w w'
set_option maxHeartbeats 4000000 in
set_option maxRecDepth 100000 in
theorem rrows_ {w : World} {n c : Nat} {A : Option Addr} {l : List Int} (hr : Kd.C (Kd.int .u8) w A n l) (hc : n ≤ c) (hb : ∀ x ∈ l, 0 ≤ x ∧ x < 256) (hl : n ≤ 4398046511103) :
    Calls Try.prog 29 #[.slice A n c] w (RowsRef w l) := by
  obtain rfl : l.length = n := hr.1
  have HR := Aside0.mk hr
  have HBt := Aside0.mk hb
  clear hr hb
  go_enter Try.func29, Try.ntmps29
  go_wp2
  go_loopg [4, 5] l.length (fun q vo vp w' => ∃ (acc : List (List Int)) (p : Nat) (B : Option Addr) (d : Nat), vo = .slice B acc.length d ∧ vp = .int .i64 p ∧ q = l.length - p ∧ p ≤ l.length ∧ acc.length ≤ p ∧ Aside0 (rowsS l = (acc ++ (rowsS (l.drop p)).1, (rowsS (l.drop p)).2)) ∧ Aside0 (Kd.R (kz w) 22 w' w.heap.size (fun _ => True) (.slice B acc.length d) acc) ∧ Aside0 (Below w.heap.size w w'))
  case atStart => exact ⟨[], 0, none, 0, rfl, rfl, rfl, Nat.zero_le _, Nat.le_refl _, ⟨by simp⟩, ⟨Kd.R_nil _ _ _ _ _⟩, ⟨Below.refl _ _⟩⟩
  case round =>
    obtain ⟨acc, p, B, d, rfl, rfl, rfl, hp, hlen, HE, HA, HB⟩ := hrel
    by_cases h1 : p < l.length
    · have t0 : decide ((p : Int) < (l.length : Int)) = true := decide_eq_true (by omega)
      have t0n : decide (p < l.length) = true := decide_eq_true h1
      obtain ⟨row, ⟨lr2, e⟩, hrow⟩ : ∃ r s, rowS ⟨l.drop p, 0⟩ = (r, s) := ⟨_, _, rfl⟩
      have hwr := HB.out.size
      by_cases he : e = 0
      · subst he
        have hd : ((0 : Int) != 0) = false := rfl
        obtain ⟨t, hg, ht1, ht2, rfl⟩ := getRowP_ok HBt.out h1 hrow
        have HS := Aside0.mk (rowsS_ok (drop_ne h1) hrow (by rw [List.length_drop, List.length_drop]; omega))
        have HG := Aside0.mk hg
        have hacc : (acc.length + 1) * 24 ≤ 140737488355328 := by omega
        clear hrow hg
        go_wp2_with (first
          | (go_at_call 38; (with_reducible refine (rgetrow_c HR.out (Kd.C_below HR.out HB.out) hc p hp (by omega) HBt.out).mono ?_); rw [HG.out]; rintro e w2 ⟨A2, c2, rfl, hC, hc2, hb2⟩; have HC2 := Aside0.mk hC; have HB2 := Aside0.mk (below_then HB.out HB.out.size hb2); have HA2 := Aside0.mk (Kd.R_below HA.out hb2); have hs2 := hb2.size; clear hC hb2)
          | ((with_reducible refine gate_builtin (b := .append) rfl ?_); at_builtin; refine Kd.R_append (kz w) (w0 := w) w.heap.size rfl _ _ 49 22 (.slice none 0 0) 24 rfl Try.underlying49 infoRow rfl Nat.zero_lt_one (by omega) (.slice B acc.length d) acc row [.slice A2 row.length c2] (fun _ => True) (fun _ => False) rfl rfl ⟨A2, c2, rfl, hc2, HC2.out⟩ (fun _ h => h.elim) (fun _ _ => trivial) HA2.out HB2.out (by omega) hacc ?_; intro v1 w4 ho hb4 hgr4 hat4; obtain ⟨A4, c4, e4⟩ := Kd.R_slice ho; subst e4; have HA4 := Aside0.mk ho; have HB4 := Aside0.mk hb4; clear ho hb4 hgr4 hat4))
        go_roundg (l.length - t)
        case measure => omega
        case rel =>
          have hll : acc.length + 1 = (acc ++ [row]).length := by rw [List.length_append]; rfl
          rw [hll]
          refine ⟨acc ++ [row], t, A4, c4, rfl, rfl, rfl, ht2, by rw [← hll]; omega, ⟨?_⟩, HA4, HB4⟩
          rw [HE.out, HS.out, List.append_assoc]; rfl
      · have hE := HE.out
        rw [rowsS_bad (drop_ne h1) hrow he, List.append_nil] at hE
        have HE1 := Aside0.mk hE
        have HG := Aside0.mk (getRowP_bad h1 hrow he)
        have he2 : (e != 0) = true := bne_iff_ne.2 he
        have HX0 := Lib.hid he
        clear hrow he hE
        go_wp2_with (go_at_call 38; (with_reducible refine (rgetrow_c HR.out (Kd.C_below HR.out HB.out) hc p hp (by omega) HBt.out).mono ?_); rw [HG.out]; rintro y w2 ⟨A2, c2, rfl, hC, hc2, hb2⟩; have HB2 := Aside0.mk (below_then HB.out HB.out.size hb2); clear hC hb2)
        go_ret2
        have hE := HE1.out
        exact ⟨⟨_, 0, by rw [hE]; rfl, fun h => absurd (by rw [hE] at h; exact h) HX0.out, fun _ => rfl⟩, HB2.out⟩
    · obtain rfl : p = l.length := by omega
      have hE := HE.out
      rw [List.drop_length, rowsS_nil, List.append_nil] at hE
      have HE1 := Aside0.mk hE
      clear hE h1
      go_wp2
      go_ret2
      have hE := HE1.out
      obtain ⟨A5, c5, e5, hc5, hC5⟩ := Kd.R_reads HA.out
      injection e5 with e5 _ e6
      subst e5 e6
      refine ⟨⟨_, d, by rw [hE]; rfl, fun _ => ⟨B, by rw [hE]; rfl, by rw [hE]; exact hc5, ?_⟩, fun h => absurd (by rw [hE]) h⟩, HB.out⟩
      rw [hE]
      exact ReadsRow.imp_ hC5 (Below.refl _ _) (fun _ _ h => (Kd.slice 5 (Kd.int .u8)).K_below HB.out h)
end Go.Proofs.Ytfhgclojfjiblaa.Pk
