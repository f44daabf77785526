/- The reader's Row, and the block that it reads still. Conditions: bytes that fit in memory. -/
import Derived.Test.YtfhgclojfjiblaaZPackBack14
namespace Go.Proofs.Ytfhgclojfjiblaa.Pk
open Go.ChangeShapes Go.WideShapes Go.ChangeAt Go.RowKit
open Go.Proofs.Ytfhgclojfjiblaa.Hlp Go.Proofs.Ytfhgclojfjiblaa.Wrd Go.Proofs.YtfhgclojfjiblaaW.PrintWords Go.Proofs.YtfhgclojfjiblaaW.PrintLast Go.Proofs.YtfhgclojfjiblaaW.PrintMore
set_option linter.unusedVariables false
set_option linter.unusedSimpArgs false
/-- the reader has gone on, in the same block -/
def AtB (w : World) (g : Nat) (b0 : Option Addr) (ins : Bool) (s : St) (w' : World) : Prop := ∃ b c, Rd w' g b c s.l s.e ins ∧ w.grownBy w' (some g) ∧ ∀ p q, b = some ⟨p, q, none⟩ → ∃ q', b0 = some ⟨p, q', none⟩
theorem AtB.of {w w' : World} {g : Nat} {b0 : Option Addr} {ins : Bool} {s : St} {b : Option Addr} {c : Nat} (h : Rd w' g b c s.l s.e ins) (k : w.grownBy w' (some g)) (hb : ∀ p q, b = some ⟨p, q, none⟩ → ∃ q', b0 = some ⟨p, q', none⟩) : AtB w g b0 ins s w' := ⟨b, c, h, k, hb⟩
theorem AtB.refl {w : World} {g : Nat} {b : Option Addr} {c : Nat} {s : St} {ins : Bool} (h : Rd w g b c s.l s.e ins) : AtB w g b ins s w := ⟨b, c, h, upd_refl w _, fun p q e => ⟨q, e⟩⟩
theorem advB {w : World} {g bb off c : Nat} {l : List Int} {ins : Bool} {k : Nat} (h : Rd w g (some ⟨bb, off, none⟩) c l 0 ins) (hk : k ≤ l.length) :
    (c = k → AtB w g (some ⟨bb, off, none⟩) ins ⟨l.drop k, 0⟩ (w.setCell ⟨g, 0, none⟩ (.slice (some ⟨bb, off, none⟩) 0 0))) ∧
    (c ≠ k → AtB w g (some ⟨bb, off, none⟩) ins ⟨l.drop k, 0⟩ (w.setCell ⟨g, 0, none⟩ (.slice (some ⟨bb, off + k, none⟩) (l.length - k) (c - k)))) := by
  have hh : ∀ (o : Nat) (p q : Nat), some (⟨bb, o, none⟩ : Addr) = some ⟨p, q, none⟩ → ∃ q', some (⟨bb, off, none⟩ : Addr) = some ⟨p, q', none⟩ := fun o p q e => ⟨off, by injection e with e; injection e with e _ _; rw [e]⟩
  have hc := h.cap
  constructor
  · intro e
    have hl : l.drop k = [] := List.drop_eq_nil_of_le (by omega)
    rw [hl]
    exact AtB.of (h.none 0) (upd_set _ _ _ _) (hh _)
  · intro _
    have := h.rest k hk
    rw [List.length_drop] at this
    exact AtB.of this (upd_set _ _ _ _) (hh _)
def RowPostB (w : World) (g : Nat) (b0 : Option Addr) (r : List Int × St) (x : Ending) (w' : World) : Prop := ∃ v, x = .returned v ∧ Kd.R (Kd.int .u8) 5 w' w.heap.size (fun _ => True) v r.1 ∧ AtB w g b0 false r.2 w'
theorem RowPostB.nil {w w' : World} {g : Nat} {b0 : Option Addr} {s : St} (h : AtB w g b0 false s w') : RowPostB w g b0 ([], s) (.returned (.slice none 0 0)) w' := ⟨_, rfl, Kd.R_nil _ _ _ _ _, h⟩
theorem RowPostB.made {w w1 : World} {g : Nat} {b0 : Option Addr} {v : Value} {xs : List Int} {s : St} {u : Value} (hg : g < w.heap.size) (hb : Below w.heap.size w w1) (ho : Kd.R (Kd.int .u8) 5 w1 w.heap.size (fun _ => True) v xs) (hA : AtB w1 g b0 false s (w1.setCell ⟨g, 0, none⟩ u)) :
    RowPostB w g b0 (xs, s) (.returned v) (w1.setCell ⟨g, 0, none⟩ u) := by
  obtain ⟨b, c, hr, hk, hbb⟩ := hA
  exact ⟨v, rfl, R_farg ho hg 0 u, b, c, hr, upd_trans (grown_of_below hb _) hk, hbb⟩
set_option maxHeartbeats 2000000 in
theorem rowB_ {w : World} {g : Nat} {b : Option Addr} {c : Nat} {l : List Int} {e : Int} (h : Rd w g b c l e false) (hl : l.length ≤ 140737488351232) :
    Calls Try.prog 22 #[.pointer (some ⟨g, 0, none⟩)] w (RowPostB w g b (rowS ⟨l, e⟩)) := by
  have hgs := blk_lt h.blk
  by_cases he : e = 0
  · subst he
    have hd : ((0 : Int) != 0) = false := rfl
    obtain ⟨n, k, x, hp⟩ : ∃ n k x, peekP l = (n, k, x) := ⟨_, _, _, rfl⟩
    have V := Lib.hid (peekV_of hp)
    have h0 := h.c0
    have f0 := h.f 0
    have hm := h.row.2.1
    have hcap := h.cap
    by_cases hx : x = 0
    · subst hx
      obtain ⟨hk1, hk9, hkl⟩ := peekP_ok hp h.bytes
      by_cases hin : 0 ≤ n ∧ n ≤ 65536
      · by_cases hs : (l.length : Int) - k < n
        · rw [rowS_short hp hin hs]
          obtain ⟨hin1, hin2⟩ := hin
          have t1 : decide (n < 0) = false := decide_eq_false (by omega)
          have t2 : decide (65536 < n) = false := decide_eq_false (by omega)
          have t3 : decide ((l.length : Int) - k < n) = true := decide_eq_true hs
          have HR := Aside0.mk h
          have A1 := Aside0.mk (AtB.of (b0 := b) (ins := false) (s := ⟨l, 12⟩) (h.wrong 12) (upd_set _ _ _ _) (fun p q e => ⟨q, e⟩))
          clear h hp hs hin1 hin2
          go_enter Try.func22, Try.ntmps22
          go_wp2_with (first | (go_at_call 32; (with_reducible refine (dead_ HR.out).mono ?_); rintro e w' ⟨rfl, rfl⟩) | (go_at_call 34; (with_reducible refine (peek_ HR.out).mono ?_); rw [V.out]; rintro e w' ⟨rfl, rfl⟩) | (go_at_call 33; (with_reducible refine (fail_ HR.out _).mono ?_); rintro e w' ⟨rfl, rfl⟩))
          go_ret
          exact RowPostB.nil A1.out
        · obtain ⟨hin1, hin2⟩ := hin
          obtain ⟨K, rfl⟩ := Int.eq_ofNat_of_zero_le (show 0 ≤ k by omega)
          obtain ⟨m, rfl⟩ := Int.eq_ofNat_of_zero_le hin1
          have hkn : K + m ≤ l.length := by omega
          rw [rowS_ok hp (by omega) hkn]
          have t1 : decide ((m : Int) < 0) = false := decide_eq_false (by omega)
          have t2 : decide (65536 < (m : Int)) = false := decide_eq_false (by omega)
          have t2n : decide (65536 < m) = false := decide_eq_false (by omega)
          have t3 : decide ((l.length : Int) - (K : Int) < (m : Int)) = false := decide_eq_false (by omega)
          obtain ⟨bb, off, rfl, hcell⟩ := C_block h.row (by omega)
          have hA0 := fun (w1 : World) (h1 : Rd w1 g (some ⟨bb, off, none⟩) c l 0 false) => advB h1 (k := K + m) hkn
          have HR := Aside0.mk h
          have hmk : ((K : Int) + (m : Int)) = ((K + m : Nat) : Int) := by omega
          by_cases hc : c = K
          · obtain rfl : m = 0 := by omega
            have HS : Aside0 (Kd.C (Kd.int .u8) w (some ⟨bb, off, none⟩) 0 []) := ⟨C_empty⟩
            have hA := Aside0.mk hA0
            subst hc
            rw [List.take_zero, Nat.add_zero]
            have A1 := Aside0.mk ((hA.out w h).1 rfl)
            clear h hp hcell hA0 hA hin1 hin2 hs hmk HS
            go_enter Try.func22, Try.ntmps22
            go_wp2_with (first | (go_at_call 32; (with_reducible refine (dead_ HR.out).mono ?_); rintro e w' ⟨rfl, rfl⟩) | (go_at_call 34; (with_reducible refine (peek_ HR.out).mono ?_); rw [V.out]; rintro e w' ⟨rfl, rfl⟩))
            go_ret
            exact RowPostB.nil A1.out
          · have hc2 : (c == K) = false := beq_eq_false_iff_ne.2 hc
            have HS : Aside0 (Kd.C (Kd.int .u8) w (some ⟨bb, off + K, none⟩) (K + m - K) ((l.drop K).take m)) := ⟨by rw [Nat.add_sub_cancel_left]; exact C_take (C_drop h.row K (by omega)) m (by rw [List.length_drop]; omega)⟩
            obtain ⟨ys, hys⟩ : ∃ ys, (l.drop K).take m = ys := ⟨_, rfl⟩
            rw [hys] at HS ⊢
            clear hys h hp hcell hin1 hin2 hs
            by_cases hc3 : c = K + m
            · subst hc3
              have hA := Aside0.mk (fun w1 h1 => (hA0 w1 h1).1 rfl)
              clear hA0
              have hm2 := Aside0.mk hmk
              clear hmk
              go_enter Try.func22, Try.ntmps22
              go_wp2_with (first | (go_at_call 32; (with_reducible refine (dead_ HR.out).mono ?_); rintro e w' ⟨rfl, rfl⟩) | (go_at_call 34; (with_reducible refine (peek_ HR.out).mono ?_); rw [V.out]; rintro e w' ⟨rfl, rfl⟩) | ((with_reducible refine gate_builtin (b := .append) rfl ?_); at_builtin; refine Kd.R_append_rows (Kd.int .u8) (w0 := w) w.heap.size rfl _ _ 22 5 (.int .u8 0) 1 rfl Try.underlying22 info8 rfl (by decide) (by omega) (.slice none 0 0) [] ys _ _ _ (fun _ => True) (fun _ => False) rfl rfl (Kd.R_nil _ _ _ _ _) HS.out (fun _ _ h => h) (fun _ h => h.elim) (fun _ _ => trivial) (Below.refl _ _) (Nat.le_refl _) (by simp; omega) ?_; intro v1 w1 ho hb1 hg hat; rw [List.nil_append] at ho; obtain ⟨h0', f0'⟩ := (show w1.cell? ⟨g, 0, none⟩ = _ ∧ w1.frozen? ⟨g, 0, none⟩ = false from ⟨(HR.out.below hb1).c0, (HR.out.below hb1).f 0⟩); have HO := Aside0.mk ho; have HB := Aside0.mk hb1; have HR1 := Aside0.mk (HR.out.below hb1); clear h0 f0 ho hb1 hg hat))
              go_ret
              exact RowPostB.made hgs HB.out HO.out (hA.out _ HR1.out)
            · have hA := Aside0.mk (fun w1 h1 => (hA0 w1 h1).2 hc3)
              have hc4 : (c == K + m) = false := beq_eq_false_iff_ne.2 hc3
              clear hA0
              have hm2 := Aside0.mk hmk
              clear hmk
              go_enter Try.func22, Try.ntmps22
              go_wp2_with (first | (go_at_call 32; (with_reducible refine (dead_ HR.out).mono ?_); rintro e w' ⟨rfl, rfl⟩) | (go_at_call 34; (with_reducible refine (peek_ HR.out).mono ?_); rw [V.out]; rintro e w' ⟨rfl, rfl⟩) | ((with_reducible refine gate_builtin (b := .append) rfl ?_); at_builtin; refine Kd.R_append_rows (Kd.int .u8) (w0 := w) w.heap.size rfl _ _ 22 5 (.int .u8 0) 1 rfl Try.underlying22 info8 rfl (by decide) (by omega) (.slice none 0 0) [] ys _ _ _ (fun _ => True) (fun _ => False) rfl rfl (Kd.R_nil _ _ _ _ _) HS.out (fun _ _ h => h) (fun _ h => h.elim) (fun _ _ => trivial) (Below.refl _ _) (Nat.le_refl _) (by simp; omega) ?_; intro v1 w1 ho hb1 hg hat; rw [List.nil_append] at ho; obtain ⟨h0', f0'⟩ := (show w1.cell? ⟨g, 0, none⟩ = _ ∧ w1.frozen? ⟨g, 0, none⟩ = false from ⟨(HR.out.below hb1).c0, (HR.out.below hb1).f 0⟩); have HO := Aside0.mk ho; have HB := Aside0.mk hb1; have HR1 := Aside0.mk (HR.out.below hb1); clear h0 f0 ho hb1 hg hat))
              go_ret
              exact RowPostB.made hgs HB.out HO.out (hA.out _ HR1.out)
      · rw [rowS_out hp hin]
        have HR := Aside0.mk h
        have A1 := Aside0.mk (AtB.of (b0 := b) (ins := false) (s := ⟨l, 11⟩) (h.wrong 11) (upd_set _ _ _ _) (fun p q e => ⟨q, e⟩))
        by_cases hn : n < 0
        · have t1 := decide_eq_true hn
          clear hp h hin hn
          go_enter Try.func22, Try.ntmps22
          go_wp2_with (first | (go_at_call 32; (with_reducible refine (dead_ HR.out).mono ?_); rintro e w' ⟨rfl, rfl⟩) | (go_at_call 34; (with_reducible refine (peek_ HR.out).mono ?_); rw [V.out]; rintro e w' ⟨rfl, rfl⟩) | (go_at_call 33; (with_reducible refine (fail_ HR.out _).mono ?_); rintro e w' ⟨rfl, rfl⟩))
          go_ret
          exact RowPostB.nil A1.out
        · have t1 := decide_eq_false hn
          have t2 : decide (65536 < n) = true := decide_eq_true (by omega)
          clear hp h hin hn
          go_enter Try.func22, Try.ntmps22
          go_wp2_with (first | (go_at_call 32; (with_reducible refine (dead_ HR.out).mono ?_); rintro e w' ⟨rfl, rfl⟩) | (go_at_call 34; (with_reducible refine (peek_ HR.out).mono ?_); rw [V.out]; rintro e w' ⟨rfl, rfl⟩) | (go_at_call 33; (with_reducible refine (fail_ HR.out _).mono ?_); rintro e w' ⟨rfl, rfl⟩))
          go_ret
          exact RowPostB.nil A1.out
    · rw [rowS_bad hp hx]
      have hx2 : (x != 0) = true := bne_iff_ne.2 hx
      have HR := Aside0.mk h
      have A1 := Aside0.mk (AtB.of (b0 := b) (ins := false) (s := ⟨l, x⟩) (h.wrong x) (upd_set _ _ _ _) (fun p q e => ⟨q, e⟩))
      clear hp h hx
      go_enter Try.func22, Try.ntmps22
      go_wp2_with (first | (go_at_call 32; (with_reducible refine (dead_ HR.out).mono ?_); rintro e w' ⟨rfl, rfl⟩) | (go_at_call 34; (with_reducible refine (peek_ HR.out).mono ?_); rw [V.out]; rintro e w' ⟨rfl, rfl⟩) | (go_at_call 33; (with_reducible refine (fail_ HR.out _).mono ?_); rintro e w' ⟨rfl, rfl⟩))
      go_ret
      exact RowPostB.nil A1.out
  · rw [rowS_dead he]
    have he2 : (e != 0) = true := bne_iff_ne.2 he
    have HR := Aside0.mk h
    have A1 := Aside0.mk (AtB.refl (s := ⟨l, e⟩) h)
    clear h he
    go_enter Try.func22, Try.ntmps22
    go_wp2_with (go_at_call 32; (with_reducible refine (dead_ HR.out).mono ?_); rintro e w' ⟨rfl, rfl⟩)
    go_ret
    exact RowPostB.nil A1.out
end Go.Proofs.Ytfhgclojfjiblaa.Pk
