/- The closure of pack.Nums: all numbers are read, or it panics with what is wrong. Conditions: bytes that fit in memory. -/
import Derived.Test.YtfhgclojfjiblaaZPackBack6
import Derived.StillTailTactics
namespace Go.Proofs.Ytfhgclojfjiblaa.Pk
open Go.ChangeShapes Go.WideShapes Go.ChangeAt Go.RowKit
open Go.Proofs.Ytfhgclojfjiblaa.Hlp Go.Proofs.Ytfhgclojfjiblaa.Wrd Go.Proofs.YtfhgclojfjiblaaW.PrintWords Go.Proofs.YtfhgclojfjiblaaW.PrintLast Go.Proofs.YtfhgclojfjiblaaW.PrintMore
set_option linter.unusedVariables false
set_option linter.unusedSimpArgs false
theorem apartI {α : Type} {d : Kd α} {e T : Nat} {w : World} {base bx : Nat} {ok : Nat → Prop} {v : Value} {xs : List α} {cs : Array Value} (h : d.R e w base ok v xs) (hx : w.heap[bx]? = some (.cells cs T (0, 0))) (hne : T ≠ e) : some bx ≠ v.ownBlock := by
  intro hk
  obtain ⟨cells, hc⟩ := own_typed (Kd.R_own h).choose_spec bx hk.symm
  rw [hx] at hc
  injection hc with hc
  injection hc with _ h2
  exact hne h2
theorem blk_apartI {α : Type} {d : Kd α} {e T : Nat} {w w1 : World} {base bx : Nat} {ok : Nat → Prop} {v : Value} {xs : List α} {cs : Array Value} (h : d.R e w base ok v xs) (hx : w.heap[bx]? = some (.cells cs T (0, 0))) (hne : T ≠ e) (hg : w.grownBy w1 v.ownBlock) : w1.heap[bx]? = some (.cells cs T (0, 0)) :=
  (hg.block _ (blk_lt hx) (apartI h hx hne)).trans hx
theorem rd_setO {w : World} {g o : Nat} {b : Option Addr} {c : Nat} {l : List Int} {e : Int} {ins : Bool} {B : Option Addr} {n d T : Nat} (h : Rd w g b c l e ins) (hO : w.heap[o]? = some (.cells #[.slice B n d] T (0, 0))) (hgo : g ≠ o) (u : Value) : Rd (w.setCell ⟨o, 0, none⟩ u) g b c l e ins where
  blk := (Below.heap_setCell w _ u g (fun x => hgo x)).trans h.blk
  row := C_set h.row (fun x j => by
    rw [blk_cell hO]
    match j with
    | 0 => simp
    | j + 1 => simp)
  cap := h.cap
  bytes := h.bytes
/-- what the closure leaves: the numbers in a row of its own, the reader at its end -/
def NumsPost (w : World) (g o : Nat) (l : List Int) (x : Ending) (w' : World) : Prop :=
  ((numsS l).2 = 0 → x = .returned (.tuple #[]) ∧ (∃ B d, w'.heap[o]? = some (.cells #[.slice B (numsS l).1.length d] 44 (0, 0)) ∧ Kd.R (Kd.int .i64) 3 w' w.heap.size (fun _ => True) (.slice B (numsS l).1.length d) (numsS l).1) ∧ (∃ b c, Rd w' g b c [] 0 true)) ∧
  ((numsS l).2 ≠ 0 → x = .panicked (pan (numsS l).2)) ∧ Kp w w' w.heap.size g o
theorem numsPost_bad {w w2 : World} {g o : Nat} {l acc : List Int} {x : Int} (h : numsS l = (acc, x)) (hx : x ≠ 0) (hk : Kp w w2 w.heap.size g o) : NumsPost w g o l (.panicked (pan x)) w2 := by
  refine ⟨fun h0 => absurd (by rw [h] at h0; exact h0) hx, fun _ => by rw [h], hk⟩
set_option maxHeartbeats 4000000 in
set_option maxRecDepth 100000 in
theorem nums1_ {w : World} {g o : Nat} {b : Option Addr} {c : Nat} {l : List Int} (h : Rd w g b c l 0 true) (ho : w.heap[o]? = some (.cells #[.slice none 0 0] 44 (0, 0))) (hgo : g ≠ o) (hl : l.length ≤ 17592186044415) :
    Calls Try.prog 36 #[.pointer (some ⟨g, 0, none⟩), .pointer (some ⟨o, 0, none⟩)] w (NumsPost w g o l) := by
  have hg := blk_lt h.blk
  have hol := blk_lt ho
  have HR := Aside0.mk h
  have HO := Aside0.mk ho
  clear h ho
  go_enter Try.func36, Try.ntmps36
  go_wp2_with fail
  go_loopg [] l.length (fun q w' => ∃ (acc lr : List Int) (B b : Option Addr) (d c : Nat), q = lr.length ∧ acc.length + lr.length ≤ l.length ∧ Aside0 (numsS l = (acc ++ (numsS lr).1, (numsS lr).2)) ∧ Aside0 (Rd w' g b c lr 0 true) ∧ Aside0 (w'.heap[o]? = some (.cells #[.slice B acc.length d] 44 (0, 0))) ∧ Aside0 (Kd.R (Kd.int .i64) 3 w' w.heap.size (fun _ => True) (.slice B acc.length d) acc) ∧ Aside0 (Kp w w' w.heap.size g o) ∧ Aside0 (lr ≠ [] → ∀ p q, b = some ⟨p, q, none⟩ → p < w.heap.size))
  case atStart => exact ⟨[], l, none, b, 0, c, rfl, by simp, ⟨by simp⟩, HR, HO, ⟨Kd.R_nil _ _ _ _ _⟩, ⟨Kp.refl _ _ _ _⟩, ⟨fun h0 p q e => by have := HR.out.row; rw [e] at this; exact C_in this h0⟩⟩
  case round =>
    obtain ⟨acc, lr, B, b, d, c, rfl, hlen, HE, HR, HO, HA, HK, HL⟩ := hrel
    by_cases h0 : lr = []
    · subst h0
      have hE := HE.out
      rw [numsS_nil, List.append_nil] at hE
      go_wp2_with (go_at_call 21; (with_reducible refine (left_ HR.out).mono ?_); rintro e w' ⟨rfl, rfl⟩)
      go_end0
      refine ⟨fun _ => ⟨rfl, ⟨B, d, ?_, ?_⟩, _, _, HR.out⟩, fun h => absurd (by rw [hE]) h, HK.out⟩
      · rw [hE]; exact HO.out
      · rw [hE]; exact HA.out
    · have hp0 : 0 < lr.length := List.length_pos_iff.2 h0
      have t0 : decide (0 < lr.length) = true := decide_eq_true hp0
      obtain ⟨n, k, x, hp⟩ : ∃ n k x, peekP lr = (n, k, x) := ⟨_, _, _, rfl⟩
      have o0 : wr.cell? ⟨o, 0, none⟩ = some (.slice B acc.length d) := (blk_cell HO.out 0).trans rfl
      have of := blk_frozen HO.out 0
      by_cases hx : x = 0
      · subst hx
        obtain ⟨hk1, hk9, hkl⟩ := peekP_ok hp HR.out.bytes
        have HP := Aside0.mk hp
        have HP0 := Aside0.mk h0
        have HE2 := Aside0.mk (numsS_ok h0 hp hk1)
        clear hp h0
        go_wp2_with (go_at_call 21; (with_reducible refine (left_ HR.out).mono ?_); rintro e w' ⟨rfl, rfl⟩)
        go_region_law (first
          | (go_simp; go_at_call 20; (with_reducible refine (num_in (l := lr) (b := b) (c := c) ?b1 HP.out).mono ?_); (case b1 => first | exact HR.out.below (below_drew (Below.refl _ _)) | exact HR.out); rintro e w2 ⟨rfl, ⟨u, hw⟩, b2, c2, hA, hbb⟩; have HO2 : Aside0 (w2.heap[o]? = some (.cells #[.slice B acc.length d] 44 (0, 0))) := ⟨by rw [hw]; exact (Below.heap_setCell _ _ _ o (fun x => hgo (Eq.symm x))).trans (by first | exact blk_drew HO.out | exact HO.out)⟩; have HA2 : Aside0 (Kd.R (Kd.int .i64) 3 w2 w.heap.size (fun _ => True) (.slice B acc.length d) acc) := ⟨by rw [hw]; exact R_farg (by first | exact Kd.R_drew HA.out | exact HA.out) hg 0 u⟩; have HK2 : Aside0 (Kp w w2 w.heap.size g o) := ⟨by rw [hw]; exact Kp.grown (by first | exact HK.out.drew | exact HK.out) (Nat.le_refl _) (upd_set _ g 0 u) (fun q hq => by injection hq with hq; exact .inl hq.symm)⟩; have HAt := Aside0.mk hA; have HBB := Aside0.mk hbb; have o2 : w2.cell? ⟨o, 0, none⟩ = some (.slice B acc.length d) := (blk_cell HO2.out 0).trans rfl; have o3 := Go.Lib.cell?_alloc_some (.cells #[.int .i64 n] 3) o2; clear hw hA hbb)
          | (refine step_int (by rfl) _ _ (by rfl) w.heap.size (.slice B acc.length d) acc n _ (fun _ => True) (by rfl) ?a1 (by rfl) ?a2 (fun _ _ => trivial) ?a3 ?a4 ?_; (case a1 => first | exact HA2.out | exact Kd.R_alloc HA2.out _); (case a2 => simp; done); (case a3 => omega); (case a4 => (have := HK2.out.size; simp; omega)); intro v1 w4 ho hgr hat; obtain ⟨A4, c4, e4⟩ := Kd.R_slice ho; subst e4; have HA4 := Aside0.mk ho; have HO4 := Aside0.mk (blk_apartI (Kd.R_alloc HA2.out _) (blk_alloc HO2.out _) (by decide) hgr); have y0 : w4.cell? ⟨o, 0, none⟩ = some (.slice B acc.length d) := (blk_cell HO4.out 0).trans rfl; have y1 := blk_frozen HO4.out 0; have HG4 := Aside0.mk hgr; clear ho hgr hat))
        all_goals
          have hgrow := HG4.out
          have hrow : ∀ q, (Value.slice B acc.length d).ownBlock = some q → w.heap.size ≤ q := fun q hq => Kd.R_base HA2.out q hq
          have HR4 := Aside0.mk (rd_stands (HAt.out.below (below_alloc (Below.refl _ _) (.cells #[.int .i64 n] 3))) hgrow (by intro e; have := hrow _ e.symm; omega) (fun h0 p q e => by
            obtain ⟨q', e'⟩ := HBB.out p q e
            intro e2
            have h1 := hrow _ e2.symm
            have h2 := HL.out HP0.out p q' e'
            omega))
          have HK4 := Aside0.mk ((HK2.out.grown (Nat.le_refl _) (grown_of_below (below_alloc (Below.refl w2.heap.size w2) (.cells #[.int .i64 n] 3)) none) (fun q h => by cases h)).grown (Nat.le_refl _) hgrow (fun q hq => .inr (.inr (hrow q hq))))
          go_wp2_with fail
          go_roundg (lr.drop k.toNat).length
          case measure => rw [List.length_drop]; omega
          case rel =>
            have hll : acc.length + 1 = (acc ++ [n]).length := by rw [List.length_append]; rfl
            rw [hll]
            refine ⟨acc ++ [n], lr.drop k.toNat, A4, b2, c4, c2, rfl, ?_, ⟨?_⟩, ⟨rd_setO HR4.out HO4.out hgo _⟩, ⟨blk_set HO4.out 0 _⟩, ⟨R_farg HA4.out hol 0 _⟩, ⟨HK4.out.grown (Nat.le_refl _) (upd_set w4 o 0 _) (fun q hq => by injection hq with hq; exact .inr (.inl hq.symm))⟩, ⟨fun _ p q e => by
              obtain ⟨q', e'⟩ := HBB.out p q e
              exact HL.out HP0.out p q' e'⟩⟩
            · rw [← hll, List.length_drop]; omega
            · rw [HE.out, HE2.out, List.append_assoc]; rfl
      · have HE2 := Aside0.mk (numsS_bad h0 hp hx)
        have hE := HE.out
        rw [HE2.out, List.append_nil] at hE
        have HEb := Aside0.mk hE
        have HP := Aside0.mk hp
        have HX := Aside0.mk hx
        clear hp h0 hx hE
        go_wp2_with (go_at_call 21; (with_reducible refine (left_ HR.out).mono ?_); rintro e w' ⟨rfl, rfl⟩)
        refine wp_region_any (by kernel_rfl) ?_
        (try (change wpAny _ _ _ _ _ _ _ (World.drew _)))
        refine wpAny_take (i := 1) (v := ?_) rfl (by kernel_rfl) (by kernel_rfl) (by kernel_rfl) (fun _ _ _ h => h) (Or.inl ⟨by rfl, ?hy⟩) ?rest
        case hy => intro w; go_simp; with_reducible rfl
        case rest =>
          refine wpAny_ready (rs := [0, 2]) (by kernel_rfl) (by simp) ?_
          refine AllReady.cons rfl (fun K hK => ?_) ?_
          · go_simp
            refine hK _ _ ?_
            clear hK K
            refine wpAny_ready (rs := [2]) (by kernel_rfl) (by simp) ?_
            refine AllReady.cons rfl (fun K hK => ?_) AllReady.nil
            go_simp
            go_wp2_with fail
            (with_reducible refine (num_panics (l := lr) (b := b) (c := c) ?b1 HP.out HX.out).mono ?_)
            case b1 => first | exact HR.out.below (below_drew (Below.refl _ _)) | exact HR.out
            rintro e w2 ⟨rfl, hw⟩
            have HK2 : Aside0 (Kp w w2 w.heap.size g o) := ⟨by rw [hw]; exact Kp.grown (by first | exact HK.out.drew | exact HK.out) (Nat.le_refl _) (upd_set _ g 1 _) (fun q hq => by injection hq with hq; exact .inl hq.symm)⟩
            clear hw
            go_wp2_with fail
            exact ⟨rfl, numsPost_bad HEb.out HX.out HK2.out⟩
          refine AllReady.cons rfl (fun K hK => ?_) AllReady.nil
          · go_simp
            go_wp2_with fail
            (with_reducible refine (num_panics (l := lr) (b := b) (c := c) ?b1 HP.out HX.out).mono ?_)
            case b1 => first | exact HR.out.below (below_drew (Below.refl _ _)) | exact HR.out
            rintro e w2 ⟨rfl, hw⟩
            have HK2 : Aside0 (Kp w w2 w.heap.size g o) := ⟨by rw [hw]; exact Kp.grown (by first | exact HK.out.drew | exact HK.out) (Nat.le_refl _) (upd_set _ g 1 _) (fun q hq => by injection hq with hq; exact .inl hq.symm)⟩
            clear hw
            go_wp2_with fail
            exact ⟨rfl, numsPost_bad HEb.out HX.out HK2.out⟩
end Go.Proofs.Ytfhgclojfjiblaa.Pk
