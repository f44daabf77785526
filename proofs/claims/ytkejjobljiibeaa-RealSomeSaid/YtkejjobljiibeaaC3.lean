/- Contracts of the real layer's functions on lists of floats: all, bits, Least. Conditions: lists that fit in memory, words of 64 bits. -/
import Derived.Test.YtkejjobljiibeaaC2
import Derived.Test.YtkejjobljiibeaaPRealBytesx1
namespace Go.Proofs.Ytkejjobljiibeaa.Rl
open Go.ChangeShapes Go.WideShapes Go.ChangeAt Go.RowKit Dbl
open Go.Proofs.YtkejjobljiibeaaW.PrintWords Go.Proofs.YtkejjobljiibeaaW.PrintLast Go.Proofs.YtkejjobljiibeaaW.PrintMore
set_option linter.unusedVariables false
set_option linter.unusedSimpArgs false
def flt : Kd Nat := Kd.scalar (Value.float .f64) (fun _ => rfl)
theorem info23 : (Try.prog.info? 23).map (fun i => (i.zero, i.size, i.bytes)) = some (some (.float .f64 0), 1, 8) := by kernel_rfl
theorem info22 : (Try.prog.info? 22).map (fun i => (i.zero, i.size, i.bytes)) = some (some (.int .u64 0), 1, 8) := by kernel_rfl

theorem C_at {α : Type} {enc : α → Value} {h1 : ∀ x, (enc x).oneCell' = true} {w : World} {A : Option Addr} {xs : List α} (h : (Kd.scalar enc h1).C w A xs.length xs) (k : Nat) (hk : k < xs.length) :
    ∃ ad, A = some ad ∧ w.cell? (ad.add k) = some (enc xs[k]) := by
  obtain ⟨ad, e, hc⟩ := h.2.2 (by omega)
  obtain ⟨c, hs, hr, hcell⟩ := hc k _ (List.getElem?_eq_getElem hk)
  obtain rfl : c = [enc xs[k]] := hr
  have := hcell 0 _ rfl
  rw [show (Kd.scalar enc h1).sz = 1 from rfl, Nat.mul_one, Nat.add_zero] at this
  exact ⟨ad, e, this⟩
/-- a row that is read, by its block -/
theorem C_block {α : Type} {enc : α → Value} {h1 : ∀ x, (enc x).oneCell' = true} {w : World} {A : Option Addr} {xs : List α} (h : (Kd.scalar enc h1).C w A xs.length xs) (h0 : 0 < xs.length) :
    ∃ b off, A = some ⟨b, off, none⟩ ∧ ∀ (k : Nat) (hk : k < xs.length), w.cell? ⟨b, off + k, none⟩ = some (enc xs[k]) := by
  obtain ⟨ad, rfl, hc⟩ := C_at h 0 h0
  obtain ⟨b, off, sp⟩ := ad
  cases sp with
  | some x => simp [World.cell?, Addr.add] at hc; split at hc <;> simp at hc
  | none =>
    refine ⟨b, off, rfl, fun k hk => ?_⟩
    obtain ⟨ad, he, hc⟩ := C_at h k hk
    injection he with he
    subst he
    rw [← hc]
    unfold Addr.add
    split <;> simp_all
theorem take_succ_map {α β : Type} (l : List α) (f : α → β) (k : Nat) (hk : k < l.length) : (l.take (k + 1)).map f = (l.take k).map f ++ [f l[k]] := by
  rw [List.take_succ_eq_append_getElem hk, List.map_append]; rfl
set_option maxHeartbeats 1000000 in
theorem all_ (A : Option Addr) (c : Nat) (l : List Int) (w : World) (hr : Kd.C (Kd.int .u64) w A l.length l) (hc : l.length ≤ c) (hl : l.length ≤ 17592186044415) :
    Calls Try.prog 25 #[.slice A l.length c] w fun e w' => ∃ v : Value, e = .returned v ∧ Kd.R flt 23 w' w.heap.size (fun _ => True) v (l.map Int.toNat) ∧ Below w.heap.size w w' := by
  have HR := Aside0.mk hr
  have h12 := c12
  clear hr
  go_enter Try.func25, Try.ntmps25
  go_wp2
  go_loopg [3, 4] l.length (fun q v i w' => ∃ k : Nat, k ≤ l.length ∧ i = .int .i64 k ∧ q = l.length - k ∧ Aside0 (Kd.R flt 23 w' w.heap.size (fun _ => True) v ((l.take k).map Int.toNat)) ∧ Aside0 (Below w.heap.size w w'))
  case atStart => exact ⟨0, Nat.zero_le _, rfl, by simp, ⟨Kd.R_nil _ _ _ _ _⟩, ⟨Below.refl _ _⟩⟩
  case round =>
    obtain ⟨k, hk, rfl, rfl, HO, HB⟩ := hrel
    by_cases hlt : k < l.length
    · obtain ⟨ad, hA, hc0⟩ := C_at (Kd.C_below HR.out HB.out) k hlt
      subst hA
      have HT := Aside0.mk (take_succ_map l Int.toNat k hlt)
      generalize l[k] = x at *
      have hx : (x.toNat : Int) = (x.toNat : Int) := rfl
      clear hx
      go_wp2_with ((with_reducible refine gate_builtin (b := .append) rfl ?_); at_builtin; refine Kd.R_append flt (w0 := w) w.heap.size rfl (.tmp 11) (.tmp 17) 36 23 (.float .f64 0) 8 rfl Try.underlying36 info23 rfl (by decide) (by omega) _ ((l.take k).map Int.toNat) x.toNat [.float .f64 x.toNat] (fun _ => True) (fun _ => False) rfl rfl rfl (fun _ hk => hk.elim) (fun _ _ => trivial) ?aO ?aB ?aS ?aL ?_; (case aO => exact HO.out); (case aB => exact HB.out); (case aS => exact HB.out.size); (case aL => simp only [List.length_map, List.length_take]; omega); intro v1 w1 ho hb hg hat; rw [← HT.out] at ho; have HO' := Aside0.mk ho; have HB' := Aside0.mk hb; clear ho hb hg hat HO HB)
      go_roundg (l.length - (k + 1))
      case measure => omega
      case rel => exact ⟨k + 1, by omega, by go_num, rfl, HO', HB'⟩
    · go_wp2_with fail
      go_ret
      obtain rfl : k = l.length := by omega
      have h := HO.out
      rw [List.take_length] at h
      exact ⟨_, rfl, h, HB.out⟩
end Go.Proofs.Ytkejjobljiibeaa.Rl
