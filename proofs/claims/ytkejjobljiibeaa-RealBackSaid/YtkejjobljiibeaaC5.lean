/- Contracts of real.Bytes and real.Read. Conditions: words of 64 bits, bytes. -/
import Derived.Test.YtkejjobljiibeaaC3
import Derived.Test.YtkejjobljiibeaaP4
namespace Go.Proofs.Ytkejjobljiibeaa.Rl
open Go.ChangeShapes Go.WideShapes Go.ChangeAt Go.RowKit Dbl
open Go.Proofs.YtkejjobljiibeaaW.PrintWords Go.Proofs.YtkejjobljiibeaaW.PrintLast Go.Proofs.YtkejjobljiibeaaW.PrintMore
set_option linter.unusedVariables false
set_option linter.unusedSimpArgs false
theorem info5 : (Try.prog.info? 5).map (fun i => (i.zero, i.size, i.bytes)) = some (some (.int .u8 0), 1, 1) := by kernel_rfl
def byteAt (u : Nat) (i : Nat) : Int := (((u / 2 ^ (56 - 8 * i) % 256 : Nat)) : Int)
def part (u : Nat) (k : Nat) : List Int := (List.range 8).map fun i => if i < k then byteAt u i else 0
def be8 (u : Nat) : List Int := (List.range 8).map fun i => byteAt u i
theorem part_zero (u : Nat) : part u 0 = List.replicate 8 0 := by simp [part]; decide
theorem part_full (u : Nat) : part u 8 = be8 u := by
  unfold part be8; apply List.map_congr_left; intro i hi; rw [if_pos (List.mem_range.1 hi)]
theorem part_len (u k : Nat) : (part u k).length = 8 := by simp [part]
theorem part_set (u k : Nat) (hk : k < 8) : (part u k).set k (byteAt u k) = part u (k + 1) := by
  apply List.ext_getElem (by simp [part])
  intro i h1 h2
  simp only [part, List.length_map, List.length_range] at h2
  rw [List.getElem_set]
  simp only [part, List.getElem_map, List.getElem_range]
  by_cases e : k = i
  · subst e; simp
  · rw [if_neg e]
    by_cases h : i < k
    · rw [if_pos h, if_pos (by omega)]
    · rw [if_neg h, if_neg (by omega)]
set_option maxHeartbeats 2000000 in
theorem bytes_ (a : Nat) (h1 : a < full) (w : World) : Calls Try.prog 30 #[.float .f64 a] w fun e w' => ∃ v : Value, e = .returned v ∧ Kd.R (Kd.int .u8) 5 w' w.heap.size (fun _ => True) v (be8 a) ∧ Below w.heap.size w w' := by
  obtain ⟨u, hu⟩ : ∃ u : Int, (a : Int) = u := ⟨_, rfl⟩
  have HU := Aside0.mk hu
  have h13 : ∀ w : World, (callFunc 13 #[.float .f64 a]).run Try.prog w = .ok (.value (.int .u64 u)) w := fun w => hu ▸ c13 a w
  clear hu
  go_enter Try.func30, Try.ntmps30
  go_wp2_with (first | ((with_reducible refine gate_dst (N := 8) rfl ?_); refine Kd.R_make (Kd.int .u8) _ 5 rfl (N := 8) rfl 42 _ _ rfl 8 rfl rfl Try.underlying42 (.int .u8 0) 1 info5 rfl (by decide) (by omega) 0 (ok := fun _ => True) (okp := fun _ => True) rfl (fun _ hk => hk) trivial (by omega) (by omega) (Below.refl _ _) (Nat.le_refl _) ?_; intro v105 w3 ho4 hb hg_ hnew_; clear hg_ hnew_; (try simp only [Int.reduceToNat] at ho4); rw [show List.replicate 8 (0 : Int) = part a 0 from (part_zero a).symm] at ho4; have HO0 := Aside0.mk ho4; have HB0 := Aside0.mk hb; clear ho4 hb; obtain ⟨A5, c5, e5⟩ := Kd.R_slice HO0.out; rw [part_len] at e5; subst e5))
  go_loopg [5, 11] 8 (fun q v i w' => ∃ k : Nat, k ≤ 8 ∧ i = .int .i64 k ∧ q = 8 - k ∧ Aside0 (Kd.R (Kd.int .u8) 5 w' w.heap.size (fun _ => True) (.slice A5 8 c5) (part a k)) ∧ Aside0 (Below w.heap.size w w'))
  case atStart => exact ⟨0, by omega, rfl, rfl, HO0, HB0⟩
  case round =>
    obtain ⟨k, hk, rfl, rfl, HO, HB⟩ := hrel
    clear HO0 HB0
    by_cases hlt : k < 8
    · have HP := Aside0.mk (part_set a k hlt)
      have hl := part_len a k
      obtain ⟨g, c, e, gb, gl, cl, HG⟩ := Kd.R_form HO.out (by omega)
      rw [hl] at e
      injection e with ea en ec
      subst ea; subst ec; clear en
      have GB := Aside0.mk gb
      clear gb gl HG
      obtain ⟨hx, hf⟩ := Kd.R_celln 0 HO.out (k : Int) (by omega) (by omega)
      rw [Int.toNat_natCast] at hx hf
      have HV : Aside0 (u / 2 ^ (56 - 8 * k) % 256 = byteAt a k) := ⟨by rw [← HU.out]; unfold byteAt; simp⟩
      have HQ := Aside0.mk (Kd.R_putg HO.out (k : Int) (byteAt a k)).1
      rw [Int.toNat_natCast, HP.out] at HQ
      have t : decide ((k : Int) < 8) = true := decide_eq_true (by omega)
      go_wp2_with fail
      go_roundg (8 - (k + 1))
      case measure => omega
      case rel => exact ⟨k + 1, by omega, by go_num, rfl, ⟨by rw [HV.out]; exact HQ.out⟩, ⟨below_set HB.out GB.out⟩⟩
    · obtain rfl : k = 8 := by omega
      go_wp2_with fail
      go_ret
      have h := HO.out
      rw [part_full] at h
      exact ⟨_, rfl, h, HB.out⟩
set_option maxHeartbeats 2000000 in
theorem read_len (A : Option Addr) (c n : Nat) (w : World) (hn : n ≠ 8) (hm : n ≤ 9223372036854775807) : Calls Try.prog 27 #[.slice A n c] w fun e w' => e = .returned (.tuple #[.float .f64 0, .int .i64 11]) ∧ w = w' := by
  have h0 : ((n : Int) != 8) = true := by rw [bne_iff_ne]; omega
  go_enter Try.func27, Try.ntmps27
  go_wp2
  go_ret2
  exact ⟨rfl, rfl⟩
/-- what real.Read tells of eight bytes -/
def readRes (l : List Int) : Value := if canonU (wordOf l).toNat = (wordOf l).toNat then .tuple #[.float .f64 (wordOf l).toNat, .int .i64 0] else .tuple #[.float .f64 0, .int .i64 11]
theorem readRes_yes {l : List Int} (h : canonU (wordOf l).toNat = (wordOf l).toNat) : readRes l = .tuple #[.float .f64 (wordOf l).toNat, .int .i64 0] := if_pos h
theorem readRes_no {l : List Int} (h : ¬ canonU (wordOf l).toNat = (wordOf l).toNat) : readRes l = .tuple #[.float .f64 0, .int .i64 11] := if_neg h
set_option maxHeartbeats 2000000 in
theorem read_any (A : Option Addr) (c : Nat) (l : List Int) (w : World) (hr : Kd.C (Kd.int .u8) w A 8 l) (hb : ∀ x ∈ l, 0 ≤ x ∧ x < 256) :
    Calls Try.prog 27 #[.slice A 8 c] w fun e w' => e = .returned (readRes l) ∧ w = w' := by
  have hl : l.length = 8 := hr.1
  rw [← hl] at hr
  obtain ⟨b, off, hA, hcell⟩ := C_block hr (by omega)
  subst hA
  have HC := Aside0.mk hcell
  have HL := Aside0.mk hl
  have h12 := c12
  clear hr hcell
  have HX : Aside0 (∀ k, k ≤ 8 → 0 ≤ wordOf (l.take k) ∧ wordOf (l.take k) < 256 ^ k) := ⟨fun k hk => by
    have h := wordOf_bd (l.take k) (fun x hx => hb x (List.mem_of_mem_take hx))
    rw [List.length_take, hl, Nat.min_eq_left hk] at h; exact h⟩
  have HBs := Aside0.mk hb
  clear hb hl
  go_enter Try.func27, Try.ntmps27
  go_wp2
  go_loop [4, 13] (fun u i => ∃ k : Nat, k ≤ 8 ∧ u = .int .u64 (wordOf (l.take k)) ∧ i = .int .i64 k) (fun _ i => 8 - (intOf i).toNat)
  case atStart => exact ⟨0, by omega, rfl, rfl⟩
  case round =>
    obtain ⟨k, hk, rfl, rfl⟩ := hrel
    by_cases hlt : k < 8
    · have hkl : k < l.length := by rw [HL.out]; exact hlt
      have hcell := HC.out k hkl
      have HT : Aside0 (wordOf (l.take (k + 1)) = wordOf (l.take k) * 256 + l[k]) := ⟨by rw [List.take_succ_eq_append_getElem hkl, wordOf_snoc]⟩
      obtain ⟨hx0, hx1⟩ := HBs.out l[k] (List.getElem_mem hkl)
      have hU := HX.out k hk
      have hp : (256 : Int) ^ k ≤ 256 ^ 7 := by
        have := Nat.pow_le_pow_right (n := 256) (by decide) (show k ≤ 7 by omega)
        have e : ((256 ^ k : Nat) : Int) ≤ ((256 ^ 7 : Nat) : Int) := Int.ofNat_le.2 this
        simpa using e
      have hU0 := hU.1
      have hU1 : wordOf (l.take k) < 72057594037927936 := by have := hU.2; omega
      have HO := Aside0.mk (or_byte hU0 hU1 hx0 hx1)
      clear hU hp
      have t : decide ((k : Int) < 8) = true := decide_eq_true (by omega)
      generalize l[k] = x at *
      generalize wordOf (l.take k) = u at *
      go_wp2_with fail
      go_round
      case rel => exact ⟨k + 1, by omega, by rw [HT.out, ← HO.out], by go_num⟩
      case measure => simp [intOf]; omega
    · obtain rfl : k = 8 := by omega
      have hT : l.take 8 = l := by rw [← HL.out]; exact List.take_length
      have hU := HX.out 8 (by omega)
      rw [hT] at hU ⊢
      have hW : (wordOf l).toNat < full := by unfold full; have := hU.1; have := hU.2; omega
      clear hU hT
      by_cases hs : canonU (wordOf l).toNat = (wordOf l).toNat
      · have HR := Lib.hid (readRes_yes hs)
        have S := Lib.hid (beq_iff_eq.2 (by omega) : ((canonU (wordOf l).toNat : Int) == ((wordOf l).toNat : Int)) = true); clear hs
        go_wp2_with (first | (go_at_call 14; (with_reducible refine (canon _ _).mono ?_); rintro e w' ⟨rfl, rfl⟩) | (go_at_call 22; (with_reducible refine (same _ _ _).mono ?_); rw [S.out]; rintro e w' ⟨rfl, rfl⟩))
        go_ret2
        exact ⟨by rw [HR.out]; rfl, rfl⟩
      · have HR := Lib.hid (readRes_no hs)
        have S := Lib.hid (beq_eq_false_iff_ne.2 (by omega) : ((canonU (wordOf l).toNat : Int) == ((wordOf l).toNat : Int)) = false); clear hs
        go_wp2_with (first | (go_at_call 14; (with_reducible refine (canon _ _).mono ?_); rintro e w' ⟨rfl, rfl⟩) | (go_at_call 22; (with_reducible refine (same _ _ _).mono ?_); rw [S.out]; rintro e w' ⟨rfl, rfl⟩))
        go_ret2
        exact ⟨by rw [HR.out]; rfl, rfl⟩
end Go.Proofs.Ytkejjobljiibeaa.Rl
