/- The walk of the law PackTruths, for every row of truths and every byte. Conditions: those of the row alone. -/
import Derived.Test.YtfhgclojfjiblaaK1
import Derived.Deep.RegionWith
namespace Go.Proofs.Ytfhgclojfjiblaa.Pk
open Go.ChangeShapes Go.WideShapes Go.ChangeAt Go.RowKit Go.Proofs.Ytfhgclojfjiblaa.PPackPuts Go.Proofs.Ytfhgclojfjiblaa.Enc Go.Proofs.Ytfhgclojfjiblaa.EncP Go.Proofs.Ytfhgclojfjiblaa.EncC
open Go.Proofs.Ytfhgclojfjiblaa.Hlp Go.Proofs.Ytfhgclojfjiblaa.Wrd Go.Proofs.YtfhgclojfjiblaaW.PrintWords Go.Proofs.YtfhgclojfjiblaaW.PrintLast Go.Proofs.YtfhgclojfjiblaaW.PrintMore
set_option linter.unusedVariables false
set_option linter.unusedSimpArgs false
theorem C_one {α : Type} {enc : α → Value} {h1 : ∀ x, (enc x).oneCell' = true} {w : World} {A : Option Addr} {xs : List α} (h : (Kd.scalar enc h1).C w A xs.length xs) (k : Nat) (hk : k < xs.length) :
    ∃ b off, A = some ⟨b, off, none⟩ ∧ w.cell? ⟨b, off + k, none⟩ = some (enc xs[k]) := by
  obtain ⟨b, off, e, hc⟩ := C_block h (by omega)
  exact ⟨b, off, e, hc k hk⟩
def bits (l : List Bool) : List Int := l.map fun t => if t then 1 else 0
theorem bits_snoc (l : List Bool) (k : Nat) (hk : k < l.length) : bits (l.take (k + 1)) = bits (l.take k) ++ truthB l[k] := by
  unfold bits truthB; rw [List.take_succ_eq_append_getElem hk, List.map_append]; cases l[k] <;> rfl
theorem bits_len (l : List Bool) : (bits l).length = l.length := by simp [bits]
theorem bits_bytes (l : List Bool) : ∀ x ∈ bits l, 0 ≤ x ∧ x < 256 := by
  intro x hx
  obtain ⟨t, _, rfl⟩ := List.mem_map.1 hx
  cases t <;> simp
theorem bits_drop (l : List Bool) (k : Nat) (hk : k < l.length) : (bits l).drop k = (if l[k] then 1 else 0) :: (bits l).drop (k + 1) := by
  unfold bits
  rw [List.drop_eq_getElem_cons (by simpa using hk)]
  simp
theorem byte1 {x : Int} (h : (Lit.int .u8 x).wf = true) : 0 ≤ x ∧ x < 256 := by
  simp [Lit.wf] at h
  have h2 := h.2
  simp [IntKind.max, IntKind.bits, IntKind.signed] at h2
  exact ⟨h.1, by omega⟩
set_option maxHeartbeats 2000000 in
theorem packTruths (w : World) (A : Option Addr) (c : Nat) (l : List Bool) (hr : Kd.C Kd.bool w A l.length l) (hc : l.length ≤ c) (wf : l.length ≤ maxLen ∧ l.length * 1 ≤ 140737488351232 ∧ ∀ x ∈ l, True) (y : Int) (wy : (Lit.int .u8 y).wf = true) :
    Calls Try.prog 4 #[.slice A l.length c, .int .u8 y] w fun e w' => e = .returned (.bool true) ∧ Below w.heap.size w w' := by
  have hm := hr.2.1
  have HR := Aside0.mk hr
  clear wf hr
  by_cases hl : (l.length : Int) > 100
  · have t := decide_eq_true hl
    clear wy
    go_enter Try.func4, Try.ntmps4
    go_wp2_with (go_at_call 10; (with_reducible refine (known_ _).mono ?_); rintro e w' ⟨rfl, hb⟩; have HB := Aside0.mk hb; clear hb)
    go_ret
    exact ⟨rfl, HB.out⟩
  have hl2 : l.length ≤ 100 := by omega
  have t : decide (100 < (l.length : Int)) = false := decide_eq_false (by omega)
  have t2 : decide (100 < l.length) = false := decide_eq_false (by omega)
  clear hl
  go_enter Try.func4, Try.ntmps4
  go_wp2
  go_loopg [5, 6] l.length (fun q v i w' => ∃ k : Nat, k ≤ l.length ∧ i = .int .i64 k ∧ q = l.length - k ∧ Aside0 (Kd.R (Kd.int .u8) 5 w' w.heap.size (fun _ => True) v (bits (l.take k))) ∧ Aside0 (Below w.heap.size w w'))
  case atStart => exact ⟨0, Nat.zero_le _, rfl, by simp, ⟨Kd.R_nil _ _ _ _ _⟩, ⟨Below.refl _ _⟩⟩
  case round =>
    obtain ⟨k, hk, rfl, rfl, HO, HB⟩ := hrel
    by_cases hlt : k < l.length
    · obtain ⟨b, off, hA, hcell⟩ := C_one (Kd.C_below HR.out HB.out) k hlt
      subst hA
      have HT := Aside0.mk (bits_snoc l k hlt)
      have hlk := bits_len (l.take k)
      rw [List.length_take, Nat.min_eq_left hk] at hlk
      have t5 : decide ((k : Int) < (l.length : Int)) = true := decide_eq_true (by omega)
      generalize l[k] = x at *
      have hxl : (truthB x).length = 1 := by cases x <;> rfl
      obtain ⟨xs, hxs⟩ : ∃ xs, bits (l.take k) = xs := ⟨_, rfl⟩
      rw [hxs] at HO HT hlk
      obtain ⟨ys, hys⟩ : ∃ ys, truthB x = ys := ⟨_, rfl⟩
      have HY := Aside0.mk hys
      rw [hys] at HT hxl
      have HX := Aside0.mk hxl
      clear hxs hys hxl
      go_wp2_with (first
        | (go_at_call 16; (with_reducible refine (truth_c _ _).mono ?_); rw [HY.out]; rintro e w1 ⟨v1, rfl, ho1, hb1⟩; obtain ⟨A1, c1, rfl, hc1, hr1⟩ := Kd.R_reads ho1; have HR1 := Aside0.mk hr1; have HB1 := Aside0.mk (below_step HB.out hb1); have HO1 := Aside0.mk (Kd.R_below HO.out hb1); clear ho1 hb1 hr1)
        | ((with_reducible refine gate_builtin (b := .append) rfl ?_); at_builtin; refine Kd.R_append_rows (Kd.int .u8) (w0 := w) w.heap.size rfl _ _ 22 5 (.int .u8 0) 1 rfl Try.underlying22 info8 rfl (by decide) (by omega) _ xs ys _ _ _ (fun _ => True) (fun _ => False) rfl rfl HO1.out HR1.out (fun _ _ h => h) (fun _ h => h.elim) (fun _ _ => trivial) HB1.out HB1.out.size (by have := HX.out; omega) ?_; intro v2 w2 ho2 hb2 hg2 hat2; rw [← HT.out] at ho2; have HO2 := Aside0.mk ho2; have HB2 := Aside0.mk hb2; clear ho2 hb2 hg2 hat2))
      go_roundg (l.length - (k + 1))
      case measure => omega
      case rel => exact ⟨k + 1, by omega, by go_num, rfl, HO2, HB2⟩
    · obtain rfl : k = l.length := by omega
      rw [List.take_length] at HO
      clear hk hlt
      obtain ⟨A5, c5, hv5, hc5, hr5⟩ := Kd.R_reads HO.out
      subst hv5
      have hlb := bits_len l
      have HR5 := Aside0.mk hr5
      clear hr5
      have HBy := Aside0.mk (bits_bytes l)
      rw [hlb] at HR5 hc5
      go_wp2_with fail
      (with_reducible refine (new_c HR5.out hc5 HBy.out (by omega)).mono ?_)
      rintro e w1 ⟨g, b1, c1, rfl, hR, hB, hg1, hg2⟩
      have HR0 := Aside0.mk hR
      have HB0 := Aside0.mk (below_step HB.out hB)
      have HG := Aside0.mk (Nat.le_trans HB.out.size hg1)
      clear hR hB hg1 hg2
      rw [hlb] at *
      go_wp2_with fail
      go_loopg [8] l.length (fun q i w' => ∃ k : Nat, k ≤ l.length ∧ i = .int .i64 k ∧ q = l.length - k ∧ Aside0 (∃ b c, Rd w' g b c ((bits l).drop k) 0 false) ∧ Aside0 (Below w.heap.size w w'))
      case atStart => exact ⟨0, Nat.zero_le _, rfl, by simp, ⟨_, _, HR0.out⟩, HB0⟩
      case round =>
        obtain ⟨k, hk, rfl, rfl, HK, HB1⟩ := hrel
        by_cases hlt : k < l.length
        · obtain ⟨b, off, hA, hcell⟩ := C_one HR.out k hlt
          subst hA
          have hbd := bits_drop l k hlt
          obtain ⟨b2, c2, hRd⟩ := HK.out
          rw [hbd] at hRd
          have HRd := Aside0.mk (hRd.below (below_drew (Below.refl _ _)))
          have t7 : decide ((k : Int) < (l.length : Int)) = true := decide_eq_true (by omega)
          have hblt : b < w.heap.size := World.block_lt_of_cell? w _ hcell
          have hbg : some b ≠ some g := by have := HG.out; intro e; injection e with e; omega
          have HCW := Aside0.mk (fun (w3 : World) (h : wr.drew.grownBy w3 (some g)) => (show w3.cell? ⟨b, off + k, none⟩ = some (.bool l[k]) from cell_grown h (pw_cell_below (below_drew HB1.out) hcell) hbg))
          have hcellr := pw_cell_below HB1.out hcell
          have TS : Aside0 (truthS ⟨(if l[k] then 1 else 0) :: (bits l).drop (k + 1), 0⟩ = (l[k], ⟨(bits l).drop (k + 1), 0⟩)) := ⟨by cases l[k] <;> rfl⟩
          clear hRd hbd hcell
          generalize l[k] = x at *
          go_wp2_with fail
          go_region_with (go_at_call 18; (with_reducible refine (truth_ HRd.out).mono ?_); rw [TS.out]; rintro e w3 ⟨rfl, b3, c3, hR3, hU3⟩; have hcell3 := HCW.out _ hU3; have HR3 := Aside0.mk hR3; have HU3 := Aside0.mk hU3; clear hR3 hU3)
          have HBn := Aside0.mk (below_drew HB1.out)
          all_goals
            go_wp2_with fail
            go_roundg (l.length - (k + 1))
            case measure => omega
            case rel => exact ⟨k + 1, by omega, by go_num, rfl, ⟨_, _, HR3.out⟩, ⟨pw_below_grown (below_drew HB1.out) (some g) (below_drew HB1.out).size HU3.out (fun j hj => by injection hj with hj; subst hj; exact HG.out)⟩⟩
        · obtain rfl : k = l.length := by omega
          obtain ⟨b2, c2, hRd⟩ := HK.out
          have hd0 : (bits l).drop l.length = [] := List.drop_eq_nil_of_le (by rw [bits_len]; exact Nat.le_refl _)
          rw [hd0] at hRd
          have HRd := Aside0.mk hRd
          clear hRd
          have HL : Aside0 (Kd.C (Kd.int .u8) (wr.alloc (.cells #[.int .u8 y] 5)) (some ⟨wr.heap.size, 0, none⟩) 1 [y]) := ⟨C_blki [y] (blk_new wr _) (by simp) rfl⟩
          have hy := byte1 wy
          go_wp2_with fail
          (with_reducible refine (new_c HL.out (Nat.le_refl 1) (by simpa using hy) (by decide)).mono ?_)
          rintro e w3 ⟨g2, b3, c3, rfl, hR3, hB3, hg3, hg4⟩
          have HRs := Aside0.mk hR3
          have HRr := Aside0.mk ((HRd.out.below (below_alloc (Below.refl _ _) _)).below hB3)
          have hne : g ≠ g2 := by
            have := blk_lt HRd.out.blk
            simp at hg3
            omega
          have HB3 := Aside0.mk (below_step (below_alloc HB1.out _) hB3)
          have HG2 : Aside0 (w.heap.size ≤ g2) := ⟨by have := HB1.out.size; simp at hg3; omega⟩
          clear hR3 hB3 hg3 hg4 HL HRd
          by_cases h1 : 1 < y
          · have TS : Aside0 (truthS ⟨[y], 0⟩ = (false, ⟨[y], 11⟩)) := ⟨by simp [truthS, h1]⟩
            have E1 : Aside0 (endP [y] 11 = 11) := ⟨rfl⟩
            have E0 : Aside0 (endP [] 0 = 0) := ⟨rfl⟩
            have t1 : (y == 1) = false := beq_eq_false_iff_ne.2 (by omega)
            have t3 : decide (y < 2) = false := decide_eq_false (by omega)
            clear wy hy h1
            go_wp2_with fail
            (with_reducible refine (truth_ HRs.out).mono ?_)
            rw [TS.out]
            rintro e w4 ⟨rfl, b4, c4, hR4, hU4⟩
            have HRr4 := Aside0.mk (HRr.out.other HRs.out hU4 hne)
            have HR4 := Aside0.mk hR4
            have HB4 := Aside0.mk (pw_below_grown HB3.out (some g2) HB3.out.size hU4 (fun j hj => by injection hj with hj; subst hj; exact HG2.out))
            clear hR4 hU4
            go_wp2_with (first
              | (go_at_call 19; (with_reducible refine (end_ HRr4.out).mono ?_); rw [E0.out]; rintro e w' ⟨rfl, rfl⟩)
              | (go_at_call 19; (with_reducible refine (end_ HR4.out).mono ?_); rw [E1.out]; rintro e w' ⟨rfl, rfl⟩)
              | (go_at_call 10; (with_reducible refine (known_ _).mono ?_); rintro e w' ⟨rfl, hb⟩; have HB5 := Aside0.mk (below_step HB4.out hb); clear hb))
            go_ret
            exact ⟨rfl, HB5.out⟩
          · have h01 : y = 0 ∨ y = 1 := by omega
            have E1 : Aside0 (endP [] 0 = 0) := ⟨rfl⟩
            have E0 := E1
            rcases h01 with rfl | rfl
            · have TS : Aside0 (truthS ⟨[0], 0⟩ = (false, ⟨[], 0⟩)) := ⟨rfl⟩
              clear wy hy h1
              go_wp2_with fail
              (with_reducible refine (truth_ HRs.out).mono ?_)
              rw [TS.out]
              rintro e w4 ⟨rfl, b4, c4, hR4, hU4⟩
              have HRr4 := Aside0.mk (HRr.out.other HRs.out hU4 hne)
              have HR4 := Aside0.mk hR4
              have HB4 := Aside0.mk (pw_below_grown HB3.out (some g2) HB3.out.size hU4 (fun j hj => by injection hj with hj; subst hj; exact HG2.out))
              clear hR4 hU4
              go_wp2_with (first
                | (go_at_call 19; (with_reducible refine (end_ HRr4.out).mono ?_); rw [E0.out]; rintro e w' ⟨rfl, rfl⟩)
                | (go_at_call 19; (with_reducible refine (end_ HR4.out).mono ?_); rw [E1.out]; rintro e w' ⟨rfl, rfl⟩)
                | (go_at_call 10; (with_reducible refine (known_ _).mono ?_); rintro e w' ⟨rfl, hb⟩; have HB5 := Aside0.mk (below_step HB4.out hb); clear hb))
              go_ret
              exact ⟨rfl, HB5.out⟩
            · have TS : Aside0 (truthS ⟨[1], 0⟩ = (true, ⟨[], 0⟩)) := ⟨rfl⟩
              clear wy hy h1
              go_wp2_with fail
              (with_reducible refine (truth_ HRs.out).mono ?_)
              rw [TS.out]
              rintro e w4 ⟨rfl, b4, c4, hR4, hU4⟩
              have HRr4 := Aside0.mk (HRr.out.other HRs.out hU4 hne)
              have HR4 := Aside0.mk hR4
              have HB4 := Aside0.mk (pw_below_grown HB3.out (some g2) HB3.out.size hU4 (fun j hj => by injection hj with hj; subst hj; exact HG2.out))
              clear hR4 hU4
              go_wp2_with (first
                | (go_at_call 19; (with_reducible refine (end_ HRr4.out).mono ?_); rw [E0.out]; rintro e w' ⟨rfl, rfl⟩)
                | (go_at_call 19; (with_reducible refine (end_ HR4.out).mono ?_); rw [E1.out]; rintro e w' ⟨rfl, rfl⟩)
                | (go_at_call 10; (with_reducible refine (known_ _).mono ?_); rintro e w' ⟨rfl, hb⟩; have HB5 := Aside0.mk (below_step HB4.out hb); clear hb))
              go_ret
              exact ⟨rfl, HB5.out⟩
end Go.Proofs.Ytfhgclojfjiblaa.Pk
