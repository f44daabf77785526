/- The walk of the law RealLeast, for every row of words. Conditions: those of the row alone. -/
import Derived.Test.YtkejjobljiibeaaC4
import Derived.Deep.QuietTactic
import Derived.BigQuiet
import Derived.Deep.RegionWith
namespace Go.Proofs.Ytkejjobljiibeaa.Rl
open Go.ChangeShapes Go.WideShapes Go.ChangeAt Go.RowKit Dbl
open Go.Proofs.YtkejjobljiibeaaW.PrintWords Go.Proofs.YtkejjobljiibeaaW.PrintLast Go.Proofs.YtkejjobljiibeaaW.PrintMore
set_option linter.unusedVariables false
set_option linter.unusedSimpArgs false
theorem words_wf {l : List Int} (h : ∀ x ∈ l, (Lit.int .u64 x).wf = true) : ∀ x ∈ l, Wd x := fun x hx => wd_of_wf (h x hx)
theorem all_c {w : World} {A : Option Addr} {n c : Nat} {l : List Int} (hr : Kd.C (Kd.int .u64) w A n l) (hc : n ≤ c) (hl : n ≤ 17592186044415) :
    Calls Try.prog 25 #[.slice A n c] w fun e w' => ∃ v : Value, e = .returned v ∧ Kd.R flt 23 w' w.heap.size (fun _ => True) v (l.map Int.toNat) ∧ Below w.heap.size w w' := by
  obtain rfl : l.length = n := hr.1
  exact all_ A c l w hr hc hl
theorem least_c {w : World} {A : Option Addr} {n c : Nat} {F : List Nat} {x0 : Nat} {l : List Nat} {q : Nat} (hr : Kd.C flt w A n F) (hF : Aside0 (F = x0 :: l)) (hq : Aside0 (leastOf x0 l = q)) (hc : n ≤ c) (hl : n ≤ 17592186044415) (hw : ∀ x ∈ F, x < full) :
    Calls Try.prog 26 #[.slice A n c] w fun e w' => e = .returned (.tuple #[.float .f64 q, .int .i64 0]) ∧ w = w' := by
  rw [hF.out] at hr hw
  rw [← hq.out]
  obtain rfl : (x0 :: l).length = n := hr.1
  exact least A c x0 l w hr hc (by simp at hl; omega) (hw x0 List.mem_cons_self) (fun x hx => hw x (List.mem_cons_of_mem _ hx))
/-- was one of the first k it? -/
def was (l : List Int) (x : Nat) (k : Nat) : Bool := (l.take k).any fun y => y == (x : Int)
theorem was_succ (l : List Int) (x k : Nat) (hk : k < l.length) : was l x (k + 1) = (was l x k || l[k] == (x : Int)) := by
  unfold was; rw [List.take_succ_eq_append_getElem hk, List.any_append]; simp
theorem was_all (l : List Int) (x : Nat) (hl : ∀ y ∈ l, Wd y) (hx : x ∈ l.map Int.toNat) : was l x l.length = true := by
  unfold was; rw [List.take_length, List.any_eq_true]
  obtain ⟨y, hy, rfl⟩ := List.mem_map.1 hx
  exact ⟨y, hy, by have := (hl y hy).cast; simp only [beq_iff_eq]; exact this.symm⟩
set_option maxHeartbeats 4000000 in
theorem realLeast (w : World) (A : Option Addr) (c : Nat) (l : List Int) (hr : Kd.C (Kd.int .u64) w A l.length l) (hc : l.length ≤ c) (wf : l.length ≤ maxLen ∧ l.length * 8 ≤ 140737488351232 ∧ ∀ x ∈ l, (Lit.int .u64 x).wf = true) :
    Calls Try.prog 6 #[.slice A l.length c] w fun e w' => e = .returned (.bool true) ∧ Below w.heap.size w w' := by
  have hm := hr.2.1
  have HR0 := Aside0.mk hr
  have HR0w := HR0
  have HW := Aside0.mk (words_wf wf.2.2)
  clear wf hr
  by_cases hl : (l.length : Int) > 100
  · have t := decide_eq_true hl
    go_enter Try.func6, Try.ntmps6
    go_wp2_with (go_at_call 23; (with_reducible refine (known_ _).mono ?_); rintro e w' ⟨rfl, rfl⟩)
    go_ret
    exact ⟨rfl, Below.refl _ _⟩
  have t : decide (100 < (l.length : Int)) = false := decide_eq_false (by omega)
  have t2 : decide (100 < l.length) = false := decide_eq_false (by omega)
  by_cases h0 : l.length = 0
  · obtain rfl := List.length_eq_zero_iff.1 h0
    simp only [List.length_nil] at t t2 ⊢
    clear hl h0
    go_enter Try.func6, Try.ntmps6
    go_wp2_with (go_at_call 23; (with_reducible refine (known_ _).mono ?_); rintro e w' ⟨rfl, rfl⟩)
    go_ret
    exact ⟨rfl, Below.refl _ _⟩
  have t3 : ((l.length : Int) == 0) = false := beq_eq_false_iff_ne.2 (by omega)
  have hl2 : l.length ≤ 100 := by omega
  have hl3 : 0 < l.length := by omega
  obtain ⟨F, hF0⟩ : ∃ F, l.map Int.toNat = F := ⟨_, rfl⟩
  obtain ⟨x0, r, hF⟩ : ∃ x0 r, F = x0 :: r := by
    rw [← hF0]
    cases l with
    | nil => simp at hl3
    | cons a s => exact ⟨_, _, rfl⟩
  have HF0 := Aside0.mk hF0
  have HF := Aside0.mk hF
  have HFL : Aside0 (∀ x ∈ F, x < full) := ⟨by
    rw [← hF0]; intro x hx
    obtain ⟨y, hy, rfl⟩ := List.mem_map.1 hx
    exact (HW.out y hy).nat⟩
  have HLen : Aside0 (F.length = l.length) := ⟨by rw [← hF0]; simp⟩
  have hrl : F.length ≤ 100 := by have := HLen.out; omega
  obtain ⟨q, hq⟩ : ∃ q, leastOf x0 r = q := ⟨_, rfl⟩
  have HQ := Aside0.mk hq
  have hqf : q < full := by rw [← hq]; exact leastOf_lt (HFL.out x0 (by rw [hF]; exact List.mem_cons_self)) (fun x hx => HFL.out x (by rw [hF]; exact List.mem_cons_of_mem _ hx))
  obtain ⟨G, hG⟩ : ∃ G, F ++ F = G := ⟨_, rfl⟩
  have HG := Aside0.mk hG
  have HGe : Aside0 (G = x0 :: (r ++ (x0 :: r))) := ⟨by rw [← hG, hF]; rfl⟩
  have HGq : Aside0 (leastOf x0 (r ++ (x0 :: r)) = q) := ⟨by rw [leastOf_twice, hq]⟩
  have HGL : Aside0 (∀ x ∈ G, x < full) := ⟨by rw [← hG]; intro x hx; rcases List.mem_append.1 hx with h | h <;> exact HFL.out x h⟩
  have hGl : G.length ≤ 200 := by rw [← hG, List.length_append]; omega
  have HGl : Aside0 (l.length ≤ G.length) := ⟨by have := HLen.out; rw [← hG, List.length_append]; omega⟩
  have HLA : Aside0 (∀ z ∈ G, cmpU q z ≤ 0) := ⟨by
    rw [← hG, ← hq]; intro z hz
    refine least_not_above x0 r z ?_
    rw [← hF]
    rcases List.mem_append.1 hz with h | h <;> exact h⟩
  have HWA : Aside0 (was l q l.length = true) := ⟨was_all l q HW.out (by rw [hF0, ← hq, hF]; exact leastOf_mem x0 r)⟩
  have h13 := c13
  clear hl h0 hF0 hF hq hG
  go_enter Try.func6, Try.ntmps6
  go_wp2_with (first
    | (go_at_call 25; (with_reducible refine (all_c HR0.out hc (by omega)).mono ?_); rw [HF0.out]; rintro e w1 ⟨v1, rfl, ho1, hb1⟩; obtain ⟨A1, c1, rfl, hc1, hr1⟩ := Kd.R_reads ho1; have HO1 := Aside0.mk ho1; have HR1 := Aside0.mk hr1; have HB1 := Aside0.mk hb1; clear ho1 hr1 hb1; have HRb := Aside0.mk (Kd.C_below HR0.out HB1.out); clear HR0)
    | (go_at_call 25; (with_reducible refine (all_c HRb.out hc (by omega)).mono ?_); rw [HF0.out]; rintro e w2 ⟨v2, rfl, ho2, hb2⟩; obtain ⟨A2, c2, rfl, hc2, hr2⟩ := Kd.R_reads ho2; have HO2 := Aside0.mk (Kd.R_below HO1.out hb2); have HR2 := Aside0.mk hr2; have HB2 := Aside0.mk (below_step HB1.out hb2); have HRc := Aside0.mk (Kd.C_below HRb.out hb2); clear ho2 hr2 hb2 HRb)
    | (go_at_call 26; (with_reducible refine (least_c HR1.out HF HQ hc1 (by omega) HFL.out).mono ?_); rintro e w' ⟨rfl, rfl⟩)
    | ((with_reducible refine gate_builtin (b := .append) rfl ?_); at_builtin; refine Kd.R_append_rows flt (w0 := w) w.heap.size rfl _ _ 36 23 (.float .f64 0) 8 rfl Try.underlying36 info23 rfl (by decide) (by omega) _ F F _ _ _ (fun _ => True) (fun _ => False) rfl rfl HO2.out HR2.out (fun _ _ h => h) (fun _ h => h.elim) (fun _ _ => trivial) HB2.out HB2.out.size (by omega) ?_; intro v3 w3 ho3 hb3 hg3 hat3; rw [HG.out] at ho3; obtain ⟨A3, c3, rfl, hc3, hr3⟩ := Kd.R_reads ho3; have HR3 := Aside0.mk hr3; have HB3 := Aside0.mk hb3; clear ho3 hb3 hg3 hat3 hr3)
    | (go_at_call 26; (with_reducible refine (least_c HR3.out HGe HGq hc3 (by omega) HGL.out).mono ?_); rintro e w' ⟨rfl, rfl⟩))
  go_loopg [8, 9] l.length (fun m v i w' => ∃ k : Nat, k ≤ l.length ∧ i = .int .i64 k ∧ m = l.length - k ∧ v = .bool (was l q k) ∧ ∃ n, w' = w3.drewN n)
  case atStart => exact ⟨0, Nat.zero_le _, rfl, by simp, rfl, 0, rfl⟩
  case round =>
    obtain ⟨k, hk, rfl, rfl, rfl, n, rfl⟩ := hrel
    by_cases hlt : k < l.length
    · have HWs := Aside0.mk (was_succ l q k hlt)
      have hGk : k < G.length := Nat.lt_of_lt_of_le hlt HGl.out
      obtain ⟨b, off, hA, hcl⟩ := C_block (Kd.C_below HR0w.out HB3.out) hl3
      have hcell := hcl k hlt
      subst hA
      obtain ⟨b3, off3, hA3, hcl3⟩ := C_block HR3.out (by omega)
      have hcell3 := hcl3 k hGk
      subst hA3
      have hzf := HGL.out _ (List.getElem_mem hGk)
      have hle := HLA.out _ (List.getElem_mem hGk)
      have hgt : decide (0 < cmpU q G[k]) = false := decide_eq_false (by omega)
      have t7 : decide ((k : Int) < (l.length : Int)) = true := decide_eq_true (by omega)
      clear hcl hcl3 hle
      generalize G[k] = z at *
      generalize l[k] = y at *
      by_cases hwk : was l q k = true
      · rw [hwk, Bool.true_or] at HWs
        rw [hwk]
        clear hwk
        go_wp2_with fail
        go_quiet (fail)
        go_wp2_with (first | (go_at_call 20; (with_reducible refine (compare_ q z hqf hzf _).mono ?_); rintro e w' ⟨rfl, rfl⟩))
        go_roundg (l.length - (k + 1))
        case measure => omega
        case rel => exact ⟨k + 1, by omega, by go_num, rfl, by rw [HWs.out], _, rfl⟩
      · have hwk2 : was l q k = false := by simpa using hwk
        rw [hwk2, Bool.false_or] at HWs
        rw [hwk2]
        clear hwk hwk2
        go_wp2_with fail
        go_quiet (fail)
        go_wp2_with (first | (go_at_call 20; (with_reducible refine (compare_ q z hqf hzf _).mono ?_); rintro e w' ⟨rfl, rfl⟩))
        go_roundg (l.length - (k + 1))
        case measure => omega
        case rel => exact ⟨k + 1, by omega, by go_num, rfl, by rw [HWs.out], _, rfl⟩
    · obtain rfl : k = l.length := by omega
      rw [HWA.out]
      clear hk hlt
      go_wp2_with (first | (go_at_call 22; (with_reducible refine (same _ _ _).mono ?_); rintro e w' ⟨rfl, rfl⟩) | (go_at_call 23; (with_reducible refine (known_ _).mono ?_); rintro e w' ⟨rfl, rfl⟩))
      go_ret
      exact ⟨rfl, pw_below_drewN HB3.out _⟩
end Go.Proofs.Ytkejjobljiibeaa.Rl
