/- The walk of the law RealSome, for every row of words. No condition. -/
import Derived.Test.YtkejjobljiibeaaC10
namespace Go.Proofs.Ytkejjobljiibeaa.Rl
open Go.ChangeShapes Go.WideShapes Go.ChangeAt Go.RowKit Dbl
open Go.Proofs.YtkejjobljiibeaaW.PrintWords Go.Proofs.YtkejjobljiibeaaW.PrintLast Go.Proofs.YtkejjobljiibeaaW.PrintMore
set_option linter.unusedVariables false
set_option linter.unusedSimpArgs false
theorem R_readsE {α : Type} {d : Kd α} {e : Nat} {w : World} {base : Nat} {ok : Nat → Prop} {v : Value} {xs : List α} {n : Nat} (h : d.R e w base ok v xs) (hn : xs.length = n) : ∃ A c, v = .slice A n c ∧ n ≤ c ∧ d.C w A xs.length xs := by
  subst hn
  exact Kd.R_reads h
theorem mean_n {A : Option Addr} {c n : Nat} {l : List Nat} {w : World} (hn : l.length = n) (hr : Kd.C Opn.flt w A l.length l) (hc : n ≤ c) (hl : n ≤ 17592186044415) (hw : ∀ x ∈ l, x < full) :
    Calls Try.prog 34 #[.slice A n c] w (TupD (meanR l) w) := by
  subst hn; exact mean A c l w hr hc hl hw
theorem rmean_n {A : Option Addr} {c n : Nat} {l : List Nat} {w : World} (hn : l.length = n) (hr : Kd.C Opn.flt w A l.length l) (hc : n ≤ c) (hl : n ≤ 17592186044415) (hw : ∀ x ∈ l, x < full) :
    Calls Try.prog 35 #[.slice A n c] w (TupD (meanR l) w) := by
  subst hn; exact rmean A c l w hr hc hl hw
theorem bits_n {A : Option Addr} {c n : Nat} {l : List Nat} {w : World} (hn : l.length = n) (hr : Kd.C Opn.flt w A l.length l) (hc : n ≤ c) (hl : n ≤ 17592186044415) :
    Calls Try.prog 37 #[.slice A n c] w fun e w' => ∃ (B : Option Addr) (c : Nat), e = .returned (.slice B n c) ∧ Below w.heap.size w w' := by
  subst hn
  refine (bits_ A c l w hr hc hl).mono ?_
  rintro e w' ⟨v, rfl, ho, hb⟩
  obtain ⟨B, c', rfl, _, _⟩ := Kd.R_reads ho
  exact ⟨B, c', by rw [List.length_map], hb⟩
/-- what real.Least tells -/
def leastR (m : List Nat) : Nat × Int := if m.length = 0 then (0, 4) else (leastOf (m.headD 0) (m.drop 1), 0)
theorem least_n {A : Option Addr} {c n : Nat} {l : List Nat} {w : World} (hn : l.length = n) (hr : Kd.C Opn.flt w A l.length l) (hc : n ≤ c) (hl : n ≤ 17592186044415) (hw : ∀ x ∈ l, x < full) :
    Calls Try.prog 26 #[.slice A n c] w (Tup (leastR l) w) := by
  subst hn
  cases l with
  | nil => exact least_nil A c w
  | cons x l =>
    have hl' : l.length ≤ 17592186044415 := by simp only [List.length_cons] at hl; omega
    exact least A c x l w hr hc hl' (hw x List.mem_cons_self) (fun y hy => hw y (List.mem_cons_of_mem _ hy))
set_option maxHeartbeats 4000000 in
set_option maxRecDepth 100000 in
theorem realSome (w : World) (A : Option Addr) (c : Nat) (l : List Int) (hr : Kd.C (Kd.int .u64) w A l.length l) (hc : l.length ≤ c) (wf : l.length ≤ maxLen ∧ l.length * 8 ≤ 140737488351232 ∧ ∀ x ∈ l, (Lit.int .u64 x).wf = true) :
    Calls Try.prog 11 #[.slice A l.length c] w fun e w' => e = .returned (.bool true) ∧ Below w.heap.size w w' := by
  have hW : ∀ x ∈ l, Wd x := fun x hx => wd_of_wf (wf.2.2 x hx)
  have hm : ∀ x ∈ l.map Int.toNat, x < full := by
    intro x hx
    obtain ⟨y, hy, rfl⟩ := List.mem_map.1 hx
    exact (hW y hy).nat
  have HW := Aside0.mk hW
  have HM := Aside0.mk hm
  have HR := Aside0.mk hr
  have h13 := c13
  have HL := Lib.hid (show (l.map Int.toNat).length = l.length from List.length_map ..)
  obtain ⟨⟨me, ge⟩, hme⟩ : ∃ p, meanR (l.map Int.toNat) = p := ⟨_, rfl⟩
  have ME := Aside0.mk hme
  clear wf hW hm hr hme
  by_cases h2 : l.length > 200
  · have t1 : decide ((200 : Int) < (l.length : Int)) = true := decide_eq_true (by omega)
    go_enter Try.func11, Try.ntmps11
    go_wp2_with fail
    (with_reducible refine (known_ _).mono ?_)
    rintro e w' ⟨rfl, rfl⟩
    go_wp2_with fail
    go_ret
    exact ⟨rfl, Below.refl _ _⟩
  have t1 : decide ((200 : Int) < (l.length : Int)) = false := decide_eq_false (by omega)
  have hl : l.length ≤ 17592186044415 := by omega
  by_cases h0 : l.length = 0
  · have t0 : ((l.length : Int) == 0) = true := beq_iff_eq.2 (by omega)
    have e : leastR (l.map Int.toNat) = (0, 4) := if_pos (HL.out.trans h0)
    have ML := Aside0.mk e
    clear h0 h2 e
    go_enter Try.func11, Try.ntmps11
    go_wp2_with fail
    (with_reducible refine (all_ A c l _ HR.out hc hl).mono ?_)
    rintro e w1 ⟨v, rfl, ho, hb⟩
    obtain ⟨A1, c1, rfl, hc1, hr1⟩ := R_readsE ho HL.out
    have HR1 : Aside0 (Kd.C Opn.flt w1 A1 (l.map Int.toNat).length (l.map Int.toNat)) := ⟨hr1⟩
    have HB1 := Aside0.mk hb
    have HC1 := Aside0.mk hc1
    have HRr := Aside0.mk (Kd.C_below HR.out hb)
    clear ho hb hr1 hc1
    go_wp2_with fail
    (with_reducible refine (least_n HL.out HR1.out HC1.out hl HM.out).mono ?_)
    rw [ML.out]
    rintro e w' ⟨rfl, rfl⟩
    go_wp2_with fail
    (with_reducible refine (mean_n HL.out HR1.out HC1.out hl HM.out).mono ?_)
    rw [ME.out]
    rintro e w2 ⟨rfl, hd⟩
    have HR1 := Aside0.mk (Kd.C_below HR1.out hd.below)
    have HRr := Aside0.mk (Kd.C_below HRr.out hd.below)
    have HB1 := Aside0.mk (below_then HB1.out HB1.out.size hd.below)
    clear hd
    go_wp2_with fail
    (with_reducible refine (rmean_n HL.out HR1.out HC1.out hl HM.out).mono ?_)
    rw [ME.out]
    rintro e w3 ⟨rfl, hd⟩
    have HR1 := Aside0.mk (Kd.C_below HR1.out hd.below)
    have HRr := Aside0.mk (Kd.C_below HRr.out hd.below)
    have HB1 := Aside0.mk (below_then HB1.out HB1.out.size hd.below)
    clear hd
    go_wp2_with fail
    (with_reducible refine (known_ _).mono ?_)
    rintro e w' ⟨rfl, rfl⟩
    go_wp2_with fail
    go_ret
    exact ⟨rfl, HB1.out⟩
  · have t0 : ((l.length : Int) == 0) = false := beq_eq_false_iff_ne.2 (by omega)
    have e : leastR (l.map Int.toNat) = (leastOf ((l.map Int.toNat).headD 0) ((l.map Int.toNat).drop 1), 0) := if_neg (fun h => h0 (HL.out.symm.trans h))
    obtain ⟨ml, hml⟩ : ∃ x, leastOf ((l.map Int.toNat).headD 0) ((l.map Int.toNat).drop 1) = x := ⟨_, rfl⟩
    rw [hml] at e
    have HML := Aside0.mk hml
    have ML := Aside0.mk e
    have hp : 0 < l.length := by omega
    clear h0 h2 e hml
    go_enter Try.func11, Try.ntmps11
    go_wp2_with fail
    (with_reducible refine (all_ A c l _ HR.out hc hl).mono ?_)
    rintro e w1 ⟨v, rfl, ho, hb⟩
    obtain ⟨A1, c1, rfl, hc1, hr1⟩ := R_readsE ho HL.out
    have HR1 : Aside0 (Kd.C Opn.flt w1 A1 (l.map Int.toNat).length (l.map Int.toNat)) := ⟨hr1⟩
    have HB1 := Aside0.mk hb
    have HC1 := Aside0.mk hc1
    have HRr := Aside0.mk (Kd.C_below HR.out hb)
    clear ho hb hr1 hc1
    go_wp2_with fail
    (with_reducible refine (least_n HL.out HR1.out HC1.out hl HM.out).mono ?_)
    rw [ML.out]
    rintro e w' ⟨rfl, rfl⟩
    go_wp2_with fail
    (with_reducible refine (mean_n HL.out HR1.out HC1.out hl HM.out).mono ?_)
    rw [ME.out]
    rintro e w2 ⟨rfl, hd⟩
    have HR1 := Aside0.mk (Kd.C_below HR1.out hd.below)
    have HRr := Aside0.mk (Kd.C_below HRr.out hd.below)
    have HB1 := Aside0.mk (below_then HB1.out HB1.out.size hd.below)
    clear hd
    go_wp2_with fail
    (with_reducible refine (rmean_n HL.out HR1.out HC1.out hl HM.out).mono ?_)
    rw [ME.out]
    rintro e w3 ⟨rfl, hd⟩
    have HR1 := Aside0.mk (Kd.C_below HR1.out hd.below)
    have HRr := Aside0.mk (Kd.C_below HRr.out hd.below)
    have HB1 := Aside0.mk (below_then HB1.out HB1.out.size hd.below)
    clear hd
    go_wp2_with fail
    (with_reducible refine (rleast A c l _ hp HRr.out hc hl HW.out).mono ?_)
    rintro e w4 ⟨j, rfl, hj, hd⟩
    have HR1 := Aside0.mk (Kd.C_below HR1.out hd.below)
    have HRr := Aside0.mk (Kd.C_below HRr.out hd.below)
    have HB1 := Aside0.mk (below_then HB1.out HB1.out.size hd.below)
    have hj2 := place_end (m := l.map Int.toNat) (by rw [HL.out]; exact hj)
    obtain ⟨hj3, hj4⟩ := hj2
    have hj5 : j < l.length := HL.out ▸ hj3
    rw [HML.out, List.getElem_map] at hj4
    have hcast := (HW.out _ (List.getElem_mem hj5)).cast
    rw [hj4] at hcast
    obtain ⟨ad, hA, hcell⟩ := Hlp.C_at HRr.out j hj5
    subst hA
    rw [← hcast] at hcell
    have i0 : (0 : Int) ≤ (j : Int) := by omega
    have i1 : (j : Int) < (l.length : Int) := by omega
    clear hd hj hj3 hj4 hcast
    go_wp2_with fail
    (with_reducible refine (bits_n HL.out HR1.out HC1.out hl).mono ?_)
    rintro e w5 ⟨B, c5, rfl, hb⟩
    have HB1 := Aside0.mk (below_then HB1.out HB1.out.size hb)
    clear hb
    go_wp2_with fail
    (with_reducible refine (known_ _).mono ?_)
    rintro e w' ⟨rfl, rfl⟩
    go_wp2_with fail
    go_ret
    exact ⟨rfl, HB1.out⟩
end Go.Proofs.Ytkejjobljiibeaa.Rl
