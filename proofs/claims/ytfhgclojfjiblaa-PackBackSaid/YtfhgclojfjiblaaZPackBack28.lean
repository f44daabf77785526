/- Written by a program of this session over the kit's print: functions and their contracts. -/
import Derived.Test.YtfhgclojfjiblaaZPackBack27
namespace Go.Proofs.Ytfhgclojfjiblaa.QB
open Go.RowKit Go.Proofs.YtfhgclojfjiblaaW.PrintWords Go.Proofs.YtfhgclojfjiblaaW.PrintLast Go.Proofs.YtfhgclojfjiblaaW.PrintMore
attribute [local go_sem] max2_int min2_int max_two min_two max_three min_three max_four min_four   -- for this text's walks alone
set_option linter.unusedVariables false
set_option linter.unusedSimpArgs false

/-! ### icehouselaw02_PackBack: function 9 -/
mutual
def icehouselaw02_PackBack.j0 : Nat → List Int → List (List Int) → List Int → Int → Bool → Option (Bool)
  | 0, _, _, _, _, _ => none
  | k + 1, x0, x1, x2, x3, x37 => if x37 = true then ((Fp.known.f).bind fun t101 => (some t101)) else (icehouselaw02_PackBack.l0 k x0 x1 x2 x3 ([] : List Int) 0)
def icehouselaw02_PackBack.l0 : Nat → List Int → List (List Int) → List Int → Int → List Int → Int → Option (Bool)
  | 0, _, _, _, _, _, _ => none
  | k + 1, x0, x1, x2, x3, x9, x10 => if x10 < (x0.length : Int) then (if 0 ≤ x10 then ((Fp.pack_Num.f (rd x0 x10)).bind fun t103 => (if x9.length + t103.length < 140737488355328 then (icehouselaw02_PackBack.l0 k x0 x1 x2 x3 (x9 ++ t103) (wrap64 (x10 + 1))) else (none))) else (none)) else (icehouselaw02_PackBack.l1 k x0 x1 x2 x3 x9 ([] : List Int) 0)
def icehouselaw02_PackBack.l1 : Nat → List Int → List (List Int) → List Int → Int → List Int → List Int → Int → Option (Bool)
  | 0, _, _, _, _, _, _, _ => none
  | k + 1, x0, x1, x2, x3, x9, x11, x12 => if x12 < (x1.length : Int) then (if 0 ≤ x12 then (if ((rd_L1 x1 x12).length : Int) > 500 then ((Fp.known.f).bind fun t110 => (some t110)) else ((Fp.pack_Row.f (rd_L1 x1 x12)).bind fun bt112 => (if bt112.2 = 0 then (if x11.length + bt112.1.length < 140737488355328 then (icehouselaw02_PackBack.l1 k x0 x1 x2 x3 x9 (x11 ++ bt112.1) (wrap64 (x12 + 1))) else (none)) else (some false)))) else (none)) else ((Fp.pack_Nums.f x9).bind fun bt119 => ((Fp.pack_Rows.f x11).bind fun bt123 => (if bt119.2 = 0 then (if bt123.2 = 0 then ((QR.icehouseref00_SameInts.f k bt119.1 x0).bind fun t127 => (if t127 = true then ((QR.icehouseref00_SameLists.f k bt123.1 x1).bind fun t128 => (icehouselaw02_PackBack.j3 k x0 x2 x3 x9 (!t128))) else (icehouselaw02_PackBack.j3 k x0 x2 x3 x9 true))) else (icehouselaw02_PackBack.j3 k x0 x2 x3 x9 true)) else (icehouselaw02_PackBack.j3 k x0 x2 x3 x9 true))))
def icehouselaw02_PackBack.j3 : Nat → List Int → List Int → Int → List Int → Bool → Option (Bool)
  | 0, _, _, _, _, _ => none
  | k + 1, x0, x2, x3, x9, x105 => if x105 = true then (some false) else (if (x9.length : Int) > 0 then (if (x9.length : Int) = 0 then (none) else (if 0 ≤ (Int.tmod (wrap64 (x3)) (x9.length : Int)) then (if (Int.tmod (wrap64 (x3)) (x9.length : Int)) ≤ (x9.length : Int) then ((Fp.pack_Nums.f (x9.take ((Int.tmod (wrap64 (x3)) (x9.length : Int)) : Int).toNat)).bind fun bt133 => (if bt133.2 = 12 then (icehouselaw02_PackBack.j4 k x2) else (if bt133.2 = 0 then (if (bt133.1.length : Int) ≥ (x0.length : Int) then (some false) else (icehouselaw02_PackBack.j4 k x2)) else (some false)))) else (none)) else (none))) else (icehouselaw02_PackBack.j4 k x2))
def icehouselaw02_PackBack.j4 : Nat → List Int → Option (Bool)
  | 0, _ => none
  | k + 1, x2 => (Fp.pack_Nums.f x2).bind fun bt137 => (icehouselaw02_PackBack.l2 k x2 bt137.1 bt137.2 ([] : List Int) 0)
def icehouselaw02_PackBack.l2 : Nat → List Int → List Int → Int → List Int → Int → Option (Bool)
  | 0, _, _, _, _, _ => none
  | k + 1, x2, x21, x22, x23, x24 => if x24 < (x21.length : Int) then (if 0 ≤ x24 then ((Fp.pack_Num.f (rd x21 x24)).bind fun t142 => (if x23.length + t142.length < 140737488355328 then (icehouselaw02_PackBack.l2 k x2 x21 x22 (x23 ++ t142) (wrap64 (x24 + 1))) else (none))) else (none)) else (if x22 = 0 then ((QR.icehouseref00_Same.f x23 x2).bind fun t148 => (if t148 = true then ((Fp.known.f).bind fun t149 => (some t149)) else (some false))) else ((Fp.known.f).bind fun t150 => (some t150)))
end
def icehouselaw02_PackBack.f (k : Nat) (l0 : List Int) (l1 : List (List Int)) (l2 : List Int) (a3 : Int) : Option (Bool) := if (l0.length : Int) > 100 then (icehouselaw02_PackBack.j0 k l0 l1 l2 a3 true) else (if (l1.length : Int) > 20 then (icehouselaw02_PackBack.j0 k l0 l1 l2 a3 true) else (icehouselaw02_PackBack.j0 k l0 l1 l2 a3 (decide ((l2.length : Int) > 500))))
theorem icehouselaw02_PackBack.mono_l : ∀ k, (∀ y0 y1 y2 y3 y4, LeO (icehouselaw02_PackBack.j0 k y0 y1 y2 y3 y4) (icehouselaw02_PackBack.j0 (k + 1) y0 y1 y2 y3 y4)) ∧ (∀ y0 y1 y2 y3 y4 y5, LeO (icehouselaw02_PackBack.l0 k y0 y1 y2 y3 y4 y5) (icehouselaw02_PackBack.l0 (k + 1) y0 y1 y2 y3 y4 y5)) ∧ (∀ y0 y1 y2 y3 y4 y5 y6, LeO (icehouselaw02_PackBack.l1 k y0 y1 y2 y3 y4 y5 y6) (icehouselaw02_PackBack.l1 (k + 1) y0 y1 y2 y3 y4 y5 y6)) ∧ (∀ y0 y1 y2 y3 y4, LeO (icehouselaw02_PackBack.j3 k y0 y1 y2 y3 y4) (icehouselaw02_PackBack.j3 (k + 1) y0 y1 y2 y3 y4)) ∧ (∀ y0, LeO (icehouselaw02_PackBack.j4 k y0) (icehouselaw02_PackBack.j4 (k + 1) y0)) ∧ (∀ y0 y1 y2 y3 y4, LeO (icehouselaw02_PackBack.l2 k y0 y1 y2 y3 y4) (icehouselaw02_PackBack.l2 (k + 1) y0 y1 y2 y3 y4))
  | 0 => ⟨fun _ _ _ _ _ r h => by simp [icehouselaw02_PackBack.j0] at h, fun _ _ _ _ _ _ r h => by simp [icehouselaw02_PackBack.l0] at h, fun _ _ _ _ _ _ _ r h => by simp [icehouselaw02_PackBack.l1] at h, fun _ _ _ _ _ r h => by simp [icehouselaw02_PackBack.j3] at h, fun _ r h => by simp [icehouselaw02_PackBack.j4] at h, fun _ _ _ _ _ r h => by simp [icehouselaw02_PackBack.l2] at h⟩
  | k + 1 => by
    obtain ⟨ih0, ih1, ih2, ih3, ih4, ih5⟩ := icehouselaw02_PackBack.mono_l k
    refine ⟨?_, ?_, ?_, ?_, ?_, ?_⟩
    · intro y0 y1 y2 y3 y4
      unfold icehouselaw02_PackBack.j0
      repeat' first
      | (with_reducible exact ih0 _ _ _ _ _)
      | (with_reducible exact ih1 _ _ _ _ _ _)
      | (with_reducible exact ih2 _ _ _ _ _ _ _)
      | (with_reducible exact ih3 _ _ _ _ _)
      | (with_reducible exact ih4 _)
      | (with_reducible exact ih5 _ _ _ _ _)
      | (with_reducible exact QR.icehouseref00_SameInts.mono _ _ _)
      | (with_reducible exact QR.icehouseref00_SameLists.mono _ _ _)
      | (with_reducible exact LeO.refl _)
      | (with_reducible exact LeO.none _)
      | (with_reducible refine LeO.ite ?_ ?_)
      | (with_reducible refine LeO.bind ?_ (fun _ => ?_))
      | exact ih0 _ _ _ _ _
      | exact ih1 _ _ _ _ _ _
      | exact ih2 _ _ _ _ _ _ _
      | exact ih3 _ _ _ _ _
      | exact ih4 _
      | exact ih5 _ _ _ _ _
      | exact QR.icehouseref00_SameInts.mono _ _ _
      | exact QR.icehouseref00_SameLists.mono _ _ _
      | exact LeO.none _
      | refine LeO.ite ?_ ?_
      | refine LeO.bind ?_ (fun _ => ?_)
    · intro y0 y1 y2 y3 y4 y5
      unfold icehouselaw02_PackBack.l0
      repeat' first
      | (with_reducible exact ih0 _ _ _ _ _)
      | (with_reducible exact ih1 _ _ _ _ _ _)
      | (with_reducible exact ih2 _ _ _ _ _ _ _)
      | (with_reducible exact ih3 _ _ _ _ _)
      | (with_reducible exact ih4 _)
      | (with_reducible exact ih5 _ _ _ _ _)
      | (with_reducible exact QR.icehouseref00_SameInts.mono _ _ _)
      | (with_reducible exact QR.icehouseref00_SameLists.mono _ _ _)
      | (with_reducible exact LeO.refl _)
      | (with_reducible exact LeO.none _)
      | (with_reducible refine LeO.ite ?_ ?_)
      | (with_reducible refine LeO.bind ?_ (fun _ => ?_))
      | exact ih0 _ _ _ _ _
      | exact ih1 _ _ _ _ _ _
      | exact ih2 _ _ _ _ _ _ _
      | exact ih3 _ _ _ _ _
      | exact ih4 _
      | exact ih5 _ _ _ _ _
      | exact QR.icehouseref00_SameInts.mono _ _ _
      | exact QR.icehouseref00_SameLists.mono _ _ _
      | exact LeO.none _
      | refine LeO.ite ?_ ?_
      | refine LeO.bind ?_ (fun _ => ?_)
    · intro y0 y1 y2 y3 y4 y5 y6
      unfold icehouselaw02_PackBack.l1
      repeat' first
      | (with_reducible exact ih0 _ _ _ _ _)
      | (with_reducible exact ih1 _ _ _ _ _ _)
      | (with_reducible exact ih2 _ _ _ _ _ _ _)
      | (with_reducible exact ih3 _ _ _ _ _)
      | (with_reducible exact ih4 _)
      | (with_reducible exact ih5 _ _ _ _ _)
      | (with_reducible exact QR.icehouseref00_SameInts.mono _ _ _)
      | (with_reducible exact QR.icehouseref00_SameLists.mono _ _ _)
      | (with_reducible exact LeO.refl _)
      | (with_reducible exact LeO.none _)
      | (with_reducible refine LeO.ite ?_ ?_)
      | (with_reducible refine LeO.bind ?_ (fun _ => ?_))
      | exact ih0 _ _ _ _ _
      | exact ih1 _ _ _ _ _ _
      | exact ih2 _ _ _ _ _ _ _
      | exact ih3 _ _ _ _ _
      | exact ih4 _
      | exact ih5 _ _ _ _ _
      | exact QR.icehouseref00_SameInts.mono _ _ _
      | exact QR.icehouseref00_SameLists.mono _ _ _
      | exact LeO.none _
      | refine LeO.ite ?_ ?_
      | refine LeO.bind ?_ (fun _ => ?_)
    · intro y0 y1 y2 y3 y4
      unfold icehouselaw02_PackBack.j3
      repeat' first
      | (with_reducible exact ih0 _ _ _ _ _)
      | (with_reducible exact ih1 _ _ _ _ _ _)
      | (with_reducible exact ih2 _ _ _ _ _ _ _)
      | (with_reducible exact ih3 _ _ _ _ _)
      | (with_reducible exact ih4 _)
      | (with_reducible exact ih5 _ _ _ _ _)
      | (with_reducible exact QR.icehouseref00_SameInts.mono _ _ _)
      | (with_reducible exact QR.icehouseref00_SameLists.mono _ _ _)
      | (with_reducible exact LeO.refl _)
      | (with_reducible exact LeO.none _)
      | (with_reducible refine LeO.ite ?_ ?_)
      | (with_reducible refine LeO.bind ?_ (fun _ => ?_))
      | exact ih0 _ _ _ _ _
      | exact ih1 _ _ _ _ _ _
      | exact ih2 _ _ _ _ _ _ _
      | exact ih3 _ _ _ _ _
      | exact ih4 _
      | exact ih5 _ _ _ _ _
      | exact QR.icehouseref00_SameInts.mono _ _ _
      | exact QR.icehouseref00_SameLists.mono _ _ _
      | exact LeO.none _
      | refine LeO.ite ?_ ?_
      | refine LeO.bind ?_ (fun _ => ?_)
    · intro y0
      unfold icehouselaw02_PackBack.j4
      repeat' first
      | (with_reducible exact ih0 _ _ _ _ _)
      | (with_reducible exact ih1 _ _ _ _ _ _)
      | (with_reducible exact ih2 _ _ _ _ _ _ _)
      | (with_reducible exact ih3 _ _ _ _ _)
      | (with_reducible exact ih4 _)
      | (with_reducible exact ih5 _ _ _ _ _)
      | (with_reducible exact QR.icehouseref00_SameInts.mono _ _ _)
      | (with_reducible exact QR.icehouseref00_SameLists.mono _ _ _)
      | (with_reducible exact LeO.refl _)
      | (with_reducible exact LeO.none _)
      | (with_reducible refine LeO.ite ?_ ?_)
      | (with_reducible refine LeO.bind ?_ (fun _ => ?_))
      | exact ih0 _ _ _ _ _
      | exact ih1 _ _ _ _ _ _
      | exact ih2 _ _ _ _ _ _ _
      | exact ih3 _ _ _ _ _
      | exact ih4 _
      | exact ih5 _ _ _ _ _
      | exact QR.icehouseref00_SameInts.mono _ _ _
      | exact QR.icehouseref00_SameLists.mono _ _ _
      | exact LeO.none _
      | refine LeO.ite ?_ ?_
      | refine LeO.bind ?_ (fun _ => ?_)
    · intro y0 y1 y2 y3 y4
      unfold icehouselaw02_PackBack.l2
      repeat' first
      | (with_reducible exact ih0 _ _ _ _ _)
      | (with_reducible exact ih1 _ _ _ _ _ _)
      | (with_reducible exact ih2 _ _ _ _ _ _ _)
      | (with_reducible exact ih3 _ _ _ _ _)
      | (with_reducible exact ih4 _)
      | (with_reducible exact ih5 _ _ _ _ _)
      | (with_reducible exact QR.icehouseref00_SameInts.mono _ _ _)
      | (with_reducible exact QR.icehouseref00_SameLists.mono _ _ _)
      | (with_reducible exact LeO.refl _)
      | (with_reducible exact LeO.none _)
      | (with_reducible refine LeO.ite ?_ ?_)
      | (with_reducible refine LeO.bind ?_ (fun _ => ?_))
      | exact ih0 _ _ _ _ _
      | exact ih1 _ _ _ _ _ _
      | exact ih2 _ _ _ _ _ _ _
      | exact ih3 _ _ _ _ _
      | exact ih4 _
      | exact ih5 _ _ _ _ _
      | exact QR.icehouseref00_SameInts.mono _ _ _
      | exact QR.icehouseref00_SameLists.mono _ _ _
      | exact LeO.none _
      | refine LeO.ite ?_ ?_
      | refine LeO.bind ?_ (fun _ => ?_)
theorem icehouselaw02_PackBack.mono : ∀ a0 a1 a2 a3 k, LeO (icehouselaw02_PackBack.f k a0 a1 a2 a3) (icehouselaw02_PackBack.f (k + 1) a0 a1 a2 a3) := by
  intro a0 a1 a2 a3 k
  obtain ⟨ih0, ih1, ih2, ih3, ih4, ih5⟩ := icehouselaw02_PackBack.mono_l k
  unfold icehouselaw02_PackBack.f
  repeat' first
      | (with_reducible exact ih0 _ _ _ _ _)
      | (with_reducible exact ih1 _ _ _ _ _ _)
      | (with_reducible exact ih2 _ _ _ _ _ _ _)
      | (with_reducible exact ih3 _ _ _ _ _)
      | (with_reducible exact ih4 _)
      | (with_reducible exact ih5 _ _ _ _ _)
      | (with_reducible exact QR.icehouseref00_SameInts.mono _ _ _)
      | (with_reducible exact QR.icehouseref00_SameLists.mono _ _ _)
      | (with_reducible exact LeO.refl _)
      | (with_reducible exact LeO.none _)
      | (with_reducible refine LeO.ite ?_ ?_)
      | (with_reducible refine LeO.bind ?_ (fun _ => ?_))
      | exact ih0 _ _ _ _ _
      | exact ih1 _ _ _ _ _ _
      | exact ih2 _ _ _ _ _ _ _
      | exact ih3 _ _ _ _ _
      | exact ih4 _
      | exact ih5 _ _ _ _ _
      | exact QR.icehouseref00_SameInts.mono _ _ _
      | exact QR.icehouseref00_SameLists.mono _ _ _
      | exact LeO.none _
      | refine LeO.ite ?_ ?_
      | refine LeO.bind ?_ (fun _ => ?_)
set_option maxHeartbeats 8000000 in
set_option maxRecDepth 100000 in
theorem icehouselaw02_PackBack.calls (k : Nat) (A0 : Option Addr) (c0 : Nat) (l0 : List Int) (A1 : Option Addr) (c1 : Nat) (l1 : List (List Int)) (A2 : Option Addr) (c2 : Nat) (l2 : List Int) (a3 : Int) (r : Bool) (w : World) (hr0 : Kd.C (Kd.int .i64) w A0 l0.length l0) (hc0 : l0.length ≤ c0) (hr1 : Kd.C (Kd.slice 5 (Kd.int .u8)) w A1 l1.length l1) (hc1 : l1.length ≤ c1) (hr2 : Kd.C (Kd.int .u8) w A2 l2.length l2) (hc2 : l2.length ≤ c2) (h : icehouselaw02_PackBack.f k l0 l1 l2 a3 = some r) :
    Calls Try.prog 9 #[.slice A0 l0.length c0, .slice A1 l1.length c1, .slice A2 l2.length c2, .int .u16 a3] w fun e w' => e = .returned (.bool r) ∧ Below w.heap.size w w' := by
  have HR0 := Aside0.mk hr0
  have HC0 := Aside0.mk hc0
  clear hr0 hc0
  have HR1 := Aside0.mk hr1
  have HC1 := Aside0.mk hc1
  clear hr1 hc1
  have HR2 := Aside0.mk hr2
  have HC2 := Aside0.mk hc2
  clear hr2 hc2
  have HB := Aside0.mk (Below.refl w.heap.size w)
  have H : (if (l0.length : Int) > 100 then (icehouselaw02_PackBack.j0 k l0 l1 l2 a3 true) else (if (l1.length : Int) > 20 then (icehouselaw02_PackBack.j0 k l0 l1 l2 a3 true) else (icehouselaw02_PackBack.j0 k l0 l1 l2 a3 (decide ((l2.length : Int) > 500))))) = some r := h
  clear h
  have HC5 := Aside0.mk H
  clear H
  go_enter Try.func9, Try.ntmps9
  go_upto_region 1 with (fail)
  go_cut [37] (fun v37 wc => ∃ (kq : Nat) (x37_4 : Bool), v37 = .bool x37_4 ∧ Aside0 (icehouselaw02_PackBack.j0 kq l0 l1 l2 a3 x37_4 = some r) ∧ Aside0 (kq ≤ k) ∧ Aside0 (Below w.heap.size w wc))
  case first =>
    have H := HC5.out
    clear HC5
    by_cases c6 : (l0.length : Int) > 100
    · rw [if_pos c6] at H
      have c6b0 : decide (100 < (l0.length : Int)) = true := decide_eq_true c6
      have c6b1 : decide (100 < l0.length) = true := decide_eq_true (by omega)
      clear c6
      (first | rw [c6b0] | (simp only [i64_w, i32_w]; rw [c6b0]) | skip)
      have H' := Aside0.mk H
      clear H
      go_wp2
      go_meet
      case rel => exact ⟨_, (true), (by first | rfl | (simp; done) | (simp [*]; done)), H', ⟨by first | omega | exact Nat.le_refl _⟩, ⟨by repeat (first | (with_reducible first | exact HB.out | apply below_alloc | apply pw_below_drewN | apply below_drew1) | exact HB.out)⟩⟩
    · rw [if_neg c6] at H
      have c6b0 : decide (100 < (l0.length : Int)) = false := decide_eq_false c6
      have c6b1 : decide (100 < l0.length) = false := decide_eq_false (by omega)
      clear c6
      (first | rw [c6b0] | (simp only [i64_w, i32_w]; rw [c6b0]) | skip)
      by_cases c7 : (l1.length : Int) > 20
      · rw [if_pos c7] at H
        have c7b0 : decide (20 < (l1.length : Int)) = true := decide_eq_true c7
        have c7b1 : decide (20 < l1.length) = true := decide_eq_true (by omega)
        clear c7
        have H' := Aside0.mk H
        clear H
        go_wp2
        go_meet
        case rel => exact ⟨_, (true), (by first | rfl | (simp; done) | (simp [*]; done)), H', ⟨by first | omega | exact Nat.le_refl _⟩, ⟨by repeat (first | (with_reducible first | exact HB.out | apply below_alloc | apply pw_below_drewN | apply below_drew1) | exact HB.out)⟩⟩
      · rw [if_neg c7] at H
        have c7b0 : decide (20 < (l1.length : Int)) = false := decide_eq_false c7
        have c7b1 : decide (20 < l1.length) = false := decide_eq_false (by omega)
        clear c7
        have H' := Aside0.mk H
        clear H
        go_wp2
        go_meet
        case rel => exact ⟨_, (decide ((l2.length : Int) > 500)), (by first | rfl | (simp; done) | (simp [*]; done)), H', ⟨by first | omega | exact Nat.le_refl _⟩, ⟨by repeat (first | (with_reducible first | exact HB.out | apply below_alloc | apply pw_below_drewN | apply below_drew1) | exact HB.out)⟩⟩
  case rest =>
    clear HC5
    try clear c1
    try clear c2
    try clear p2
    try clear c6
    try clear c6b0
    try clear c6b1
    try clear c7
    try clear c7b0
    try clear c7b1
    obtain ⟨kq, x37_4, rfl, HA, HJ4, HB⟩ := hcut
    cases kq with
    | zero => exact absurd HA.out (by simp [icehouselaw02_PackBack.j0])
    | succ kj4 =>
      have H := HA.out
      clear HA
      simp only [icehouselaw02_PackBack.j0] at H
      by_cases c8 : x37_4 = true
      · subst c8
        have H1 : ((Fp.known.f).bind fun t101 => (some t101)) = some r := by rw [if_pos rfl] at H; exact H
        clear H
        have H := H1
        clear H1
        replace H := Option.bind_eq_some_iff.mp H
        obtain ⟨t101, A90, H⟩ := H
        replace H : (some t101) = some r := H
        have A9 := Aside0.mk A90
        clear A90
        obtain rfl := Option.some.inj H
        go_wp2_with (first | ((with_reducible refine gate_callee (f := 10) rfl ?_); refine goesL_ (some 38) rfl rfl Try.func10 (by kernel_rfl) rfl #[] rfl (by (try simp only [List.map_toArray, List.map_cons, List.map_nil]); first | done | rfl | (simp only [List.length_drop, List.length_take]; rfl)) ?_; (with_reducible refine (Fp.known.calls  t101 _ A9.out).mono ?_); rintro e w10 ⟨rfl, hb⟩; refine ⟨_, rfl, ?_⟩; have n0_ := Aside0.mk (below_step (by repeat (first | (with_reducible first | exact HB.out | apply below_alloc | apply pw_below_drewN | apply below_drew1) | exact HB.out)) hb); clear HB; have HB := n0_; clear n0_; (try clear hb); (try clear hb2); (try clear hk); (try clear hi)))
        go_ret
        exact ⟨by first | rfl | (simp [errW_none, errW_some] <;> rfl) | (simp [*, errW_none, errW_some] <;> rfl), by repeat (first | (with_reducible first | exact HB.out | apply below_alloc | apply pw_below_drewN | apply below_drew1) | exact HB.out)⟩
      · replace c8 := Bool.eq_false_iff.mpr c8
        subst c8
        have H1 : (icehouselaw02_PackBack.l0 kj4 l0 l1 l2 a3 ([] : List Int) 0) = some r := by rw [if_neg (show ¬ (false = true) by decide)] at H; exact H
        clear H
        have H := H1
        clear H1
        have H' := Aside0.mk H
        clear H
        go_wp2
        go_loopg [9, 10] kj4 (fun kq v9 v10 w' => ∃ (x9_2 : List Int) (x10_2 : Int), v10 = .int .i64 x10_2 ∧ Aside0 (icehouselaw02_PackBack.l0 kq l0 l1 l2 a3 x9_2 x10_2 = some r) ∧ Aside0 (kq ≤ kj4) ∧ Aside0 (Kd.R (Kd.int .u8) 5 w' w.heap.size (fun _ => True) v9 x9_2) ∧ Aside0 (Below w.heap.size w w'))
        case atStart => exact ⟨(([] : List Int)), (0), (by first | rfl | (simp; done) | (simp [*]; done)), H', ⟨Nat.le_refl _⟩, ⟨by first | exact Kd.R_nil _ _ _ _ _ | exact Kd.N_nil _ _ _ _ _ | exact Kd.V_nil _ _ _ _ _ | exact Kd.Q_nil _ _ _ _ _ | exact Kd.R_nil _ _ _ _ _⟩, ⟨by repeat (first | (with_reducible first | exact HB.out | apply below_alloc | apply pw_below_drewN | apply below_drew1) | exact HB.out)⟩⟩
        case round =>
          clear H'
          try clear c1
          try clear c2
          try clear p2
          try clear c6
          try clear c6b0
          try clear c6b1
          try clear c7
          try clear c7b0
          try clear c7b1
          try clear c8
          try clear c9
          try clear c10
          try clear p2
          obtain ⟨x9_2, x10_2, rfl, HA, HK2, HO_9, HB⟩ := hrel
          cases gk with
          | zero => exact absurd HA.out (by simp [icehouselaw02_PackBack.l0])
          | succ k2 =>
            have H := HA.out
            clear HA
            simp only [icehouselaw02_PackBack.l0] at H
            by_cases c11 : x10_2 < (l0.length : Int)
            · rw [if_pos c11] at H
              have c11b0 : decide (x10_2 < (l0.length : Int)) = true := decide_eq_true c11
              clear c11
              by_cases c12 : 0 ≤ x10_2
              · rw [if_pos c12] at H
                have c12b0 : decide (0 ≤ x10_2) = true := decide_eq_true c12
                clear c12
                replace H := Option.bind_eq_some_iff.mp H
                obtain ⟨t103, A130, H⟩ := H
                replace H : (if x9_2.length + t103.length < 140737488355328 then (icehouselaw02_PackBack.l0 k2 l0 l1 l2 a3 (x9_2 ++ t103) (wrap64 (x10_2 + 1))) else (none)) = some r := H
                have A13 := Aside0.mk A130
                clear A130
                by_cases c14 : x9_2.length + t103.length < 140737488355328
                · rw [if_pos c14] at H
                  have LMc14 := Aside0.mk c14
                  clear c14
                  obtain ⟨y106, hy106⟩ : ∃ y_ : List Int, y_ = (x9_2 ++ t103) := ⟨_, rfl⟩
                  replace H : (icehouselaw02_PackBack.l0 k2 l0 l1 l2 a3 y106 (wrap64 (x10_2 + 1))) = some r := by first | (rw [hy106]; with_reducible exact H) | (have H2_ := (Option.bind_some _ _).symm.trans H; rw [hy106]; with_reducible exact H2_) | (have H2_ := (Option.bind_some _ _).symm.trans H; with_reducible exact H2_) | with_reducible exact H | (rw [hy106]; exact H) | exact H
                  have Ny106 := Aside0.mk hy106
                  clear hy106
                  have H' := Aside0.mk H
                  clear H
                  have p102 : 0 ≤ (x10_2 : Int) := of_decide_eq_true (by first | (with_reducible assumption) | assumption)
                  have q102 : x10_2 < (l0.length : Int) := of_decide_eq_true (by first | (with_reducible assumption) | assumption)
                  obtain ⟨ad102, e102, hx102_0⟩ := Kd.at_int HR0.out x10_2 p102 q102
                  cases e102
                  replace hx102_0 := (HB.out.cell (World.block_lt_of_cell? w _ hx102_0)).trans hx102_0
                  replace p102 := eq_true p102
                  replace q102 := eq_true q102
                  go_wp2_with (first | ((with_reducible refine gate_callee (f := 14) rfl ?_); refine goesL_ (some 50) rfl rfl Try.func14 (by kernel_rfl) rfl #[.int .i64 (rd l0 x10_2)] rfl (by (try simp only [List.map_toArray, List.map_cons, List.map_nil]); first | done | rfl | (simp only [List.length_drop, List.length_take]; rfl)) ?_; (with_reducible refine (Fp.pack_Num.calls (rd l0 x10_2) t103 _ A13.out).mono ?_); rintro e w15 ⟨v104, rfl, ho0, hb⟩; refine ⟨_, rfl, ?_⟩; have n0_ := Aside0.mk (Kd.R_elder' (by (with_reducible repeat (first | apply Kd.R_alloc | apply Kd.R_drewN | apply Kd.R_drew)); exact HO_9.out) (Kd.R_base ho0) hb); have n1_ := Aside0.mk (Kd.R_lower (Kd.R_new' ho0 (Kd.R_lt (by (with_reducible repeat (first | apply Kd.R_alloc | apply Kd.R_drewN | apply Kd.R_drew)); exact HO_9.out))) (below_size (by repeat (first | (with_reducible first | exact HB.out | apply below_alloc | apply pw_below_drewN | apply below_drew1) | exact HB.out)))); have n2_ := Aside0.mk (below_step (by repeat (first | (with_reducible first | exact HB.out | apply below_alloc | apply pw_below_drewN | apply below_drew1) | exact HB.out)) hb); clear HO_9; clear HB; have HO_9 := n0_; have HO105 := n1_; have HB := n2_; clear n0_ n1_ n2_; (try clear hb); (try clear hb2); (try clear hk); (try clear hi); (try clear ho0); obtain ⟨Ao17, co17, eo17⟩ := Kd.R_slice HO105.out; subst eo17) | ((with_reducible refine gate_builtin (b := .append) (xs := #[.tmp 45, .tmp 50]) rfl ?_); (try (refine gate_guard (by rfl) ?_; dsimp only)); at_builtin; refine Kd.R_append_rows (Kd.int .u8) (w0 := w) w.heap.size rfl (.tmp 45) (.tmp 50) 22 5 (.int .u8 0) 1 rfl Try.underlying22 info5 rfl (by decide) (by omega) u9 x9_2 t103 _ _ _ (fun k_ => some k_ ≠ (.slice Ao17 t103.length co17 : Value).ownBlock) (fun _ => False) rfl rfl ?aO ?aR (fun _ _ h => h) (fun _ h => h.elim) ?aF ?aB ?aS ?aL ?_; (case aR => repeat (first | exact (Kd.R_reads' HO105.out).2.2 | (with_reducible refine Kd.C_alloc ?_ _) | (with_reducible refine Kd.C_drewN ?_ _) | (with_reducible refine Kd.C_drew ?_))); (case aB => exact (by repeat (first | (with_reducible first | exact HB.out | apply below_alloc | apply pw_below_drewN | apply below_drew1) | exact HB.out))); (case aF => exact (fun k_ hk => Kd.fresh' (Kd.R_lt (by (with_reducible repeat (first | apply Kd.R_alloc | apply Kd.R_drewN | apply Kd.R_drew)); exact HO105.out)) k_ hk)); (case aO => exact (by (with_reducible repeat (first | apply Kd.R_alloc | apply Kd.R_drewN | apply Kd.R_drew)); exact Kd.R_mono HO_9.out (fun _ hk => hk.2))); (case aS => exact (below_size (by repeat (first | (with_reducible first | exact HB.out | apply below_alloc | apply pw_below_drewN | apply below_drew1) | exact HB.out)))); (case aL => have := LMc14.out; omega); intro v107 w16 ho hb hg hat; rw [← Ny106.out] at ho; have n0_ := Aside0.mk (Kd.R_after (ok := (fun _ => True)) (by (with_reducible repeat (first | apply Kd.R_alloc | apply Kd.R_drewN | apply Kd.R_drew)); exact HO105.out) hg hat); have n1_ := Aside0.mk (hb); have n2_ := Aside0.mk (ho); clear HO105; clear HB; clear HO_9; have HO105 := n0_; have HB := n1_; have HO108 := n2_; clear n0_ n1_ n2_; clear ho hb hg hat))
                  go_roundg k2
                  case measure => have := HJ4.out; have := HK2.out; omega
                  case rel => exact ⟨(y106), (wrap64 (x10_2 + 1)), (by first | rfl | (simp; done) | (simp [*]; done)), H', ⟨by have := HJ4.out; have := HK2.out; omega⟩, ⟨by (with_reducible repeat (first | apply Kd.R_alloc | apply Kd.R_drewN | apply Kd.R_drew)); exact Kd.R_mono HO108.out (fun _ hk => trivial)⟩, ⟨by repeat (first | (with_reducible first | exact HB.out | apply below_alloc | apply pw_below_drewN | apply below_drew1) | exact HB.out)⟩⟩
                · rw [if_neg c14] at H
                  exact absurd H (by simp)
              · rw [if_neg c12] at H
                exact absurd H (by simp)
            · rw [if_neg c11] at H
              have c11b0 : decide (x10_2 < (l0.length : Int)) = false := decide_eq_false c11
              clear c11
              have H' := Aside0.mk H
              clear H
              go_wp2
              go_loopg [11, 12] k2 (fun kq v11 v12 w' => ∃ (x11_3 : List Int) (x12_3 : Int), v12 = .int .i64 x12_3 ∧ Aside0 (icehouselaw02_PackBack.l1 kq l0 l1 l2 a3 x9_2 x11_3 x12_3 = some r) ∧ Aside0 (kq ≤ k2) ∧ Aside0 (Kd.R (Kd.int .u8) 5 w' w.heap.size (fun k_ => some k_ ≠ (v11 : Value).ownBlock) u9 x9_2) ∧ Aside0 (Kd.R (Kd.int .u8) 5 w' w.heap.size (fun k_ => some k_ ≠ (u9 : Value).ownBlock) v11 x11_3) ∧ Aside0 (Below w.heap.size w w'))
              case atStart => exact ⟨(([] : List Int)), (0), (by first | rfl | (simp; done) | (simp [*]; done)), H', ⟨Nat.le_refl _⟩, ⟨by (with_reducible repeat (first | apply Kd.R_alloc | apply Kd.R_drewN | apply Kd.R_drew)); exact Kd.R_mono HO_9.out (fun _ hk => (by simp [Value.ownBlock]))⟩, ⟨by first | exact Kd.R_nil _ _ _ _ _ | exact Kd.N_nil _ _ _ _ _ | exact Kd.V_nil _ _ _ _ _ | exact Kd.Q_nil _ _ _ _ _ | exact Kd.R_nil _ _ _ _ _⟩, ⟨by repeat (first | (with_reducible first | exact HB.out | apply below_alloc | apply pw_below_drewN | apply below_drew1) | exact HB.out)⟩⟩
              case round =>
                clear H'
                try clear c1
                try clear p1
                try clear q1
                try clear hx1
                try clear c2
                try clear p2
                try clear c6
                try clear c6b0
                try clear c6b1
                try clear p6
                try clear c7
                try clear c7b0
                try clear c7b1
                try clear c8
                try clear c9
                try clear c10
                try clear p10
                try clear q10
                try clear hx10
                try clear c11
                try clear c11b0
                try clear c12
                try clear c12b0
                try clear c14
                try clear hx102_0
                try clear p102
                try clear p2
                try clear q102
                obtain ⟨x11_3, x12_3, rfl, HA, HK3, HO_9, HO_11, HB⟩ := hrel
                cases gk with
                | zero => exact absurd HA.out (by simp [icehouselaw02_PackBack.l1])
                | succ k3 =>
                  have H := HA.out
                  clear HA
                  simp only [icehouselaw02_PackBack.l1] at H
                  by_cases c18 : x12_3 < (l1.length : Int)
                  · rw [if_pos c18] at H
                    have c18b0 : decide (x12_3 < (l1.length : Int)) = true := decide_eq_true c18
                    clear c18
                    by_cases c19 : 0 ≤ x12_3
                    · rw [if_pos c19] at H
                      have c19b0 : decide (0 ≤ x12_3) = true := decide_eq_true c19
                      clear c19
                      by_cases c20 : ((rd_L1 l1 x12_3).length : Int) > 500
                      · rw [if_pos c20] at H
                        have c20b0 : decide (500 < ((rd_L1 l1 x12_3).length : Int)) = true := decide_eq_true c20
                        have c20b1 : decide (500 < (rd_L1 l1 x12_3).length) = true := decide_eq_true (by omega)
                        clear c20
                        replace H := Option.bind_eq_some_iff.mp H
                        obtain ⟨t110, A210, H⟩ := H
                        replace H : (some t110) = some r := H
                        have A21 := Aside0.mk A210
                        clear A210
                        obtain rfl := Option.some.inj H
                        have p109 : 0 ≤ (x12_3 : Int) := of_decide_eq_true (by first | (with_reducible assumption) | assumption)
                        have q109 : x12_3 < (l1.length : Int) := of_decide_eq_true (by first | (with_reducible assumption) | assumption)
                        obtain ⟨ad109, A109_0, c109_0, e109, hx109_0, hl109_0, hi109_0⟩ := at_L1 HR1.out x12_3 p109 q109
                        cases e109
                        replace hx109_0 := (HB.out.cell (World.block_lt_of_cell? w _ hx109_0)).trans hx109_0
                        have HR109_0 := Aside0.mk hi109_0
                        have HC109_0 := Aside0.mk hl109_0
                        clear hi109_0 hl109_0
                        replace p109 := eq_true p109
                        replace q109 := eq_true q109
                        go_wp2_with (first | ((with_reducible refine gate_callee (f := 10) rfl ?_); refine goesL_ (some 64) rfl rfl Try.func10 (by kernel_rfl) rfl #[] rfl (by (try simp only [List.map_toArray, List.map_cons, List.map_nil]); first | done | rfl | (simp only [List.length_drop, List.length_take]; rfl)) ?_; (with_reducible refine (Fp.known.calls  t110 _ A21.out).mono ?_); rintro e w22 ⟨rfl, hb⟩; refine ⟨_, rfl, ?_⟩; have n0_ := Aside0.mk (Kd.R_below (by (with_reducible repeat (first | apply Kd.R_alloc | apply Kd.R_drewN | apply Kd.R_drew)); exact HO_9.out) hb); have n1_ := Aside0.mk (Kd.R_below (by (with_reducible repeat (first | apply Kd.R_alloc | apply Kd.R_drewN | apply Kd.R_drew)); exact HO_11.out) hb); have n2_ := Aside0.mk (below_step (by repeat (first | (with_reducible first | exact HB.out | apply below_alloc | apply pw_below_drewN | apply below_drew1) | exact HB.out)) hb); clear HO_9; clear HO_11; clear HB; have HO_9 := n0_; have HO_11 := n1_; have HB := n2_; clear n0_ n1_ n2_; (try clear hb); (try clear hb2); (try clear hk); (try clear hi)))
                        go_ret
                        exact ⟨by first | rfl | (simp [errW_none, errW_some] <;> rfl) | (simp [*, errW_none, errW_some] <;> rfl), by repeat (first | (with_reducible first | exact HB.out | apply below_alloc | apply pw_below_drewN | apply below_drew1) | exact HB.out)⟩
                      · rw [if_neg c20] at H
                        have c20b0 : decide (500 < ((rd_L1 l1 x12_3).length : Int)) = false := decide_eq_false c20
                        have c20b1 : decide (500 < (rd_L1 l1 x12_3).length) = false := decide_eq_false (by omega)
                        clear c20
                        replace H := Option.bind_eq_some_iff.mp H
                        obtain ⟨⟨t112, t113⟩, A230, H⟩ := H
                        replace H : (if t113 = 0 then (if x11_3.length + t112.length < 140737488355328 then (icehouselaw02_PackBack.l1 k3 l0 l1 l2 a3 x9_2 (x11_3 ++ t112) (wrap64 (x12_3 + 1))) else (none)) else (some false)) = some r := H
                        have A23 := Aside0.mk A230
                        clear A230
                        by_cases c24 : t113 = 0
                        · rw [if_pos c24] at H
                          have c24b0 : (t113 == 0) = true := beq_iff_eq.mpr c24
                          have c24b1 : (t113 != 0) = false := bne_eq_false_iff_eq.mpr c24
                          clear c24
                          by_cases c25 : x11_3.length + t112.length < 140737488355328
                          · rw [if_pos c25] at H
                            have LMc25 := Aside0.mk c25
                            clear c25
                            obtain ⟨y116, hy116⟩ : ∃ y_ : List Int, y_ = (x11_3 ++ t112) := ⟨_, rfl⟩
                            replace H : (icehouselaw02_PackBack.l1 k3 l0 l1 l2 a3 x9_2 y116 (wrap64 (x12_3 + 1))) = some r := by first | (rw [hy116]; with_reducible exact H) | (have H2_ := (Option.bind_some _ _).symm.trans H; rw [hy116]; with_reducible exact H2_) | (have H2_ := (Option.bind_some _ _).symm.trans H; with_reducible exact H2_) | with_reducible exact H | (rw [hy116]; exact H) | exact H
                            have Ny116 := Aside0.mk hy116
                            clear hy116
                            have H' := Aside0.mk H
                            clear H
                            have p109 : 0 ≤ (x12_3 : Int) := of_decide_eq_true (by first | (with_reducible assumption) | assumption)
                            have q109 : x12_3 < (l1.length : Int) := of_decide_eq_true (by first | (with_reducible assumption) | assumption)
                            obtain ⟨ad109, A109_0, c109_0, e109, hx109_0, hl109_0, hi109_0⟩ := at_L1 HR1.out x12_3 p109 q109
                            cases e109
                            replace hx109_0 := (HB.out.cell (World.block_lt_of_cell? w _ hx109_0)).trans hx109_0
                            have HR109_0 := Aside0.mk hi109_0
                            have HC109_0 := Aside0.mk hl109_0
                            clear hi109_0 hl109_0
                            replace p109 := eq_true p109
                            replace q109 := eq_true q109
                            have p111 : 0 ≤ (x12_3 : Int) := of_decide_eq_true (by first | (with_reducible assumption) | assumption)
                            have q111 : x12_3 < (l1.length : Int) := of_decide_eq_true (by first | (with_reducible assumption) | assumption)
                            obtain ⟨ad111, A111_0, c111_0, e111, hx111_0, hl111_0, hi111_0⟩ := at_L1 HR1.out x12_3 p111 q111
                            obtain rfl : ad109 = ad111 := (by injection e111)
                            replace hx111_0 := (HB.out.cell (World.block_lt_of_cell? w _ hx111_0)).trans hx111_0
                            have HR111_0 := Aside0.mk hi111_0
                            have HC111_0 := Aside0.mk hl111_0
                            clear hi111_0 hl111_0
                            replace p111 := eq_true p111
                            replace q111 := eq_true q111
                            have ea_ := Option.some.inj (hx109_0.symm.trans hx111_0)
                            injection ea_ with ea_ en_ ec_
                            subst ea_
                            subst ec_
                            clear en_
                            go_wp2_with (first | ((with_reducible refine gate_callee (f := 11) rfl ?_); refine goesL_ (some 70) rfl rfl Try.func11 (by kernel_rfl) rfl #[.slice A109_0 (rd_L1 l1 x12_3).length c109_0] rfl (by (try simp only [List.map_toArray, List.map_cons, List.map_nil]); first | done | rfl | (simp only [List.length_drop, List.length_take]; rfl)) ?_; (with_reducible refine (Fp.pack_Row.calls _ _ (rd_L1 l1 x12_3) t112 t113 _ ?side1 ?side2 A23.out).mono ?_); (case side1 => repeat (first | exact (Kd.C_below HR111_0.out HB.out) | (with_reducible refine Kd.C_alloc ?_ _) | (with_reducible refine Kd.C_drewN ?_ _) | (with_reducible refine Kd.C_drew ?_))); (case side2 => exact HC111_0.out); rintro e w26 ⟨v114, rfl, ho0, hb⟩; refine ⟨_, rfl, ?_⟩; have n0_ := Aside0.mk (Kd.R_elder' (by (with_reducible repeat (first | apply Kd.R_alloc | apply Kd.R_drewN | apply Kd.R_drew)); exact HO_9.out) (Kd.R_base ho0) hb); have n1_ := Aside0.mk (Kd.R_elder' (by (with_reducible repeat (first | apply Kd.R_alloc | apply Kd.R_drewN | apply Kd.R_drew)); exact HO_11.out) (Kd.R_base ho0) hb); have n2_ := Aside0.mk (Kd.R_lower (Kd.R_new' (Kd.R_new' ho0 (Kd.R_lt (by (with_reducible repeat (first | apply Kd.R_alloc | apply Kd.R_drewN | apply Kd.R_drew)); exact HO_9.out))) (Kd.R_lt (by (with_reducible repeat (first | apply Kd.R_alloc | apply Kd.R_drewN | apply Kd.R_drew)); exact HO_11.out))) (below_size (by repeat (first | (with_reducible first | exact HB.out | apply below_alloc | apply pw_below_drewN | apply below_drew1) | exact HB.out)))); have n3_ := Aside0.mk (below_step (by repeat (first | (with_reducible first | exact HB.out | apply below_alloc | apply pw_below_drewN | apply below_drew1) | exact HB.out)) hb); clear HO_9; clear HO_11; clear HB; have HO_9 := n0_; have HO_11 := n1_; have HO115 := n2_; have HB := n3_; clear n0_ n1_ n2_ n3_; (try clear hb); (try clear hb2); (try clear hk); (try clear hi); (try clear ho0); obtain ⟨Ao28, co28, eo28⟩ := Kd.R_slice HO115.out; subst eo28) | ((with_reducible refine gate_builtin (b := .append) (xs := #[.tmp 75, .tmp 76]) rfl ?_); (try (refine gate_guard (by rfl) ?_; dsimp only)); at_builtin; refine Kd.R_append_rows (Kd.int .u8) (w0 := w) w.heap.size rfl (.tmp 75) (.tmp 76) 22 5 (.int .u8 0) 1 rfl Try.underlying22 info5 rfl (by decide) (by omega) u11 x11_3 t112 _ _ _ (fun k_ => some k_ ≠ (u9 : Value).ownBlock ∧ some k_ ≠ (.slice Ao28 t112.length co28 : Value).ownBlock) (fun _ => False) rfl rfl ?aO ?aR (fun _ _ h => h) (fun _ h => h.elim) ?aF ?aB ?aS ?aL ?_; (case aR => repeat (first | exact (Kd.R_reads' HO115.out).2.2 | (with_reducible refine Kd.C_alloc ?_ _) | (with_reducible refine Kd.C_drewN ?_ _) | (with_reducible refine Kd.C_drew ?_))); (case aB => exact (by repeat (first | (with_reducible first | exact HB.out | apply below_alloc | apply pw_below_drewN | apply below_drew1) | exact HB.out))); (case aF => exact (fun k_ hk => ⟨Kd.fresh' (Kd.R_lt (by (with_reducible repeat (first | apply Kd.R_alloc | apply Kd.R_drewN | apply Kd.R_drew)); exact HO_9.out)) k_ hk, Kd.fresh' (Kd.R_lt (by (with_reducible repeat (first | apply Kd.R_alloc | apply Kd.R_drewN | apply Kd.R_drew)); exact HO115.out)) k_ hk⟩)); (case aO => exact (by (with_reducible repeat (first | apply Kd.R_alloc | apply Kd.R_drewN | apply Kd.R_drew)); exact HO_11.out)); (case aS => exact (below_size (by repeat (first | (with_reducible first | exact HB.out | apply below_alloc | apply pw_below_drewN | apply below_drew1) | exact HB.out)))); (case aL => have := LMc25.out; omega); intro v117 w27 ho hb hg hat; rw [← Ny116.out] at ho; have n0_ := Aside0.mk (Kd.R_after (ok := (fun k_ => some k_ ≠ (.slice Ao28 t112.length co28 : Value).ownBlock)) (by (with_reducible repeat (first | apply Kd.R_alloc | apply Kd.R_drewN | apply Kd.R_drew)); exact Kd.R_mono HO_9.out (fun _ hk => ⟨hk.2, hk.1⟩)) hg hat); have n1_ := Aside0.mk (Kd.R_after (ok := (fun k_ => some k_ ≠ (u9 : Value).ownBlock)) (by (with_reducible repeat (first | apply Kd.R_alloc | apply Kd.R_drewN | apply Kd.R_drew)); exact Kd.R_mono HO115.out (fun _ hk => ⟨hk.1.2, hk.2⟩)) hg hat); have n2_ := Aside0.mk (hb); have n3_ := Aside0.mk (ho); clear HO_9; clear HO115; clear HB; clear HO_11; have HO_9 := n0_; have HO115 := n1_; have HB := n2_; have HO118 := n3_; clear n0_ n1_ n2_ n3_; clear ho hb hg hat))
                            go_roundg k3
                            case measure => have := HJ4.out; have := HK2.out; have := HK3.out; omega
                            case rel => exact ⟨(y116), (wrap64 (x12_3 + 1)), (by first | rfl | (simp; done) | (simp [*]; done)), H', ⟨by have := HJ4.out; have := HK2.out; have := HK3.out; omega⟩, ⟨by (with_reducible repeat (first | apply Kd.R_alloc | apply Kd.R_drewN | apply Kd.R_drew)); exact Kd.R_mono HO_9.out (fun _ hk => hk.2)⟩, ⟨by (with_reducible repeat (first | apply Kd.R_alloc | apply Kd.R_drewN | apply Kd.R_drew)); exact Kd.R_mono HO118.out (fun _ hk => hk.1)⟩, ⟨by repeat (first | (with_reducible first | exact HB.out | apply below_alloc | apply pw_below_drewN | apply below_drew1) | exact HB.out)⟩⟩
                          · rw [if_neg c25] at H
                            exact absurd H (by simp)
                        · rw [if_neg c24] at H
                          have c24b0 : (t113 == 0) = false := beq_eq_false_iff_ne.mpr c24
                          have c24b1 : (t113 != 0) = true := bne_iff_ne.mpr c24
                          obtain rfl := Option.some.inj H
                          have p109 : 0 ≤ (x12_3 : Int) := of_decide_eq_true (by first | (with_reducible assumption) | assumption)
                          have q109 : x12_3 < (l1.length : Int) := of_decide_eq_true (by first | (with_reducible assumption) | assumption)
                          obtain ⟨ad109, A109_0, c109_0, e109, hx109_0, hl109_0, hi109_0⟩ := at_L1 HR1.out x12_3 p109 q109
                          cases e109
                          replace hx109_0 := (HB.out.cell (World.block_lt_of_cell? w _ hx109_0)).trans hx109_0
                          have HR109_0 := Aside0.mk hi109_0
                          have HC109_0 := Aside0.mk hl109_0
                          clear hi109_0 hl109_0
                          replace p109 := eq_true p109
                          replace q109 := eq_true q109
                          have p111 : 0 ≤ (x12_3 : Int) := of_decide_eq_true (by first | (with_reducible assumption) | assumption)
                          have q111 : x12_3 < (l1.length : Int) := of_decide_eq_true (by first | (with_reducible assumption) | assumption)
                          obtain ⟨ad111, A111_0, c111_0, e111, hx111_0, hl111_0, hi111_0⟩ := at_L1 HR1.out x12_3 p111 q111
                          obtain rfl : ad109 = ad111 := (by injection e111)
                          replace hx111_0 := (HB.out.cell (World.block_lt_of_cell? w _ hx111_0)).trans hx111_0
                          have HR111_0 := Aside0.mk hi111_0
                          have HC111_0 := Aside0.mk hl111_0
                          clear hi111_0 hl111_0
                          replace p111 := eq_true p111
                          replace q111 := eq_true q111
                          have ea_ := Option.some.inj (hx109_0.symm.trans hx111_0)
                          injection ea_ with ea_ en_ ec_
                          subst ea_
                          subst ec_
                          clear en_
                          go_wp2_with (first | ((with_reducible refine gate_callee (f := 11) rfl ?_); refine goesL_ (some 70) rfl rfl Try.func11 (by kernel_rfl) rfl #[.slice A109_0 (rd_L1 l1 x12_3).length c109_0] rfl (by (try simp only [List.map_toArray, List.map_cons, List.map_nil]); first | done | rfl | (simp only [List.length_drop, List.length_take]; rfl)) ?_; (with_reducible refine (Fp.pack_Row.calls _ _ (rd_L1 l1 x12_3) t112 t113 _ ?side1 ?side2 A23.out).mono ?_); (case side1 => repeat (first | exact (Kd.C_below HR111_0.out HB.out) | (with_reducible refine Kd.C_alloc ?_ _) | (with_reducible refine Kd.C_drewN ?_ _) | (with_reducible refine Kd.C_drew ?_))); (case side2 => exact HC111_0.out); rintro e w29 ⟨v114, rfl, ho0, hb⟩; refine ⟨_, rfl, ?_⟩; have n0_ := Aside0.mk (Kd.R_elder' (by (with_reducible repeat (first | apply Kd.R_alloc | apply Kd.R_drewN | apply Kd.R_drew)); exact HO_9.out) (Kd.R_base ho0) hb); have n1_ := Aside0.mk (Kd.R_elder' (by (with_reducible repeat (first | apply Kd.R_alloc | apply Kd.R_drewN | apply Kd.R_drew)); exact HO_11.out) (Kd.R_base ho0) hb); have n2_ := Aside0.mk (Kd.R_lower (Kd.R_new' (Kd.R_new' ho0 (Kd.R_lt (by (with_reducible repeat (first | apply Kd.R_alloc | apply Kd.R_drewN | apply Kd.R_drew)); exact HO_9.out))) (Kd.R_lt (by (with_reducible repeat (first | apply Kd.R_alloc | apply Kd.R_drewN | apply Kd.R_drew)); exact HO_11.out))) (below_size (by repeat (first | (with_reducible first | exact HB.out | apply below_alloc | apply pw_below_drewN | apply below_drew1) | exact HB.out)))); have n3_ := Aside0.mk (below_step (by repeat (first | (with_reducible first | exact HB.out | apply below_alloc | apply pw_below_drewN | apply below_drew1) | exact HB.out)) hb); clear HO_9; clear HO_11; clear HB; have HO_9 := n0_; have HO_11 := n1_; have HO115 := n2_; have HB := n3_; clear n0_ n1_ n2_ n3_; (try clear hb); (try clear hb2); (try clear hk); (try clear hi); (try clear ho0)))
                          go_ret
                          exact ⟨by first | rfl | (simp [errW_none, errW_some] <;> rfl) | (simp [*, errW_none, errW_some] <;> rfl), by repeat (first | (with_reducible first | exact HB.out | apply below_alloc | apply pw_below_drewN | apply below_drew1) | exact HB.out)⟩
                    · rw [if_neg c19] at H
                      exact absurd H (by simp)
                  · rw [if_neg c18] at H
                    have c18b0 : decide (x12_3 < (l1.length : Int)) = false := decide_eq_false c18
                    clear c18
                    replace H := Option.bind_eq_some_iff.mp H
                    obtain ⟨⟨t119, t120⟩, A300, H⟩ := H
                    replace H : ((Fp.pack_Rows.f x11_3).bind fun bt123 => (if t120 = 0 then (if bt123.2 = 0 then ((QR.icehouseref00_SameInts.f k3 t119 l0).bind fun t127 => (if t127 = true then ((QR.icehouseref00_SameLists.f k3 bt123.1 l1).bind fun t128 => (icehouselaw02_PackBack.j3 k3 l0 l2 a3 x9_2 (!t128))) else (icehouselaw02_PackBack.j3 k3 l0 l2 a3 x9_2 true))) else (icehouselaw02_PackBack.j3 k3 l0 l2 a3 x9_2 true)) else (icehouselaw02_PackBack.j3 k3 l0 l2 a3 x9_2 true))) = some r := H
                    have A30 := Aside0.mk A300
                    clear A300
                    replace H := Option.bind_eq_some_iff.mp H
                    obtain ⟨⟨t123, t124⟩, A310, H⟩ := H
                    replace H : (if t120 = 0 then (if t124 = 0 then ((QR.icehouseref00_SameInts.f k3 t119 l0).bind fun t127 => (if t127 = true then ((QR.icehouseref00_SameLists.f k3 t123 l1).bind fun t128 => (icehouselaw02_PackBack.j3 k3 l0 l2 a3 x9_2 (!t128))) else (icehouselaw02_PackBack.j3 k3 l0 l2 a3 x9_2 true))) else (icehouselaw02_PackBack.j3 k3 l0 l2 a3 x9_2 true)) else (icehouselaw02_PackBack.j3 k3 l0 l2 a3 x9_2 true)) = some r := H
                    have A31 := Aside0.mk A310
                    clear A310
                    have HC32 := Aside0.mk H
                    clear H
                    obtain ⟨Ao33, co33, eo33⟩ := Kd.R_slice HO_9.out
                    subst eo33
                    go_upto_region 20 with (first | ((with_reducible refine gate_callee (f := 26) rfl ?_); refine goesL_ (some 80) rfl rfl Try.func26 (by kernel_rfl) rfl #[.slice Ao33 x9_2.length co33] rfl (by (try simp only [List.map_toArray, List.map_cons, List.map_nil]); first | done | rfl | (simp only [List.length_drop, List.length_take]; rfl)) ?_; (with_reducible refine (Fp.pack_Nums.calls _ _ x9_2 t119 t120 _ ?side1 ?side2 A30.out).mono ?_); (case side1 => repeat (first | exact (Kd.R_reads' HO_9.out).2.2 | (with_reducible refine Kd.C_alloc ?_ _) | (with_reducible refine Kd.C_drewN ?_ _) | (with_reducible refine Kd.C_drew ?_))); (case side2 => exact (Kd.R_reads' HO_9.out).2.1); rintro e w34 ⟨v121, rfl, ho0, hb⟩; refine ⟨_, rfl, ?_⟩; have n0_ := Aside0.mk (Kd.R_below (by (with_reducible repeat (first | apply Kd.R_alloc | apply Kd.R_drewN | apply Kd.R_drew)); exact HO_9.out) hb); have n1_ := Aside0.mk (Kd.R_below (by (with_reducible repeat (first | apply Kd.R_alloc | apply Kd.R_drewN | apply Kd.R_drew)); exact HO_11.out) hb); have n2_ := Aside0.mk (Kd.R_lower ho0 (below_size (by repeat (first | (with_reducible first | exact HB.out | apply below_alloc | apply pw_below_drewN | apply below_drew1) | exact HB.out)))); have n3_ := Aside0.mk (below_step (by repeat (first | (with_reducible first | exact HB.out | apply below_alloc | apply pw_below_drewN | apply below_drew1) | exact HB.out)) hb); clear HO_9; clear HO_11; clear HB; have HO_9 := n0_; have HO_11 := n1_; have HO122 := n2_; have HB := n3_; clear n0_ n1_ n2_ n3_; (try clear hb); (try clear hb2); (try clear hk); (try clear hi); (try clear ho0); obtain ⟨Ao35, co35, eo35⟩ := Kd.R_slice HO_11.out; subst eo35) | ((with_reducible refine gate_callee (f := 28) rfl ?_); refine goesL_ (some 85) rfl rfl Try.func28 (by kernel_rfl) rfl #[.slice Ao35 x11_3.length co35] rfl (by (try simp only [List.map_toArray, List.map_cons, List.map_nil]); first | done | rfl | (simp only [List.length_drop, List.length_take]; rfl)) ?_; (with_reducible refine (Fp.pack_Rows.calls _ _ x11_3 t123 t124 _ ?side1 ?side2 A31.out).mono ?_); (case side1 => repeat (first | exact (Kd.R_reads' HO_11.out).2.2 | (with_reducible refine Kd.C_alloc ?_ _) | (with_reducible refine Kd.C_drewN ?_ _) | (with_reducible refine Kd.C_drew ?_))); (case side2 => exact (Kd.R_reads' HO_11.out).2.1); rintro e w36 ⟨v125, rfl, ho0, hb⟩; refine ⟨_, rfl, ?_⟩; have n0_ := Aside0.mk (Kd.R_below (by (with_reducible repeat (first | apply Kd.R_alloc | apply Kd.R_drewN | apply Kd.R_drew)); exact HO_9.out) hb); have n1_ := Aside0.mk (Kd.R_below (by (with_reducible repeat (first | apply Kd.R_alloc | apply Kd.R_drewN | apply Kd.R_drew)); exact HO_11.out) hb); have n2_ := Aside0.mk (Kd.R_below (by (with_reducible repeat (first | apply Kd.R_alloc | apply Kd.R_drewN | apply Kd.R_drew)); exact HO122.out) hb); have n3_ := Aside0.mk (Kd.R_lower (Kd.R_new' (Kd.R_new' ho0 (Kd.R_lt (by (with_reducible repeat (first | apply Kd.R_alloc | apply Kd.R_drewN | apply Kd.R_drew)); exact HO_9.out))) (Kd.R_lt (by (with_reducible repeat (first | apply Kd.R_alloc | apply Kd.R_drewN | apply Kd.R_drew)); exact HO_11.out))) (below_size (by repeat (first | (with_reducible first | exact HB.out | apply below_alloc | apply pw_below_drewN | apply below_drew1) | exact HB.out)))); have n4_ := Aside0.mk (below_step (by repeat (first | (with_reducible first | exact HB.out | apply below_alloc | apply pw_below_drewN | apply below_drew1) | exact HB.out)) hb); clear HO_9; clear HO_11; clear HO122; clear HB; have HO_9 := n0_; have HO_11 := n1_; have HO122 := n2_; have HO126 := n3_; have HB := n4_; clear n0_ n1_ n2_ n3_ n4_; (try clear hb); (try clear hb2); (try clear hk); (try clear hi); (try clear ho0)))
                    (try simp only [Act.put, List.setIfInBounds_toArray, List.set_cons_zero, List.set_cons_succ])
                    go_cut [105] (fun v105 wc => ∃ (kq : Nat) (x105_31 : Bool), v105 = .bool x105_31 ∧ Aside0 (icehouselaw02_PackBack.j3 kq l0 l2 a3 x9_2 x105_31 = some r) ∧ Aside0 (kq ≤ k3) ∧ Aside0 (Kd.R (Kd.int .u8) 5 wc w.heap.size (fun _ => True) (.slice Ao33 x9_2.length co33) x9_2) ∧ Aside0 (Below w.heap.size w wc))
                    case first =>
                      have H := HC32.out
                      clear HC32
                      by_cases c37 : t120 = 0
                      · rw [if_pos c37] at H
                        have c37b0 : (t120 == 0) = true := beq_iff_eq.mpr c37
                        have c37b1 : (t120 != 0) = false := bne_eq_false_iff_eq.mpr c37
                        clear c37
                        (first | rw [c37b0] | (simp only [i64_w, i32_w]; rw [c37b0]) | skip)
                        by_cases c38 : t124 = 0
                        · rw [if_pos c38] at H
                          have c38b0 : (t124 == 0) = true := beq_iff_eq.mpr c38
                          have c38b1 : (t124 != 0) = false := bne_eq_false_iff_eq.mpr c38
                          clear c38
                          replace H := Option.bind_eq_some_iff.mp H
                          obtain ⟨t127, A390, H⟩ := H
                          replace H : (if t127 = true then ((QR.icehouseref00_SameLists.f k3 t123 l1).bind fun t128 => (icehouselaw02_PackBack.j3 k3 l0 l2 a3 x9_2 (!t128))) else (icehouselaw02_PackBack.j3 k3 l0 l2 a3 x9_2 true)) = some r := H
                          have A39 := Aside0.mk A390
                          clear A390
                          by_cases c40 : t127 = true
                          · subst c40
                            have H1 : ((QR.icehouseref00_SameLists.f k3 t123 l1).bind fun t128 => (icehouselaw02_PackBack.j3 k3 l0 l2 a3 x9_2 (!t128))) = some r := by rw [if_pos rfl] at H; exact H
                            clear H
                            have H := H1
                            clear H1
                            replace H := Option.bind_eq_some_iff.mp H
                            obtain ⟨t128, A410, H⟩ := H
                            replace H : (icehouselaw02_PackBack.j3 k3 l0 l2 a3 x9_2 (!t128)) = some r := H
                            have A41 := Aside0.mk A410
                            clear A410
                            have H' := Aside0.mk H
                            clear H
                            obtain ⟨Ao42, co42, eo42⟩ := Kd.R_slice HO122.out
                            subst eo42
                            go_wp2_with (first | (go_at_call 30; (with_reducible refine (QR.icehouseref00_SameInts.calls k3 _ _ t119 _ _ l0 true _ ?side1 ?side2 ?side3 ?side4 A39.out).mono ?_); (case side1 => repeat (first | exact (Kd.R_reads' HO122.out).2.2 | (with_reducible refine Kd.C_alloc ?_ _) | (with_reducible refine Kd.C_drewN ?_ _) | (with_reducible refine Kd.C_drew ?_))); (case side2 => exact (Kd.R_reads' HO122.out).2.1); (case side3 => repeat (first | exact (Kd.C_below HR0.out HB.out) | (with_reducible refine Kd.C_alloc ?_ _) | (with_reducible refine Kd.C_drewN ?_ _) | (with_reducible refine Kd.C_drew ?_))); (case side4 => exact HC0.out); rintro e w' ⟨rfl, ⟨nd, rfl⟩⟩; obtain ⟨Ao43, co43, eo43⟩ := Kd.R_slice HO126.out; subst eo43) | (go_at_call 31; (with_reducible refine (QR.icehouseref00_SameLists.calls k3 _ _ t123 _ _ l1 t128 _ ?side1 ?side2 ?side3 ?side4 A41.out).mono ?_); (case side1 => repeat (first | exact (Kd.R_reads' HO126.out).2.2 | (with_reducible refine Kd.C_alloc ?_ _) | (with_reducible refine Kd.C_drewN ?_ _) | (with_reducible refine Kd.C_drew ?_))); (case side2 => exact (Kd.R_reads' HO126.out).2.1); (case side3 => repeat (first | exact (Kd.C_below HR1.out (by repeat (first | (with_reducible first | exact HB.out | apply below_alloc | apply pw_below_drewN | apply below_drew1) | exact HB.out))) | (with_reducible refine Kd.C_alloc ?_ _) | (with_reducible refine Kd.C_drewN ?_ _) | (with_reducible refine Kd.C_drew ?_))); (case side4 => exact HC1.out); rintro e w' ⟨rfl, ⟨nd, rfl⟩⟩))
                            go_meet
                            case rel => exact ⟨_, (!t128), (by first | rfl | (simp; done) | (simp [*]; done)), H', ⟨by have := HJ4.out; have := HK2.out; have := HK3.out; first | omega | exact Nat.le_refl _⟩, ⟨by (with_reducible repeat (first | apply Kd.R_alloc | apply Kd.R_drewN | apply Kd.R_drew)); exact Kd.R_mono HO_9.out (fun _ hk => trivial)⟩, ⟨by repeat (first | (with_reducible first | exact HB.out | apply below_alloc | apply pw_below_drewN | apply below_drew1) | exact HB.out)⟩⟩
                          · replace c40 := Bool.eq_false_iff.mpr c40
                            subst c40
                            have H1 : (icehouselaw02_PackBack.j3 k3 l0 l2 a3 x9_2 true) = some r := by rw [if_neg (show ¬ (false = true) by decide)] at H; exact H
                            clear H
                            have H := H1
                            clear H1
                            have H' := Aside0.mk H
                            clear H
                            obtain ⟨Ao44, co44, eo44⟩ := Kd.R_slice HO122.out
                            subst eo44
                            go_wp2_with (first | (go_at_call 30; (with_reducible refine (QR.icehouseref00_SameInts.calls k3 _ _ t119 _ _ l0 false _ ?side1 ?side2 ?side3 ?side4 A39.out).mono ?_); (case side1 => repeat (first | exact (Kd.R_reads' HO122.out).2.2 | (with_reducible refine Kd.C_alloc ?_ _) | (with_reducible refine Kd.C_drewN ?_ _) | (with_reducible refine Kd.C_drew ?_))); (case side2 => exact (Kd.R_reads' HO122.out).2.1); (case side3 => repeat (first | exact (Kd.C_below HR0.out HB.out) | (with_reducible refine Kd.C_alloc ?_ _) | (with_reducible refine Kd.C_drewN ?_ _) | (with_reducible refine Kd.C_drew ?_))); (case side4 => exact HC0.out); rintro e w' ⟨rfl, ⟨nd, rfl⟩⟩))
                            go_meet
                            case rel => exact ⟨_, (true), (by first | rfl | (simp; done) | (simp [*]; done)), H', ⟨by have := HJ4.out; have := HK2.out; have := HK3.out; first | omega | exact Nat.le_refl _⟩, ⟨by (with_reducible repeat (first | apply Kd.R_alloc | apply Kd.R_drewN | apply Kd.R_drew)); exact Kd.R_mono HO_9.out (fun _ hk => trivial)⟩, ⟨by repeat (first | (with_reducible first | exact HB.out | apply below_alloc | apply pw_below_drewN | apply below_drew1) | exact HB.out)⟩⟩
                        · rw [if_neg c38] at H
                          have c38b0 : (t124 == 0) = false := beq_eq_false_iff_ne.mpr c38
                          have c38b1 : (t124 != 0) = true := bne_iff_ne.mpr c38
                          have H' := Aside0.mk H
                          clear H
                          go_wp2
                          go_meet
                          case rel => exact ⟨_, (true), (by first | rfl | (simp; done) | (simp [*]; done)), H', ⟨by have := HJ4.out; have := HK2.out; have := HK3.out; first | omega | exact Nat.le_refl _⟩, ⟨by (with_reducible repeat (first | apply Kd.R_alloc | apply Kd.R_drewN | apply Kd.R_drew)); exact Kd.R_mono HO_9.out (fun _ hk => trivial)⟩, ⟨by repeat (first | (with_reducible first | exact HB.out | apply below_alloc | apply pw_below_drewN | apply below_drew1) | exact HB.out)⟩⟩
                      · rw [if_neg c37] at H
                        have c37b0 : (t120 == 0) = false := beq_eq_false_iff_ne.mpr c37
                        have c37b1 : (t120 != 0) = true := bne_iff_ne.mpr c37
                        (first | rw [c37b0] | (simp only [i64_w, i32_w]; rw [c37b0]) | skip)
                        have H' := Aside0.mk H
                        clear H
                        go_wp2
                        go_meet
                        case rel => exact ⟨_, (true), (by first | rfl | (simp; done) | (simp [*]; done)), H', ⟨by have := HJ4.out; have := HK2.out; have := HK3.out; first | omega | exact Nat.le_refl _⟩, ⟨by (with_reducible repeat (first | apply Kd.R_alloc | apply Kd.R_drewN | apply Kd.R_drew)); exact Kd.R_mono HO_9.out (fun _ hk => trivial)⟩, ⟨by repeat (first | (with_reducible first | exact HB.out | apply below_alloc | apply pw_below_drewN | apply below_drew1) | exact HB.out)⟩⟩
                    case rest =>
                      clear HC32
                      try clear c1
                      try clear p1
                      try clear q1
                      try clear hx1
                      try clear c2
                      try clear p2
                      try clear c3
                      try clear c4
                      try clear c6
                      try clear c6b0
                      try clear c6b1
                      try clear p6
                      try clear c7
                      try clear c7b0
                      try clear c7b1
                      try clear c8
                      try clear c9
                      try clear c10
                      try clear p10
                      try clear q10
                      try clear hx10
                      try clear c11
                      try clear c11b0
                      try clear p11
                      try clear q11
                      try clear hx11
                      try clear c12
                      try clear c12b0
                      try clear c14
                      try clear c18
                      try clear c18b0
                      try clear c19
                      try clear c19b0
                      try clear c20
                      try clear c20b0
                      try clear c20b1
                      try clear c24
                      try clear c24b0
                      try clear c24b1
                      try clear c25
                      try clear c26
                      try clear c28
                      try clear c37
                      try clear c37b0
                      try clear c37b1
                      try clear c38
                      try clear c38b0
                      try clear c38b1
                      try clear c40
                      try clear hx102_0
                      try clear hx109_0
                      try clear hx111_0
                      try clear p1
                      try clear p10
                      try clear p102
                      try clear p109
                      try clear p111
                      try clear p2
                      try clear p6
                      try clear q1
                      try clear q10
                      try clear q102
                      try clear q109
                      try clear q111
                      obtain ⟨kq, x105_31, rfl, HA, HJ31, HO_9, HB⟩ := hcut
                      cases kq with
                      | zero => exact absurd HA.out (by simp [icehouselaw02_PackBack.j3])
                      | succ kj31 =>
                        have H := HA.out
                        clear HA
                        simp only [icehouselaw02_PackBack.j3] at H
                        by_cases c45 : x105_31 = true
                        · subst c45
                          have H1 : (some false) = some r := by rw [if_pos rfl] at H; exact H
                          clear H
                          have H := H1
                          clear H1
                          obtain rfl := Option.some.inj H
                          go_wp2
                          go_ret
                          exact ⟨by first | rfl | (simp [errW_none, errW_some] <;> rfl) | (simp [*, errW_none, errW_some] <;> rfl), by repeat (first | (with_reducible first | exact HB.out | apply below_alloc | apply pw_below_drewN | apply below_drew1) | exact HB.out)⟩
                        · replace c45 := Bool.eq_false_iff.mpr c45
                          subst c45
                          have H1 : (if (x9_2.length : Int) > 0 then (if (x9_2.length : Int) = 0 then (none) else (if 0 ≤ (Int.tmod (wrap64 (a3)) (x9_2.length : Int)) then (if (Int.tmod (wrap64 (a3)) (x9_2.length : Int)) ≤ (x9_2.length : Int) then ((Fp.pack_Nums.f (x9_2.take ((Int.tmod (wrap64 (a3)) (x9_2.length : Int)) : Int).toNat)).bind fun bt133 => (if bt133.2 = 12 then (icehouselaw02_PackBack.j4 kj31 l2) else (if bt133.2 = 0 then (if (bt133.1.length : Int) ≥ (l0.length : Int) then (some false) else (icehouselaw02_PackBack.j4 kj31 l2)) else (some false)))) else (none)) else (none))) else (icehouselaw02_PackBack.j4 kj31 l2)) = some r := by rw [if_neg (show ¬ (false = true) by decide)] at H; exact H
                          clear H
                          have H := H1
                          clear H1
                          have HC46 := Aside0.mk H
                          clear H
                          go_upto_if 108 with (fail)
                          go_cut [] (fun wc => ∃ (kq : Nat), Aside0 (icehouselaw02_PackBack.j4 kq l2 = some r) ∧ Aside0 (kq ≤ kj31) ∧ Aside0 (Below w.heap.size w wc))
                          case first =>
                            have H := HC46.out
                            clear HC46
                            by_cases c47 : (x9_2.length : Int) > 0
                            · rw [if_pos c47] at H
                              have c47b0 : decide (0 < (x9_2.length : Int)) = true := decide_eq_true c47
                              have c47b1 : decide (0 < x9_2.length) = true := decide_eq_true (by omega)
                              clear c47
                              (first | rw [c47b0] | (simp only [i64_w, i32_w]; rw [c47b0]) | skip)
                              by_cases c48 : (x9_2.length : Int) = 0
                              · rw [if_pos c48] at H
                                exact absurd H (by simp)
                              · rw [if_neg c48] at H
                                have c48b0 : ((x9_2.length : Int) == 0) = false := beq_eq_false_iff_ne.mpr c48
                                have c48b1 : ((x9_2.length : Int) != 0) = true := bne_iff_ne.mpr c48
                                have c48b2 : ¬ (x9_2 = []) := fun h_ => c48 (by rw [h_]; rfl)
                                obtain ⟨ji49, hji49⟩ : ∃ j_ : Int, (Int.tmod (wrap64 (a3)) (x9_2.length : Int)) = j_ := ⟨_, rfl⟩
                                replace H : (if 0 ≤ (ji49) then (if (ji49) ≤ (x9_2.length : Int) then ((Fp.pack_Nums.f (x9_2.take ((ji49) : Int).toNat)).bind fun bt133 => (if bt133.2 = 12 then (icehouselaw02_PackBack.j4 kj31 l2) else (if bt133.2 = 0 then (if (bt133.1.length : Int) ≥ (l0.length : Int) then (some false) else (icehouselaw02_PackBack.j4 kj31 l2)) else (some false)))) else (none)) else (none)) = some r := by first | (rw [hji49] at H; exact H) | (simp only [hji49] at H ⊢; exact H)
                                by_cases c50 : 0 ≤ (ji49)
                                · rw [if_pos c50] at H
                                  have c50b0 := eq_true c50
                                  have c50b1 : decide (0 ≤ (ji49)) = true := decide_eq_true c50
                                  clear c50
                                  by_cases c51 : (ji49) ≤ (x9_2.length : Int)
                                  · rw [if_pos c51] at H
                                    have c51b0 := eq_true c51
                                    have c51b1 : decide ((ji49) ≤ (x9_2.length : Int)) = true := decide_eq_true c51
                                    clear c51
                                    obtain ⟨y129, hy129⟩ : ∃ y_ : List Int, y_ = (x9_2.take ((ji49) : Int).toNat) := ⟨_, rfl⟩
                                    replace H : ((Fp.pack_Nums.f y129).bind fun bt133 => (if bt133.2 = 12 then (icehouselaw02_PackBack.j4 kj31 l2) else (if bt133.2 = 0 then (if (bt133.1.length : Int) ≥ (l0.length : Int) then (some false) else (icehouselaw02_PackBack.j4 kj31 l2)) else (some false)))) = some r := by first | (rw [hy129]; with_reducible exact H) | (have H2_ := (Option.bind_some _ _).symm.trans H; rw [hy129]; with_reducible exact H2_) | (have H2_ := (Option.bind_some _ _).symm.trans H; with_reducible exact H2_) | with_reducible exact H | (rw [hy129]; exact H) | exact H
                                    have Ny129 := Aside0.mk hy129
                                    clear hy129
                                    replace H := Option.bind_eq_some_iff.mp H
                                    obtain ⟨⟨t133, t134⟩, A520, H⟩ := H
                                    replace H : (if t134 = 12 then (icehouselaw02_PackBack.j4 kj31 l2) else (if t134 = 0 then (if (t133.length : Int) ≥ (l0.length : Int) then (some false) else (icehouselaw02_PackBack.j4 kj31 l2)) else (some false))) = some r := H
                                    have A52 := Aside0.mk A520
                                    clear A520
                                    by_cases c53 : t134 = 12
                                    · rw [if_pos c53] at H
                                      have c53b0 : (t134 == 12) = true := beq_iff_eq.mpr c53
                                      have c53b1 : (t134 != 12) = false := bne_eq_false_iff_eq.mpr c53
                                      clear c53
                                      have H' := Aside0.mk H
                                      clear H
                                      have q54 : ((ji49) : Int) ≤ ((x9_2.length : Int) : Int) := of_decide_eq_true (by first | (with_reducible assumption) | assumption)
                                      obtain ⟨i054, hi054, _, hsz54, _⟩ := info_parts info5
                                      have hroom54 : x9_2.length ≤ co33 := (Kd.R_reads' HO_9.out).2.1
                                      have hC54 : Kd.C (Kd.int .u8) _ Ao33 x9_2.length x9_2 := (Kd.R_reads' HO_9.out).2.2
                                      have hcut54 := cut_to (P := Try.prog) 22 5 .i64 Try.underlying22 hi054 Ao33 x9_2.length co33 (ji49) (of_decide_eq_true (by first | (with_reducible assumption) | assumption)) q54 hroom54
                                      have hr54 := Kd.C_take (m := ((ji49) : Int).toNat) hC54 (by omega)
                                      have hy54 : y129.length = ((ji49) : Int).toNat := (by rw [Ny129.out, List.length_take]; omega)
                                      rw [← Ny129.out] at hr54
                                      rw [← hy54] at hcut54
                                      have HR132 := Aside0.mk hr54
                                      have HC132 := Aside0.mk (show y129.length ≤ co33 from by omega)
                                      clear hr54 hC54 hroom54 hi054 hsz54
                                      have KY54 := Aside0.mk hy54
                                      clear hy54
                                      have KL54 := Aside0.mk (show ((ji49) : Int).toNat ≤ x9_2.length from by omega)
                                      replace q54 := eq_true q54
                                      go_wp2_with (first | ((with_reducible refine gate_callee (f := 26) rfl ?_); refine goesL_ (some 117) rfl rfl Try.func26 (by kernel_rfl) rfl #[.slice Ao33 y129.length co33] rfl (by (try simp only [List.map_toArray, List.map_cons, List.map_nil]); first | done | rfl | (simp only [List.length_drop, List.length_take]; rfl)) ?_; (with_reducible refine (Fp.pack_Nums.calls _ _ y129 t133 t134 _ ?side1 ?side2 A52.out).mono ?_); (case side1 => repeat (first | exact (by repeat (first | (with_reducible exact HR132.out) | (with_reducible refine Kd.C_alloc ?_ _) | (with_reducible refine Kd.C_drewN ?_ _) | (with_reducible refine Kd.C_drew ?_) | exact HR132.out)) | (with_reducible refine Kd.C_alloc ?_ _) | (with_reducible refine Kd.C_drewN ?_ _) | (with_reducible refine Kd.C_drew ?_))); (case side2 => exact HC132.out); rintro e w55 ⟨v135, rfl, ho0, hb⟩; refine ⟨_, rfl, ?_⟩; have n0_ := Aside0.mk (Kd.R_below (by (with_reducible repeat (first | apply Kd.R_alloc | apply Kd.R_drewN | apply Kd.R_drew)); exact HO_9.out) hb); have n1_ := Aside0.mk (Kd.R_lower ho0 (below_size (by repeat (first | (with_reducible first | exact HB.out | apply below_alloc | apply pw_below_drewN | apply below_drew1) | exact HB.out)))); have n2_ := Aside0.mk (Kd.C_below (by repeat (first | (with_reducible exact HR132.out) | (with_reducible refine Kd.C_alloc ?_ _) | (with_reducible refine Kd.C_drewN ?_ _) | (with_reducible refine Kd.C_drew ?_) | exact HR132.out)) hb); have n3_ := Aside0.mk (below_step (by repeat (first | (with_reducible first | exact HB.out | apply below_alloc | apply pw_below_drewN | apply below_drew1) | exact HB.out)) hb); clear HO_9; clear HR132; clear HB; have HO_9 := n0_; have HO136 := n1_; have HR132 := n2_; have HB := n3_; clear n0_ n1_ n2_ n3_; (try clear hb); (try clear hb2); (try clear hk); (try clear hi); (try clear ho0)))
                                      go_meet
                                      case rel => exact ⟨_, H', ⟨by have := HJ4.out; have := HK2.out; have := HK3.out; have := HJ31.out; first | omega | exact Nat.le_refl _⟩, ⟨by repeat (first | (with_reducible first | exact HB.out | apply below_alloc | apply pw_below_drewN | apply below_drew1) | exact HB.out)⟩⟩
                                    · rw [if_neg c53] at H
                                      have c53b0 : (t134 == 12) = false := beq_eq_false_iff_ne.mpr c53
                                      have c53b1 : (t134 != 12) = true := bne_iff_ne.mpr c53
                                      by_cases c56 : t134 = 0
                                      · rw [if_pos c56] at H
                                        have c56b0 : (t134 == 0) = true := beq_iff_eq.mpr c56
                                        have c56b1 : (t134 != 0) = false := bne_eq_false_iff_eq.mpr c56
                                        clear c56
                                        by_cases c57 : (t133.length : Int) ≥ (l0.length : Int)
                                        · rw [if_pos c57] at H
                                          have c57b0 : decide ((l0.length : Int) ≤ (t133.length : Int)) = true := decide_eq_true c57
                                          have c57b1 : decide (l0.length ≤ t133.length) = true := decide_eq_true (Int.ofNat_le.mp c57)
                                          clear c57
                                          obtain rfl := Option.some.inj H
                                          have q58 : ((ji49) : Int) ≤ ((x9_2.length : Int) : Int) := of_decide_eq_true (by first | (with_reducible assumption) | assumption)
                                          obtain ⟨i058, hi058, _, hsz58, _⟩ := info_parts info5
                                          have hroom58 : x9_2.length ≤ co33 := (Kd.R_reads' HO_9.out).2.1
                                          have hC58 : Kd.C (Kd.int .u8) _ Ao33 x9_2.length x9_2 := (Kd.R_reads' HO_9.out).2.2
                                          have hcut58 := cut_to (P := Try.prog) 22 5 .i64 Try.underlying22 hi058 Ao33 x9_2.length co33 (ji49) (of_decide_eq_true (by first | (with_reducible assumption) | assumption)) q58 hroom58
                                          have hr58 := Kd.C_take (m := ((ji49) : Int).toNat) hC58 (by omega)
                                          have hy58 : y129.length = ((ji49) : Int).toNat := (by rw [Ny129.out, List.length_take]; omega)
                                          rw [← Ny129.out] at hr58
                                          rw [← hy58] at hcut58
                                          have HR132 := Aside0.mk hr58
                                          have HC132 := Aside0.mk (show y129.length ≤ co33 from by omega)
                                          clear hr58 hC58 hroom58 hi058 hsz58
                                          have KY58 := Aside0.mk hy58
                                          clear hy58
                                          have KL58 := Aside0.mk (show ((ji49) : Int).toNat ≤ x9_2.length from by omega)
                                          replace q58 := eq_true q58
                                          go_wp2_with (first | ((with_reducible refine gate_callee (f := 26) rfl ?_); refine goesL_ (some 117) rfl rfl Try.func26 (by kernel_rfl) rfl #[.slice Ao33 y129.length co33] rfl (by (try simp only [List.map_toArray, List.map_cons, List.map_nil]); first | done | rfl | (simp only [List.length_drop, List.length_take]; rfl)) ?_; (with_reducible refine (Fp.pack_Nums.calls _ _ y129 t133 t134 _ ?side1 ?side2 A52.out).mono ?_); (case side1 => repeat (first | exact (by repeat (first | (with_reducible exact HR132.out) | (with_reducible refine Kd.C_alloc ?_ _) | (with_reducible refine Kd.C_drewN ?_ _) | (with_reducible refine Kd.C_drew ?_) | exact HR132.out)) | (with_reducible refine Kd.C_alloc ?_ _) | (with_reducible refine Kd.C_drewN ?_ _) | (with_reducible refine Kd.C_drew ?_))); (case side2 => exact HC132.out); rintro e w59 ⟨v135, rfl, ho0, hb⟩; refine ⟨_, rfl, ?_⟩; have n0_ := Aside0.mk (Kd.R_below (by (with_reducible repeat (first | apply Kd.R_alloc | apply Kd.R_drewN | apply Kd.R_drew)); exact HO_9.out) hb); have n1_ := Aside0.mk (Kd.R_lower ho0 (below_size (by repeat (first | (with_reducible first | exact HB.out | apply below_alloc | apply pw_below_drewN | apply below_drew1) | exact HB.out)))); have n2_ := Aside0.mk (Kd.C_below (by repeat (first | (with_reducible exact HR132.out) | (with_reducible refine Kd.C_alloc ?_ _) | (with_reducible refine Kd.C_drewN ?_ _) | (with_reducible refine Kd.C_drew ?_) | exact HR132.out)) hb); have n3_ := Aside0.mk (below_step (by repeat (first | (with_reducible first | exact HB.out | apply below_alloc | apply pw_below_drewN | apply below_drew1) | exact HB.out)) hb); clear HO_9; clear HR132; clear HB; have HO_9 := n0_; have HO136 := n1_; have HR132 := n2_; have HB := n3_; clear n0_ n1_ n2_ n3_; (try clear hb); (try clear hb2); (try clear hk); (try clear hi); (try clear ho0); obtain ⟨Ao60, co60, eo60⟩ := Kd.R_slice HO136.out; subst eo60))
                                          go_ret
                                          exact ⟨by first | rfl | (simp [errW_none, errW_some] <;> rfl) | (simp only [← hji49]; first | rfl | (simp [errW_none, errW_some] <;> rfl)) | (simp [*, errW_none, errW_some] <;> rfl), by repeat (first | (with_reducible first | exact HB.out | apply below_alloc | apply pw_below_drewN | apply below_drew1) | exact HB.out)⟩
                                        · rw [if_neg c57] at H
                                          have c57b0 : decide ((l0.length : Int) ≤ (t133.length : Int)) = false := decide_eq_false c57
                                          have c57b1 : decide (l0.length ≤ t133.length) = false := decide_eq_false (fun h => c57 (Int.ofNat_le.mpr h))
                                          clear c57
                                          have H' := Aside0.mk H
                                          clear H
                                          have q61 : ((ji49) : Int) ≤ ((x9_2.length : Int) : Int) := of_decide_eq_true (by first | (with_reducible assumption) | assumption)
                                          obtain ⟨i061, hi061, _, hsz61, _⟩ := info_parts info5
                                          have hroom61 : x9_2.length ≤ co33 := (Kd.R_reads' HO_9.out).2.1
                                          have hC61 : Kd.C (Kd.int .u8) _ Ao33 x9_2.length x9_2 := (Kd.R_reads' HO_9.out).2.2
                                          have hcut61 := cut_to (P := Try.prog) 22 5 .i64 Try.underlying22 hi061 Ao33 x9_2.length co33 (ji49) (of_decide_eq_true (by first | (with_reducible assumption) | assumption)) q61 hroom61
                                          have hr61 := Kd.C_take (m := ((ji49) : Int).toNat) hC61 (by omega)
                                          have hy61 : y129.length = ((ji49) : Int).toNat := (by rw [Ny129.out, List.length_take]; omega)
                                          rw [← Ny129.out] at hr61
                                          rw [← hy61] at hcut61
                                          have HR132 := Aside0.mk hr61
                                          have HC132 := Aside0.mk (show y129.length ≤ co33 from by omega)
                                          clear hr61 hC61 hroom61 hi061 hsz61
                                          have KY61 := Aside0.mk hy61
                                          clear hy61
                                          have KL61 := Aside0.mk (show ((ji49) : Int).toNat ≤ x9_2.length from by omega)
                                          replace q61 := eq_true q61
                                          go_wp2_with (first | ((with_reducible refine gate_callee (f := 26) rfl ?_); refine goesL_ (some 117) rfl rfl Try.func26 (by kernel_rfl) rfl #[.slice Ao33 y129.length co33] rfl (by (try simp only [List.map_toArray, List.map_cons, List.map_nil]); first | done | rfl | (simp only [List.length_drop, List.length_take]; rfl)) ?_; (with_reducible refine (Fp.pack_Nums.calls _ _ y129 t133 t134 _ ?side1 ?side2 A52.out).mono ?_); (case side1 => repeat (first | exact (by repeat (first | (with_reducible exact HR132.out) | (with_reducible refine Kd.C_alloc ?_ _) | (with_reducible refine Kd.C_drewN ?_ _) | (with_reducible refine Kd.C_drew ?_) | exact HR132.out)) | (with_reducible refine Kd.C_alloc ?_ _) | (with_reducible refine Kd.C_drewN ?_ _) | (with_reducible refine Kd.C_drew ?_))); (case side2 => exact HC132.out); rintro e w62 ⟨v135, rfl, ho0, hb⟩; refine ⟨_, rfl, ?_⟩; have n0_ := Aside0.mk (Kd.R_below (by (with_reducible repeat (first | apply Kd.R_alloc | apply Kd.R_drewN | apply Kd.R_drew)); exact HO_9.out) hb); have n1_ := Aside0.mk (Kd.R_lower ho0 (below_size (by repeat (first | (with_reducible first | exact HB.out | apply below_alloc | apply pw_below_drewN | apply below_drew1) | exact HB.out)))); have n2_ := Aside0.mk (Kd.C_below (by repeat (first | (with_reducible exact HR132.out) | (with_reducible refine Kd.C_alloc ?_ _) | (with_reducible refine Kd.C_drewN ?_ _) | (with_reducible refine Kd.C_drew ?_) | exact HR132.out)) hb); have n3_ := Aside0.mk (below_step (by repeat (first | (with_reducible first | exact HB.out | apply below_alloc | apply pw_below_drewN | apply below_drew1) | exact HB.out)) hb); clear HO_9; clear HR132; clear HB; have HO_9 := n0_; have HO136 := n1_; have HR132 := n2_; have HB := n3_; clear n0_ n1_ n2_ n3_; (try clear hb); (try clear hb2); (try clear hk); (try clear hi); (try clear ho0); obtain ⟨Ao63, co63, eo63⟩ := Kd.R_slice HO136.out; subst eo63))
                                          go_meet
                                          case rel => exact ⟨_, H', ⟨by have := HJ4.out; have := HK2.out; have := HK3.out; have := HJ31.out; first | omega | exact Nat.le_refl _⟩, ⟨by repeat (first | (with_reducible first | exact HB.out | apply below_alloc | apply pw_below_drewN | apply below_drew1) | exact HB.out)⟩⟩
                                      · rw [if_neg c56] at H
                                        have c56b0 : (t134 == 0) = false := beq_eq_false_iff_ne.mpr c56
                                        have c56b1 : (t134 != 0) = true := bne_iff_ne.mpr c56
                                        obtain rfl := Option.some.inj H
                                        have q64 : ((ji49) : Int) ≤ ((x9_2.length : Int) : Int) := of_decide_eq_true (by first | (with_reducible assumption) | assumption)
                                        obtain ⟨i064, hi064, _, hsz64, _⟩ := info_parts info5
                                        have hroom64 : x9_2.length ≤ co33 := (Kd.R_reads' HO_9.out).2.1
                                        have hC64 : Kd.C (Kd.int .u8) _ Ao33 x9_2.length x9_2 := (Kd.R_reads' HO_9.out).2.2
                                        have hcut64 := cut_to (P := Try.prog) 22 5 .i64 Try.underlying22 hi064 Ao33 x9_2.length co33 (ji49) (of_decide_eq_true (by first | (with_reducible assumption) | assumption)) q64 hroom64
                                        have hr64 := Kd.C_take (m := ((ji49) : Int).toNat) hC64 (by omega)
                                        have hy64 : y129.length = ((ji49) : Int).toNat := (by rw [Ny129.out, List.length_take]; omega)
                                        rw [← Ny129.out] at hr64
                                        rw [← hy64] at hcut64
                                        have HR132 := Aside0.mk hr64
                                        have HC132 := Aside0.mk (show y129.length ≤ co33 from by omega)
                                        clear hr64 hC64 hroom64 hi064 hsz64
                                        have KY64 := Aside0.mk hy64
                                        clear hy64
                                        have KL64 := Aside0.mk (show ((ji49) : Int).toNat ≤ x9_2.length from by omega)
                                        replace q64 := eq_true q64
                                        go_wp2_with (first | ((with_reducible refine gate_callee (f := 26) rfl ?_); refine goesL_ (some 117) rfl rfl Try.func26 (by kernel_rfl) rfl #[.slice Ao33 y129.length co33] rfl (by (try simp only [List.map_toArray, List.map_cons, List.map_nil]); first | done | rfl | (simp only [List.length_drop, List.length_take]; rfl)) ?_; (with_reducible refine (Fp.pack_Nums.calls _ _ y129 t133 t134 _ ?side1 ?side2 A52.out).mono ?_); (case side1 => repeat (first | exact (by repeat (first | (with_reducible exact HR132.out) | (with_reducible refine Kd.C_alloc ?_ _) | (with_reducible refine Kd.C_drewN ?_ _) | (with_reducible refine Kd.C_drew ?_) | exact HR132.out)) | (with_reducible refine Kd.C_alloc ?_ _) | (with_reducible refine Kd.C_drewN ?_ _) | (with_reducible refine Kd.C_drew ?_))); (case side2 => exact HC132.out); rintro e w65 ⟨v135, rfl, ho0, hb⟩; refine ⟨_, rfl, ?_⟩; have n0_ := Aside0.mk (Kd.R_below (by (with_reducible repeat (first | apply Kd.R_alloc | apply Kd.R_drewN | apply Kd.R_drew)); exact HO_9.out) hb); have n1_ := Aside0.mk (Kd.R_lower ho0 (below_size (by repeat (first | (with_reducible first | exact HB.out | apply below_alloc | apply pw_below_drewN | apply below_drew1) | exact HB.out)))); have n2_ := Aside0.mk (Kd.C_below (by repeat (first | (with_reducible exact HR132.out) | (with_reducible refine Kd.C_alloc ?_ _) | (with_reducible refine Kd.C_drewN ?_ _) | (with_reducible refine Kd.C_drew ?_) | exact HR132.out)) hb); have n3_ := Aside0.mk (below_step (by repeat (first | (with_reducible first | exact HB.out | apply below_alloc | apply pw_below_drewN | apply below_drew1) | exact HB.out)) hb); clear HO_9; clear HR132; clear HB; have HO_9 := n0_; have HO136 := n1_; have HR132 := n2_; have HB := n3_; clear n0_ n1_ n2_ n3_; (try clear hb); (try clear hb2); (try clear hk); (try clear hi); (try clear ho0)))
                                        go_ret
                                        exact ⟨by first | rfl | (simp [errW_none, errW_some] <;> rfl) | (simp only [← hji49]; first | rfl | (simp [errW_none, errW_some] <;> rfl)) | (simp [*, errW_none, errW_some] <;> rfl), by repeat (first | (with_reducible first | exact HB.out | apply below_alloc | apply pw_below_drewN | apply below_drew1) | exact HB.out)⟩
                                  · rw [if_neg c51] at H
                                    exact absurd H (by simp)
                                · rw [if_neg c50] at H
                                  exact absurd H (by simp)
                            · rw [if_neg c47] at H
                              have c47b0 : decide (0 < (x9_2.length : Int)) = false := decide_eq_false c47
                              have c47b1 : decide (0 < x9_2.length) = false := decide_eq_false (by omega)
                              clear c47
                              (first | rw [c47b0] | (simp only [i64_w, i32_w]; rw [c47b0]) | skip)
                              have H' := Aside0.mk H
                              clear H
                              obtain rfl : x9_2 = [] := List.length_eq_zero_iff.1 (by simpa using c47b1)
                              go_wp2
                              go_meet
                              case rel => exact ⟨_, H', ⟨by have := HJ4.out; have := HK2.out; have := HK3.out; have := HJ31.out; first | omega | exact Nat.le_refl _⟩, ⟨by repeat (first | (with_reducible first | exact HB.out | apply below_alloc | apply pw_below_drewN | apply below_drew1) | exact HB.out)⟩⟩
                          case rest =>
                            clear HC46
                            try clear c1
                            try clear p1
                            try clear q1
                            try clear hx1
                            try clear c2
                            try clear p2
                            try clear c3
                            try clear c4
                            try clear c5
                            try clear q5
                            try clear c6
                            try clear c6b0
                            try clear c6b1
                            try clear p6
                            try clear q6
                            try clear c7
                            try clear c7b0
                            try clear c7b1
                            try clear c8
                            try clear c9
                            try clear c10
                            try clear p10
                            try clear q10
                            try clear hx10
                            try clear c11
                            try clear c11b0
                            try clear p11
                            try clear q11
                            try clear hx11
                            try clear c12
                            try clear c12b0
                            try clear c14
                            try clear c18
                            try clear c18b0
                            try clear c19
                            try clear c19b0
                            try clear c20
                            try clear c20b0
                            try clear c20b1
                            try clear c24
                            try clear c24b0
                            try clear c24b1
                            try clear c25
                            try clear c26
                            try clear c28
                            try clear c37
                            try clear c37b0
                            try clear c37b1
                            try clear c38
                            try clear c38b0
                            try clear c38b1
                            try clear c40
                            try clear c45
                            try clear c47
                            try clear c47b0
                            try clear c47b1
                            try clear c48
                            try clear c48b0
                            try clear c48b1
                            try clear c48b2
                            try clear c50
                            try clear c50b0
                            try clear c50b1
                            try clear c51
                            try clear c51b0
                            try clear c51b1
                            try clear c53
                            try clear c53b0
                            try clear c53b1
                            try clear q54
                            try clear c56
                            try clear c56b0
                            try clear c56b1
                            try clear c57
                            try clear c57b0
                            try clear c57b1
                            try clear q58
                            try clear q61
                            try clear p64
                            try clear q64
                            try clear hx102_0
                            try clear hx109_0
                            try clear hx111_0
                            try clear p1
                            try clear p10
                            try clear p102
                            try clear p109
                            try clear p11
                            try clear p111
                            try clear p2
                            try clear p6
                            try clear q1
                            try clear q10
                            try clear q102
                            try clear q109
                            try clear q11
                            try clear q111
                            try clear q54
                            try clear q58
                            try clear q61
                            try clear q64
                            obtain ⟨kq, HA, HJ45, HB⟩ := hcut
                            cases kq with
                            | zero => exact absurd HA.out (by simp [icehouselaw02_PackBack.j4])
                            | succ kj45 =>
                              have H := HA.out
                              clear HA
                              simp only [icehouselaw02_PackBack.j4] at H
                              replace H := Option.bind_eq_some_iff.mp H
                              obtain ⟨⟨t137, t138⟩, A660, H⟩ := H
                              replace H : (icehouselaw02_PackBack.l2 kj45 l2 t137 t138 ([] : List Int) 0) = some r := H
                              have A66 := Aside0.mk A660
                              clear A660
                              have H' := Aside0.mk H
                              clear H
                              go_wp2_with (first | ((with_reducible refine gate_callee (f := 26) rfl ?_); refine goesL_ (some 135) rfl rfl Try.func26 (by kernel_rfl) rfl #[.slice A2 l2.length c2] rfl (by (try simp only [List.map_toArray, List.map_cons, List.map_nil]); first | done | rfl | (simp only [List.length_drop, List.length_take]; rfl)) ?_; (with_reducible refine (Fp.pack_Nums.calls _ _ l2 t137 t138 _ ?side1 ?side2 A66.out).mono ?_); (case side1 => repeat (first | exact (Kd.C_below HR2.out HB.out) | (with_reducible refine Kd.C_alloc ?_ _) | (with_reducible refine Kd.C_drewN ?_ _) | (with_reducible refine Kd.C_drew ?_))); (case side2 => exact HC2.out); rintro e w67 ⟨v139, rfl, ho0, hb⟩; refine ⟨_, rfl, ?_⟩; have n0_ := Aside0.mk (Kd.R_lower ho0 (below_size (by repeat (first | (with_reducible first | exact HB.out | apply below_alloc | apply pw_below_drewN | apply below_drew1) | exact HB.out)))); have n1_ := Aside0.mk (below_step (by repeat (first | (with_reducible first | exact HB.out | apply below_alloc | apply pw_below_drewN | apply below_drew1) | exact HB.out)) hb); clear HB; have HO140 := n0_; have HB := n1_; clear n0_ n1_; (try clear hb); (try clear hb2); (try clear hk); (try clear hi); (try clear ho0)))
                              go_loopg [23, 24] kj45 (fun kq v23 v24 w' => ∃ (x23_6 : List Int) (x24_6 : Int), v24 = .int .i64 x24_6 ∧ Aside0 (icehouselaw02_PackBack.l2 kq l2 t137 t138 x23_6 x24_6 = some r) ∧ Aside0 (kq ≤ kj45) ∧ Aside0 (Kd.R (Kd.int .i64) 3 w' w.heap.size (fun _ => True) v139 t137) ∧ Aside0 (Kd.R (Kd.int .u8) 5 w' w.heap.size (fun _ => True) v23 x23_6) ∧ Aside0 (Below w.heap.size w w'))
                              case atStart => exact ⟨(([] : List Int)), (0), (by first | rfl | (simp; done) | (simp [*]; done)), H', ⟨Nat.le_refl _⟩, ⟨by (with_reducible repeat (first | apply Kd.R_alloc | apply Kd.R_drewN | apply Kd.R_drew)); exact HO140.out⟩, ⟨by first | exact Kd.R_nil _ _ _ _ _ | exact Kd.N_nil _ _ _ _ _ | exact Kd.V_nil _ _ _ _ _ | exact Kd.Q_nil _ _ _ _ _ | exact Kd.R_nil _ _ _ _ _⟩, ⟨by repeat (first | (with_reducible first | exact HB.out | apply below_alloc | apply pw_below_drewN | apply below_drew1) | exact HB.out)⟩⟩
                              case round =>
                                clear H'
                                try clear c1
                                try clear p1
                                try clear q1
                                try clear hx1
                                try clear c2
                                try clear p2
                                try clear c3
                                try clear c4
                                try clear c5
                                try clear q5
                                try clear c6
                                try clear c6b0
                                try clear c6b1
                                try clear p6
                                try clear q6
                                try clear c7
                                try clear c7b0
                                try clear c7b1
                                try clear c8
                                try clear c9
                                try clear c10
                                try clear p10
                                try clear q10
                                try clear hx10
                                try clear c11
                                try clear c11b0
                                try clear p11
                                try clear q11
                                try clear hx11
                                try clear c12
                                try clear c12b0
                                try clear c14
                                try clear c18
                                try clear c18b0
                                try clear c19
                                try clear c19b0
                                try clear c20
                                try clear c20b0
                                try clear c20b1
                                try clear c24
                                try clear c24b0
                                try clear c24b1
                                try clear c25
                                try clear c26
                                try clear c28
                                try clear c37
                                try clear c37b0
                                try clear c37b1
                                try clear c38
                                try clear c38b0
                                try clear c38b1
                                try clear c40
                                try clear c45
                                try clear c47
                                try clear c47b0
                                try clear c47b1
                                try clear c48
                                try clear c48b0
                                try clear c48b1
                                try clear c48b2
                                try clear c50
                                try clear c50b0
                                try clear c50b1
                                try clear c51
                                try clear c51b0
                                try clear c51b1
                                try clear c53
                                try clear c53b0
                                try clear c53b1
                                try clear q54
                                try clear c56
                                try clear c56b0
                                try clear c56b1
                                try clear c57
                                try clear c57b0
                                try clear c57b1
                                try clear q58
                                try clear q61
                                try clear p64
                                try clear q64
                                try clear hx102_0
                                try clear hx109_0
                                try clear hx111_0
                                try clear p1
                                try clear p10
                                try clear p102
                                try clear p109
                                try clear p11
                                try clear p111
                                try clear p2
                                try clear p6
                                try clear p64
                                try clear q1
                                try clear q10
                                try clear q102
                                try clear q109
                                try clear q11
                                try clear q111
                                try clear q5
                                try clear q54
                                try clear q58
                                try clear q6
                                try clear q61
                                try clear q64
                                obtain ⟨x23_6, x24_6, rfl, HA, HK6, HO_21, HO_23, HB⟩ := hrel
                                cases gk with
                                | zero => exact absurd HA.out (by simp [icehouselaw02_PackBack.l2])
                                | succ k6 =>
                                  have H := HA.out
                                  clear HA
                                  simp only [icehouselaw02_PackBack.l2] at H
                                  by_cases c68 : x24_6 < (t137.length : Int)
                                  · rw [if_pos c68] at H
                                    have c68b0 : decide (x24_6 < (t137.length : Int)) = true := decide_eq_true c68
                                    clear c68
                                    by_cases c69 : 0 ≤ x24_6
                                    · rw [if_pos c69] at H
                                      have c69b0 : decide (0 ≤ x24_6) = true := decide_eq_true c69
                                      clear c69
                                      replace H := Option.bind_eq_some_iff.mp H
                                      obtain ⟨t142, A700, H⟩ := H
                                      replace H : (if x23_6.length + t142.length < 140737488355328 then (icehouselaw02_PackBack.l2 k6 l2 t137 t138 (x23_6 ++ t142) (wrap64 (x24_6 + 1))) else (none)) = some r := H
                                      have A70 := Aside0.mk A700
                                      clear A700
                                      by_cases c71 : x23_6.length + t142.length < 140737488355328
                                      · rw [if_pos c71] at H
                                        have LMc71 := Aside0.mk c71
                                        clear c71
                                        obtain ⟨y145, hy145⟩ : ∃ y_ : List Int, y_ = (x23_6 ++ t142) := ⟨_, rfl⟩
                                        replace H : (icehouselaw02_PackBack.l2 k6 l2 t137 t138 y145 (wrap64 (x24_6 + 1))) = some r := by first | (rw [hy145]; with_reducible exact H) | (have H2_ := (Option.bind_some _ _).symm.trans H; rw [hy145]; with_reducible exact H2_) | (have H2_ := (Option.bind_some _ _).symm.trans H; with_reducible exact H2_) | with_reducible exact H | (rw [hy145]; exact H) | exact H
                                        have Ny145 := Aside0.mk hy145
                                        clear hy145
                                        have H' := Aside0.mk H
                                        clear H
                                        obtain ⟨Ao72, co72, eo72⟩ := Kd.R_slice HO_21.out
                                        subst eo72
                                        have p141 : 0 ≤ (x24_6 : Int) := of_decide_eq_true (by first | (with_reducible assumption) | assumption)
                                        have q141 : x24_6 < (t137.length : Int) := of_decide_eq_true (by first | (with_reducible assumption) | assumption)
                                        obtain ⟨ad141, e141, hx141_0⟩ := Kd.at_int (Kd.R_reads' HO_21.out).2.2 x24_6 p141 q141
                                        cases e141
                                        replace p141 := eq_true p141
                                        replace q141 := eq_true q141
                                        go_wp2_with (first | ((with_reducible refine gate_callee (f := 14) rfl ?_); refine goesL_ (some 149) rfl rfl Try.func14 (by kernel_rfl) rfl #[.int .i64 (rd t137 x24_6)] rfl (by (try simp only [List.map_toArray, List.map_cons, List.map_nil]); first | done | rfl | (simp only [List.length_drop, List.length_take]; rfl)) ?_; (with_reducible refine (Fp.pack_Num.calls (rd t137 x24_6) t142 _ A70.out).mono ?_); rintro e w73 ⟨v143, rfl, ho0, hb⟩; refine ⟨_, rfl, ?_⟩; have n0_ := Aside0.mk (Kd.R_below (by (with_reducible repeat (first | apply Kd.R_alloc | apply Kd.R_drewN | apply Kd.R_drew)); exact HO_21.out) hb); have n1_ := Aside0.mk (Kd.R_elder' (by (with_reducible repeat (first | apply Kd.R_alloc | apply Kd.R_drewN | apply Kd.R_drew)); exact HO_23.out) (Kd.R_base ho0) hb); have n2_ := Aside0.mk (Kd.R_lower (Kd.R_new' ho0 (Kd.R_lt (by (with_reducible repeat (first | apply Kd.R_alloc | apply Kd.R_drewN | apply Kd.R_drew)); exact HO_23.out))) (below_size (by repeat (first | (with_reducible first | exact HB.out | apply below_alloc | apply pw_below_drewN | apply below_drew1) | exact HB.out)))); have n3_ := Aside0.mk (below_step (by repeat (first | (with_reducible first | exact HB.out | apply below_alloc | apply pw_below_drewN | apply below_drew1) | exact HB.out)) hb); clear HO_21; clear HO_23; clear HB; have HO_21 := n0_; have HO_23 := n1_; have HO144 := n2_; have HB := n3_; clear n0_ n1_ n2_ n3_; (try clear hb); (try clear hb2); (try clear hk); (try clear hi); (try clear ho0); obtain ⟨Ao75, co75, eo75⟩ := Kd.R_slice HO144.out; subst eo75) | ((with_reducible refine gate_builtin (b := .append) (xs := #[.tmp 144, .tmp 149]) rfl ?_); (try (refine gate_guard (by rfl) ?_; dsimp only)); at_builtin; refine Kd.R_append_rows (Kd.int .u8) (w0 := w) w.heap.size rfl (.tmp 144) (.tmp 149) 22 5 (.int .u8 0) 1 rfl Try.underlying22 info5 rfl (by decide) (by omega) u23 x23_6 t142 _ _ _ (fun k_ => some k_ ≠ (.slice Ao75 t142.length co75 : Value).ownBlock) (fun _ => False) rfl rfl ?aO ?aR (fun _ _ h => h) (fun _ h => h.elim) ?aF ?aB ?aS ?aL ?_; (case aR => repeat (first | exact (Kd.R_reads' HO144.out).2.2 | (with_reducible refine Kd.C_alloc ?_ _) | (with_reducible refine Kd.C_drewN ?_ _) | (with_reducible refine Kd.C_drew ?_))); (case aB => exact (by repeat (first | (with_reducible first | exact HB.out | apply below_alloc | apply pw_below_drewN | apply below_drew1) | exact HB.out))); (case aF => exact (fun k_ hk => Kd.fresh' (Kd.R_lt (by (with_reducible repeat (first | apply Kd.R_alloc | apply Kd.R_drewN | apply Kd.R_drew)); exact HO144.out)) k_ hk)); (case aO => exact (by (with_reducible repeat (first | apply Kd.R_alloc | apply Kd.R_drewN | apply Kd.R_drew)); exact Kd.R_mono HO_23.out (fun _ hk => hk.2))); (case aS => exact (below_size (by repeat (first | (with_reducible first | exact HB.out | apply below_alloc | apply pw_below_drewN | apply below_drew1) | exact HB.out)))); (case aL => have := LMc71.out; omega); intro v146 w74 ho hb hg hat; rw [← Ny145.out] at ho; have n0_ := Aside0.mk (Kd.R_over' (by (with_reducible repeat (first | apply Kd.R_alloc | apply Kd.R_drewN | apply Kd.R_drew)); exact HO_21.out) (Kd.R_typed (by (with_reducible repeat (first | apply Kd.R_alloc | apply Kd.R_drewN | apply Kd.R_drew)); exact HO_23.out)) (by decide) hg); have n1_ := Aside0.mk (Kd.R_after (ok := (fun _ => True)) (by (with_reducible repeat (first | apply Kd.R_alloc | apply Kd.R_drewN | apply Kd.R_drew)); exact HO144.out) hg hat); have n2_ := Aside0.mk (hb); have n3_ := Aside0.mk (ho); clear HO_21; clear HO144; clear HB; clear HO_23; have HO_21 := n0_; have HO144 := n1_; have HB := n2_; have HO147 := n3_; clear n0_ n1_ n2_ n3_; clear ho hb hg hat))
                                        go_roundg k6
                                        case measure => have := HJ4.out; have := HK2.out; have := HK3.out; have := HJ31.out; have := HJ45.out; have := HK6.out; omega
                                        case rel => exact ⟨(y145), (wrap64 (x24_6 + 1)), (by first | rfl | (simp; done) | (simp [*]; done)), H', ⟨by have := HJ4.out; have := HK2.out; have := HK3.out; have := HJ31.out; have := HJ45.out; have := HK6.out; omega⟩, ⟨by (with_reducible repeat (first | apply Kd.R_alloc | apply Kd.R_drewN | apply Kd.R_drew)); exact HO_21.out⟩, ⟨by (with_reducible repeat (first | apply Kd.R_alloc | apply Kd.R_drewN | apply Kd.R_drew)); exact Kd.R_mono HO147.out (fun _ hk => trivial)⟩, ⟨by repeat (first | (with_reducible first | exact HB.out | apply below_alloc | apply pw_below_drewN | apply below_drew1) | exact HB.out)⟩⟩
                                      · rw [if_neg c71] at H
                                        exact absurd H (by simp)
                                    · rw [if_neg c69] at H
                                      exact absurd H (by simp)
                                  · rw [if_neg c68] at H
                                    have c68b0 : decide (x24_6 < (t137.length : Int)) = false := decide_eq_false c68
                                    clear c68
                                    by_cases c76 : t138 = 0
                                    · rw [if_pos c76] at H
                                      have c76b0 : (t138 == 0) = true := beq_iff_eq.mpr c76
                                      have c76b1 : (t138 != 0) = false := bne_eq_false_iff_eq.mpr c76
                                      clear c76
                                      replace H := Option.bind_eq_some_iff.mp H
                                      obtain ⟨t148, A770, H⟩ := H
                                      replace H : (if t148 = true then ((Fp.known.f).bind fun t149 => (some t149)) else (some false)) = some r := H
                                      have A77 := Aside0.mk A770
                                      clear A770
                                      by_cases c78 : t148 = true
                                      · subst c78
                                        have H1 : ((Fp.known.f).bind fun t149 => (some t149)) = some r := by rw [if_pos rfl] at H; exact H
                                        clear H
                                        have H := H1
                                        clear H1
                                        replace H := Option.bind_eq_some_iff.mp H
                                        obtain ⟨t149, A790, H⟩ := H
                                        replace H : (some t149) = some r := H
                                        have A79 := Aside0.mk A790
                                        clear A790
                                        obtain rfl := Option.some.inj H
                                        obtain ⟨Ao80, co80, eo80⟩ := Kd.R_slice HO_21.out
                                        subst eo80
                                        obtain ⟨Ao81, co81, eo81⟩ := Kd.R_slice HO_23.out
                                        subst eo81
                                        go_wp2_with (first | (go_at_call 13; (with_reducible refine (QR.icehouseref00_Same.calls _ _ x23_6 _ _ l2 true _ ?side1 ?side2 ?side3 ?side4 A77.out).mono ?_); (case side1 => repeat (first | exact (Kd.R_reads' HO_23.out).2.2 | (with_reducible refine Kd.C_alloc ?_ _) | (with_reducible refine Kd.C_drewN ?_ _) | (with_reducible refine Kd.C_drew ?_))); (case side2 => exact (Kd.R_reads' HO_23.out).2.1); (case side3 => repeat (first | exact (Kd.C_below HR2.out HB.out) | (with_reducible refine Kd.C_alloc ?_ _) | (with_reducible refine Kd.C_drewN ?_ _) | (with_reducible refine Kd.C_drew ?_))); (case side4 => exact HC2.out); rintro e w' ⟨rfl, ⟨nd, rfl⟩⟩) | (go_at_call 10; (with_reducible refine (Fp.known.calls  t149 _ A79.out).mono ?_); rintro e w82 ⟨rfl, hb⟩; have n0_ := Aside0.mk (Kd.R_below (by (with_reducible repeat (first | apply Kd.R_alloc | apply Kd.R_drewN | apply Kd.R_drew)); exact HO_21.out) hb); have n1_ := Aside0.mk (Kd.R_below (by (with_reducible repeat (first | apply Kd.R_alloc | apply Kd.R_drewN | apply Kd.R_drew)); exact HO_23.out) hb); have n2_ := Aside0.mk (below_step (by repeat (first | (with_reducible first | exact HB.out | apply below_alloc | apply pw_below_drewN | apply below_drew1) | exact HB.out)) hb); clear HO_21; clear HO_23; clear HB; have HO_21 := n0_; have HO_23 := n1_; have HB := n2_; clear n0_ n1_ n2_; (try clear hb); (try clear hb2); (try clear hk); (try clear hi)))
                                        go_ret
                                        exact ⟨by first | rfl | (simp [errW_none, errW_some] <;> rfl) | (simp [*, errW_none, errW_some] <;> rfl), by repeat (first | (with_reducible first | exact HB.out | apply below_alloc | apply pw_below_drewN | apply below_drew1) | exact HB.out)⟩
                                      · replace c78 := Bool.eq_false_iff.mpr c78
                                        subst c78
                                        have H1 : (some false) = some r := by rw [if_neg (show ¬ (false = true) by decide)] at H; exact H
                                        clear H
                                        have H := H1
                                        clear H1
                                        obtain rfl := Option.some.inj H
                                        obtain ⟨Ao83, co83, eo83⟩ := Kd.R_slice HO_21.out
                                        subst eo83
                                        obtain ⟨Ao84, co84, eo84⟩ := Kd.R_slice HO_23.out
                                        subst eo84
                                        go_wp2_with (first | (go_at_call 13; (with_reducible refine (QR.icehouseref00_Same.calls _ _ x23_6 _ _ l2 false _ ?side1 ?side2 ?side3 ?side4 A77.out).mono ?_); (case side1 => repeat (first | exact (Kd.R_reads' HO_23.out).2.2 | (with_reducible refine Kd.C_alloc ?_ _) | (with_reducible refine Kd.C_drewN ?_ _) | (with_reducible refine Kd.C_drew ?_))); (case side2 => exact (Kd.R_reads' HO_23.out).2.1); (case side3 => repeat (first | exact (Kd.C_below HR2.out HB.out) | (with_reducible refine Kd.C_alloc ?_ _) | (with_reducible refine Kd.C_drewN ?_ _) | (with_reducible refine Kd.C_drew ?_))); (case side4 => exact HC2.out); rintro e w' ⟨rfl, ⟨nd, rfl⟩⟩))
                                        go_ret
                                        exact ⟨by first | rfl | (simp [errW_none, errW_some] <;> rfl) | (simp [*, errW_none, errW_some] <;> rfl), by repeat (first | (with_reducible first | exact HB.out | apply below_alloc | apply pw_below_drewN | apply below_drew1) | exact HB.out)⟩
                                    · rw [if_neg c76] at H
                                      have c76b0 : (t138 == 0) = false := beq_eq_false_iff_ne.mpr c76
                                      have c76b1 : (t138 != 0) = true := bne_iff_ne.mpr c76
                                      replace H := Option.bind_eq_some_iff.mp H
                                      obtain ⟨t150, A850, H⟩ := H
                                      replace H : (some t150) = some r := H
                                      have A85 := Aside0.mk A850
                                      clear A850
                                      obtain rfl := Option.some.inj H
                                      obtain ⟨Ao86, co86, eo86⟩ := Kd.R_slice HO_21.out
                                      subst eo86
                                      go_wp2_with (first | (go_at_call 10; (with_reducible refine (Fp.known.calls  t150 _ A85.out).mono ?_); rintro e w87 ⟨rfl, hb⟩; have n0_ := Aside0.mk (Kd.R_below (by (with_reducible repeat (first | apply Kd.R_alloc | apply Kd.R_drewN | apply Kd.R_drew)); exact HO_21.out) hb); have n1_ := Aside0.mk (Kd.R_below (by (with_reducible repeat (first | apply Kd.R_alloc | apply Kd.R_drewN | apply Kd.R_drew)); exact HO_23.out) hb); have n2_ := Aside0.mk (below_step (by repeat (first | (with_reducible first | exact HB.out | apply below_alloc | apply pw_below_drewN | apply below_drew1) | exact HB.out)) hb); clear HO_21; clear HO_23; clear HB; have HO_21 := n0_; have HO_23 := n1_; have HB := n2_; clear n0_ n1_ n2_; (try clear hb); (try clear hb2); (try clear hk); (try clear hi)))
                                      go_ret
                                      exact ⟨by first | rfl | (simp [errW_none, errW_some] <;> rfl) | (simp [*, errW_none, errW_some] <;> rfl), by repeat (first | (with_reducible first | exact HB.out | apply below_alloc | apply pw_below_drewN | apply below_drew1) | exact HB.out)⟩


end Go.Proofs.Ytfhgclojfjiblaa.QB
