/- Written by a program of this session over the kit's print: functions and their contracts. -/
import Derived.Test.YthaoiamgkpkcbaaDoorYMsgsWrites15

namespace Go.Proofs.YthaoiamgkpkcbaaDoor.QB
open Go.Proofs.YthaoiamgkpkcbaaDoor.QL
open Go.RowKit Go.Proofs.YthaoiamgkpkcbaaDoorW.PrintWords Go.Proofs.YthaoiamgkpkcbaaDoorW.PrintLast Go.Proofs.YthaoiamgkpkcbaaDoorW.PrintMore
attribute [local go_sem] max2_int min2_int max_two min_two max_three min_three max_four min_four   -- for this text's walks alone
set_option linter.unusedVariables false
set_option linter.unusedSimpArgs false
/-! ### icehouseref12_Bytes: function 13 -/
mutual
def icehouseref12_Bytes.j0 : Nat → List Int → Int → Int → Int → Int → Int → Int → Bool → ByteArray → Int → Int → Int → Bool → List Int → List (S28) → List Int → Int → Int → Option (List Int × Int)
  | 0, _, _, _, _, _, _, _, _, _, _, _, _, _, _, _, _, _, _ => none
  | k + 1, x4, x102000, x102001, x102002, x102003, x102004, x102005, x102006, x102007, x102008, x102009, x102010, x102011, x102012, x102013, x102014, x102015, x102016 => icehouseref12_Bytes.l0 k x4 ([] : List Int) 0 x102000 x102001 x102002 x102003 x102004 x102005 x102006 x102007 x102008 x102009 x102010 x102011 x102012 x102013 x102014 x102015 x102016
def icehouseref12_Bytes.l0 : Nat → List Int → List Int → Int → Int → Int → Int → Int → Int → Int → Bool → ByteArray → Int → Int → Int → Bool → List Int → List (S28) → List Int → Int → Int → Option (List Int × Int)
  | 0, _, _, _, _, _, _, _, _, _, _, _, _, _, _, _, _, _, _, _, _ => none
  | k + 1, x4, x5, x6, x102000, x102001, x102002, x102003, x102004, x102005, x102006, x102007, x102008, x102009, x102010, x102011, x102012, x102013, x102014, x102015, x102016 => if x6 < (x4.length : Int) then (if 0 ≤ x6 then ((QR.icehouseref02_Num.f k (rd x4 x6)).bind fun t111 => (if x5.length + t111.length < 140737488355328 then (icehouseref12_Bytes.l0 k x4 (x5 ++ t111) (wrap64 (x6 + 1)) x102000 x102001 x102002 x102003 x102004 x102005 x102006 x102007 x102008 x102009 x102010 x102011 x102012 x102013 x102014 x102015 x102016) else (none))) else (none)) else ((QR.icehouseref12_Has.f k x102000 (⟨#[102]⟩ : ByteArray)).bind fun t117 => (if t117 = true then (if x102006 = true then (if x5.length < 140737488355328 then (icehouseref12_Bytes.j2 k (x5 ++ [1]) x102000 x102001 x102002 x102003 x102004 x102005 x102006 x102007 x102008 x102009 x102010 x102011 x102012 x102013 x102014 x102015 x102016) else (none)) else (if x5.length < 140737488355328 then (icehouseref12_Bytes.j2 k (x5 ++ [0]) x102000 x102001 x102002 x102003 x102004 x102005 x102006 x102007 x102008 x102009 x102010 x102011 x102012 x102013 x102014 x102015 x102016) else (none))) else (icehouseref12_Bytes.j2 k x5 x102000 x102001 x102002 x102003 x102004 x102005 x102006 x102007 x102008 x102009 x102010 x102011 x102012 x102013 x102014 x102015 x102016)))
def icehouseref12_Bytes.j2 : Nat → List Int → Int → Int → Int → Int → Int → Int → Bool → ByteArray → Int → Int → Int → Bool → List Int → List (S28) → List Int → Int → Int → Option (List Int × Int)
  | 0, _, _, _, _, _, _, _, _, _, _, _, _, _, _, _, _, _, _ => none
  | k + 1, x5, x102000, x102001, x102002, x102003, x102004, x102005, x102006, x102007, x102008, x102009, x102010, x102011, x102012, x102013, x102014, x102015, x102016 => (QR.icehouseref12_Has.f k x102000 (⟨#[101]⟩ : ByteArray)).bind fun t124 => (if t124 = true then ((Fb.icehouseref03_Bytes.f x102007 x102008 x102009 x102010 x102011 x102012).bind fun bt125 => (if x5.length + bt125.1.length < 140737488355328 then (icehouseref12_Bytes.j3 k (x5 ++ bt125.1) x102000 x102001 x102002 x102003 x102004 x102005 x102006 x102007 x102008 x102009 x102010 x102011 x102012 x102013 x102014 x102015 x102016) else (none))) else (icehouseref12_Bytes.j3 k x5 x102000 x102001 x102002 x102003 x102004 x102005 x102006 x102007 x102008 x102009 x102010 x102011 x102012 x102013 x102014 x102015 x102016))
def icehouseref12_Bytes.j3 : Nat → List Int → Int → Int → Int → Int → Int → Int → Bool → ByteArray → Int → Int → Int → Bool → List Int → List (S28) → List Int → Int → Int → Option (List Int × Int)
  | 0, _, _, _, _, _, _, _, _, _, _, _, _, _, _, _, _, _, _ => none
  | k + 1, x5, x102000, x102001, x102002, x102003, x102004, x102005, x102006, x102007, x102008, x102009, x102010, x102011, x102012, x102013, x102014, x102015, x102016 => (QR.icehouseref12_Has.f k x102000 (⟨#[108]⟩ : ByteArray)).bind fun t132 => (if t132 = true then ((QR.icehouseref02_Num.f k (x102013.length : Int)).bind fun t133 => (if x5.length + t133.length < 140737488355328 then (icehouseref12_Bytes.l1 k (x5 ++ t133) 0 x102000 x102001 x102002 x102003 x102004 x102005 x102006 x102007 x102008 x102009 x102010 x102011 x102012 x102013 x102014 x102015 x102016) else (none))) else (icehouseref12_Bytes.j5 k x5 x102000 x102001 x102002 x102003 x102004 x102005 x102006 x102007 x102008 x102009 x102010 x102011 x102012 x102013 x102014 x102015 x102016))
def icehouseref12_Bytes.j5 : Nat → List Int → Int → Int → Int → Int → Int → Int → Bool → ByteArray → Int → Int → Int → Bool → List Int → List (S28) → List Int → Int → Int → Option (List Int × Int)
  | 0, _, _, _, _, _, _, _, _, _, _, _, _, _, _, _, _, _, _ => none
  | k + 1, x5, x102000, x102001, x102002, x102003, x102004, x102005, x102006, x102007, x102008, x102009, x102010, x102011, x102012, x102013, x102014, x102015, x102016 => (QR.icehouseref12_Has.f k x102000 (⟨#[114]⟩ : ByteArray)).bind fun t147 => (if t147 = true then ((some (([x102015, x102016, (x102014.length : Int)] : List Int) : List Int)).bind fun y148 => (if y148.length + x102014.length < 17592186044416 then (icehouseref12_Bytes.l2 k x5 (y148 ++ x102014) 0) else (none))) else (some (x5, 0)))
def icehouseref12_Bytes.l2 : Nat → List Int → List Int → Int → Option (List Int × Int)
  | 0, _, _, _ => none
  | k + 1, x5, x13, x14 => if x14 < (x13.length : Int) then (if 0 ≤ x14 then ((QR.icehouseref02_Num.f k (rd x13 x14)).bind fun t155 => (if x5.length + t155.length < 140737488355328 then (icehouseref12_Bytes.l2 k (x5 ++ t155) x13 (wrap64 (x14 + 1))) else (none))) else (none)) else (some (x5, 0))
def icehouseref12_Bytes.l1 : Nat → List Int → Int → Int → Int → Int → Int → Int → Int → Bool → ByteArray → Int → Int → Int → Bool → List Int → List (S28) → List Int → Int → Int → Option (List Int × Int)
  | 0, _, _, _, _, _, _, _, _, _, _, _, _, _, _, _, _, _, _, _ => none
  | k + 1, x5, x10, x102000, x102001, x102002, x102003, x102004, x102005, x102006, x102007, x102008, x102009, x102010, x102011, x102012, x102013, x102014, x102015, x102016 => if x10 < (x102013.length : Int) then (if 0 ≤ x10 then ((Fb.icehouseref03_Bytes.f ((rd_T28 x102013 x10).f0) ((rd_T28 x102013 x10).f1.f0) ((rd_T28 x102013 x10).f1.f1) ((rd_T28 x102013 x10).f1.f2) ((rd_T28 x102013 x10).f2.f0) ((rd_T28 x102013 x10).f2.f1)).bind fun bt140 => (if x5.length + bt140.1.length < 140737488355328 then (icehouseref12_Bytes.l1 k (x5 ++ bt140.1) (wrap64 (x10 + 1)) x102000 x102001 x102002 x102003 x102004 x102005 x102006 x102007 x102008 x102009 x102010 x102011 x102012 x102013 x102014 x102015 x102016) else (none))) else (none)) else (icehouseref12_Bytes.j5 k x5 x102000 x102001 x102002 x102003 x102004 x102005 x102006 x102007 x102008 x102009 x102010 x102011 x102012 x102013 x102014 x102015 x102016)
end
def icehouseref12_Bytes.f (k : Nat) (a0_0 : Int) (a0_1 : Int) (a0_2 : Int) (a0_3 : Int) (a0_4 : Int) (a0_5 : Int) (a0_6 : Bool) (a0_7 : ByteArray) (a0_8 : Int) (a0_9 : Int) (a0_10 : Int) (a0_11 : Bool) (l0_12 : List Int) (l0_13 : List (S28)) (l0_14 : List Int) (a0_15 : Int) (a0_16 : Int) : Option (List Int × Int) := (Fb.icehouseref12_Check.f a0_0 a0_1 a0_2 a0_3 a0_4 a0_5 a0_6 a0_7 a0_8 a0_9 a0_10 a0_11 l0_12 l0_13 l0_14 a0_15 a0_16).bind fun t102 => (if t102 = 0 then ((some (([a0_0, a0_1, a0_2, a0_3, a0_4] : List Int) : List Int)).bind fun y103 => ((QR.icehouseref12_Has.f k a0_0 (⟨#[110]⟩ : ByteArray)).bind fun t106 => (if t106 = true then (if y103.length < 17592186044416 then (icehouseref12_Bytes.j0 k (y103 ++ [a0_5]) a0_0 a0_1 a0_2 a0_3 a0_4 a0_5 a0_6 a0_7 a0_8 a0_9 a0_10 a0_11 l0_12 l0_13 l0_14 a0_15 a0_16) else (none)) else (icehouseref12_Bytes.j0 k y103 a0_0 a0_1 a0_2 a0_3 a0_4 a0_5 a0_6 a0_7 a0_8 a0_9 a0_10 a0_11 l0_12 l0_13 l0_14 a0_15 a0_16)))) else (some (([] : List Int), 2)))
theorem icehouseref12_Bytes.mono_l : ∀ k, (∀ y0 y1 y2 y3 y4 y5 y6 y7 y8 y9 y10 y11 y12 y13 y14 y15 y16 y17, LeO (icehouseref12_Bytes.j0 k y0 y1 y2 y3 y4 y5 y6 y7 y8 y9 y10 y11 y12 y13 y14 y15 y16 y17) (icehouseref12_Bytes.j0 (k + 1) y0 y1 y2 y3 y4 y5 y6 y7 y8 y9 y10 y11 y12 y13 y14 y15 y16 y17)) ∧ (∀ y0 y1 y2 y3 y4 y5 y6 y7 y8 y9 y10 y11 y12 y13 y14 y15 y16 y17 y18 y19, LeO (icehouseref12_Bytes.l0 k y0 y1 y2 y3 y4 y5 y6 y7 y8 y9 y10 y11 y12 y13 y14 y15 y16 y17 y18 y19) (icehouseref12_Bytes.l0 (k + 1) y0 y1 y2 y3 y4 y5 y6 y7 y8 y9 y10 y11 y12 y13 y14 y15 y16 y17 y18 y19)) ∧ (∀ y0 y1 y2 y3 y4 y5 y6 y7 y8 y9 y10 y11 y12 y13 y14 y15 y16 y17, LeO (icehouseref12_Bytes.j2 k y0 y1 y2 y3 y4 y5 y6 y7 y8 y9 y10 y11 y12 y13 y14 y15 y16 y17) (icehouseref12_Bytes.j2 (k + 1) y0 y1 y2 y3 y4 y5 y6 y7 y8 y9 y10 y11 y12 y13 y14 y15 y16 y17)) ∧ (∀ y0 y1 y2 y3 y4 y5 y6 y7 y8 y9 y10 y11 y12 y13 y14 y15 y16 y17, LeO (icehouseref12_Bytes.j3 k y0 y1 y2 y3 y4 y5 y6 y7 y8 y9 y10 y11 y12 y13 y14 y15 y16 y17) (icehouseref12_Bytes.j3 (k + 1) y0 y1 y2 y3 y4 y5 y6 y7 y8 y9 y10 y11 y12 y13 y14 y15 y16 y17)) ∧ (∀ y0 y1 y2 y3 y4 y5 y6 y7 y8 y9 y10 y11 y12 y13 y14 y15 y16 y17, LeO (icehouseref12_Bytes.j5 k y0 y1 y2 y3 y4 y5 y6 y7 y8 y9 y10 y11 y12 y13 y14 y15 y16 y17) (icehouseref12_Bytes.j5 (k + 1) y0 y1 y2 y3 y4 y5 y6 y7 y8 y9 y10 y11 y12 y13 y14 y15 y16 y17)) ∧ (∀ y0 y1 y2, LeO (icehouseref12_Bytes.l2 k y0 y1 y2) (icehouseref12_Bytes.l2 (k + 1) y0 y1 y2)) ∧ (∀ y0 y1 y2 y3 y4 y5 y6 y7 y8 y9 y10 y11 y12 y13 y14 y15 y16 y17 y18, LeO (icehouseref12_Bytes.l1 k y0 y1 y2 y3 y4 y5 y6 y7 y8 y9 y10 y11 y12 y13 y14 y15 y16 y17 y18) (icehouseref12_Bytes.l1 (k + 1) y0 y1 y2 y3 y4 y5 y6 y7 y8 y9 y10 y11 y12 y13 y14 y15 y16 y17 y18))
  | 0 => ⟨fun _ _ _ _ _ _ _ _ _ _ _ _ _ _ _ _ _ _ r h => by simp [icehouseref12_Bytes.j0] at h, fun _ _ _ _ _ _ _ _ _ _ _ _ _ _ _ _ _ _ _ _ r h => by simp [icehouseref12_Bytes.l0] at h, fun _ _ _ _ _ _ _ _ _ _ _ _ _ _ _ _ _ _ r h => by simp [icehouseref12_Bytes.j2] at h, fun _ _ _ _ _ _ _ _ _ _ _ _ _ _ _ _ _ _ r h => by simp [icehouseref12_Bytes.j3] at h, fun _ _ _ _ _ _ _ _ _ _ _ _ _ _ _ _ _ _ r h => by simp [icehouseref12_Bytes.j5] at h, fun _ _ _ r h => by simp [icehouseref12_Bytes.l2] at h, fun _ _ _ _ _ _ _ _ _ _ _ _ _ _ _ _ _ _ _ r h => by simp [icehouseref12_Bytes.l1] at h⟩
  | k + 1 => by
    obtain ⟨ih0, ih1, ih2, ih3, ih4, ih5, ih6⟩ := icehouseref12_Bytes.mono_l k
    refine ⟨?_, ?_, ?_, ?_, ?_, ?_, ?_⟩
    · intro y0 y1 y2 y3 y4 y5 y6 y7 y8 y9 y10 y11 y12 y13 y14 y15 y16 y17
      unfold icehouseref12_Bytes.j0
      repeat' first
      | (with_reducible exact ih0 _ _ _ _ _ _ _ _ _ _ _ _ _ _ _ _ _ _)
      | (with_reducible exact ih1 _ _ _ _ _ _ _ _ _ _ _ _ _ _ _ _ _ _ _ _)
      | (with_reducible exact ih2 _ _ _ _ _ _ _ _ _ _ _ _ _ _ _ _ _ _)
      | (with_reducible exact ih3 _ _ _ _ _ _ _ _ _ _ _ _ _ _ _ _ _ _)
      | (with_reducible exact ih4 _ _ _ _ _ _ _ _ _ _ _ _ _ _ _ _ _ _)
      | (with_reducible exact ih5 _ _ _)
      | (with_reducible exact ih6 _ _ _ _ _ _ _ _ _ _ _ _ _ _ _ _ _ _ _)
      | (with_reducible exact QR.icehouseref02_Num.mono _ _)
      | (with_reducible exact QR.icehouseref12_Has.mono _ _ _)
      | (with_reducible exact LeO.refl _)
      | (with_reducible exact LeO.none _)
      | (with_reducible refine LeO.ite ?_ ?_)
      | (with_reducible refine LeO.bind ?_ (fun _ => ?_))
      | exact ih0 _ _ _ _ _ _ _ _ _ _ _ _ _ _ _ _ _ _
      | exact ih1 _ _ _ _ _ _ _ _ _ _ _ _ _ _ _ _ _ _ _ _
      | exact ih2 _ _ _ _ _ _ _ _ _ _ _ _ _ _ _ _ _ _
      | exact ih3 _ _ _ _ _ _ _ _ _ _ _ _ _ _ _ _ _ _
      | exact ih4 _ _ _ _ _ _ _ _ _ _ _ _ _ _ _ _ _ _
      | exact ih5 _ _ _
      | exact ih6 _ _ _ _ _ _ _ _ _ _ _ _ _ _ _ _ _ _ _
      | exact QR.icehouseref02_Num.mono _ _
      | exact QR.icehouseref12_Has.mono _ _ _
      | exact LeO.none _
      | refine LeO.ite ?_ ?_
      | refine LeO.bind ?_ (fun _ => ?_)
    · intro y0 y1 y2 y3 y4 y5 y6 y7 y8 y9 y10 y11 y12 y13 y14 y15 y16 y17 y18 y19
      unfold icehouseref12_Bytes.l0
      repeat' first
      | (with_reducible exact ih0 _ _ _ _ _ _ _ _ _ _ _ _ _ _ _ _ _ _)
      | (with_reducible exact ih1 _ _ _ _ _ _ _ _ _ _ _ _ _ _ _ _ _ _ _ _)
      | (with_reducible exact ih2 _ _ _ _ _ _ _ _ _ _ _ _ _ _ _ _ _ _)
      | (with_reducible exact ih3 _ _ _ _ _ _ _ _ _ _ _ _ _ _ _ _ _ _)
      | (with_reducible exact ih4 _ _ _ _ _ _ _ _ _ _ _ _ _ _ _ _ _ _)
      | (with_reducible exact ih5 _ _ _)
      | (with_reducible exact ih6 _ _ _ _ _ _ _ _ _ _ _ _ _ _ _ _ _ _ _)
      | (with_reducible exact QR.icehouseref02_Num.mono _ _)
      | (with_reducible exact QR.icehouseref12_Has.mono _ _ _)
      | (with_reducible exact LeO.refl _)
      | (with_reducible exact LeO.none _)
      | (with_reducible refine LeO.ite ?_ ?_)
      | (with_reducible refine LeO.bind ?_ (fun _ => ?_))
      | exact ih0 _ _ _ _ _ _ _ _ _ _ _ _ _ _ _ _ _ _
      | exact ih1 _ _ _ _ _ _ _ _ _ _ _ _ _ _ _ _ _ _ _ _
      | exact ih2 _ _ _ _ _ _ _ _ _ _ _ _ _ _ _ _ _ _
      | exact ih3 _ _ _ _ _ _ _ _ _ _ _ _ _ _ _ _ _ _
      | exact ih4 _ _ _ _ _ _ _ _ _ _ _ _ _ _ _ _ _ _
      | exact ih5 _ _ _
      | exact ih6 _ _ _ _ _ _ _ _ _ _ _ _ _ _ _ _ _ _ _
      | exact QR.icehouseref02_Num.mono _ _
      | exact QR.icehouseref12_Has.mono _ _ _
      | exact LeO.none _
      | refine LeO.ite ?_ ?_
      | refine LeO.bind ?_ (fun _ => ?_)
    · intro y0 y1 y2 y3 y4 y5 y6 y7 y8 y9 y10 y11 y12 y13 y14 y15 y16 y17
      unfold icehouseref12_Bytes.j2
      repeat' first
      | (with_reducible exact ih0 _ _ _ _ _ _ _ _ _ _ _ _ _ _ _ _ _ _)
      | (with_reducible exact ih1 _ _ _ _ _ _ _ _ _ _ _ _ _ _ _ _ _ _ _ _)
      | (with_reducible exact ih2 _ _ _ _ _ _ _ _ _ _ _ _ _ _ _ _ _ _)
      | (with_reducible exact ih3 _ _ _ _ _ _ _ _ _ _ _ _ _ _ _ _ _ _)
      | (with_reducible exact ih4 _ _ _ _ _ _ _ _ _ _ _ _ _ _ _ _ _ _)
      | (with_reducible exact ih5 _ _ _)
      | (with_reducible exact ih6 _ _ _ _ _ _ _ _ _ _ _ _ _ _ _ _ _ _ _)
      | (with_reducible exact QR.icehouseref02_Num.mono _ _)
      | (with_reducible exact QR.icehouseref12_Has.mono _ _ _)
      | (with_reducible exact LeO.refl _)
      | (with_reducible exact LeO.none _)
      | (with_reducible refine LeO.ite ?_ ?_)
      | (with_reducible refine LeO.bind ?_ (fun _ => ?_))
      | exact ih0 _ _ _ _ _ _ _ _ _ _ _ _ _ _ _ _ _ _
      | exact ih1 _ _ _ _ _ _ _ _ _ _ _ _ _ _ _ _ _ _ _ _
      | exact ih2 _ _ _ _ _ _ _ _ _ _ _ _ _ _ _ _ _ _
      | exact ih3 _ _ _ _ _ _ _ _ _ _ _ _ _ _ _ _ _ _
      | exact ih4 _ _ _ _ _ _ _ _ _ _ _ _ _ _ _ _ _ _
      | exact ih5 _ _ _
      | exact ih6 _ _ _ _ _ _ _ _ _ _ _ _ _ _ _ _ _ _ _
      | exact QR.icehouseref02_Num.mono _ _
      | exact QR.icehouseref12_Has.mono _ _ _
      | exact LeO.none _
      | refine LeO.ite ?_ ?_
      | refine LeO.bind ?_ (fun _ => ?_)
    · intro y0 y1 y2 y3 y4 y5 y6 y7 y8 y9 y10 y11 y12 y13 y14 y15 y16 y17
      unfold icehouseref12_Bytes.j3
      repeat' first
      | (with_reducible exact ih0 _ _ _ _ _ _ _ _ _ _ _ _ _ _ _ _ _ _)
      | (with_reducible exact ih1 _ _ _ _ _ _ _ _ _ _ _ _ _ _ _ _ _ _ _ _)
      | (with_reducible exact ih2 _ _ _ _ _ _ _ _ _ _ _ _ _ _ _ _ _ _)
      | (with_reducible exact ih3 _ _ _ _ _ _ _ _ _ _ _ _ _ _ _ _ _ _)
      | (with_reducible exact ih4 _ _ _ _ _ _ _ _ _ _ _ _ _ _ _ _ _ _)
      | (with_reducible exact ih5 _ _ _)
      | (with_reducible exact ih6 _ _ _ _ _ _ _ _ _ _ _ _ _ _ _ _ _ _ _)
      | (with_reducible exact QR.icehouseref02_Num.mono _ _)
      | (with_reducible exact QR.icehouseref12_Has.mono _ _ _)
      | (with_reducible exact LeO.refl _)
      | (with_reducible exact LeO.none _)
      | (with_reducible refine LeO.ite ?_ ?_)
      | (with_reducible refine LeO.bind ?_ (fun _ => ?_))
      | exact ih0 _ _ _ _ _ _ _ _ _ _ _ _ _ _ _ _ _ _
      | exact ih1 _ _ _ _ _ _ _ _ _ _ _ _ _ _ _ _ _ _ _ _
      | exact ih2 _ _ _ _ _ _ _ _ _ _ _ _ _ _ _ _ _ _
      | exact ih3 _ _ _ _ _ _ _ _ _ _ _ _ _ _ _ _ _ _
      | exact ih4 _ _ _ _ _ _ _ _ _ _ _ _ _ _ _ _ _ _
      | exact ih5 _ _ _
      | exact ih6 _ _ _ _ _ _ _ _ _ _ _ _ _ _ _ _ _ _ _
      | exact QR.icehouseref02_Num.mono _ _
      | exact QR.icehouseref12_Has.mono _ _ _
      | exact LeO.none _
      | refine LeO.ite ?_ ?_
      | refine LeO.bind ?_ (fun _ => ?_)
    · intro y0 y1 y2 y3 y4 y5 y6 y7 y8 y9 y10 y11 y12 y13 y14 y15 y16 y17
      unfold icehouseref12_Bytes.j5
      repeat' first
      | (with_reducible exact ih0 _ _ _ _ _ _ _ _ _ _ _ _ _ _ _ _ _ _)
      | (with_reducible exact ih1 _ _ _ _ _ _ _ _ _ _ _ _ _ _ _ _ _ _ _ _)
      | (with_reducible exact ih2 _ _ _ _ _ _ _ _ _ _ _ _ _ _ _ _ _ _)
      | (with_reducible exact ih3 _ _ _ _ _ _ _ _ _ _ _ _ _ _ _ _ _ _)
      | (with_reducible exact ih4 _ _ _ _ _ _ _ _ _ _ _ _ _ _ _ _ _ _)
      | (with_reducible exact ih5 _ _ _)
      | (with_reducible exact ih6 _ _ _ _ _ _ _ _ _ _ _ _ _ _ _ _ _ _ _)
      | (with_reducible exact QR.icehouseref02_Num.mono _ _)
      | (with_reducible exact QR.icehouseref12_Has.mono _ _ _)
      | (with_reducible exact LeO.refl _)
      | (with_reducible exact LeO.none _)
      | (with_reducible refine LeO.ite ?_ ?_)
      | (with_reducible refine LeO.bind ?_ (fun _ => ?_))
      | exact ih0 _ _ _ _ _ _ _ _ _ _ _ _ _ _ _ _ _ _
      | exact ih1 _ _ _ _ _ _ _ _ _ _ _ _ _ _ _ _ _ _ _ _
      | exact ih2 _ _ _ _ _ _ _ _ _ _ _ _ _ _ _ _ _ _
      | exact ih3 _ _ _ _ _ _ _ _ _ _ _ _ _ _ _ _ _ _
      | exact ih4 _ _ _ _ _ _ _ _ _ _ _ _ _ _ _ _ _ _
      | exact ih5 _ _ _
      | exact ih6 _ _ _ _ _ _ _ _ _ _ _ _ _ _ _ _ _ _ _
      | exact QR.icehouseref02_Num.mono _ _
      | exact QR.icehouseref12_Has.mono _ _ _
      | exact LeO.none _
      | refine LeO.ite ?_ ?_
      | refine LeO.bind ?_ (fun _ => ?_)
    · intro y0 y1 y2
      unfold icehouseref12_Bytes.l2
      repeat' first
      | (with_reducible exact ih0 _ _ _ _ _ _ _ _ _ _ _ _ _ _ _ _ _ _)
      | (with_reducible exact ih1 _ _ _ _ _ _ _ _ _ _ _ _ _ _ _ _ _ _ _ _)
      | (with_reducible exact ih2 _ _ _ _ _ _ _ _ _ _ _ _ _ _ _ _ _ _)
      | (with_reducible exact ih3 _ _ _ _ _ _ _ _ _ _ _ _ _ _ _ _ _ _)
      | (with_reducible exact ih4 _ _ _ _ _ _ _ _ _ _ _ _ _ _ _ _ _ _)
      | (with_reducible exact ih5 _ _ _)
      | (with_reducible exact ih6 _ _ _ _ _ _ _ _ _ _ _ _ _ _ _ _ _ _ _)
      | (with_reducible exact QR.icehouseref02_Num.mono _ _)
      | (with_reducible exact QR.icehouseref12_Has.mono _ _ _)
      | (with_reducible exact LeO.refl _)
      | (with_reducible exact LeO.none _)
      | (with_reducible refine LeO.ite ?_ ?_)
      | (with_reducible refine LeO.bind ?_ (fun _ => ?_))
      | exact ih0 _ _ _ _ _ _ _ _ _ _ _ _ _ _ _ _ _ _
      | exact ih1 _ _ _ _ _ _ _ _ _ _ _ _ _ _ _ _ _ _ _ _
      | exact ih2 _ _ _ _ _ _ _ _ _ _ _ _ _ _ _ _ _ _
      | exact ih3 _ _ _ _ _ _ _ _ _ _ _ _ _ _ _ _ _ _
      | exact ih4 _ _ _ _ _ _ _ _ _ _ _ _ _ _ _ _ _ _
      | exact ih5 _ _ _
      | exact ih6 _ _ _ _ _ _ _ _ _ _ _ _ _ _ _ _ _ _ _
      | exact QR.icehouseref02_Num.mono _ _
      | exact QR.icehouseref12_Has.mono _ _ _
      | exact LeO.none _
      | refine LeO.ite ?_ ?_
      | refine LeO.bind ?_ (fun _ => ?_)
    · intro y0 y1 y2 y3 y4 y5 y6 y7 y8 y9 y10 y11 y12 y13 y14 y15 y16 y17 y18
      unfold icehouseref12_Bytes.l1
      repeat' first
      | (with_reducible exact ih0 _ _ _ _ _ _ _ _ _ _ _ _ _ _ _ _ _ _)
      | (with_reducible exact ih1 _ _ _ _ _ _ _ _ _ _ _ _ _ _ _ _ _ _ _ _)
      | (with_reducible exact ih2 _ _ _ _ _ _ _ _ _ _ _ _ _ _ _ _ _ _)
      | (with_reducible exact ih3 _ _ _ _ _ _ _ _ _ _ _ _ _ _ _ _ _ _)
      | (with_reducible exact ih4 _ _ _ _ _ _ _ _ _ _ _ _ _ _ _ _ _ _)
      | (with_reducible exact ih5 _ _ _)
      | (with_reducible exact ih6 _ _ _ _ _ _ _ _ _ _ _ _ _ _ _ _ _ _ _)
      | (with_reducible exact QR.icehouseref02_Num.mono _ _)
      | (with_reducible exact QR.icehouseref12_Has.mono _ _ _)
      | (with_reducible exact LeO.refl _)
      | (with_reducible exact LeO.none _)
      | (with_reducible refine LeO.ite ?_ ?_)
      | (with_reducible refine LeO.bind ?_ (fun _ => ?_))
      | exact ih0 _ _ _ _ _ _ _ _ _ _ _ _ _ _ _ _ _ _
      | exact ih1 _ _ _ _ _ _ _ _ _ _ _ _ _ _ _ _ _ _ _ _
      | exact ih2 _ _ _ _ _ _ _ _ _ _ _ _ _ _ _ _ _ _
      | exact ih3 _ _ _ _ _ _ _ _ _ _ _ _ _ _ _ _ _ _
      | exact ih4 _ _ _ _ _ _ _ _ _ _ _ _ _ _ _ _ _ _
      | exact ih5 _ _ _
      | exact ih6 _ _ _ _ _ _ _ _ _ _ _ _ _ _ _ _ _ _ _
      | exact QR.icehouseref02_Num.mono _ _
      | exact QR.icehouseref12_Has.mono _ _ _
      | exact LeO.none _
      | refine LeO.ite ?_ ?_
      | refine LeO.bind ?_ (fun _ => ?_)
set_option maxHeartbeats 8000000 in
set_option maxRecDepth 100000 in
theorem icehouseref12_Bytes.calls (k : Nat) (a0_0 : Int) (a0_1 : Int) (a0_2 : Int) (a0_3 : Int) (a0_4 : Int) (a0_5 : Int) (a0_6 : Bool) (a0_7 : ByteArray) (a0_8 : Int) (a0_9 : Int) (a0_10 : Int) (a0_11 : Bool) (A0_12 : Option Addr) (c0_12 : Nat) (l0_12 : List Int) (A0_13 : Option Addr) (c0_13 : Nat) (l0_13 : List (S28)) (A0_14 : Option Addr) (c0_14 : Nat) (l0_14 : List Int) (a0_15 : Int) (a0_16 : Int) (r1 : List Int) (r2 : Int) (w : World) (hr0_12 : Kd.C (Kd.int .u8) w A0_12 l0_12.length l0_12) (hc0_12 : l0_12.length ≤ c0_12) (hr0_13 : Kd.C k28 w A0_13 l0_13.length l0_13) (hc0_13 : l0_13.length ≤ c0_13) (hr0_14 : Kd.C (Kd.int .i64) w A0_14 l0_14.length l0_14) (hc0_14 : l0_14.length ≤ c0_14) (h : icehouseref12_Bytes.f k a0_0 a0_1 a0_2 a0_3 a0_4 a0_5 a0_6 a0_7 a0_8 a0_9 a0_10 a0_11 l0_12 l0_13 l0_14 a0_15 a0_16 = some (r1, r2)) :
    Calls Tryd.prog 13 #[.agg #[.int .i64 a0_0, .int .i64 a0_1, .int .i64 a0_2, .int .i64 a0_3, .int .i64 a0_4, .int .i64 a0_5, .bool a0_6, .string a0_7, .int .i64 a0_8, .int .i64 a0_9, .int .i64 a0_10, .bool a0_11, .slice A0_12 l0_12.length c0_12, .slice A0_13 l0_13.length c0_13, .slice A0_14 l0_14.length c0_14, .int .i64 a0_15, .int .i64 a0_16]] w fun e w' => ∃ v0_ : Value, e = .returned (.tuple #[v0_, .int .i64 r2]) ∧ Kd.R (Kd.int .u8) 5 w' w.heap.size (fun _ => True) v0_ r1 ∧ Below w.heap.size w w' := by
  have hu34 := Tryd.underlying34
  have hu28 := Tryd.underlying28
  have HR0_12 := Aside0.mk hr0_12
  have HC0_12 := Aside0.mk hc0_12
  clear hr0_12 hc0_12
  have HR0_13 := Aside0.mk hr0_13
  have HC0_13 := Aside0.mk hc0_13
  clear hr0_13 hc0_13
  have HR0_14 := Aside0.mk hr0_14
  have HC0_14 := Aside0.mk hc0_14
  clear hr0_14 hc0_14
  have HB := Aside0.mk (Below.refl w.heap.size w)
  have H : ((Fb.icehouseref12_Check.f a0_0 a0_1 a0_2 a0_3 a0_4 a0_5 a0_6 a0_7 a0_8 a0_9 a0_10 a0_11 l0_12 l0_13 l0_14 a0_15 a0_16).bind fun t102 => (if t102 = 0 then ((some (([a0_0, a0_1, a0_2, a0_3, a0_4] : List Int) : List Int)).bind fun y103 => ((QR.icehouseref12_Has.f k a0_0 (⟨#[110]⟩ : ByteArray)).bind fun t106 => (if t106 = true then (if y103.length < 17592186044416 then (icehouseref12_Bytes.j0 k (y103 ++ [a0_5]) a0_0 a0_1 a0_2 a0_3 a0_4 a0_5 a0_6 a0_7 a0_8 a0_9 a0_10 a0_11 l0_12 l0_13 l0_14 a0_15 a0_16) else (none)) else (icehouseref12_Bytes.j0 k y103 a0_0 a0_1 a0_2 a0_3 a0_4 a0_5 a0_6 a0_7 a0_8 a0_9 a0_10 a0_11 l0_12 l0_13 l0_14 a0_15 a0_16)))) else (some (([] : List Int), 2)))) = some (r1, r2) := h
  clear h
  replace H := Option.bind_eq_some_iff.mp H
  obtain ⟨t102, A20, H⟩ := H
  replace H : (if t102 = 0 then ((some (([a0_0, a0_1, a0_2, a0_3, a0_4] : List Int) : List Int)).bind fun y103 => ((QR.icehouseref12_Has.f k a0_0 (⟨#[110]⟩ : ByteArray)).bind fun t106 => (if t106 = true then (if y103.length < 17592186044416 then (icehouseref12_Bytes.j0 k (y103 ++ [a0_5]) a0_0 a0_1 a0_2 a0_3 a0_4 a0_5 a0_6 a0_7 a0_8 a0_9 a0_10 a0_11 l0_12 l0_13 l0_14 a0_15 a0_16) else (none)) else (icehouseref12_Bytes.j0 k y103 a0_0 a0_1 a0_2 a0_3 a0_4 a0_5 a0_6 a0_7 a0_8 a0_9 a0_10 a0_11 l0_12 l0_13 l0_14 a0_15 a0_16)))) else (some (([] : List Int), 2))) = some (r1, r2) := H
  have A2 := Aside0.mk A20
  clear A20
  by_cases c3 : t102 = 0
  · as_aux_lemma =>
    rw [if_pos c3] at H
    have c3b0 : (t102 == 0) = true := beq_iff_eq.mpr c3
    have c3b1 : (t102 != 0) = false := bne_eq_false_iff_eq.mpr c3
    clear c3
    obtain ⟨y103, hy103⟩ : ∃ y_ : List Int, y_ = (([a0_0, a0_1, a0_2, a0_3, a0_4] : List Int)) := ⟨_, rfl⟩
    replace H : ((QR.icehouseref12_Has.f k a0_0 (⟨#[110]⟩ : ByteArray)).bind fun t106 => (if t106 = true then (if y103.length < 17592186044416 then (icehouseref12_Bytes.j0 k (y103 ++ [a0_5]) a0_0 a0_1 a0_2 a0_3 a0_4 a0_5 a0_6 a0_7 a0_8 a0_9 a0_10 a0_11 l0_12 l0_13 l0_14 a0_15 a0_16) else (none)) else (icehouseref12_Bytes.j0 k y103 a0_0 a0_1 a0_2 a0_3 a0_4 a0_5 a0_6 a0_7 a0_8 a0_9 a0_10 a0_11 l0_12 l0_13 l0_14 a0_15 a0_16))) = some (r1, r2) := by first | (rw [hy103]; with_reducible exact H) | (have H2_ := (Option.bind_some _ _).symm.trans H; rw [hy103]; with_reducible exact H2_) | (have H2_ := (Option.bind_some _ _).symm.trans H; with_reducible exact H2_) | with_reducible exact H | (rw [hy103]; exact H) | exact H
    have Ny103 := Aside0.mk hy103
    clear hy103
    replace H := Option.bind_eq_some_iff.mp H
    obtain ⟨t106, A40, H⟩ := H
    replace H : (if t106 = true then (if y103.length < 17592186044416 then (icehouseref12_Bytes.j0 k (y103 ++ [a0_5]) a0_0 a0_1 a0_2 a0_3 a0_4 a0_5 a0_6 a0_7 a0_8 a0_9 a0_10 a0_11 l0_12 l0_13 l0_14 a0_15 a0_16) else (none)) else (icehouseref12_Bytes.j0 k y103 a0_0 a0_1 a0_2 a0_3 a0_4 a0_5 a0_6 a0_7 a0_8 a0_9 a0_10 a0_11 l0_12 l0_13 l0_14 a0_15 a0_16)) = some (r1, r2) := H
    have A4 := Aside0.mk A40
    clear A40
    have HC5 := Aside0.mk H
    clear H
    go_enter Tryd.func13, Tryd.ntmps13
    go_upto_if 31 with (first | ((with_reducible refine gate_dst (N := 1) rfl ?_); refine box_event ?hg (N := 1) ?hd (cs := #[.int .i64 a0_0, .int .i64 a0_1, .int .i64 a0_2, .int .i64 a0_3, .int .i64 a0_4, .int .i64 a0_5, .bool a0_6, .string a0_7, .int .i64 a0_8, .int .i64 a0_9, .int .i64 a0_10, .bool a0_11, .slice A0_12 l0_12.length c0_12, .slice A0_13 l0_13.length c0_13, .slice A0_14 l0_14.length c0_14, .int .i64 a0_15, .int .i64 a0_16]) (t := 34) ?hr ?_; (case hd => rfl); (case hg => rfl); (case hr => first | (go_simp; done) | (go_simp; rfl)); intro gb101 hg w6 hbox hb; have n0_ := Aside0.mk (below_step (by repeat (first | (with_reducible first | exact HB.out | apply below_alloc | apply pw_below_drewN | apply below_drew1) | exact HB.out)) hb); have n1_ := Aside0.mk (hbox); have n2_ := Aside0.mk ((by rw [hg]; exact (below_size (by repeat (first | (with_reducible first | exact HB.out | apply below_alloc | apply pw_below_drewN | apply below_drew1) | exact HB.out))) : w.heap.size ≤ gb101)); have n3_ := Aside0.mk ((by rw [hg]; exact (below_size (by repeat (first | (with_reducible first | exact HB.out | apply below_alloc | apply pw_below_drewN | apply below_drew1) | exact HB.out))) : w.heap.size ≤ gb101)); clear HB; have HB := n0_; have BK101 := n1_; have GW101 := n2_; have GE101 := n3_; clear n0_ n1_ n2_ n3_; clear hb hbox hg; have hcz7_0 : w6.cell? ⟨gb101, 0, none⟩ = some (.int .i64 a0_0) := (blk_cell BK101.out 0).trans rfl; have hcz7_1 : w6.cell? ⟨gb101, 1, none⟩ = some (.int .i64 a0_1) := (blk_cell BK101.out 1).trans rfl; have hcz7_2 : w6.cell? ⟨gb101, 2, none⟩ = some (.int .i64 a0_2) := (blk_cell BK101.out 2).trans rfl; have hcz7_3 : w6.cell? ⟨gb101, 3, none⟩ = some (.int .i64 a0_3) := (blk_cell BK101.out 3).trans rfl; have hcz7_4 : w6.cell? ⟨gb101, 4, none⟩ = some (.int .i64 a0_4) := (blk_cell BK101.out 4).trans rfl; have hcz7_5 : w6.cell? ⟨gb101, 5, none⟩ = some (.int .i64 a0_5) := (blk_cell BK101.out 5).trans rfl; have hcz7_6 : w6.cell? ⟨gb101, 6, none⟩ = some (.bool a0_6) := (blk_cell BK101.out 6).trans rfl; have hcz7_7 : w6.cell? ⟨gb101, 7, none⟩ = some (.string a0_7) := (blk_cell BK101.out 7).trans rfl; have hcz7_8 : w6.cell? ⟨gb101, 8, none⟩ = some (.int .i64 a0_8) := (blk_cell BK101.out 8).trans rfl; have hcz7_9 : w6.cell? ⟨gb101, 9, none⟩ = some (.int .i64 a0_9) := (blk_cell BK101.out 9).trans rfl; have hcz7_10 : w6.cell? ⟨gb101, 10, none⟩ = some (.int .i64 a0_10) := (blk_cell BK101.out 10).trans rfl; have hcz7_11 : w6.cell? ⟨gb101, 11, none⟩ = some (.bool a0_11) := (blk_cell BK101.out 11).trans rfl; have hcz7_12 : w6.cell? ⟨gb101, 12, none⟩ = some (.slice A0_12 l0_12.length c0_12) := (blk_cell BK101.out 12).trans rfl; have hcz7_13 : w6.cell? ⟨gb101, 13, none⟩ = some (.slice A0_13 l0_13.length c0_13) := (blk_cell BK101.out 13).trans rfl; have hcz7_14 : w6.cell? ⟨gb101, 14, none⟩ = some (.slice A0_14 l0_14.length c0_14) := (blk_cell BK101.out 14).trans rfl; have hcz7_15 : w6.cell? ⟨gb101, 15, none⟩ = some (.int .i64 a0_15) := (blk_cell BK101.out 15).trans rfl; have hcz7_16 : w6.cell? ⟨gb101, 16, none⟩ = some (.int .i64 a0_16) := (blk_cell BK101.out 16).trans rfl; have hfz7_0 := blk_frozen BK101.out 0; have hfz7_1 := blk_frozen BK101.out 1; have hfz7_2 := blk_frozen BK101.out 2; have hfz7_3 := blk_frozen BK101.out 3; have hfz7_4 := blk_frozen BK101.out 4; have hfz7_5 := blk_frozen BK101.out 5; have hfz7_6 := blk_frozen BK101.out 6; have hfz7_7 := blk_frozen BK101.out 7; have hfz7_8 := blk_frozen BK101.out 8; have hfz7_9 := blk_frozen BK101.out 9; have hfz7_10 := blk_frozen BK101.out 10; have hfz7_11 := blk_frozen BK101.out 11; have hfz7_12 := blk_frozen BK101.out 12; have hfz7_13 := blk_frozen BK101.out 13; have hfz7_14 := blk_frozen BK101.out 14; have hfz7_15 := blk_frozen BK101.out 15; have hfz7_16 := blk_frozen BK101.out 16) | ((with_reducible refine gate_callee (f := 16) rfl ?_); refine goesL_ (some 16) rfl rfl Tryd.func16 (by kernel_rfl) rfl #[.agg #[.int .i64 a0_0, .int .i64 a0_1, .int .i64 a0_2, .int .i64 a0_3, .int .i64 a0_4, .int .i64 a0_5, .bool a0_6, .string a0_7, .int .i64 a0_8, .int .i64 a0_9, .int .i64 a0_10, .bool a0_11, .slice A0_12 l0_12.length c0_12, .slice A0_13 l0_13.length c0_13, .slice A0_14 l0_14.length c0_14, .int .i64 a0_15, .int .i64 a0_16]] rfl (by (try simp only [List.map_toArray, List.map_cons, List.map_nil]); first | done | rfl | (simp only [List.length_drop, List.length_take]; rfl)) ?_; (with_reducible refine (Fb.icehouseref12_Check.calls a0_0 a0_1 a0_2 a0_3 a0_4 a0_5 a0_6 a0_7 a0_8 a0_9 a0_10 a0_11 _ _ l0_12 _ _ l0_13 _ _ l0_14 a0_15 a0_16 t102 _ ?side1 ?side2 ?side3 ?side4 ?side5 ?side6 A2.out).mono ?_); (case side1 => repeat (first | exact (Kd.C_below HR0_12.out HB.out) | (with_reducible refine Kd.C_alloc ?_ _) | (with_reducible refine Kd.C_drewN ?_ _) | (with_reducible refine Kd.C_drew ?_))); (case side2 => exact HC0_12.out); (case side3 => repeat (first | exact (Kd.C_below HR0_13.out HB.out) | (with_reducible refine Kd.C_alloc ?_ _) | (with_reducible refine Kd.C_drewN ?_ _) | (with_reducible refine Kd.C_drew ?_))); (case side4 => exact HC0_13.out); (case side5 => repeat (first | exact (Kd.C_below HR0_14.out HB.out) | (with_reducible refine Kd.C_alloc ?_ _) | (with_reducible refine Kd.C_drewN ?_ _) | (with_reducible refine Kd.C_drew ?_))); (case side6 => exact HC0_14.out); rintro e w8 ⟨rfl, hb⟩; refine ⟨_, rfl, ?_⟩; have n0_ := Aside0.mk (blk_below (g := gb101) (o := .cells #[.int .i64 a0_0, .int .i64 a0_1, .int .i64 a0_2, .int .i64 a0_3, .int .i64 a0_4, .int .i64 a0_5, .bool a0_6, .string a0_7, .int .i64 a0_8, .int .i64 a0_9, .int .i64 a0_10, .bool a0_11, .slice A0_12 l0_12.length c0_12, .slice A0_13 l0_13.length c0_13, .slice A0_14 l0_14.length c0_14, .int .i64 a0_15, .int .i64 a0_16] 34 (0, 0)) (by (with_reducible repeat (first | refine blk_drewN ?_ _ | refine blk_drew ?_ | refine blk_alloc ?_ _)); exact BK101.out) hb); have n1_ := Aside0.mk (below_step (by repeat (first | (with_reducible first | exact HB.out | apply below_alloc | apply pw_below_drewN | apply below_drew1 | refine below_set ?_ GE101.out) | exact HB.out)) hb); clear BK101; clear HB; have BK101 := n0_; have HB := n1_; clear n0_ n1_; (try clear hb); (try clear hb2); (try clear hk); (try clear hi); have hcz9_0 : w8.cell? ⟨gb101, 0, none⟩ = some (.int .i64 a0_0) := (blk_cell BK101.out 0).trans rfl; have hcz9_1 : w8.cell? ⟨gb101, 1, none⟩ = some (.int .i64 a0_1) := (blk_cell BK101.out 1).trans rfl; have hcz9_2 : w8.cell? ⟨gb101, 2, none⟩ = some (.int .i64 a0_2) := (blk_cell BK101.out 2).trans rfl; have hcz9_3 : w8.cell? ⟨gb101, 3, none⟩ = some (.int .i64 a0_3) := (blk_cell BK101.out 3).trans rfl; have hcz9_4 : w8.cell? ⟨gb101, 4, none⟩ = some (.int .i64 a0_4) := (blk_cell BK101.out 4).trans rfl; have hcz9_5 : w8.cell? ⟨gb101, 5, none⟩ = some (.int .i64 a0_5) := (blk_cell BK101.out 5).trans rfl; have hcz9_6 : w8.cell? ⟨gb101, 6, none⟩ = some (.bool a0_6) := (blk_cell BK101.out 6).trans rfl; have hcz9_7 : w8.cell? ⟨gb101, 7, none⟩ = some (.string a0_7) := (blk_cell BK101.out 7).trans rfl; have hcz9_8 : w8.cell? ⟨gb101, 8, none⟩ = some (.int .i64 a0_8) := (blk_cell BK101.out 8).trans rfl; have hcz9_9 : w8.cell? ⟨gb101, 9, none⟩ = some (.int .i64 a0_9) := (blk_cell BK101.out 9).trans rfl; have hcz9_10 : w8.cell? ⟨gb101, 10, none⟩ = some (.int .i64 a0_10) := (blk_cell BK101.out 10).trans rfl; have hcz9_11 : w8.cell? ⟨gb101, 11, none⟩ = some (.bool a0_11) := (blk_cell BK101.out 11).trans rfl; have hcz9_12 : w8.cell? ⟨gb101, 12, none⟩ = some (.slice A0_12 l0_12.length c0_12) := (blk_cell BK101.out 12).trans rfl; have hcz9_13 : w8.cell? ⟨gb101, 13, none⟩ = some (.slice A0_13 l0_13.length c0_13) := (blk_cell BK101.out 13).trans rfl; have hcz9_14 : w8.cell? ⟨gb101, 14, none⟩ = some (.slice A0_14 l0_14.length c0_14) := (blk_cell BK101.out 14).trans rfl; have hcz9_15 : w8.cell? ⟨gb101, 15, none⟩ = some (.int .i64 a0_15) := (blk_cell BK101.out 15).trans rfl; have hcz9_16 : w8.cell? ⟨gb101, 16, none⟩ = some (.int .i64 a0_16) := (blk_cell BK101.out 16).trans rfl; have hfz9_0 := blk_frozen BK101.out 0; have hfz9_1 := blk_frozen BK101.out 1; have hfz9_2 := blk_frozen BK101.out 2; have hfz9_3 := blk_frozen BK101.out 3; have hfz9_4 := blk_frozen BK101.out 4; have hfz9_5 := blk_frozen BK101.out 5; have hfz9_6 := blk_frozen BK101.out 6; have hfz9_7 := blk_frozen BK101.out 7; have hfz9_8 := blk_frozen BK101.out 8; have hfz9_9 := blk_frozen BK101.out 9; have hfz9_10 := blk_frozen BK101.out 10; have hfz9_11 := blk_frozen BK101.out 11; have hfz9_12 := blk_frozen BK101.out 12; have hfz9_13 := blk_frozen BK101.out 13; have hfz9_14 := blk_frozen BK101.out 14; have hfz9_15 := blk_frozen BK101.out 15; have hfz9_16 := blk_frozen BK101.out 16) | ((with_reducible refine gate_dst (N := 28) rfl ?_); refine Kd.R_lit (Kd.int .i64) _ 3 ?hg (N := 28) ?hd (xs := ([a0_0, a0_1, a0_2, a0_3, a0_4] : List Int)) (inner := [.int .i64 a0_0, .int .i64 a0_1, .int .i64 a0_2, .int .i64 a0_3, .int .i64 a0_4]) (ok := fun _ => True) (okp := fun _ => True) ?hr ?hp (fun _ hk => hk) trivial (Below.refl _ _) (Nat.le_refl _) (by simp) ?_; (case hd => rfl); (case hg => rfl); (case hr => first | (go_simp; done) | (go_simp; rfl)); (case hp => exact (Reps.one (show Kd.M (Kd.int .i64) _ _ _ a0_0 [.int .i64 a0_0] from rfl) (Reps.one (show Kd.M (Kd.int .i64) _ _ _ a0_1 [.int .i64 a0_1] from rfl) (Reps.one (show Kd.M (Kd.int .i64) _ _ _ a0_2 [.int .i64 a0_2] from rfl) (Reps.one (show Kd.M (Kd.int .i64) _ _ _ a0_3 [.int .i64 a0_3] from rfl) (Reps.one (show Kd.M (Kd.int .i64) _ _ _ a0_4 [.int .i64 a0_4] from rfl) (Reps.none _ _))))))); intro v104 w10 ho11 hb hg_ hnew_; clear hg_ hnew_; (first | rw [← Ny103.out] at ho11 | (simp only [Int.reduceToNat] at ho11; rw [← Ny103.out] at ho11)); have n0_ := Aside0.mk (Kd.R_lower ho11 (below_size (by repeat (first | (with_reducible first | exact HB.out | apply below_alloc | apply pw_below_drewN | apply below_drew1 | refine below_set ?_ GE101.out) | exact HB.out)))); have n1_ := Aside0.mk (blk_below (g := gb101) (o := .cells #[.int .i64 a0_0, .int .i64 a0_1, .int .i64 a0_2, .int .i64 a0_3, .int .i64 a0_4, .int .i64 a0_5, .bool a0_6, .string a0_7, .int .i64 a0_8, .int .i64 a0_9, .int .i64 a0_10, .bool a0_11, .slice A0_12 l0_12.length c0_12, .slice A0_13 l0_13.length c0_13, .slice A0_14 l0_14.length c0_14, .int .i64 a0_15, .int .i64 a0_16] 34 (0, 0)) (by (with_reducible repeat (first | refine blk_drewN ?_ _ | refine blk_drew ?_ | refine blk_alloc ?_ _)); exact BK101.out) hb); have n2_ := Aside0.mk (below_step (by repeat (first | (with_reducible first | exact HB.out | apply below_alloc | apply pw_below_drewN | apply below_drew1 | refine below_set ?_ GE101.out) | exact HB.out)) hb); clear BK101; clear HB; have HO105 := n0_; have BK101 := n1_; have HB := n2_; clear n0_ n1_ n2_; clear hb ho11; have hcz12_0 : w10.cell? ⟨gb101, 0, none⟩ = some (.int .i64 a0_0) := (blk_cell BK101.out 0).trans rfl; have hcz12_1 : w10.cell? ⟨gb101, 1, none⟩ = some (.int .i64 a0_1) := (blk_cell BK101.out 1).trans rfl; have hcz12_2 : w10.cell? ⟨gb101, 2, none⟩ = some (.int .i64 a0_2) := (blk_cell BK101.out 2).trans rfl; have hcz12_3 : w10.cell? ⟨gb101, 3, none⟩ = some (.int .i64 a0_3) := (blk_cell BK101.out 3).trans rfl; have hcz12_4 : w10.cell? ⟨gb101, 4, none⟩ = some (.int .i64 a0_4) := (blk_cell BK101.out 4).trans rfl; have hcz12_5 : w10.cell? ⟨gb101, 5, none⟩ = some (.int .i64 a0_5) := (blk_cell BK101.out 5).trans rfl; have hcz12_6 : w10.cell? ⟨gb101, 6, none⟩ = some (.bool a0_6) := (blk_cell BK101.out 6).trans rfl; have hcz12_7 : w10.cell? ⟨gb101, 7, none⟩ = some (.string a0_7) := (blk_cell BK101.out 7).trans rfl; have hcz12_8 : w10.cell? ⟨gb101, 8, none⟩ = some (.int .i64 a0_8) := (blk_cell BK101.out 8).trans rfl; have hcz12_9 : w10.cell? ⟨gb101, 9, none⟩ = some (.int .i64 a0_9) := (blk_cell BK101.out 9).trans rfl; have hcz12_10 : w10.cell? ⟨gb101, 10, none⟩ = some (.int .i64 a0_10) := (blk_cell BK101.out 10).trans rfl; have hcz12_11 : w10.cell? ⟨gb101, 11, none⟩ = some (.bool a0_11) := (blk_cell BK101.out 11).trans rfl; have hcz12_12 : w10.cell? ⟨gb101, 12, none⟩ = some (.slice A0_12 l0_12.length c0_12) := (blk_cell BK101.out 12).trans rfl; have hcz12_13 : w10.cell? ⟨gb101, 13, none⟩ = some (.slice A0_13 l0_13.length c0_13) := (blk_cell BK101.out 13).trans rfl; have hcz12_14 : w10.cell? ⟨gb101, 14, none⟩ = some (.slice A0_14 l0_14.length c0_14) := (blk_cell BK101.out 14).trans rfl; have hcz12_15 : w10.cell? ⟨gb101, 15, none⟩ = some (.int .i64 a0_15) := (blk_cell BK101.out 15).trans rfl; have hcz12_16 : w10.cell? ⟨gb101, 16, none⟩ = some (.int .i64 a0_16) := (blk_cell BK101.out 16).trans rfl; have hfz12_0 := blk_frozen BK101.out 0; have hfz12_1 := blk_frozen BK101.out 1; have hfz12_2 := blk_frozen BK101.out 2; have hfz12_3 := blk_frozen BK101.out 3; have hfz12_4 := blk_frozen BK101.out 4; have hfz12_5 := blk_frozen BK101.out 5; have hfz12_6 := blk_frozen BK101.out 6; have hfz12_7 := blk_frozen BK101.out 7; have hfz12_8 := blk_frozen BK101.out 8; have hfz12_9 := blk_frozen BK101.out 9; have hfz12_10 := blk_frozen BK101.out 10; have hfz12_11 := blk_frozen BK101.out 11; have hfz12_12 := blk_frozen BK101.out 12; have hfz12_13 := blk_frozen BK101.out 13; have hfz12_14 := blk_frozen BK101.out 14; have hfz12_15 := blk_frozen BK101.out 15; have hfz12_16 := blk_frozen BK101.out 16) | ((with_reducible refine gate_callee (f := 21) rfl ?_); refine goesL_ (some 31) rfl rfl Tryd.func21 (by kernel_rfl) rfl #[.int .i64 a0_0, .string (⟨#[110]⟩ : ByteArray)] rfl (by (try simp only [List.map_toArray, List.map_cons, List.map_nil]); first | done | rfl | (simp only [List.length_drop, List.length_take]; rfl)) ?_; (with_reducible refine (QR.icehouseref12_Has.calls k a0_0 (⟨#[110]⟩ : ByteArray) t106 _ A4.out).mono ?_); rintro e w13 ⟨rfl, hb⟩; refine ⟨_, rfl, ?_⟩; have n0_ := Aside0.mk (Kd.R_below (by (with_reducible repeat (first | apply Kd.R_alloc | apply Kd.R_drewN | apply Kd.R_drew)); exact HO105.out) hb); have n1_ := Aside0.mk (blk_below (g := gb101) (o := .cells #[.int .i64 a0_0, .int .i64 a0_1, .int .i64 a0_2, .int .i64 a0_3, .int .i64 a0_4, .int .i64 a0_5, .bool a0_6, .string a0_7, .int .i64 a0_8, .int .i64 a0_9, .int .i64 a0_10, .bool a0_11, .slice A0_12 l0_12.length c0_12, .slice A0_13 l0_13.length c0_13, .slice A0_14 l0_14.length c0_14, .int .i64 a0_15, .int .i64 a0_16] 34 (0, 0)) (by (with_reducible repeat (first | refine blk_drewN ?_ _ | refine blk_drew ?_ | refine blk_alloc ?_ _)); exact BK101.out) hb); have n2_ := Aside0.mk (below_step (by repeat (first | (with_reducible first | exact HB.out | apply below_alloc | apply pw_below_drewN | apply below_drew1 | refine below_set ?_ GE101.out) | exact HB.out)) hb); clear HO105; clear BK101; clear HB; have HO105 := n0_; have BK101 := n1_; have HB := n2_; clear n0_ n1_ n2_; (try clear hb); (try clear hb2); (try clear hk); (try clear hi)))
    (try simp only [Act.put, List.setIfInBounds_toArray, List.set_cons_zero, List.set_cons_succ])
    go_cut [4] (fun v4 wc => ∃ (kq : Nat) (x4_4 : List Int), Aside0 (icehouseref12_Bytes.j0 kq x4_4 a0_0 a0_1 a0_2 a0_3 a0_4 a0_5 a0_6 a0_7 a0_8 a0_9 a0_10 a0_11 l0_12 l0_13 l0_14 a0_15 a0_16 = some (r1, r2)) ∧ Aside0 (kq ≤ k) ∧ Aside0 (Kd.R (Kd.int .i64) 3 wc w.heap.size (fun _ => True) v4 x4_4) ∧ Aside0 (wc.heap[gb101]? = some (.cells #[.int .i64 a0_0, .int .i64 a0_1, .int .i64 a0_2, .int .i64 a0_3, .int .i64 a0_4, .int .i64 a0_5, .bool a0_6, .string a0_7, .int .i64 a0_8, .int .i64 a0_9, .int .i64 a0_10, .bool a0_11, (.slice A0_12 l0_12.length c0_12), (.slice A0_13 l0_13.length c0_13), (.slice A0_14 l0_14.length c0_14), .int .i64 a0_15, .int .i64 a0_16] 34 (0, 0))) ∧ Aside0 (Below w.heap.size w wc))
    case first =>
      as_aux_lemma =>
      have H := HC5.out
      clear HC5
      by_cases c14 : t106 = true
      · subst c14
        have H1 : (if y103.length < 17592186044416 then (icehouseref12_Bytes.j0 k (y103 ++ [a0_5]) a0_0 a0_1 a0_2 a0_3 a0_4 a0_5 a0_6 a0_7 a0_8 a0_9 a0_10 a0_11 l0_12 l0_13 l0_14 a0_15 a0_16) else (none)) = some (r1, r2) := by rw [if_pos rfl] at H; exact H
        clear H
        have H := H1
        clear H1
        by_cases c15 : y103.length < 17592186044416
        · as_aux_lemma =>
          rw [if_pos c15] at H
          have LMc15 := Aside0.mk c15
          clear c15
          obtain ⟨y107, hy107⟩ : ∃ y_ : List Int, y_ = (y103 ++ [a0_5]) := ⟨_, rfl⟩
          replace H : (icehouseref12_Bytes.j0 k y107 a0_0 a0_1 a0_2 a0_3 a0_4 a0_5 a0_6 a0_7 a0_8 a0_9 a0_10 a0_11 l0_12 l0_13 l0_14 a0_15 a0_16) = some (r1, r2) := by first | (rw [hy107]; with_reducible exact H) | (have H2_ := (Option.bind_some _ _).symm.trans H; rw [hy107]; with_reducible exact H2_) | (have H2_ := (Option.bind_some _ _).symm.trans H; with_reducible exact H2_) | with_reducible exact H | (rw [hy107]; exact H) | exact H
          have Ny107 := Aside0.mk hy107
          clear hy107
          have H' := Aside0.mk H
          clear H
          have hcz16_0 : w13.cell? ⟨gb101, 0, none⟩ = some (.int .i64 a0_0) := (blk_cell BK101.out 0).trans rfl
          have hcz16_1 : w13.cell? ⟨gb101, 1, none⟩ = some (.int .i64 a0_1) := (blk_cell BK101.out 1).trans rfl
          have hcz16_2 : w13.cell? ⟨gb101, 2, none⟩ = some (.int .i64 a0_2) := (blk_cell BK101.out 2).trans rfl
          have hcz16_3 : w13.cell? ⟨gb101, 3, none⟩ = some (.int .i64 a0_3) := (blk_cell BK101.out 3).trans rfl
          have hcz16_4 : w13.cell? ⟨gb101, 4, none⟩ = some (.int .i64 a0_4) := (blk_cell BK101.out 4).trans rfl
          have hcz16_5 : w13.cell? ⟨gb101, 5, none⟩ = some (.int .i64 a0_5) := (blk_cell BK101.out 5).trans rfl
          have hcz16_6 : w13.cell? ⟨gb101, 6, none⟩ = some (.bool a0_6) := (blk_cell BK101.out 6).trans rfl
          have hcz16_7 : w13.cell? ⟨gb101, 7, none⟩ = some (.string a0_7) := (blk_cell BK101.out 7).trans rfl
          have hcz16_8 : w13.cell? ⟨gb101, 8, none⟩ = some (.int .i64 a0_8) := (blk_cell BK101.out 8).trans rfl
          have hcz16_9 : w13.cell? ⟨gb101, 9, none⟩ = some (.int .i64 a0_9) := (blk_cell BK101.out 9).trans rfl
          have hcz16_10 : w13.cell? ⟨gb101, 10, none⟩ = some (.int .i64 a0_10) := (blk_cell BK101.out 10).trans rfl
          have hcz16_11 : w13.cell? ⟨gb101, 11, none⟩ = some (.bool a0_11) := (blk_cell BK101.out 11).trans rfl
          have hcz16_12 : w13.cell? ⟨gb101, 12, none⟩ = some (.slice A0_12 l0_12.length c0_12) := (blk_cell BK101.out 12).trans rfl
          have hcz16_13 : w13.cell? ⟨gb101, 13, none⟩ = some (.slice A0_13 l0_13.length c0_13) := (blk_cell BK101.out 13).trans rfl
          have hcz16_14 : w13.cell? ⟨gb101, 14, none⟩ = some (.slice A0_14 l0_14.length c0_14) := (blk_cell BK101.out 14).trans rfl
          have hcz16_15 : w13.cell? ⟨gb101, 15, none⟩ = some (.int .i64 a0_15) := (blk_cell BK101.out 15).trans rfl
          have hcz16_16 : w13.cell? ⟨gb101, 16, none⟩ = some (.int .i64 a0_16) := (blk_cell BK101.out 16).trans rfl
          have hfz16_0 := blk_frozen BK101.out 0
          have hfz16_1 := blk_frozen BK101.out 1
          have hfz16_2 := blk_frozen BK101.out 2
          have hfz16_3 := blk_frozen BK101.out 3
          have hfz16_4 := blk_frozen BK101.out 4
          have hfz16_5 := blk_frozen BK101.out 5
          have hfz16_6 := blk_frozen BK101.out 6
          have hfz16_7 := blk_frozen BK101.out 7
          have hfz16_8 := blk_frozen BK101.out 8
          have hfz16_9 := blk_frozen BK101.out 9
          have hfz16_10 := blk_frozen BK101.out 10
          have hfz16_11 := blk_frozen BK101.out 11
          have hfz16_12 := blk_frozen BK101.out 12
          have hfz16_13 := blk_frozen BK101.out 13
          have hfz16_14 := blk_frozen BK101.out 14
          have hfz16_15 := blk_frozen BK101.out 15
          have hfz16_16 := blk_frozen BK101.out 16
          go_wp2_with (first | ((with_reducible refine gate_builtin (b := .append) (xs := #[.tmp 32, .tmp 35]) rfl ?_); at_builtin; refine Kd.R_append (Kd.int .i64) (w0 := w) w.heap.size rfl (.tmp 32) (.tmp 35) 30 3 (.int .i64 0) 8 rfl Tryd.underlying30 info3 rfl (by decide) (by omega) v104 y103 a0_5 [.int .i64 a0_5] (fun _ => True) (fun _ => False) rfl rfl ?aP (fun _ hk => hk.elim) ?aF ?aO ?aB ?aS ?aL ?_; (case aP => exact rfl); (case aB => exact (by repeat (first | (with_reducible first | exact HB.out | apply below_alloc | apply pw_below_drewN | apply below_drew1 | refine below_set ?_ GE101.out) | exact HB.out))); (case aF => exact (fun _ _ => trivial)); (case aO => exact (by (with_reducible repeat (first | apply Kd.R_alloc | apply Kd.R_drewN | apply Kd.R_drew)); exact HO105.out)); (case aS => exact (below_size (by repeat (first | (with_reducible first | exact HB.out | apply below_alloc | apply pw_below_drewN | apply below_drew1 | refine below_set ?_ GE101.out) | exact HB.out)))); (case aL => have := LMc15.out; omega); intro v108 w17 ho hb hg hat; rw [← Ny107.out] at ho; have n0_ := Aside0.mk (blk_grown (g := gb101) (o := .cells #[.int .i64 a0_0, .int .i64 a0_1, .int .i64 a0_2, .int .i64 a0_3, .int .i64 a0_4, .int .i64 a0_5, .bool a0_6, .string a0_7, .int .i64 a0_8, .int .i64 a0_9, .int .i64 a0_10, .bool a0_11, .slice A0_12 l0_12.length c0_12, .slice A0_13 l0_13.length c0_13, .slice A0_14 l0_14.length c0_14, .int .i64 a0_15, .int .i64 a0_16] 34 (0, 0)) (by (with_reducible repeat (first | refine blk_drewN ?_ _ | refine blk_drew ?_ | refine blk_alloc ?_ _)); exact BK101.out) hg (Kd.R_ne HO105.out BK101.out (by decide))); have n1_ := Aside0.mk (hb); have n2_ := Aside0.mk (ho); clear BK101; clear HB; clear HO105; have BK101 := n0_; have HB := n1_; have HO109 := n2_; clear n0_ n1_ n2_; clear ho hb hg hat))
          go_meet
          case rel => exact ⟨_, (y107), H', ⟨by first | omega | exact Nat.le_refl _⟩, ⟨by (with_reducible repeat (first | apply Kd.R_alloc | apply Kd.R_drewN | apply Kd.R_drew)); exact HO109.out⟩, ⟨by (with_reducible repeat (first | refine blk_drewN ?_ _ | refine blk_drew ?_ | refine blk_alloc ?_ _)); exact BK101.out⟩, ⟨by repeat (first | (with_reducible first | exact HB.out | apply below_alloc | apply pw_below_drewN | apply below_drew1 | refine below_set ?_ GE101.out) | exact HB.out)⟩⟩
        · as_aux_lemma =>
          rw [if_neg c15] at H
          exact absurd H (by simp)
      · replace c14 := Bool.eq_false_iff.mpr c14
        subst c14
        have H1 : (icehouseref12_Bytes.j0 k y103 a0_0 a0_1 a0_2 a0_3 a0_4 a0_5 a0_6 a0_7 a0_8 a0_9 a0_10 a0_11 l0_12 l0_13 l0_14 a0_15 a0_16) = some (r1, r2) := by rw [if_neg (show ¬ (false = true) by decide)] at H; exact H
        clear H
        have H := H1
        clear H1
        have H' := Aside0.mk H
        clear H
        go_wp2
        go_meet
        case rel => exact ⟨_, (y103), H', ⟨by first | omega | exact Nat.le_refl _⟩, ⟨by (with_reducible repeat (first | apply Kd.R_alloc | apply Kd.R_drewN | apply Kd.R_drew)); exact HO105.out⟩, ⟨by (with_reducible repeat (first | refine blk_drewN ?_ _ | refine blk_drew ?_ | refine blk_alloc ?_ _)); exact BK101.out⟩, ⟨by repeat (first | (with_reducible first | exact HB.out | apply below_alloc | apply pw_below_drewN | apply below_drew1 | refine below_set ?_ GE101.out) | exact HB.out)⟩⟩
    case rest =>
      as_aux_lemma =>
      clear HC5
      try clear c1
      try clear c2
      try clear p2
      try clear c3
      try clear c3b0
      try clear c3b1
      try clear c13
      try clear c14
      try clear c15
      try clear c16
      try clear hcz12_0
      try clear hcz12_1
      try clear hcz12_10
      try clear hcz12_11
      try clear hcz12_12
      try clear hcz12_13
      try clear hcz12_14
      try clear hcz12_15
      try clear hcz12_16
      try clear hcz12_2
      try clear hcz12_3
      try clear hcz12_4
      try clear hcz12_5
      try clear hcz12_6
      try clear hcz12_7
      try clear hcz12_8
      try clear hcz12_9
      try clear hcz16_0
      try clear hcz16_1
      try clear hcz16_10
      try clear hcz16_11
      try clear hcz16_12
      try clear hcz16_13
      try clear hcz16_14
      try clear hcz16_15
      try clear hcz16_16
      try clear hcz16_2
      try clear hcz16_3
      try clear hcz16_4
      try clear hcz16_5
      try clear hcz16_6
      try clear hcz16_7
      try clear hcz16_8
      try clear hcz16_9
      try clear hcz7_0
      try clear hcz7_1
      try clear hcz7_10
      try clear hcz7_11
      try clear hcz7_12
      try clear hcz7_13
      try clear hcz7_14
      try clear hcz7_15
      try clear hcz7_16
      try clear hcz7_2
      try clear hcz7_3
      try clear hcz7_4
      try clear hcz7_5
      try clear hcz7_6
      try clear hcz7_7
      try clear hcz7_8
      try clear hcz7_9
      try clear hcz9_0
      try clear hcz9_1
      try clear hcz9_10
      try clear hcz9_11
      try clear hcz9_12
      try clear hcz9_13
      try clear hcz9_14
      try clear hcz9_15
      try clear hcz9_16
      try clear hcz9_2
      try clear hcz9_3
      try clear hcz9_4
      try clear hcz9_5
      try clear hcz9_6
      try clear hcz9_7
      try clear hcz9_8
      try clear hcz9_9
      try clear hfz12_0
      try clear hfz12_1
      try clear hfz12_10
      try clear hfz12_11
      try clear hfz12_12
      try clear hfz12_13
      try clear hfz12_14
      try clear hfz12_15
      try clear hfz12_16
      try clear hfz12_2
      try clear hfz12_3
      try clear hfz12_4
      try clear hfz12_5
      try clear hfz12_6
      try clear hfz12_7
      try clear hfz12_8
      try clear hfz12_9
      try clear hfz16_0
      try clear hfz16_1
      try clear hfz16_10
      try clear hfz16_11
      try clear hfz16_12
      try clear hfz16_13
      try clear hfz16_14
      try clear hfz16_15
      try clear hfz16_16
      try clear hfz16_2
      try clear hfz16_3
      try clear hfz16_4
      try clear hfz16_5
      try clear hfz16_6
      try clear hfz16_7
      try clear hfz16_8
      try clear hfz16_9
      try clear hfz7_0
      try clear hfz7_1
      try clear hfz7_10
      try clear hfz7_11
      try clear hfz7_12
      try clear hfz7_13
      try clear hfz7_14
      try clear hfz7_15
      try clear hfz7_16
      try clear hfz7_2
      try clear hfz7_3
      try clear hfz7_4
      try clear hfz7_5
      try clear hfz7_6
      try clear hfz7_7
      try clear hfz7_8
      try clear hfz7_9
      try clear hfz9_0
      try clear hfz9_1
      try clear hfz9_10
      try clear hfz9_11
      try clear hfz9_12
      try clear hfz9_13
      try clear hfz9_14
      try clear hfz9_15
      try clear hfz9_16
      try clear hfz9_2
      try clear hfz9_3
      try clear hfz9_4
      try clear hfz9_5
      try clear hfz9_6
      try clear hfz9_7
      try clear hfz9_8
      try clear hfz9_9
      obtain ⟨kq, x4_4, HA, HJ4, HO_4, BK101, HB⟩ := hcut
      cases kq with
      | zero => exact absurd HA.out (by simp [icehouseref12_Bytes.j0])
      | succ kj4 =>
        have H := HA.out
        clear HA
        simp only [icehouseref12_Bytes.j0] at H
        have H' := Aside0.mk H
        clear H
        go_wp2
        go_loopg [5, 6] kj4 (fun kq v5 v6 w' => ∃ (x5_2 : List Int) (x6_2 : Int), v6 = .int .i64 x6_2 ∧ Aside0 (icehouseref12_Bytes.l0 kq x4_4 x5_2 x6_2 a0_0 a0_1 a0_2 a0_3 a0_4 a0_5 a0_6 a0_7 a0_8 a0_9 a0_10 a0_11 l0_12 l0_13 l0_14 a0_15 a0_16 = some (r1, r2)) ∧ Aside0 (kq ≤ kj4) ∧ Aside0 (Kd.R (Kd.int .i64) 3 w' w.heap.size (fun _ => True) u4 x4_4) ∧ Aside0 (Kd.R (Kd.int .u8) 5 w' w.heap.size (fun _ => True) v5 x5_2) ∧ Aside0 (w'.heap[gb101]? = some (.cells #[.int .i64 a0_0, .int .i64 a0_1, .int .i64 a0_2, .int .i64 a0_3, .int .i64 a0_4, .int .i64 a0_5, .bool a0_6, .string a0_7, .int .i64 a0_8, .int .i64 a0_9, .int .i64 a0_10, .bool a0_11, (.slice A0_12 l0_12.length c0_12), (.slice A0_13 l0_13.length c0_13), (.slice A0_14 l0_14.length c0_14), .int .i64 a0_15, .int .i64 a0_16] 34 (0, 0))) ∧ Aside0 (Below w.heap.size w w'))
        case atStart => exact ⟨(([] : List Int)), (0), (by first | rfl | (simp; done) | (simp [*]; done)), H', ⟨Nat.le_refl _⟩, ⟨by (with_reducible repeat (first | apply Kd.R_alloc | apply Kd.R_drewN | apply Kd.R_drew)); exact HO_4.out⟩, ⟨by first | exact Kd.R_nil _ _ _ _ _ | exact Kd.N_nil _ _ _ _ _ | exact Kd.V_nil _ _ _ _ _ | exact Kd.Q_nil _ _ _ _ _ | exact Kd.S_nil _ _ _ _ _⟩, ⟨by (with_reducible repeat (first | refine blk_drewN ?_ _ | refine blk_drew ?_ | refine blk_alloc ?_ _)); exact BK101.out⟩, ⟨by repeat (first | (with_reducible first | exact HB.out | apply below_alloc | apply pw_below_drewN | apply below_drew1 | refine below_set ?_ GE101.out) | exact HB.out)⟩⟩
        case round =>
          as_aux_lemma =>
          clear H'
          try clear c1
          try clear c2
          try clear p2
          try clear c3
          try clear c3b0
          try clear c3b1
          try clear c13
          try clear c14
          try clear c15
          try clear c16
          try clear hcz12_0
          try clear hcz12_1
          try clear hcz12_10
          try clear hcz12_11
          try clear hcz12_12
          try clear hcz12_13
          try clear hcz12_14
          try clear hcz12_15
          try clear hcz12_16
          try clear hcz12_2
          try clear hcz12_3
          try clear hcz12_4
          try clear hcz12_5
          try clear hcz12_6
          try clear hcz12_7
          try clear hcz12_8
          try clear hcz12_9
          try clear hcz16_0
          try clear hcz16_1
          try clear hcz16_10
          try clear hcz16_11
          try clear hcz16_12
          try clear hcz16_13
          try clear hcz16_14
          try clear hcz16_15
          try clear hcz16_16
          try clear hcz16_2
          try clear hcz16_3
          try clear hcz16_4
          try clear hcz16_5
          try clear hcz16_6
          try clear hcz16_7
          try clear hcz16_8
          try clear hcz16_9
          try clear hcz7_0
          try clear hcz7_1
          try clear hcz7_10
          try clear hcz7_11
          try clear hcz7_12
          try clear hcz7_13
          try clear hcz7_14
          try clear hcz7_15
          try clear hcz7_16
          try clear hcz7_2
          try clear hcz7_3
          try clear hcz7_4
          try clear hcz7_5
          try clear hcz7_6
          try clear hcz7_7
          try clear hcz7_8
          try clear hcz7_9
          try clear hcz9_0
          try clear hcz9_1
          try clear hcz9_10
          try clear hcz9_11
          try clear hcz9_12
          try clear hcz9_13
          try clear hcz9_14
          try clear hcz9_15
          try clear hcz9_16
          try clear hcz9_2
          try clear hcz9_3
          try clear hcz9_4
          try clear hcz9_5
          try clear hcz9_6
          try clear hcz9_7
          try clear hcz9_8
          try clear hcz9_9
          try clear hfz12_0
          try clear hfz12_1
          try clear hfz12_10
          try clear hfz12_11
          try clear hfz12_12
          try clear hfz12_13
          try clear hfz12_14
          try clear hfz12_15
          try clear hfz12_16
          try clear hfz12_2
          try clear hfz12_3
          try clear hfz12_4
          try clear hfz12_5
          try clear hfz12_6
          try clear hfz12_7
          try clear hfz12_8
          try clear hfz12_9
          try clear hfz16_0
          try clear hfz16_1
          try clear hfz16_10
          try clear hfz16_11
          try clear hfz16_12
          try clear hfz16_13
          try clear hfz16_14
          try clear hfz16_15
          try clear hfz16_16
          try clear hfz16_2
          try clear hfz16_3
          try clear hfz16_4
          try clear hfz16_5
          try clear hfz16_6
          try clear hfz16_7
          try clear hfz16_8
          try clear hfz16_9
          try clear hfz7_0
          try clear hfz7_1
          try clear hfz7_10
          try clear hfz7_11
          try clear hfz7_12
          try clear hfz7_13
          try clear hfz7_14
          try clear hfz7_15
          try clear hfz7_16
          try clear hfz7_2
          try clear hfz7_3
          try clear hfz7_4
          try clear hfz7_5
          try clear hfz7_6
          try clear hfz7_7
          try clear hfz7_8
          try clear hfz7_9
          try clear hfz9_0
          try clear hfz9_1
          try clear hfz9_10
          try clear hfz9_11
          try clear hfz9_12
          try clear hfz9_13
          try clear hfz9_14
          try clear hfz9_15
          try clear hfz9_16
          try clear hfz9_2
          try clear hfz9_3
          try clear hfz9_4
          try clear hfz9_5
          try clear hfz9_6
          try clear hfz9_7
          try clear hfz9_8
          try clear hfz9_9
          try clear p2
          obtain ⟨x5_2, x6_2, rfl, HA, HK2, HO_4, HO_5, BK101, HB⟩ := hrel
          cases gk with
          | zero => exact absurd HA.out (by simp [icehouseref12_Bytes.l0])
          | succ k2 =>
            have H := HA.out
            clear HA
            simp only [icehouseref12_Bytes.l0] at H
            by_cases c18 : x6_2 < (x4_4.length : Int)
            · as_aux_lemma =>
              rw [if_pos c18] at H
              have c18b0 : decide (x6_2 < (x4_4.length : Int)) = true := decide_eq_true c18
              clear c18
              by_cases c19 : 0 ≤ x6_2
              · as_aux_lemma =>
                rw [if_pos c19] at H
                have c19b0 : decide (0 ≤ x6_2) = true := decide_eq_true c19
                clear c19
                replace H := Option.bind_eq_some_iff.mp H
                obtain ⟨t111, A200, H⟩ := H
                replace H : (if x5_2.length + t111.length < 140737488355328 then (icehouseref12_Bytes.l0 k2 x4_4 (x5_2 ++ t111) (wrap64 (x6_2 + 1)) a0_0 a0_1 a0_2 a0_3 a0_4 a0_5 a0_6 a0_7 a0_8 a0_9 a0_10 a0_11 l0_12 l0_13 l0_14 a0_15 a0_16) else (none)) = some (r1, r2) := H
                have A20 := Aside0.mk A200
                clear A200
                by_cases c21 : x5_2.length + t111.length < 140737488355328
                · as_aux_lemma =>
                  rw [if_pos c21] at H
                  have LMc21 := Aside0.mk c21
                  clear c21
                  obtain ⟨y114, hy114⟩ : ∃ y_ : List Int, y_ = (x5_2 ++ t111) := ⟨_, rfl⟩
                  replace H : (icehouseref12_Bytes.l0 k2 x4_4 y114 (wrap64 (x6_2 + 1)) a0_0 a0_1 a0_2 a0_3 a0_4 a0_5 a0_6 a0_7 a0_8 a0_9 a0_10 a0_11 l0_12 l0_13 l0_14 a0_15 a0_16) = some (r1, r2) := by first | (rw [hy114]; with_reducible exact H) | (have H2_ := (Option.bind_some _ _).symm.trans H; rw [hy114]; with_reducible exact H2_) | (have H2_ := (Option.bind_some _ _).symm.trans H; with_reducible exact H2_) | with_reducible exact H | (rw [hy114]; exact H) | exact H
                  have Ny114 := Aside0.mk hy114
                  clear hy114
                  have H' := Aside0.mk H
                  clear H
                  obtain ⟨Ao22, co22, eo22⟩ := Kd.R_slice HO_4.out
                  subst eo22
                  have p110 : 0 ≤ (x6_2 : Int) := of_decide_eq_true (by first | (with_reducible assumption) | assumption)
                  have q110 : x6_2 < (x4_4.length : Int) := of_decide_eq_true (by first | (with_reducible assumption) | assumption)
                  obtain ⟨ad110, e110, hx110_0⟩ := Kd.at_int (Kd.R_reads' HO_4.out).2.2 x6_2 p110 q110
                  cases e110
                  replace p110 := eq_true p110
                  replace q110 := eq_true q110
                  go_wp2_with (first | ((with_reducible refine gate_callee (f := 33) rfl ?_); refine goesL_ (some 48) rfl rfl Tryd.func33 (by kernel_rfl) rfl #[.int .i64 (rd x4_4 x6_2)] rfl (by (try simp only [List.map_toArray, List.map_cons, List.map_nil]); first | done | rfl | (simp only [List.length_drop, List.length_take]; rfl)) ?_; (with_reducible refine (QR.icehouseref02_Num.calls k2 (rd x4_4 x6_2) t111 _ A20.out).mono ?_); rintro e w23 ⟨v112, rfl, ho0, hb⟩; refine ⟨_, rfl, ?_⟩; have n0_ := Aside0.mk (Kd.R_below (by (with_reducible repeat (first | apply Kd.R_alloc | apply Kd.R_drewN | apply Kd.R_drew)); exact HO_4.out) hb); have n1_ := Aside0.mk (Kd.R_elder' (by (with_reducible repeat (first | apply Kd.R_alloc | apply Kd.R_drewN | apply Kd.R_drew)); exact HO_5.out) (Kd.R_base ho0) hb); have n2_ := Aside0.mk (Kd.R_lower (Kd.R_new' ho0 (Kd.R_lt (by (with_reducible repeat (first | apply Kd.R_alloc | apply Kd.R_drewN | apply Kd.R_drew)); exact HO_5.out))) (below_size (by repeat (first | (with_reducible first | exact HB.out | apply below_alloc | apply pw_below_drewN | apply below_drew1 | refine below_set ?_ GE101.out) | exact HB.out)))); have n3_ := Aside0.mk (blk_below (g := gb101) (o := .cells #[.int .i64 a0_0, .int .i64 a0_1, .int .i64 a0_2, .int .i64 a0_3, .int .i64 a0_4, .int .i64 a0_5, .bool a0_6, .string a0_7, .int .i64 a0_8, .int .i64 a0_9, .int .i64 a0_10, .bool a0_11, .slice A0_12 l0_12.length c0_12, .slice A0_13 l0_13.length c0_13, .slice A0_14 l0_14.length c0_14, .int .i64 a0_15, .int .i64 a0_16] 34 (0, 0)) (by (with_reducible repeat (first | refine blk_drewN ?_ _ | refine blk_drew ?_ | refine blk_alloc ?_ _)); exact BK101.out) hb); have n4_ := Aside0.mk (below_step (by repeat (first | (with_reducible first | exact HB.out | apply below_alloc | apply pw_below_drewN | apply below_drew1 | refine below_set ?_ GE101.out) | exact HB.out)) hb); clear HO_4; clear HO_5; clear BK101; clear HB; have HO_4 := n0_; have HO_5 := n1_; have HO113 := n2_; have BK101 := n3_; have HB := n4_; clear n0_ n1_ n2_ n3_ n4_; (try clear hb); (try clear hb2); (try clear hk); (try clear hi); (try clear ho0); obtain ⟨Ao25, co25, eo25⟩ := Kd.R_slice HO113.out; subst eo25) | ((with_reducible refine gate_builtin (b := .append) (xs := #[.tmp 43, .tmp 48]) rfl ?_); at_builtin; refine Kd.R_append_rows (Kd.int .u8) (w0 := w) w.heap.size rfl (.tmp 43) (.tmp 48) 24 5 (.int .u8 0) 1 rfl Tryd.underlying24 info5 rfl (by decide) (by omega) u5 x5_2 t111 _ _ _ (fun k_ => some k_ ≠ (.slice Ao25 t111.length co25 : Value).ownBlock) (fun _ => False) rfl rfl ?aO ?aR (fun _ _ h => h) (fun _ h => h.elim) ?aF ?aB ?aS ?aL ?_; (case aR => repeat (first | exact (Kd.R_reads' HO113.out).2.2 | (with_reducible refine Kd.C_alloc ?_ _) | (with_reducible refine Kd.C_drewN ?_ _) | (with_reducible refine Kd.C_drew ?_))); (case aB => exact (by repeat (first | (with_reducible first | exact HB.out | apply below_alloc | apply pw_below_drewN | apply below_drew1 | refine below_set ?_ GE101.out) | exact HB.out))); (case aF => exact (fun k_ hk => Kd.fresh' (Kd.R_lt (by (with_reducible repeat (first | apply Kd.R_alloc | apply Kd.R_drewN | apply Kd.R_drew)); exact HO113.out)) k_ hk)); (case aO => exact (by (with_reducible repeat (first | apply Kd.R_alloc | apply Kd.R_drewN | apply Kd.R_drew)); exact Kd.R_mono HO_5.out (fun _ hk => hk.2))); (case aS => exact (below_size (by repeat (first | (with_reducible first | exact HB.out | apply below_alloc | apply pw_below_drewN | apply below_drew1 | refine below_set ?_ GE101.out) | exact HB.out)))); (case aL => have := LMc21.out; omega); intro v115 w24 ho hb hg hat; rw [← Ny114.out] at ho; have n0_ := Aside0.mk (Kd.R_over' (by (with_reducible repeat (first | apply Kd.R_alloc | apply Kd.R_drewN | apply Kd.R_drew)); exact HO_4.out) (Kd.R_typed (by (with_reducible repeat (first | apply Kd.R_alloc | apply Kd.R_drewN | apply Kd.R_drew)); exact HO_5.out)) (by decide) hg); have n1_ := Aside0.mk (blk_grown (g := gb101) (o := .cells #[.int .i64 a0_0, .int .i64 a0_1, .int .i64 a0_2, .int .i64 a0_3, .int .i64 a0_4, .int .i64 a0_5, .bool a0_6, .string a0_7, .int .i64 a0_8, .int .i64 a0_9, .int .i64 a0_10, .bool a0_11, .slice A0_12 l0_12.length c0_12, .slice A0_13 l0_13.length c0_13, .slice A0_14 l0_14.length c0_14, .int .i64 a0_15, .int .i64 a0_16] 34 (0, 0)) (by (with_reducible repeat (first | refine blk_drewN ?_ _ | refine blk_drew ?_ | refine blk_alloc ?_ _)); exact BK101.out) hg (Kd.R_ne HO_5.out BK101.out (by decide))); have n2_ := Aside0.mk (Kd.R_after (ok := (fun _ => True)) (by (with_reducible repeat (first | apply Kd.R_alloc | apply Kd.R_drewN | apply Kd.R_drew)); exact HO113.out) hg hat); have n3_ := Aside0.mk (hb); have n4_ := Aside0.mk (ho); clear HO_4; clear BK101; clear HO113; clear HB; clear HO_5; have HO_4 := n0_; have BK101 := n1_; have HO113 := n2_; have HB := n3_; have HO116 := n4_; clear n0_ n1_ n2_ n3_ n4_; clear ho hb hg hat))
                  go_roundg k2
                  case measure => have := HJ4.out; have := HK2.out; omega
                  case rel => exact ⟨(y114), (wrap64 (x6_2 + 1)), (by first | rfl | (simp; done) | (simp [*]; done)), H', ⟨by have := HJ4.out; have := HK2.out; omega⟩, ⟨by (with_reducible repeat (first | apply Kd.R_alloc | apply Kd.R_drewN | apply Kd.R_drew)); exact HO_4.out⟩, ⟨by (with_reducible repeat (first | apply Kd.R_alloc | apply Kd.R_drewN | apply Kd.R_drew)); exact Kd.R_mono HO116.out (fun _ hk => trivial)⟩, ⟨by (with_reducible repeat (first | refine blk_drewN ?_ _ | refine blk_drew ?_ | refine blk_alloc ?_ _)); exact BK101.out⟩, ⟨by repeat (first | (with_reducible first | exact HB.out | apply below_alloc | apply pw_below_drewN | apply below_drew1 | refine below_set ?_ GE101.out) | exact HB.out)⟩⟩
                · as_aux_lemma =>
                  rw [if_neg c21] at H
                  exact absurd H (by simp)
              · as_aux_lemma =>
                rw [if_neg c19] at H
                exact absurd H (by simp)
            · as_aux_lemma =>
              rw [if_neg c18] at H
              have c18b0 : decide (x6_2 < (x4_4.length : Int)) = false := decide_eq_false c18
              clear c18
              replace H := Option.bind_eq_some_iff.mp H
              obtain ⟨t117, A260, H⟩ := H
              replace H : (if t117 = true then (if a0_6 = true then (if x5_2.length < 140737488355328 then (icehouseref12_Bytes.j2 k2 (x5_2 ++ [1]) a0_0 a0_1 a0_2 a0_3 a0_4 a0_5 a0_6 a0_7 a0_8 a0_9 a0_10 a0_11 l0_12 l0_13 l0_14 a0_15 a0_16) else (none)) else (if x5_2.length < 140737488355328 then (icehouseref12_Bytes.j2 k2 (x5_2 ++ [0]) a0_0 a0_1 a0_2 a0_3 a0_4 a0_5 a0_6 a0_7 a0_8 a0_9 a0_10 a0_11 l0_12 l0_13 l0_14 a0_15 a0_16) else (none))) else (icehouseref12_Bytes.j2 k2 x5_2 a0_0 a0_1 a0_2 a0_3 a0_4 a0_5 a0_6 a0_7 a0_8 a0_9 a0_10 a0_11 l0_12 l0_13 l0_14 a0_15 a0_16)) = some (r1, r2) := H
              have A26 := Aside0.mk A260
              clear A260
              have HC27 := Aside0.mk H
              clear H
              obtain ⟨Ao28, co28, eo28⟩ := Kd.R_slice HO_4.out
              subst eo28
              have hcz29_0 : wr.cell? ⟨gb101, 0, none⟩ = some (.int .i64 a0_0) := (blk_cell BK101.out 0).trans rfl
              have hcz29_1 : wr.cell? ⟨gb101, 1, none⟩ = some (.int .i64 a0_1) := (blk_cell BK101.out 1).trans rfl
              have hcz29_2 : wr.cell? ⟨gb101, 2, none⟩ = some (.int .i64 a0_2) := (blk_cell BK101.out 2).trans rfl
              have hcz29_3 : wr.cell? ⟨gb101, 3, none⟩ = some (.int .i64 a0_3) := (blk_cell BK101.out 3).trans rfl
              have hcz29_4 : wr.cell? ⟨gb101, 4, none⟩ = some (.int .i64 a0_4) := (blk_cell BK101.out 4).trans rfl
              have hcz29_5 : wr.cell? ⟨gb101, 5, none⟩ = some (.int .i64 a0_5) := (blk_cell BK101.out 5).trans rfl
              have hcz29_6 : wr.cell? ⟨gb101, 6, none⟩ = some (.bool a0_6) := (blk_cell BK101.out 6).trans rfl
              have hcz29_7 : wr.cell? ⟨gb101, 7, none⟩ = some (.string a0_7) := (blk_cell BK101.out 7).trans rfl
              have hcz29_8 : wr.cell? ⟨gb101, 8, none⟩ = some (.int .i64 a0_8) := (blk_cell BK101.out 8).trans rfl
              have hcz29_9 : wr.cell? ⟨gb101, 9, none⟩ = some (.int .i64 a0_9) := (blk_cell BK101.out 9).trans rfl
              have hcz29_10 : wr.cell? ⟨gb101, 10, none⟩ = some (.int .i64 a0_10) := (blk_cell BK101.out 10).trans rfl
              have hcz29_11 : wr.cell? ⟨gb101, 11, none⟩ = some (.bool a0_11) := (blk_cell BK101.out 11).trans rfl
              have hcz29_12 : wr.cell? ⟨gb101, 12, none⟩ = some (.slice A0_12 l0_12.length c0_12) := (blk_cell BK101.out 12).trans rfl
              have hcz29_13 : wr.cell? ⟨gb101, 13, none⟩ = some (.slice A0_13 l0_13.length c0_13) := (blk_cell BK101.out 13).trans rfl
              have hcz29_14 : wr.cell? ⟨gb101, 14, none⟩ = some (.slice A0_14 l0_14.length c0_14) := (blk_cell BK101.out 14).trans rfl
              have hcz29_15 : wr.cell? ⟨gb101, 15, none⟩ = some (.int .i64 a0_15) := (blk_cell BK101.out 15).trans rfl
              have hcz29_16 : wr.cell? ⟨gb101, 16, none⟩ = some (.int .i64 a0_16) := (blk_cell BK101.out 16).trans rfl
              have hfz29_0 := blk_frozen BK101.out 0
              have hfz29_1 := blk_frozen BK101.out 1
              have hfz29_2 := blk_frozen BK101.out 2
              have hfz29_3 := blk_frozen BK101.out 3
              have hfz29_4 := blk_frozen BK101.out 4
              have hfz29_5 := blk_frozen BK101.out 5
              have hfz29_6 := blk_frozen BK101.out 6
              have hfz29_7 := blk_frozen BK101.out 7
              have hfz29_8 := blk_frozen BK101.out 8
              have hfz29_9 := blk_frozen BK101.out 9
              have hfz29_10 := blk_frozen BK101.out 10
              have hfz29_11 := blk_frozen BK101.out 11
              have hfz29_12 := blk_frozen BK101.out 12
              have hfz29_13 := blk_frozen BK101.out 13
              have hfz29_14 := blk_frozen BK101.out 14
              have hfz29_15 := blk_frozen BK101.out 15
              have hfz29_16 := blk_frozen BK101.out 16
              go_upto_if 52 with (first | ((with_reducible refine gate_callee (f := 21) rfl ?_); refine goesL_ (some 52) rfl rfl Tryd.func21 (by kernel_rfl) rfl #[.int .i64 a0_0, .string (⟨#[102]⟩ : ByteArray)] rfl (by (try simp only [List.map_toArray, List.map_cons, List.map_nil]); first | done | rfl | (simp only [List.length_drop, List.length_take]; rfl)) ?_; (with_reducible refine (QR.icehouseref12_Has.calls k2 a0_0 (⟨#[102]⟩ : ByteArray) t117 _ A26.out).mono ?_); rintro e w30 ⟨rfl, hb⟩; refine ⟨_, rfl, ?_⟩; have n0_ := Aside0.mk (Kd.R_below (by (with_reducible repeat (first | apply Kd.R_alloc | apply Kd.R_drewN | apply Kd.R_drew)); exact HO_4.out) hb); have n1_ := Aside0.mk (Kd.R_below (by (with_reducible repeat (first | apply Kd.R_alloc | apply Kd.R_drewN | apply Kd.R_drew)); exact HO_5.out) hb); have n2_ := Aside0.mk (blk_below (g := gb101) (o := .cells #[.int .i64 a0_0, .int .i64 a0_1, .int .i64 a0_2, .int .i64 a0_3, .int .i64 a0_4, .int .i64 a0_5, .bool a0_6, .string a0_7, .int .i64 a0_8, .int .i64 a0_9, .int .i64 a0_10, .bool a0_11, .slice A0_12 l0_12.length c0_12, .slice A0_13 l0_13.length c0_13, .slice A0_14 l0_14.length c0_14, .int .i64 a0_15, .int .i64 a0_16] 34 (0, 0)) (by (with_reducible repeat (first | refine blk_drewN ?_ _ | refine blk_drew ?_ | refine blk_alloc ?_ _)); exact BK101.out) hb); have n3_ := Aside0.mk (below_step (by repeat (first | (with_reducible first | exact HB.out | apply below_alloc | apply pw_below_drewN | apply below_drew1 | refine below_set ?_ GE101.out) | exact HB.out)) hb); clear HO_4; clear HO_5; clear BK101; clear HB; have HO_4 := n0_; have HO_5 := n1_; have BK101 := n2_; have HB := n3_; clear n0_ n1_ n2_ n3_; (try clear hb); (try clear hb2); (try clear hk); (try clear hi)))
              (try simp only [Act.put, List.setIfInBounds_toArray, List.set_cons_zero, List.set_cons_succ])
              go_cut [5] (fun v5 wc => ∃ (kq : Nat) (x5_26 : List Int), Aside0 (icehouseref12_Bytes.j2 kq x5_26 a0_0 a0_1 a0_2 a0_3 a0_4 a0_5 a0_6 a0_7 a0_8 a0_9 a0_10 a0_11 l0_12 l0_13 l0_14 a0_15 a0_16 = some (r1, r2)) ∧ Aside0 (kq ≤ k2) ∧ Aside0 (Kd.R (Kd.int .u8) 5 wc w.heap.size (fun _ => True) v5 x5_26) ∧ Aside0 (wc.heap[gb101]? = some (.cells #[.int .i64 a0_0, .int .i64 a0_1, .int .i64 a0_2, .int .i64 a0_3, .int .i64 a0_4, .int .i64 a0_5, .bool a0_6, .string a0_7, .int .i64 a0_8, .int .i64 a0_9, .int .i64 a0_10, .bool a0_11, (.slice A0_12 l0_12.length c0_12), (.slice A0_13 l0_13.length c0_13), (.slice A0_14 l0_14.length c0_14), .int .i64 a0_15, .int .i64 a0_16] 34 (0, 0))) ∧ Aside0 (Below w.heap.size w wc))
              case first =>
                as_aux_lemma =>
                have H := HC27.out
                clear HC27
                by_cases c31 : t117 = true
                · subst c31
                  have H1 : (if a0_6 = true then (if x5_2.length < 140737488355328 then (icehouseref12_Bytes.j2 k2 (x5_2 ++ [1]) a0_0 a0_1 a0_2 a0_3 a0_4 a0_5 a0_6 a0_7 a0_8 a0_9 a0_10 a0_11 l0_12 l0_13 l0_14 a0_15 a0_16) else (none)) else (if x5_2.length < 140737488355328 then (icehouseref12_Bytes.j2 k2 (x5_2 ++ [0]) a0_0 a0_1 a0_2 a0_3 a0_4 a0_5 a0_6 a0_7 a0_8 a0_9 a0_10 a0_11 l0_12 l0_13 l0_14 a0_15 a0_16) else (none))) = some (r1, r2) := by rw [if_pos rfl] at H; exact H
                  clear H
                  have H := H1
                  clear H1
                  by_cases c32 : a0_6 = true
                  · subst c32
                    have H1 : (if x5_2.length < 140737488355328 then (icehouseref12_Bytes.j2 k2 (x5_2 ++ [1]) a0_0 a0_1 a0_2 a0_3 a0_4 a0_5 true a0_7 a0_8 a0_9 a0_10 a0_11 l0_12 l0_13 l0_14 a0_15 a0_16) else (none)) = some (r1, r2) := by rw [if_pos rfl] at H; exact H
                    clear H
                    have H := H1
                    clear H1
                    by_cases c33 : x5_2.length < 140737488355328
                    · as_aux_lemma =>
                      rw [if_pos c33] at H
                      have LMc33 := Aside0.mk c33
                      clear c33
                      obtain ⟨y118, hy118⟩ : ∃ y_ : List Int, y_ = (x5_2 ++ [1]) := ⟨_, rfl⟩
                      replace H : (icehouseref12_Bytes.j2 k2 y118 a0_0 a0_1 a0_2 a0_3 a0_4 a0_5 true a0_7 a0_8 a0_9 a0_10 a0_11 l0_12 l0_13 l0_14 a0_15 a0_16) = some (r1, r2) := by first | (rw [hy118]; with_reducible exact H) | (have H2_ := (Option.bind_some _ _).symm.trans H; rw [hy118]; with_reducible exact H2_) | (have H2_ := (Option.bind_some _ _).symm.trans H; with_reducible exact H2_) | with_reducible exact H | (rw [hy118]; exact H) | exact H
                      have Ny118 := Aside0.mk hy118
                      clear hy118
                      have H' := Aside0.mk H
                      clear H
                      have hcz34_0 : w30.cell? ⟨gb101, 0, none⟩ = some (.int .i64 a0_0) := (blk_cell BK101.out 0).trans rfl
                      have hcz34_1 : w30.cell? ⟨gb101, 1, none⟩ = some (.int .i64 a0_1) := (blk_cell BK101.out 1).trans rfl
                      have hcz34_2 : w30.cell? ⟨gb101, 2, none⟩ = some (.int .i64 a0_2) := (blk_cell BK101.out 2).trans rfl
                      have hcz34_3 : w30.cell? ⟨gb101, 3, none⟩ = some (.int .i64 a0_3) := (blk_cell BK101.out 3).trans rfl
                      have hcz34_4 : w30.cell? ⟨gb101, 4, none⟩ = some (.int .i64 a0_4) := (blk_cell BK101.out 4).trans rfl
                      have hcz34_5 : w30.cell? ⟨gb101, 5, none⟩ = some (.int .i64 a0_5) := (blk_cell BK101.out 5).trans rfl
                      have hcz34_6 : w30.cell? ⟨gb101, 6, none⟩ = some (.bool true) := (blk_cell BK101.out 6).trans rfl
                      have hcz34_7 : w30.cell? ⟨gb101, 7, none⟩ = some (.string a0_7) := (blk_cell BK101.out 7).trans rfl
                      have hcz34_8 : w30.cell? ⟨gb101, 8, none⟩ = some (.int .i64 a0_8) := (blk_cell BK101.out 8).trans rfl
                      have hcz34_9 : w30.cell? ⟨gb101, 9, none⟩ = some (.int .i64 a0_9) := (blk_cell BK101.out 9).trans rfl
                      have hcz34_10 : w30.cell? ⟨gb101, 10, none⟩ = some (.int .i64 a0_10) := (blk_cell BK101.out 10).trans rfl
                      have hcz34_11 : w30.cell? ⟨gb101, 11, none⟩ = some (.bool a0_11) := (blk_cell BK101.out 11).trans rfl
                      have hcz34_12 : w30.cell? ⟨gb101, 12, none⟩ = some (.slice A0_12 l0_12.length c0_12) := (blk_cell BK101.out 12).trans rfl
                      have hcz34_13 : w30.cell? ⟨gb101, 13, none⟩ = some (.slice A0_13 l0_13.length c0_13) := (blk_cell BK101.out 13).trans rfl
                      have hcz34_14 : w30.cell? ⟨gb101, 14, none⟩ = some (.slice A0_14 l0_14.length c0_14) := (blk_cell BK101.out 14).trans rfl
                      have hcz34_15 : w30.cell? ⟨gb101, 15, none⟩ = some (.int .i64 a0_15) := (blk_cell BK101.out 15).trans rfl
                      have hcz34_16 : w30.cell? ⟨gb101, 16, none⟩ = some (.int .i64 a0_16) := (blk_cell BK101.out 16).trans rfl
                      have hfz34_0 := blk_frozen BK101.out 0
                      have hfz34_1 := blk_frozen BK101.out 1
                      have hfz34_2 := blk_frozen BK101.out 2
                      have hfz34_3 := blk_frozen BK101.out 3
                      have hfz34_4 := blk_frozen BK101.out 4
                      have hfz34_5 := blk_frozen BK101.out 5
                      have hfz34_6 := blk_frozen BK101.out 6
                      have hfz34_7 := blk_frozen BK101.out 7
                      have hfz34_8 := blk_frozen BK101.out 8
                      have hfz34_9 := blk_frozen BK101.out 9
                      have hfz34_10 := blk_frozen BK101.out 10
                      have hfz34_11 := blk_frozen BK101.out 11
                      have hfz34_12 := blk_frozen BK101.out 12
                      have hfz34_13 := blk_frozen BK101.out 13
                      have hfz34_14 := blk_frozen BK101.out 14
                      have hfz34_15 := blk_frozen BK101.out 15
                      have hfz34_16 := blk_frozen BK101.out 16
                      go_wp2_with (first | ((with_reducible refine gate_builtin (b := .append) (xs := #[.tmp 55, .tmp 57]) rfl ?_); at_builtin; refine Kd.R_append (Kd.int .u8) (w0 := w) w.heap.size rfl (.tmp 55) (.tmp 57) 24 5 (.int .u8 0) 1 rfl Tryd.underlying24 info5 rfl (by decide) (by omega) u5 x5_2 1 [.int .u8 1] (fun _ => True) (fun _ => False) rfl rfl ?aP (fun _ hk => hk.elim) ?aF ?aO ?aB ?aS ?aL ?_; (case aP => exact rfl); (case aB => exact (by repeat (first | (with_reducible first | exact HB.out | apply below_alloc | apply pw_below_drewN | apply below_drew1 | refine below_set ?_ GE101.out) | exact HB.out))); (case aF => exact (fun _ _ => trivial)); (case aO => exact (by (with_reducible repeat (first | apply Kd.R_alloc | apply Kd.R_drewN | apply Kd.R_drew)); exact HO_5.out)); (case aS => exact (below_size (by repeat (first | (with_reducible first | exact HB.out | apply below_alloc | apply pw_below_drewN | apply below_drew1 | refine below_set ?_ GE101.out) | exact HB.out)))); (case aL => have := LMc33.out; omega); intro v119 w35 ho hb hg hat; rw [← Ny118.out] at ho; have n0_ := Aside0.mk (Kd.R_over' (by (with_reducible repeat (first | apply Kd.R_alloc | apply Kd.R_drewN | apply Kd.R_drew)); exact HO_4.out) (Kd.R_typed (by (with_reducible repeat (first | apply Kd.R_alloc | apply Kd.R_drewN | apply Kd.R_drew)); exact HO_5.out)) (by decide) hg); have n1_ := Aside0.mk (blk_grown (g := gb101) (o := .cells #[.int .i64 a0_0, .int .i64 a0_1, .int .i64 a0_2, .int .i64 a0_3, .int .i64 a0_4, .int .i64 a0_5, .bool true, .string a0_7, .int .i64 a0_8, .int .i64 a0_9, .int .i64 a0_10, .bool a0_11, .slice A0_12 l0_12.length c0_12, .slice A0_13 l0_13.length c0_13, .slice A0_14 l0_14.length c0_14, .int .i64 a0_15, .int .i64 a0_16] 34 (0, 0)) (by (with_reducible repeat (first | refine blk_drewN ?_ _ | refine blk_drew ?_ | refine blk_alloc ?_ _)); exact BK101.out) hg (Kd.R_ne HO_5.out BK101.out (by decide))); have n2_ := Aside0.mk (hb); have n3_ := Aside0.mk (ho); clear HO_4; clear BK101; clear HB; clear HO_5; have HO_4 := n0_; have BK101 := n1_; have HB := n2_; have HO120 := n3_; clear n0_ n1_ n2_ n3_; clear ho hb hg hat))
                      go_meet
                      case rel => exact ⟨_, (y118), H', ⟨by have := HJ4.out; have := HK2.out; first | omega | exact Nat.le_refl _⟩, ⟨by (with_reducible repeat (first | apply Kd.R_alloc | apply Kd.R_drewN | apply Kd.R_drew)); exact HO120.out⟩, ⟨by (with_reducible repeat (first | refine blk_drewN ?_ _ | refine blk_drew ?_ | refine blk_alloc ?_ _)); exact BK101.out⟩, ⟨by repeat (first | (with_reducible first | exact HB.out | apply below_alloc | apply pw_below_drewN | apply below_drew1 | refine below_set ?_ GE101.out) | exact HB.out)⟩⟩
                    · as_aux_lemma =>
                      rw [if_neg c33] at H
                      exact absurd H (by simp)
                  · replace c32 := Bool.eq_false_iff.mpr c32
                    subst c32
                    have H1 : (if x5_2.length < 140737488355328 then (icehouseref12_Bytes.j2 k2 (x5_2 ++ [0]) a0_0 a0_1 a0_2 a0_3 a0_4 a0_5 false a0_7 a0_8 a0_9 a0_10 a0_11 l0_12 l0_13 l0_14 a0_15 a0_16) else (none)) = some (r1, r2) := by rw [if_neg (show ¬ (false = true) by decide)] at H; exact H
                    clear H
                    have H := H1
                    clear H1
                    by_cases c36 : x5_2.length < 140737488355328
                    · as_aux_lemma =>
                      rw [if_pos c36] at H
                      have LMc36 := Aside0.mk c36
                      clear c36
                      obtain ⟨y121, hy121⟩ : ∃ y_ : List Int, y_ = (x5_2 ++ [0]) := ⟨_, rfl⟩
                      replace H : (icehouseref12_Bytes.j2 k2 y121 a0_0 a0_1 a0_2 a0_3 a0_4 a0_5 false a0_7 a0_8 a0_9 a0_10 a0_11 l0_12 l0_13 l0_14 a0_15 a0_16) = some (r1, r2) := by first | (rw [hy121]; with_reducible exact H) | (have H2_ := (Option.bind_some _ _).symm.trans H; rw [hy121]; with_reducible exact H2_) | (have H2_ := (Option.bind_some _ _).symm.trans H; with_reducible exact H2_) | with_reducible exact H | (rw [hy121]; exact H) | exact H
                      have Ny121 := Aside0.mk hy121
                      clear hy121
                      have H' := Aside0.mk H
                      clear H
                      have hcz37_0 : w30.cell? ⟨gb101, 0, none⟩ = some (.int .i64 a0_0) := (blk_cell BK101.out 0).trans rfl
                      have hcz37_1 : w30.cell? ⟨gb101, 1, none⟩ = some (.int .i64 a0_1) := (blk_cell BK101.out 1).trans rfl
                      have hcz37_2 : w30.cell? ⟨gb101, 2, none⟩ = some (.int .i64 a0_2) := (blk_cell BK101.out 2).trans rfl
                      have hcz37_3 : w30.cell? ⟨gb101, 3, none⟩ = some (.int .i64 a0_3) := (blk_cell BK101.out 3).trans rfl
                      have hcz37_4 : w30.cell? ⟨gb101, 4, none⟩ = some (.int .i64 a0_4) := (blk_cell BK101.out 4).trans rfl
                      have hcz37_5 : w30.cell? ⟨gb101, 5, none⟩ = some (.int .i64 a0_5) := (blk_cell BK101.out 5).trans rfl
                      have hcz37_6 : w30.cell? ⟨gb101, 6, none⟩ = some (.bool false) := (blk_cell BK101.out 6).trans rfl
                      have hcz37_7 : w30.cell? ⟨gb101, 7, none⟩ = some (.string a0_7) := (blk_cell BK101.out 7).trans rfl
                      have hcz37_8 : w30.cell? ⟨gb101, 8, none⟩ = some (.int .i64 a0_8) := (blk_cell BK101.out 8).trans rfl
                      have hcz37_9 : w30.cell? ⟨gb101, 9, none⟩ = some (.int .i64 a0_9) := (blk_cell BK101.out 9).trans rfl
                      have hcz37_10 : w30.cell? ⟨gb101, 10, none⟩ = some (.int .i64 a0_10) := (blk_cell BK101.out 10).trans rfl
                      have hcz37_11 : w30.cell? ⟨gb101, 11, none⟩ = some (.bool a0_11) := (blk_cell BK101.out 11).trans rfl
                      have hcz37_12 : w30.cell? ⟨gb101, 12, none⟩ = some (.slice A0_12 l0_12.length c0_12) := (blk_cell BK101.out 12).trans rfl
                      have hcz37_13 : w30.cell? ⟨gb101, 13, none⟩ = some (.slice A0_13 l0_13.length c0_13) := (blk_cell BK101.out 13).trans rfl
                      have hcz37_14 : w30.cell? ⟨gb101, 14, none⟩ = some (.slice A0_14 l0_14.length c0_14) := (blk_cell BK101.out 14).trans rfl
                      have hcz37_15 : w30.cell? ⟨gb101, 15, none⟩ = some (.int .i64 a0_15) := (blk_cell BK101.out 15).trans rfl
                      have hcz37_16 : w30.cell? ⟨gb101, 16, none⟩ = some (.int .i64 a0_16) := (blk_cell BK101.out 16).trans rfl
                      have hfz37_0 := blk_frozen BK101.out 0
                      have hfz37_1 := blk_frozen BK101.out 1
                      have hfz37_2 := blk_frozen BK101.out 2
                      have hfz37_3 := blk_frozen BK101.out 3
                      have hfz37_4 := blk_frozen BK101.out 4
                      have hfz37_5 := blk_frozen BK101.out 5
                      have hfz37_6 := blk_frozen BK101.out 6
                      have hfz37_7 := blk_frozen BK101.out 7
                      have hfz37_8 := blk_frozen BK101.out 8
                      have hfz37_9 := blk_frozen BK101.out 9
                      have hfz37_10 := blk_frozen BK101.out 10
                      have hfz37_11 := blk_frozen BK101.out 11
                      have hfz37_12 := blk_frozen BK101.out 12
                      have hfz37_13 := blk_frozen BK101.out 13
                      have hfz37_14 := blk_frozen BK101.out 14
                      have hfz37_15 := blk_frozen BK101.out 15
                      have hfz37_16 := blk_frozen BK101.out 16
                      go_wp2_with (first | ((with_reducible refine gate_builtin (b := .append) (xs := #[.tmp 55, .tmp 57]) rfl ?_); at_builtin; refine Kd.R_append (Kd.int .u8) (w0 := w) w.heap.size rfl (.tmp 55) (.tmp 57) 24 5 (.int .u8 0) 1 rfl Tryd.underlying24 info5 rfl (by decide) (by omega) u5 x5_2 0 [.int .u8 0] (fun _ => True) (fun _ => False) rfl rfl ?aP (fun _ hk => hk.elim) ?aF ?aO ?aB ?aS ?aL ?_; (case aP => exact rfl); (case aB => exact (by repeat (first | (with_reducible first | exact HB.out | apply below_alloc | apply pw_below_drewN | apply below_drew1 | refine below_set ?_ GE101.out) | exact HB.out))); (case aF => exact (fun _ _ => trivial)); (case aO => exact (by (with_reducible repeat (first | apply Kd.R_alloc | apply Kd.R_drewN | apply Kd.R_drew)); exact HO_5.out)); (case aS => exact (below_size (by repeat (first | (with_reducible first | exact HB.out | apply below_alloc | apply pw_below_drewN | apply below_drew1 | refine below_set ?_ GE101.out) | exact HB.out)))); (case aL => have := LMc36.out; omega); intro v122 w38 ho hb hg hat; rw [← Ny121.out] at ho; have n0_ := Aside0.mk (Kd.R_over' (by (with_reducible repeat (first | apply Kd.R_alloc | apply Kd.R_drewN | apply Kd.R_drew)); exact HO_4.out) (Kd.R_typed (by (with_reducible repeat (first | apply Kd.R_alloc | apply Kd.R_drewN | apply Kd.R_drew)); exact HO_5.out)) (by decide) hg); have n1_ := Aside0.mk (blk_grown (g := gb101) (o := .cells #[.int .i64 a0_0, .int .i64 a0_1, .int .i64 a0_2, .int .i64 a0_3, .int .i64 a0_4, .int .i64 a0_5, .bool false, .string a0_7, .int .i64 a0_8, .int .i64 a0_9, .int .i64 a0_10, .bool a0_11, .slice A0_12 l0_12.length c0_12, .slice A0_13 l0_13.length c0_13, .slice A0_14 l0_14.length c0_14, .int .i64 a0_15, .int .i64 a0_16] 34 (0, 0)) (by (with_reducible repeat (first | refine blk_drewN ?_ _ | refine blk_drew ?_ | refine blk_alloc ?_ _)); exact BK101.out) hg (Kd.R_ne HO_5.out BK101.out (by decide))); have n2_ := Aside0.mk (hb); have n3_ := Aside0.mk (ho); clear HO_4; clear BK101; clear HB; clear HO_5; have HO_4 := n0_; have BK101 := n1_; have HB := n2_; have HO123 := n3_; clear n0_ n1_ n2_ n3_; clear ho hb hg hat))
                      go_meet
                      case rel => exact ⟨_, (y121), H', ⟨by have := HJ4.out; have := HK2.out; first | omega | exact Nat.le_refl _⟩, ⟨by (with_reducible repeat (first | apply Kd.R_alloc | apply Kd.R_drewN | apply Kd.R_drew)); exact HO123.out⟩, ⟨by (with_reducible repeat (first | refine blk_drewN ?_ _ | refine blk_drew ?_ | refine blk_alloc ?_ _)); exact BK101.out⟩, ⟨by repeat (first | (with_reducible first | exact HB.out | apply below_alloc | apply pw_below_drewN | apply below_drew1 | refine below_set ?_ GE101.out) | exact HB.out)⟩⟩
                    · as_aux_lemma =>
                      rw [if_neg c36] at H
                      exact absurd H (by simp)
                · replace c31 := Bool.eq_false_iff.mpr c31
                  subst c31
                  have H1 : (icehouseref12_Bytes.j2 k2 x5_2 a0_0 a0_1 a0_2 a0_3 a0_4 a0_5 a0_6 a0_7 a0_8 a0_9 a0_10 a0_11 l0_12 l0_13 l0_14 a0_15 a0_16) = some (r1, r2) := by rw [if_neg (show ¬ (false = true) by decide)] at H; exact H
                  clear H
                  have H := H1
                  clear H1
                  have H' := Aside0.mk H
                  clear H
                  go_wp2
                  go_meet
                  case rel => exact ⟨_, (x5_2), H', ⟨by have := HJ4.out; have := HK2.out; first | omega | exact Nat.le_refl _⟩, ⟨by (with_reducible repeat (first | apply Kd.R_alloc | apply Kd.R_drewN | apply Kd.R_drew)); exact HO_5.out⟩, ⟨by (with_reducible repeat (first | refine blk_drewN ?_ _ | refine blk_drew ?_ | refine blk_alloc ?_ _)); exact BK101.out⟩, ⟨by repeat (first | (with_reducible first | exact HB.out | apply below_alloc | apply pw_below_drewN | apply below_drew1 | refine below_set ?_ GE101.out) | exact HB.out)⟩⟩
              case rest =>
                as_aux_lemma =>
                clear HC27
                try clear c1
                try clear p1
                try clear q1
                try clear hx1
                try clear c2
                try clear p2
                try clear c3
                try clear c3b0
                try clear c3b1
                try clear p6
                try clear p11
                try clear q11
                try clear hx11
                try clear c13
                try clear c14
                try clear c15
                try clear c16
                try clear c18
                try clear c18b0
                try clear c19
                try clear c19b0
                try clear c21
                try clear c31
                try clear c32
                try clear c33
                try clear c36
                try clear hcz12_0
                try clear hcz12_1
                try clear hcz12_10
                try clear hcz12_11
                try clear hcz12_12
                try clear hcz12_13
                try clear hcz12_14
                try clear hcz12_15
                try clear hcz12_16
                try clear hcz12_2
                try clear hcz12_3
                try clear hcz12_4
                try clear hcz12_5
                try clear hcz12_6
                try clear hcz12_7
                try clear hcz12_8
                try clear hcz12_9
                try clear hcz16_0
                try clear hcz16_1
                try clear hcz16_10
                try clear hcz16_11
                try clear hcz16_12
                try clear hcz16_13
                try clear hcz16_14
                try clear hcz16_15
                try clear hcz16_16
                try clear hcz16_2
                try clear hcz16_3
                try clear hcz16_4
                try clear hcz16_5
                try clear hcz16_6
                try clear hcz16_7
                try clear hcz16_8
                try clear hcz16_9
                try clear hcz29_0
                try clear hcz29_1
                try clear hcz29_10
                try clear hcz29_11
                try clear hcz29_12
                try clear hcz29_13
                try clear hcz29_14
                try clear hcz29_15
                try clear hcz29_16
                try clear hcz29_2
                try clear hcz29_3
                try clear hcz29_4
                try clear hcz29_5
                try clear hcz29_6
                try clear hcz29_7
                try clear hcz29_8
                try clear hcz29_9
                try clear hcz34_0
                try clear hcz34_1
                try clear hcz34_10
                try clear hcz34_11
                try clear hcz34_12
                try clear hcz34_13
                try clear hcz34_14
                try clear hcz34_15
                try clear hcz34_16
                try clear hcz34_2
                try clear hcz34_3
                try clear hcz34_4
                try clear hcz34_5
                try clear hcz34_6
                try clear hcz34_7
                try clear hcz34_8
                try clear hcz34_9
                try clear hcz37_0
                try clear hcz37_1
                try clear hcz37_10
                try clear hcz37_11
                try clear hcz37_12
                try clear hcz37_13
                try clear hcz37_14
                try clear hcz37_15
                try clear hcz37_16
                try clear hcz37_2
                try clear hcz37_3
                try clear hcz37_4
                try clear hcz37_5
                try clear hcz37_6
                try clear hcz37_7
                try clear hcz37_8
                try clear hcz37_9
                try clear hcz7_0
                try clear hcz7_1
                try clear hcz7_10
                try clear hcz7_11
                try clear hcz7_12
                try clear hcz7_13
                try clear hcz7_14
                try clear hcz7_15
                try clear hcz7_16
                try clear hcz7_2
                try clear hcz7_3
                try clear hcz7_4
                try clear hcz7_5
                try clear hcz7_6
                try clear hcz7_7
                try clear hcz7_8
                try clear hcz7_9
                try clear hcz9_0
                try clear hcz9_1
                try clear hcz9_10
                try clear hcz9_11
                try clear hcz9_12
                try clear hcz9_13
                try clear hcz9_14
                try clear hcz9_15
                try clear hcz9_16
                try clear hcz9_2
                try clear hcz9_3
                try clear hcz9_4
                try clear hcz9_5
                try clear hcz9_6
                try clear hcz9_7
                try clear hcz9_8
                try clear hcz9_9
                try clear hfz12_0
                try clear hfz12_1
                try clear hfz12_10
                try clear hfz12_11
                try clear hfz12_12
                try clear hfz12_13
                try clear hfz12_14
                try clear hfz12_15
                try clear hfz12_16
                try clear hfz12_2
                try clear hfz12_3
                try clear hfz12_4
                try clear hfz12_5
                try clear hfz12_6
                try clear hfz12_7
                try clear hfz12_8
                try clear hfz12_9
                try clear hfz16_0
                try clear hfz16_1
                try clear hfz16_10
                try clear hfz16_11
                try clear hfz16_12
                try clear hfz16_13
                try clear hfz16_14
                try clear hfz16_15
                try clear hfz16_16
                try clear hfz16_2
                try clear hfz16_3
                try clear hfz16_4
                try clear hfz16_5
                try clear hfz16_6
                try clear hfz16_7
                try clear hfz16_8
                try clear hfz16_9
                try clear hfz29_0
                try clear hfz29_1
                try clear hfz29_10
                try clear hfz29_11
                try clear hfz29_12
                try clear hfz29_13
                try clear hfz29_14
                try clear hfz29_15
                try clear hfz29_16
                try clear hfz29_2
                try clear hfz29_3
                try clear hfz29_4
                try clear hfz29_5
                try clear hfz29_6
                try clear hfz29_7
                try clear hfz29_8
                try clear hfz29_9
                try clear hfz34_0
                try clear hfz34_1
                try clear hfz34_10
                try clear hfz34_11
                try clear hfz34_12
                try clear hfz34_13
                try clear hfz34_14
                try clear hfz34_15
                try clear hfz34_16
                try clear hfz34_2
                try clear hfz34_3
                try clear hfz34_4
                try clear hfz34_5
                try clear hfz34_6
                try clear hfz34_7
                try clear hfz34_8
                try clear hfz34_9
                try clear hfz37_0
                try clear hfz37_1
                try clear hfz37_10
                try clear hfz37_11
                try clear hfz37_12
                try clear hfz37_13
                try clear hfz37_14
                try clear hfz37_15
                try clear hfz37_16
                try clear hfz37_2
                try clear hfz37_3
                try clear hfz37_4
                try clear hfz37_5
                try clear hfz37_6
                try clear hfz37_7
                try clear hfz37_8
                try clear hfz37_9
                try clear hfz7_0
                try clear hfz7_1
                try clear hfz7_10
                try clear hfz7_11
                try clear hfz7_12
                try clear hfz7_13
                try clear hfz7_14
                try clear hfz7_15
                try clear hfz7_16
                try clear hfz7_2
                try clear hfz7_3
                try clear hfz7_4
                try clear hfz7_5
                try clear hfz7_6
                try clear hfz7_7
                try clear hfz7_8
                try clear hfz7_9
                try clear hfz9_0
                try clear hfz9_1
                try clear hfz9_10
                try clear hfz9_11
                try clear hfz9_12
                try clear hfz9_13
                try clear hfz9_14
                try clear hfz9_15
                try clear hfz9_16
                try clear hfz9_2
                try clear hfz9_3
                try clear hfz9_4
                try clear hfz9_5
                try clear hfz9_6
                try clear hfz9_7
                try clear hfz9_8
                try clear hfz9_9
                try clear hx110_0
                try clear p110
                try clear p2
                try clear q110
                obtain ⟨kq, x5_26, HA, HJ26, HO_5, BK101, HB⟩ := hcut
                cases kq with
                | zero => exact absurd HA.out (by simp [icehouseref12_Bytes.j2])
                | succ kj26 =>
                  have H := HA.out
                  clear HA
                  simp only [icehouseref12_Bytes.j2] at H
                  replace H := Option.bind_eq_some_iff.mp H
                  obtain ⟨t124, A390, H⟩ := H
                  replace H : (if t124 = true then ((Fb.icehouseref03_Bytes.f a0_7 a0_8 a0_9 a0_10 a0_11 l0_12).bind fun bt125 => (if x5_26.length + bt125.1.length < 140737488355328 then (icehouseref12_Bytes.j3 kj26 (x5_26 ++ bt125.1) a0_0 a0_1 a0_2 a0_3 a0_4 a0_5 a0_6 a0_7 a0_8 a0_9 a0_10 a0_11 l0_12 l0_13 l0_14 a0_15 a0_16) else (none))) else (icehouseref12_Bytes.j3 kj26 x5_26 a0_0 a0_1 a0_2 a0_3 a0_4 a0_5 a0_6 a0_7 a0_8 a0_9 a0_10 a0_11 l0_12 l0_13 l0_14 a0_15 a0_16)) = some (r1, r2) := H
                  have A39 := Aside0.mk A390
                  clear A390
                  have HC40 := Aside0.mk H
                  clear H
                  have hcz41_0 : wc.cell? ⟨gb101, 0, none⟩ = some (.int .i64 a0_0) := (blk_cell BK101.out 0).trans rfl
                  have hcz41_1 : wc.cell? ⟨gb101, 1, none⟩ = some (.int .i64 a0_1) := (blk_cell BK101.out 1).trans rfl
                  have hcz41_2 : wc.cell? ⟨gb101, 2, none⟩ = some (.int .i64 a0_2) := (blk_cell BK101.out 2).trans rfl
                  have hcz41_3 : wc.cell? ⟨gb101, 3, none⟩ = some (.int .i64 a0_3) := (blk_cell BK101.out 3).trans rfl
                  have hcz41_4 : wc.cell? ⟨gb101, 4, none⟩ = some (.int .i64 a0_4) := (blk_cell BK101.out 4).trans rfl
                  have hcz41_5 : wc.cell? ⟨gb101, 5, none⟩ = some (.int .i64 a0_5) := (blk_cell BK101.out 5).trans rfl
                  have hcz41_6 : wc.cell? ⟨gb101, 6, none⟩ = some (.bool a0_6) := (blk_cell BK101.out 6).trans rfl
                  have hcz41_7 : wc.cell? ⟨gb101, 7, none⟩ = some (.string a0_7) := (blk_cell BK101.out 7).trans rfl
                  have hcz41_8 : wc.cell? ⟨gb101, 8, none⟩ = some (.int .i64 a0_8) := (blk_cell BK101.out 8).trans rfl
                  have hcz41_9 : wc.cell? ⟨gb101, 9, none⟩ = some (.int .i64 a0_9) := (blk_cell BK101.out 9).trans rfl
                  have hcz41_10 : wc.cell? ⟨gb101, 10, none⟩ = some (.int .i64 a0_10) := (blk_cell BK101.out 10).trans rfl
                  have hcz41_11 : wc.cell? ⟨gb101, 11, none⟩ = some (.bool a0_11) := (blk_cell BK101.out 11).trans rfl
                  have hcz41_12 : wc.cell? ⟨gb101, 12, none⟩ = some (.slice A0_12 l0_12.length c0_12) := (blk_cell BK101.out 12).trans rfl
                  have hcz41_13 : wc.cell? ⟨gb101, 13, none⟩ = some (.slice A0_13 l0_13.length c0_13) := (blk_cell BK101.out 13).trans rfl
                  have hcz41_14 : wc.cell? ⟨gb101, 14, none⟩ = some (.slice A0_14 l0_14.length c0_14) := (blk_cell BK101.out 14).trans rfl
                  have hcz41_15 : wc.cell? ⟨gb101, 15, none⟩ = some (.int .i64 a0_15) := (blk_cell BK101.out 15).trans rfl
                  have hcz41_16 : wc.cell? ⟨gb101, 16, none⟩ = some (.int .i64 a0_16) := (blk_cell BK101.out 16).trans rfl
                  have hfz41_0 := blk_frozen BK101.out 0
                  have hfz41_1 := blk_frozen BK101.out 1
                  have hfz41_2 := blk_frozen BK101.out 2
                  have hfz41_3 := blk_frozen BK101.out 3
                  have hfz41_4 := blk_frozen BK101.out 4
                  have hfz41_5 := blk_frozen BK101.out 5
                  have hfz41_6 := blk_frozen BK101.out 6
                  have hfz41_7 := blk_frozen BK101.out 7
                  have hfz41_8 := blk_frozen BK101.out 8
                  have hfz41_9 := blk_frozen BK101.out 9
                  have hfz41_10 := blk_frozen BK101.out 10
                  have hfz41_11 := blk_frozen BK101.out 11
                  have hfz41_12 := blk_frozen BK101.out 12
                  have hfz41_13 := blk_frozen BK101.out 13
                  have hfz41_14 := blk_frozen BK101.out 14
                  have hfz41_15 := blk_frozen BK101.out 15
                  have hfz41_16 := blk_frozen BK101.out 16
                  go_upto_if 61 with (first | ((with_reducible refine gate_callee (f := 21) rfl ?_); refine goesL_ (some 61) rfl rfl Tryd.func21 (by kernel_rfl) rfl #[.int .i64 a0_0, .string (⟨#[101]⟩ : ByteArray)] rfl (by (try simp only [List.map_toArray, List.map_cons, List.map_nil]); first | done | rfl | (simp only [List.length_drop, List.length_take]; rfl)) ?_; (with_reducible refine (QR.icehouseref12_Has.calls kj26 a0_0 (⟨#[101]⟩ : ByteArray) t124 _ A39.out).mono ?_); rintro e w42 ⟨rfl, hb⟩; refine ⟨_, rfl, ?_⟩; have n0_ := Aside0.mk (Kd.R_below (by (with_reducible repeat (first | apply Kd.R_alloc | apply Kd.R_drewN | apply Kd.R_drew)); exact HO_5.out) hb); have n1_ := Aside0.mk (blk_below (g := gb101) (o := .cells #[.int .i64 a0_0, .int .i64 a0_1, .int .i64 a0_2, .int .i64 a0_3, .int .i64 a0_4, .int .i64 a0_5, .bool a0_6, .string a0_7, .int .i64 a0_8, .int .i64 a0_9, .int .i64 a0_10, .bool a0_11, .slice A0_12 l0_12.length c0_12, .slice A0_13 l0_13.length c0_13, .slice A0_14 l0_14.length c0_14, .int .i64 a0_15, .int .i64 a0_16] 34 (0, 0)) (by (with_reducible repeat (first | refine blk_drewN ?_ _ | refine blk_drew ?_ | refine blk_alloc ?_ _)); exact BK101.out) hb); have n2_ := Aside0.mk (below_step (by repeat (first | (with_reducible first | exact HB.out | apply below_alloc | apply pw_below_drewN | apply below_drew1 | refine below_set ?_ GE101.out) | exact HB.out)) hb); clear HO_5; clear BK101; clear HB; have HO_5 := n0_; have BK101 := n1_; have HB := n2_; clear n0_ n1_ n2_; (try clear hb); (try clear hb2); (try clear hk); (try clear hi)))
                  (try simp only [Act.put, List.setIfInBounds_toArray, List.set_cons_zero, List.set_cons_succ])
                  go_cut [5] (fun v5 wc => ∃ (kq : Nat) (x5_39 : List Int), Aside0 (icehouseref12_Bytes.j3 kq x5_39 a0_0 a0_1 a0_2 a0_3 a0_4 a0_5 a0_6 a0_7 a0_8 a0_9 a0_10 a0_11 l0_12 l0_13 l0_14 a0_15 a0_16 = some (r1, r2)) ∧ Aside0 (kq ≤ kj26) ∧ Aside0 (Kd.R (Kd.int .u8) 5 wc w.heap.size (fun _ => True) v5 x5_39) ∧ Aside0 (wc.heap[gb101]? = some (.cells #[.int .i64 a0_0, .int .i64 a0_1, .int .i64 a0_2, .int .i64 a0_3, .int .i64 a0_4, .int .i64 a0_5, .bool a0_6, .string a0_7, .int .i64 a0_8, .int .i64 a0_9, .int .i64 a0_10, .bool a0_11, (.slice A0_12 l0_12.length c0_12), (.slice A0_13 l0_13.length c0_13), (.slice A0_14 l0_14.length c0_14), .int .i64 a0_15, .int .i64 a0_16] 34 (0, 0))) ∧ Aside0 (Below w.heap.size w wc))
                  case first =>
                    as_aux_lemma =>
                    have H := HC40.out
                    clear HC40
                    by_cases c43 : t124 = true
                    · subst c43
                      have H1 : ((Fb.icehouseref03_Bytes.f a0_7 a0_8 a0_9 a0_10 a0_11 l0_12).bind fun bt125 => (if x5_26.length + bt125.1.length < 140737488355328 then (icehouseref12_Bytes.j3 kj26 (x5_26 ++ bt125.1) a0_0 a0_1 a0_2 a0_3 a0_4 a0_5 a0_6 a0_7 a0_8 a0_9 a0_10 a0_11 l0_12 l0_13 l0_14 a0_15 a0_16) else (none))) = some (r1, r2) := by rw [if_pos rfl] at H; exact H
                      clear H
                      have H := H1
                      clear H1
                      replace H := Option.bind_eq_some_iff.mp H
                      obtain ⟨⟨t125, t128⟩, A440, H⟩ := H
                      replace H : (if x5_26.length + t125.length < 140737488355328 then (icehouseref12_Bytes.j3 kj26 (x5_26 ++ t125) a0_0 a0_1 a0_2 a0_3 a0_4 a0_5 a0_6 a0_7 a0_8 a0_9 a0_10 a0_11 l0_12 l0_13 l0_14 a0_15 a0_16) else (none)) = some (r1, r2) := H
                      have A44 := Aside0.mk A440
                      clear A440
                      by_cases c45 : x5_26.length + t125.length < 140737488355328
                      · as_aux_lemma =>
                        rw [if_pos c45] at H
                        have LMc45 := Aside0.mk c45
                        clear c45
                        obtain ⟨y129, hy129⟩ : ∃ y_ : List Int, y_ = (x5_26 ++ t125) := ⟨_, rfl⟩
                        replace H : (icehouseref12_Bytes.j3 kj26 y129 a0_0 a0_1 a0_2 a0_3 a0_4 a0_5 a0_6 a0_7 a0_8 a0_9 a0_10 a0_11 l0_12 l0_13 l0_14 a0_15 a0_16) = some (r1, r2) := by first | (rw [hy129]; with_reducible exact H) | (have H2_ := (Option.bind_some _ _).symm.trans H; rw [hy129]; with_reducible exact H2_) | (have H2_ := (Option.bind_some _ _).symm.trans H; with_reducible exact H2_) | with_reducible exact H | (rw [hy129]; exact H) | exact H
                        have Ny129 := Aside0.mk hy129
                        clear hy129
                        have H' := Aside0.mk H
                        clear H
                        have hcz46_0 : w42.cell? ⟨gb101, 0, none⟩ = some (.int .i64 a0_0) := (blk_cell BK101.out 0).trans rfl
                        have hcz46_1 : w42.cell? ⟨gb101, 1, none⟩ = some (.int .i64 a0_1) := (blk_cell BK101.out 1).trans rfl
                        have hcz46_2 : w42.cell? ⟨gb101, 2, none⟩ = some (.int .i64 a0_2) := (blk_cell BK101.out 2).trans rfl
                        have hcz46_3 : w42.cell? ⟨gb101, 3, none⟩ = some (.int .i64 a0_3) := (blk_cell BK101.out 3).trans rfl
                        have hcz46_4 : w42.cell? ⟨gb101, 4, none⟩ = some (.int .i64 a0_4) := (blk_cell BK101.out 4).trans rfl
                        have hcz46_5 : w42.cell? ⟨gb101, 5, none⟩ = some (.int .i64 a0_5) := (blk_cell BK101.out 5).trans rfl
                        have hcz46_6 : w42.cell? ⟨gb101, 6, none⟩ = some (.bool a0_6) := (blk_cell BK101.out 6).trans rfl
                        have hcz46_7 : w42.cell? ⟨gb101, 7, none⟩ = some (.string a0_7) := (blk_cell BK101.out 7).trans rfl
                        have hcz46_8 : w42.cell? ⟨gb101, 8, none⟩ = some (.int .i64 a0_8) := (blk_cell BK101.out 8).trans rfl
                        have hcz46_9 : w42.cell? ⟨gb101, 9, none⟩ = some (.int .i64 a0_9) := (blk_cell BK101.out 9).trans rfl
                        have hcz46_10 : w42.cell? ⟨gb101, 10, none⟩ = some (.int .i64 a0_10) := (blk_cell BK101.out 10).trans rfl
                        have hcz46_11 : w42.cell? ⟨gb101, 11, none⟩ = some (.bool a0_11) := (blk_cell BK101.out 11).trans rfl
                        have hcz46_12 : w42.cell? ⟨gb101, 12, none⟩ = some (.slice A0_12 l0_12.length c0_12) := (blk_cell BK101.out 12).trans rfl
                        have hcz46_13 : w42.cell? ⟨gb101, 13, none⟩ = some (.slice A0_13 l0_13.length c0_13) := (blk_cell BK101.out 13).trans rfl
                        have hcz46_14 : w42.cell? ⟨gb101, 14, none⟩ = some (.slice A0_14 l0_14.length c0_14) := (blk_cell BK101.out 14).trans rfl
                        have hcz46_15 : w42.cell? ⟨gb101, 15, none⟩ = some (.int .i64 a0_15) := (blk_cell BK101.out 15).trans rfl
                        have hcz46_16 : w42.cell? ⟨gb101, 16, none⟩ = some (.int .i64 a0_16) := (blk_cell BK101.out 16).trans rfl
                        have hfz46_0 := blk_frozen BK101.out 0
                        have hfz46_1 := blk_frozen BK101.out 1
                        have hfz46_2 := blk_frozen BK101.out 2
                        have hfz46_3 := blk_frozen BK101.out 3
                        have hfz46_4 := blk_frozen BK101.out 4
                        have hfz46_5 := blk_frozen BK101.out 5
                        have hfz46_6 := blk_frozen BK101.out 6
                        have hfz46_7 := blk_frozen BK101.out 7
                        have hfz46_8 := blk_frozen BK101.out 8
                        have hfz46_9 := blk_frozen BK101.out 9
                        have hfz46_10 := blk_frozen BK101.out 10
                        have hfz46_11 := blk_frozen BK101.out 11
                        have hfz46_12 := blk_frozen BK101.out 12
                        have hfz46_13 := blk_frozen BK101.out 13
                        have hfz46_14 := blk_frozen BK101.out 14
                        have hfz46_15 := blk_frozen BK101.out 15
                        have hfz46_16 := blk_frozen BK101.out 16
                        go_wp2_with (first | ((with_reducible refine gate_callee (f := 34) rfl ?_); refine goesL_ (some 65) rfl rfl Tryd.func34 (by kernel_rfl) rfl #[.agg #[.string a0_7, .int .i64 a0_8, .int .i64 a0_9, .int .i64 a0_10, .bool a0_11, .slice A0_12 l0_12.length c0_12]] rfl (by (try simp only [List.map_toArray, List.map_cons, List.map_nil]); first | done | rfl | (simp only [List.length_drop, List.length_take]; rfl)) ?_; (with_reducible refine (Fb.icehouseref03_Bytes.calls a0_7 a0_8 a0_9 a0_10 a0_11 _ _ l0_12 t125 t128 _ ?side1 ?side2 A44.out).mono ?_); (case side1 => repeat (first | exact (Kd.C_below HR0_12.out HB.out) | (with_reducible refine Kd.C_alloc ?_ _) | (with_reducible refine Kd.C_drewN ?_ _) | (with_reducible refine Kd.C_drew ?_))); (case side2 => exact HC0_12.out); rintro e w47 ⟨v126, rfl, ho0, hb⟩; refine ⟨_, rfl, ?_⟩; have n0_ := Aside0.mk (Kd.R_elder' (by (with_reducible repeat (first | apply Kd.R_alloc | apply Kd.R_drewN | apply Kd.R_drew)); exact HO_5.out) (Kd.R_base ho0) hb); have n1_ := Aside0.mk (Kd.R_lower (Kd.R_new' ho0 (Kd.R_lt (by (with_reducible repeat (first | apply Kd.R_alloc | apply Kd.R_drewN | apply Kd.R_drew)); exact HO_5.out))) (below_size (by repeat (first | (with_reducible first | exact HB.out | apply below_alloc | apply pw_below_drewN | apply below_drew1 | refine below_set ?_ GE101.out) | exact HB.out)))); have n2_ := Aside0.mk (blk_below (g := gb101) (o := .cells #[.int .i64 a0_0, .int .i64 a0_1, .int .i64 a0_2, .int .i64 a0_3, .int .i64 a0_4, .int .i64 a0_5, .bool a0_6, .string a0_7, .int .i64 a0_8, .int .i64 a0_9, .int .i64 a0_10, .bool a0_11, .slice A0_12 l0_12.length c0_12, .slice A0_13 l0_13.length c0_13, .slice A0_14 l0_14.length c0_14, .int .i64 a0_15, .int .i64 a0_16] 34 (0, 0)) (by (with_reducible repeat (first | refine blk_drewN ?_ _ | refine blk_drew ?_ | refine blk_alloc ?_ _)); exact BK101.out) hb); have n3_ := Aside0.mk (below_step (by repeat (first | (with_reducible first | exact HB.out | apply below_alloc | apply pw_below_drewN | apply below_drew1 | refine below_set ?_ GE101.out) | exact HB.out)) hb); clear HO_5; clear BK101; clear HB; have HO_5 := n0_; have HO127 := n1_; have BK101 := n2_; have HB := n3_; clear n0_ n1_ n2_ n3_; (try clear hb); (try clear hb2); (try clear hk); (try clear hi); (try clear ho0); obtain ⟨Ao49, co49, eo49⟩ := Kd.R_slice HO127.out; subst eo49) | ((with_reducible refine gate_builtin (b := .append) (xs := #[.tmp 68, .tmp 69]) rfl ?_); at_builtin; refine Kd.R_append_rows (Kd.int .u8) (w0 := w) w.heap.size rfl (.tmp 68) (.tmp 69) 24 5 (.int .u8 0) 1 rfl Tryd.underlying24 info5 rfl (by decide) (by omega) u5 x5_26 t125 _ _ _ (fun k_ => some k_ ≠ (.slice Ao49 t125.length co49 : Value).ownBlock) (fun _ => False) rfl rfl ?aO ?aR (fun _ _ h => h) (fun _ h => h.elim) ?aF ?aB ?aS ?aL ?_; (case aR => repeat (first | exact (Kd.R_reads' HO127.out).2.2 | (with_reducible refine Kd.C_alloc ?_ _) | (with_reducible refine Kd.C_drewN ?_ _) | (with_reducible refine Kd.C_drew ?_))); (case aB => exact (by repeat (first | (with_reducible first | exact HB.out | apply below_alloc | apply pw_below_drewN | apply below_drew1 | refine below_set ?_ GE101.out) | exact HB.out))); (case aF => exact (fun k_ hk => Kd.fresh' (Kd.R_lt (by (with_reducible repeat (first | apply Kd.R_alloc | apply Kd.R_drewN | apply Kd.R_drew)); exact HO127.out)) k_ hk)); (case aO => exact (by (with_reducible repeat (first | apply Kd.R_alloc | apply Kd.R_drewN | apply Kd.R_drew)); exact Kd.R_mono HO_5.out (fun _ hk => hk.2))); (case aS => exact (below_size (by repeat (first | (with_reducible first | exact HB.out | apply below_alloc | apply pw_below_drewN | apply below_drew1 | refine below_set ?_ GE101.out) | exact HB.out)))); (case aL => have := LMc45.out; omega); intro v130 w48 ho hb hg hat; rw [← Ny129.out] at ho; have n0_ := Aside0.mk (blk_grown (g := gb101) (o := .cells #[.int .i64 a0_0, .int .i64 a0_1, .int .i64 a0_2, .int .i64 a0_3, .int .i64 a0_4, .int .i64 a0_5, .bool a0_6, .string a0_7, .int .i64 a0_8, .int .i64 a0_9, .int .i64 a0_10, .bool a0_11, .slice A0_12 l0_12.length c0_12, .slice A0_13 l0_13.length c0_13, .slice A0_14 l0_14.length c0_14, .int .i64 a0_15, .int .i64 a0_16] 34 (0, 0)) (by (with_reducible repeat (first | refine blk_drewN ?_ _ | refine blk_drew ?_ | refine blk_alloc ?_ _)); exact BK101.out) hg (Kd.R_ne HO_5.out BK101.out (by decide))); have n1_ := Aside0.mk (Kd.R_after (ok := (fun _ => True)) (by (with_reducible repeat (first | apply Kd.R_alloc | apply Kd.R_drewN | apply Kd.R_drew)); exact HO127.out) hg hat); have n2_ := Aside0.mk (hb); have n3_ := Aside0.mk (ho); clear BK101; clear HO127; clear HB; clear HO_5; have BK101 := n0_; have HO127 := n1_; have HB := n2_; have HO131 := n3_; clear n0_ n1_ n2_ n3_; clear ho hb hg hat))
                        go_meet
                        case rel => exact ⟨_, (y129), H', ⟨by have := HJ4.out; have := HK2.out; have := HJ26.out; first | omega | exact Nat.le_refl _⟩, ⟨by (with_reducible repeat (first | apply Kd.R_alloc | apply Kd.R_drewN | apply Kd.R_drew)); exact Kd.R_mono HO131.out (fun _ hk => trivial)⟩, ⟨by (with_reducible repeat (first | refine blk_drewN ?_ _ | refine blk_drew ?_ | refine blk_alloc ?_ _)); exact BK101.out⟩, ⟨by repeat (first | (with_reducible first | exact HB.out | apply below_alloc | apply pw_below_drewN | apply below_drew1 | refine below_set ?_ GE101.out) | exact HB.out)⟩⟩
                      · as_aux_lemma =>
                        rw [if_neg c45] at H
                        exact absurd H (by simp)
                    · replace c43 := Bool.eq_false_iff.mpr c43
                      subst c43
                      have H1 : (icehouseref12_Bytes.j3 kj26 x5_26 a0_0 a0_1 a0_2 a0_3 a0_4 a0_5 a0_6 a0_7 a0_8 a0_9 a0_10 a0_11 l0_12 l0_13 l0_14 a0_15 a0_16) = some (r1, r2) := by rw [if_neg (show ¬ (false = true) by decide)] at H; exact H
                      clear H
                      have H := H1
                      clear H1
                      have H' := Aside0.mk H
                      clear H
                      go_wp2
                      go_meet
                      case rel => exact ⟨_, (x5_26), H', ⟨by have := HJ4.out; have := HK2.out; have := HJ26.out; first | omega | exact Nat.le_refl _⟩, ⟨by (with_reducible repeat (first | apply Kd.R_alloc | apply Kd.R_drewN | apply Kd.R_drew)); exact HO_5.out⟩, ⟨by (with_reducible repeat (first | refine blk_drewN ?_ _ | refine blk_drew ?_ | refine blk_alloc ?_ _)); exact BK101.out⟩, ⟨by repeat (first | (with_reducible first | exact HB.out | apply below_alloc | apply pw_below_drewN | apply below_drew1 | refine below_set ?_ GE101.out) | exact HB.out)⟩⟩
                  case rest =>
                    as_aux_lemma =>
                    clear HC40
                    try clear c1
                    try clear p1
                    try clear q1
                    try clear hx1
                    try clear c2
                    try clear p2
                    try clear c3
                    try clear c3b0
                    try clear c3b1
                    try clear c4
                    try clear p6
                    try clear p11
                    try clear q11
                    try clear hx11
                    try clear c13
                    try clear c14
                    try clear c15
                    try clear c16
                    try clear c18
                    try clear c18b0
                    try clear c19
                    try clear c19b0
                    try clear c21
                    try clear c31
                    try clear c32
                    try clear c33
                    try clear c34
                    try clear c36
                    try clear c43
                    try clear c45
                    try clear hcz12_0
                    try clear hcz12_1
                    try clear hcz12_10
                    try clear hcz12_11
                    try clear hcz12_12
                    try clear hcz12_13
                    try clear hcz12_14
                    try clear hcz12_15
                    try clear hcz12_16
                    try clear hcz12_2
                    try clear hcz12_3
                    try clear hcz12_4
                    try clear hcz12_5
                    try clear hcz12_6
                    try clear hcz12_7
                    try clear hcz12_8
                    try clear hcz12_9
                    try clear hcz16_0
                    try clear hcz16_1
                    try clear hcz16_10
                    try clear hcz16_11
                    try clear hcz16_12
                    try clear hcz16_13
                    try clear hcz16_14
                    try clear hcz16_15
                    try clear hcz16_16
                    try clear hcz16_2
                    try clear hcz16_3
                    try clear hcz16_4
                    try clear hcz16_5
                    try clear hcz16_6
                    try clear hcz16_7
                    try clear hcz16_8
                    try clear hcz16_9
                    try clear hcz29_0
                    try clear hcz29_1
                    try clear hcz29_10
                    try clear hcz29_11
                    try clear hcz29_12
                    try clear hcz29_13
                    try clear hcz29_14
                    try clear hcz29_15
                    try clear hcz29_16
                    try clear hcz29_2
                    try clear hcz29_3
                    try clear hcz29_4
                    try clear hcz29_5
                    try clear hcz29_6
                    try clear hcz29_7
                    try clear hcz29_8
                    try clear hcz29_9
                    try clear hcz34_0
                    try clear hcz34_1
                    try clear hcz34_10
                    try clear hcz34_11
                    try clear hcz34_12
                    try clear hcz34_13
                    try clear hcz34_14
                    try clear hcz34_15
                    try clear hcz34_16
                    try clear hcz34_2
                    try clear hcz34_3
                    try clear hcz34_4
                    try clear hcz34_5
                    try clear hcz34_6
                    try clear hcz34_7
                    try clear hcz34_8
                    try clear hcz34_9
                    try clear hcz37_0
                    try clear hcz37_1
                    try clear hcz37_10
                    try clear hcz37_11
                    try clear hcz37_12
                    try clear hcz37_13
                    try clear hcz37_14
                    try clear hcz37_15
                    try clear hcz37_16
                    try clear hcz37_2
                    try clear hcz37_3
                    try clear hcz37_4
                    try clear hcz37_5
                    try clear hcz37_6
                    try clear hcz37_7
                    try clear hcz37_8
                    try clear hcz37_9
                    try clear hcz41_0
                    try clear hcz41_1
                    try clear hcz41_10
                    try clear hcz41_11
                    try clear hcz41_12
                    try clear hcz41_13
                    try clear hcz41_14
                    try clear hcz41_15
                    try clear hcz41_16
                    try clear hcz41_2
                    try clear hcz41_3
                    try clear hcz41_4
                    try clear hcz41_5
                    try clear hcz41_6
                    try clear hcz41_7
                    try clear hcz41_8
                    try clear hcz41_9
                    try clear hcz46_0
                    try clear hcz46_1
                    try clear hcz46_10
                    try clear hcz46_11
                    try clear hcz46_12
                    try clear hcz46_13
                    try clear hcz46_14
                    try clear hcz46_15
                    try clear hcz46_16
                    try clear hcz46_2
                    try clear hcz46_3
                    try clear hcz46_4
                    try clear hcz46_5
                    try clear hcz46_6
                    try clear hcz46_7
                    try clear hcz46_8
                    try clear hcz46_9
                    try clear hcz7_0
                    try clear hcz7_1
                    try clear hcz7_10
                    try clear hcz7_11
                    try clear hcz7_12
                    try clear hcz7_13
                    try clear hcz7_14
                    try clear hcz7_15
                    try clear hcz7_16
                    try clear hcz7_2
                    try clear hcz7_3
                    try clear hcz7_4
                    try clear hcz7_5
                    try clear hcz7_6
                    try clear hcz7_7
                    try clear hcz7_8
                    try clear hcz7_9
                    try clear hcz9_0
                    try clear hcz9_1
                    try clear hcz9_10
                    try clear hcz9_11
                    try clear hcz9_12
                    try clear hcz9_13
                    try clear hcz9_14
                    try clear hcz9_15
                    try clear hcz9_16
                    try clear hcz9_2
                    try clear hcz9_3
                    try clear hcz9_4
                    try clear hcz9_5
                    try clear hcz9_6
                    try clear hcz9_7
                    try clear hcz9_8
                    try clear hcz9_9
                    try clear hfz12_0
                    try clear hfz12_1
                    try clear hfz12_10
                    try clear hfz12_11
                    try clear hfz12_12
                    try clear hfz12_13
                    try clear hfz12_14
                    try clear hfz12_15
                    try clear hfz12_16
                    try clear hfz12_2
                    try clear hfz12_3
                    try clear hfz12_4
                    try clear hfz12_5
                    try clear hfz12_6
                    try clear hfz12_7
                    try clear hfz12_8
                    try clear hfz12_9
                    try clear hfz16_0
                    try clear hfz16_1
                    try clear hfz16_10
                    try clear hfz16_11
                    try clear hfz16_12
                    try clear hfz16_13
                    try clear hfz16_14
                    try clear hfz16_15
                    try clear hfz16_16
                    try clear hfz16_2
                    try clear hfz16_3
                    try clear hfz16_4
                    try clear hfz16_5
                    try clear hfz16_6
                    try clear hfz16_7
                    try clear hfz16_8
                    try clear hfz16_9
                    try clear hfz29_0
                    try clear hfz29_1
                    try clear hfz29_10
                    try clear hfz29_11
                    try clear hfz29_12
                    try clear hfz29_13
                    try clear hfz29_14
                    try clear hfz29_15
                    try clear hfz29_16
                    try clear hfz29_2
                    try clear hfz29_3
                    try clear hfz29_4
                    try clear hfz29_5
                    try clear hfz29_6
                    try clear hfz29_7
                    try clear hfz29_8
                    try clear hfz29_9
                    try clear hfz34_0
                    try clear hfz34_1
                    try clear hfz34_10
                    try clear hfz34_11
                    try clear hfz34_12
                    try clear hfz34_13
                    try clear hfz34_14
                    try clear hfz34_15
                    try clear hfz34_16
                    try clear hfz34_2
                    try clear hfz34_3
                    try clear hfz34_4
                    try clear hfz34_5
                    try clear hfz34_6
                    try clear hfz34_7
                    try clear hfz34_8
                    try clear hfz34_9
                    try clear hfz37_0
                    try clear hfz37_1
                    try clear hfz37_10
                    try clear hfz37_11
                    try clear hfz37_12
                    try clear hfz37_13
                    try clear hfz37_14
                    try clear hfz37_15
                    try clear hfz37_16
                    try clear hfz37_2
                    try clear hfz37_3
                    try clear hfz37_4
                    try clear hfz37_5
                    try clear hfz37_6
                    try clear hfz37_7
                    try clear hfz37_8
                    try clear hfz37_9
                    try clear hfz41_0
                    try clear hfz41_1
                    try clear hfz41_10
                    try clear hfz41_11
                    try clear hfz41_12
                    try clear hfz41_13
                    try clear hfz41_14
                    try clear hfz41_15
                    try clear hfz41_16
                    try clear hfz41_2
                    try clear hfz41_3
                    try clear hfz41_4
                    try clear hfz41_5
                    try clear hfz41_6
                    try clear hfz41_7
                    try clear hfz41_8
                    try clear hfz41_9
                    try clear hfz46_0
                    try clear hfz46_1
                    try clear hfz46_10
                    try clear hfz46_11
                    try clear hfz46_12
                    try clear hfz46_13
                    try clear hfz46_14
                    try clear hfz46_15
                    try clear hfz46_16
                    try clear hfz46_2
                    try clear hfz46_3
                    try clear hfz46_4
                    try clear hfz46_5
                    try clear hfz46_6
                    try clear hfz46_7
                    try clear hfz46_8
                    try clear hfz46_9
                    try clear hfz7_0
                    try clear hfz7_1
                    try clear hfz7_10
                    try clear hfz7_11
                    try clear hfz7_12
                    try clear hfz7_13
                    try clear hfz7_14
                    try clear hfz7_15
                    try clear hfz7_16
                    try clear hfz7_2
                    try clear hfz7_3
                    try clear hfz7_4
                    try clear hfz7_5
                    try clear hfz7_6
                    try clear hfz7_7
                    try clear hfz7_8
                    try clear hfz7_9
                    try clear hfz9_0
                    try clear hfz9_1
                    try clear hfz9_10
                    try clear hfz9_11
                    try clear hfz9_12
                    try clear hfz9_13
                    try clear hfz9_14
                    try clear hfz9_15
                    try clear hfz9_16
                    try clear hfz9_2
                    try clear hfz9_3
                    try clear hfz9_4
                    try clear hfz9_5
                    try clear hfz9_6
                    try clear hfz9_7
                    try clear hfz9_8
                    try clear hfz9_9
                    try clear hx110_0
                    try clear p1
                    try clear p11
                    try clear p110
                    try clear p2
                    try clear p6
                    try clear q1
                    try clear q11
                    try clear q110
                    obtain ⟨kq, x5_39, HA, HJ39, HO_5, BK101, HB⟩ := hcut
                    cases kq with
                    | zero => exact absurd HA.out (by simp [icehouseref12_Bytes.j3])
                    | succ kj39 =>
                      have H := HA.out
                      clear HA
                      simp only [icehouseref12_Bytes.j3] at H
                      replace H := Option.bind_eq_some_iff.mp H
                      obtain ⟨t132, A500, H⟩ := H
                      replace H : (if t132 = true then ((QR.icehouseref02_Num.f kj39 (l0_13.length : Int)).bind fun t133 => (if x5_39.length + t133.length < 140737488355328 then (icehouseref12_Bytes.l1 kj39 (x5_39 ++ t133) 0 a0_0 a0_1 a0_2 a0_3 a0_4 a0_5 a0_6 a0_7 a0_8 a0_9 a0_10 a0_11 l0_12 l0_13 l0_14 a0_15 a0_16) else (none))) else (icehouseref12_Bytes.j5 kj39 x5_39 a0_0 a0_1 a0_2 a0_3 a0_4 a0_5 a0_6 a0_7 a0_8 a0_9 a0_10 a0_11 l0_12 l0_13 l0_14 a0_15 a0_16)) = some (r1, r2) := H
                      have A50 := Aside0.mk A500
                      clear A500
                      have HC51 := Aside0.mk H
                      clear H
                      have hcz52_0 : wc.cell? ⟨gb101, 0, none⟩ = some (.int .i64 a0_0) := (blk_cell BK101.out 0).trans rfl
                      have hcz52_1 : wc.cell? ⟨gb101, 1, none⟩ = some (.int .i64 a0_1) := (blk_cell BK101.out 1).trans rfl
                      have hcz52_2 : wc.cell? ⟨gb101, 2, none⟩ = some (.int .i64 a0_2) := (blk_cell BK101.out 2).trans rfl
                      have hcz52_3 : wc.cell? ⟨gb101, 3, none⟩ = some (.int .i64 a0_3) := (blk_cell BK101.out 3).trans rfl
                      have hcz52_4 : wc.cell? ⟨gb101, 4, none⟩ = some (.int .i64 a0_4) := (blk_cell BK101.out 4).trans rfl
                      have hcz52_5 : wc.cell? ⟨gb101, 5, none⟩ = some (.int .i64 a0_5) := (blk_cell BK101.out 5).trans rfl
                      have hcz52_6 : wc.cell? ⟨gb101, 6, none⟩ = some (.bool a0_6) := (blk_cell BK101.out 6).trans rfl
                      have hcz52_7 : wc.cell? ⟨gb101, 7, none⟩ = some (.string a0_7) := (blk_cell BK101.out 7).trans rfl
                      have hcz52_8 : wc.cell? ⟨gb101, 8, none⟩ = some (.int .i64 a0_8) := (blk_cell BK101.out 8).trans rfl
                      have hcz52_9 : wc.cell? ⟨gb101, 9, none⟩ = some (.int .i64 a0_9) := (blk_cell BK101.out 9).trans rfl
                      have hcz52_10 : wc.cell? ⟨gb101, 10, none⟩ = some (.int .i64 a0_10) := (blk_cell BK101.out 10).trans rfl
                      have hcz52_11 : wc.cell? ⟨gb101, 11, none⟩ = some (.bool a0_11) := (blk_cell BK101.out 11).trans rfl
                      have hcz52_12 : wc.cell? ⟨gb101, 12, none⟩ = some (.slice A0_12 l0_12.length c0_12) := (blk_cell BK101.out 12).trans rfl
                      have hcz52_13 : wc.cell? ⟨gb101, 13, none⟩ = some (.slice A0_13 l0_13.length c0_13) := (blk_cell BK101.out 13).trans rfl
                      have hcz52_14 : wc.cell? ⟨gb101, 14, none⟩ = some (.slice A0_14 l0_14.length c0_14) := (blk_cell BK101.out 14).trans rfl
                      have hcz52_15 : wc.cell? ⟨gb101, 15, none⟩ = some (.int .i64 a0_15) := (blk_cell BK101.out 15).trans rfl
                      have hcz52_16 : wc.cell? ⟨gb101, 16, none⟩ = some (.int .i64 a0_16) := (blk_cell BK101.out 16).trans rfl
                      have hfz52_0 := blk_frozen BK101.out 0
                      have hfz52_1 := blk_frozen BK101.out 1
                      have hfz52_2 := blk_frozen BK101.out 2
                      have hfz52_3 := blk_frozen BK101.out 3
                      have hfz52_4 := blk_frozen BK101.out 4
                      have hfz52_5 := blk_frozen BK101.out 5
                      have hfz52_6 := blk_frozen BK101.out 6
                      have hfz52_7 := blk_frozen BK101.out 7
                      have hfz52_8 := blk_frozen BK101.out 8
                      have hfz52_9 := blk_frozen BK101.out 9
                      have hfz52_10 := blk_frozen BK101.out 10
                      have hfz52_11 := blk_frozen BK101.out 11
                      have hfz52_12 := blk_frozen BK101.out 12
                      have hfz52_13 := blk_frozen BK101.out 13
                      have hfz52_14 := blk_frozen BK101.out 14
                      have hfz52_15 := blk_frozen BK101.out 15
                      have hfz52_16 := blk_frozen BK101.out 16
                      go_upto_if 73 with (first | ((with_reducible refine gate_callee (f := 21) rfl ?_); refine goesL_ (some 73) rfl rfl Tryd.func21 (by kernel_rfl) rfl #[.int .i64 a0_0, .string (⟨#[108]⟩ : ByteArray)] rfl (by (try simp only [List.map_toArray, List.map_cons, List.map_nil]); first | done | rfl | (simp only [List.length_drop, List.length_take]; rfl)) ?_; (with_reducible refine (QR.icehouseref12_Has.calls kj39 a0_0 (⟨#[108]⟩ : ByteArray) t132 _ A50.out).mono ?_); rintro e w53 ⟨rfl, hb⟩; refine ⟨_, rfl, ?_⟩; have n0_ := Aside0.mk (Kd.R_below (by (with_reducible repeat (first | apply Kd.R_alloc | apply Kd.R_drewN | apply Kd.R_drew)); exact HO_5.out) hb); have n1_ := Aside0.mk (blk_below (g := gb101) (o := .cells #[.int .i64 a0_0, .int .i64 a0_1, .int .i64 a0_2, .int .i64 a0_3, .int .i64 a0_4, .int .i64 a0_5, .bool a0_6, .string a0_7, .int .i64 a0_8, .int .i64 a0_9, .int .i64 a0_10, .bool a0_11, .slice A0_12 l0_12.length c0_12, .slice A0_13 l0_13.length c0_13, .slice A0_14 l0_14.length c0_14, .int .i64 a0_15, .int .i64 a0_16] 34 (0, 0)) (by (with_reducible repeat (first | refine blk_drewN ?_ _ | refine blk_drew ?_ | refine blk_alloc ?_ _)); exact BK101.out) hb); have n2_ := Aside0.mk (below_step (by repeat (first | (with_reducible first | exact HB.out | apply below_alloc | apply pw_below_drewN | apply below_drew1 | refine below_set ?_ GE101.out) | exact HB.out)) hb); clear HO_5; clear BK101; clear HB; have HO_5 := n0_; have BK101 := n1_; have HB := n2_; clear n0_ n1_ n2_; (try clear hb); (try clear hb2); (try clear hk); (try clear hi)))
                      (try simp only [Act.put, List.setIfInBounds_toArray, List.set_cons_zero, List.set_cons_succ])
                      go_cut [5] (fun v5 wc => ∃ (kq : Nat) (x5_50 : List Int), Aside0 (icehouseref12_Bytes.j5 kq x5_50 a0_0 a0_1 a0_2 a0_3 a0_4 a0_5 a0_6 a0_7 a0_8 a0_9 a0_10 a0_11 l0_12 l0_13 l0_14 a0_15 a0_16 = some (r1, r2)) ∧ Aside0 (kq ≤ kj39) ∧ Aside0 (Kd.R (Kd.int .u8) 5 wc w.heap.size (fun _ => True) v5 x5_50) ∧ Aside0 (wc.heap[gb101]? = some (.cells #[.int .i64 a0_0, .int .i64 a0_1, .int .i64 a0_2, .int .i64 a0_3, .int .i64 a0_4, .int .i64 a0_5, .bool a0_6, .string a0_7, .int .i64 a0_8, .int .i64 a0_9, .int .i64 a0_10, .bool a0_11, (.slice A0_12 l0_12.length c0_12), (.slice A0_13 l0_13.length c0_13), (.slice A0_14 l0_14.length c0_14), .int .i64 a0_15, .int .i64 a0_16] 34 (0, 0))) ∧ Aside0 (Below w.heap.size w wc))
                      case first =>
                        as_aux_lemma =>
                        have H := HC51.out
                        clear HC51
                        by_cases c54 : t132 = true
                        · subst c54
                          have H1 : ((QR.icehouseref02_Num.f kj39 (l0_13.length : Int)).bind fun t133 => (if x5_39.length + t133.length < 140737488355328 then (icehouseref12_Bytes.l1 kj39 (x5_39 ++ t133) 0 a0_0 a0_1 a0_2 a0_3 a0_4 a0_5 a0_6 a0_7 a0_8 a0_9 a0_10 a0_11 l0_12 l0_13 l0_14 a0_15 a0_16) else (none))) = some (r1, r2) := by rw [if_pos rfl] at H; exact H
                          clear H
                          have H := H1
                          clear H1
                          replace H := Option.bind_eq_some_iff.mp H
                          obtain ⟨t133, A550, H⟩ := H
                          replace H : (if x5_39.length + t133.length < 140737488355328 then (icehouseref12_Bytes.l1 kj39 (x5_39 ++ t133) 0 a0_0 a0_1 a0_2 a0_3 a0_4 a0_5 a0_6 a0_7 a0_8 a0_9 a0_10 a0_11 l0_12 l0_13 l0_14 a0_15 a0_16) else (none)) = some (r1, r2) := H
                          have A55 := Aside0.mk A550
                          clear A550
                          by_cases c56 : x5_39.length + t133.length < 140737488355328
                          · as_aux_lemma =>
                            rw [if_pos c56] at H
                            have LMc56 := Aside0.mk c56
                            clear c56
                            obtain ⟨y136, hy136⟩ : ∃ y_ : List Int, y_ = (x5_39 ++ t133) := ⟨_, rfl⟩
                            replace H : (icehouseref12_Bytes.l1 kj39 y136 0 a0_0 a0_1 a0_2 a0_3 a0_4 a0_5 a0_6 a0_7 a0_8 a0_9 a0_10 a0_11 l0_12 l0_13 l0_14 a0_15 a0_16) = some (r1, r2) := by first | (rw [hy136]; with_reducible exact H) | (have H2_ := (Option.bind_some _ _).symm.trans H; rw [hy136]; with_reducible exact H2_) | (have H2_ := (Option.bind_some _ _).symm.trans H; with_reducible exact H2_) | with_reducible exact H | (rw [hy136]; exact H) | exact H
                            have Ny136 := Aside0.mk hy136
                            clear hy136
                            have H' := Aside0.mk H
                            clear H
                            have hcz57_0 : w53.cell? ⟨gb101, 0, none⟩ = some (.int .i64 a0_0) := (blk_cell BK101.out 0).trans rfl
                            have hcz57_1 : w53.cell? ⟨gb101, 1, none⟩ = some (.int .i64 a0_1) := (blk_cell BK101.out 1).trans rfl
                            have hcz57_2 : w53.cell? ⟨gb101, 2, none⟩ = some (.int .i64 a0_2) := (blk_cell BK101.out 2).trans rfl
                            have hcz57_3 : w53.cell? ⟨gb101, 3, none⟩ = some (.int .i64 a0_3) := (blk_cell BK101.out 3).trans rfl
                            have hcz57_4 : w53.cell? ⟨gb101, 4, none⟩ = some (.int .i64 a0_4) := (blk_cell BK101.out 4).trans rfl
                            have hcz57_5 : w53.cell? ⟨gb101, 5, none⟩ = some (.int .i64 a0_5) := (blk_cell BK101.out 5).trans rfl
                            have hcz57_6 : w53.cell? ⟨gb101, 6, none⟩ = some (.bool a0_6) := (blk_cell BK101.out 6).trans rfl
                            have hcz57_7 : w53.cell? ⟨gb101, 7, none⟩ = some (.string a0_7) := (blk_cell BK101.out 7).trans rfl
                            have hcz57_8 : w53.cell? ⟨gb101, 8, none⟩ = some (.int .i64 a0_8) := (blk_cell BK101.out 8).trans rfl
                            have hcz57_9 : w53.cell? ⟨gb101, 9, none⟩ = some (.int .i64 a0_9) := (blk_cell BK101.out 9).trans rfl
                            have hcz57_10 : w53.cell? ⟨gb101, 10, none⟩ = some (.int .i64 a0_10) := (blk_cell BK101.out 10).trans rfl
                            have hcz57_11 : w53.cell? ⟨gb101, 11, none⟩ = some (.bool a0_11) := (blk_cell BK101.out 11).trans rfl
                            have hcz57_12 : w53.cell? ⟨gb101, 12, none⟩ = some (.slice A0_12 l0_12.length c0_12) := (blk_cell BK101.out 12).trans rfl
                            have hcz57_13 : w53.cell? ⟨gb101, 13, none⟩ = some (.slice A0_13 l0_13.length c0_13) := (blk_cell BK101.out 13).trans rfl
                            have hcz57_14 : w53.cell? ⟨gb101, 14, none⟩ = some (.slice A0_14 l0_14.length c0_14) := (blk_cell BK101.out 14).trans rfl
                            have hcz57_15 : w53.cell? ⟨gb101, 15, none⟩ = some (.int .i64 a0_15) := (blk_cell BK101.out 15).trans rfl
                            have hcz57_16 : w53.cell? ⟨gb101, 16, none⟩ = some (.int .i64 a0_16) := (blk_cell BK101.out 16).trans rfl
                            have hfz57_0 := blk_frozen BK101.out 0
                            have hfz57_1 := blk_frozen BK101.out 1
                            have hfz57_2 := blk_frozen BK101.out 2
                            have hfz57_3 := blk_frozen BK101.out 3
                            have hfz57_4 := blk_frozen BK101.out 4
                            have hfz57_5 := blk_frozen BK101.out 5
                            have hfz57_6 := blk_frozen BK101.out 6
                            have hfz57_7 := blk_frozen BK101.out 7
                            have hfz57_8 := blk_frozen BK101.out 8
                            have hfz57_9 := blk_frozen BK101.out 9
                            have hfz57_10 := blk_frozen BK101.out 10
                            have hfz57_11 := blk_frozen BK101.out 11
                            have hfz57_12 := blk_frozen BK101.out 12
                            have hfz57_13 := blk_frozen BK101.out 13
                            have hfz57_14 := blk_frozen BK101.out 14
                            have hfz57_15 := blk_frozen BK101.out 15
                            have hfz57_16 := blk_frozen BK101.out 16
                            go_wp2_with (first | ((with_reducible refine gate_callee (f := 33) rfl ?_); refine goesL_ (some 78) rfl rfl Tryd.func33 (by kernel_rfl) rfl #[.int .i64 (l0_13.length : Int)] rfl (by (try simp only [List.map_toArray, List.map_cons, List.map_nil]); first | done | rfl | (simp only [List.length_drop, List.length_take]; rfl)) ?_; (with_reducible refine (QR.icehouseref02_Num.calls kj39 (l0_13.length : Int) t133 _ A55.out).mono ?_); rintro e w58 ⟨v134, rfl, ho0, hb⟩; refine ⟨_, rfl, ?_⟩; have n0_ := Aside0.mk (Kd.R_elder' (by (with_reducible repeat (first | apply Kd.R_alloc | apply Kd.R_drewN | apply Kd.R_drew)); exact HO_5.out) (Kd.R_base ho0) hb); have n1_ := Aside0.mk (Kd.R_lower (Kd.R_new' ho0 (Kd.R_lt (by (with_reducible repeat (first | apply Kd.R_alloc | apply Kd.R_drewN | apply Kd.R_drew)); exact HO_5.out))) (below_size (by repeat (first | (with_reducible first | exact HB.out | apply below_alloc | apply pw_below_drewN | apply below_drew1 | refine below_set ?_ GE101.out) | exact HB.out)))); have n2_ := Aside0.mk (blk_below (g := gb101) (o := .cells #[.int .i64 a0_0, .int .i64 a0_1, .int .i64 a0_2, .int .i64 a0_3, .int .i64 a0_4, .int .i64 a0_5, .bool a0_6, .string a0_7, .int .i64 a0_8, .int .i64 a0_9, .int .i64 a0_10, .bool a0_11, .slice A0_12 l0_12.length c0_12, .slice A0_13 l0_13.length c0_13, .slice A0_14 l0_14.length c0_14, .int .i64 a0_15, .int .i64 a0_16] 34 (0, 0)) (by (with_reducible repeat (first | refine blk_drewN ?_ _ | refine blk_drew ?_ | refine blk_alloc ?_ _)); exact BK101.out) hb); have n3_ := Aside0.mk (below_step (by repeat (first | (with_reducible first | exact HB.out | apply below_alloc | apply pw_below_drewN | apply below_drew1 | refine below_set ?_ GE101.out) | exact HB.out)) hb); clear HO_5; clear BK101; clear HB; have HO_5 := n0_; have HO135 := n1_; have BK101 := n2_; have HB := n3_; clear n0_ n1_ n2_ n3_; (try clear hb); (try clear hb2); (try clear hk); (try clear hi); (try clear ho0); obtain ⟨Ao60, co60, eo60⟩ := Kd.R_slice HO135.out; subst eo60) | ((with_reducible refine gate_builtin (b := .append) (xs := #[.tmp 74, .tmp 78]) rfl ?_); at_builtin; refine Kd.R_append_rows (Kd.int .u8) (w0 := w) w.heap.size rfl (.tmp 74) (.tmp 78) 24 5 (.int .u8 0) 1 rfl Tryd.underlying24 info5 rfl (by decide) (by omega) u5 x5_39 t133 _ _ _ (fun k_ => some k_ ≠ (.slice Ao60 t133.length co60 : Value).ownBlock) (fun _ => False) rfl rfl ?aO ?aR (fun _ _ h => h) (fun _ h => h.elim) ?aF ?aB ?aS ?aL ?_; (case aR => repeat (first | exact (Kd.R_reads' HO135.out).2.2 | (with_reducible refine Kd.C_alloc ?_ _) | (with_reducible refine Kd.C_drewN ?_ _) | (with_reducible refine Kd.C_drew ?_))); (case aB => exact (by repeat (first | (with_reducible first | exact HB.out | apply below_alloc | apply pw_below_drewN | apply below_drew1 | refine below_set ?_ GE101.out) | exact HB.out))); (case aF => exact (fun k_ hk => Kd.fresh' (Kd.R_lt (by (with_reducible repeat (first | apply Kd.R_alloc | apply Kd.R_drewN | apply Kd.R_drew)); exact HO135.out)) k_ hk)); (case aO => exact (by (with_reducible repeat (first | apply Kd.R_alloc | apply Kd.R_drewN | apply Kd.R_drew)); exact Kd.R_mono HO_5.out (fun _ hk => hk.2))); (case aS => exact (below_size (by repeat (first | (with_reducible first | exact HB.out | apply below_alloc | apply pw_below_drewN | apply below_drew1 | refine below_set ?_ GE101.out) | exact HB.out)))); (case aL => have := LMc56.out; omega); intro v137 w59 ho hb hg hat; rw [← Ny136.out] at ho; have n0_ := Aside0.mk (blk_grown (g := gb101) (o := .cells #[.int .i64 a0_0, .int .i64 a0_1, .int .i64 a0_2, .int .i64 a0_3, .int .i64 a0_4, .int .i64 a0_5, .bool a0_6, .string a0_7, .int .i64 a0_8, .int .i64 a0_9, .int .i64 a0_10, .bool a0_11, .slice A0_12 l0_12.length c0_12, .slice A0_13 l0_13.length c0_13, .slice A0_14 l0_14.length c0_14, .int .i64 a0_15, .int .i64 a0_16] 34 (0, 0)) (by (with_reducible repeat (first | refine blk_drewN ?_ _ | refine blk_drew ?_ | refine blk_alloc ?_ _)); exact BK101.out) hg (Kd.R_ne HO_5.out BK101.out (by decide))); have n1_ := Aside0.mk (Kd.R_after (ok := (fun _ => True)) (by (with_reducible repeat (first | apply Kd.R_alloc | apply Kd.R_drewN | apply Kd.R_drew)); exact HO135.out) hg hat); have n2_ := Aside0.mk (hb); have n3_ := Aside0.mk (ho); clear BK101; clear HO135; clear HB; clear HO_5; have BK101 := n0_; have HO135 := n1_; have HB := n2_; have HO138 := n3_; clear n0_ n1_ n2_ n3_; clear ho hb hg hat))
                            go_loopg [5, 10] kj39 (fun kq v5 v10 w' => ∃ (x5_5 : List Int) (x10_5 : Int), v10 = .int .i64 x10_5 ∧ Aside0 (icehouseref12_Bytes.l1 kq x5_5 x10_5 a0_0 a0_1 a0_2 a0_3 a0_4 a0_5 a0_6 a0_7 a0_8 a0_9 a0_10 a0_11 l0_12 l0_13 l0_14 a0_15 a0_16 = some (r1, r2)) ∧ Aside0 (kq ≤ kj39) ∧ Aside0 (Kd.R (Kd.int .u8) 5 w' w.heap.size (fun _ => True) v5 x5_5) ∧ Aside0 (w'.heap[gb101]? = some (.cells #[.int .i64 a0_0, .int .i64 a0_1, .int .i64 a0_2, .int .i64 a0_3, .int .i64 a0_4, .int .i64 a0_5, .bool a0_6, .string a0_7, .int .i64 a0_8, .int .i64 a0_9, .int .i64 a0_10, .bool a0_11, (.slice A0_12 l0_12.length c0_12), (.slice A0_13 l0_13.length c0_13), (.slice A0_14 l0_14.length c0_14), .int .i64 a0_15, .int .i64 a0_16] 34 (0, 0))) ∧ Aside0 (Below w.heap.size w w'))
                            case atStart => exact ⟨(y136), (0), (by first | rfl | (simp; done) | (simp [*]; done)), H', ⟨Nat.le_refl _⟩, ⟨by (with_reducible repeat (first | apply Kd.R_alloc | apply Kd.R_drewN | apply Kd.R_drew)); exact Kd.R_mono HO138.out (fun _ hk => trivial)⟩, ⟨by (with_reducible repeat (first | refine blk_drewN ?_ _ | refine blk_drew ?_ | refine blk_alloc ?_ _)); exact BK101.out⟩, ⟨by repeat (first | (with_reducible first | exact HB.out | apply below_alloc | apply pw_below_drewN | apply below_drew1 | refine below_set ?_ GE101.out) | exact HB.out)⟩⟩
                            case round =>
                              as_aux_lemma =>
                              clear H'
                              try clear c1
                              try clear p1
                              try clear q1
                              try clear hx1
                              try clear c2
                              try clear p2
                              try clear c3
                              try clear c3b0
                              try clear c3b1
                              try clear c4
                              try clear c5
                              try clear p6
                              try clear p11
                              try clear q11
                              try clear hx11
                              try clear c13
                              try clear c14
                              try clear c15
                              try clear c16
                              try clear c18
                              try clear c18b0
                              try clear c19
                              try clear c19b0
                              try clear c21
                              try clear c31
                              try clear c32
                              try clear c33
                              try clear c34
                              try clear c36
                              try clear c43
                              try clear c45
                              try clear c54
                              try clear c56
                              try clear hcz12_0
                              try clear hcz12_1
                              try clear hcz12_10
                              try clear hcz12_11
                              try clear hcz12_12
                              try clear hcz12_13
                              try clear hcz12_14
                              try clear hcz12_15
                              try clear hcz12_16
                              try clear hcz12_2
                              try clear hcz12_3
                              try clear hcz12_4
                              try clear hcz12_5
                              try clear hcz12_6
                              try clear hcz12_7
                              try clear hcz12_8
                              try clear hcz12_9
                              try clear hcz16_0
                              try clear hcz16_1
                              try clear hcz16_10
                              try clear hcz16_11
                              try clear hcz16_12
                              try clear hcz16_13
                              try clear hcz16_14
                              try clear hcz16_15
                              try clear hcz16_16
                              try clear hcz16_2
                              try clear hcz16_3
                              try clear hcz16_4
                              try clear hcz16_5
                              try clear hcz16_6
                              try clear hcz16_7
                              try clear hcz16_8
                              try clear hcz16_9
                              try clear hcz29_0
                              try clear hcz29_1
                              try clear hcz29_10
                              try clear hcz29_11
                              try clear hcz29_12
                              try clear hcz29_13
                              try clear hcz29_14
                              try clear hcz29_15
                              try clear hcz29_16
                              try clear hcz29_2
                              try clear hcz29_3
                              try clear hcz29_4
                              try clear hcz29_5
                              try clear hcz29_6
                              try clear hcz29_7
                              try clear hcz29_8
                              try clear hcz29_9
                              try clear hcz34_0
                              try clear hcz34_1
                              try clear hcz34_10
                              try clear hcz34_11
                              try clear hcz34_12
                              try clear hcz34_13
                              try clear hcz34_14
                              try clear hcz34_15
                              try clear hcz34_16
                              try clear hcz34_2
                              try clear hcz34_3
                              try clear hcz34_4
                              try clear hcz34_5
                              try clear hcz34_6
                              try clear hcz34_7
                              try clear hcz34_8
                              try clear hcz34_9
                              try clear hcz37_0
                              try clear hcz37_1
                              try clear hcz37_10
                              try clear hcz37_11
                              try clear hcz37_12
                              try clear hcz37_13
                              try clear hcz37_14
                              try clear hcz37_15
                              try clear hcz37_16
                              try clear hcz37_2
                              try clear hcz37_3
                              try clear hcz37_4
                              try clear hcz37_5
                              try clear hcz37_6
                              try clear hcz37_7
                              try clear hcz37_8
                              try clear hcz37_9
                              try clear hcz41_0
                              try clear hcz41_1
                              try clear hcz41_10
                              try clear hcz41_11
                              try clear hcz41_12
                              try clear hcz41_13
                              try clear hcz41_14
                              try clear hcz41_15
                              try clear hcz41_16
                              try clear hcz41_2
                              try clear hcz41_3
                              try clear hcz41_4
                              try clear hcz41_5
                              try clear hcz41_6
                              try clear hcz41_7
                              try clear hcz41_8
                              try clear hcz41_9
                              try clear hcz46_0
                              try clear hcz46_1
                              try clear hcz46_10
                              try clear hcz46_11
                              try clear hcz46_12
                              try clear hcz46_13
                              try clear hcz46_14
                              try clear hcz46_15
                              try clear hcz46_16
                              try clear hcz46_2
                              try clear hcz46_3
                              try clear hcz46_4
                              try clear hcz46_5
                              try clear hcz46_6
                              try clear hcz46_7
                              try clear hcz46_8
                              try clear hcz46_9
                              try clear hcz52_0
                              try clear hcz52_1
                              try clear hcz52_10
                              try clear hcz52_11
                              try clear hcz52_12
                              try clear hcz52_13
                              try clear hcz52_14
                              try clear hcz52_15
                              try clear hcz52_16
                              try clear hcz52_2
                              try clear hcz52_3
                              try clear hcz52_4
                              try clear hcz52_5
                              try clear hcz52_6
                              try clear hcz52_7
                              try clear hcz52_8
                              try clear hcz52_9
                              try clear hcz57_0
                              try clear hcz57_1
                              try clear hcz57_10
                              try clear hcz57_11
                              try clear hcz57_12
                              try clear hcz57_13
                              try clear hcz57_14
                              try clear hcz57_15
                              try clear hcz57_16
                              try clear hcz57_2
                              try clear hcz57_3
                              try clear hcz57_4
                              try clear hcz57_5
                              try clear hcz57_6
                              try clear hcz57_7
                              try clear hcz57_8
                              try clear hcz57_9
                              try clear hcz7_0
                              try clear hcz7_1
                              try clear hcz7_10
                              try clear hcz7_11
                              try clear hcz7_12
                              try clear hcz7_13
                              try clear hcz7_14
                              try clear hcz7_15
                              try clear hcz7_16
                              try clear hcz7_2
                              try clear hcz7_3
                              try clear hcz7_4
                              try clear hcz7_5
                              try clear hcz7_6
                              try clear hcz7_7
                              try clear hcz7_8
                              try clear hcz7_9
                              try clear hcz9_0
                              try clear hcz9_1
                              try clear hcz9_10
                              try clear hcz9_11
                              try clear hcz9_12
                              try clear hcz9_13
                              try clear hcz9_14
                              try clear hcz9_15
                              try clear hcz9_16
                              try clear hcz9_2
                              try clear hcz9_3
                              try clear hcz9_4
                              try clear hcz9_5
                              try clear hcz9_6
                              try clear hcz9_7
                              try clear hcz9_8
                              try clear hcz9_9
                              try clear hfz12_0
                              try clear hfz12_1
                              try clear hfz12_10
                              try clear hfz12_11
                              try clear hfz12_12
                              try clear hfz12_13
                              try clear hfz12_14
                              try clear hfz12_15
                              try clear hfz12_16
                              try clear hfz12_2
                              try clear hfz12_3
                              try clear hfz12_4
                              try clear hfz12_5
                              try clear hfz12_6
                              try clear hfz12_7
                              try clear hfz12_8
                              try clear hfz12_9
                              try clear hfz16_0
                              try clear hfz16_1
                              try clear hfz16_10
                              try clear hfz16_11
                              try clear hfz16_12
                              try clear hfz16_13
                              try clear hfz16_14
                              try clear hfz16_15
                              try clear hfz16_16
                              try clear hfz16_2
                              try clear hfz16_3
                              try clear hfz16_4
                              try clear hfz16_5
                              try clear hfz16_6
                              try clear hfz16_7
                              try clear hfz16_8
                              try clear hfz16_9
                              try clear hfz29_0
                              try clear hfz29_1
                              try clear hfz29_10
                              try clear hfz29_11
                              try clear hfz29_12
                              try clear hfz29_13
                              try clear hfz29_14
                              try clear hfz29_15
                              try clear hfz29_16
                              try clear hfz29_2
                              try clear hfz29_3
                              try clear hfz29_4
                              try clear hfz29_5
                              try clear hfz29_6
                              try clear hfz29_7
                              try clear hfz29_8
                              try clear hfz29_9
                              try clear hfz34_0
                              try clear hfz34_1
                              try clear hfz34_10
                              try clear hfz34_11
                              try clear hfz34_12
                              try clear hfz34_13
                              try clear hfz34_14
                              try clear hfz34_15
                              try clear hfz34_16
                              try clear hfz34_2
                              try clear hfz34_3
                              try clear hfz34_4
                              try clear hfz34_5
                              try clear hfz34_6
                              try clear hfz34_7
                              try clear hfz34_8
                              try clear hfz34_9
                              try clear hfz37_0
                              try clear hfz37_1
                              try clear hfz37_10
                              try clear hfz37_11
                              try clear hfz37_12
                              try clear hfz37_13
                              try clear hfz37_14
                              try clear hfz37_15
                              try clear hfz37_16
                              try clear hfz37_2
                              try clear hfz37_3
                              try clear hfz37_4
                              try clear hfz37_5
                              try clear hfz37_6
                              try clear hfz37_7
                              try clear hfz37_8
                              try clear hfz37_9
                              try clear hfz41_0
                              try clear hfz41_1
                              try clear hfz41_10
                              try clear hfz41_11
                              try clear hfz41_12
                              try clear hfz41_13
                              try clear hfz41_14
                              try clear hfz41_15
                              try clear hfz41_16
                              try clear hfz41_2
                              try clear hfz41_3
                              try clear hfz41_4
                              try clear hfz41_5
                              try clear hfz41_6
                              try clear hfz41_7
                              try clear hfz41_8
                              try clear hfz41_9
                              try clear hfz46_0
                              try clear hfz46_1
                              try clear hfz46_10
                              try clear hfz46_11
                              try clear hfz46_12
                              try clear hfz46_13
                              try clear hfz46_14
                              try clear hfz46_15
                              try clear hfz46_16
                              try clear hfz46_2
                              try clear hfz46_3
                              try clear hfz46_4
                              try clear hfz46_5
                              try clear hfz46_6
                              try clear hfz46_7
                              try clear hfz46_8
                              try clear hfz46_9
                              try clear hfz52_0
                              try clear hfz52_1
                              try clear hfz52_10
                              try clear hfz52_11
                              try clear hfz52_12
                              try clear hfz52_13
                              try clear hfz52_14
                              try clear hfz52_15
                              try clear hfz52_16
                              try clear hfz52_2
                              try clear hfz52_3
                              try clear hfz52_4
                              try clear hfz52_5
                              try clear hfz52_6
                              try clear hfz52_7
                              try clear hfz52_8
                              try clear hfz52_9
                              try clear hfz57_0
                              try clear hfz57_1
                              try clear hfz57_10
                              try clear hfz57_11
                              try clear hfz57_12
                              try clear hfz57_13
                              try clear hfz57_14
                              try clear hfz57_15
                              try clear hfz57_16
                              try clear hfz57_2
                              try clear hfz57_3
                              try clear hfz57_4
                              try clear hfz57_5
                              try clear hfz57_6
                              try clear hfz57_7
                              try clear hfz57_8
                              try clear hfz57_9
                              try clear hfz7_0
                              try clear hfz7_1
                              try clear hfz7_10
                              try clear hfz7_11
                              try clear hfz7_12
                              try clear hfz7_13
                              try clear hfz7_14
                              try clear hfz7_15
                              try clear hfz7_16
                              try clear hfz7_2
                              try clear hfz7_3
                              try clear hfz7_4
                              try clear hfz7_5
                              try clear hfz7_6
                              try clear hfz7_7
                              try clear hfz7_8
                              try clear hfz7_9
                              try clear hfz9_0
                              try clear hfz9_1
                              try clear hfz9_10
                              try clear hfz9_11
                              try clear hfz9_12
                              try clear hfz9_13
                              try clear hfz9_14
                              try clear hfz9_15
                              try clear hfz9_16
                              try clear hfz9_2
                              try clear hfz9_3
                              try clear hfz9_4
                              try clear hfz9_5
                              try clear hfz9_6
                              try clear hfz9_7
                              try clear hfz9_8
                              try clear hfz9_9
                              try clear hx110_0
                              try clear p1
                              try clear p11
                              try clear p110
                              try clear p2
                              try clear p6
                              try clear q1
                              try clear q11
                              try clear q110
                              obtain ⟨x5_5, x10_5, rfl, HA, HK5, HO_5, BK101, HB⟩ := hrel
                              cases gk with
                              | zero => exact absurd HA.out (by simp [icehouseref12_Bytes.l1])
                              | succ k5 =>
                                have H := HA.out
                                clear HA
                                simp only [icehouseref12_Bytes.l1] at H
                                by_cases c61 : x10_5 < (l0_13.length : Int)
                                · as_aux_lemma =>
                                  rw [if_pos c61] at H
                                  have c61b0 : decide (x10_5 < (l0_13.length : Int)) = true := decide_eq_true c61
                                  clear c61
                                  (first | rw [c61b0] | (simp only [i64_w, i32_w]; rw [c61b0]) | skip)
                                  by_cases c62 : 0 ≤ x10_5
                                  · as_aux_lemma =>
                                    rw [if_pos c62] at H
                                    have c62b0 : decide (0 ≤ x10_5) = true := decide_eq_true c62
                                    clear c62
                                    replace H := Option.bind_eq_some_iff.mp H
                                    obtain ⟨⟨t140, t143⟩, A630, H⟩ := H
                                    replace H : (if x5_5.length + t140.length < 140737488355328 then (icehouseref12_Bytes.l1 k5 (x5_5 ++ t140) (wrap64 (x10_5 + 1)) a0_0 a0_1 a0_2 a0_3 a0_4 a0_5 a0_6 a0_7 a0_8 a0_9 a0_10 a0_11 l0_12 l0_13 l0_14 a0_15 a0_16) else (none)) = some (r1, r2) := H
                                    have A63 := Aside0.mk A630
                                    clear A630
                                    by_cases c64 : x5_5.length + t140.length < 140737488355328
                                    · as_aux_lemma =>
                                      rw [if_pos c64] at H
                                      have LMc64 := Aside0.mk c64
                                      clear c64
                                      obtain ⟨y144, hy144⟩ : ∃ y_ : List Int, y_ = (x5_5 ++ t140) := ⟨_, rfl⟩
                                      replace H : (icehouseref12_Bytes.l1 k5 y144 (wrap64 (x10_5 + 1)) a0_0 a0_1 a0_2 a0_3 a0_4 a0_5 a0_6 a0_7 a0_8 a0_9 a0_10 a0_11 l0_12 l0_13 l0_14 a0_15 a0_16) = some (r1, r2) := by first | (rw [hy144]; with_reducible exact H) | (have H2_ := (Option.bind_some _ _).symm.trans H; rw [hy144]; with_reducible exact H2_) | (have H2_ := (Option.bind_some _ _).symm.trans H; with_reducible exact H2_) | with_reducible exact H | (rw [hy144]; exact H) | exact H
                                      have Ny144 := Aside0.mk hy144
                                      clear hy144
                                      have H' := Aside0.mk H
                                      clear H
                                      have hcz65_0 : wr.cell? ⟨gb101, 0, none⟩ = some (.int .i64 a0_0) := (blk_cell BK101.out 0).trans rfl
                                      have hcz65_1 : wr.cell? ⟨gb101, 1, none⟩ = some (.int .i64 a0_1) := (blk_cell BK101.out 1).trans rfl
                                      have hcz65_2 : wr.cell? ⟨gb101, 2, none⟩ = some (.int .i64 a0_2) := (blk_cell BK101.out 2).trans rfl
                                      have hcz65_3 : wr.cell? ⟨gb101, 3, none⟩ = some (.int .i64 a0_3) := (blk_cell BK101.out 3).trans rfl
                                      have hcz65_4 : wr.cell? ⟨gb101, 4, none⟩ = some (.int .i64 a0_4) := (blk_cell BK101.out 4).trans rfl
                                      have hcz65_5 : wr.cell? ⟨gb101, 5, none⟩ = some (.int .i64 a0_5) := (blk_cell BK101.out 5).trans rfl
                                      have hcz65_6 : wr.cell? ⟨gb101, 6, none⟩ = some (.bool a0_6) := (blk_cell BK101.out 6).trans rfl
                                      have hcz65_7 : wr.cell? ⟨gb101, 7, none⟩ = some (.string a0_7) := (blk_cell BK101.out 7).trans rfl
                                      have hcz65_8 : wr.cell? ⟨gb101, 8, none⟩ = some (.int .i64 a0_8) := (blk_cell BK101.out 8).trans rfl
                                      have hcz65_9 : wr.cell? ⟨gb101, 9, none⟩ = some (.int .i64 a0_9) := (blk_cell BK101.out 9).trans rfl
                                      have hcz65_10 : wr.cell? ⟨gb101, 10, none⟩ = some (.int .i64 a0_10) := (blk_cell BK101.out 10).trans rfl
                                      have hcz65_11 : wr.cell? ⟨gb101, 11, none⟩ = some (.bool a0_11) := (blk_cell BK101.out 11).trans rfl
                                      have hcz65_12 : wr.cell? ⟨gb101, 12, none⟩ = some (.slice A0_12 l0_12.length c0_12) := (blk_cell BK101.out 12).trans rfl
                                      have hcz65_13 : wr.cell? ⟨gb101, 13, none⟩ = some (.slice A0_13 l0_13.length c0_13) := (blk_cell BK101.out 13).trans rfl
                                      have hcz65_14 : wr.cell? ⟨gb101, 14, none⟩ = some (.slice A0_14 l0_14.length c0_14) := (blk_cell BK101.out 14).trans rfl
                                      have hcz65_15 : wr.cell? ⟨gb101, 15, none⟩ = some (.int .i64 a0_15) := (blk_cell BK101.out 15).trans rfl
                                      have hcz65_16 : wr.cell? ⟨gb101, 16, none⟩ = some (.int .i64 a0_16) := (blk_cell BK101.out 16).trans rfl
                                      have hfz65_0 := blk_frozen BK101.out 0
                                      have hfz65_1 := blk_frozen BK101.out 1
                                      have hfz65_2 := blk_frozen BK101.out 2
                                      have hfz65_3 := blk_frozen BK101.out 3
                                      have hfz65_4 := blk_frozen BK101.out 4
                                      have hfz65_5 := blk_frozen BK101.out 5
                                      have hfz65_6 := blk_frozen BK101.out 6
                                      have hfz65_7 := blk_frozen BK101.out 7
                                      have hfz65_8 := blk_frozen BK101.out 8
                                      have hfz65_9 := blk_frozen BK101.out 9
                                      have hfz65_10 := blk_frozen BK101.out 10
                                      have hfz65_11 := blk_frozen BK101.out 11
                                      have hfz65_12 := blk_frozen BK101.out 12
                                      have hfz65_13 := blk_frozen BK101.out 13
                                      have hfz65_14 := blk_frozen BK101.out 14
                                      have hfz65_15 := blk_frozen BK101.out 15
                                      have hfz65_16 := blk_frozen BK101.out 16
                                      have p139 : 0 ≤ (x10_5 : Int) := of_decide_eq_true (by first | (with_reducible assumption) | assumption)
                                      have q139 : x10_5 < (l0_13.length : Int) := of_decide_eq_true (by first | (with_reducible assumption) | assumption)
                                      obtain ⟨ad139, A139_5, c139_5, e139, hx139_0, hx139_1, hx139_2, hx139_3, hx139_4, hx139_5, hl139_5, hi139_5⟩ := at_T28 HR0_13.out x10_5 p139 q139
                                      cases e139
                                      replace hx139_0 := (HB.out.cell (World.block_lt_of_cell? w _ hx139_0)).trans hx139_0
                                      replace hx139_1 := (HB.out.cell (World.block_lt_of_cell? w _ hx139_1)).trans hx139_1
                                      replace hx139_2 := (HB.out.cell (World.block_lt_of_cell? w _ hx139_2)).trans hx139_2
                                      replace hx139_3 := (HB.out.cell (World.block_lt_of_cell? w _ hx139_3)).trans hx139_3
                                      replace hx139_4 := (HB.out.cell (World.block_lt_of_cell? w _ hx139_4)).trans hx139_4
                                      replace hx139_5 := (HB.out.cell (World.block_lt_of_cell? w _ hx139_5)).trans hx139_5
                                      have HR139_5 := Aside0.mk hi139_5
                                      have HC139_5 := Aside0.mk hl139_5
                                      clear hi139_5 hl139_5
                                      replace p139 := eq_true p139
                                      replace q139 := eq_true q139
                                      go_wp2_with (first | ((with_reducible refine gate_callee (f := 34) rfl ?_); refine goesL_ (some 93) rfl rfl Tryd.func34 (by kernel_rfl) rfl #[.agg #[.string ((rd_T28 l0_13 x10_5).f0), .int .i64 ((rd_T28 l0_13 x10_5).f1.f0), .int .i64 ((rd_T28 l0_13 x10_5).f1.f1), .int .i64 ((rd_T28 l0_13 x10_5).f1.f2), .bool ((rd_T28 l0_13 x10_5).f2.f0), .slice A139_5 ((rd_T28 l0_13 x10_5).f2.f1).length c139_5]] rfl (by (try simp only [List.map_toArray, List.map_cons, List.map_nil]); first | done | rfl | (simp only [List.length_drop, List.length_take]; rfl)) ?_; (with_reducible refine (Fb.icehouseref03_Bytes.calls ((rd_T28 l0_13 x10_5).f0) ((rd_T28 l0_13 x10_5).f1.f0) ((rd_T28 l0_13 x10_5).f1.f1) ((rd_T28 l0_13 x10_5).f1.f2) ((rd_T28 l0_13 x10_5).f2.f0) _ _ ((rd_T28 l0_13 x10_5).f2.f1) t140 t143 _ ?side1 ?side2 A63.out).mono ?_); (case side1 => repeat (first | exact (Kd.C_below HR139_5.out HB.out) | (with_reducible refine Kd.C_alloc ?_ _) | (with_reducible refine Kd.C_drewN ?_ _) | (with_reducible refine Kd.C_drew ?_))); (case side2 => exact HC139_5.out); rintro e w66 ⟨v141, rfl, ho0, hb⟩; refine ⟨_, rfl, ?_⟩; have n0_ := Aside0.mk (Kd.R_elder' (by (with_reducible repeat (first | apply Kd.R_alloc | apply Kd.R_drewN | apply Kd.R_drew)); exact HO_5.out) (Kd.R_base ho0) hb); have n1_ := Aside0.mk (Kd.R_lower (Kd.R_new' ho0 (Kd.R_lt (by (with_reducible repeat (first | apply Kd.R_alloc | apply Kd.R_drewN | apply Kd.R_drew)); exact HO_5.out))) (below_size (by repeat (first | (with_reducible first | exact HB.out | apply below_alloc | apply pw_below_drewN | apply below_drew1 | refine below_set ?_ GE101.out) | exact HB.out)))); have n2_ := Aside0.mk (blk_below (g := gb101) (o := .cells #[.int .i64 a0_0, .int .i64 a0_1, .int .i64 a0_2, .int .i64 a0_3, .int .i64 a0_4, .int .i64 a0_5, .bool a0_6, .string a0_7, .int .i64 a0_8, .int .i64 a0_9, .int .i64 a0_10, .bool a0_11, .slice A0_12 l0_12.length c0_12, .slice (some ad139) l0_13.length c0_13, .slice A0_14 l0_14.length c0_14, .int .i64 a0_15, .int .i64 a0_16] 34 (0, 0)) (by (with_reducible repeat (first | refine blk_drewN ?_ _ | refine blk_drew ?_ | refine blk_alloc ?_ _)); exact BK101.out) hb); have n3_ := Aside0.mk (below_step (by repeat (first | (with_reducible first | exact HB.out | apply below_alloc | apply pw_below_drewN | apply below_drew1 | refine below_set ?_ GE101.out) | exact HB.out)) hb); clear HO_5; clear BK101; clear HB; have HO_5 := n0_; have HO142 := n1_; have BK101 := n2_; have HB := n3_; clear n0_ n1_ n2_ n3_; (try clear hb); (try clear hb2); (try clear hk); (try clear hi); (try clear ho0); obtain ⟨Ao68, co68, eo68⟩ := Kd.R_slice HO142.out; subst eo68) | ((with_reducible refine gate_builtin (b := .append) (xs := #[.tmp 96, .tmp 97]) rfl ?_); at_builtin; refine Kd.R_append_rows (Kd.int .u8) (w0 := w) w.heap.size rfl (.tmp 96) (.tmp 97) 24 5 (.int .u8 0) 1 rfl Tryd.underlying24 info5 rfl (by decide) (by omega) u5 x5_5 t140 _ _ _ (fun k_ => some k_ ≠ (.slice Ao68 t140.length co68 : Value).ownBlock) (fun _ => False) rfl rfl ?aO ?aR (fun _ _ h => h) (fun _ h => h.elim) ?aF ?aB ?aS ?aL ?_; (case aR => repeat (first | exact (Kd.R_reads' HO142.out).2.2 | (with_reducible refine Kd.C_alloc ?_ _) | (with_reducible refine Kd.C_drewN ?_ _) | (with_reducible refine Kd.C_drew ?_))); (case aB => exact (by repeat (first | (with_reducible first | exact HB.out | apply below_alloc | apply pw_below_drewN | apply below_drew1 | refine below_set ?_ GE101.out) | exact HB.out))); (case aF => exact (fun k_ hk => Kd.fresh' (Kd.R_lt (by (with_reducible repeat (first | apply Kd.R_alloc | apply Kd.R_drewN | apply Kd.R_drew)); exact HO142.out)) k_ hk)); (case aO => exact (by (with_reducible repeat (first | apply Kd.R_alloc | apply Kd.R_drewN | apply Kd.R_drew)); exact Kd.R_mono HO_5.out (fun _ hk => hk.2))); (case aS => exact (below_size (by repeat (first | (with_reducible first | exact HB.out | apply below_alloc | apply pw_below_drewN | apply below_drew1 | refine below_set ?_ GE101.out) | exact HB.out)))); (case aL => have := LMc64.out; omega); intro v145 w67 ho hb hg hat; rw [← Ny144.out] at ho; have n0_ := Aside0.mk (blk_grown (g := gb101) (o := .cells #[.int .i64 a0_0, .int .i64 a0_1, .int .i64 a0_2, .int .i64 a0_3, .int .i64 a0_4, .int .i64 a0_5, .bool a0_6, .string a0_7, .int .i64 a0_8, .int .i64 a0_9, .int .i64 a0_10, .bool a0_11, .slice A0_12 l0_12.length c0_12, .slice (some ad139) l0_13.length c0_13, .slice A0_14 l0_14.length c0_14, .int .i64 a0_15, .int .i64 a0_16] 34 (0, 0)) (by (with_reducible repeat (first | refine blk_drewN ?_ _ | refine blk_drew ?_ | refine blk_alloc ?_ _)); exact BK101.out) hg (Kd.R_ne HO_5.out BK101.out (by decide))); have n1_ := Aside0.mk (Kd.R_after (ok := (fun _ => True)) (by (with_reducible repeat (first | apply Kd.R_alloc | apply Kd.R_drewN | apply Kd.R_drew)); exact HO142.out) hg hat); have n2_ := Aside0.mk (hb); have n3_ := Aside0.mk (ho); clear BK101; clear HO142; clear HB; clear HO_5; have BK101 := n0_; have HO142 := n1_; have HB := n2_; have HO146 := n3_; clear n0_ n1_ n2_ n3_; clear ho hb hg hat))
                                      go_roundg k5
                                      case measure => have := HJ4.out; have := HK2.out; have := HJ26.out; have := HJ39.out; have := HK5.out; omega
                                      case rel => exact ⟨(y144), (wrap64 (x10_5 + 1)), (by first | rfl | (simp; done) | (simp [*]; done)), H', ⟨by have := HJ4.out; have := HK2.out; have := HJ26.out; have := HJ39.out; have := HK5.out; omega⟩, ⟨by (with_reducible repeat (first | apply Kd.R_alloc | apply Kd.R_drewN | apply Kd.R_drew)); exact Kd.R_mono HO146.out (fun _ hk => trivial)⟩, ⟨by (with_reducible repeat (first | refine blk_drewN ?_ _ | refine blk_drew ?_ | refine blk_alloc ?_ _)); exact BK101.out⟩, ⟨by repeat (first | (with_reducible first | exact HB.out | apply below_alloc | apply pw_below_drewN | apply below_drew1 | refine below_set ?_ GE101.out) | exact HB.out)⟩⟩
                                    · as_aux_lemma =>
                                      rw [if_neg c64] at H
                                      exact absurd H (by simp)
                                  · as_aux_lemma =>
                                    rw [if_neg c62] at H
                                    exact absurd H (by simp)
                                · as_aux_lemma =>
                                  rw [if_neg c61] at H
                                  have c61b0 : decide (x10_5 < (l0_13.length : Int)) = false := decide_eq_false c61
                                  clear c61
                                  (first | rw [c61b0] | (simp only [i64_w, i32_w]; rw [c61b0]) | skip)
                                  have H' := Aside0.mk H
                                  clear H
                                  have hcz69_0 : wr.cell? ⟨gb101, 0, none⟩ = some (.int .i64 a0_0) := (blk_cell BK101.out 0).trans rfl
                                  have hcz69_1 : wr.cell? ⟨gb101, 1, none⟩ = some (.int .i64 a0_1) := (blk_cell BK101.out 1).trans rfl
                                  have hcz69_2 : wr.cell? ⟨gb101, 2, none⟩ = some (.int .i64 a0_2) := (blk_cell BK101.out 2).trans rfl
                                  have hcz69_3 : wr.cell? ⟨gb101, 3, none⟩ = some (.int .i64 a0_3) := (blk_cell BK101.out 3).trans rfl
                                  have hcz69_4 : wr.cell? ⟨gb101, 4, none⟩ = some (.int .i64 a0_4) := (blk_cell BK101.out 4).trans rfl
                                  have hcz69_5 : wr.cell? ⟨gb101, 5, none⟩ = some (.int .i64 a0_5) := (blk_cell BK101.out 5).trans rfl
                                  have hcz69_6 : wr.cell? ⟨gb101, 6, none⟩ = some (.bool a0_6) := (blk_cell BK101.out 6).trans rfl
                                  have hcz69_7 : wr.cell? ⟨gb101, 7, none⟩ = some (.string a0_7) := (blk_cell BK101.out 7).trans rfl
                                  have hcz69_8 : wr.cell? ⟨gb101, 8, none⟩ = some (.int .i64 a0_8) := (blk_cell BK101.out 8).trans rfl
                                  have hcz69_9 : wr.cell? ⟨gb101, 9, none⟩ = some (.int .i64 a0_9) := (blk_cell BK101.out 9).trans rfl
                                  have hcz69_10 : wr.cell? ⟨gb101, 10, none⟩ = some (.int .i64 a0_10) := (blk_cell BK101.out 10).trans rfl
                                  have hcz69_11 : wr.cell? ⟨gb101, 11, none⟩ = some (.bool a0_11) := (blk_cell BK101.out 11).trans rfl
                                  have hcz69_12 : wr.cell? ⟨gb101, 12, none⟩ = some (.slice A0_12 l0_12.length c0_12) := (blk_cell BK101.out 12).trans rfl
                                  have hcz69_13 : wr.cell? ⟨gb101, 13, none⟩ = some (.slice A0_13 l0_13.length c0_13) := (blk_cell BK101.out 13).trans rfl
                                  have hcz69_14 : wr.cell? ⟨gb101, 14, none⟩ = some (.slice A0_14 l0_14.length c0_14) := (blk_cell BK101.out 14).trans rfl
                                  have hcz69_15 : wr.cell? ⟨gb101, 15, none⟩ = some (.int .i64 a0_15) := (blk_cell BK101.out 15).trans rfl
                                  have hcz69_16 : wr.cell? ⟨gb101, 16, none⟩ = some (.int .i64 a0_16) := (blk_cell BK101.out 16).trans rfl
                                  have hfz69_0 := blk_frozen BK101.out 0
                                  have hfz69_1 := blk_frozen BK101.out 1
                                  have hfz69_2 := blk_frozen BK101.out 2
                                  have hfz69_3 := blk_frozen BK101.out 3
                                  have hfz69_4 := blk_frozen BK101.out 4
                                  have hfz69_5 := blk_frozen BK101.out 5
                                  have hfz69_6 := blk_frozen BK101.out 6
                                  have hfz69_7 := blk_frozen BK101.out 7
                                  have hfz69_8 := blk_frozen BK101.out 8
                                  have hfz69_9 := blk_frozen BK101.out 9
                                  have hfz69_10 := blk_frozen BK101.out 10
                                  have hfz69_11 := blk_frozen BK101.out 11
                                  have hfz69_12 := blk_frozen BK101.out 12
                                  have hfz69_13 := blk_frozen BK101.out 13
                                  have hfz69_14 := blk_frozen BK101.out 14
                                  have hfz69_15 := blk_frozen BK101.out 15
                                  have hfz69_16 := blk_frozen BK101.out 16
                                  go_wp2
                                  go_meet
                                  case rel => exact ⟨_, (x5_5), H', ⟨by have := HJ4.out; have := HK2.out; have := HJ26.out; have := HJ39.out; have := HK5.out; first | omega | exact Nat.le_refl _⟩, ⟨by (with_reducible repeat (first | apply Kd.R_alloc | apply Kd.R_drewN | apply Kd.R_drew)); exact HO_5.out⟩, ⟨by (with_reducible repeat (first | refine blk_drewN ?_ _ | refine blk_drew ?_ | refine blk_alloc ?_ _)); exact BK101.out⟩, ⟨by repeat (first | (with_reducible first | exact HB.out | apply below_alloc | apply pw_below_drewN | apply below_drew1 | refine below_set ?_ GE101.out) | exact HB.out)⟩⟩
                          · as_aux_lemma =>
                            rw [if_neg c56] at H
                            exact absurd H (by simp)
                        · replace c54 := Bool.eq_false_iff.mpr c54
                          subst c54
                          have H1 : (icehouseref12_Bytes.j5 kj39 x5_39 a0_0 a0_1 a0_2 a0_3 a0_4 a0_5 a0_6 a0_7 a0_8 a0_9 a0_10 a0_11 l0_12 l0_13 l0_14 a0_15 a0_16) = some (r1, r2) := by rw [if_neg (show ¬ (false = true) by decide)] at H; exact H
                          clear H
                          have H := H1
                          clear H1
                          have H' := Aside0.mk H
                          clear H
                          go_wp2
                          go_meet
                          case rel => exact ⟨_, (x5_39), H', ⟨by have := HJ4.out; have := HK2.out; have := HJ26.out; have := HJ39.out; first | omega | exact Nat.le_refl _⟩, ⟨by (with_reducible repeat (first | apply Kd.R_alloc | apply Kd.R_drewN | apply Kd.R_drew)); exact HO_5.out⟩, ⟨by (with_reducible repeat (first | refine blk_drewN ?_ _ | refine blk_drew ?_ | refine blk_alloc ?_ _)); exact BK101.out⟩, ⟨by repeat (first | (with_reducible first | exact HB.out | apply below_alloc | apply pw_below_drewN | apply below_drew1 | refine below_set ?_ GE101.out) | exact HB.out)⟩⟩
                      case rest =>
                        as_aux_lemma =>
                        clear HC51
                        try clear c1
                        try clear p1
                        try clear q1
                        try clear hx1
                        try clear c2
                        try clear p2
                        try clear c3
                        try clear c3b0
                        try clear c3b1
                        try clear c4
                        try clear c5
                        try clear c6
                        try clear p6
                        try clear p11
                        try clear q11
                        try clear hx11
                        try clear c13
                        try clear p13
                        try clear q13
                        try clear hx13
                        try clear c14
                        try clear c15
                        try clear c16
                        try clear c18
                        try clear c18b0
                        try clear c19
                        try clear c19b0
                        try clear c21
                        try clear c31
                        try clear c32
                        try clear c33
                        try clear c34
                        try clear c36
                        try clear c43
                        try clear c45
                        try clear c54
                        try clear c56
                        try clear c61
                        try clear c61b0
                        try clear c62
                        try clear c62b0
                        try clear c64
                        try clear p64
                        try clear hcz12_0
                        try clear hcz12_1
                        try clear hcz12_10
                        try clear hcz12_11
                        try clear hcz12_12
                        try clear hcz12_13
                        try clear hcz12_14
                        try clear hcz12_15
                        try clear hcz12_16
                        try clear hcz12_2
                        try clear hcz12_3
                        try clear hcz12_4
                        try clear hcz12_5
                        try clear hcz12_6
                        try clear hcz12_7
                        try clear hcz12_8
                        try clear hcz12_9
                        try clear hcz16_0
                        try clear hcz16_1
                        try clear hcz16_10
                        try clear hcz16_11
                        try clear hcz16_12
                        try clear hcz16_13
                        try clear hcz16_14
                        try clear hcz16_15
                        try clear hcz16_16
                        try clear hcz16_2
                        try clear hcz16_3
                        try clear hcz16_4
                        try clear hcz16_5
                        try clear hcz16_6
                        try clear hcz16_7
                        try clear hcz16_8
                        try clear hcz16_9
                        try clear hcz29_0
                        try clear hcz29_1
                        try clear hcz29_10
                        try clear hcz29_11
                        try clear hcz29_12
                        try clear hcz29_13
                        try clear hcz29_14
                        try clear hcz29_15
                        try clear hcz29_16
                        try clear hcz29_2
                        try clear hcz29_3
                        try clear hcz29_4
                        try clear hcz29_5
                        try clear hcz29_6
                        try clear hcz29_7
                        try clear hcz29_8
                        try clear hcz29_9
                        try clear hcz34_0
                        try clear hcz34_1
                        try clear hcz34_10
                        try clear hcz34_11
                        try clear hcz34_12
                        try clear hcz34_13
                        try clear hcz34_14
                        try clear hcz34_15
                        try clear hcz34_16
                        try clear hcz34_2
                        try clear hcz34_3
                        try clear hcz34_4
                        try clear hcz34_5
                        try clear hcz34_6
                        try clear hcz34_7
                        try clear hcz34_8
                        try clear hcz34_9
                        try clear hcz37_0
                        try clear hcz37_1
                        try clear hcz37_10
                        try clear hcz37_11
                        try clear hcz37_12
                        try clear hcz37_13
                        try clear hcz37_14
                        try clear hcz37_15
                        try clear hcz37_16
                        try clear hcz37_2
                        try clear hcz37_3
                        try clear hcz37_4
                        try clear hcz37_5
                        try clear hcz37_6
                        try clear hcz37_7
                        try clear hcz37_8
                        try clear hcz37_9
                        try clear hcz41_0
                        try clear hcz41_1
                        try clear hcz41_10
                        try clear hcz41_11
                        try clear hcz41_12
                        try clear hcz41_13
                        try clear hcz41_14
                        try clear hcz41_15
                        try clear hcz41_16
                        try clear hcz41_2
                        try clear hcz41_3
                        try clear hcz41_4
                        try clear hcz41_5
                        try clear hcz41_6
                        try clear hcz41_7
                        try clear hcz41_8
                        try clear hcz41_9
                        try clear hcz46_0
                        try clear hcz46_1
                        try clear hcz46_10
                        try clear hcz46_11
                        try clear hcz46_12
                        try clear hcz46_13
                        try clear hcz46_14
                        try clear hcz46_15
                        try clear hcz46_16
                        try clear hcz46_2
                        try clear hcz46_3
                        try clear hcz46_4
                        try clear hcz46_5
                        try clear hcz46_6
                        try clear hcz46_7
                        try clear hcz46_8
                        try clear hcz46_9
                        try clear hcz52_0
                        try clear hcz52_1
                        try clear hcz52_10
                        try clear hcz52_11
                        try clear hcz52_12
                        try clear hcz52_13
                        try clear hcz52_14
                        try clear hcz52_15
                        try clear hcz52_16
                        try clear hcz52_2
                        try clear hcz52_3
                        try clear hcz52_4
                        try clear hcz52_5
                        try clear hcz52_6
                        try clear hcz52_7
                        try clear hcz52_8
                        try clear hcz52_9
                        try clear hcz57_0
                        try clear hcz57_1
                        try clear hcz57_10
                        try clear hcz57_11
                        try clear hcz57_12
                        try clear hcz57_13
                        try clear hcz57_14
                        try clear hcz57_15
                        try clear hcz57_16
                        try clear hcz57_2
                        try clear hcz57_3
                        try clear hcz57_4
                        try clear hcz57_5
                        try clear hcz57_6
                        try clear hcz57_7
                        try clear hcz57_8
                        try clear hcz57_9
                        try clear hcz65_0
                        try clear hcz65_1
                        try clear hcz65_10
                        try clear hcz65_11
                        try clear hcz65_12
                        try clear hcz65_13
                        try clear hcz65_14
                        try clear hcz65_15
                        try clear hcz65_16
                        try clear hcz65_2
                        try clear hcz65_3
                        try clear hcz65_4
                        try clear hcz65_5
                        try clear hcz65_6
                        try clear hcz65_7
                        try clear hcz65_8
                        try clear hcz65_9
                        try clear hcz69_0
                        try clear hcz69_1
                        try clear hcz69_10
                        try clear hcz69_11
                        try clear hcz69_12
                        try clear hcz69_13
                        try clear hcz69_14
                        try clear hcz69_15
                        try clear hcz69_16
                        try clear hcz69_2
                        try clear hcz69_3
                        try clear hcz69_4
                        try clear hcz69_5
                        try clear hcz69_6
                        try clear hcz69_7
                        try clear hcz69_8
                        try clear hcz69_9
                        try clear hcz7_0
                        try clear hcz7_1
                        try clear hcz7_10
                        try clear hcz7_11
                        try clear hcz7_12
                        try clear hcz7_13
                        try clear hcz7_14
                        try clear hcz7_15
                        try clear hcz7_16
                        try clear hcz7_2
                        try clear hcz7_3
                        try clear hcz7_4
                        try clear hcz7_5
                        try clear hcz7_6
                        try clear hcz7_7
                        try clear hcz7_8
                        try clear hcz7_9
                        try clear hcz9_0
                        try clear hcz9_1
                        try clear hcz9_10
                        try clear hcz9_11
                        try clear hcz9_12
                        try clear hcz9_13
                        try clear hcz9_14
                        try clear hcz9_15
                        try clear hcz9_16
                        try clear hcz9_2
                        try clear hcz9_3
                        try clear hcz9_4
                        try clear hcz9_5
                        try clear hcz9_6
                        try clear hcz9_7
                        try clear hcz9_8
                        try clear hcz9_9
                        try clear hfz12_0
                        try clear hfz12_1
                        try clear hfz12_10
                        try clear hfz12_11
                        try clear hfz12_12
                        try clear hfz12_13
                        try clear hfz12_14
                        try clear hfz12_15
                        try clear hfz12_16
                        try clear hfz12_2
                        try clear hfz12_3
                        try clear hfz12_4
                        try clear hfz12_5
                        try clear hfz12_6
                        try clear hfz12_7
                        try clear hfz12_8
                        try clear hfz12_9
                        try clear hfz16_0
                        try clear hfz16_1
                        try clear hfz16_10
                        try clear hfz16_11
                        try clear hfz16_12
                        try clear hfz16_13
                        try clear hfz16_14
                        try clear hfz16_15
                        try clear hfz16_16
                        try clear hfz16_2
                        try clear hfz16_3
                        try clear hfz16_4
                        try clear hfz16_5
                        try clear hfz16_6
                        try clear hfz16_7
                        try clear hfz16_8
                        try clear hfz16_9
                        try clear hfz29_0
                        try clear hfz29_1
                        try clear hfz29_10
                        try clear hfz29_11
                        try clear hfz29_12
                        try clear hfz29_13
                        try clear hfz29_14
                        try clear hfz29_15
                        try clear hfz29_16
                        try clear hfz29_2
                        try clear hfz29_3
                        try clear hfz29_4
                        try clear hfz29_5
                        try clear hfz29_6
                        try clear hfz29_7
                        try clear hfz29_8
                        try clear hfz29_9
                        try clear hfz34_0
                        try clear hfz34_1
                        try clear hfz34_10
                        try clear hfz34_11
                        try clear hfz34_12
                        try clear hfz34_13
                        try clear hfz34_14
                        try clear hfz34_15
                        try clear hfz34_16
                        try clear hfz34_2
                        try clear hfz34_3
                        try clear hfz34_4
                        try clear hfz34_5
                        try clear hfz34_6
                        try clear hfz34_7
                        try clear hfz34_8
                        try clear hfz34_9
                        try clear hfz37_0
                        try clear hfz37_1
                        try clear hfz37_10
                        try clear hfz37_11
                        try clear hfz37_12
                        try clear hfz37_13
                        try clear hfz37_14
                        try clear hfz37_15
                        try clear hfz37_16
                        try clear hfz37_2
                        try clear hfz37_3
                        try clear hfz37_4
                        try clear hfz37_5
                        try clear hfz37_6
                        try clear hfz37_7
                        try clear hfz37_8
                        try clear hfz37_9
                        try clear hfz41_0
                        try clear hfz41_1
                        try clear hfz41_10
                        try clear hfz41_11
                        try clear hfz41_12
                        try clear hfz41_13
                        try clear hfz41_14
                        try clear hfz41_15
                        try clear hfz41_16
                        try clear hfz41_2
                        try clear hfz41_3
                        try clear hfz41_4
                        try clear hfz41_5
                        try clear hfz41_6
                        try clear hfz41_7
                        try clear hfz41_8
                        try clear hfz41_9
                        try clear hfz46_0
                        try clear hfz46_1
                        try clear hfz46_10
                        try clear hfz46_11
                        try clear hfz46_12
                        try clear hfz46_13
                        try clear hfz46_14
                        try clear hfz46_15
                        try clear hfz46_16
                        try clear hfz46_2
                        try clear hfz46_3
                        try clear hfz46_4
                        try clear hfz46_5
                        try clear hfz46_6
                        try clear hfz46_7
                        try clear hfz46_8
                        try clear hfz46_9
                        try clear hfz52_0
                        try clear hfz52_1
                        try clear hfz52_10
                        try clear hfz52_11
                        try clear hfz52_12
                        try clear hfz52_13
                        try clear hfz52_14
                        try clear hfz52_15
                        try clear hfz52_16
                        try clear hfz52_2
                        try clear hfz52_3
                        try clear hfz52_4
                        try clear hfz52_5
                        try clear hfz52_6
                        try clear hfz52_7
                        try clear hfz52_8
                        try clear hfz52_9
                        try clear hfz57_0
                        try clear hfz57_1
                        try clear hfz57_10
                        try clear hfz57_11
                        try clear hfz57_12
                        try clear hfz57_13
                        try clear hfz57_14
                        try clear hfz57_15
                        try clear hfz57_16
                        try clear hfz57_2
                        try clear hfz57_3
                        try clear hfz57_4
                        try clear hfz57_5
                        try clear hfz57_6
                        try clear hfz57_7
                        try clear hfz57_8
                        try clear hfz57_9
                        try clear hfz65_0
                        try clear hfz65_1
                        try clear hfz65_10
                        try clear hfz65_11
                        try clear hfz65_12
                        try clear hfz65_13
                        try clear hfz65_14
                        try clear hfz65_15
                        try clear hfz65_16
                        try clear hfz65_2
                        try clear hfz65_3
                        try clear hfz65_4
                        try clear hfz65_5
                        try clear hfz65_6
                        try clear hfz65_7
                        try clear hfz65_8
                        try clear hfz65_9
                        try clear hfz69_0
                        try clear hfz69_1
                        try clear hfz69_10
                        try clear hfz69_11
                        try clear hfz69_12
                        try clear hfz69_13
                        try clear hfz69_14
                        try clear hfz69_15
                        try clear hfz69_16
                        try clear hfz69_2
                        try clear hfz69_3
                        try clear hfz69_4
                        try clear hfz69_5
                        try clear hfz69_6
                        try clear hfz69_7
                        try clear hfz69_8
                        try clear hfz69_9
                        try clear hfz7_0
                        try clear hfz7_1
                        try clear hfz7_10
                        try clear hfz7_11
                        try clear hfz7_12
                        try clear hfz7_13
                        try clear hfz7_14
                        try clear hfz7_15
                        try clear hfz7_16
                        try clear hfz7_2
                        try clear hfz7_3
                        try clear hfz7_4
                        try clear hfz7_5
                        try clear hfz7_6
                        try clear hfz7_7
                        try clear hfz7_8
                        try clear hfz7_9
                        try clear hfz9_0
                        try clear hfz9_1
                        try clear hfz9_10
                        try clear hfz9_11
                        try clear hfz9_12
                        try clear hfz9_13
                        try clear hfz9_14
                        try clear hfz9_15
                        try clear hfz9_16
                        try clear hfz9_2
                        try clear hfz9_3
                        try clear hfz9_4
                        try clear hfz9_5
                        try clear hfz9_6
                        try clear hfz9_7
                        try clear hfz9_8
                        try clear hfz9_9
                        try clear hx110_0
                        try clear hx139_0
                        try clear hx139_1
                        try clear hx139_2
                        try clear hx139_3
                        try clear hx139_4
                        try clear hx139_5
                        try clear p1
                        try clear p11
                        try clear p110
                        try clear p139
                        try clear p2
                        try clear p6
                        try clear q1
                        try clear q11
                        try clear q110
                        try clear q139
                        obtain ⟨kq, x5_50, HA, HJ50, HO_5, BK101, HB⟩ := hcut
                        cases kq with
                        | zero => exact absurd HA.out (by simp [icehouseref12_Bytes.j5])
                        | succ kj50 =>
                          have H := HA.out
                          clear HA
                          simp only [icehouseref12_Bytes.j5] at H
                          replace H := Option.bind_eq_some_iff.mp H
                          obtain ⟨t147, A700, H⟩ := H
                          replace H : (if t147 = true then ((some (([a0_15, a0_16, (l0_14.length : Int)] : List Int) : List Int)).bind fun y148 => (if y148.length + l0_14.length < 17592186044416 then (icehouseref12_Bytes.l2 kj50 x5_50 (y148 ++ l0_14) 0) else (none))) else (some (x5_50, 0))) = some (r1, r2) := H
                          have A70 := Aside0.mk A700
                          clear A700
                          by_cases c71 : t147 = true
                          · subst c71
                            have H1 : ((some (([a0_15, a0_16, (l0_14.length : Int)] : List Int) : List Int)).bind fun y148 => (if y148.length + l0_14.length < 17592186044416 then (icehouseref12_Bytes.l2 kj50 x5_50 (y148 ++ l0_14) 0) else (none))) = some (r1, r2) := by rw [if_pos rfl] at H; exact H
                            clear H
                            have H := H1
                            clear H1
                            obtain ⟨y148, hy148⟩ : ∃ y_ : List Int, y_ = (([a0_15, a0_16, (l0_14.length : Int)] : List Int)) := ⟨_, rfl⟩
                            replace H : (if y148.length + l0_14.length < 17592186044416 then (icehouseref12_Bytes.l2 kj50 x5_50 (y148 ++ l0_14) 0) else (none)) = some (r1, r2) := by first | (rw [hy148]; with_reducible exact H) | (have H2_ := (Option.bind_some _ _).symm.trans H; rw [hy148]; with_reducible exact H2_) | (have H2_ := (Option.bind_some _ _).symm.trans H; with_reducible exact H2_) | with_reducible exact H | (rw [hy148]; exact H) | exact H
                            have Ny148 := Aside0.mk hy148
                            clear hy148
                            by_cases c72 : y148.length + l0_14.length < 17592186044416
                            · as_aux_lemma =>
                              rw [if_pos c72] at H
                              have LMc72 := Aside0.mk c72
                              clear c72
                              obtain ⟨y151, hy151⟩ : ∃ y_ : List Int, y_ = (y148 ++ l0_14) := ⟨_, rfl⟩
                              replace H : (icehouseref12_Bytes.l2 kj50 x5_50 y151 0) = some (r1, r2) := by first | (rw [hy151]; with_reducible exact H) | (have H2_ := (Option.bind_some _ _).symm.trans H; rw [hy151]; with_reducible exact H2_) | (have H2_ := (Option.bind_some _ _).symm.trans H; with_reducible exact H2_) | with_reducible exact H | (rw [hy151]; exact H) | exact H
                              have Ny151 := Aside0.mk hy151
                              clear hy151
                              have H' := Aside0.mk H
                              clear H
                              have hcz73_0 : wc.cell? ⟨gb101, 0, none⟩ = some (.int .i64 a0_0) := (blk_cell BK101.out 0).trans rfl
                              have hcz73_1 : wc.cell? ⟨gb101, 1, none⟩ = some (.int .i64 a0_1) := (blk_cell BK101.out 1).trans rfl
                              have hcz73_2 : wc.cell? ⟨gb101, 2, none⟩ = some (.int .i64 a0_2) := (blk_cell BK101.out 2).trans rfl
                              have hcz73_3 : wc.cell? ⟨gb101, 3, none⟩ = some (.int .i64 a0_3) := (blk_cell BK101.out 3).trans rfl
                              have hcz73_4 : wc.cell? ⟨gb101, 4, none⟩ = some (.int .i64 a0_4) := (blk_cell BK101.out 4).trans rfl
                              have hcz73_5 : wc.cell? ⟨gb101, 5, none⟩ = some (.int .i64 a0_5) := (blk_cell BK101.out 5).trans rfl
                              have hcz73_6 : wc.cell? ⟨gb101, 6, none⟩ = some (.bool a0_6) := (blk_cell BK101.out 6).trans rfl
                              have hcz73_7 : wc.cell? ⟨gb101, 7, none⟩ = some (.string a0_7) := (blk_cell BK101.out 7).trans rfl
                              have hcz73_8 : wc.cell? ⟨gb101, 8, none⟩ = some (.int .i64 a0_8) := (blk_cell BK101.out 8).trans rfl
                              have hcz73_9 : wc.cell? ⟨gb101, 9, none⟩ = some (.int .i64 a0_9) := (blk_cell BK101.out 9).trans rfl
                              have hcz73_10 : wc.cell? ⟨gb101, 10, none⟩ = some (.int .i64 a0_10) := (blk_cell BK101.out 10).trans rfl
                              have hcz73_11 : wc.cell? ⟨gb101, 11, none⟩ = some (.bool a0_11) := (blk_cell BK101.out 11).trans rfl
                              have hcz73_12 : wc.cell? ⟨gb101, 12, none⟩ = some (.slice A0_12 l0_12.length c0_12) := (blk_cell BK101.out 12).trans rfl
                              have hcz73_13 : wc.cell? ⟨gb101, 13, none⟩ = some (.slice A0_13 l0_13.length c0_13) := (blk_cell BK101.out 13).trans rfl
                              have hcz73_14 : wc.cell? ⟨gb101, 14, none⟩ = some (.slice A0_14 l0_14.length c0_14) := (blk_cell BK101.out 14).trans rfl
                              have hcz73_15 : wc.cell? ⟨gb101, 15, none⟩ = some (.int .i64 a0_15) := (blk_cell BK101.out 15).trans rfl
                              have hcz73_16 : wc.cell? ⟨gb101, 16, none⟩ = some (.int .i64 a0_16) := (blk_cell BK101.out 16).trans rfl
                              have hfz73_0 := blk_frozen BK101.out 0
                              have hfz73_1 := blk_frozen BK101.out 1
                              have hfz73_2 := blk_frozen BK101.out 2
                              have hfz73_3 := blk_frozen BK101.out 3
                              have hfz73_4 := blk_frozen BK101.out 4
                              have hfz73_5 := blk_frozen BK101.out 5
                              have hfz73_6 := blk_frozen BK101.out 6
                              have hfz73_7 := blk_frozen BK101.out 7
                              have hfz73_8 := blk_frozen BK101.out 8
                              have hfz73_9 := blk_frozen BK101.out 9
                              have hfz73_10 := blk_frozen BK101.out 10
                              have hfz73_11 := blk_frozen BK101.out 11
                              have hfz73_12 := blk_frozen BK101.out 12
                              have hfz73_13 := blk_frozen BK101.out 13
                              have hfz73_14 := blk_frozen BK101.out 14
                              have hfz73_15 := blk_frozen BK101.out 15
                              have hfz73_16 := blk_frozen BK101.out 16
                              go_wp2_with (first | ((with_reducible refine gate_callee (f := 21) rfl ?_); refine goesL_ (some 101) rfl rfl Tryd.func21 (by kernel_rfl) rfl #[.int .i64 a0_0, .string (⟨#[114]⟩ : ByteArray)] rfl (by (try simp only [List.map_toArray, List.map_cons, List.map_nil]); first | done | rfl | (simp only [List.length_drop, List.length_take]; rfl)) ?_; (with_reducible refine (QR.icehouseref12_Has.calls kj50 a0_0 (⟨#[114]⟩ : ByteArray) true _ A70.out).mono ?_); rintro e w74 ⟨rfl, hb⟩; refine ⟨_, rfl, ?_⟩; have n0_ := Aside0.mk (Kd.R_below (by (with_reducible repeat (first | apply Kd.R_alloc | apply Kd.R_drewN | apply Kd.R_drew)); exact HO_5.out) hb); have n1_ := Aside0.mk (blk_below (g := gb101) (o := .cells #[.int .i64 a0_0, .int .i64 a0_1, .int .i64 a0_2, .int .i64 a0_3, .int .i64 a0_4, .int .i64 a0_5, .bool a0_6, .string a0_7, .int .i64 a0_8, .int .i64 a0_9, .int .i64 a0_10, .bool a0_11, .slice A0_12 l0_12.length c0_12, .slice A0_13 l0_13.length c0_13, .slice A0_14 l0_14.length c0_14, .int .i64 a0_15, .int .i64 a0_16] 34 (0, 0)) (by (with_reducible repeat (first | refine blk_drewN ?_ _ | refine blk_drew ?_ | refine blk_alloc ?_ _)); exact BK101.out) hb); have n2_ := Aside0.mk (below_step (by repeat (first | (with_reducible first | exact HB.out | apply below_alloc | apply pw_below_drewN | apply below_drew1 | refine below_set ?_ GE101.out) | exact HB.out)) hb); clear HO_5; clear BK101; clear HB; have HO_5 := n0_; have BK101 := n1_; have HB := n2_; clear n0_ n1_ n2_; (try clear hb); (try clear hb2); (try clear hk); (try clear hi); have hcz75_0 : w74.cell? ⟨gb101, 0, none⟩ = some (.int .i64 a0_0) := (blk_cell BK101.out 0).trans rfl; have hcz75_1 : w74.cell? ⟨gb101, 1, none⟩ = some (.int .i64 a0_1) := (blk_cell BK101.out 1).trans rfl; have hcz75_2 : w74.cell? ⟨gb101, 2, none⟩ = some (.int .i64 a0_2) := (blk_cell BK101.out 2).trans rfl; have hcz75_3 : w74.cell? ⟨gb101, 3, none⟩ = some (.int .i64 a0_3) := (blk_cell BK101.out 3).trans rfl; have hcz75_4 : w74.cell? ⟨gb101, 4, none⟩ = some (.int .i64 a0_4) := (blk_cell BK101.out 4).trans rfl; have hcz75_5 : w74.cell? ⟨gb101, 5, none⟩ = some (.int .i64 a0_5) := (blk_cell BK101.out 5).trans rfl; have hcz75_6 : w74.cell? ⟨gb101, 6, none⟩ = some (.bool a0_6) := (blk_cell BK101.out 6).trans rfl; have hcz75_7 : w74.cell? ⟨gb101, 7, none⟩ = some (.string a0_7) := (blk_cell BK101.out 7).trans rfl; have hcz75_8 : w74.cell? ⟨gb101, 8, none⟩ = some (.int .i64 a0_8) := (blk_cell BK101.out 8).trans rfl; have hcz75_9 : w74.cell? ⟨gb101, 9, none⟩ = some (.int .i64 a0_9) := (blk_cell BK101.out 9).trans rfl; have hcz75_10 : w74.cell? ⟨gb101, 10, none⟩ = some (.int .i64 a0_10) := (blk_cell BK101.out 10).trans rfl; have hcz75_11 : w74.cell? ⟨gb101, 11, none⟩ = some (.bool a0_11) := (blk_cell BK101.out 11).trans rfl; have hcz75_12 : w74.cell? ⟨gb101, 12, none⟩ = some (.slice A0_12 l0_12.length c0_12) := (blk_cell BK101.out 12).trans rfl; have hcz75_13 : w74.cell? ⟨gb101, 13, none⟩ = some (.slice A0_13 l0_13.length c0_13) := (blk_cell BK101.out 13).trans rfl; have hcz75_14 : w74.cell? ⟨gb101, 14, none⟩ = some (.slice A0_14 l0_14.length c0_14) := (blk_cell BK101.out 14).trans rfl; have hcz75_15 : w74.cell? ⟨gb101, 15, none⟩ = some (.int .i64 a0_15) := (blk_cell BK101.out 15).trans rfl; have hcz75_16 : w74.cell? ⟨gb101, 16, none⟩ = some (.int .i64 a0_16) := (blk_cell BK101.out 16).trans rfl; have hfz75_0 := blk_frozen BK101.out 0; have hfz75_1 := blk_frozen BK101.out 1; have hfz75_2 := blk_frozen BK101.out 2; have hfz75_3 := blk_frozen BK101.out 3; have hfz75_4 := blk_frozen BK101.out 4; have hfz75_5 := blk_frozen BK101.out 5; have hfz75_6 := blk_frozen BK101.out 6; have hfz75_7 := blk_frozen BK101.out 7; have hfz75_8 := blk_frozen BK101.out 8; have hfz75_9 := blk_frozen BK101.out 9; have hfz75_10 := blk_frozen BK101.out 10; have hfz75_11 := blk_frozen BK101.out 11; have hfz75_12 := blk_frozen BK101.out 12; have hfz75_13 := blk_frozen BK101.out 13; have hfz75_14 := blk_frozen BK101.out 14; have hfz75_15 := blk_frozen BK101.out 15; have hfz75_16 := blk_frozen BK101.out 16) | ((with_reducible refine gate_dst (N := 112) rfl ?_); refine Kd.R_lit (Kd.int .i64) _ 3 ?hg (N := 112) ?hd (xs := ([a0_15, a0_16, (l0_14.length : Int)] : List Int)) (inner := [.int .i64 a0_15, .int .i64 a0_16, .int .i64 (l0_14.length : Int)]) (ok := fun _ => True) (okp := fun _ => True) ?hr ?hp (fun _ hk => hk) trivial (Below.refl _ _) (Nat.le_refl _) (by simp) ?_; (case hd => rfl); (case hg => rfl); (case hr => first | (go_simp; done) | (go_simp; rfl)); (case hp => exact (Reps.one (show Kd.M (Kd.int .i64) _ _ _ a0_15 [.int .i64 a0_15] from rfl) (Reps.one (show Kd.M (Kd.int .i64) _ _ _ a0_16 [.int .i64 a0_16] from rfl) (Reps.one (show Kd.M (Kd.int .i64) _ _ _ (l0_14.length : Int) [.int .i64 (l0_14.length : Int)] from rfl) (Reps.none _ _))))); intro v149 w76 ho77 hb hg_ hnew_; clear hg_ hnew_; (first | rw [← Ny148.out] at ho77 | (simp only [Int.reduceToNat] at ho77; rw [← Ny148.out] at ho77)); have n0_ := Aside0.mk (Kd.R_below (by (with_reducible repeat (first | apply Kd.R_alloc | apply Kd.R_drewN | apply Kd.R_drew)); exact HO_5.out) hb); have n1_ := Aside0.mk (Kd.R_lower ho77 (below_size (by repeat (first | (with_reducible first | exact HB.out | apply below_alloc | apply pw_below_drewN | apply below_drew1 | refine below_set ?_ GE101.out) | exact HB.out)))); have n2_ := Aside0.mk (blk_below (g := gb101) (o := .cells #[.int .i64 a0_0, .int .i64 a0_1, .int .i64 a0_2, .int .i64 a0_3, .int .i64 a0_4, .int .i64 a0_5, .bool a0_6, .string a0_7, .int .i64 a0_8, .int .i64 a0_9, .int .i64 a0_10, .bool a0_11, .slice A0_12 l0_12.length c0_12, .slice A0_13 l0_13.length c0_13, .slice A0_14 l0_14.length c0_14, .int .i64 a0_15, .int .i64 a0_16] 34 (0, 0)) (by (with_reducible repeat (first | refine blk_drewN ?_ _ | refine blk_drew ?_ | refine blk_alloc ?_ _)); exact BK101.out) hb); have n3_ := Aside0.mk (below_step (by repeat (first | (with_reducible first | exact HB.out | apply below_alloc | apply pw_below_drewN | apply below_drew1 | refine below_set ?_ GE101.out) | exact HB.out)) hb); clear HO_5; clear BK101; clear HB; have HO_5 := n0_; have HO150 := n1_; have BK101 := n2_; have HB := n3_; clear n0_ n1_ n2_ n3_; clear hb ho77; have hcz78_0 : w76.cell? ⟨gb101, 0, none⟩ = some (.int .i64 a0_0) := (blk_cell BK101.out 0).trans rfl; have hcz78_1 : w76.cell? ⟨gb101, 1, none⟩ = some (.int .i64 a0_1) := (blk_cell BK101.out 1).trans rfl; have hcz78_2 : w76.cell? ⟨gb101, 2, none⟩ = some (.int .i64 a0_2) := (blk_cell BK101.out 2).trans rfl; have hcz78_3 : w76.cell? ⟨gb101, 3, none⟩ = some (.int .i64 a0_3) := (blk_cell BK101.out 3).trans rfl; have hcz78_4 : w76.cell? ⟨gb101, 4, none⟩ = some (.int .i64 a0_4) := (blk_cell BK101.out 4).trans rfl; have hcz78_5 : w76.cell? ⟨gb101, 5, none⟩ = some (.int .i64 a0_5) := (blk_cell BK101.out 5).trans rfl; have hcz78_6 : w76.cell? ⟨gb101, 6, none⟩ = some (.bool a0_6) := (blk_cell BK101.out 6).trans rfl; have hcz78_7 : w76.cell? ⟨gb101, 7, none⟩ = some (.string a0_7) := (blk_cell BK101.out 7).trans rfl; have hcz78_8 : w76.cell? ⟨gb101, 8, none⟩ = some (.int .i64 a0_8) := (blk_cell BK101.out 8).trans rfl; have hcz78_9 : w76.cell? ⟨gb101, 9, none⟩ = some (.int .i64 a0_9) := (blk_cell BK101.out 9).trans rfl; have hcz78_10 : w76.cell? ⟨gb101, 10, none⟩ = some (.int .i64 a0_10) := (blk_cell BK101.out 10).trans rfl; have hcz78_11 : w76.cell? ⟨gb101, 11, none⟩ = some (.bool a0_11) := (blk_cell BK101.out 11).trans rfl; have hcz78_12 : w76.cell? ⟨gb101, 12, none⟩ = some (.slice A0_12 l0_12.length c0_12) := (blk_cell BK101.out 12).trans rfl; have hcz78_13 : w76.cell? ⟨gb101, 13, none⟩ = some (.slice A0_13 l0_13.length c0_13) := (blk_cell BK101.out 13).trans rfl; have hcz78_14 : w76.cell? ⟨gb101, 14, none⟩ = some (.slice A0_14 l0_14.length c0_14) := (blk_cell BK101.out 14).trans rfl; have hcz78_15 : w76.cell? ⟨gb101, 15, none⟩ = some (.int .i64 a0_15) := (blk_cell BK101.out 15).trans rfl; have hcz78_16 : w76.cell? ⟨gb101, 16, none⟩ = some (.int .i64 a0_16) := (blk_cell BK101.out 16).trans rfl; have hfz78_0 := blk_frozen BK101.out 0; have hfz78_1 := blk_frozen BK101.out 1; have hfz78_2 := blk_frozen BK101.out 2; have hfz78_3 := blk_frozen BK101.out 3; have hfz78_4 := blk_frozen BK101.out 4; have hfz78_5 := blk_frozen BK101.out 5; have hfz78_6 := blk_frozen BK101.out 6; have hfz78_7 := blk_frozen BK101.out 7; have hfz78_8 := blk_frozen BK101.out 8; have hfz78_9 := blk_frozen BK101.out 9; have hfz78_10 := blk_frozen BK101.out 10; have hfz78_11 := blk_frozen BK101.out 11; have hfz78_12 := blk_frozen BK101.out 12; have hfz78_13 := blk_frozen BK101.out 13; have hfz78_14 := blk_frozen BK101.out 14; have hfz78_15 := blk_frozen BK101.out 15; have hfz78_16 := blk_frozen BK101.out 16) | ((with_reducible refine gate_builtin (b := .append) (xs := #[.tmp 113, .tmp 116]) rfl ?_); at_builtin; refine Kd.R_append_rows (Kd.int .i64) (w0 := w) w.heap.size rfl (.tmp 113) (.tmp 116) 30 3 (.int .i64 0) 8 rfl Tryd.underlying30 info3 rfl (by decide) (by omega) v149 y148 l0_14 _ _ _ (fun _ => True) (fun _ => False) rfl rfl ?aO ?aR (fun _ _ h => h) (fun _ h => h.elim) ?aF ?aB ?aS ?aL ?_; (case aR => repeat (first | exact (Kd.C_below HR0_14.out HB.out) | (with_reducible refine Kd.C_alloc ?_ _) | (with_reducible refine Kd.C_drewN ?_ _) | (with_reducible refine Kd.C_drew ?_))); (case aB => exact (by repeat (first | (with_reducible first | exact HB.out | apply below_alloc | apply pw_below_drewN | apply below_drew1 | refine below_set ?_ GE101.out) | exact HB.out))); (case aF => exact (fun _ _ => trivial)); (case aO => exact (by (with_reducible repeat (first | apply Kd.R_alloc | apply Kd.R_drewN | apply Kd.R_drew)); exact HO150.out)); (case aS => exact (below_size (by repeat (first | (with_reducible first | exact HB.out | apply below_alloc | apply pw_below_drewN | apply below_drew1 | refine below_set ?_ GE101.out) | exact HB.out)))); (case aL => have := LMc72.out; omega); intro v152 w79 ho hb hg hat; rw [← Ny151.out] at ho; have n0_ := Aside0.mk (Kd.R_over' (by (with_reducible repeat (first | apply Kd.R_alloc | apply Kd.R_drewN | apply Kd.R_drew)); exact HO_5.out) (Kd.R_typed (by (with_reducible repeat (first | apply Kd.R_alloc | apply Kd.R_drewN | apply Kd.R_drew)); exact HO150.out)) (by decide) hg); have n1_ := Aside0.mk (blk_grown (g := gb101) (o := .cells #[.int .i64 a0_0, .int .i64 a0_1, .int .i64 a0_2, .int .i64 a0_3, .int .i64 a0_4, .int .i64 a0_5, .bool a0_6, .string a0_7, .int .i64 a0_8, .int .i64 a0_9, .int .i64 a0_10, .bool a0_11, .slice A0_12 l0_12.length c0_12, .slice A0_13 l0_13.length c0_13, .slice A0_14 l0_14.length c0_14, .int .i64 a0_15, .int .i64 a0_16] 34 (0, 0)) (by (with_reducible repeat (first | refine blk_drewN ?_ _ | refine blk_drew ?_ | refine blk_alloc ?_ _)); exact BK101.out) hg (Kd.R_ne HO150.out BK101.out (by decide))); have n2_ := Aside0.mk (hb); have n3_ := Aside0.mk (ho); clear HO_5; clear BK101; clear HB; clear HO150; have HO_5 := n0_; have BK101 := n1_; have HB := n2_; have HO153 := n3_; clear n0_ n1_ n2_ n3_; clear ho hb hg hat))
                              go_loopg [5, 14] kj50 (fun kq v5 v14 w' => ∃ (x5_6 : List Int) (x14_6 : Int), v14 = .int .i64 x14_6 ∧ Aside0 (icehouseref12_Bytes.l2 kq x5_6 y151 x14_6 = some (r1, r2)) ∧ Aside0 (kq ≤ kj50) ∧ Aside0 (Kd.R (Kd.int .u8) 5 w' w.heap.size (fun _ => True) v5 x5_6) ∧ Aside0 (Kd.R (Kd.int .i64) 3 w' w.heap.size (fun _ => True) v152 y151) ∧ Aside0 (w'.heap[gb101]? = some (.cells #[.int .i64 a0_0, .int .i64 a0_1, .int .i64 a0_2, .int .i64 a0_3, .int .i64 a0_4, .int .i64 a0_5, .bool a0_6, .string a0_7, .int .i64 a0_8, .int .i64 a0_9, .int .i64 a0_10, .bool a0_11, (.slice A0_12 l0_12.length c0_12), (.slice A0_13 l0_13.length c0_13), (.slice A0_14 l0_14.length c0_14), .int .i64 a0_15, .int .i64 a0_16] 34 (0, 0))) ∧ Aside0 (Below w.heap.size w w'))
                              case atStart => exact ⟨(x5_50), (0), (by first | rfl | (simp; done) | (simp [*]; done)), H', ⟨Nat.le_refl _⟩, ⟨by (with_reducible repeat (first | apply Kd.R_alloc | apply Kd.R_drewN | apply Kd.R_drew)); exact HO_5.out⟩, ⟨by (with_reducible repeat (first | apply Kd.R_alloc | apply Kd.R_drewN | apply Kd.R_drew)); exact HO153.out⟩, ⟨by (with_reducible repeat (first | refine blk_drewN ?_ _ | refine blk_drew ?_ | refine blk_alloc ?_ _)); exact BK101.out⟩, ⟨by repeat (first | (with_reducible first | exact HB.out | apply below_alloc | apply pw_below_drewN | apply below_drew1 | refine below_set ?_ GE101.out) | exact HB.out)⟩⟩
                              case round =>
                                as_aux_lemma =>
                                clear H'
                                try clear c1
                                try clear p1
                                try clear q1
                                try clear hx1
                                try clear c2
                                try clear p2
                                try clear c3
                                try clear c3b0
                                try clear c3b1
                                try clear c4
                                try clear c5
                                try clear c6
                                try clear p6
                                try clear c7
                                try clear p11
                                try clear q11
                                try clear hx11
                                try clear c13
                                try clear p13
                                try clear q13
                                try clear hx13
                                try clear c14
                                try clear c15
                                try clear c16
                                try clear c18
                                try clear c18b0
                                try clear c19
                                try clear c19b0
                                try clear c21
                                try clear c31
                                try clear c32
                                try clear c33
                                try clear c34
                                try clear c36
                                try clear c43
                                try clear c45
                                try clear c54
                                try clear c56
                                try clear c61
                                try clear c61b0
                                try clear c62
                                try clear c62b0
                                try clear c64
                                try clear p64
                                try clear c71
                                try clear c72
                                try clear hcz12_0
                                try clear hcz12_1
                                try clear hcz12_10
                                try clear hcz12_11
                                try clear hcz12_12
                                try clear hcz12_13
                                try clear hcz12_14
                                try clear hcz12_15
                                try clear hcz12_16
                                try clear hcz12_2
                                try clear hcz12_3
                                try clear hcz12_4
                                try clear hcz12_5
                                try clear hcz12_6
                                try clear hcz12_7
                                try clear hcz12_8
                                try clear hcz12_9
                                try clear hcz16_0
                                try clear hcz16_1
                                try clear hcz16_10
                                try clear hcz16_11
                                try clear hcz16_12
                                try clear hcz16_13
                                try clear hcz16_14
                                try clear hcz16_15
                                try clear hcz16_16
                                try clear hcz16_2
                                try clear hcz16_3
                                try clear hcz16_4
                                try clear hcz16_5
                                try clear hcz16_6
                                try clear hcz16_7
                                try clear hcz16_8
                                try clear hcz16_9
                                try clear hcz29_0
                                try clear hcz29_1
                                try clear hcz29_10
                                try clear hcz29_11
                                try clear hcz29_12
                                try clear hcz29_13
                                try clear hcz29_14
                                try clear hcz29_15
                                try clear hcz29_16
                                try clear hcz29_2
                                try clear hcz29_3
                                try clear hcz29_4
                                try clear hcz29_5
                                try clear hcz29_6
                                try clear hcz29_7
                                try clear hcz29_8
                                try clear hcz29_9
                                try clear hcz34_0
                                try clear hcz34_1
                                try clear hcz34_10
                                try clear hcz34_11
                                try clear hcz34_12
                                try clear hcz34_13
                                try clear hcz34_14
                                try clear hcz34_15
                                try clear hcz34_16
                                try clear hcz34_2
                                try clear hcz34_3
                                try clear hcz34_4
                                try clear hcz34_5
                                try clear hcz34_6
                                try clear hcz34_7
                                try clear hcz34_8
                                try clear hcz34_9
                                try clear hcz37_0
                                try clear hcz37_1
                                try clear hcz37_10
                                try clear hcz37_11
                                try clear hcz37_12
                                try clear hcz37_13
                                try clear hcz37_14
                                try clear hcz37_15
                                try clear hcz37_16
                                try clear hcz37_2
                                try clear hcz37_3
                                try clear hcz37_4
                                try clear hcz37_5
                                try clear hcz37_6
                                try clear hcz37_7
                                try clear hcz37_8
                                try clear hcz37_9
                                try clear hcz41_0
                                try clear hcz41_1
                                try clear hcz41_10
                                try clear hcz41_11
                                try clear hcz41_12
                                try clear hcz41_13
                                try clear hcz41_14
                                try clear hcz41_15
                                try clear hcz41_16
                                try clear hcz41_2
                                try clear hcz41_3
                                try clear hcz41_4
                                try clear hcz41_5
                                try clear hcz41_6
                                try clear hcz41_7
                                try clear hcz41_8
                                try clear hcz41_9
                                try clear hcz46_0
                                try clear hcz46_1
                                try clear hcz46_10
                                try clear hcz46_11
                                try clear hcz46_12
                                try clear hcz46_13
                                try clear hcz46_14
                                try clear hcz46_15
                                try clear hcz46_16
                                try clear hcz46_2
                                try clear hcz46_3
                                try clear hcz46_4
                                try clear hcz46_5
                                try clear hcz46_6
                                try clear hcz46_7
                                try clear hcz46_8
                                try clear hcz46_9
                                try clear hcz52_0
                                try clear hcz52_1
                                try clear hcz52_10
                                try clear hcz52_11
                                try clear hcz52_12
                                try clear hcz52_13
                                try clear hcz52_14
                                try clear hcz52_15
                                try clear hcz52_16
                                try clear hcz52_2
                                try clear hcz52_3
                                try clear hcz52_4
                                try clear hcz52_5
                                try clear hcz52_6
                                try clear hcz52_7
                                try clear hcz52_8
                                try clear hcz52_9
                                try clear hcz57_0
                                try clear hcz57_1
                                try clear hcz57_10
                                try clear hcz57_11
                                try clear hcz57_12
                                try clear hcz57_13
                                try clear hcz57_14
                                try clear hcz57_15
                                try clear hcz57_16
                                try clear hcz57_2
                                try clear hcz57_3
                                try clear hcz57_4
                                try clear hcz57_5
                                try clear hcz57_6
                                try clear hcz57_7
                                try clear hcz57_8
                                try clear hcz57_9
                                try clear hcz65_0
                                try clear hcz65_1
                                try clear hcz65_10
                                try clear hcz65_11
                                try clear hcz65_12
                                try clear hcz65_13
                                try clear hcz65_14
                                try clear hcz65_15
                                try clear hcz65_16
                                try clear hcz65_2
                                try clear hcz65_3
                                try clear hcz65_4
                                try clear hcz65_5
                                try clear hcz65_6
                                try clear hcz65_7
                                try clear hcz65_8
                                try clear hcz65_9
                                try clear hcz69_0
                                try clear hcz69_1
                                try clear hcz69_10
                                try clear hcz69_11
                                try clear hcz69_12
                                try clear hcz69_13
                                try clear hcz69_14
                                try clear hcz69_15
                                try clear hcz69_16
                                try clear hcz69_2
                                try clear hcz69_3
                                try clear hcz69_4
                                try clear hcz69_5
                                try clear hcz69_6
                                try clear hcz69_7
                                try clear hcz69_8
                                try clear hcz69_9
                                try clear hcz73_0
                                try clear hcz73_1
                                try clear hcz73_10
                                try clear hcz73_11
                                try clear hcz73_12
                                try clear hcz73_13
                                try clear hcz73_14
                                try clear hcz73_15
                                try clear hcz73_16
                                try clear hcz73_2
                                try clear hcz73_3
                                try clear hcz73_4
                                try clear hcz73_5
                                try clear hcz73_6
                                try clear hcz73_7
                                try clear hcz73_8
                                try clear hcz73_9
                                try clear hcz75_0
                                try clear hcz75_1
                                try clear hcz75_10
                                try clear hcz75_11
                                try clear hcz75_12
                                try clear hcz75_13
                                try clear hcz75_14
                                try clear hcz75_15
                                try clear hcz75_16
                                try clear hcz75_2
                                try clear hcz75_3
                                try clear hcz75_4
                                try clear hcz75_5
                                try clear hcz75_6
                                try clear hcz75_7
                                try clear hcz75_8
                                try clear hcz75_9
                                try clear hcz78_0
                                try clear hcz78_1
                                try clear hcz78_10
                                try clear hcz78_11
                                try clear hcz78_12
                                try clear hcz78_13
                                try clear hcz78_14
                                try clear hcz78_15
                                try clear hcz78_16
                                try clear hcz78_2
                                try clear hcz78_3
                                try clear hcz78_4
                                try clear hcz78_5
                                try clear hcz78_6
                                try clear hcz78_7
                                try clear hcz78_8
                                try clear hcz78_9
                                try clear hcz7_0
                                try clear hcz7_1
                                try clear hcz7_10
                                try clear hcz7_11
                                try clear hcz7_12
                                try clear hcz7_13
                                try clear hcz7_14
                                try clear hcz7_15
                                try clear hcz7_16
                                try clear hcz7_2
                                try clear hcz7_3
                                try clear hcz7_4
                                try clear hcz7_5
                                try clear hcz7_6
                                try clear hcz7_7
                                try clear hcz7_8
                                try clear hcz7_9
                                try clear hcz9_0
                                try clear hcz9_1
                                try clear hcz9_10
                                try clear hcz9_11
                                try clear hcz9_12
                                try clear hcz9_13
                                try clear hcz9_14
                                try clear hcz9_15
                                try clear hcz9_16
                                try clear hcz9_2
                                try clear hcz9_3
                                try clear hcz9_4
                                try clear hcz9_5
                                try clear hcz9_6
                                try clear hcz9_7
                                try clear hcz9_8
                                try clear hcz9_9
                                try clear hfz12_0
                                try clear hfz12_1
                                try clear hfz12_10
                                try clear hfz12_11
                                try clear hfz12_12
                                try clear hfz12_13
                                try clear hfz12_14
                                try clear hfz12_15
                                try clear hfz12_16
                                try clear hfz12_2
                                try clear hfz12_3
                                try clear hfz12_4
                                try clear hfz12_5
                                try clear hfz12_6
                                try clear hfz12_7
                                try clear hfz12_8
                                try clear hfz12_9
                                try clear hfz16_0
                                try clear hfz16_1
                                try clear hfz16_10
                                try clear hfz16_11
                                try clear hfz16_12
                                try clear hfz16_13
                                try clear hfz16_14
                                try clear hfz16_15
                                try clear hfz16_16
                                try clear hfz16_2
                                try clear hfz16_3
                                try clear hfz16_4
                                try clear hfz16_5
                                try clear hfz16_6
                                try clear hfz16_7
                                try clear hfz16_8
                                try clear hfz16_9
                                try clear hfz29_0
                                try clear hfz29_1
                                try clear hfz29_10
                                try clear hfz29_11
                                try clear hfz29_12
                                try clear hfz29_13
                                try clear hfz29_14
                                try clear hfz29_15
                                try clear hfz29_16
                                try clear hfz29_2
                                try clear hfz29_3
                                try clear hfz29_4
                                try clear hfz29_5
                                try clear hfz29_6
                                try clear hfz29_7
                                try clear hfz29_8
                                try clear hfz29_9
                                try clear hfz34_0
                                try clear hfz34_1
                                try clear hfz34_10
                                try clear hfz34_11
                                try clear hfz34_12
                                try clear hfz34_13
                                try clear hfz34_14
                                try clear hfz34_15
                                try clear hfz34_16
                                try clear hfz34_2
                                try clear hfz34_3
                                try clear hfz34_4
                                try clear hfz34_5
                                try clear hfz34_6
                                try clear hfz34_7
                                try clear hfz34_8
                                try clear hfz34_9
                                try clear hfz37_0
                                try clear hfz37_1
                                try clear hfz37_10
                                try clear hfz37_11
                                try clear hfz37_12
                                try clear hfz37_13
                                try clear hfz37_14
                                try clear hfz37_15
                                try clear hfz37_16
                                try clear hfz37_2
                                try clear hfz37_3
                                try clear hfz37_4
                                try clear hfz37_5
                                try clear hfz37_6
                                try clear hfz37_7
                                try clear hfz37_8
                                try clear hfz37_9
                                try clear hfz41_0
                                try clear hfz41_1
                                try clear hfz41_10
                                try clear hfz41_11
                                try clear hfz41_12
                                try clear hfz41_13
                                try clear hfz41_14
                                try clear hfz41_15
                                try clear hfz41_16
                                try clear hfz41_2
                                try clear hfz41_3
                                try clear hfz41_4
                                try clear hfz41_5
                                try clear hfz41_6
                                try clear hfz41_7
                                try clear hfz41_8
                                try clear hfz41_9
                                try clear hfz46_0
                                try clear hfz46_1
                                try clear hfz46_10
                                try clear hfz46_11
                                try clear hfz46_12
                                try clear hfz46_13
                                try clear hfz46_14
                                try clear hfz46_15
                                try clear hfz46_16
                                try clear hfz46_2
                                try clear hfz46_3
                                try clear hfz46_4
                                try clear hfz46_5
                                try clear hfz46_6
                                try clear hfz46_7
                                try clear hfz46_8
                                try clear hfz46_9
                                try clear hfz52_0
                                try clear hfz52_1
                                try clear hfz52_10
                                try clear hfz52_11
                                try clear hfz52_12
                                try clear hfz52_13
                                try clear hfz52_14
                                try clear hfz52_15
                                try clear hfz52_16
                                try clear hfz52_2
                                try clear hfz52_3
                                try clear hfz52_4
                                try clear hfz52_5
                                try clear hfz52_6
                                try clear hfz52_7
                                try clear hfz52_8
                                try clear hfz52_9
                                try clear hfz57_0
                                try clear hfz57_1
                                try clear hfz57_10
                                try clear hfz57_11
                                try clear hfz57_12
                                try clear hfz57_13
                                try clear hfz57_14
                                try clear hfz57_15
                                try clear hfz57_16
                                try clear hfz57_2
                                try clear hfz57_3
                                try clear hfz57_4
                                try clear hfz57_5
                                try clear hfz57_6
                                try clear hfz57_7
                                try clear hfz57_8
                                try clear hfz57_9
                                try clear hfz65_0
                                try clear hfz65_1
                                try clear hfz65_10
                                try clear hfz65_11
                                try clear hfz65_12
                                try clear hfz65_13
                                try clear hfz65_14
                                try clear hfz65_15
                                try clear hfz65_16
                                try clear hfz65_2
                                try clear hfz65_3
                                try clear hfz65_4
                                try clear hfz65_5
                                try clear hfz65_6
                                try clear hfz65_7
                                try clear hfz65_8
                                try clear hfz65_9
                                try clear hfz69_0
                                try clear hfz69_1
                                try clear hfz69_10
                                try clear hfz69_11
                                try clear hfz69_12
                                try clear hfz69_13
                                try clear hfz69_14
                                try clear hfz69_15
                                try clear hfz69_16
                                try clear hfz69_2
                                try clear hfz69_3
                                try clear hfz69_4
                                try clear hfz69_5
                                try clear hfz69_6
                                try clear hfz69_7
                                try clear hfz69_8
                                try clear hfz69_9
                                try clear hfz73_0
                                try clear hfz73_1
                                try clear hfz73_10
                                try clear hfz73_11
                                try clear hfz73_12
                                try clear hfz73_13
                                try clear hfz73_14
                                try clear hfz73_15
                                try clear hfz73_16
                                try clear hfz73_2
                                try clear hfz73_3
                                try clear hfz73_4
                                try clear hfz73_5
                                try clear hfz73_6
                                try clear hfz73_7
                                try clear hfz73_8
                                try clear hfz73_9
                                try clear hfz75_0
                                try clear hfz75_1
                                try clear hfz75_10
                                try clear hfz75_11
                                try clear hfz75_12
                                try clear hfz75_13
                                try clear hfz75_14
                                try clear hfz75_15
                                try clear hfz75_16
                                try clear hfz75_2
                                try clear hfz75_3
                                try clear hfz75_4
                                try clear hfz75_5
                                try clear hfz75_6
                                try clear hfz75_7
                                try clear hfz75_8
                                try clear hfz75_9
                                try clear hfz78_0
                                try clear hfz78_1
                                try clear hfz78_10
                                try clear hfz78_11
                                try clear hfz78_12
                                try clear hfz78_13
                                try clear hfz78_14
                                try clear hfz78_15
                                try clear hfz78_16
                                try clear hfz78_2
                                try clear hfz78_3
                                try clear hfz78_4
                                try clear hfz78_5
                                try clear hfz78_6
                                try clear hfz78_7
                                try clear hfz78_8
                                try clear hfz78_9
                                try clear hfz7_0
                                try clear hfz7_1
                                try clear hfz7_10
                                try clear hfz7_11
                                try clear hfz7_12
                                try clear hfz7_13
                                try clear hfz7_14
                                try clear hfz7_15
                                try clear hfz7_16
                                try clear hfz7_2
                                try clear hfz7_3
                                try clear hfz7_4
                                try clear hfz7_5
                                try clear hfz7_6
                                try clear hfz7_7
                                try clear hfz7_8
                                try clear hfz7_9
                                try clear hfz9_0
                                try clear hfz9_1
                                try clear hfz9_10
                                try clear hfz9_11
                                try clear hfz9_12
                                try clear hfz9_13
                                try clear hfz9_14
                                try clear hfz9_15
                                try clear hfz9_16
                                try clear hfz9_2
                                try clear hfz9_3
                                try clear hfz9_4
                                try clear hfz9_5
                                try clear hfz9_6
                                try clear hfz9_7
                                try clear hfz9_8
                                try clear hfz9_9
                                try clear hx110_0
                                try clear hx139_0
                                try clear hx139_1
                                try clear hx139_2
                                try clear hx139_3
                                try clear hx139_4
                                try clear hx139_5
                                try clear p1
                                try clear p11
                                try clear p110
                                try clear p13
                                try clear p139
                                try clear p2
                                try clear p6
                                try clear p64
                                try clear q1
                                try clear q11
                                try clear q110
                                try clear q13
                                try clear q139
                                obtain ⟨x5_6, x14_6, rfl, HA, HK6, HO_5, HO_13, BK101, HB⟩ := hrel
                                cases gk with
                                | zero => exact absurd HA.out (by simp [icehouseref12_Bytes.l2])
                                | succ k6 =>
                                  have H := HA.out
                                  clear HA
                                  simp only [icehouseref12_Bytes.l2] at H
                                  by_cases c80 : x14_6 < (y151.length : Int)
                                  · as_aux_lemma =>
                                    rw [if_pos c80] at H
                                    have c80b0 : decide (x14_6 < (y151.length : Int)) = true := decide_eq_true c80
                                    clear c80
                                    by_cases c81 : 0 ≤ x14_6
                                    · as_aux_lemma =>
                                      rw [if_pos c81] at H
                                      have c81b0 : decide (0 ≤ x14_6) = true := decide_eq_true c81
                                      clear c81
                                      replace H := Option.bind_eq_some_iff.mp H
                                      obtain ⟨t155, A820, H⟩ := H
                                      replace H : (if x5_6.length + t155.length < 140737488355328 then (icehouseref12_Bytes.l2 k6 (x5_6 ++ t155) y151 (wrap64 (x14_6 + 1))) else (none)) = some (r1, r2) := H
                                      have A82 := Aside0.mk A820
                                      clear A820
                                      by_cases c83 : x5_6.length + t155.length < 140737488355328
                                      · as_aux_lemma =>
                                        rw [if_pos c83] at H
                                        have LMc83 := Aside0.mk c83
                                        clear c83
                                        obtain ⟨y158, hy158⟩ : ∃ y_ : List Int, y_ = (x5_6 ++ t155) := ⟨_, rfl⟩
                                        replace H : (icehouseref12_Bytes.l2 k6 y158 y151 (wrap64 (x14_6 + 1))) = some (r1, r2) := by first | (rw [hy158]; with_reducible exact H) | (have H2_ := (Option.bind_some _ _).symm.trans H; rw [hy158]; with_reducible exact H2_) | (have H2_ := (Option.bind_some _ _).symm.trans H; with_reducible exact H2_) | with_reducible exact H | (rw [hy158]; exact H) | exact H
                                        have Ny158 := Aside0.mk hy158
                                        clear hy158
                                        have H' := Aside0.mk H
                                        clear H
                                        obtain ⟨Ao84, co84, eo84⟩ := Kd.R_slice HO_13.out
                                        subst eo84
                                        have p154 : 0 ≤ (x14_6 : Int) := of_decide_eq_true (by first | (with_reducible assumption) | assumption)
                                        have q154 : x14_6 < (y151.length : Int) := of_decide_eq_true (by first | (with_reducible assumption) | assumption)
                                        obtain ⟨ad154, e154, hx154_0⟩ := Kd.at_int (Kd.R_reads' HO_13.out).2.2 x14_6 p154 q154
                                        cases e154
                                        replace p154 := eq_true p154
                                        replace q154 := eq_true q154
                                        go_wp2_with (first | ((with_reducible refine gate_callee (f := 33) rfl ?_); refine goesL_ (some 129) rfl rfl Tryd.func33 (by kernel_rfl) rfl #[.int .i64 (rd y151 x14_6)] rfl (by (try simp only [List.map_toArray, List.map_cons, List.map_nil]); first | done | rfl | (simp only [List.length_drop, List.length_take]; rfl)) ?_; (with_reducible refine (QR.icehouseref02_Num.calls k6 (rd y151 x14_6) t155 _ A82.out).mono ?_); rintro e w85 ⟨v156, rfl, ho0, hb⟩; refine ⟨_, rfl, ?_⟩; have n0_ := Aside0.mk (Kd.R_elder' (by (with_reducible repeat (first | apply Kd.R_alloc | apply Kd.R_drewN | apply Kd.R_drew)); exact HO_5.out) (Kd.R_base ho0) hb); have n1_ := Aside0.mk (Kd.R_below (by (with_reducible repeat (first | apply Kd.R_alloc | apply Kd.R_drewN | apply Kd.R_drew)); exact HO_13.out) hb); have n2_ := Aside0.mk (Kd.R_lower (Kd.R_new' ho0 (Kd.R_lt (by (with_reducible repeat (first | apply Kd.R_alloc | apply Kd.R_drewN | apply Kd.R_drew)); exact HO_5.out))) (below_size (by repeat (first | (with_reducible first | exact HB.out | apply below_alloc | apply pw_below_drewN | apply below_drew1 | refine below_set ?_ GE101.out) | exact HB.out)))); have n3_ := Aside0.mk (blk_below (g := gb101) (o := .cells #[.int .i64 a0_0, .int .i64 a0_1, .int .i64 a0_2, .int .i64 a0_3, .int .i64 a0_4, .int .i64 a0_5, .bool a0_6, .string a0_7, .int .i64 a0_8, .int .i64 a0_9, .int .i64 a0_10, .bool a0_11, .slice A0_12 l0_12.length c0_12, .slice A0_13 l0_13.length c0_13, .slice A0_14 l0_14.length c0_14, .int .i64 a0_15, .int .i64 a0_16] 34 (0, 0)) (by (with_reducible repeat (first | refine blk_drewN ?_ _ | refine blk_drew ?_ | refine blk_alloc ?_ _)); exact BK101.out) hb); have n4_ := Aside0.mk (below_step (by repeat (first | (with_reducible first | exact HB.out | apply below_alloc | apply pw_below_drewN | apply below_drew1 | refine below_set ?_ GE101.out) | exact HB.out)) hb); clear HO_5; clear HO_13; clear BK101; clear HB; have HO_5 := n0_; have HO_13 := n1_; have HO157 := n2_; have BK101 := n3_; have HB := n4_; clear n0_ n1_ n2_ n3_ n4_; (try clear hb); (try clear hb2); (try clear hk); (try clear hi); (try clear ho0); obtain ⟨Ao87, co87, eo87⟩ := Kd.R_slice HO157.out; subst eo87) | ((with_reducible refine gate_builtin (b := .append) (xs := #[.tmp 124, .tmp 129]) rfl ?_); at_builtin; refine Kd.R_append_rows (Kd.int .u8) (w0 := w) w.heap.size rfl (.tmp 124) (.tmp 129) 24 5 (.int .u8 0) 1 rfl Tryd.underlying24 info5 rfl (by decide) (by omega) u5 x5_6 t155 _ _ _ (fun k_ => some k_ ≠ (.slice Ao87 t155.length co87 : Value).ownBlock) (fun _ => False) rfl rfl ?aO ?aR (fun _ _ h => h) (fun _ h => h.elim) ?aF ?aB ?aS ?aL ?_; (case aR => repeat (first | exact (Kd.R_reads' HO157.out).2.2 | (with_reducible refine Kd.C_alloc ?_ _) | (with_reducible refine Kd.C_drewN ?_ _) | (with_reducible refine Kd.C_drew ?_))); (case aB => exact (by repeat (first | (with_reducible first | exact HB.out | apply below_alloc | apply pw_below_drewN | apply below_drew1 | refine below_set ?_ GE101.out) | exact HB.out))); (case aF => exact (fun k_ hk => Kd.fresh' (Kd.R_lt (by (with_reducible repeat (first | apply Kd.R_alloc | apply Kd.R_drewN | apply Kd.R_drew)); exact HO157.out)) k_ hk)); (case aO => exact (by (with_reducible repeat (first | apply Kd.R_alloc | apply Kd.R_drewN | apply Kd.R_drew)); exact Kd.R_mono HO_5.out (fun _ hk => hk.2))); (case aS => exact (below_size (by repeat (first | (with_reducible first | exact HB.out | apply below_alloc | apply pw_below_drewN | apply below_drew1 | refine below_set ?_ GE101.out) | exact HB.out)))); (case aL => have := LMc83.out; omega); intro v159 w86 ho hb hg hat; rw [← Ny158.out] at ho; have n0_ := Aside0.mk (Kd.R_over' (by (with_reducible repeat (first | apply Kd.R_alloc | apply Kd.R_drewN | apply Kd.R_drew)); exact HO_13.out) (Kd.R_typed (by (with_reducible repeat (first | apply Kd.R_alloc | apply Kd.R_drewN | apply Kd.R_drew)); exact HO_5.out)) (by decide) hg); have n1_ := Aside0.mk (blk_grown (g := gb101) (o := .cells #[.int .i64 a0_0, .int .i64 a0_1, .int .i64 a0_2, .int .i64 a0_3, .int .i64 a0_4, .int .i64 a0_5, .bool a0_6, .string a0_7, .int .i64 a0_8, .int .i64 a0_9, .int .i64 a0_10, .bool a0_11, .slice A0_12 l0_12.length c0_12, .slice A0_13 l0_13.length c0_13, .slice A0_14 l0_14.length c0_14, .int .i64 a0_15, .int .i64 a0_16] 34 (0, 0)) (by (with_reducible repeat (first | refine blk_drewN ?_ _ | refine blk_drew ?_ | refine blk_alloc ?_ _)); exact BK101.out) hg (Kd.R_ne HO_5.out BK101.out (by decide))); have n2_ := Aside0.mk (Kd.R_after (ok := (fun _ => True)) (by (with_reducible repeat (first | apply Kd.R_alloc | apply Kd.R_drewN | apply Kd.R_drew)); exact HO157.out) hg hat); have n3_ := Aside0.mk (hb); have n4_ := Aside0.mk (ho); clear HO_13; clear BK101; clear HO157; clear HB; clear HO_5; have HO_13 := n0_; have BK101 := n1_; have HO157 := n2_; have HB := n3_; have HO160 := n4_; clear n0_ n1_ n2_ n3_ n4_; clear ho hb hg hat))
                                        go_roundg k6
                                        case measure => have := HJ4.out; have := HK2.out; have := HJ26.out; have := HJ39.out; have := HJ50.out; have := HK6.out; omega
                                        case rel => exact ⟨(y158), (wrap64 (x14_6 + 1)), (by first | rfl | (simp; done) | (simp [*]; done)), H', ⟨by have := HJ4.out; have := HK2.out; have := HJ26.out; have := HJ39.out; have := HJ50.out; have := HK6.out; omega⟩, ⟨by (with_reducible repeat (first | apply Kd.R_alloc | apply Kd.R_drewN | apply Kd.R_drew)); exact Kd.R_mono HO160.out (fun _ hk => trivial)⟩, ⟨by (with_reducible repeat (first | apply Kd.R_alloc | apply Kd.R_drewN | apply Kd.R_drew)); exact HO_13.out⟩, ⟨by (with_reducible repeat (first | refine blk_drewN ?_ _ | refine blk_drew ?_ | refine blk_alloc ?_ _)); exact BK101.out⟩, ⟨by repeat (first | (with_reducible first | exact HB.out | apply below_alloc | apply pw_below_drewN | apply below_drew1 | refine below_set ?_ GE101.out) | exact HB.out)⟩⟩
                                      · as_aux_lemma =>
                                        rw [if_neg c83] at H
                                        exact absurd H (by simp)
                                    · as_aux_lemma =>
                                      rw [if_neg c81] at H
                                      exact absurd H (by simp)
                                  · as_aux_lemma =>
                                    rw [if_neg c80] at H
                                    have c80b0 : decide (x14_6 < (y151.length : Int)) = false := decide_eq_false c80
                                    clear c80
                                    simp only [Option.some.injEq, Prod.mk.injEq] at H
                                    obtain ⟨rfl, rfl⟩ := H
                                    obtain ⟨Ao88, co88, eo88⟩ := Kd.R_slice HO_13.out
                                    subst eo88
                                    go_wp2
                                    go_ret2
                                    exact ⟨_, by first | rfl | (simp [errW_none, errW_some] <;> rfl) | (simp [*, errW_none, errW_some] <;> rfl), by (with_reducible repeat (first | apply Kd.R_alloc | apply Kd.R_drewN | apply Kd.R_drew)); exact HO_5.out, by repeat (first | (with_reducible first | exact HB.out | apply below_alloc | apply pw_below_drewN | apply below_drew1 | refine below_set ?_ GE101.out) | exact HB.out)⟩
                            · as_aux_lemma =>
                              rw [if_neg c72] at H
                              exact absurd H (by simp)
                          · replace c71 := Bool.eq_false_iff.mpr c71
                            subst c71
                            have H1 : (some (x5_50, 0)) = some (r1, r2) := by rw [if_neg (show ¬ (false = true) by decide)] at H; exact H
                            clear H
                            have H := H1
                            clear H1
                            simp only [Option.some.injEq, Prod.mk.injEq] at H
                            obtain ⟨rfl, rfl⟩ := H
                            have hcz89_0 : wc.cell? ⟨gb101, 0, none⟩ = some (.int .i64 a0_0) := (blk_cell BK101.out 0).trans rfl
                            have hcz89_1 : wc.cell? ⟨gb101, 1, none⟩ = some (.int .i64 a0_1) := (blk_cell BK101.out 1).trans rfl
                            have hcz89_2 : wc.cell? ⟨gb101, 2, none⟩ = some (.int .i64 a0_2) := (blk_cell BK101.out 2).trans rfl
                            have hcz89_3 : wc.cell? ⟨gb101, 3, none⟩ = some (.int .i64 a0_3) := (blk_cell BK101.out 3).trans rfl
                            have hcz89_4 : wc.cell? ⟨gb101, 4, none⟩ = some (.int .i64 a0_4) := (blk_cell BK101.out 4).trans rfl
                            have hcz89_5 : wc.cell? ⟨gb101, 5, none⟩ = some (.int .i64 a0_5) := (blk_cell BK101.out 5).trans rfl
                            have hcz89_6 : wc.cell? ⟨gb101, 6, none⟩ = some (.bool a0_6) := (blk_cell BK101.out 6).trans rfl
                            have hcz89_7 : wc.cell? ⟨gb101, 7, none⟩ = some (.string a0_7) := (blk_cell BK101.out 7).trans rfl
                            have hcz89_8 : wc.cell? ⟨gb101, 8, none⟩ = some (.int .i64 a0_8) := (blk_cell BK101.out 8).trans rfl
                            have hcz89_9 : wc.cell? ⟨gb101, 9, none⟩ = some (.int .i64 a0_9) := (blk_cell BK101.out 9).trans rfl
                            have hcz89_10 : wc.cell? ⟨gb101, 10, none⟩ = some (.int .i64 a0_10) := (blk_cell BK101.out 10).trans rfl
                            have hcz89_11 : wc.cell? ⟨gb101, 11, none⟩ = some (.bool a0_11) := (blk_cell BK101.out 11).trans rfl
                            have hcz89_12 : wc.cell? ⟨gb101, 12, none⟩ = some (.slice A0_12 l0_12.length c0_12) := (blk_cell BK101.out 12).trans rfl
                            have hcz89_13 : wc.cell? ⟨gb101, 13, none⟩ = some (.slice A0_13 l0_13.length c0_13) := (blk_cell BK101.out 13).trans rfl
                            have hcz89_14 : wc.cell? ⟨gb101, 14, none⟩ = some (.slice A0_14 l0_14.length c0_14) := (blk_cell BK101.out 14).trans rfl
                            have hcz89_15 : wc.cell? ⟨gb101, 15, none⟩ = some (.int .i64 a0_15) := (blk_cell BK101.out 15).trans rfl
                            have hcz89_16 : wc.cell? ⟨gb101, 16, none⟩ = some (.int .i64 a0_16) := (blk_cell BK101.out 16).trans rfl
                            have hfz89_0 := blk_frozen BK101.out 0
                            have hfz89_1 := blk_frozen BK101.out 1
                            have hfz89_2 := blk_frozen BK101.out 2
                            have hfz89_3 := blk_frozen BK101.out 3
                            have hfz89_4 := blk_frozen BK101.out 4
                            have hfz89_5 := blk_frozen BK101.out 5
                            have hfz89_6 := blk_frozen BK101.out 6
                            have hfz89_7 := blk_frozen BK101.out 7
                            have hfz89_8 := blk_frozen BK101.out 8
                            have hfz89_9 := blk_frozen BK101.out 9
                            have hfz89_10 := blk_frozen BK101.out 10
                            have hfz89_11 := blk_frozen BK101.out 11
                            have hfz89_12 := blk_frozen BK101.out 12
                            have hfz89_13 := blk_frozen BK101.out 13
                            have hfz89_14 := blk_frozen BK101.out 14
                            have hfz89_15 := blk_frozen BK101.out 15
                            have hfz89_16 := blk_frozen BK101.out 16
                            go_wp2_with (first | ((with_reducible refine gate_callee (f := 21) rfl ?_); refine goesL_ (some 101) rfl rfl Tryd.func21 (by kernel_rfl) rfl #[.int .i64 a0_0, .string (⟨#[114]⟩ : ByteArray)] rfl (by (try simp only [List.map_toArray, List.map_cons, List.map_nil]); first | done | rfl | (simp only [List.length_drop, List.length_take]; rfl)) ?_; (with_reducible refine (QR.icehouseref12_Has.calls kj50 a0_0 (⟨#[114]⟩ : ByteArray) false _ A70.out).mono ?_); rintro e w90 ⟨rfl, hb⟩; refine ⟨_, rfl, ?_⟩; have n0_ := Aside0.mk (Kd.R_below (by (with_reducible repeat (first | apply Kd.R_alloc | apply Kd.R_drewN | apply Kd.R_drew)); exact HO_5.out) hb); have n1_ := Aside0.mk (blk_below (g := gb101) (o := .cells #[.int .i64 a0_0, .int .i64 a0_1, .int .i64 a0_2, .int .i64 a0_3, .int .i64 a0_4, .int .i64 a0_5, .bool a0_6, .string a0_7, .int .i64 a0_8, .int .i64 a0_9, .int .i64 a0_10, .bool a0_11, .slice A0_12 l0_12.length c0_12, .slice A0_13 l0_13.length c0_13, .slice A0_14 l0_14.length c0_14, .int .i64 a0_15, .int .i64 a0_16] 34 (0, 0)) (by (with_reducible repeat (first | refine blk_drewN ?_ _ | refine blk_drew ?_ | refine blk_alloc ?_ _)); exact BK101.out) hb); have n2_ := Aside0.mk (below_step (by repeat (first | (with_reducible first | exact HB.out | apply below_alloc | apply pw_below_drewN | apply below_drew1 | refine below_set ?_ GE101.out) | exact HB.out)) hb); clear HO_5; clear BK101; clear HB; have HO_5 := n0_; have BK101 := n1_; have HB := n2_; clear n0_ n1_ n2_; (try clear hb); (try clear hb2); (try clear hk); (try clear hi)))
                            go_ret2
                            exact ⟨_, by first | rfl | (simp [errW_none, errW_some] <;> rfl) | (simp [*, errW_none, errW_some] <;> rfl), by (with_reducible repeat (first | apply Kd.R_alloc | apply Kd.R_drewN | apply Kd.R_drew)); exact HO_5.out, by repeat (first | (with_reducible first | exact HB.out | apply below_alloc | apply pw_below_drewN | apply below_drew1 | refine below_set ?_ GE101.out) | exact HB.out)⟩
  · as_aux_lemma =>
    rw [if_neg c3] at H
    have c3b0 : (t102 == 0) = false := beq_eq_false_iff_ne.mpr c3
    have c3b1 : (t102 != 0) = true := bne_iff_ne.mpr c3
    simp only [Option.some.injEq, Prod.mk.injEq] at H
    obtain ⟨rfl, rfl⟩ := H
    go_enter Tryd.func13, Tryd.ntmps13
    go_wp2_with (first | ((with_reducible refine gate_dst (N := 1) rfl ?_); refine box_event ?hg (N := 1) ?hd (cs := #[.int .i64 a0_0, .int .i64 a0_1, .int .i64 a0_2, .int .i64 a0_3, .int .i64 a0_4, .int .i64 a0_5, .bool a0_6, .string a0_7, .int .i64 a0_8, .int .i64 a0_9, .int .i64 a0_10, .bool a0_11, .slice A0_12 l0_12.length c0_12, .slice A0_13 l0_13.length c0_13, .slice A0_14 l0_14.length c0_14, .int .i64 a0_15, .int .i64 a0_16]) (t := 34) ?hr ?_; (case hd => rfl); (case hg => rfl); (case hr => first | (go_simp; done) | (go_simp; rfl)); intro gb101 hg w91 hbox hb; have n0_ := Aside0.mk (below_step (by repeat (first | (with_reducible first | exact HB.out | apply below_alloc | apply pw_below_drewN | apply below_drew1) | exact HB.out)) hb); have n1_ := Aside0.mk (hbox); have n2_ := Aside0.mk ((by rw [hg]; exact (below_size (by repeat (first | (with_reducible first | exact HB.out | apply below_alloc | apply pw_below_drewN | apply below_drew1) | exact HB.out))) : w.heap.size ≤ gb101)); have n3_ := Aside0.mk ((by rw [hg]; exact (below_size (by repeat (first | (with_reducible first | exact HB.out | apply below_alloc | apply pw_below_drewN | apply below_drew1) | exact HB.out))) : w.heap.size ≤ gb101)); clear HB; have HB := n0_; have BK101 := n1_; have GW101 := n2_; have GE101 := n3_; clear n0_ n1_ n2_ n3_; clear hb hbox hg; have hcz92_0 : w91.cell? ⟨gb101, 0, none⟩ = some (.int .i64 a0_0) := (blk_cell BK101.out 0).trans rfl; have hcz92_1 : w91.cell? ⟨gb101, 1, none⟩ = some (.int .i64 a0_1) := (blk_cell BK101.out 1).trans rfl; have hcz92_2 : w91.cell? ⟨gb101, 2, none⟩ = some (.int .i64 a0_2) := (blk_cell BK101.out 2).trans rfl; have hcz92_3 : w91.cell? ⟨gb101, 3, none⟩ = some (.int .i64 a0_3) := (blk_cell BK101.out 3).trans rfl; have hcz92_4 : w91.cell? ⟨gb101, 4, none⟩ = some (.int .i64 a0_4) := (blk_cell BK101.out 4).trans rfl; have hcz92_5 : w91.cell? ⟨gb101, 5, none⟩ = some (.int .i64 a0_5) := (blk_cell BK101.out 5).trans rfl; have hcz92_6 : w91.cell? ⟨gb101, 6, none⟩ = some (.bool a0_6) := (blk_cell BK101.out 6).trans rfl; have hcz92_7 : w91.cell? ⟨gb101, 7, none⟩ = some (.string a0_7) := (blk_cell BK101.out 7).trans rfl; have hcz92_8 : w91.cell? ⟨gb101, 8, none⟩ = some (.int .i64 a0_8) := (blk_cell BK101.out 8).trans rfl; have hcz92_9 : w91.cell? ⟨gb101, 9, none⟩ = some (.int .i64 a0_9) := (blk_cell BK101.out 9).trans rfl; have hcz92_10 : w91.cell? ⟨gb101, 10, none⟩ = some (.int .i64 a0_10) := (blk_cell BK101.out 10).trans rfl; have hcz92_11 : w91.cell? ⟨gb101, 11, none⟩ = some (.bool a0_11) := (blk_cell BK101.out 11).trans rfl; have hcz92_12 : w91.cell? ⟨gb101, 12, none⟩ = some (.slice A0_12 l0_12.length c0_12) := (blk_cell BK101.out 12).trans rfl; have hcz92_13 : w91.cell? ⟨gb101, 13, none⟩ = some (.slice A0_13 l0_13.length c0_13) := (blk_cell BK101.out 13).trans rfl; have hcz92_14 : w91.cell? ⟨gb101, 14, none⟩ = some (.slice A0_14 l0_14.length c0_14) := (blk_cell BK101.out 14).trans rfl; have hcz92_15 : w91.cell? ⟨gb101, 15, none⟩ = some (.int .i64 a0_15) := (blk_cell BK101.out 15).trans rfl; have hcz92_16 : w91.cell? ⟨gb101, 16, none⟩ = some (.int .i64 a0_16) := (blk_cell BK101.out 16).trans rfl; have hfz92_0 := blk_frozen BK101.out 0; have hfz92_1 := blk_frozen BK101.out 1; have hfz92_2 := blk_frozen BK101.out 2; have hfz92_3 := blk_frozen BK101.out 3; have hfz92_4 := blk_frozen BK101.out 4; have hfz92_5 := blk_frozen BK101.out 5; have hfz92_6 := blk_frozen BK101.out 6; have hfz92_7 := blk_frozen BK101.out 7; have hfz92_8 := blk_frozen BK101.out 8; have hfz92_9 := blk_frozen BK101.out 9; have hfz92_10 := blk_frozen BK101.out 10; have hfz92_11 := blk_frozen BK101.out 11; have hfz92_12 := blk_frozen BK101.out 12; have hfz92_13 := blk_frozen BK101.out 13; have hfz92_14 := blk_frozen BK101.out 14; have hfz92_15 := blk_frozen BK101.out 15; have hfz92_16 := blk_frozen BK101.out 16) | ((with_reducible refine gate_callee (f := 16) rfl ?_); refine goesL_ (some 16) rfl rfl Tryd.func16 (by kernel_rfl) rfl #[.agg #[.int .i64 a0_0, .int .i64 a0_1, .int .i64 a0_2, .int .i64 a0_3, .int .i64 a0_4, .int .i64 a0_5, .bool a0_6, .string a0_7, .int .i64 a0_8, .int .i64 a0_9, .int .i64 a0_10, .bool a0_11, .slice A0_12 l0_12.length c0_12, .slice A0_13 l0_13.length c0_13, .slice A0_14 l0_14.length c0_14, .int .i64 a0_15, .int .i64 a0_16]] rfl (by (try simp only [List.map_toArray, List.map_cons, List.map_nil]); first | done | rfl | (simp only [List.length_drop, List.length_take]; rfl)) ?_; (with_reducible refine (Fb.icehouseref12_Check.calls a0_0 a0_1 a0_2 a0_3 a0_4 a0_5 a0_6 a0_7 a0_8 a0_9 a0_10 a0_11 _ _ l0_12 _ _ l0_13 _ _ l0_14 a0_15 a0_16 t102 _ ?side1 ?side2 ?side3 ?side4 ?side5 ?side6 A2.out).mono ?_); (case side1 => repeat (first | exact (Kd.C_below HR0_12.out HB.out) | (with_reducible refine Kd.C_alloc ?_ _) | (with_reducible refine Kd.C_drewN ?_ _) | (with_reducible refine Kd.C_drew ?_))); (case side2 => exact HC0_12.out); (case side3 => repeat (first | exact (Kd.C_below HR0_13.out HB.out) | (with_reducible refine Kd.C_alloc ?_ _) | (with_reducible refine Kd.C_drewN ?_ _) | (with_reducible refine Kd.C_drew ?_))); (case side4 => exact HC0_13.out); (case side5 => repeat (first | exact (Kd.C_below HR0_14.out HB.out) | (with_reducible refine Kd.C_alloc ?_ _) | (with_reducible refine Kd.C_drewN ?_ _) | (with_reducible refine Kd.C_drew ?_))); (case side6 => exact HC0_14.out); rintro e w93 ⟨rfl, hb⟩; refine ⟨_, rfl, ?_⟩; have n0_ := Aside0.mk (blk_below (g := gb101) (o := .cells #[.int .i64 a0_0, .int .i64 a0_1, .int .i64 a0_2, .int .i64 a0_3, .int .i64 a0_4, .int .i64 a0_5, .bool a0_6, .string a0_7, .int .i64 a0_8, .int .i64 a0_9, .int .i64 a0_10, .bool a0_11, .slice A0_12 l0_12.length c0_12, .slice A0_13 l0_13.length c0_13, .slice A0_14 l0_14.length c0_14, .int .i64 a0_15, .int .i64 a0_16] 34 (0, 0)) (by (with_reducible repeat (first | refine blk_drewN ?_ _ | refine blk_drew ?_ | refine blk_alloc ?_ _)); exact BK101.out) hb); have n1_ := Aside0.mk (below_step (by repeat (first | (with_reducible first | exact HB.out | apply below_alloc | apply pw_below_drewN | apply below_drew1 | refine below_set ?_ GE101.out) | exact HB.out)) hb); clear BK101; clear HB; have BK101 := n0_; have HB := n1_; clear n0_ n1_; (try clear hb); (try clear hb2); (try clear hk); (try clear hi)))
    go_ret2
    exact ⟨_, by first | rfl | (simp [errW_none, errW_some] <;> rfl) | (simp [*, errW_none, errW_some] <;> rfl), by first | exact Kd.R_nil _ _ _ _ _ | exact Kd.N_nil _ _ _ _ _ | exact Kd.V_nil _ _ _ _ _ | exact Kd.Q_nil _ _ _ _ _ | exact Kd.S_nil _ _ _ _ _, by repeat (first | (with_reducible first | exact HB.out | apply below_alloc | apply pw_below_drewN | apply below_drew1 | refine below_set ?_ GE101.out) | exact HB.out)⟩
end Go.Proofs.YthaoiamgkpkcbaaDoor.QB
