/- Written by a program of this session over the kit's print: functions and their contracts. · What the printed functions pack.Num, icehouseref02.Num, pack.Row, icehouseref02.Row, pack.Truth, icehouseref00.Same compute: a number's bytes. Conditions: numbers of 64 bits, rows that fit. · Written by a program of this session over the kit's print: functions and their contracts. · Written by a program of this session over the kit's print: functions and their contracts. · The contracts of the reader's Num and Below, outside of read. Conditions: a reader whose bytes fit in memory. -/
import Derived.Test.YthaoiamgkpkcbaaDoorYMsgsSame5
import Derived.Test.YthaoiamgkpkcbaaDoorYMsgsSame6
import Derived.Test.YthaoiamgkpkcbaaDoorProg
import Derived.Below
import Derived.Deep.Draws
import Derived.Deep.AppendLies
import Derived.Maps.AppendAt
import Derived.OwnWalk
import Derived.Laws.BytesArg
import Derived.Laws.MakeOwn
import Derived.Laws.OwnMore
import Derived.Deep.OwnRows
import Derived.Tactics
import Derived.Lib.ConvBytes
import Derived.Laws.Slices
import Derived.WalkKit
import Derived.KernelRfl
import Derived.RowKit3
import Derived.Deep.LoopGhost
import Derived.Deep.QuietTactic
import Derived.BigQuiet
import Derived.WideLaws
import Derived.Deep.DeepCutAuto
import Derived.Deep.CutBlock
import Derived.Deep.RegionHeld3
import Derived.Laws.Rows
import Derived.Lib.AppendStr
import Derived.ArgAppend
import Derived.Laws.IdiomCopy
import Derived.OrdersHeld
import Derived.Laws.BitsLemmas
import Derived.RowKit
import Derived.Test.YthaoiamgkpkcbaaDoorYMsgsSame0
import Derived.Test.YthaoiamgkpkcbaaDoorYMsgsSame2
import Derived.Test.YthaoiamgkpkcbaaDoorYMsgsSame4
import Derived.Test.YthaoiamgkpkcbaaDoorYMsgsSame3

namespace Go.Proofs.YthaoiamgkpkcbaaDoor.QR
open Go.RowKit Go.Proofs.YthaoiamgkpkcbaaDoorW.PrintWords Go.Proofs.YthaoiamgkpkcbaaDoorW.PrintLast Go.Proofs.YthaoiamgkpkcbaaDoorW.PrintMore
attribute [local go_sem] max2_int min2_int max_two min_two max_three min_three max_four min_four   -- for this text's walks alone
set_option linter.unusedVariables false
set_option linter.unusedSimpArgs false
end Go.Proofs.YthaoiamgkpkcbaaDoor.QR
namespace Go.Proofs.YthaoiamgkpkcbaaDoor.EncP
open Go Go.RowKit Go.Proofs.YthaoiamgkpkcbaaDoor.Wrd Go.Proofs.YthaoiamgkpkcbaaDoor.Enc Go.Proofs.YthaoiamgkpkcbaaDoor.QR
open Go.Proofs.YthaoiamgkpkcbaaDoorW.PrintWords Go.Proofs.YthaoiamgkpkcbaaDoorW.PrintLast Go.Proofs.YthaoiamgkpkcbaaDoorW.PrintMore
set_option linter.unusedVariables false
set_option linter.unusedSimpArgs false
theorem shr_word (u : Nat) (i : Nat) (hi : i ≤ 64) : shr .u64 (u : Int) (i : Int) = ((u / 2 ^ i : Nat) : Int) := by
  unfold shr
  rw [Int.toNat_natCast, Nat.min_eq_left (by simp [IntKind.bits]; omega)]
  simp
theorem word_int (n : Int) : IntKind.u64.wrap n = ((word n : Nat) : Int) := by rw [IntKind.wrap_u64]; unfold word; omega
theorem div_step (u j : Nat) (hj : j < 8) : u / 256 ^ (7 - j) = u / 256 ^ (8 - j) * 256 + u / 256 ^ (7 - j) % 256 := by
  have e : 8 - j = (7 - j) + 1 := by omega
  rw [e, Nat.pow_succ, ← Nat.div_div_eq_div_mul]
  omega
theorem num_l0 (n : Int) : ∀ (d j : Nat), j + d = 8 → ∀ k, d < k →
    pack_Num.l0 k n (0 :: beR (word n / 256 ^ (8 - j))) (56 - 8 * (j : Int)) = some (numB n)
  | 0, j, hj, k, hk => by
    obtain ⟨k, rfl⟩ : ∃ m, k = m + 1 := ⟨k - 1, by omega⟩
    obtain rfl : j = 8 := by omega
    simp only [pack_Num.l0]
    have hl := beR_len_le 8 (word n) (word_lt n)
    rw [if_neg (by omega)]
    simp only [Nat.sub_self, Nat.pow_zero, Nat.div_one]
    rw [if_pos (by simp)]
    unfold numB
    simp only [List.length_cons]
    have : wrap64 ((((beR (word n)).length + 1 : Nat) : Int) - 1) % 256 = ((beR (word n)).length : Int) := by unfold wrap64; omega
    rw [this]; rfl
  | d + 1, j, hj, k, hk => by
    obtain ⟨k, rfl⟩ : ∃ m, k = m + 1 := ⟨k - 1, by omega⟩
    have hj8 : j < 8 := by omega
    have ih := num_l0 n d (j + 1) (by omega) k (by omega)
    have hst := div_step (word n) j hj8
    rw [show 8 - (j + 1) = 7 - j from by omega] at ih
    have hl8 : (beR (word n / 256 ^ (8 - j))).length ≤ 8 := beR_len_le 8 _ (Nat.lt_of_le_of_lt (Nat.div_le_self _ _) (word_lt n))
    simp only [pack_Num.l0]
    rw [if_pos (by omega), if_pos (by omega), word_int]
    have hsh : shr .u64 ((word n : Nat) : Int) (56 - 8 * (j : Int)) = ((word n / 256 ^ (7 - j) : Nat) : Int) := by
      rw [show (56 - 8 * (j : Int)) = ((8 * (7 - j) : Nat) : Int) from by omega, shr_word _ _ (by omega), Nat.pow_mul]
    rw [hsh]
    rw [show wrap64 (56 - 8 * (j : Int) - 8) = 56 - 8 * ((j + 1 : Nat) : Int) from by unfold wrap64; omega]
    generalize word n / 256 ^ (8 - j) = v at *
    generalize hu : word n / 256 ^ (7 - j) = u at *
    by_cases hc : ((u : Nat) : Int) % 256 = 0
    · rw [if_pos hc]
      by_cases hv : v = 0
      · subst hv
        have hu0 : u = 0 := by omega
        rw [hu0] at ih
        rw [beR_zero] at ih ⊢
        rw [if_neg (by simp)]
        exact ih
      · rw [if_pos (by have := beR_len_pos.2 hv; simp only [List.length_cons]; omega), if_pos (by simp only [List.length_cons]; omega)]
        have := beR_step v (u % 256) (by omega) (.inl hv)
        rw [← hst] at this
        rw [this] at ih
        rw [List.cons_append, show ((u : Int) % 256) = ((u % 256 : Nat) : Int) from by omega]
        exact ih
    · rw [if_neg hc, if_pos (by simp only [List.length_cons]; omega)]
      have := beR_step v (u % 256) (by omega) (.inr (by omega))
      rw [← hst] at this
      rw [this] at ih
      rw [List.cons_append, show ((u : Int) % 256) = ((u % 256 : Nat) : Int) from by omega]
      exact ih
theorem num_f (n : Int) : pack_Num.f 9 n = some (numB n) := by
  unfold pack_Num.f
  have := num_l0 n 8 0 (by omega) 9 (by omega)
  have h0 : word n / 256 ^ (8 - 0) = 0 := Nat.div_eq_of_lt (word_lt n)
  rw [h0, beR_zero] at this
  exact this
/-- a row's bytes -/
def rowB (b : List Int) : List Int := numB (b.length : Int) ++ b
theorem row_f (b : List Int) (h : b.length ≤ 65536) : pack_Row.f 9 b = some (rowB b, 0) := by
  unfold pack_Row.f
  have hl := numB_len (b.length : Int)
  rw [if_neg (by omega), num_f]
  simp only [Option.bind_some]
  rw [if_pos (by omega)]; rfl
def truthB (t : Bool) : List Int := if t then [1] else [0]
theorem truth_f (t : Bool) : pack_Truth.f t = some (truthB t) := by unfold pack_Truth.f truthB; cases t <;> rfl
theorem same_f (l : List Int) : icehouseref00_Same.f l l = some true := by unfold icehouseref00_Same.f; simp
end Go.Proofs.YthaoiamgkpkcbaaDoor.EncP
namespace Go.Proofs.YthaoiamgkpkcbaaDoor.QL
open Go.RowKit Go.Proofs.YthaoiamgkpkcbaaDoorW.PrintWords Go.Proofs.YthaoiamgkpkcbaaDoorW.PrintLast Go.Proofs.YthaoiamgkpkcbaaDoorW.PrintMore
attribute [local go_sem] max2_int min2_int max_two min_two max_three min_three max_four min_four   -- for this text's walks alone
set_option linter.unusedVariables false
set_option linter.unusedSimpArgs false
def errW : Option Int → Value
  | none => .nilIface
  | some c => .iface 0 (.int .i64 c)
theorem errW_none : errW none = .nilIface := rfl
theorem errW_some (c : Int) : errW (some c) = .iface 0 (.int .i64 c) := rfl

-- the values' own types
/-! #### struct type 23 -/
structure S23 where
  f0 : Int
  f1 : Int
  f2 : Int
def z23 : S23 := ⟨(0 : Int), (0 : Int), (0 : Int)⟩
def k23 : Kd S23 := Kd.iso (Kd.pair (Kd.int .i64) (Kd.pair (Kd.int .i64) (Kd.int .i64))) (fun x : S23 => (x.f0, x.f1, x.f2))
theorem k23_open {w : World} {x : S23} {cs : List Value} (h : k23.K w x cs) : cs = [.int .i64 x.f0, .int .i64 x.f1, .int .i64 x.f2] := by
  obtain ⟨_, _, rfl, rfl, ⟨_, _, rfl, rfl, rfl⟩⟩ := h
  exact rfl
theorem k23_mkM (w : World) (base : Nat) (ok : Nat → Prop) (x : S23)  : k23.M w base ok x [.int .i64 x.f0, .int .i64 x.f1, .int .i64 x.f2] := ⟨[.int .i64 x.f0], [.int .i64 x.f1, .int .i64 x.f2], rfl, rfl, ⟨[.int .i64 x.f1], [.int .i64 x.f2], rfl, rfl, rfl⟩⟩
/-! #### struct type 26 -/
structure S26 where
  f0 : Bool
  f1 : (List Int)
def z26 : S26 := ⟨false, ([] : List Int)⟩
def k26 : Kd S26 := Kd.iso (Kd.pair Kd.bool (Kd.slice 5 (Kd.int .u8))) (fun x : S26 => (x.f0, x.f1))
theorem k26_open {w : World} {x : S26} {cs : List Value} (h : k26.K w x cs) : ∃ A1 c1, cs = [.bool x.f0, .slice A1 x.f1.length c1] ∧ x.f1.length ≤ c1 ∧ (Kd.int .u8).C w A1 x.f1.length x.f1 := by
  obtain ⟨_, _, rfl, rfl, ⟨A1, c1, rfl, l1, g1⟩⟩ := h
  exact ⟨A1, c1, rfl, l1, g1⟩
theorem k26_mkM (w : World) (base : Nat) (ok : Nat → Prop) (x : S26) {v1 : Value} (g1 : (Kd.int .u8).R 5 w base ok v1 x.f1) : k26.M w base ok x [.bool x.f0, v1] := ⟨[.bool x.f0], [v1], rfl, rfl, ⟨v1, rfl, g1⟩⟩
/-! #### struct type 28 -/
structure S28 where
  f0 : ByteArray
  f1 : S23
  f2 : S26
def z28 : S28 := ⟨(⟨#[]⟩ : ByteArray), z23, z26⟩
def k28 : Kd S28 := Kd.iso (Kd.pair Kd.string (Kd.pair k23 k26)) (fun x : S28 => (x.f0, x.f1, x.f2))
theorem k28_open {w : World} {x : S28} {cs : List Value} (h : k28.K w x cs) : ∃ A5 c5, cs = [.string x.f0, .int .i64 x.f1.f0, .int .i64 x.f1.f1, .int .i64 x.f1.f2, .bool x.f2.f0, .slice A5 x.f2.f1.length c5] ∧ x.f2.f1.length ≤ c5 ∧ (Kd.int .u8).C w A5 x.f2.f1.length x.f2.f1 := by
  obtain ⟨_, _, rfl, rfl, ⟨_, _, rfl, s1, s4⟩⟩ := h
  obtain rfl := k23_open s1
  obtain ⟨A5, c5, rfl, l5, g5⟩ := k26_open s4
  exact ⟨A5, c5, rfl, l5, g5⟩
theorem k28_mkM (w : World) (base : Nat) (ok : Nat → Prop) (x : S28) {v5 : Value} (g5 : (Kd.int .u8).R 5 w base ok v5 x.f2.f1) : k28.M w base ok x [.string x.f0, .int .i64 x.f1.f0, .int .i64 x.f1.f1, .int .i64 x.f1.f2, .bool x.f2.f0, v5] := ⟨[.string x.f0], [.int .i64 x.f1.f0, .int .i64 x.f1.f1, .int .i64 x.f1.f2, .bool x.f2.f0, v5], rfl, rfl, ⟨[.int .i64 x.f1.f0, .int .i64 x.f1.f1, .int .i64 x.f1.f2], [.bool x.f2.f0, v5], rfl, (k23_mkM w base ok x.f1 ), (k26_mkM w base ok x.f2 g5)⟩⟩
def rd_T28 (xs : List S28) (i : Int) : S28 := xs.getD i.toNat z28
theorem at_T28 {w : World} {A : Option Addr} {n : Nat} {xs : List S28} (h : Kd.C k28 w A n xs) (i : Int) (h0 : 0 ≤ i) (h1 : i < n) : ∃ ad A5 c5, A = some ad ∧ w.cell? (ad.add (i.toNat * 6)) = some (.string (rd_T28 xs i).f0) ∧ w.cell? ⟨(ad.add (i.toNat * 6)).block, (ad.add (i.toNat * 6)).off + 1, none⟩ = some (.int .i64 (rd_T28 xs i).f1.f0) ∧ w.cell? ⟨(ad.add (i.toNat * 6)).block, (ad.add (i.toNat * 6)).off + 2, none⟩ = some (.int .i64 (rd_T28 xs i).f1.f1) ∧ w.cell? ⟨(ad.add (i.toNat * 6)).block, (ad.add (i.toNat * 6)).off + 3, none⟩ = some (.int .i64 (rd_T28 xs i).f1.f2) ∧ w.cell? ⟨(ad.add (i.toNat * 6)).block, (ad.add (i.toNat * 6)).off + 4, none⟩ = some (.bool (rd_T28 xs i).f2.f0) ∧ w.cell? ⟨(ad.add (i.toNat * 6)).block, (ad.add (i.toNat * 6)).off + 5, none⟩ = some (.slice A5 (rd_T28 xs i).f2.f1.length c5) ∧ (rd_T28 xs i).f2.f1.length ≤ c5 ∧ (Kd.int .u8).C w A5 (rd_T28 xs i).f2.f1.length (rd_T28 xs i).f2.f1 := by
  obtain ⟨ad, c, e, _, hK, hc0⟩ := Kd.C_get h z28 i h0 h1
  have hc : ∀ j u, c[j]? = some u → w.cell? (ad.add (i.toNat * 6 + j)) = some u := hc0
  obtain ⟨A5, c5, rfl, l5, g5⟩ := k28_open hK
  exact ⟨ad, A5, c5, e, hc 0 _ rfl, by rw [← add_field _ _ 1 (by omega)]; exact hc 1 _ rfl, by rw [← add_field _ _ 2 (by omega)]; exact hc 2 _ rfl, by rw [← add_field _ _ 3 (by omega)]; exact hc 3 _ rfl, by rw [← add_field _ _ 4 (by omega)]; exact hc 4 _ rfl, by rw [← add_field _ _ 5 (by omega)]; exact hc 5 _ rfl, l5, g5⟩
end Go.Proofs.YthaoiamgkpkcbaaDoor.QL
namespace Go.Proofs.YthaoiamgkpkcbaaDoor.QL
open Go.RowKit Go.Proofs.YthaoiamgkpkcbaaDoorW.PrintWords Go.Proofs.YthaoiamgkpkcbaaDoorW.PrintLast Go.Proofs.YthaoiamgkpkcbaaDoorW.PrintMore
attribute [local go_sem] max2_int min2_int max_two min_two max_three min_three max_four min_four   -- for this text's walks alone
set_option linter.unusedVariables false
set_option linter.unusedSimpArgs false
/-! ### icehouseref12_Long: function 27 -/
def icehouseref12_Long.l0 : Nat → Int → Int → Int → Int → Int → Int → Int → Int → Bool → ByteArray → Int → Int → Int → Bool → List Int → List (S28) → List Int → Int → Int → Option (Int)
  | 0, _, _, _, _, _, _, _, _, _, _, _, _, _, _, _, _, _, _, _ => none
  | k + 1, x3, x4, x102000, x102001, x102002, x102003, x102004, x102005, x102006, x102007, x102008, x102009, x102010, x102011, x102012, x102013, x102014, x102015, x102016 => if x4 < (x102013.length : Int) then (if 0 ≤ x4 then (icehouseref12_Long.l0 k (wrap64 ((wrap64 (x3 + (((rd_T28 x102013 x4).f0).size : Int))) + (((rd_T28 x102013 x4).f2.f1).length : Int))) (wrap64 (x4 + 1)) x102000 x102001 x102002 x102003 x102004 x102005 x102006 x102007 x102008 x102009 x102010 x102011 x102012 x102013 x102014 x102015 x102016) else (none)) else ((QR.icehouseref00_Copy.f ([] : List Int)).bind fun t104 => (some (wrap64 (x3 + (t104.length : Int)))))
def icehouseref12_Long.f (k : Nat) (a0_0 : Int) (a0_1 : Int) (a0_2 : Int) (a0_3 : Int) (a0_4 : Int) (a0_5 : Int) (a0_6 : Bool) (a0_7 : ByteArray) (a0_8 : Int) (a0_9 : Int) (a0_10 : Int) (a0_11 : Bool) (l0_12 : List Int) (l0_13 : List (S28)) (l0_14 : List Int) (a0_15 : Int) (a0_16 : Int) : Option (Int) := icehouseref12_Long.l0 k (wrap64 ((wrap64 ((wrap64 ((a0_7.size : Int) + (l0_12.length : Int))) + (l0_14.length : Int))) + (l0_13.length : Int))) 0 a0_0 a0_1 a0_2 a0_3 a0_4 a0_5 a0_6 a0_7 a0_8 a0_9 a0_10 a0_11 l0_12 l0_13 l0_14 a0_15 a0_16
set_option maxHeartbeats 8000000 in
set_option maxRecDepth 100000 in
theorem icehouseref12_Long.calls (k : Nat) (a0_0 : Int) (a0_1 : Int) (a0_2 : Int) (a0_3 : Int) (a0_4 : Int) (a0_5 : Int) (a0_6 : Bool) (a0_7 : ByteArray) (a0_8 : Int) (a0_9 : Int) (a0_10 : Int) (a0_11 : Bool) (A0_12 : Option Addr) (c0_12 : Nat) (l0_12 : List Int) (A0_13 : Option Addr) (c0_13 : Nat) (l0_13 : List (S28)) (A0_14 : Option Addr) (c0_14 : Nat) (l0_14 : List Int) (a0_15 : Int) (a0_16 : Int) (r : Int) (w : World) (hr0_12 : Kd.C (Kd.int .u8) w A0_12 l0_12.length l0_12) (hc0_12 : l0_12.length ≤ c0_12) (hr0_13 : Kd.C k28 w A0_13 l0_13.length l0_13) (hc0_13 : l0_13.length ≤ c0_13) (hr0_14 : Kd.C (Kd.int .i64) w A0_14 l0_14.length l0_14) (hc0_14 : l0_14.length ≤ c0_14) (h : icehouseref12_Long.f k a0_0 a0_1 a0_2 a0_3 a0_4 a0_5 a0_6 a0_7 a0_8 a0_9 a0_10 a0_11 l0_12 l0_13 l0_14 a0_15 a0_16 = some r) :
    Calls Tryd.prog 27 #[.agg #[.int .i64 a0_0, .int .i64 a0_1, .int .i64 a0_2, .int .i64 a0_3, .int .i64 a0_4, .int .i64 a0_5, .bool a0_6, .string a0_7, .int .i64 a0_8, .int .i64 a0_9, .int .i64 a0_10, .bool a0_11, .slice A0_12 l0_12.length c0_12, .slice A0_13 l0_13.length c0_13, .slice A0_14 l0_14.length c0_14, .int .i64 a0_15, .int .i64 a0_16]] w fun e w' => e = .returned (.int .i64 r) ∧ Below w.heap.size w w' := by
  have hu34 := Tryd.underlying34
  have HR0_12 := Aside0.mk hr0_12
  have HC0_12 := Aside0.mk hc0_12
  clear hr0_12 hc0_12
  have HR0_13 := Aside0.mk hr0_13
  have HC0_13 := Aside0.mk hc0_13
  clear hr0_13 hc0_13
  have HR0_14 := Aside0.mk hr0_14
  have HC0_14 := Aside0.mk hc0_14
  clear hr0_14 hc0_14
  have HB := Aside0.mk (Below.refl w.heap.size w)
  have H : (icehouseref12_Long.l0 k (wrap64 ((wrap64 ((wrap64 ((a0_7.size : Int) + (l0_12.length : Int))) + (l0_14.length : Int))) + (l0_13.length : Int))) 0 a0_0 a0_1 a0_2 a0_3 a0_4 a0_5 a0_6 a0_7 a0_8 a0_9 a0_10 a0_11 l0_12 l0_13 l0_14 a0_15 a0_16) = some r := h
  clear h
  have H' := Aside0.mk H
  clear H
  go_enter Tryd.func27, Tryd.ntmps27
  go_wp2_with (first | ((with_reducible refine gate_dst (N := 1) rfl ?_); refine box_event ?hg (N := 1) ?hd (cs := #[.int .i64 a0_0, .int .i64 a0_1, .int .i64 a0_2, .int .i64 a0_3, .int .i64 a0_4, .int .i64 a0_5, .bool a0_6, .string a0_7, .int .i64 a0_8, .int .i64 a0_9, .int .i64 a0_10, .bool a0_11, .slice A0_12 l0_12.length c0_12, .slice A0_13 l0_13.length c0_13, .slice A0_14 l0_14.length c0_14, .int .i64 a0_15, .int .i64 a0_16]) (t := 34) ?hr ?_; (case hd => rfl); (case hg => rfl); (case hr => first | (go_simp; done) | (go_simp; rfl)); intro gb101 hg w2 hbox hb; have n0_ := Aside0.mk (below_step (by repeat (first | (with_reducible first | exact HB.out | apply below_alloc | apply pw_below_drewN | apply below_drew1) | exact HB.out)) hb); have n1_ := Aside0.mk (hbox); have n2_ := Aside0.mk ((by rw [hg]; exact (below_size (by repeat (first | (with_reducible first | exact HB.out | apply below_alloc | apply pw_below_drewN | apply below_drew1) | exact HB.out))) : w.heap.size ≤ gb101)); have n3_ := Aside0.mk ((by rw [hg]; exact (below_size (by repeat (first | (with_reducible first | exact HB.out | apply below_alloc | apply pw_below_drewN | apply below_drew1) | exact HB.out))) : w.heap.size ≤ gb101)); clear HB; have HB := n0_; have BK101 := n1_; have GW101 := n2_; have GE101 := n3_; clear n0_ n1_ n2_ n3_; clear hb hbox hg; have hcz3_0 : w2.cell? ⟨gb101, 0, none⟩ = some (.int .i64 a0_0) := (blk_cell BK101.out 0).trans rfl; have hcz3_1 : w2.cell? ⟨gb101, 1, none⟩ = some (.int .i64 a0_1) := (blk_cell BK101.out 1).trans rfl; have hcz3_2 : w2.cell? ⟨gb101, 2, none⟩ = some (.int .i64 a0_2) := (blk_cell BK101.out 2).trans rfl; have hcz3_3 : w2.cell? ⟨gb101, 3, none⟩ = some (.int .i64 a0_3) := (blk_cell BK101.out 3).trans rfl; have hcz3_4 : w2.cell? ⟨gb101, 4, none⟩ = some (.int .i64 a0_4) := (blk_cell BK101.out 4).trans rfl; have hcz3_5 : w2.cell? ⟨gb101, 5, none⟩ = some (.int .i64 a0_5) := (blk_cell BK101.out 5).trans rfl; have hcz3_6 : w2.cell? ⟨gb101, 6, none⟩ = some (.bool a0_6) := (blk_cell BK101.out 6).trans rfl; have hcz3_7 : w2.cell? ⟨gb101, 7, none⟩ = some (.string a0_7) := (blk_cell BK101.out 7).trans rfl; have hcz3_8 : w2.cell? ⟨gb101, 8, none⟩ = some (.int .i64 a0_8) := (blk_cell BK101.out 8).trans rfl; have hcz3_9 : w2.cell? ⟨gb101, 9, none⟩ = some (.int .i64 a0_9) := (blk_cell BK101.out 9).trans rfl; have hcz3_10 : w2.cell? ⟨gb101, 10, none⟩ = some (.int .i64 a0_10) := (blk_cell BK101.out 10).trans rfl; have hcz3_11 : w2.cell? ⟨gb101, 11, none⟩ = some (.bool a0_11) := (blk_cell BK101.out 11).trans rfl; have hcz3_12 : w2.cell? ⟨gb101, 12, none⟩ = some (.slice A0_12 l0_12.length c0_12) := (blk_cell BK101.out 12).trans rfl; have hcz3_13 : w2.cell? ⟨gb101, 13, none⟩ = some (.slice A0_13 l0_13.length c0_13) := (blk_cell BK101.out 13).trans rfl; have hcz3_14 : w2.cell? ⟨gb101, 14, none⟩ = some (.slice A0_14 l0_14.length c0_14) := (blk_cell BK101.out 14).trans rfl; have hcz3_15 : w2.cell? ⟨gb101, 15, none⟩ = some (.int .i64 a0_15) := (blk_cell BK101.out 15).trans rfl; have hcz3_16 : w2.cell? ⟨gb101, 16, none⟩ = some (.int .i64 a0_16) := (blk_cell BK101.out 16).trans rfl; have hfz3_0 := blk_frozen BK101.out 0; have hfz3_1 := blk_frozen BK101.out 1; have hfz3_2 := blk_frozen BK101.out 2; have hfz3_3 := blk_frozen BK101.out 3; have hfz3_4 := blk_frozen BK101.out 4; have hfz3_5 := blk_frozen BK101.out 5; have hfz3_6 := blk_frozen BK101.out 6; have hfz3_7 := blk_frozen BK101.out 7; have hfz3_8 := blk_frozen BK101.out 8; have hfz3_9 := blk_frozen BK101.out 9; have hfz3_10 := blk_frozen BK101.out 10; have hfz3_11 := blk_frozen BK101.out 11; have hfz3_12 := blk_frozen BK101.out 12; have hfz3_13 := blk_frozen BK101.out 13; have hfz3_14 := blk_frozen BK101.out 14; have hfz3_15 := blk_frozen BK101.out 15; have hfz3_16 := blk_frozen BK101.out 16))
  repeat (go_quiet (first | ((with_reducible refine gate_dst (N := 1) rfl ?_); refine box_event ?hg (N := 1) ?hd (cs := #[.int .i64 a0_0, .int .i64 a0_1, .int .i64 a0_2, .int .i64 a0_3, .int .i64 a0_4, .int .i64 a0_5, .bool a0_6, .string a0_7, .int .i64 a0_8, .int .i64 a0_9, .int .i64 a0_10, .bool a0_11, .slice A0_12 l0_12.length c0_12, .slice A0_13 l0_13.length c0_13, .slice A0_14 l0_14.length c0_14, .int .i64 a0_15, .int .i64 a0_16]) (t := 34) ?hr ?_; (case hd => rfl); (case hg => rfl); (case hr => first | (go_simp; done) | (go_simp; rfl)); intro gb101 hg w2 hbox hb; have n0_ := Aside0.mk (below_step (by repeat (first | (with_reducible first | exact HB.out | apply below_alloc | apply pw_below_drewN | apply below_drew1) | exact HB.out)) hb); have n1_ := Aside0.mk (hbox); have n2_ := Aside0.mk ((by rw [hg]; exact (below_size (by repeat (first | (with_reducible first | exact HB.out | apply below_alloc | apply pw_below_drewN | apply below_drew1) | exact HB.out))) : w.heap.size ≤ gb101)); have n3_ := Aside0.mk ((by rw [hg]; exact (below_size (by repeat (first | (with_reducible first | exact HB.out | apply below_alloc | apply pw_below_drewN | apply below_drew1) | exact HB.out))) : w.heap.size ≤ gb101)); clear HB; have HB := n0_; have BK101 := n1_; have GW101 := n2_; have GE101 := n3_; clear n0_ n1_ n2_ n3_; clear hb hbox hg; have hcz3_0 : w2.cell? ⟨gb101, 0, none⟩ = some (.int .i64 a0_0) := (blk_cell BK101.out 0).trans rfl; have hcz3_1 : w2.cell? ⟨gb101, 1, none⟩ = some (.int .i64 a0_1) := (blk_cell BK101.out 1).trans rfl; have hcz3_2 : w2.cell? ⟨gb101, 2, none⟩ = some (.int .i64 a0_2) := (blk_cell BK101.out 2).trans rfl; have hcz3_3 : w2.cell? ⟨gb101, 3, none⟩ = some (.int .i64 a0_3) := (blk_cell BK101.out 3).trans rfl; have hcz3_4 : w2.cell? ⟨gb101, 4, none⟩ = some (.int .i64 a0_4) := (blk_cell BK101.out 4).trans rfl; have hcz3_5 : w2.cell? ⟨gb101, 5, none⟩ = some (.int .i64 a0_5) := (blk_cell BK101.out 5).trans rfl; have hcz3_6 : w2.cell? ⟨gb101, 6, none⟩ = some (.bool a0_6) := (blk_cell BK101.out 6).trans rfl; have hcz3_7 : w2.cell? ⟨gb101, 7, none⟩ = some (.string a0_7) := (blk_cell BK101.out 7).trans rfl; have hcz3_8 : w2.cell? ⟨gb101, 8, none⟩ = some (.int .i64 a0_8) := (blk_cell BK101.out 8).trans rfl; have hcz3_9 : w2.cell? ⟨gb101, 9, none⟩ = some (.int .i64 a0_9) := (blk_cell BK101.out 9).trans rfl; have hcz3_10 : w2.cell? ⟨gb101, 10, none⟩ = some (.int .i64 a0_10) := (blk_cell BK101.out 10).trans rfl; have hcz3_11 : w2.cell? ⟨gb101, 11, none⟩ = some (.bool a0_11) := (blk_cell BK101.out 11).trans rfl; have hcz3_12 : w2.cell? ⟨gb101, 12, none⟩ = some (.slice A0_12 l0_12.length c0_12) := (blk_cell BK101.out 12).trans rfl; have hcz3_13 : w2.cell? ⟨gb101, 13, none⟩ = some (.slice A0_13 l0_13.length c0_13) := (blk_cell BK101.out 13).trans rfl; have hcz3_14 : w2.cell? ⟨gb101, 14, none⟩ = some (.slice A0_14 l0_14.length c0_14) := (blk_cell BK101.out 14).trans rfl; have hcz3_15 : w2.cell? ⟨gb101, 15, none⟩ = some (.int .i64 a0_15) := (blk_cell BK101.out 15).trans rfl; have hcz3_16 : w2.cell? ⟨gb101, 16, none⟩ = some (.int .i64 a0_16) := (blk_cell BK101.out 16).trans rfl; have hfz3_0 := blk_frozen BK101.out 0; have hfz3_1 := blk_frozen BK101.out 1; have hfz3_2 := blk_frozen BK101.out 2; have hfz3_3 := blk_frozen BK101.out 3; have hfz3_4 := blk_frozen BK101.out 4; have hfz3_5 := blk_frozen BK101.out 5; have hfz3_6 := blk_frozen BK101.out 6; have hfz3_7 := blk_frozen BK101.out 7; have hfz3_8 := blk_frozen BK101.out 8; have hfz3_9 := blk_frozen BK101.out 9; have hfz3_10 := blk_frozen BK101.out 10; have hfz3_11 := blk_frozen BK101.out 11; have hfz3_12 := blk_frozen BK101.out 12; have hfz3_13 := blk_frozen BK101.out 13; have hfz3_14 := blk_frozen BK101.out 14; have hfz3_15 := blk_frozen BK101.out 15; have hfz3_16 := blk_frozen BK101.out 16)); try go_wp2_with (first | ((with_reducible refine gate_dst (N := 1) rfl ?_); refine box_event ?hg (N := 1) ?hd (cs := #[.int .i64 a0_0, .int .i64 a0_1, .int .i64 a0_2, .int .i64 a0_3, .int .i64 a0_4, .int .i64 a0_5, .bool a0_6, .string a0_7, .int .i64 a0_8, .int .i64 a0_9, .int .i64 a0_10, .bool a0_11, .slice A0_12 l0_12.length c0_12, .slice A0_13 l0_13.length c0_13, .slice A0_14 l0_14.length c0_14, .int .i64 a0_15, .int .i64 a0_16]) (t := 34) ?hr ?_; (case hd => rfl); (case hg => rfl); (case hr => first | (go_simp; done) | (go_simp; rfl)); intro gb101 hg w2 hbox hb; have n0_ := Aside0.mk (below_step (by repeat (first | (with_reducible first | exact HB.out | apply below_alloc | apply pw_below_drewN | apply below_drew1) | exact HB.out)) hb); have n1_ := Aside0.mk (hbox); have n2_ := Aside0.mk ((by rw [hg]; exact (below_size (by repeat (first | (with_reducible first | exact HB.out | apply below_alloc | apply pw_below_drewN | apply below_drew1) | exact HB.out))) : w.heap.size ≤ gb101)); have n3_ := Aside0.mk ((by rw [hg]; exact (below_size (by repeat (first | (with_reducible first | exact HB.out | apply below_alloc | apply pw_below_drewN | apply below_drew1) | exact HB.out))) : w.heap.size ≤ gb101)); clear HB; have HB := n0_; have BK101 := n1_; have GW101 := n2_; have GE101 := n3_; clear n0_ n1_ n2_ n3_; clear hb hbox hg; have hcz3_0 : w2.cell? ⟨gb101, 0, none⟩ = some (.int .i64 a0_0) := (blk_cell BK101.out 0).trans rfl; have hcz3_1 : w2.cell? ⟨gb101, 1, none⟩ = some (.int .i64 a0_1) := (blk_cell BK101.out 1).trans rfl; have hcz3_2 : w2.cell? ⟨gb101, 2, none⟩ = some (.int .i64 a0_2) := (blk_cell BK101.out 2).trans rfl; have hcz3_3 : w2.cell? ⟨gb101, 3, none⟩ = some (.int .i64 a0_3) := (blk_cell BK101.out 3).trans rfl; have hcz3_4 : w2.cell? ⟨gb101, 4, none⟩ = some (.int .i64 a0_4) := (blk_cell BK101.out 4).trans rfl; have hcz3_5 : w2.cell? ⟨gb101, 5, none⟩ = some (.int .i64 a0_5) := (blk_cell BK101.out 5).trans rfl; have hcz3_6 : w2.cell? ⟨gb101, 6, none⟩ = some (.bool a0_6) := (blk_cell BK101.out 6).trans rfl; have hcz3_7 : w2.cell? ⟨gb101, 7, none⟩ = some (.string a0_7) := (blk_cell BK101.out 7).trans rfl; have hcz3_8 : w2.cell? ⟨gb101, 8, none⟩ = some (.int .i64 a0_8) := (blk_cell BK101.out 8).trans rfl; have hcz3_9 : w2.cell? ⟨gb101, 9, none⟩ = some (.int .i64 a0_9) := (blk_cell BK101.out 9).trans rfl; have hcz3_10 : w2.cell? ⟨gb101, 10, none⟩ = some (.int .i64 a0_10) := (blk_cell BK101.out 10).trans rfl; have hcz3_11 : w2.cell? ⟨gb101, 11, none⟩ = some (.bool a0_11) := (blk_cell BK101.out 11).trans rfl; have hcz3_12 : w2.cell? ⟨gb101, 12, none⟩ = some (.slice A0_12 l0_12.length c0_12) := (blk_cell BK101.out 12).trans rfl; have hcz3_13 : w2.cell? ⟨gb101, 13, none⟩ = some (.slice A0_13 l0_13.length c0_13) := (blk_cell BK101.out 13).trans rfl; have hcz3_14 : w2.cell? ⟨gb101, 14, none⟩ = some (.slice A0_14 l0_14.length c0_14) := (blk_cell BK101.out 14).trans rfl; have hcz3_15 : w2.cell? ⟨gb101, 15, none⟩ = some (.int .i64 a0_15) := (blk_cell BK101.out 15).trans rfl; have hcz3_16 : w2.cell? ⟨gb101, 16, none⟩ = some (.int .i64 a0_16) := (blk_cell BK101.out 16).trans rfl; have hfz3_0 := blk_frozen BK101.out 0; have hfz3_1 := blk_frozen BK101.out 1; have hfz3_2 := blk_frozen BK101.out 2; have hfz3_3 := blk_frozen BK101.out 3; have hfz3_4 := blk_frozen BK101.out 4; have hfz3_5 := blk_frozen BK101.out 5; have hfz3_6 := blk_frozen BK101.out 6; have hfz3_7 := blk_frozen BK101.out 7; have hfz3_8 := blk_frozen BK101.out 8; have hfz3_9 := blk_frozen BK101.out 9; have hfz3_10 := blk_frozen BK101.out 10; have hfz3_11 := blk_frozen BK101.out 11; have hfz3_12 := blk_frozen BK101.out 12; have hfz3_13 := blk_frozen BK101.out 13; have hfz3_14 := blk_frozen BK101.out 14; have hfz3_15 := blk_frozen BK101.out 15; have hfz3_16 := blk_frozen BK101.out 16)))
  go_loopg [3, 4] k (fun kq v3 v4 w' => ∃ (x3_1 : Int) (x4_1 : Int), v3 = .int .i64 x3_1 ∧ v4 = .int .i64 x4_1 ∧ Aside0 (icehouseref12_Long.l0 kq x3_1 x4_1 a0_0 a0_1 a0_2 a0_3 a0_4 a0_5 a0_6 a0_7 a0_8 a0_9 a0_10 a0_11 l0_12 l0_13 l0_14 a0_15 a0_16 = some r) ∧ Aside0 (kq ≤ k) ∧ Aside0 (w'.heap[gb101]? = some (.cells #[.int .i64 a0_0, .int .i64 a0_1, .int .i64 a0_2, .int .i64 a0_3, .int .i64 a0_4, .int .i64 a0_5, .bool a0_6, .string a0_7, .int .i64 a0_8, .int .i64 a0_9, .int .i64 a0_10, .bool a0_11, (.slice A0_12 l0_12.length c0_12), (.slice A0_13 l0_13.length c0_13), (.slice A0_14 l0_14.length c0_14), .int .i64 a0_15, .int .i64 a0_16] 34 (0, 0))) ∧ Aside0 (Below w.heap.size w w'))
  case atStart => exact ⟨(wrap64 ((wrap64 ((wrap64 ((a0_7.size : Int) + (l0_12.length : Int))) + (l0_14.length : Int))) + (l0_13.length : Int))), (0), (by first | rfl | (simp; done) | (simp [*]; done)), (by first | rfl | (simp; done) | (simp [*]; done)), H', ⟨Nat.le_refl _⟩, ⟨by (with_reducible repeat (first | refine blk_drewN ?_ _ | refine blk_drew ?_ | refine blk_alloc ?_ _)); exact BK101.out⟩, ⟨by repeat (first | (with_reducible first | exact HB.out | apply below_alloc | apply pw_below_drewN | apply below_drew1 | refine below_set ?_ GE101.out) | exact HB.out)⟩⟩
  case round =>
    clear H'
    try clear c2
    try clear p2
    try clear hcz3_0
    try clear hcz3_1
    try clear hcz3_10
    try clear hcz3_11
    try clear hcz3_12
    try clear hcz3_13
    try clear hcz3_14
    try clear hcz3_15
    try clear hcz3_16
    try clear hcz3_2
    try clear hcz3_3
    try clear hcz3_4
    try clear hcz3_5
    try clear hcz3_6
    try clear hcz3_7
    try clear hcz3_8
    try clear hcz3_9
    try clear hfz3_0
    try clear hfz3_1
    try clear hfz3_10
    try clear hfz3_11
    try clear hfz3_12
    try clear hfz3_13
    try clear hfz3_14
    try clear hfz3_15
    try clear hfz3_16
    try clear hfz3_2
    try clear hfz3_3
    try clear hfz3_4
    try clear hfz3_5
    try clear hfz3_6
    try clear hfz3_7
    try clear hfz3_8
    try clear hfz3_9
    obtain ⟨x3_1, x4_1, rfl, rfl, HA, HK1, BK101, HB⟩ := hrel
    cases gk with
    | zero => exact absurd HA.out (by simp [icehouseref12_Long.l0])
    | succ k1 =>
      have H := HA.out
      clear HA
      simp only [icehouseref12_Long.l0] at H
      by_cases c4 : x4_1 < (l0_13.length : Int)
      · rw [if_pos c4] at H
        have c4b0 : decide (x4_1 < (l0_13.length : Int)) = true := decide_eq_true c4
        clear c4
        by_cases c5 : 0 ≤ x4_1
        · rw [if_pos c5] at H
          have c5b0 : decide (0 ≤ x4_1) = true := decide_eq_true c5
          clear c5
          have H' := Aside0.mk H
          clear H
          have hcz6_0 : wr.cell? ⟨gb101, 0, none⟩ = some (.int .i64 a0_0) := (blk_cell BK101.out 0).trans rfl
          have hcz6_1 : wr.cell? ⟨gb101, 1, none⟩ = some (.int .i64 a0_1) := (blk_cell BK101.out 1).trans rfl
          have hcz6_2 : wr.cell? ⟨gb101, 2, none⟩ = some (.int .i64 a0_2) := (blk_cell BK101.out 2).trans rfl
          have hcz6_3 : wr.cell? ⟨gb101, 3, none⟩ = some (.int .i64 a0_3) := (blk_cell BK101.out 3).trans rfl
          have hcz6_4 : wr.cell? ⟨gb101, 4, none⟩ = some (.int .i64 a0_4) := (blk_cell BK101.out 4).trans rfl
          have hcz6_5 : wr.cell? ⟨gb101, 5, none⟩ = some (.int .i64 a0_5) := (blk_cell BK101.out 5).trans rfl
          have hcz6_6 : wr.cell? ⟨gb101, 6, none⟩ = some (.bool a0_6) := (blk_cell BK101.out 6).trans rfl
          have hcz6_7 : wr.cell? ⟨gb101, 7, none⟩ = some (.string a0_7) := (blk_cell BK101.out 7).trans rfl
          have hcz6_8 : wr.cell? ⟨gb101, 8, none⟩ = some (.int .i64 a0_8) := (blk_cell BK101.out 8).trans rfl
          have hcz6_9 : wr.cell? ⟨gb101, 9, none⟩ = some (.int .i64 a0_9) := (blk_cell BK101.out 9).trans rfl
          have hcz6_10 : wr.cell? ⟨gb101, 10, none⟩ = some (.int .i64 a0_10) := (blk_cell BK101.out 10).trans rfl
          have hcz6_11 : wr.cell? ⟨gb101, 11, none⟩ = some (.bool a0_11) := (blk_cell BK101.out 11).trans rfl
          have hcz6_12 : wr.cell? ⟨gb101, 12, none⟩ = some (.slice A0_12 l0_12.length c0_12) := (blk_cell BK101.out 12).trans rfl
          have hcz6_13 : wr.cell? ⟨gb101, 13, none⟩ = some (.slice A0_13 l0_13.length c0_13) := (blk_cell BK101.out 13).trans rfl
          have hcz6_14 : wr.cell? ⟨gb101, 14, none⟩ = some (.slice A0_14 l0_14.length c0_14) := (blk_cell BK101.out 14).trans rfl
          have hcz6_15 : wr.cell? ⟨gb101, 15, none⟩ = some (.int .i64 a0_15) := (blk_cell BK101.out 15).trans rfl
          have hcz6_16 : wr.cell? ⟨gb101, 16, none⟩ = some (.int .i64 a0_16) := (blk_cell BK101.out 16).trans rfl
          have hfz6_0 := blk_frozen BK101.out 0
          have hfz6_1 := blk_frozen BK101.out 1
          have hfz6_2 := blk_frozen BK101.out 2
          have hfz6_3 := blk_frozen BK101.out 3
          have hfz6_4 := blk_frozen BK101.out 4
          have hfz6_5 := blk_frozen BK101.out 5
          have hfz6_6 := blk_frozen BK101.out 6
          have hfz6_7 := blk_frozen BK101.out 7
          have hfz6_8 := blk_frozen BK101.out 8
          have hfz6_9 := blk_frozen BK101.out 9
          have hfz6_10 := blk_frozen BK101.out 10
          have hfz6_11 := blk_frozen BK101.out 11
          have hfz6_12 := blk_frozen BK101.out 12
          have hfz6_13 := blk_frozen BK101.out 13
          have hfz6_14 := blk_frozen BK101.out 14
          have hfz6_15 := blk_frozen BK101.out 15
          have hfz6_16 := blk_frozen BK101.out 16
          have p102 : 0 ≤ (x4_1 : Int) := of_decide_eq_true (by first | (with_reducible assumption) | assumption)
          have q102 : x4_1 < (l0_13.length : Int) := of_decide_eq_true (by first | (with_reducible assumption) | assumption)
          obtain ⟨ad102, A102_5, c102_5, e102, hx102_0, hx102_1, hx102_2, hx102_3, hx102_4, hx102_5, hl102_5, hi102_5⟩ := at_T28 HR0_13.out x4_1 p102 q102
          cases e102
          replace hx102_0 := (HB.out.cell (World.block_lt_of_cell? w _ hx102_0)).trans hx102_0
          replace hx102_1 := (HB.out.cell (World.block_lt_of_cell? w _ hx102_1)).trans hx102_1
          replace hx102_2 := (HB.out.cell (World.block_lt_of_cell? w _ hx102_2)).trans hx102_2
          replace hx102_3 := (HB.out.cell (World.block_lt_of_cell? w _ hx102_3)).trans hx102_3
          replace hx102_4 := (HB.out.cell (World.block_lt_of_cell? w _ hx102_4)).trans hx102_4
          replace hx102_5 := (HB.out.cell (World.block_lt_of_cell? w _ hx102_5)).trans hx102_5
          have HR102_5 := Aside0.mk hi102_5
          have HC102_5 := Aside0.mk hl102_5
          clear hi102_5 hl102_5
          replace p102 := eq_true p102
          replace q102 := eq_true q102
          have p103 : 0 ≤ (x4_1 : Int) := of_decide_eq_true (by first | (with_reducible assumption) | assumption)
          have q103 : x4_1 < (l0_13.length : Int) := of_decide_eq_true (by first | (with_reducible assumption) | assumption)
          obtain ⟨ad103, A103_5, c103_5, e103, hx103_0, hx103_1, hx103_2, hx103_3, hx103_4, hx103_5, hl103_5, hi103_5⟩ := at_T28 HR0_13.out x4_1 p103 q103
          obtain rfl : ad102 = ad103 := (by injection e103)
          replace hx103_0 := (HB.out.cell (World.block_lt_of_cell? w _ hx103_0)).trans hx103_0
          replace hx103_1 := (HB.out.cell (World.block_lt_of_cell? w _ hx103_1)).trans hx103_1
          replace hx103_2 := (HB.out.cell (World.block_lt_of_cell? w _ hx103_2)).trans hx103_2
          replace hx103_3 := (HB.out.cell (World.block_lt_of_cell? w _ hx103_3)).trans hx103_3
          replace hx103_4 := (HB.out.cell (World.block_lt_of_cell? w _ hx103_4)).trans hx103_4
          replace hx103_5 := (HB.out.cell (World.block_lt_of_cell? w _ hx103_5)).trans hx103_5
          have HR103_5 := Aside0.mk hi103_5
          have HC103_5 := Aside0.mk hl103_5
          clear hi103_5 hl103_5
          replace p103 := eq_true p103
          replace q103 := eq_true q103
          have ea_ := Option.some.inj (hx102_5.symm.trans hx103_5)
          injection ea_ with ea_ en_ ec_
          subst ea_
          subst ec_
          clear en_
          go_wp2
          repeat (go_quiet (fail); try go_wp2)
          go_roundg k1
          case measure => have := HK1.out; omega
          case rel => exact ⟨(wrap64 ((wrap64 (x3_1 + (((rd_T28 l0_13 x4_1).f0).size : Int))) + (((rd_T28 l0_13 x4_1).f2.f1).length : Int))), (wrap64 (x4_1 + 1)), (by first | rfl | (simp; done) | (simp [*]; done)), (by first | rfl | (simp; done) | (simp [*]; done)), H', ⟨by have := HK1.out; omega⟩, ⟨by (with_reducible repeat (first | refine blk_drewN ?_ _ | refine blk_drew ?_ | refine blk_alloc ?_ _)); exact BK101.out⟩, ⟨by repeat (first | (with_reducible first | exact HB.out | apply below_alloc | apply pw_below_drewN | apply below_drew1 | refine below_set ?_ GE101.out) | exact HB.out)⟩⟩
        · rw [if_neg c5] at H
          exact absurd H (by simp)
      · rw [if_neg c4] at H
        have c4b0 : decide (x4_1 < (l0_13.length : Int)) = false := decide_eq_false c4
        clear c4
        replace H := Option.bind_eq_some_iff.mp H
        obtain ⟨t104, A70, H⟩ := H
        replace H : (some (wrap64 (x3_1 + (t104.length : Int)))) = some r := H
        have A7 := Aside0.mk A70
        clear A70
        obtain rfl := Option.some.inj H
        have hcz8_0 : wr.cell? ⟨gb101, 0, none⟩ = some (.int .i64 a0_0) := (blk_cell BK101.out 0).trans rfl
        have hcz8_1 : wr.cell? ⟨gb101, 1, none⟩ = some (.int .i64 a0_1) := (blk_cell BK101.out 1).trans rfl
        have hcz8_2 : wr.cell? ⟨gb101, 2, none⟩ = some (.int .i64 a0_2) := (blk_cell BK101.out 2).trans rfl
        have hcz8_3 : wr.cell? ⟨gb101, 3, none⟩ = some (.int .i64 a0_3) := (blk_cell BK101.out 3).trans rfl
        have hcz8_4 : wr.cell? ⟨gb101, 4, none⟩ = some (.int .i64 a0_4) := (blk_cell BK101.out 4).trans rfl
        have hcz8_5 : wr.cell? ⟨gb101, 5, none⟩ = some (.int .i64 a0_5) := (blk_cell BK101.out 5).trans rfl
        have hcz8_6 : wr.cell? ⟨gb101, 6, none⟩ = some (.bool a0_6) := (blk_cell BK101.out 6).trans rfl
        have hcz8_7 : wr.cell? ⟨gb101, 7, none⟩ = some (.string a0_7) := (blk_cell BK101.out 7).trans rfl
        have hcz8_8 : wr.cell? ⟨gb101, 8, none⟩ = some (.int .i64 a0_8) := (blk_cell BK101.out 8).trans rfl
        have hcz8_9 : wr.cell? ⟨gb101, 9, none⟩ = some (.int .i64 a0_9) := (blk_cell BK101.out 9).trans rfl
        have hcz8_10 : wr.cell? ⟨gb101, 10, none⟩ = some (.int .i64 a0_10) := (blk_cell BK101.out 10).trans rfl
        have hcz8_11 : wr.cell? ⟨gb101, 11, none⟩ = some (.bool a0_11) := (blk_cell BK101.out 11).trans rfl
        have hcz8_12 : wr.cell? ⟨gb101, 12, none⟩ = some (.slice A0_12 l0_12.length c0_12) := (blk_cell BK101.out 12).trans rfl
        have hcz8_13 : wr.cell? ⟨gb101, 13, none⟩ = some (.slice A0_13 l0_13.length c0_13) := (blk_cell BK101.out 13).trans rfl
        have hcz8_14 : wr.cell? ⟨gb101, 14, none⟩ = some (.slice A0_14 l0_14.length c0_14) := (blk_cell BK101.out 14).trans rfl
        have hcz8_15 : wr.cell? ⟨gb101, 15, none⟩ = some (.int .i64 a0_15) := (blk_cell BK101.out 15).trans rfl
        have hcz8_16 : wr.cell? ⟨gb101, 16, none⟩ = some (.int .i64 a0_16) := (blk_cell BK101.out 16).trans rfl
        have hfz8_0 := blk_frozen BK101.out 0
        have hfz8_1 := blk_frozen BK101.out 1
        have hfz8_2 := blk_frozen BK101.out 2
        have hfz8_3 := blk_frozen BK101.out 3
        have hfz8_4 := blk_frozen BK101.out 4
        have hfz8_5 := blk_frozen BK101.out 5
        have hfz8_6 := blk_frozen BK101.out 6
        have hfz8_7 := blk_frozen BK101.out 7
        have hfz8_8 := blk_frozen BK101.out 8
        have hfz8_9 := blk_frozen BK101.out 9
        have hfz8_10 := blk_frozen BK101.out 10
        have hfz8_11 := blk_frozen BK101.out 11
        have hfz8_12 := blk_frozen BK101.out 12
        have hfz8_13 := blk_frozen BK101.out 13
        have hfz8_14 := blk_frozen BK101.out 14
        have hfz8_15 := blk_frozen BK101.out 15
        have hfz8_16 := blk_frozen BK101.out 16
        go_wp2_with (first | (go_at_call 20; (refine (QR.icehouseref00_Copy.calls _ _ ([] : List Int) t104 _ ?side1 ?side2 A7.out).mono ?_); (case side1 => exact Kd.C_nil _ _); (case side2 => exact Nat.le_refl _); rintro e w9 ⟨v105, rfl, ho0, hb⟩; have n0_ := Aside0.mk (Kd.R_lower ho0 (below_size (by repeat (first | (with_reducible first | exact HB.out | apply below_alloc | apply pw_below_drewN | apply below_drew1 | refine below_set ?_ GE101.out) | exact HB.out)))); have n1_ := Aside0.mk (blk_below (g := gb101) (o := .cells #[.int .i64 a0_0, .int .i64 a0_1, .int .i64 a0_2, .int .i64 a0_3, .int .i64 a0_4, .int .i64 a0_5, .bool a0_6, .string a0_7, .int .i64 a0_8, .int .i64 a0_9, .int .i64 a0_10, .bool a0_11, .slice A0_12 l0_12.length c0_12, .slice A0_13 l0_13.length c0_13, .slice A0_14 l0_14.length c0_14, .int .i64 a0_15, .int .i64 a0_16] 34 (0, 0)) (by (with_reducible repeat (first | refine blk_drewN ?_ _ | refine blk_drew ?_ | refine blk_alloc ?_ _)); exact BK101.out) hb); have n2_ := Aside0.mk (below_step (by repeat (first | (with_reducible first | exact HB.out | apply below_alloc | apply pw_below_drewN | apply below_drew1 | refine below_set ?_ GE101.out) | exact HB.out)) hb); clear BK101; clear HB; have HO106 := n0_; have BK101 := n1_; have HB := n2_; clear n0_ n1_ n2_; (try clear hb); (try clear hb2); (try clear hk); (try clear hi); (try clear ho0); obtain ⟨Ao10, co10, eo10⟩ := Kd.R_slice HO106.out; subst eo10))
        repeat (go_quiet (first | (go_at_call 20; (refine (QR.icehouseref00_Copy.calls _ _ ([] : List Int) t104 _ ?side1 ?side2 A7.out).mono ?_); (case side1 => exact Kd.C_nil _ _); (case side2 => exact Nat.le_refl _); rintro e w9 ⟨v105, rfl, ho0, hb⟩; have n0_ := Aside0.mk (Kd.R_lower ho0 (below_size (by repeat (first | (with_reducible first | exact HB.out | apply below_alloc | apply pw_below_drewN | apply below_drew1 | refine below_set ?_ GE101.out) | exact HB.out)))); have n1_ := Aside0.mk (blk_below (g := gb101) (o := .cells #[.int .i64 a0_0, .int .i64 a0_1, .int .i64 a0_2, .int .i64 a0_3, .int .i64 a0_4, .int .i64 a0_5, .bool a0_6, .string a0_7, .int .i64 a0_8, .int .i64 a0_9, .int .i64 a0_10, .bool a0_11, .slice A0_12 l0_12.length c0_12, .slice A0_13 l0_13.length c0_13, .slice A0_14 l0_14.length c0_14, .int .i64 a0_15, .int .i64 a0_16] 34 (0, 0)) (by (with_reducible repeat (first | refine blk_drewN ?_ _ | refine blk_drew ?_ | refine blk_alloc ?_ _)); exact BK101.out) hb); have n2_ := Aside0.mk (below_step (by repeat (first | (with_reducible first | exact HB.out | apply below_alloc | apply pw_below_drewN | apply below_drew1 | refine below_set ?_ GE101.out) | exact HB.out)) hb); clear BK101; clear HB; have HO106 := n0_; have BK101 := n1_; have HB := n2_; clear n0_ n1_ n2_; (try clear hb); (try clear hb2); (try clear hk); (try clear hi); (try clear ho0); obtain ⟨Ao10, co10, eo10⟩ := Kd.R_slice HO106.out; subst eo10)); try go_wp2_with (first | (go_at_call 20; (refine (QR.icehouseref00_Copy.calls _ _ ([] : List Int) t104 _ ?side1 ?side2 A7.out).mono ?_); (case side1 => exact Kd.C_nil _ _); (case side2 => exact Nat.le_refl _); rintro e w9 ⟨v105, rfl, ho0, hb⟩; have n0_ := Aside0.mk (Kd.R_lower ho0 (below_size (by repeat (first | (with_reducible first | exact HB.out | apply below_alloc | apply pw_below_drewN | apply below_drew1 | refine below_set ?_ GE101.out) | exact HB.out)))); have n1_ := Aside0.mk (blk_below (g := gb101) (o := .cells #[.int .i64 a0_0, .int .i64 a0_1, .int .i64 a0_2, .int .i64 a0_3, .int .i64 a0_4, .int .i64 a0_5, .bool a0_6, .string a0_7, .int .i64 a0_8, .int .i64 a0_9, .int .i64 a0_10, .bool a0_11, .slice A0_12 l0_12.length c0_12, .slice A0_13 l0_13.length c0_13, .slice A0_14 l0_14.length c0_14, .int .i64 a0_15, .int .i64 a0_16] 34 (0, 0)) (by (with_reducible repeat (first | refine blk_drewN ?_ _ | refine blk_drew ?_ | refine blk_alloc ?_ _)); exact BK101.out) hb); have n2_ := Aside0.mk (below_step (by repeat (first | (with_reducible first | exact HB.out | apply below_alloc | apply pw_below_drewN | apply below_drew1 | refine below_set ?_ GE101.out) | exact HB.out)) hb); clear BK101; clear HB; have HO106 := n0_; have BK101 := n1_; have HB := n2_; clear n0_ n1_ n2_; (try clear hb); (try clear hb2); (try clear hk); (try clear hi); (try clear ho0); obtain ⟨Ao10, co10, eo10⟩ := Kd.R_slice HO106.out; subst eo10)))
        go_ret
        exact ⟨by first | rfl | (simp [errW_none, errW_some] <;> rfl) | (simp [*, errW_none, errW_some] <;> rfl), by repeat (first | (with_reducible first | exact HB.out | apply below_alloc | apply pw_below_drewN | apply below_drew1 | refine below_set ?_ GE101.out) | exact HB.out)⟩
/-! ### icehouselaw12_long: function 10 -/
def icehouselaw12_long.f (k : Nat) (a0_0 : Int) (a0_1 : Int) (a0_2 : Int) (a0_3 : Int) (a0_4 : Int) (a0_5 : Int) (a0_6 : Bool) (a0_7 : ByteArray) (a0_8 : Int) (a0_9 : Int) (a0_10 : Int) (a0_11 : Bool) (l0_12 : List Int) (l0_13 : List (S28)) (l0_14 : List Int) (a0_15 : Int) (a0_16 : Int) : Option (Bool) := (icehouseref12_Long.f k a0_0 a0_1 a0_2 a0_3 a0_4 a0_5 a0_6 a0_7 a0_8 a0_9 a0_10 a0_11 l0_12 l0_13 l0_14 a0_15 a0_16).bind fun t108 => (some (decide (t108 > 1000)))
set_option maxHeartbeats 8000000 in
set_option maxRecDepth 100000 in
theorem icehouselaw12_long.calls (k : Nat) (a0_0 : Int) (a0_1 : Int) (a0_2 : Int) (a0_3 : Int) (a0_4 : Int) (a0_5 : Int) (a0_6 : Bool) (a0_7 : ByteArray) (a0_8 : Int) (a0_9 : Int) (a0_10 : Int) (a0_11 : Bool) (A0_12 : Option Addr) (c0_12 : Nat) (l0_12 : List Int) (A0_13 : Option Addr) (c0_13 : Nat) (l0_13 : List (S28)) (A0_14 : Option Addr) (c0_14 : Nat) (l0_14 : List Int) (a0_15 : Int) (a0_16 : Int) (r : Bool) (w : World) (hr0_12 : Kd.C (Kd.int .u8) w A0_12 l0_12.length l0_12) (hc0_12 : l0_12.length ≤ c0_12) (hr0_13 : Kd.C k28 w A0_13 l0_13.length l0_13) (hc0_13 : l0_13.length ≤ c0_13) (hr0_14 : Kd.C (Kd.int .i64) w A0_14 l0_14.length l0_14) (hc0_14 : l0_14.length ≤ c0_14) (h : icehouselaw12_long.f k a0_0 a0_1 a0_2 a0_3 a0_4 a0_5 a0_6 a0_7 a0_8 a0_9 a0_10 a0_11 l0_12 l0_13 l0_14 a0_15 a0_16 = some r) :
    Calls Tryd.prog 10 #[.agg #[.int .i64 a0_0, .int .i64 a0_1, .int .i64 a0_2, .int .i64 a0_3, .int .i64 a0_4, .int .i64 a0_5, .bool a0_6, .string a0_7, .int .i64 a0_8, .int .i64 a0_9, .int .i64 a0_10, .bool a0_11, .slice A0_12 l0_12.length c0_12, .slice A0_13 l0_13.length c0_13, .slice A0_14 l0_14.length c0_14, .int .i64 a0_15, .int .i64 a0_16]] w fun e w' => e = .returned (.bool r) ∧ Below w.heap.size w w' := by
  have hu34 := Tryd.underlying34
  have HR0_12 := Aside0.mk hr0_12
  have HC0_12 := Aside0.mk hc0_12
  clear hr0_12 hc0_12
  have HR0_13 := Aside0.mk hr0_13
  have HC0_13 := Aside0.mk hc0_13
  clear hr0_13 hc0_13
  have HR0_14 := Aside0.mk hr0_14
  have HC0_14 := Aside0.mk hc0_14
  clear hr0_14 hc0_14
  have HB := Aside0.mk (Below.refl w.heap.size w)
  have H : ((icehouseref12_Long.f k a0_0 a0_1 a0_2 a0_3 a0_4 a0_5 a0_6 a0_7 a0_8 a0_9 a0_10 a0_11 l0_12 l0_13 l0_14 a0_15 a0_16).bind fun t108 => (some (decide (t108 > 1000)))) = some r := h
  clear h
  replace H := Option.bind_eq_some_iff.mp H
  obtain ⟨t108, A20, H⟩ := H
  replace H : (some (decide (t108 > 1000))) = some r := H
  have A2 := Aside0.mk A20
  clear A20
  obtain rfl := Option.some.inj H
  go_enter Tryd.func10, Tryd.ntmps10
  go_wp2_with (first | ((with_reducible refine gate_dst (N := 1) rfl ?_); refine box_event ?hg (N := 1) ?hd (cs := #[.int .i64 a0_0, .int .i64 a0_1, .int .i64 a0_2, .int .i64 a0_3, .int .i64 a0_4, .int .i64 a0_5, .bool a0_6, .string a0_7, .int .i64 a0_8, .int .i64 a0_9, .int .i64 a0_10, .bool a0_11, .slice A0_12 l0_12.length c0_12, .slice A0_13 l0_13.length c0_13, .slice A0_14 l0_14.length c0_14, .int .i64 a0_15, .int .i64 a0_16]) (t := 34) ?hr ?_; (case hd => rfl); (case hg => rfl); (case hr => first | (go_simp; done) | (go_simp; rfl)); intro gb107 hg w3 hbox hb; have n0_ := Aside0.mk (below_step (by repeat (first | (with_reducible first | exact HB.out | apply below_alloc | apply pw_below_drewN | apply below_drew1) | exact HB.out)) hb); have n1_ := Aside0.mk (hbox); have n2_ := Aside0.mk ((by rw [hg]; exact (below_size (by repeat (first | (with_reducible first | exact HB.out | apply below_alloc | apply pw_below_drewN | apply below_drew1) | exact HB.out))) : w.heap.size ≤ gb107)); have n3_ := Aside0.mk ((by rw [hg]; exact (below_size (by repeat (first | (with_reducible first | exact HB.out | apply below_alloc | apply pw_below_drewN | apply below_drew1) | exact HB.out))) : w.heap.size ≤ gb107)); clear HB; have HB := n0_; have BK107 := n1_; have GW107 := n2_; have GE107 := n3_; clear n0_ n1_ n2_ n3_; clear hb hbox hg; have hcz4_0 : w3.cell? ⟨gb107, 0, none⟩ = some (.int .i64 a0_0) := (blk_cell BK107.out 0).trans rfl; have hcz4_1 : w3.cell? ⟨gb107, 1, none⟩ = some (.int .i64 a0_1) := (blk_cell BK107.out 1).trans rfl; have hcz4_2 : w3.cell? ⟨gb107, 2, none⟩ = some (.int .i64 a0_2) := (blk_cell BK107.out 2).trans rfl; have hcz4_3 : w3.cell? ⟨gb107, 3, none⟩ = some (.int .i64 a0_3) := (blk_cell BK107.out 3).trans rfl; have hcz4_4 : w3.cell? ⟨gb107, 4, none⟩ = some (.int .i64 a0_4) := (blk_cell BK107.out 4).trans rfl; have hcz4_5 : w3.cell? ⟨gb107, 5, none⟩ = some (.int .i64 a0_5) := (blk_cell BK107.out 5).trans rfl; have hcz4_6 : w3.cell? ⟨gb107, 6, none⟩ = some (.bool a0_6) := (blk_cell BK107.out 6).trans rfl; have hcz4_7 : w3.cell? ⟨gb107, 7, none⟩ = some (.string a0_7) := (blk_cell BK107.out 7).trans rfl; have hcz4_8 : w3.cell? ⟨gb107, 8, none⟩ = some (.int .i64 a0_8) := (blk_cell BK107.out 8).trans rfl; have hcz4_9 : w3.cell? ⟨gb107, 9, none⟩ = some (.int .i64 a0_9) := (blk_cell BK107.out 9).trans rfl; have hcz4_10 : w3.cell? ⟨gb107, 10, none⟩ = some (.int .i64 a0_10) := (blk_cell BK107.out 10).trans rfl; have hcz4_11 : w3.cell? ⟨gb107, 11, none⟩ = some (.bool a0_11) := (blk_cell BK107.out 11).trans rfl; have hcz4_12 : w3.cell? ⟨gb107, 12, none⟩ = some (.slice A0_12 l0_12.length c0_12) := (blk_cell BK107.out 12).trans rfl; have hcz4_13 : w3.cell? ⟨gb107, 13, none⟩ = some (.slice A0_13 l0_13.length c0_13) := (blk_cell BK107.out 13).trans rfl; have hcz4_14 : w3.cell? ⟨gb107, 14, none⟩ = some (.slice A0_14 l0_14.length c0_14) := (blk_cell BK107.out 14).trans rfl; have hcz4_15 : w3.cell? ⟨gb107, 15, none⟩ = some (.int .i64 a0_15) := (blk_cell BK107.out 15).trans rfl; have hcz4_16 : w3.cell? ⟨gb107, 16, none⟩ = some (.int .i64 a0_16) := (blk_cell BK107.out 16).trans rfl; have hfz4_0 := blk_frozen BK107.out 0; have hfz4_1 := blk_frozen BK107.out 1; have hfz4_2 := blk_frozen BK107.out 2; have hfz4_3 := blk_frozen BK107.out 3; have hfz4_4 := blk_frozen BK107.out 4; have hfz4_5 := blk_frozen BK107.out 5; have hfz4_6 := blk_frozen BK107.out 6; have hfz4_7 := blk_frozen BK107.out 7; have hfz4_8 := blk_frozen BK107.out 8; have hfz4_9 := blk_frozen BK107.out 9; have hfz4_10 := blk_frozen BK107.out 10; have hfz4_11 := blk_frozen BK107.out 11; have hfz4_12 := blk_frozen BK107.out 12; have hfz4_13 := blk_frozen BK107.out 13; have hfz4_14 := blk_frozen BK107.out 14; have hfz4_15 := blk_frozen BK107.out 15; have hfz4_16 := blk_frozen BK107.out 16) | ((with_reducible refine gate_callee (f := 27) rfl ?_); refine goesL_ (some 4) rfl rfl Tryd.func27 (by kernel_rfl) rfl #[.agg #[.int .i64 a0_0, .int .i64 a0_1, .int .i64 a0_2, .int .i64 a0_3, .int .i64 a0_4, .int .i64 a0_5, .bool a0_6, .string a0_7, .int .i64 a0_8, .int .i64 a0_9, .int .i64 a0_10, .bool a0_11, .slice A0_12 l0_12.length c0_12, .slice A0_13 l0_13.length c0_13, .slice A0_14 l0_14.length c0_14, .int .i64 a0_15, .int .i64 a0_16]] rfl (by (try simp only [List.map_toArray, List.map_cons, List.map_nil]); first | done | rfl | (simp only [List.length_drop, List.length_take]; rfl)) ?_; (with_reducible refine (icehouseref12_Long.calls k a0_0 a0_1 a0_2 a0_3 a0_4 a0_5 a0_6 a0_7 a0_8 a0_9 a0_10 a0_11 _ _ l0_12 _ _ l0_13 _ _ l0_14 a0_15 a0_16 t108 _ ?side1 ?side2 ?side3 ?side4 ?side5 ?side6 A2.out).mono ?_); (case side1 => repeat (first | exact (Kd.C_below HR0_12.out HB.out) | (with_reducible refine Kd.C_alloc ?_ _) | (with_reducible refine Kd.C_drewN ?_ _) | (with_reducible refine Kd.C_drew ?_))); (case side2 => exact HC0_12.out); (case side3 => repeat (first | exact (Kd.C_below HR0_13.out HB.out) | (with_reducible refine Kd.C_alloc ?_ _) | (with_reducible refine Kd.C_drewN ?_ _) | (with_reducible refine Kd.C_drew ?_))); (case side4 => exact HC0_13.out); (case side5 => repeat (first | exact (Kd.C_below HR0_14.out HB.out) | (with_reducible refine Kd.C_alloc ?_ _) | (with_reducible refine Kd.C_drewN ?_ _) | (with_reducible refine Kd.C_drew ?_))); (case side6 => exact HC0_14.out); rintro e w5 ⟨rfl, hb⟩; refine ⟨_, rfl, ?_⟩; have n0_ := Aside0.mk (blk_below (g := gb107) (o := .cells #[.int .i64 a0_0, .int .i64 a0_1, .int .i64 a0_2, .int .i64 a0_3, .int .i64 a0_4, .int .i64 a0_5, .bool a0_6, .string a0_7, .int .i64 a0_8, .int .i64 a0_9, .int .i64 a0_10, .bool a0_11, .slice A0_12 l0_12.length c0_12, .slice A0_13 l0_13.length c0_13, .slice A0_14 l0_14.length c0_14, .int .i64 a0_15, .int .i64 a0_16] 34 (0, 0)) (by (with_reducible repeat (first | refine blk_drewN ?_ _ | refine blk_drew ?_ | refine blk_alloc ?_ _)); exact BK107.out) hb); have n1_ := Aside0.mk (below_step (by repeat (first | (with_reducible first | exact HB.out | apply below_alloc | apply pw_below_drewN | apply below_drew1 | refine below_set ?_ GE107.out) | exact HB.out)) hb); clear BK107; clear HB; have BK107 := n0_; have HB := n1_; clear n0_ n1_; (try clear hb); (try clear hb2); (try clear hk); (try clear hi)))
  go_ret
  exact ⟨by first | rfl | (simp [errW_none, errW_some] <;> rfl) | (simp [*, errW_none, errW_some] <;> rfl), by repeat (first | (with_reducible first | exact HB.out | apply below_alloc | apply pw_below_drewN | apply below_drew1 | refine below_set ?_ GE107.out) | exact HB.out)⟩
end Go.Proofs.YthaoiamgkpkcbaaDoor.QL
namespace Go.Proofs.YthaoiamgkpkcbaaDoor.Pk
open Go.ChangeShapes Go.WideShapes Go.ChangeAt Go.RowKit
open Go.Proofs.YthaoiamgkpkcbaaDoor.Hlp Go.Proofs.YthaoiamgkpkcbaaDoor.Wrd Go.Proofs.YthaoiamgkpkcbaaDoorW.PrintWords Go.Proofs.YthaoiamgkpkcbaaDoorW.PrintLast Go.Proofs.YthaoiamgkpkcbaaDoorW.PrintMore
set_option linter.unusedVariables false
set_option linter.unusedSimpArgs false
/-- what a read number takes lies within the bytes -/
theorem peekP_ok {l : List Int} {n k : Int} (h : peekP l = (n, k, 0)) (hb : ∀ x ∈ l, 0 ≤ x ∧ x < 256) : 1 ≤ k ∧ k ≤ 9 ∧ k ≤ l.length := by
  cases l with
  | nil => cases h
  | cons a r =>
    rw [peekP_cons] at h
    split at h
    · cases h
    split at h
    · cases h
    split at h
    · cases h
    · obtain ⟨h1, h2⟩ := hb a List.mem_cons_self
      cases h
      simp only [List.length_cons]
      omega
/-- a reader as it goes on: what is left, what is wrong -/
structure St where
  l : List Int
  e : Int
/-- the reader stands so, and nothing else has been turned -/
def At (w : World) (g : Nat) (ins : Bool) (s : St) (w' : World) : Prop := ∃ b c, Rd w' g b c s.l s.e ins ∧ w.grownBy w' (some g)
theorem At.of {w w' : World} {g : Nat} {ins : Bool} {s : St} {b : Option Addr} {c : Nat} (h : Rd w' g b c s.l s.e ins) (k : w.grownBy w' (some g)) : At w g ins s w' := ⟨b, c, h, k⟩
/-- the slice that is left behind k bytes, whatever room there is -/
theorem adv {w : World} {g bb off c : Nat} {l : List Int} {ins : Bool} {k : Nat} (h : Rd w g (some ⟨bb, off, none⟩) c l 0 ins) (hk : k ≤ l.length) :
    (c = k → At w g ins ⟨l.drop k, 0⟩ (w.setCell ⟨g, 0, none⟩ (.slice (some ⟨bb, off, none⟩) 0 0))) ∧
    (c ≠ k → At w g ins ⟨l.drop k, 0⟩ (w.setCell ⟨g, 0, none⟩ (.slice (some ⟨bb, off + k, none⟩) (l.length - k) (c - k)))) := by
  have hc := h.cap
  constructor
  · intro e
    have hl : l.drop k = [] := List.drop_eq_nil_of_le (by omega)
    rw [hl]
    exact At.of (h.none 0) (upd_set _ _ _ _)
  · intro _
    have := h.rest k hk
    rw [List.length_drop] at this
    exact At.of this (upd_set _ _ _ _)
theorem At.refl {w : World} {g : Nat} {b : Option Addr} {c : Nat} {s : St} {ins : Bool} (h : Rd w g b c s.l s.e ins) : At w g ins s w := ⟨b, c, h, upd_refl w _⟩
def belowS (m : Int) (s : St) : Int × St :=
  if s.e = 0 then (if (peekP s.l).2.2 = 0 then (if 0 ≤ (peekP s.l).1 ∧ (peekP s.l).1 < m then ((peekP s.l).1, ⟨s.l.drop (peekP s.l).2.1.toNat, 0⟩) else (0, ⟨s.l, 11⟩)) else (0, ⟨s.l, (peekP s.l).2.2⟩)) else (0, s)
theorem belowS_dead {m : Int} {s : St} (h : s.e ≠ 0) : belowS m s = (0, s) := by unfold belowS; rw [if_neg h]
theorem belowS_ok {m : Int} {l : List Int} {n k : Int} (h : peekP l = (n, k, 0)) (h1 : 0 ≤ n ∧ n < m) : belowS m ⟨l, 0⟩ = (n, ⟨l.drop k.toNat, 0⟩) := by simp [belowS, h, h1]
theorem belowS_out {m : Int} {l : List Int} {n k : Int} (h : peekP l = (n, k, 0)) (h1 : ¬ (0 ≤ n ∧ n < m)) : belowS m ⟨l, 0⟩ = (0, ⟨l, 11⟩) := by simp [belowS, h, h1]
theorem belowS_bad {m : Int} {l : List Int} {n k x : Int} (h : peekP l = (n, k, x)) (hx : x ≠ 0) : belowS m ⟨l, 0⟩ = (0, ⟨l, x⟩) := by simp [belowS, h, hx]
set_option maxHeartbeats 1000000 in
theorem below_ {w : World} {g : Nat} {b : Option Addr} {c : Nat} {l : List Int} {e : Int} (m : Int) (h : Rd w g b c l e false) :
    Calls Tryd.prog 67 #[.pointer (some ⟨g, 0, none⟩), .int .i64 m] w fun x w' => x = .returned (.int .i64 (belowS m ⟨l, e⟩).1) ∧ At w g false (belowS m ⟨l, e⟩).2 w' := by
  by_cases he : e = 0
  · subst he
    have hd : ((0 : Int) != 0) = false := rfl
    obtain ⟨n, k, x, hp⟩ : ∃ n k x, peekP l = (n, k, x) := ⟨_, _, _, rfl⟩
    have V := Lib.hid (peekV_of hp)
    by_cases hx : x = 0
    · subst hx
      by_cases hin : 0 ≤ n ∧ n < m
      · have hn := belowS_ok hp hin
        obtain ⟨hin1, hin2⟩ := hin
        have t1 : decide (n < 0) = false := decide_eq_false (by omega)
        have t2 : decide (m ≤ n) = false := decide_eq_false (by omega)
        obtain ⟨hk1, hk9, hkl⟩ := peekP_ok hp h.bytes
        have h0 := h.c0
        have f0 := h.f 0
        have hm := h.row.2.1
        obtain ⟨K, rfl⟩ := Int.eq_ofNat_of_zero_le (show 0 ≤ k by omega)
        rw [Int.toNat_natCast] at hn
        rw [hn]
        obtain ⟨bb, off, rfl, hcell⟩ := C_block h.row (by omega)
        have hA := adv h (k := K) (by omega)
        have hcap := h.cap
        have HR := Aside0.mk h
        clear hn hp h hcell hin1 hin2
        by_cases hc : c = K
        · have A1 := Aside0.mk (hA.1 hc)
          subst hc
          clear hA
          go_enter Tryd.func67, Tryd.ntmps67
          go_wp2_with (first | (go_at_call 77; (with_reducible refine (dead_ HR.out).mono ?_); rintro e w' ⟨rfl, rfl⟩) | (go_at_call 78; (with_reducible refine (peek_ HR.out).mono ?_); rw [V.out]; rintro e w' ⟨rfl, rfl⟩) | (go_at_call 79; (with_reducible refine (fail_ HR.out _).mono ?_); rintro e w' ⟨rfl, rfl⟩))
          go_ret
          exact ⟨rfl, A1.out⟩
        · have A1 := Aside0.mk (hA.2 hc)
          have hc2 : (c == K) = false := beq_eq_false_iff_ne.2 hc
          clear hA
          go_enter Tryd.func67, Tryd.ntmps67
          go_wp2_with (first | (go_at_call 77; (with_reducible refine (dead_ HR.out).mono ?_); rintro e w' ⟨rfl, rfl⟩) | (go_at_call 78; (with_reducible refine (peek_ HR.out).mono ?_); rw [V.out]; rintro e w' ⟨rfl, rfl⟩) | (go_at_call 79; (with_reducible refine (fail_ HR.out _).mono ?_); rintro e w' ⟨rfl, rfl⟩))
          go_ret
          exact ⟨rfl, A1.out⟩
      · rw [belowS_out hp hin]
        have HR := Aside0.mk h
        have A1 := Aside0.mk (At.of (ins := false) (s := ⟨l, 11⟩) (h.wrong 11) (upd_set _ _ _ _))
        by_cases hn : n < 0
        · have t1 := decide_eq_true hn
          clear hp h hin hn
          go_enter Tryd.func67, Tryd.ntmps67
          go_wp2_with (first | (go_at_call 77; (with_reducible refine (dead_ HR.out).mono ?_); rintro e w' ⟨rfl, rfl⟩) | (go_at_call 78; (with_reducible refine (peek_ HR.out).mono ?_); rw [V.out]; rintro e w' ⟨rfl, rfl⟩) | (go_at_call 79; (with_reducible refine (fail_ HR.out _).mono ?_); rintro e w' ⟨rfl, rfl⟩))
          go_ret
          exact ⟨rfl, A1.out⟩
        · have t1 := decide_eq_false hn
          have t2 : decide (m ≤ n) = true := decide_eq_true (by omega)
          clear hp h hin hn
          go_enter Tryd.func67, Tryd.ntmps67
          go_wp2_with (first | (go_at_call 77; (with_reducible refine (dead_ HR.out).mono ?_); rintro e w' ⟨rfl, rfl⟩) | (go_at_call 78; (with_reducible refine (peek_ HR.out).mono ?_); rw [V.out]; rintro e w' ⟨rfl, rfl⟩) | (go_at_call 79; (with_reducible refine (fail_ HR.out _).mono ?_); rintro e w' ⟨rfl, rfl⟩))
          go_ret
          exact ⟨rfl, A1.out⟩
    · rw [belowS_bad hp hx]
      have hx2 : (x != 0) = true := bne_iff_ne.2 hx
      have hx3 : (x == 0) = false := beq_eq_false_iff_ne.2 hx
      have HR := Aside0.mk h
      have A1 := Aside0.mk (At.of (ins := false) (s := ⟨l, x⟩) (h.wrong x) (upd_set _ _ _ _))
      clear hp h hx
      go_enter Tryd.func67, Tryd.ntmps67
      go_wp2_with (first | (go_at_call 77; (with_reducible refine (dead_ HR.out).mono ?_); rintro e w' ⟨rfl, rfl⟩) | (go_at_call 78; (with_reducible refine (peek_ HR.out).mono ?_); rw [V.out]; rintro e w' ⟨rfl, rfl⟩) | (go_at_call 79; (with_reducible refine (fail_ HR.out _).mono ?_); rintro e w' ⟨rfl, rfl⟩))
      go_ret
      exact ⟨rfl, A1.out⟩
  · rw [belowS_dead he]
    have he2 : (e != 0) = true := bne_iff_ne.2 he
    have HR := Aside0.mk h
    have A1 := Aside0.mk (At.refl (s := ⟨l, e⟩) h)
    clear h he
    go_enter Tryd.func67, Tryd.ntmps67
    go_wp2_with (go_at_call 77; (with_reducible refine (dead_ HR.out).mono ?_); rintro e w' ⟨rfl, rfl⟩)
    go_ret
    exact ⟨rfl, A1.out⟩
def truthS (s : St) : Bool × St :=
  if s.e = 0 then (match s.l with | [] => (false, ⟨s.l, 12⟩) | x :: r => if 1 < x then (false, ⟨s.l, 11⟩) else (x == 1, ⟨r, 0⟩)) else (false, s)
set_option maxHeartbeats 1000000 in
theorem truth_ {w : World} {g : Nat} {b : Option Addr} {c : Nat} {l : List Int} {e : Int} (h : Rd w g b c l e false) :
    Calls Tryd.prog 69 #[.pointer (some ⟨g, 0, none⟩)] w fun x w' => x = .returned (.bool (truthS ⟨l, e⟩).1) ∧ At w g false (truthS ⟨l, e⟩).2 w' := by
  by_cases he : e = 0
  · subst he
    have hd : ((0 : Int) != 0) = false := rfl
    have h0 := h.c0
    cases l with
    | nil =>
      rw [show truthS ⟨[], 0⟩ = (false, ⟨[], 12⟩) from rfl]
      have HR := Aside0.mk h
      have A1 := Aside0.mk (At.of (ins := false) (s := ⟨[], 12⟩) (h.wrong 12) (upd_set _ _ _ _))
      clear h
      go_enter Tryd.func69, Tryd.ntmps69
      go_wp2_with (first | (go_at_call 77; (with_reducible refine (dead_ HR.out).mono ?_); rintro e w' ⟨rfl, rfl⟩) | (go_at_call 79; (with_reducible refine (fail_ HR.out _).mono ?_); rintro e w' ⟨rfl, rfl⟩))
      go_ret
      exact ⟨rfl, A1.out⟩
    | cons x r =>
      obtain ⟨bb, off, rfl, hcell⟩ := C_block h.row (by simp)
      have hc0 := hcell 0 (by simp)
      rw [List.getElem_cons_zero, Nat.add_zero] at hc0
      obtain ⟨hx0, hx1⟩ := h.bytes x List.mem_cons_self
      have hm := h.row.2.1
      have hcap := h.cap
      have f0 := h.f 0
      have hA := adv h (k := 1) (by simp)
      have HR := Aside0.mk h
      by_cases hx : 1 < x
      · rw [show truthS ⟨x :: r, 0⟩ = (false, ⟨x :: r, 11⟩) by simp [truthS, hx]]
        have A1 := Aside0.mk (At.of (ins := false) (s := ⟨x :: r, 11⟩) (h.wrong 11) (upd_set _ _ _ _))
        have t := decide_eq_true hx
        simp only [List.length_cons] at h0 hm hcap
        clear h hA hcell hx
        go_enter Tryd.func69, Tryd.ntmps69
        go_wp2_with (first | (go_at_call 77; (with_reducible refine (dead_ HR.out).mono ?_); rintro e w' ⟨rfl, rfl⟩) | (go_at_call 79; (with_reducible refine (fail_ HR.out _).mono ?_); rintro e w' ⟨rfl, rfl⟩))
        go_ret
        exact ⟨rfl, A1.out⟩
      · rw [show truthS ⟨x :: r, 0⟩ = (x == 1, ⟨r, 0⟩) by simp [truthS, hx]]
        have t := decide_eq_false hx
        simp only [List.length_cons, List.drop_succ_cons, List.drop_zero, Nat.add_sub_cancel] at h0 hm hcap hA
        clear h hcell hx
        by_cases hc : c = 1
        · have A1 := Aside0.mk (hA.1 hc)
          subst hc
          clear hA
          go_enter Tryd.func69, Tryd.ntmps69
          go_wp2_with (first | (go_at_call 77; (with_reducible refine (dead_ HR.out).mono ?_); rintro e w' ⟨rfl, rfl⟩) | (go_at_call 79; (with_reducible refine (fail_ HR.out _).mono ?_); rintro e w' ⟨rfl, rfl⟩))
          go_ret
          exact ⟨rfl, A1.out⟩
        · have A1 := Aside0.mk (hA.2 hc)
          have hc2 : (c == 1) = false := beq_eq_false_iff_ne.2 hc
          clear hA
          go_enter Tryd.func69, Tryd.ntmps69
          go_wp2_with (first | (go_at_call 77; (with_reducible refine (dead_ HR.out).mono ?_); rintro e w' ⟨rfl, rfl⟩) | (go_at_call 79; (with_reducible refine (fail_ HR.out _).mono ?_); rintro e w' ⟨rfl, rfl⟩))
          go_ret
          exact ⟨rfl, A1.out⟩
  · rw [show truthS ⟨l, e⟩ = (false, ⟨l, e⟩) by simp [truthS, he]]
    have he2 : (e != 0) = true := bne_iff_ne.2 he
    have HR := Aside0.mk h
    have A1 := Aside0.mk (At.refl (s := ⟨l, e⟩) h)
    clear h he
    go_enter Tryd.func69, Tryd.ntmps69
    go_wp2_with (go_at_call 77; (with_reducible refine (dead_ HR.out).mono ?_); rintro e w' ⟨rfl, rfl⟩)
    go_ret
    exact ⟨rfl, A1.out⟩
def failS (s : St) : St := if s.e = 0 then ⟨s.l, 11⟩ else s
theorem markWrong_ {w : World} {g : Nat} {b : Option Addr} {c : Nat} {l : List Int} {e : Int} (h : Rd w g b c l e false) :
    Calls Tryd.prog 68 #[.pointer (some ⟨g, 0, none⟩)] w fun x w' => x = .returned (.tuple #[]) ∧ At w g false (failS ⟨l, e⟩) w' := by
  have HR := Aside0.mk h
  by_cases he : e = 0
  · subst he
    rw [show failS ⟨l, 0⟩ = ⟨l, 11⟩ from rfl]
    have hd : ((0 : Int) != 0) = false := rfl
    have A1 := Aside0.mk (At.of (ins := false) (s := ⟨l, 11⟩) (h.wrong 11) (upd_set _ _ _ _))
    clear h
    go_enter Tryd.func68, Tryd.ntmps68
    go_wp2_with (first | (go_at_call 77; (with_reducible refine (dead_ HR.out).mono ?_); rintro e w' ⟨rfl, rfl⟩) | (go_at_call 79; (with_reducible refine (fail_ HR.out _).mono ?_); rintro e w' ⟨rfl, rfl⟩))
    go_end0
    exact ⟨rfl, A1.out⟩
  · rw [show failS ⟨l, e⟩ = ⟨l, e⟩ by simp [failS, he]]
    have he2 : (e != 0) = true := bne_iff_ne.2 he
    have A1 := Aside0.mk (At.refl (s := ⟨l, e⟩) h)
    clear h he
    go_enter Tryd.func68, Tryd.ntmps68
    go_wp2_with (go_at_call 77; (with_reducible refine (dead_ HR.out).mono ?_); rintro e w' ⟨rfl, rfl⟩)
    go_end0
    exact ⟨rfl, A1.out⟩
end Go.Proofs.YthaoiamgkpkcbaaDoor.Pk
