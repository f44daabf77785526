/- The contract of pack.Nums. Conditions: bytes that fit in memory. · Written by a program of this session over the kit's print: functions and their contracts. -/
import Derived.Test.YtfhgclojfjiblaaZPackBack9
import Derived.Test.YtfhgclojfjiblaaProg
import Derived.Below
import Derived.Deep.Draws
import Derived.Deep.AppendLies
import Derived.Maps.AppendAt
import Derived.OwnWalk
import Derived.Laws.BytesArg
import Derived.Laws.MakeOwn
import Derived.Laws.OwnMore
import Derived.Deep.OwnRows
import Derived.Tactics
import Derived.Lib.ConvBytes
import Derived.Laws.Slices
import Derived.WalkKit
import Derived.KernelRfl
import Derived.RowKit3
import Derived.Deep.LoopGhost
import Derived.Deep.QuietTactic
import Derived.BigQuiet
import Derived.WideLaws
import Derived.Deep.DeepCutAuto
import Derived.Deep.CutBlock
import Derived.Deep.RegionHeld3
import Derived.Laws.Rows
import Derived.Lib.AppendStr
import Derived.ArgAppend
import Derived.Laws.IdiomCopy
import Derived.OrdersHeld
import Derived.Laws.BitsLemmas
import Derived.RowKit
import Derived.Test.YtfhgclojfjiblaaWWords
import Derived.Test.YtfhgclojfjiblaaWLast
import Derived.Test.YtfhgclojfjiblaaWTab
import Derived.Test.YtfhgclojfjiblaaWFour
import Derived.Test.YtfhgclojfjiblaaWQPut
import Derived.Test.YtfhgclojfjiblaaWApart
import Derived.Test.YtfhgclojfjiblaaWArr
import Derived.Test.YtfhgclojfjiblaaWZeros
import Derived.Test.YtfhgclojfjiblaaWFoot
import Derived.Test.YtfhgclojfjiblaaWKept
import Derived.Test.YtfhgclojfjiblaaWShare
import Derived.Test.YtfhgclojfjiblaaWN
import Derived.Test.YtfhgclojfjiblaaWFootNe
import Derived.Test.YtfhgclojfjiblaaWAt
import Derived.Test.YtfhgclojfjiblaaWEqStruct
import Derived.Test.YtfhgclojfjiblaaWRepsOne
import Derived.Test.YtfhgclojfjiblaaWInv
import Derived.Test.YtfhgclojfjiblaaWInvWords
import Derived.Test.YtfhgclojfjiblaaWGuard
import Derived.Test.YtfhgclojfjiblaaWNEv
import Derived.Test.YtfhgclojfjiblaaWMore
namespace Go.Proofs.Ytfhgclojfjiblaa.Pk
open Go.ChangeShapes Go.WideShapes Go.ChangeAt Go.RowKit
open Go.Proofs.Ytfhgclojfjiblaa.Hlp Go.Proofs.Ytfhgclojfjiblaa.Wrd Go.Proofs.YtfhgclojfjiblaaW.PrintWords Go.Proofs.YtfhgclojfjiblaaW.PrintLast Go.Proofs.YtfhgclojfjiblaaW.PrintMore
set_option linter.unusedVariables false
set_option linter.unusedSimpArgs false
def NumsAll (w : World) (l : List Int) (x : Ending) (w' : World) : Prop :=
  (∃ v d, x = .returned (.tuple #[v, .int .i64 (numsS l).2]) ∧ ((numsS l).2 = 0 → (∃ B, v = .slice B (numsS l).1.length d) ∧ Kd.R (Kd.int .i64) 3 w' w.heap.size (fun _ => True) v (numsS l).1) ∧ ((numsS l).2 ≠ 0 → v = .slice none 0 0)) ∧ Below w.heap.size w w'
set_option maxHeartbeats 1000000 in
theorem nums_ {w : World} {n c : Nat} {A : Option Addr} {l : List Int} (hr : Kd.C (Kd.int .u8) w A n l) (hc : n ≤ c) (hb : ∀ x ∈ l, 0 ≤ x ∧ x < 256) (hl : n ≤ 17592186044415) :
    Calls Try.prog 26 #[.slice A n c] w (NumsAll w l) := by
  obtain rfl : l.length = n := hr.1
  have hmf : ∀ (fn : Fn) (first cap : Array Value) (w : World), (Instr.makeFunc fn first cap).run Try.prog w = .ok (.func fn first cap) w := fun _ _ _ _ => rfl
  have HR := Aside0.mk (Kd.C_alloc hr (.cells #[.slice none 0 0] 44))
  have HO := Aside0.mk (blk_new w (.cells #[.slice none 0 0] 44))
  have HBt := Aside0.mk hb
  have HB := Aside0.mk (below_alloc (Below.refl w.heap.size w) (.cells #[.slice none 0 0] 44))
  clear hr hb
  go_enter Try.func26, Try.ntmps26
  go_upto_region 2 with fail
  generalize w.alloc (.cells #[.slice none 0 0] 44) = W at *
  have hsz := blk_lt HO.out
  go_wp2_with fail
  (with_reducible refine (readNums_ HR.out hc HBt.out HO.out hl).mono ?_)
  rintro x w1 ⟨rfl, hok, hK⟩
  have HBf : Below w.heap.size w w1 := ⟨hK.os.trans HB.out.os, hK.tape.trans HB.out.tape, hK.output.trans HB.out.output, Nat.le_trans HB.out.size hK.size, fun k hk => (hK.block k (by omega) (by omega) (by omega)).trans (HB.out.block k hk)⟩
  by_cases h0 : (numsS l).2 = 0
  · obtain ⟨B, d, hB, hR⟩ := hok h0
    have hB2 := (blk_cell hB 0).trans (show _ = some (Value.slice B (numsS l).1.length d) from rfl)
    have hR2 := Aside0.mk (Kd.R_lower hR (Nat.le_of_lt hsz))
    clear hok hK hB hR
    rw [h0]
    go_wp2_with fail
    go_ret2
    exact ⟨⟨_, d, by rw [h0]; rfl, fun _ => ⟨⟨B, rfl⟩, hR2.out⟩, fun h => absurd h0 h⟩, HBf⟩
  · have h1 : ((numsS l).2 != 0) = true := bne_iff_ne.2 h0
    clear hok hK
    go_wp2_with fail
    go_ret2
    exact ⟨⟨_, 0, rfl, fun h => absurd h h0, fun _ => rfl⟩, HBf⟩
end Go.Proofs.Ytfhgclojfjiblaa.Pk

namespace Go.Proofs.Ytfhgclojfjiblaa.QR
open Go.RowKit Go.Proofs.YtfhgclojfjiblaaW.PrintWords Go.Proofs.YtfhgclojfjiblaaW.PrintLast Go.Proofs.YtfhgclojfjiblaaW.PrintMore
attribute [local go_sem] max2_int min2_int max_two min_two max_three min_three max_four min_four   -- for this text's walks alone
set_option linter.unusedVariables false
set_option linter.unusedSimpArgs false



def errW : Option Int → Value
  | none => .nilIface
  | some c => .iface 0 (.int .i64 c)
theorem errW_none : errW none = .nilIface := rfl
theorem errW_some (c : Int) : errW (some c) = .iface 0 (.int .i64 c) := rfl

theorem info3 : (Try.prog.info? 3).map (fun i => (i.zero, i.size, i.bytes)) = some (some (.int .i64 0), 1, 8) := by kernel_rfl
theorem info5 : (Try.prog.info? 5).map (fun i => (i.zero, i.size, i.bytes)) = some (some (.int .u8 0), 1, 1) := by kernel_rfl
-- the values' own types
def rd_L2 (xs : List (List Int)) (i : Int) : (List Int) := xs.getD i.toNat ([] : List Int)
theorem at_L2 {w : World} {A : Option Addr} {n : Nat} {xs : List (List Int)} (h : Kd.C (Kd.slice 5 (Kd.int .u8)) w A n xs) (i : Int) (h0 : 0 ≤ i) (h1 : i < n) : ∃ ad A0 c0, A = some ad ∧ w.cell? (ad.add i.toNat) = some (.slice A0 (rd_L2 xs i).length c0) ∧ (rd_L2 xs i).length ≤ c0 ∧ (Kd.int .u8).C w A0 (rd_L2 xs i).length (rd_L2 xs i) := by
  obtain ⟨ad, c, e, _, hK, hc0⟩ := Kd.C_get h ([] : List Int) i h0 h1
  have hc : ∀ j u, c[j]? = some u → w.cell? (ad.add (i.toNat * 1 + j)) = some u := hc0
  obtain ⟨A0, c0, rfl, l0, g0⟩ := hK
  exact ⟨ad, A0, c0, e, by have hq := hc 0 _ rfl; rwa [Nat.mul_one, Nat.add_zero] at hq, l0, g0⟩

end Go.Proofs.Ytfhgclojfjiblaa.QR
