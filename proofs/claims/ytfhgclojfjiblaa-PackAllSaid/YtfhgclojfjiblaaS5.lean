/- The contract of pack.Nums. Conditions: bytes that fit in memory. -/
import Derived.Test.YtfhgclojfjiblaaS4
namespace Go.Proofs.Ytfhgclojfjiblaa.Pk
open Go.ChangeShapes Go.WideShapes Go.ChangeAt Go.RowKit
open Go.Proofs.Ytfhgclojfjiblaa.Hlp Go.Proofs.Ytfhgclojfjiblaa.Wrd Go.Proofs.YtfhgclojfjiblaaW.PrintWords Go.Proofs.YtfhgclojfjiblaaW.PrintLast Go.Proofs.YtfhgclojfjiblaaW.PrintMore
set_option linter.unusedVariables false
set_option linter.unusedSimpArgs false
def NumsAll (w : World) (l : List Int) (x : Ending) (w' : World) : Prop :=
  (∃ v d, x = .returned (.tuple #[v, .int .i64 (numsS l).2]) ∧ ((numsS l).2 = 0 → (∃ B, v = .slice B (numsS l).1.length d) ∧ Kd.R (Kd.int .i64) 3 w' w.heap.size (fun _ => True) v (numsS l).1) ∧ ((numsS l).2 ≠ 0 → v = .slice none 0 0)) ∧ Below w.heap.size w w'
set_option maxHeartbeats 1000000 in
theorem nums_ {w : World} {n c : Nat} {A : Option Addr} {l : List Int} (hr : Kd.C (Kd.int .u8) w A n l) (hc : n ≤ c) (hb : ∀ x ∈ l, 0 ≤ x ∧ x < 256) (hl : n ≤ 17592186044415) :
    Calls Try.prog 26 #[.slice A n c] w (NumsAll w l) := by
  obtain rfl : l.length = n := hr.1
  have hmf : ∀ (fn : Fn) (first cap : Array Value) (w : World), (Instr.makeFunc fn first cap).run Try.prog w = .ok (.func fn first cap) w := fun _ _ _ _ => rfl
  have HR := Aside0.mk (Kd.C_alloc hr (.cells #[.slice none 0 0] 44))
  have HO := Aside0.mk (blk_new w (.cells #[.slice none 0 0] 44))
  have HBt := Aside0.mk hb
  have HB := Aside0.mk (below_alloc (Below.refl w.heap.size w) (.cells #[.slice none 0 0] 44))
  clear hr hb
  go_enter Try.func26, Try.ntmps26
  go_upto_region 2 with fail
  generalize w.alloc (.cells #[.slice none 0 0] 44) = W at *
  have hsz := blk_lt HO.out
  go_wp2_with fail
  (with_reducible refine (readNums_ HR.out hc HBt.out HO.out hl).mono ?_)
  rintro x w1 ⟨rfl, hok, hK⟩
  have HBf : Below w.heap.size w w1 := ⟨hK.os.trans HB.out.os, hK.tape.trans HB.out.tape, hK.output.trans HB.out.output, Nat.le_trans HB.out.size hK.size, fun k hk => (hK.block k (by omega) (by omega) (by omega)).trans (HB.out.block k hk)⟩
  by_cases h0 : (numsS l).2 = 0
  · obtain ⟨B, d, hB, hR⟩ := hok h0
    have hB2 := (blk_cell hB 0).trans (show _ = some (Value.slice B (numsS l).1.length d) from rfl)
    have hR2 := Aside0.mk (Kd.R_lower hR (Nat.le_of_lt hsz))
    clear hok hK hB hR
    rw [h0]
    go_wp2_with fail
    go_ret2
    exact ⟨⟨_, d, by rw [h0]; rfl, fun _ => ⟨⟨B, rfl⟩, hR2.out⟩, fun h => absurd h0 h⟩, HBf⟩
  · have h1 : ((numsS l).2 != 0) = true := bne_iff_ne.2 h0
    clear hok hK
    go_wp2_with fail
    go_ret2
    exact ⟨⟨_, 0, rfl, fun h => absurd h h0, fun _ => rfl⟩, HBf⟩
end Go.Proofs.Ytfhgclojfjiblaa.Pk
