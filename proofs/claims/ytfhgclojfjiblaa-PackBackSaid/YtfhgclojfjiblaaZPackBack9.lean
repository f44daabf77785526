/- The contracts of read over the closure of Nums, and of pack.Nums. Conditions: bytes that fit in memory. -/
import Derived.Test.YtfhgclojfjiblaaZPackBack8
namespace Go.Proofs.Ytfhgclojfjiblaa.Pk
open Go.ChangeShapes Go.WideShapes Go.ChangeAt Go.RowKit
open Go.Proofs.Ytfhgclojfjiblaa.Hlp Go.Proofs.Ytfhgclojfjiblaa.Wrd Go.Proofs.YtfhgclojfjiblaaW.PrintWords Go.Proofs.YtfhgclojfjiblaaW.PrintLast Go.Proofs.YtfhgclojfjiblaaW.PrintMore
set_option linter.unusedVariables false
set_option linter.unusedSimpArgs false
/-- a reader is inside of read from now on -/
theorem rd_enter {w : World} {g : Nat} {b : Option Addr} {c : Nat} {l : List Int} {e : Int} {ins : Bool} (h : Rd w g b c l e ins) : Rd (w.setCell ⟨g, 2, none⟩ (.bool true)) g b c l e true where
  blk := by rw [blk_set h.blk]; rfl
  row := C_set h.row h.noByte
  cap := h.cap
  bytes := h.bytes
def ReadNums (w : World) (o : Nat) (l : List Int) (x : Ending) (w' : World) : Prop :=
  x = .returned (.int .i64 (numsS l).2) ∧ ((numsS l).2 = 0 → ∃ B d, w'.heap[o]? = some (.cells #[.slice B (numsS l).1.length d] 44 (0, 0)) ∧ Kd.R (Kd.int .i64) 3 w' w.heap.size (fun _ => True) (.slice B (numsS l).1.length d) (numsS l).1) ∧ Kp w w' w.heap.size o o
set_option maxHeartbeats 4000000 in
set_option maxRecDepth 100000 in
theorem readNums_ {w : World} {o n c : Nat} {A : Option Addr} {l : List Int} (hr : Kd.C (Kd.int .u8) w A n l) (hc : n ≤ c) (hb : ∀ x ∈ l, 0 ≤ x ∧ x < 256) (ho : w.heap[o]? = some (.cells #[.slice none 0 0] 44 (0, 0))) (hl : n ≤ 17592186044415) :
    Calls Try.prog 35 #[.slice A n c, .func (.func 36) #[] #[.pointer (some ⟨o, 0, none⟩)]] w (ReadNums w o l) := by
  obtain rfl : l.length = n := hr.1
  have hmf : ∀ (fn : Fn) (first cap : Array Value) (w : World), (Instr.makeFunc fn first cap).run Try.prog w = .ok (.func fn first cap) w := fun _ _ _ _ => rfl
  have HR := Aside0.mk (Kd.C_alloc hr (.cells #[.int .i64 0] 24))
  have HO := Aside0.mk (blk_alloc ho (.cells #[.int .i64 0] 24))
  have HE := Aside0.mk (blk_new w (.cells #[.int .i64 0] 24))
  have hol := blk_lt ho
  have HBt := Aside0.mk hb
  have HB := Aside0.mk (below_alloc (Below.refl w.heap.size w) (.cells #[.int .i64 0] 24))
  clear hr hb ho
  go_enter_defers Try.func35, Try.ntmps35
  go_upto_region 1 with fail
  generalize w.alloc (.cells #[.int .i64 0] 24) = W at *
  go_wp2_with fail
  (with_reducible refine (new_ HR.out hc HBt.out (by omega)).mono ?_)
  rintro x w1 ⟨g, b1, c1, rfl, hrd, hb1, hg1, hg2⟩
  have HRd := Aside0.mk hrd
  have HRe := Aside0.mk (rd_enter hrd)
  have HO1 := Aside0.mk (blk_below HO.out hb1)
  have HE1 := Aside0.mk (blk_below HE.out hb1)
  have hel := blk_lt HE.out
  have hoW := blk_lt HO.out
  have hgo : g ≠ o := by omega
  have hge : g ≠ w.heap.size := by omega
  have HK1 : Aside0 (Kp w w1 w.heap.size o o) := ⟨⟨(below_then HB.out HB.out.size hb1).os, (below_then HB.out HB.out.size hb1).tape, (below_then HB.out HB.out.size hb1).output, (below_then HB.out HB.out.size hb1).size, fun k hk _ _ => (below_then HB.out HB.out.size hb1).block k hk⟩⟩
  have g2 := HRd.out.c2
  have f2 := HRd.out.f 2
  have hgw : w.heap.size ≤ g := by omega
  clear hrd hb1 hg1
  go_wp2_with fail
  have HO2 : Aside0 ((w1.setCell ⟨g, 2, none⟩ (.bool true)).heap[o]? = some (.cells #[.slice none 0 0] 44 (0, 0))) := ⟨(Below.heap_setCell w1 _ _ o (fun x => hgo (Eq.symm x))).trans HO1.out⟩
  have HE2 : Aside0 ((w1.setCell ⟨g, 2, none⟩ (.bool true)).heap[w.heap.size]? = some (.cells #[.int .i64 0] 24 (0, 0))) := ⟨(Below.heap_setCell w1 _ _ _ (fun x => hge (Eq.symm x))).trans HE1.out⟩
  have HK2 : Aside0 (Kp w (w1.setCell ⟨g, 2, none⟩ (.bool true)) w.heap.size o o) := ⟨HK1.out.grown (Nat.le_refl _) (upd_set w1 g 2 _) (fun q hq => by injection hq with hq; exact .inr (.inr (by omega)))⟩
  have hsz : w.heap.size < (w1.setCell ⟨g, 2, none⟩ (.bool true)).heap.size := blk_lt HE2.out
  clear HO1 HE1 HK1 HRd g2 f2
  generalize w1.setCell ⟨g, 2, none⟩ (.bool true) = w2 at *
  (with_reducible refine (nums1_ HRe.out HO2.out hgo hl).mono ?_)
  by_cases h0 : (numsS l).2 = 0
  · have H0 := Lib.hid h0
    rintro e w3 ⟨hok, _, hK⟩
    obtain ⟨rfl, ⟨B, d, hB, hR⟩, b3, c3, hrd⟩ := hok h0
    have HRd := Aside0.mk hrd
    have HBo := Aside0.mk hB
    have HRo := Aside0.mk hR
    have hsz3 := hK.size
    have HE3 : Aside0 (w3.heap[w.heap.size]? = some (.cells #[.int .i64 0] 24 (0, 0))) := ⟨(hK.block _ hsz (fun x => hge (Eq.symm x)) (by omega)).trans HE2.out⟩
    have HK3 : Aside0 (Kp w w3 w.heap.size o o) := ⟨⟨hK.os.trans HK2.out.os, hK.tape.trans HK2.out.tape, hK.output.trans HK2.out.output, Nat.le_trans HK2.out.size hK.size, fun k hk h1 h2 => (hK.block k (by omega) (by omega) h1).trans (HK2.out.block k hk h1 h2)⟩⟩
    have ec := (blk_cell HE3.out 0).trans (show _ = some (Value.int .i64 0) from rfl)
    have ef := blk_frozen HE3.out 0
    clear hok hK hB hR hrd h0
    go_wp2_with fail
    (with_reducible refine (end_ HRd.out).mono ?_)
    rw [show endP [] 0 = 0 from rfl]
    rintro e w' ⟨rfl, rfl⟩
    go_wp2_with fail
    have HE4 := blk_set HE3.out 0 (.int .i64 0)
    have hce := (blk_cell HE4 0).trans (show _ = some (Value.int .i64 0) from rfl)
    have HRf : Kd.R (Kd.int .i64) 3 (w3.setCell ⟨w.heap.size, 0, none⟩ (.int .i64 0)) w2.heap.size (fun _ => True) (.slice B (numsS l).1.length d) (numsS l).1 := R_farg HRo.out hsz 0 _
    have HOf : (w3.setCell ⟨w.heap.size, 0, none⟩ (.int .i64 0)).heap[o]? = _ := (Below.heap_setCell w3 _ _ o (fun x => by simp at x; omega)).trans HBo.out
    have HKf := HK3.out.grown (Nat.le_refl _) (upd_set w3 w.heap.size 0 (.int .i64 0)) (fun q hq => by injection hq with hq; exact .inr (.inr (by omega)))
    refine leaves_cons (f := 39) (args := #[.pointer (some ⟨w.heap.size, 0, none⟩)]) (by simp) (by simp [go_sem]) ?_
    refine (catch_idle ⟨w.heap.size, 0, none⟩ _).mono ?_
    rintro e u' w'' ⟨rfl, rfl, rfl⟩
    generalize w3.setCell ⟨w.heap.size, 0, none⟩ (.int .i64 0) = w4 at *
    refine ⟨.int .i64 0, ?_, ?_⟩
    · simp [results, Try.results35, go_sem, hce]
    · exact ⟨by rw [H0.out], fun _ => ⟨B, d, HOf, Kd.R_lower HRf (by omega)⟩, HKf⟩
  · rintro e w3 ⟨_, hbad, hK⟩
    obtain rfl := hbad h0
    have hsz3 := hK.size
    have HE3 : Aside0 (w3.heap[w.heap.size]? = some (.cells #[.int .i64 0] 24 (0, 0))) := ⟨(hK.block _ hsz (fun x => hge (Eq.symm x)) (by omega)).trans HE2.out⟩
    have HK3 : Aside0 (Kp w w3 w.heap.size o o) := ⟨⟨hK.os.trans HK2.out.os, hK.tape.trans HK2.out.tape, hK.output.trans HK2.out.output, Nat.le_trans HK2.out.size hK.size, fun k hk h1 h2 => (hK.block k (by omega) (by omega) h1).trans (HK2.out.block k hk h1 h2)⟩⟩
    clear hbad hK
    refine leaves_cons (f := 39) (args := #[.pointer (some ⟨w.heap.size, 0, none⟩)]) (by simp) (by simp [go_sem]) ?_
    refine (catch_pan w.heap.size 0 (numsS l).2 w3 HE3.out).mono ?_
    rintro e u' w'' ⟨rfl, rfl, rfl⟩
    have hz3 := blk_lt HE3.out
    have HE4 := blk_set (blk_alloc HE3.out (.cells #[.int .i64 (numsS l).2] 72)) 0 (.int .i64 (numsS l).2)
    have hce := (blk_cell HE4 0).trans (show _ = some (Value.int .i64 (numsS l).2) from rfl)
    have HKf := (HK3.out.grown (Nat.le_refl _) (World.grownBy_alloc w3 (.cells #[.int .i64 (numsS l).2] 72) none) (fun q hq => by cases hq)).grown (Nat.le_refl _) (upd_set _ w.heap.size 0 (.int .i64 (numsS l).2)) (fun q hq => by injection hq with hq; exact .inr (.inr (by omega)))
    generalize (w3.alloc (.cells #[.int .i64 (numsS l).2] 72)).setCell ⟨w.heap.size, 0, none⟩ (.int .i64 (numsS l).2) = w4 at *
    refine ⟨.int .i64 (numsS l).2, ?_, ?_⟩
    · simp [results, Try.results35, go_sem, hce]
    · exact ⟨rfl, fun h => absurd h h0, HKf⟩
end Go.Proofs.Ytfhgclojfjiblaa.Pk
