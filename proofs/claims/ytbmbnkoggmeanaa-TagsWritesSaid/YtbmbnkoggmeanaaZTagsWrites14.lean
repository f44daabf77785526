/- The contracts of tags.Copy, tags.Newer and the reference's Newer. Conditions: bytes that fit in memory. -/
import Derived.Test.YtbmbnkoggmeanaaZTagsWrites13
namespace Go.Proofs.Ytbmbnkoggmeanaa.Tg
open Go.ChangeShapes Go.WideShapes Go.ChangeAt Go.RowKit Go.Proofs.Ytbmbnkoggmeanaa.Pk
open Go.Proofs.Ytbmbnkoggmeanaa.Hlp Go.Proofs.Ytbmbnkoggmeanaa.Wrd Go.Proofs.YtbmbnkoggmeanaaW.PrintWords Go.Proofs.YtbmbnkoggmeanaaW.PrintLast Go.Proofs.YtbmbnkoggmeanaaW.PrintMore
set_option linter.unusedVariables false
set_option linter.unusedSimpArgs false
/-- what Copy tells: the same entry, its bytes in a row of the call's own -/
def CopyPost (w : World) (k : ByteArray) (a b c : Int) (h : Bool) (v : List Int) (x : Ending) (w' : World) : Prop :=
  ∃ A2 c2, x = .returned (.agg #[.string k, .int .i64 a, .int .i64 b, .int .i64 c, .bool h, .slice A2 v.length c2]) ∧ Kd.R (Kd.int .u8) 5 w' w.heap.size (fun _ => True) (.slice A2 v.length c2) v ∧ Below w.heap.size w w'
set_option maxHeartbeats 2000000 in
set_option maxRecDepth 100000 in
theorem copy_ {w : World} {A : Option Addr} {n c' : Nat} {v : List Int} (k : ByteArray) (a b c : Int) (h : Bool) (hr : Kd.C (Kd.int .u8) w A n v) (hc : n ≤ c') (hl : n ≤ 140737488351232) :
    Calls Try.prog 36 #[.agg #[.string k, .int .i64 a, .int .i64 b, .int .i64 c, .bool h, .slice A n c']] w (CopyPost w k a b c h v) := by
  obtain rfl : v.length = n := hr.1
  have hu40 := Try.underlying40
  have hu23 := Try.underlying23
  have hu38 := Try.underlying38
  have HR := Aside0.mk (Kd.C_alloc (Kd.C_alloc hr (.cells #[.string k, .int .i64 a, .int .i64 b, .int .i64 c, .bool h, .slice A v.length c'] 40)) (.cells zEn 40))
  have HB := Aside0.mk (below_allocs (Below.refl w.heap.size w) (.cells #[.string k, .int .i64 a, .int .i64 b, .int .i64 c, .bool h, .slice A v.length c'] 40) (.cells zEn 40))
  obtain ⟨bE, bN⟩ := two_blks w (.cells #[.string k, .int .i64 a, .int .i64 b, .int .i64 c, .bool h, .slice A v.length c'] 40) (.cells zEn 40)
  have bE := Aside0.mk bE
  have bN := Aside0.mk bN
  clear hr
  go_enter Try.func36, Try.ntmps36
  go_upto_region 1 with fail
  generalize (w.alloc (.cells #[.string k, .int .i64 a, .int .i64 b, .int .i64 c, .bool h, .slice A v.length c'] 40)).alloc (.cells zEn 40) = W at *
  obtain ⟨e0, e1, e2, e3, e4, e5⟩ := en_cells bE.out
  have hS := Aside0.mk (blk_lt bN.out)
  go_wp2_with ((with_reducible refine gate_builtin (b := .append) rfl ?_); at_builtin; refine Kd.R_append_rows (Kd.int .u8) (w0 := W) W.heap.size rfl _ _ 36 5 (.int .u8 0) 1 rfl Try.underlying36 info8 rfl (by decide) (by omega) (.slice none 0 0) [] v _ _ _ (fun _ => True) (fun _ => False) rfl rfl (Kd.R_nil _ _ _ _ _) HR.out (fun _ _ h => h) (fun _ h => h.elim) (fun _ _ => trivial) (Below.refl _ _) (Nat.le_refl _) (by simp; omega) ?_; intro v1 w1 ho hb1 hg hat; rw [List.nil_append] at ho; obtain ⟨A1, c1, rfl⟩ := Kd.R_slice ho; have HO := Aside0.mk ho; have HB1 := Aside0.mk (below_then HB.out HB.out.size hb1); have bE1 := Aside0.mk (blk_below bE.out hb1); have bN1 := Aside0.mk (blk_below bN.out hb1); clear ho hb1 hg hat e0 e1 e2 e3 e4 e5; obtain ⟨e0, e1, e2, e3, e4, e5⟩ := en_cells bE1.out; obtain ⟨f0, f1, f2, f3, f4, f5⟩ := en_free bE1.out; obtain ⟨n0, n1, n2, n3, n4, n5⟩ := en_cells bN1.out; obtain ⟨m0, m1, m2, m3, m4, m5⟩ := en_free bN1.out)
  have bE2 := blk_set bE1.out 5 (.slice A1 v.length c1)
  have bN2 : (w1.setCell ⟨w.heap.size, 5, none⟩ (.slice A1 v.length c1)).heap[w.heap.size + 1]? = _ := (Below.heap_setCell w1 _ _ _ (by simp)).trans bN1.out
  have bN3 := put6_blk (k' := k) (a' := a) (b' := b) (c' := c) (h' := h) (v := .slice A1 v.length c1) bN2
  have hlt := hS.out
  refine bodyPost_ret (put6_ret rfl _ rfl bN3) rfl ?_
  exact ⟨A1, c1, rfl, Kd.R_lower (put6_R (R_farg HO.out (Nat.lt_of_succ_lt hlt) _ _) hlt) HB.out.size, put6_below (below_set HB1.out (Nat.le_refl _)) (Nat.le_succ _)⟩
end Go.Proofs.Ytbmbnkoggmeanaa.Tg
