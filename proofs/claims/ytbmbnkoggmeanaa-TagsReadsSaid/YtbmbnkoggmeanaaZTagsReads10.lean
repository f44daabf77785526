/- An entry that lies in a block of its own: its cells, and the six stores that lay one. Conditions: none. -/
import Derived.Test.YtbmbnkoggmeanaaZTagsReads9
namespace Go.Proofs.Ytbmbnkoggmeanaa.Tg
open Go.ChangeShapes Go.WideShapes Go.ChangeAt Go.RowKit Go.Proofs.Ytbmbnkoggmeanaa.Pk
open Go.Proofs.Ytbmbnkoggmeanaa.Hlp Go.Proofs.Ytbmbnkoggmeanaa.Wrd Go.Proofs.YtbmbnkoggmeanaaW.PrintWords Go.Proofs.YtbmbnkoggmeanaaW.PrintLast Go.Proofs.YtbmbnkoggmeanaaW.PrintMore
set_option linter.unusedVariables false
set_option linter.unusedSimpArgs false
section
variable {w W : World} {g B : Nat} {k k' : ByteArray} {a b c a' b' c' : Int} {h h' : Bool} {A A' : Option Addr} {n m n' m' : Nat}
theorem en_cells (hb : w.heap[g]? = some (.cells #[.string k, .int .i64 a, .int .i64 b, .int .i64 c, .bool h, .slice A n m] 40 (0, 0))) :
    w.cell? ⟨g, 0, none⟩ = some (.string k) ∧ w.cell? ⟨g, 1, none⟩ = some (.int .i64 a) ∧ w.cell? ⟨g, 2, none⟩ = some (.int .i64 b) ∧ w.cell? ⟨g, 3, none⟩ = some (.int .i64 c) ∧ w.cell? ⟨g, 4, none⟩ = some (.bool h) ∧ w.cell? ⟨g, 5, none⟩ = some (.slice A n m) :=
  ⟨(blk_cell hb 0).trans rfl, (blk_cell hb 1).trans rfl, (blk_cell hb 2).trans rfl, (blk_cell hb 3).trans rfl, (blk_cell hb 4).trans rfl, (blk_cell hb 5).trans rfl⟩
theorem en_free {cs : Array Value} {T : Nat} (hb : w.heap[g]? = some (.cells cs T (0, 0))) :
    w.frozen? ⟨g, 0, none⟩ = false ∧ w.frozen? ⟨g, 1, none⟩ = false ∧ w.frozen? ⟨g, 2, none⟩ = false ∧ w.frozen? ⟨g, 3, none⟩ = false ∧ w.frozen? ⟨g, 4, none⟩ = false ∧ w.frozen? ⟨g, 5, none⟩ = false :=
  ⟨blk_frozen hb 0, blk_frozen hb 1, blk_frozen hb 2, blk_frozen hb 3, blk_frozen hb 4, blk_frozen hb 5⟩
/-- an entry laid into a block, field by field -/
abbrev put6 (w : World) (g : Nat) (k : ByteArray) (a b c : Int) (h : Bool) (v : Value) : World :=
  (((((w.setCell ⟨g, 0, none⟩ (.string k)).setCell ⟨g, 1, none⟩ (.int .i64 a)).setCell ⟨g, 2, none⟩ (.int .i64 b)).setCell ⟨g, 3, none⟩ (.int .i64 c)).setCell ⟨g, 4, none⟩ (.bool h)).setCell ⟨g, 5, none⟩ v
theorem put6_blk {v : Value} (hb : w.heap[g]? = some (.cells #[.string k, .int .i64 a, .int .i64 b, .int .i64 c, .bool h, .slice A n m] 40 (0, 0))) :
    (put6 w g k' a' b' c' h' v).heap[g]? = some (.cells #[.string k', .int .i64 a', .int .i64 b', .int .i64 c', .bool h', v] 40 (0, 0)) :=
  blk_set (blk_set (blk_set (blk_set (blk_set (blk_set hb 0 (.string k')) 1 (.int .i64 a')) 2 (.int .i64 b')) 3 (.int .i64 c')) 4 (.bool h')) 5 v
theorem put6_below {v : Value} (hb : Below W.heap.size W w) (hg : W.heap.size ≤ g) : Below W.heap.size W (put6 w g k a b c h v) :=
  below_set (below_set (below_set (below_set (below_set (below_set hb hg) hg) hg) hg) hg) hg
theorem put6_R {α : Type} {d : Kd α} {e : Nat} {v u : Value} {xs : List α} (hr : d.R e w B (fun _ => True) u xs) (hg : g < B) : d.R e (put6 w g k a b c h v) B (fun _ => True) u xs :=
  R_farg (R_farg (R_farg (R_farg (R_farg (R_farg hr hg _ _) hg _ _) hg _ _) hg _ _) hg _ _) hg _ _
theorem put6_far {v : Value} {q : Nat} (hq : q ≠ g) : (put6 w g k a b c h v).heap[q]? = w.heap[q]? := by
  unfold put6
  rw [Below.heap_setCell _ _ _ q (by intro x; exact hq x), Below.heap_setCell _ _ _ q (by intro x; exact hq x), Below.heap_setCell _ _ _ q (by intro x; exact hq x), Below.heap_setCell _ _ _ q (by intro x; exact hq x), Below.heap_setCell _ _ _ q (by intro x; exact hq x), Below.heap_setCell _ _ _ q (by intro x; exact hq x)]
theorem put6_ret {fn : Func} {p : Tmp} (hf : fn.results = #[.cell p 40]) (tmps : Array Value) (hp : tmps.getD p undef = .pointer (some ⟨g, 0, none⟩)) (hb : w.heap[g]? = some (.cells #[.string k, .int .i64 a, .int .i64 b, .int .i64 c, .bool h, .slice A n m] 40 (0, 0))) :
    (results fn tmps).run Try.prog w = .ok (.agg #[.string k, .int .i64 a, .int .i64 b, .int .i64 c, .bool h, .slice A n m]) w :=
  results_cell_row hf tmps w g 40 _ (0, 0) _ hp hb Try.underlying40 rfl (by kernel_rfl)
end
theorem size1 (w : World) (o : Obj) : (w.alloc o).heap.size = w.heap.size + 1 := Array.size_push ..
/-- two blocks, just made -/
theorem two_blks (w : World) (o o' : Obj) : ((w.alloc o).alloc o').heap[w.heap.size]? = some o ∧ ((w.alloc o).alloc o').heap[w.heap.size + 1]? = some o' := by
  refine ⟨blk_alloc (blk_new w o) o', ?_⟩
  have := blk_new (w.alloc o) o'
  rw [size1] at this; exact this
theorem three_blks (w : World) (o o' o'' : Obj) : (((w.alloc o).alloc o').alloc o'').heap[w.heap.size]? = some o ∧ (((w.alloc o).alloc o').alloc o'').heap[w.heap.size + 1]? = some o' ∧ (((w.alloc o).alloc o').alloc o'').heap[w.heap.size + 1 + 1]? = some o'' := by
  obtain ⟨h1, h2⟩ := two_blks w o o'
  refine ⟨blk_alloc h1 o'', blk_alloc h2 o'', ?_⟩
  have := blk_new ((w.alloc o).alloc o') o''
  rw [size1, size1] at this; exact this
theorem below_allocs {W w : World} (h : Below W.heap.size W w) (o o' : Obj) : Below W.heap.size W ((w.alloc o).alloc o') := below_alloc (below_alloc h o) o'
end Go.Proofs.Ytbmbnkoggmeanaa.Tg
