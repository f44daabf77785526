/- An entry that lies in a block of its own: its cells, and the six stores that lay one. Conditions: none. · The contracts of tags.Copy, tags.Newer and the reference's Newer. Conditions: bytes that fit in memory. · How tags stand, plain: by their numbers, one behind the other. And what holds from some count of rounds on. -/
import Derived.Test.YthaoiamgkpkcbaaDoorZMsgsTwice7
namespace Go.Proofs.YthaoiamgkpkcbaaDoor.Tg
open Go.ChangeShapes Go.WideShapes Go.ChangeAt Go.RowKit Go.Proofs.YthaoiamgkpkcbaaDoor.Pk
open Go.Proofs.YthaoiamgkpkcbaaDoor.Hlp Go.Proofs.YthaoiamgkpkcbaaDoor.Wrd Go.Proofs.YthaoiamgkpkcbaaDoorW.PrintWords Go.Proofs.YthaoiamgkpkcbaaDoorW.PrintLast Go.Proofs.YthaoiamgkpkcbaaDoorW.PrintMore
set_option linter.unusedVariables false
set_option linter.unusedSimpArgs false
section
variable {w W : World} {g B : Nat} {k k' : ByteArray} {a b c a' b' c' : Int} {h h' : Bool} {A A' : Option Addr} {n m n' m' : Nat}
theorem en_cells (hb : w.heap[g]? = some (.cells #[.string k, .int .i64 a, .int .i64 b, .int .i64 c, .bool h, .slice A n m] 28 (0, 0))) :
    w.cell? ⟨g, 0, none⟩ = some (.string k) ∧ w.cell? ⟨g, 1, none⟩ = some (.int .i64 a) ∧ w.cell? ⟨g, 2, none⟩ = some (.int .i64 b) ∧ w.cell? ⟨g, 3, none⟩ = some (.int .i64 c) ∧ w.cell? ⟨g, 4, none⟩ = some (.bool h) ∧ w.cell? ⟨g, 5, none⟩ = some (.slice A n m) :=
  ⟨(blk_cell hb 0).trans rfl, (blk_cell hb 1).trans rfl, (blk_cell hb 2).trans rfl, (blk_cell hb 3).trans rfl, (blk_cell hb 4).trans rfl, (blk_cell hb 5).trans rfl⟩
theorem en_free {cs : Array Value} {T : Nat} (hb : w.heap[g]? = some (.cells cs T (0, 0))) :
    w.frozen? ⟨g, 0, none⟩ = false ∧ w.frozen? ⟨g, 1, none⟩ = false ∧ w.frozen? ⟨g, 2, none⟩ = false ∧ w.frozen? ⟨g, 3, none⟩ = false ∧ w.frozen? ⟨g, 4, none⟩ = false ∧ w.frozen? ⟨g, 5, none⟩ = false :=
  ⟨blk_frozen hb 0, blk_frozen hb 1, blk_frozen hb 2, blk_frozen hb 3, blk_frozen hb 4, blk_frozen hb 5⟩
/-- an entry laid into a block, field by field -/
abbrev put6 (w : World) (g : Nat) (k : ByteArray) (a b c : Int) (h : Bool) (v : Value) : World :=
  (((((w.setCell ⟨g, 0, none⟩ (.string k)).setCell ⟨g, 1, none⟩ (.int .i64 a)).setCell ⟨g, 2, none⟩ (.int .i64 b)).setCell ⟨g, 3, none⟩ (.int .i64 c)).setCell ⟨g, 4, none⟩ (.bool h)).setCell ⟨g, 5, none⟩ v
theorem put6_blk {v : Value} (hb : w.heap[g]? = some (.cells #[.string k, .int .i64 a, .int .i64 b, .int .i64 c, .bool h, .slice A n m] 28 (0, 0))) :
    (put6 w g k' a' b' c' h' v).heap[g]? = some (.cells #[.string k', .int .i64 a', .int .i64 b', .int .i64 c', .bool h', v] 28 (0, 0)) :=
  blk_set (blk_set (blk_set (blk_set (blk_set (blk_set hb 0 (.string k')) 1 (.int .i64 a')) 2 (.int .i64 b')) 3 (.int .i64 c')) 4 (.bool h')) 5 v
theorem put6_below {v : Value} (hb : Below W.heap.size W w) (hg : W.heap.size ≤ g) : Below W.heap.size W (put6 w g k a b c h v) :=
  below_set (below_set (below_set (below_set (below_set (below_set hb hg) hg) hg) hg) hg) hg
theorem put6_R {α : Type} {d : Kd α} {e : Nat} {v u : Value} {xs : List α} (hr : d.R e w B (fun _ => True) u xs) (hg : g < B) : d.R e (put6 w g k a b c h v) B (fun _ => True) u xs :=
  R_farg (R_farg (R_farg (R_farg (R_farg (R_farg hr hg _ _) hg _ _) hg _ _) hg _ _) hg _ _) hg _ _
theorem put6_far {v : Value} {q : Nat} (hq : q ≠ g) : (put6 w g k a b c h v).heap[q]? = w.heap[q]? := by
  unfold put6
  rw [Below.heap_setCell _ _ _ q (by intro x; exact hq x), Below.heap_setCell _ _ _ q (by intro x; exact hq x), Below.heap_setCell _ _ _ q (by intro x; exact hq x), Below.heap_setCell _ _ _ q (by intro x; exact hq x), Below.heap_setCell _ _ _ q (by intro x; exact hq x), Below.heap_setCell _ _ _ q (by intro x; exact hq x)]
theorem put6_ret {fn : Func} {p : Tmp} (hf : fn.results = #[.cell p 28]) (tmps : Array Value) (hp : tmps.getD p undef = .pointer (some ⟨g, 0, none⟩)) (hb : w.heap[g]? = some (.cells #[.string k, .int .i64 a, .int .i64 b, .int .i64 c, .bool h, .slice A n m] 28 (0, 0))) :
    (results fn tmps).run Tryd.prog w = .ok (.agg #[.string k, .int .i64 a, .int .i64 b, .int .i64 c, .bool h, .slice A n m]) w :=
  results_cell_row hf tmps w g 28 _ (0, 0) _ hp hb Tryd.underlying28 rfl (by kernel_rfl)
end
theorem size1 (w : World) (o : Obj) : (w.alloc o).heap.size = w.heap.size + 1 := Array.size_push ..
/-- two blocks, just made -/
theorem two_blks (w : World) (o o' : Obj) : ((w.alloc o).alloc o').heap[w.heap.size]? = some o ∧ ((w.alloc o).alloc o').heap[w.heap.size + 1]? = some o' := by
  refine ⟨blk_alloc (blk_new w o) o', ?_⟩
  have := blk_new (w.alloc o) o'
  rw [size1] at this; exact this
theorem three_blks (w : World) (o o' o'' : Obj) : (((w.alloc o).alloc o').alloc o'').heap[w.heap.size]? = some o ∧ (((w.alloc o).alloc o').alloc o'').heap[w.heap.size + 1]? = some o' ∧ (((w.alloc o).alloc o').alloc o'').heap[w.heap.size + 1 + 1]? = some o'' := by
  obtain ⟨h1, h2⟩ := two_blks w o o'
  refine ⟨blk_alloc h1 o'', blk_alloc h2 o'', ?_⟩
  have := blk_new ((w.alloc o).alloc o') o''
  rw [size1, size1] at this; exact this
theorem below_allocs {W w : World} (h : Below W.heap.size W w) (o o' : Obj) : Below W.heap.size W ((w.alloc o).alloc o') := below_alloc (below_alloc h o) o'
end Go.Proofs.YthaoiamgkpkcbaaDoor.Tg

namespace Go.Proofs.YthaoiamgkpkcbaaDoor.Tg
open Go.ChangeShapes Go.WideShapes Go.ChangeAt Go.RowKit Go.Proofs.YthaoiamgkpkcbaaDoor.Pk
open Go.Proofs.YthaoiamgkpkcbaaDoor.Hlp Go.Proofs.YthaoiamgkpkcbaaDoor.Wrd Go.Proofs.YthaoiamgkpkcbaaDoorW.PrintWords Go.Proofs.YthaoiamgkpkcbaaDoorW.PrintLast Go.Proofs.YthaoiamgkpkcbaaDoorW.PrintMore
set_option linter.unusedVariables false
set_option linter.unusedSimpArgs false
/-- what Copy tells: the same entry, its bytes in a row of the call's own -/
def CopyPost (w : World) (k : ByteArray) (a b c : Int) (h : Bool) (v : List Int) (x : Ending) (w' : World) : Prop :=
  ∃ A2 c2, x = .returned (.agg #[.string k, .int .i64 a, .int .i64 b, .int .i64 c, .bool h, .slice A2 v.length c2]) ∧ Kd.R (Kd.int .u8) 5 w' w.heap.size (fun _ => True) (.slice A2 v.length c2) v ∧ Below w.heap.size w w'
set_option maxHeartbeats 2000000 in
set_option maxRecDepth 100000 in
theorem copy_ {w : World} {A : Option Addr} {n c' : Nat} {v : List Int} (k : ByteArray) (a b c : Int) (h : Bool) (hr : Kd.C (Kd.int .u8) w A n v) (hc : n ≤ c') (hl : n ≤ 140737488351232) :
    Calls Tryd.prog 57 #[.agg #[.string k, .int .i64 a, .int .i64 b, .int .i64 c, .bool h, .slice A n c']] w (CopyPost w k a b c h v) := by
  obtain rfl : v.length = n := hr.1
  have hu40 := Tryd.underlying28
  have hu23 := Tryd.underlying23
  have hu38 := Tryd.underlying26
  have HR := Aside0.mk (Kd.C_alloc (Kd.C_alloc hr (.cells #[.string k, .int .i64 a, .int .i64 b, .int .i64 c, .bool h, .slice A v.length c'] 28)) (.cells zEn 28))
  have HB := Aside0.mk (below_allocs (Below.refl w.heap.size w) (.cells #[.string k, .int .i64 a, .int .i64 b, .int .i64 c, .bool h, .slice A v.length c'] 28) (.cells zEn 28))
  obtain ⟨bE, bN⟩ := two_blks w (.cells #[.string k, .int .i64 a, .int .i64 b, .int .i64 c, .bool h, .slice A v.length c'] 28) (.cells zEn 28)
  have bE := Aside0.mk bE
  have bN := Aside0.mk bN
  clear hr
  go_enter Tryd.func57, Tryd.ntmps57
  go_upto_region 1 with fail
  generalize (w.alloc (.cells #[.string k, .int .i64 a, .int .i64 b, .int .i64 c, .bool h, .slice A v.length c'] 28)).alloc (.cells zEn 28) = W at *
  obtain ⟨e0, e1, e2, e3, e4, e5⟩ := en_cells bE.out
  have hS := Aside0.mk (blk_lt bN.out)
  go_wp2_with ((with_reducible refine gate_builtin (b := .append) rfl ?_); at_builtin; refine Kd.R_append_rows (Kd.int .u8) (w0 := W) W.heap.size rfl _ _ 24 5 (.int .u8 0) 1 rfl Tryd.underlying24 info8 rfl (by decide) (by omega) (.slice none 0 0) [] v _ _ _ (fun _ => True) (fun _ => False) rfl rfl (Kd.R_nil _ _ _ _ _) HR.out (fun _ _ h => h) (fun _ h => h.elim) (fun _ _ => trivial) (Below.refl _ _) (Nat.le_refl _) (by simp; omega) ?_; intro v1 w1 ho hb1 hg hat; rw [List.nil_append] at ho; obtain ⟨A1, c1, rfl⟩ := Kd.R_slice ho; have HO := Aside0.mk ho; have HB1 := Aside0.mk (below_then HB.out HB.out.size hb1); have bE1 := Aside0.mk (blk_below bE.out hb1); have bN1 := Aside0.mk (blk_below bN.out hb1); clear ho hb1 hg hat e0 e1 e2 e3 e4 e5; obtain ⟨e0, e1, e2, e3, e4, e5⟩ := en_cells bE1.out; obtain ⟨f0, f1, f2, f3, f4, f5⟩ := en_free bE1.out; obtain ⟨n0, n1, n2, n3, n4, n5⟩ := en_cells bN1.out; obtain ⟨m0, m1, m2, m3, m4, m5⟩ := en_free bN1.out)
  have bE2 := blk_set bE1.out 5 (.slice A1 v.length c1)
  have bN2 : (w1.setCell ⟨w.heap.size, 5, none⟩ (.slice A1 v.length c1)).heap[w.heap.size + 1]? = _ := (Below.heap_setCell w1 _ _ _ (by simp)).trans bN1.out
  have bN3 := put6_blk (k' := k) (a' := a) (b' := b) (c' := c) (h' := h) (v := .slice A1 v.length c1) bN2
  have hlt := hS.out
  refine bodyPost_ret (put6_ret rfl _ rfl bN3) rfl ?_
  exact ⟨A1, c1, rfl, Kd.R_lower (put6_R (R_farg HO.out (Nat.lt_of_succ_lt hlt) _ _) hlt) HB.out.size, put6_below (below_set HB1.out (Nat.le_refl _)) (Nat.le_succ _)⟩
end Go.Proofs.YthaoiamgkpkcbaaDoor.Tg

namespace Go.Proofs.YthaoiamgkpkcbaaDoor.Lex
def cmp1 (a b : Int) : Int := if a < b then -1 else if a > b then 1 else 0
def cmpV (a0 a1 a2 b0 b1 b2 : Int) : Int := if cmp1 a0 b0 ≠ 0 then cmp1 a0 b0 else if cmp1 a1 b1 ≠ 0 then cmp1 a1 b1 else cmp1 a2 b2
theorem cmpV_ge {a0 a1 a2 b0 b1 b2 : Int} : cmpV a0 a1 a2 b0 b1 b2 ≥ 0 ↔ (a0 > b0 ∨ a0 = b0 ∧ (a1 > b1 ∨ a1 = b1 ∧ a2 ≥ b2)) := by
  unfold cmpV cmp1
  repeat' split
  all_goals omega
theorem cmpV_gt {a0 a1 a2 b0 b1 b2 : Int} : cmpV a0 a1 a2 b0 b1 b2 > 0 ↔ (a0 > b0 ∨ a0 = b0 ∧ (a1 > b1 ∨ a1 = b1 ∧ a2 > b2)) := by
  unfold cmpV cmp1
  repeat' split
  all_goals omega
theorem cmpV_zero {a0 a1 a2 b0 b1 b2 : Int} : cmpV a0 a1 a2 b0 b1 b2 = 0 ↔ (a0 = b0 ∧ a1 = b1 ∧ a2 = b2) := by
  unfold cmpV cmp1
  repeat' split
  all_goals omega
theorem cmpV_neg (a0 a1 a2 b0 b1 b2 : Int) : cmpV a0 a1 a2 b0 b1 b2 = - cmpV b0 b1 b2 a0 a1 a2 := by
  unfold cmpV cmp1
  repeat' split
  all_goals omega
/-- from some count of rounds on -/
def Since {α : Type} (f : Nat → Option α) (r : α) : Prop := ∃ K, ∀ k, K ≤ k → f k = some r
theorem Since.one {α β : Type} {f : Nat → Option α} {r : α} {F : Nat → Option β} {q : β} (h : Since f r) (hF : ∀ k, f k = some r → F (k + 1) = some q) : Since F q := by
  obtain ⟨K, h⟩ := h
  refine ⟨K + 1, fun k hk => ?_⟩
  obtain ⟨k, rfl⟩ : ∃ j, k = j + 1 := ⟨k - 1, by omega⟩
  exact hF k (h k (by omega))
theorem Since.two {α α' β : Type} {f : Nat → Option α} {r : α} {g : Nat → Option α'} {r' : α'} {F : Nat → Option β} {q : β} (h : Since f r) (h' : Since g r') (hF : ∀ k, f k = some r → g k = some r' → F (k + 1) = some q) : Since F q := by
  obtain ⟨K, h⟩ := h
  obtain ⟨K', h'⟩ := h'
  refine ⟨K + K' + 1, fun k hk => ?_⟩
  obtain ⟨k, rfl⟩ : ∃ j, k = j + 1 := ⟨k - 1, by omega⟩
  exact hF k (h k (by omega)) (h' k (by omega))
theorem Since.none {β : Type} {F : Nat → Option β} {q : β} (hF : ∀ k, F (k + 1) = some q) : Since F q := by
  refine ⟨1, fun k hk => ?_⟩
  obtain ⟨k, rfl⟩ : ∃ j, k = j + 1 := ⟨k - 1, by omega⟩
  exact hF k
theorem Since.map {α β : Type} {f : Nat → Option α} {r : α} {F : Nat → Option β} {q : β} (h : Since f r) (hF : ∀ k, f k = some r → F k = some q) : Since F q := by
  obtain ⟨K, h⟩ := h
  exact ⟨K, fun k hk => hF k (h k hk)⟩
theorem Since.and {α α' β : Type} {f : Nat → Option α} {r : α} {g : Nat → Option α'} {r' : α'} {F : Nat → Option β} {q : β} (h : Since f r) (h' : Since g r') (hF : ∀ k, f k = some r → g k = some r' → F k = some q) : Since F q := by
  obtain ⟨K, h⟩ := h
  obtain ⟨K', h'⟩ := h'
  exact ⟨K + K', fun k hk => hF k (h k (by omega)) (h' k (by omega))⟩
end Go.Proofs.YthaoiamgkpkcbaaDoor.Lex
