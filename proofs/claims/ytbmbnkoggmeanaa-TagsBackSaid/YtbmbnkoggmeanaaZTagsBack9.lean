/- The contract of tags.Read. Conditions: bytes that fit in memory. · An entry that lies in a block of its own: its cells, and the six stores that lay one. Conditions: none. -/
import Derived.Test.YtbmbnkoggmeanaaZTagsBack8
import Derived.Laws.ResultCell
namespace Go.Proofs.Ytbmbnkoggmeanaa.Tg
open Go.ChangeShapes Go.WideShapes Go.ChangeAt Go.RowKit Go.Proofs.Ytbmbnkoggmeanaa.Pk
open Go.Proofs.Ytbmbnkoggmeanaa.Hlp Go.Proofs.Ytbmbnkoggmeanaa.Wrd Go.Proofs.YtbmbnkoggmeanaaW.PrintWords Go.Proofs.YtbmbnkoggmeanaaW.PrintLast Go.Proofs.YtbmbnkoggmeanaaW.PrintMore
set_option linter.unusedVariables false
set_option linter.unusedSimpArgs false
theorem results_row_tmp {fn : Func} {p u : Tmp} {ty : TypeId} (h : fn.results = #[.cell p ty, .tmp u]) (tmps : Array Value) (w : World) (g : Nat) (cs : Array Value)
    (hp : tmps.getD p undef = .pointer (some ⟨g, 0, none⟩)) (hload : (loadVar ty ⟨g, 0, none⟩).run Try.prog w = .ok (.agg cs) w) :
    (results fn tmps).run Try.prog w = .ok (.tuple #[.agg cs, tmps.getD u undef]) w := by
  rw [results_cell_tmp h, hp]
  show ((loadVar ty ⟨g, 0, none⟩).run Try.prog w).andThen _ = _
  rw [hload]
  rfl
/-- the entry that was read, and what is wrong -/
def readP (l : List Int) : En × Int :=
  if endP (getS ⟨l, 0⟩).2.l (getS ⟨l, 0⟩).2.e = 0 then ((getS ⟨l, 0⟩).1, 0) else (En.zero, endP (getS ⟨l, 0⟩).2.l (getS ⟨l, 0⟩).2.e)
def ReadPost (w : World) (r : En × Int) (x : Ending) (w' : World) : Prop :=
  ∃ A c, x = .returned (.tuple #[.agg #[.string (strOfNums r.1.k), .int .i64 r.1.a, .int .i64 r.1.b, .int .i64 r.1.c, .bool r.1.h, .slice A r.1.v.length c], .int .i64 r.2]) ∧ Kd.R (Kd.int .u8) 5 w' w.heap.size (fun _ => True) (.slice A r.1.v.length c) r.1.v ∧ Below w.heap.size w w'
set_option maxHeartbeats 4000000 in
set_option maxRecDepth 100000 in
theorem read_ {w : World} {A : Option Addr} {n c : Nat} {l : List Int} (hr : Kd.C (Kd.int .u8) w A n l) (hc : n ≤ c) (hb : ∀ x ∈ l, 0 ≤ x ∧ x < 256) (hl : n ≤ 140737488351232) :
    Calls Try.prog 20 #[.slice A n c] w (ReadPost w (readP l)) := by
  have hu40 := Try.underlying40
  have hu23 := Try.underlying23
  have hu38 := Try.underlying38
  have HR := Aside0.mk hr
  have hll : l.length ≤ 140737488351232 := by rw [hr.1]; exact hl
  clear hr
  go_enter Try.func20, Try.ntmps20
  go_wp2_with fail
  (with_reducible refine (new_c (Kd.C_alloc HR.out _) hc hb hl).mono ?_)
  rintro x w1 ⟨g, b1, c1, rfl, hrd, hb1, hg1, hg2⟩
  have bN := Aside0.mk (blk_below (blk_new w (.cells zEn 40)) hb1)
  have HB := Aside0.mk (below_step (below_alloc (Below.refl w.heap.size w) (.cells zEn 40)) hb1)
  have gN : w.heap.size < g := by simp at hg1; omega
  have gS : w.heap.size < w1.heap.size := by omega
  have GN := Aside0.mk gN
  have GS := Aside0.mk gS
  clear HR hb1 hg1 gN gS hl hc hb
  go_wp2_with fail
  (with_reducible refine (get_ hrd hll).mono ?_)
  obtain ⟨⟨en, s⟩, hs⟩ : ∃ r, getS ⟨l, 0⟩ = r := ⟨_, rfl⟩
  have HS := Aside0.mk hs
  rw [hs]
  rintro x w2 ⟨A2, c2, rfl, ho, b2, c2', hrd2, hgr⟩
  simp only at ho hrd2
  have bN := Aside0.mk (blk_grown bN.out hgr (by intro x; injection x with x; have := GN.out; omega))
  have HB := Aside0.mk (pw_below_grown HB.out _ (Nat.le_of_lt GS.out) hgr (by intro k hk; injection hk with hk; have := GN.out; omega))
  have HO := Aside0.mk ho
  have gS2 := Aside0.mk (Nat.lt_of_lt_of_le GS.out hgr.size)
  clear hgr ho hs hrd hll
  have bE := Aside0.mk (blk_new w2 (.cells #[.string (strOfNums en.k), .int .i64 en.a, .int .i64 en.b, .int .i64 en.c, .bool en.h, .slice A2 en.v.length c2] 40))
  have hrd3 := hrd2.below (below_alloc (Below.refl _ _) (.cells #[.string (strOfNums en.k), .int .i64 en.a, .int .i64 en.b, .int .i64 en.c, .bool en.h, .slice A2 en.v.length c2] 40))
  have bN := Aside0.mk (blk_alloc bN.out (.cells #[.string (strOfNums en.k), .int .i64 en.a, .int .i64 en.b, .int .i64 en.c, .bool en.h, .slice A2 en.v.length c2] 40))
  have HB := Aside0.mk (below_alloc HB.out (.cells #[.string (strOfNums en.k), .int .i64 en.a, .int .i64 en.b, .int .i64 en.c, .bool en.h, .slice A2 en.v.length c2] 40))
  have HO := Aside0.mk (Kd.R_alloc HO.out (.cells #[.string (strOfNums en.k), .int .i64 en.a, .int .i64 en.b, .int .i64 en.c, .bool en.h, .slice A2 en.v.length c2] 40))
  have HD := Aside0.mk hrd3
  clear hrd2 hrd3
  go_wp2_with fail
  generalize (w2.alloc (.cells #[.string (strOfNums en.k), .int .i64 en.a, .int .i64 en.b, .int .i64 en.c, .bool en.h, .slice A2 en.v.length c2] 40)) = w3 at *
  generalize w2.heap.size = E at *
  (with_reducible refine (end_ HD.out).mono ?_)
  obtain ⟨x, hx⟩ : ∃ x, endP s.l s.e = x := ⟨_, rfl⟩
  rw [hx]
  rintro _ _ ⟨rfl, rfl⟩
  have HX := Aside0.mk (show readP l = if x = 0 then (en, 0) else (En.zero, x) by unfold readP; rw [HS.out]; simp only [hx])
  have n0 : w3.cell? ⟨w.heap.size, 0, none⟩ = some (.string ⟨#[]⟩) := (blk_cell bN.out 0).trans rfl
  have n1 : w3.cell? ⟨w.heap.size, 1, none⟩ = some (.int .i64 0) := (blk_cell bN.out 1).trans rfl
  have n2 : w3.cell? ⟨w.heap.size, 2, none⟩ = some (.int .i64 0) := (blk_cell bN.out 2).trans rfl
  have n3 : w3.cell? ⟨w.heap.size, 3, none⟩ = some (.int .i64 0) := (blk_cell bN.out 3).trans rfl
  have n4 : w3.cell? ⟨w.heap.size, 4, none⟩ = some (.bool false) := (blk_cell bN.out 4).trans rfl
  have n5 : w3.cell? ⟨w.heap.size, 5, none⟩ = some (.slice none 0 0) := (blk_cell bN.out 5).trans rfl
  have m0 := blk_frozen bN.out 0
  have m1 := blk_frozen bN.out 1
  have m2 := blk_frozen bN.out 2
  have m3 := blk_frozen bN.out 3
  have m4 := blk_frozen bN.out 4
  have m5 := blk_frozen bN.out 5
  clear hx HS HD
  by_cases h0 : x = 0
  · have hx2 : (x != 0) = false := by simp [h0]
    have H0 := Aside0.mk h0
    have e0 : w3.cell? ⟨E, 0, none⟩ = some (.string (strOfNums en.k)) := (blk_cell bE.out 0).trans rfl
    have e1 : w3.cell? ⟨E, 1, none⟩ = some (.int .i64 en.a) := (blk_cell bE.out 1).trans rfl
    have e2 : w3.cell? ⟨E, 2, none⟩ = some (.int .i64 en.b) := (blk_cell bE.out 2).trans rfl
    have e3 : w3.cell? ⟨E, 3, none⟩ = some (.int .i64 en.c) := (blk_cell bE.out 3).trans rfl
    have e4 : w3.cell? ⟨E, 4, none⟩ = some (.bool en.h) := (blk_cell bE.out 4).trans rfl
    have e5 : w3.cell? ⟨E, 5, none⟩ = some (.slice A2 en.v.length c2) := (blk_cell bE.out 5).trans rfl
    clear h0
    go_wp2_with fail
    have bN' := blk_set (blk_set (blk_set (blk_set (blk_set (blk_set bN.out 0 (.string (strOfNums en.k))) 1 (.int .i64 en.a)) 2 (.int .i64 en.b)) 3 (.int .i64 en.c)) 4 (.bool en.h)) 5 (.slice A2 en.v.length c2)
    (try simp only [Exit.inBlock, Exit.then])
    refine bodyPost_ret (results_row_tmp rfl _ _ w.heap.size _ rfl (run_loadVar_row _ w.heap.size _ 40 #[.string (strOfNums en.k), .int .i64 en.a, .int .i64 en.b, .int .i64 en.c, .bool en.h, .slice A2 en.v.length c2] (0, 0) _ bN' Try.underlying40 rfl (by kernel_rfl))) rfl ?_
    rw [HX.out, if_pos H0.out]
    have hlt : w.heap.size < _ := GS.out
    exact ⟨A2, c2, rfl, Kd.R_lower (R_farg (R_farg (R_farg (R_farg (R_farg (R_farg HO.out hlt _ _) hlt _ _) hlt _ _) hlt _ _) hlt _ _) hlt _ _) (Nat.le_of_lt GS.out), below_set (below_set (below_set (below_set (below_set (below_set HB.out (Nat.le_refl _)) (Nat.le_refl _)) (Nat.le_refl _)) (Nat.le_refl _)) (Nat.le_refl _)) (Nat.le_refl _)⟩
  · have hx2 : (x != 0) = true := bne_iff_ne.2 h0
    have H0 := Aside0.mk h0
    clear h0
    go_wp2_with fail
    have bN' := blk_set (blk_set (blk_set (blk_set (blk_set (blk_set bN.out 0 (.string ⟨#[]⟩)) 1 (.int .i64 0)) 2 (.int .i64 0)) 3 (.int .i64 0)) 4 (.bool false)) 5 (.slice none 0 0)
    (try simp only [Exit.inBlock, Exit.then])
    refine bodyPost_ret (results_row_tmp rfl _ _ w.heap.size _ rfl (run_loadVar_row _ w.heap.size _ 40 zEn (0, 0) _ bN' Try.underlying40 rfl (by kernel_rfl))) rfl ?_
    rw [HX.out, if_neg H0.out]
    exact ⟨none, 0, rfl, Kd.R_nil _ _ _ _ _, below_set (below_set (below_set (below_set (below_set (below_set HB.out (Nat.le_refl _)) (Nat.le_refl _)) (Nat.le_refl _)) (Nat.le_refl _)) (Nat.le_refl _)) (Nat.le_refl _)⟩
end Go.Proofs.Ytbmbnkoggmeanaa.Tg

namespace Go.Proofs.Ytbmbnkoggmeanaa.Tg
open Go.ChangeShapes Go.WideShapes Go.ChangeAt Go.RowKit Go.Proofs.Ytbmbnkoggmeanaa.Pk
open Go.Proofs.Ytbmbnkoggmeanaa.Hlp Go.Proofs.Ytbmbnkoggmeanaa.Wrd Go.Proofs.YtbmbnkoggmeanaaW.PrintWords Go.Proofs.YtbmbnkoggmeanaaW.PrintLast Go.Proofs.YtbmbnkoggmeanaaW.PrintMore
set_option linter.unusedVariables false
set_option linter.unusedSimpArgs false
section
variable {w W : World} {g B : Nat} {k k' : ByteArray} {a b c a' b' c' : Int} {h h' : Bool} {A A' : Option Addr} {n m n' m' : Nat}
theorem en_cells (hb : w.heap[g]? = some (.cells #[.string k, .int .i64 a, .int .i64 b, .int .i64 c, .bool h, .slice A n m] 40 (0, 0))) :
    w.cell? ⟨g, 0, none⟩ = some (.string k) ∧ w.cell? ⟨g, 1, none⟩ = some (.int .i64 a) ∧ w.cell? ⟨g, 2, none⟩ = some (.int .i64 b) ∧ w.cell? ⟨g, 3, none⟩ = some (.int .i64 c) ∧ w.cell? ⟨g, 4, none⟩ = some (.bool h) ∧ w.cell? ⟨g, 5, none⟩ = some (.slice A n m) :=
  ⟨(blk_cell hb 0).trans rfl, (blk_cell hb 1).trans rfl, (blk_cell hb 2).trans rfl, (blk_cell hb 3).trans rfl, (blk_cell hb 4).trans rfl, (blk_cell hb 5).trans rfl⟩
theorem en_free {cs : Array Value} {T : Nat} (hb : w.heap[g]? = some (.cells cs T (0, 0))) :
    w.frozen? ⟨g, 0, none⟩ = false ∧ w.frozen? ⟨g, 1, none⟩ = false ∧ w.frozen? ⟨g, 2, none⟩ = false ∧ w.frozen? ⟨g, 3, none⟩ = false ∧ w.frozen? ⟨g, 4, none⟩ = false ∧ w.frozen? ⟨g, 5, none⟩ = false :=
  ⟨blk_frozen hb 0, blk_frozen hb 1, blk_frozen hb 2, blk_frozen hb 3, blk_frozen hb 4, blk_frozen hb 5⟩
/-- an entry laid into a block, field by field -/
abbrev put6 (w : World) (g : Nat) (k : ByteArray) (a b c : Int) (h : Bool) (v : Value) : World :=
  (((((w.setCell ⟨g, 0, none⟩ (.string k)).setCell ⟨g, 1, none⟩ (.int .i64 a)).setCell ⟨g, 2, none⟩ (.int .i64 b)).setCell ⟨g, 3, none⟩ (.int .i64 c)).setCell ⟨g, 4, none⟩ (.bool h)).setCell ⟨g, 5, none⟩ v
theorem put6_blk {v : Value} (hb : w.heap[g]? = some (.cells #[.string k, .int .i64 a, .int .i64 b, .int .i64 c, .bool h, .slice A n m] 40 (0, 0))) :
    (put6 w g k' a' b' c' h' v).heap[g]? = some (.cells #[.string k', .int .i64 a', .int .i64 b', .int .i64 c', .bool h', v] 40 (0, 0)) :=
  blk_set (blk_set (blk_set (blk_set (blk_set (blk_set hb 0 (.string k')) 1 (.int .i64 a')) 2 (.int .i64 b')) 3 (.int .i64 c')) 4 (.bool h')) 5 v
theorem put6_below {v : Value} (hb : Below W.heap.size W w) (hg : W.heap.size ≤ g) : Below W.heap.size W (put6 w g k a b c h v) :=
  below_set (below_set (below_set (below_set (below_set (below_set hb hg) hg) hg) hg) hg) hg
theorem put6_R {α : Type} {d : Kd α} {e : Nat} {v u : Value} {xs : List α} (hr : d.R e w B (fun _ => True) u xs) (hg : g < B) : d.R e (put6 w g k a b c h v) B (fun _ => True) u xs :=
  R_farg (R_farg (R_farg (R_farg (R_farg (R_farg hr hg _ _) hg _ _) hg _ _) hg _ _) hg _ _) hg _ _
theorem put6_far {v : Value} {q : Nat} (hq : q ≠ g) : (put6 w g k a b c h v).heap[q]? = w.heap[q]? := by
  unfold put6
  rw [Below.heap_setCell _ _ _ q (by intro x; exact hq x), Below.heap_setCell _ _ _ q (by intro x; exact hq x), Below.heap_setCell _ _ _ q (by intro x; exact hq x), Below.heap_setCell _ _ _ q (by intro x; exact hq x), Below.heap_setCell _ _ _ q (by intro x; exact hq x), Below.heap_setCell _ _ _ q (by intro x; exact hq x)]
theorem put6_ret {fn : Func} {p : Tmp} (hf : fn.results = #[.cell p 40]) (tmps : Array Value) (hp : tmps.getD p undef = .pointer (some ⟨g, 0, none⟩)) (hb : w.heap[g]? = some (.cells #[.string k, .int .i64 a, .int .i64 b, .int .i64 c, .bool h, .slice A n m] 40 (0, 0))) :
    (results fn tmps).run Try.prog w = .ok (.agg #[.string k, .int .i64 a, .int .i64 b, .int .i64 c, .bool h, .slice A n m]) w :=
  results_cell_row hf tmps w g 40 _ (0, 0) _ hp hb Try.underlying40 rfl (by kernel_rfl)
end
theorem size1 (w : World) (o : Obj) : (w.alloc o).heap.size = w.heap.size + 1 := Array.size_push ..
/-- two blocks, just made -/
theorem two_blks (w : World) (o o' : Obj) : ((w.alloc o).alloc o').heap[w.heap.size]? = some o ∧ ((w.alloc o).alloc o').heap[w.heap.size + 1]? = some o' := by
  refine ⟨blk_alloc (blk_new w o) o', ?_⟩
  have := blk_new (w.alloc o) o'
  rw [size1] at this; exact this
theorem three_blks (w : World) (o o' o'' : Obj) : (((w.alloc o).alloc o').alloc o'').heap[w.heap.size]? = some o ∧ (((w.alloc o).alloc o').alloc o'').heap[w.heap.size + 1]? = some o' ∧ (((w.alloc o).alloc o').alloc o'').heap[w.heap.size + 1 + 1]? = some o'' := by
  obtain ⟨h1, h2⟩ := two_blks w o o'
  refine ⟨blk_alloc h1 o'', blk_alloc h2 o'', ?_⟩
  have := blk_new ((w.alloc o).alloc o') o''
  rw [size1, size1] at this; exact this
theorem below_allocs {W w : World} (h : Below W.heap.size W w) (o o' : Obj) : Below W.heap.size W ((w.alloc o).alloc o') := below_alloc (below_alloc h o) o'
end Go.Proofs.Ytbmbnkoggmeanaa.Tg
