/- Contract of icehouseref15.Of. Conditions: a list that fits in memory, words of 64 bits. -/
import Derived.Test.YtlifioeeooclfaaB5
import Derived.Deep.RegionHeld3
import Derived.Deep.AppendLies
import Derived.Deep.RegionLaw
namespace Go.Proofs.Ytlifioeeooclfaa.Rl
open Go.ChangeShapes Go.WideShapes Go.ChangeAt Go.RowKit Dbl
open Go.Proofs.YtlifioeeooclfaaW.PrintWords Go.Proofs.YtlifioeeooclfaaW.PrintLast Go.Proofs.YtlifioeeooclfaaW.PrintMore
set_option linter.unusedVariables false
set_option linter.unusedSimpArgs false
theorem info30 : (Try.prog.info? 30).map (fun i => (i.zero, i.size, i.bytes)) = some (some (.float .f64 0), 1, 8) := by kernel_rfl
/-- one more is appended, in a region that draws its order -/
theorem step_flt {ops : Array Oper} {o : Oper} {a : Act} {K : Act → World → Prop} {Q : Exit → Act → World → Prop} {E : Prop} {w : World} (hgd : o.guard = none) (s x : Operand)
    (ho : o.op = .call { callee := .builtin .append, args := #[s, x], argTypes := #[23, 23] })
    (base : Nat) (v : Value) (xs : List Nat) (y g0 : Nat) (ok : Nat → Prop) (hs : a.eval s = v) (hO : Kd.R Opn.flt 30 w base ok v xs)
    (hx : a.eval x = .slice (some ⟨g0, 0, none⟩) 1 1) (hg0 : w.cell? ⟨g0, 0, none⟩ = some (.float .f64 y)) (hok : ∀ k, w.heap.size ≤ k → ok k)
    (hl : xs.length + 1 ≤ 17592186044415) (hbase : base ≤ w.heap.size)
    (h : ∀ v1 w', Kd.R Opn.flt 30 w' base ok v1 (xs ++ [y]) → w.grownBy w' v.ownBlock → (v1.ownBlock = v.ownBlock ∨ v1.ownBlock = some w.heap.size) → K (a.put o.dst v1) w') :
    if Region.wanted o (yielded ops a.tmps) = true then Oper.wp Try.prog o a w K Q else E := by
  obtain ⟨i0, hi0, hz0, hz1, hz2⟩ := info_parts info30
  have hown := Kd.own_of_R hO
  refine step_append_lies w hgd s x _ ho base _ i0 _ 1 8 Try.underlying23 hi0 hz0 hz1 hz2 rfl (by omega) v xs.length _ hs hown ⟨g0, 0, none⟩ 1 1 [.float .f64 y] hx rfl ?_ (by simp [Value.oneCell']) (by omega) (by unfold maxLen; omega) (by omega) hbase _ rfl ?_
  · intro j u hj
    have hj0 : j = 0 := by have := (List.getElem?_eq_some_iff.1 hj).1; simpa using this
    subst hj0
    simp at hj
    subst hj
    rw [show (⟨g0, 0, none⟩ : Addr).add 0 = ⟨g0, 0, none⟩ by unfold Addr.add; split <;> simp_all]
    exact hg0
  · intro g cap w' hown' hgrow hat hlt
    refine h _ w' (Kd.R_of_own ?_ ?_) hgrow ?_
    · rw [List.length_append, List.length_singleton]
      simpa [encs] using hown'
    · intro k hk
      have : k = g := by simpa [Value.ownBlock] using hk.symm
      subst this
      rcases hat with hat | hat
      · exact hO.1 k hat
      · exact hok k (by omega)
    · rcases hat with hat | hat
      · exact .inl (Eq.trans rfl hat.symm)
      · exact .inr (congrArg some hat)
/-- what an append to a row of the call's own leaves -/
theorem grown_keeps {w W w1 : World} {n0 : Nat} {ok : Nat → Prop} {v : Value} {xs : List Nat} {o : Obj} {a b : Obj} (HO : Kd.R Opn.flt 30 W (n0 + 2) ok v xs) (HG : W.heap[n0 + 1]? = some a) (HZ : W.heap[n0]? = some b) (HB : Below n0 w W)
    (hgr : (W.alloc o).drew.grownBy w1 v.ownBlock) : w1.heap[n0 + 1]? = some a ∧ w1.heap[n0]? = some b ∧ Below n0 w w1 := by
  have hb : ∀ k, v.ownBlock = some k → n0 + 2 ≤ k := Kd.R_base HO
  have hlt := blk_lt HG
  have hs : (W.alloc o).drew.heap.size = W.heap.size + 1 := Array.size_push ..
  have hBW : Below n0 w (W.alloc o).drew := below_drew (HB.alloc (by omega) o)
  refine ⟨blk_grown (w := (W.alloc o).drew) (blk_alloc HG o) hgr ?_, blk_grown (w := (W.alloc o).drew) (blk_alloc HZ o) hgr ?_, pw_below_grown hBW _ (by omega) hgr (fun k hk => by have := hb k hk; omega)⟩
  · intro e; have := hb _ e.symm; omega
  · intro e; have := hb _ e.symm; omega
theorem R_slice_n {α : Type} {d : Kd α} {e : Nat} {w : World} {base n : Nat} {ok : Nat → Prop} {v : Value} {xs : List α} (h : d.R e w base ok v xs) (hn : xs.length = n) : ∃ A c, v = .slice A n c := by
  subst hn; exact Kd.R_slice h
theorem take_nat (l : List Int) {k : Nat} (hk : k < l.length) : (l.take (k + 1)).map Int.toNat = (l.take k).map Int.toNat ++ [l[k].toNat] := by
  rw [List.take_succ_eq_append_getElem hk, List.map_append]; rfl
set_option maxHeartbeats 8000000 in
set_option maxRecDepth 100000 in
theorem of_beats (A : Option Addr) (c : Nat) (last : Int) (l : List Int) (w : World) (hr : Kd.C (Kd.int .u64) w A l.length l) (hc : l.length ≤ c) (hl : l.length ≤ 17592186044415) :
    Calls Try.prog 14 #[.int .i64 last, .slice A l.length c] w fun e w' => ∃ v, e = .returned (.agg #[.int .i64 last, v]) ∧ Kd.R Opn.flt 30 w' w.heap.size (fun _ => True) v (l.map Int.toNat) ∧ Below w.heap.size w w' := by
  have h12 := c12
  have HR := Aside0.mk hr
  clear hr
  go_enter Try.func14, Try.ntmps14
  go_wp2_with fail
  go_loopg [6] l.length (fun q i w' => ∃ (k : Nat) (v : Value), k ≤ l.length ∧ i = .int .i64 k ∧ q = l.length - k ∧ Aside0 (Kd.R Opn.flt 30 w' (w.heap.size + 2) (fun _ => True) v ((l.take k).map Int.toNat)) ∧ Aside0 (w'.heap[w.heap.size + 1]? = some (.cells #[.int .i64 last, v] 25 (0, 0))) ∧ Aside0 (w'.heap[w.heap.size]? = some (.cells #[.int .i64 0, .slice none 0 0] 25 (0, 0))) ∧ Aside0 (Below w.heap.size w w'))
  case atStart =>
    refine ⟨0, .slice none 0 0, Nat.zero_le _, rfl, by simp, ⟨Kd.R_nil _ _ _ _ _⟩, ⟨?_⟩, ⟨?_⟩, ⟨?_⟩⟩
    · have := blk_new (w.alloc (.cells #[.int .i64 0, .slice none 0 0] 25)) (.cells #[.int .i64 last, .slice none 0 0] 25)
      rwa [show (w.alloc (.cells #[.int .i64 0, .slice none 0 0] 25)).heap.size = w.heap.size + 1 from Array.size_push ..] at this
    · exact blk_alloc (blk_new w _) _
    · exact below_alloc (below_alloc (Below.refl _ _) _) _
  case round =>
    obtain ⟨k, v, hk, rfl, rfl, HO, HG, HZ, HB⟩ := hrel
    by_cases hlt : k < l.length
    · obtain ⟨ad, hA, hc0⟩ := Hlp.C_at (Kd.C_below HR.out HB.out) k hlt
      subst hA
      have HT := Aside0.mk (take_nat l hlt)
      have i0 : (0 : Int) ≤ (k : Int) := by omega
      have i1 : (k : Int) < (l.length : Int) := by omega
      have g1 : wr.cell? ⟨w.heap.size + 1, 1, none⟩ = some v := (blk_cell HG.out 1).trans rfl
      have f1 : wr.frozen? ⟨w.heap.size + 1, 1, none⟩ = false := blk_frozen HG.out 1
      have hsz := blk_lt HG.out
      generalize l[k] = x at *
      go_wp2_with fail
      go_region_law (first | (refine step_flt (by rfl) _ _ (by rfl) (w.heap.size + 2) v ((l.take k).map Int.toNat) x.toNat wr.heap.size (fun _ => True) (by rfl) ?a1 (by rfl) ?a2 (fun _ _ => trivial) ?a3 ?a4 ?_; (case a1 => repeat (first | exact HO.out | refine Kd.R_alloc ?_ _ | refine Kd.R_drew ?_ | refine Kd.R_drewN ?_ _)); (case a2 => first | (simp; done) | (go_simp; done)); (case a3 => rw [List.length_map, List.length_take]; omega); (case a4 => simp; omega); intro v1 w1 ho hgr hat; obtain ⟨A1, c1, e1⟩ := R_slice_n (n := k + 1) ho (by rw [List.length_append, List.length_map, List.length_take, List.length_singleton]; omega); subst e1; have h3 := grown_keeps HO.out HG.out HZ.out HB.out hgr; have HG1 := Aside0.mk h3.1; have HZ1 := Aside0.mk h3.2.1; have HB1 := Aside0.mk h3.2.2; have g2 : w1.cell? ⟨w.heap.size + 1, 1, none⟩ = some v := (blk_cell HG1.out 1).trans rfl; have f2 := blk_frozen HG1.out 1; have HO1 := Aside0.mk ho; clear ho hgr hat h3))
      all_goals
        go_wp2_with fail
        go_roundg (l.length - (k + 1))
        case measure => omega
        case rel => exact ⟨k + 1, _, by omega, by go_num, rfl, ⟨by rw [HT.out]; exact Kd.R_set HO1.out HG1.out (by intro q hq; simp [Opn.flt, Kd.scalar] at hq; omega) 1 _⟩, ⟨blk_set HG1.out 1 _⟩, ⟨blk_far (p := ⟨w.heap.size + 1, 1, none⟩) HZ1.out (by simp) _⟩, ⟨HB1.out.setCell (by simp) _⟩⟩
    · obtain rfl : k = l.length := by omega
      rw [List.take_length] at HO
      have g0 : wr.cell? ⟨w.heap.size + 1, 0, none⟩ = some (.int .i64 last) := (blk_cell HG.out 0).trans rfl
      have g1 : wr.cell? ⟨w.heap.size + 1, 1, none⟩ = some v := (blk_cell HG.out 1).trans rfl
      have z0 : wr.cell? ⟨w.heap.size, 0, none⟩ = some (.int .i64 0) := (blk_cell HZ.out 0).trans rfl
      have z1 : wr.cell? ⟨w.heap.size, 1, none⟩ = some (.slice none 0 0) := (blk_cell HZ.out 1).trans rfl
      have y0 : wr.frozen? ⟨w.heap.size, 0, none⟩ = false := blk_frozen HZ.out 0
      have y1 : wr.frozen? ⟨w.heap.size, 1, none⟩ = false := blk_frozen HZ.out 1
      obtain ⟨A1, c1, e1⟩ := R_slice_n (n := l.length) HO.out (by rw [List.length_map])
      subst e1
      go_wp2_with fail
      have FR := blk_set (blk_set HZ.out 0 (.int .i64 last)) 1 (.slice A1 l.length c1)
      (try simp only [Exit.inBlock, Exit.then])
      refine bodyPost_ret (results_cell_row rfl _ _ w.heap.size 25 _ (0, 0) _ rfl FR Try.underlying25 rfl (by kernel_rfl)) rfl ?_
      have R1 := Kd.R_set HO.out HZ.out (by intro q hq; simp [Opn.flt, Kd.scalar] at hq; omega) 0 (.int .i64 last)
      have R2 := Kd.R_set R1 (blk_set HZ.out 0 (.int .i64 last)) (by intro q hq; simp [Opn.flt, Kd.scalar] at hq; omega) 1 (.slice A1 l.length c1)
      exact ⟨_, rfl, Kd.R_lower R2 (by omega), (HB.out.setCell (by simp) _).setCell (by simp) _⟩
end Go.Proofs.Ytlifioeeooclfaa.Rl
