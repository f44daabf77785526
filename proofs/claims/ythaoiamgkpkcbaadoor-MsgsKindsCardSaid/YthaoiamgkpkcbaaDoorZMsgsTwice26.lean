/- Messages read, plain; and the block in which msgs.get lays one, beside the reader. Conditions: none. -/
import Derived.Test.YthaoiamgkpkcbaaDoorZMsgsTwice25
namespace Go.Proofs.YthaoiamgkpkcbaaDoor.Ms
open Go.ChangeShapes Go.WideShapes Go.ChangeAt Go.RowKit Go.Proofs.YthaoiamgkpkcbaaDoor.Pk Go.Proofs.YthaoiamgkpkcbaaDoor.Tg Go.Proofs.YthaoiamgkpkcbaaDoor.Enc Go.Proofs.YthaoiamgkpkcbaaDoor.EncC Go.Proofs.YthaoiamgkpkcbaaDoor.EncP
open Go.Proofs.YthaoiamgkpkcbaaDoor.Hlp Go.Proofs.YthaoiamgkpkcbaaDoor.Wrd Go.Proofs.YthaoiamgkpkcbaaDoor.Lex Go.Proofs.YthaoiamgkpkcbaaDoorW.PrintWords Go.Proofs.YthaoiamgkpkcbaaDoorW.PrintLast Go.Proofs.YthaoiamgkpkcbaaDoorW.PrintMore
set_option linter.unusedVariables false
set_option linter.unusedSimpArgs false
/-- an entry read, as a message holds it -/
def toE (x : En) : E6 := ⟨strOfNums x.k, ⟨x.a, x.b, x.c⟩, ⟨x.h, x.v⟩⟩
def zE : E6 := toE En.zero
def zM : Ms := ⟨0, 0, 0, 0, 0, 0, false, zE, [], [], 0, 0⟩
def g0 (s : St) : Ms × St := ({ zM with kind := (belowS 18 s).1 }, if (belowS 18 s).1 = 0 then failS (belowS 18 s).2 else (belowS 18 s).2)
def gfr (x : Ms × St) : Ms × St := ({ x.1 with fr := (belowS 1048576 x.2).1, dst := (belowS 1048576 (belowS 1048576 x.2).2).1 }, (belowS 1048576 (belowS 1048576 x.2).2).2)
def gep (x : Ms × St) : Ms × St := ({ x.1 with ep := (belowS 1099511627776 x.2).1, op := (belowS 1099511627776 (belowS 1099511627776 x.2).2).1 }, (belowS 1099511627776 (belowS 1099511627776 x.2).2).2)
def gn (h : Hs) (x : Ms × St) : Ms × St := if h.n = true then ({ x.1 with n := (belowS 1099511627776 x.2).1 }, (belowS 1099511627776 x.2).2) else x
def gf (h : Hs) (x : Ms × St) : Ms × St := if h.f = true then ({ x.1 with f := (truthS x.2).1 }, (truthS x.2).2) else x
def ge (h : Hs) (x : Ms × St) : Ms × St := if h.e = true then ({ x.1 with e := toE (getS x.2).1 }, (getS x.2).2) else x
def lstep (x : Ms × St) : Ms × St := ({ x.1 with L := x.1.L ++ [toE (getS x.2).1] }, (getS x.2).2)
def rstep (x : Ms × St) : Ms × St := ({ x.1 with R := x.1.R ++ [(belowS 1048576 x.2).1] }, (belowS 1048576 x.2).2)
def iter (f : Ms × St → Ms × St) : Nat → Ms × St → Ms × St
  | 0, x => x
  | n + 1, x => f (iter f n x)
def gl (h : Hs) (x : Ms × St) : Ms × St := if h.l = true then iter lstep (belowS 1001 x.2).1.toNat (x.1, (belowS 1001 x.2).2) else x
def gk (x : Ms × St) : Ms × St := ({ x.1 with each := (belowS 65 x.2).1, keep := (belowS 65 (belowS 65 x.2).2).1 }, (belowS 65 (belowS 65 x.2).2).2)
def gr (h : Hs) (x : Ms × St) : Ms × St := if h.r = true then iter rstep (belowS 65 (gk x).2).1.toNat ((gk x).1, (belowS 65 (gk x).2).2) else x
def getM (s : St) : Ms × St := let x := gep (gfr (g0 s)); let h := hasV (g0 s).1.kind; gr h (gl h (ge h (gf h (gn h x))))
/-! lengths -/
theorem failS_len (s : St) : (failS s).l.length ≤ s.l.length := by unfold failS; split <;> exact Nat.le_refl _
theorem getS_len (s : St) : (getS s).2.l.length ≤ s.l.length := by
  unfold getS
  have h1 := rowS_len s
  have h2 := belowS_len 1099511627776 (rowS s).2
  have h3 := belowS_len 1048576 (belowS 1099511627776 (rowS s).2).2
  have h4 := belowS_len 1048576 (belowS 1048576 (belowS 1099511627776 (rowS s).2).2).2
  have h5 := truthS_len (belowS 1048576 (belowS 1048576 (belowS 1099511627776 (rowS s).2).2).2).2
  have h6 := rowS_len (truthS (belowS 1048576 (belowS 1048576 (belowS 1099511627776 (rowS s).2).2).2).2).2
  simp only
  split <;> split
  · simp only; omega
  · have := failS_len (rowS (truthS (belowS 1048576 (belowS 1048576 (belowS 1099511627776 (rowS s).2).2).2).2).2).2
    simp only; omega
  · simp only; omega
  · have := failS_len (truthS (belowS 1048576 (belowS 1048576 (belowS 1099511627776 (rowS s).2).2).2).2).2
    simp only; omega
/-! the state -/
abbrev cellsG (m : Ms) (vE vL vR : Value) : Array Value := #[.int .i64 m.kind, .int .i64 m.fr, .int .i64 m.dst, .int .i64 m.ep, .int .i64 m.op, .int .i64 m.n, .bool m.f, .string m.e.f0, .int .i64 m.e.f1.f0, .int .i64 m.e.f1.f1, .int .i64 m.e.f1.f2, .bool m.e.f2.f0, vE, vL, vR, .int .i64 m.each, .int .i64 m.keep]
/-- what stood stands, but for two blocks -/
structure Kg (w W : World) (g M : Nat) : Prop where
  os : W.os = w.os
  tape : W.tape = w.tape
  output : W.output = w.output
  size : w.heap.size ≤ W.heap.size
  block : ∀ k, k < w.heap.size → k ≠ g → k ≠ M → W.heap[k]? = w.heap[k]?
theorem Kg.refl (w : World) (g M : Nat) : Kg w w g M := ⟨rfl, rfl, rfl, Nat.le_refl _, fun _ _ _ _ => rfl⟩
theorem Kg.grown {w W W1 : World} {g M : Nat} {row : Option Nat} (h : Kg w W g M) (hg : W.grownBy W1 row) (hr : ∀ q, row = some q → q = g ∨ q = M ∨ w.heap.size ≤ q) : Kg w W1 g M :=
  ⟨hg.os.trans h.os, hg.tape.trans h.tape, hg.output.trans h.output, Nat.le_trans h.size hg.size, fun k hk h1 h2 => (hg.block k (Nat.lt_of_lt_of_le hk h.size) (by
    intro hq
    rcases hr k hq.symm with e | e | e
    · exact h1 e
    · exact h2 e
    · omega)).trans (h.block k hk h1 h2)⟩
theorem rd_stand {w w1 : World} {g : Nat} {b : Option Addr} {c : Nat} {l : List Int} {e : Int} {ins : Bool} (h : Rd w g b c l e ins) (hg : w1.heap[g]? = w.heap[g]?) (hs : ∀ (p : Nat) (cs : Array Value) (fr : Nat × Nat), w.heap[p]? = some (Obj.cells cs 5 fr) → w1.heap[p]? = w.heap[p]?) : Rd w1 g b c l e ins where
  blk := hg.trans h.blk
  row := C_sameK h.row (fun p o e h0 => by obtain ⟨cs, fr, hp⟩ := h.typ h0 p o e; exact hs p cs fr hp)
  cap := h.cap
  bytes := h.bytes
  typ := fun h0 p o x => by obtain ⟨cs, fr, hp⟩ := h.typ h0 p o x; exact ⟨cs, fr, (hs p cs fr hp).trans hp⟩
structure Gs (w W : World) (g M : Nat) (m : Ms) (vE vL vR : Value) (s : St) : Prop where
  rd : ∃ b c, Rd W g b c s.l s.e false
  blk : W.heap[M]? = some (.cells (cellsG m vE vL vR) 34 (0, 0))
  rE : Kd.R (Kd.int .u8) 5 W w.heap.size (fun _ => True) vE m.e.f2.f1
  rL : Kd.R kE 28 W w.heap.size (fun _ => True) vL m.L
  rR : Kd.R (Kd.int .i64) 3 W w.heap.size (fun _ => True) vR m.R
  up : Kg w W g M
  lt : g < w.heap.size ∧ M < w.heap.size ∧ g ≠ M
  len : s.l.length ≤ 140737488351232
theorem R_far' {α : Type} {d : Kd α} {e : Nat} {W W1 : World} {base : Nat} {v : Value} {xs : List α} (h : d.R e W base (fun _ => True) v xs) (hb : ∀ k, base ≤ k → k < W.heap.size → W1.heap[k]? = W.heap[k]?) : d.R e W1 base (fun _ => True) v xs :=
  Kd.R_mono (Kd.R_step (Kd.R_bound h) (fun k hk hlt => hb k hk.2.1 hlt)) (fun _ _ => trivial)
/-- the reader has gone on -/
theorem Gs.step {w W W1 : World} {g M : Nat} {m : Ms} {vE vL vR : Value} {s s1 : St} (h : Gs w W g M m vE vL vR s) (hA : At W g false s1 W1) (hl : s1.l.length ≤ s.l.length) : Gs w W1 g M m vE vL vR s1 := by
  obtain ⟨b, c, hr, hg⟩ := hA
  have hb : ∀ k, w.heap.size ≤ k → k < W.heap.size → W1.heap[k]? = W.heap[k]? := fun k hk hlt => hg.block k hlt (by intro e; injection e with e; have := h.lt.1; omega)
  exact ⟨⟨b, c, hr⟩, (hg.block M (blk_lt h.blk) (by intro e; injection e with e; exact h.lt.2.2 e.symm)).trans h.blk, R_far' h.rE hb, R_far' h.rL hb, R_far' h.rR hb, h.up.grown hg (fun q hq => by injection hq with hq; exact .inl hq.symm), h.lt, Nat.le_trans hl h.len⟩
theorem Gs.below {w W W1 : World} {g M : Nat} {m : Ms} {vE vL vR : Value} {s : St} (h : Gs w W g M m vE vL vR s) (hb : Below W.heap.size W W1) : Gs w W1 g M m vE vL vR s := by
  obtain ⟨b, c, hr⟩ := h.rd
  exact ⟨⟨b, c, hr.below hb⟩, (hb.block M (blk_lt h.blk)).trans h.blk, Kd.R_below h.rE hb, Kd.R_below h.rL hb, Kd.R_below h.rR hb, h.up.grown (grown_of_below hb none) (fun q hq => by cases hq), h.lt, h.len⟩
theorem rd_setM {w : World} {g M : Nat} {b : Option Addr} {c : Nat} {l : List Int} {e : Int} {ins : Bool} {cs : Array Value} (h : Rd w g b c l e ins) (hM : w.heap[M]? = some (.cells cs 34 (0, 0))) (hne : g ≠ M) (i : Nat) (u : Value) : Rd (w.setCell ⟨M, i, none⟩ u) g b c l e ins :=
  rd_stand h (Below.heap_setCell w _ u g (by intro x; exact hne x)) (fun p cs' fr hp => Below.heap_setCell w _ u p (by
    intro x
    have x : p = M := x
    subst x
    rw [hM] at hp; injection hp with hp; injection hp with _ hp _; exact absurd hp (by decide)))
/-- a field is stored -/
theorem Gs.put {w W : World} {g M : Nat} {m m' : Ms} {vE vL vR : Value} {s : St} (h : Gs w W g M m vE vL vR s) (i : Nat) (u : Value) (hc : (cellsG m vE vL vR).setIfInBounds i u = cellsG m' vE vL vR) (he : m'.e.f2.f1 = m.e.f2.f1) (hL : m'.L = m.L) (hR : m'.R = m.R) : Gs w (W.setCell ⟨M, i, none⟩ u) g M m' vE vL vR s := by
  obtain ⟨b, c, hr⟩ := h.rd
  refine ⟨⟨b, c, rd_setM hr h.blk h.lt.2.2 i u⟩, by rw [blk_set h.blk, hc], ?_, ?_, ?_, h.up.grown (upd_set W M i u) (fun q hq => by injection hq with hq; exact .inr (.inl hq.symm)), h.lt, h.len⟩
  · rw [he]; exact R_farg h.rE h.lt.2.1 i u
  · rw [hL]; exact R_farg h.rL h.lt.2.1 i u
  · rw [hR]; exact R_farg h.rR h.lt.2.1 i u
/-- a row has grown, and is stored -/
theorem Gs.grow {w W W1 : World} {g M : Nat} {m : Ms} {vE vL vR : Value} {s : St} (h : Gs w W g M m vE vL vR s) {row : Option Nat} (hg : W.grownBy W1 row) (hrow : ∀ q : Nat, row = some q → w.heap.size ≤ q ∧ ∀ cs : Array Value, W.heap[q]? ≠ some (.cells cs 5 (0, 0))) (hty : ∀ (p : Nat) (cs : Array Value) (fr : Nat × Nat), W.heap[p]? = some (.cells cs 5 fr) → some p = row → False) :
    (∃ b c, Rd W1 g b c s.l s.e false) ∧ W1.heap[M]? = some (.cells (cellsG m vE vL vR) 34 (0, 0)) ∧ Kg w W1 g M := by
  obtain ⟨b, c, hr⟩ := h.rd
  refine ⟨⟨b, c, rd_stand hr (hg.block g (blk_lt hr.blk) (fun e => ?_)) (fun p cs fr hp => hg.block p (blk_lt hp) (fun e => hty p cs fr hp e))⟩, (hg.block M (blk_lt h.blk) (fun e => ?_)).trans h.blk, h.up.grown hg (fun q hq => .inr (.inr (hrow q hq).1))⟩
  · have := (hrow g e.symm).1; have := h.lt.1; omega
  · have := (hrow M e.symm).1; have := h.lt.2.1; omega
theorem own_not {α : Type} {d : Kd α} {e base : Nat} {W : World} {ok : Nat → Prop} {v : Value} {xs : List α} (h : d.R e W base ok v xs) (he : e ≠ 5) : ∀ (p : Nat) (cs : Array Value) (fr : Nat × Nat), W.heap[p]? = some (.cells cs 5 fr) → some p = v.ownBlock → False := by
  intro p cs fr hp e1
  obtain ⟨cells, hc⟩ := own_typed (Kd.R_own h).choose_spec p e1.symm
  rw [hp] at hc; injection hc with hc; injection hc with _ hc _; exact he hc.symm
theorem own_hi {α : Type} {d : Kd α} {e base : Nat} {W : World} {ok : Nat → Prop} {v : Value} {xs : List α} (h : d.R e W base ok v xs) (he : e ≠ 5) : ∀ q, v.ownBlock = some q → base ≤ q ∧ ∀ cs, W.heap[q]? ≠ some (.cells cs 5 (0, 0)) :=
  fun q hq => ⟨Kd.R_base h q hq, fun cs hp => own_not h he q cs _ hp hq.symm⟩
theorem Gs.putL {w W W1 : World} {g M : Nat} {m : Ms} {vE vL vR v1 : Value} {s : St} {L' : List E6} (h : Gs w W g M m vE vL vR s) (hR : Kd.R kE 28 W1 w.heap.size (fun _ => True) v1 L') (hg : W.grownBy W1 vL.ownBlock) : Gs w (W1.setCell ⟨M, 13, none⟩ v1) g M { m with L := L' } vE v1 vR s := by
  obtain ⟨hr, hb, hu⟩ := h.grow hg (own_hi h.rL (by decide)) (own_not h.rL (by decide))
  have hE := Kd.R_over h.rE h.rL (by
    intro q hq
    rcases List.mem_cons.1 hq with rfl | hq
    · decide
    · cases hq) hg
  have hRr := Kd.R_over h.rR h.rL (by
    intro q hq
    rcases List.mem_cons.1 hq with rfl | hq
    · decide
    · cases hq) hg
  obtain ⟨b, c, hr⟩ := hr
  exact ⟨⟨b, c, rd_setM hr hb h.lt.2.2 13 v1⟩, by rw [blk_set hb]; rfl, R_farg hE h.lt.2.1 13 v1, R_farg hR h.lt.2.1 13 v1, R_farg hRr h.lt.2.1 13 v1, hu.grown (upd_set W1 M 13 v1) (fun q hq => by injection hq with hq; exact .inr (.inl hq.symm)), h.lt, h.len⟩
theorem Gs.putR {w W W1 : World} {g M : Nat} {m : Ms} {vE vL vR v1 : Value} {s : St} {R' : List Int} (h : Gs w W g M m vE vL vR s) (hR : Kd.R (Kd.int .i64) 3 W1 w.heap.size (fun _ => True) v1 R') (hg : W.grownBy W1 vR.ownBlock) : Gs w (W1.setCell ⟨M, 14, none⟩ v1) g M { m with R := R' } vE vL v1 s := by
  obtain ⟨hr, hb, hu⟩ := h.grow hg (own_hi h.rR (by decide)) (own_not h.rR (by decide))
  have hE := Kd.R_over h.rE h.rR (by
    intro q hq
    rcases List.mem_cons.1 hq with rfl | hq
    · decide
    · cases hq) hg
  have hL := Kd.R_over h.rL h.rR (by
    intro q hq
    have : q ∈ [28, 5] := hq
    rcases List.mem_cons.1 this with rfl | hq
    · decide
    · obtain rfl := List.mem_singleton.1 hq; decide) hg
  obtain ⟨b, c, hr⟩ := hr
  exact ⟨⟨b, c, rd_setM hr hb h.lt.2.2 14 v1⟩, by rw [blk_set hb]; rfl, R_farg hE h.lt.2.1 14 v1, R_farg hL h.lt.2.1 14 v1, R_farg hR h.lt.2.1 14 v1, hu.grown (upd_set W1 M 14 v1) (fun q hq => by injection hq with hq; exact .inr (.inl hq.symm)), h.lt, h.len⟩
/-- an entry is stored -/
abbrev putX (W : World) (M : Nat) (x : E6) (v : Value) : World :=
  (((((W.setCell ⟨M, 7, none⟩ (.string x.f0)).setCell ⟨M, 8, none⟩ (.int .i64 x.f1.f0)).setCell ⟨M, 9, none⟩ (.int .i64 x.f1.f1)).setCell ⟨M, 10, none⟩ (.int .i64 x.f1.f2)).setCell ⟨M, 11, none⟩ (.bool x.f2.f0)).setCell ⟨M, 12, none⟩ v
theorem Gs.putE {w W : World} {g M : Nat} {m : Ms} {vE vL vR v : Value} {s : St} (x : E6) (h : Gs w W g M m vE vL vR s) (hv : Kd.R (Kd.int .u8) 5 W w.heap.size (fun _ => True) v x.f2.f1) : Gs w (putX W M x v) g M { m with e := x } v vL vR s := by
  have h1 := h.put (m' := { m with e := ⟨x.f0, m.e.f1, m.e.f2⟩ }) 7 (.string x.f0) rfl rfl rfl rfl
  have h2 := h1.put (m' := { m with e := ⟨x.f0, ⟨x.f1.f0, m.e.f1.f1, m.e.f1.f2⟩, m.e.f2⟩ }) 8 (.int .i64 x.f1.f0) rfl rfl rfl rfl
  have h3 := h2.put (m' := { m with e := ⟨x.f0, ⟨x.f1.f0, x.f1.f1, m.e.f1.f2⟩, m.e.f2⟩ }) 9 (.int .i64 x.f1.f1) rfl rfl rfl rfl
  have h4 := h3.put (m' := { m with e := ⟨x.f0, x.f1, m.e.f2⟩ }) 10 (.int .i64 x.f1.f2) rfl rfl rfl rfl
  have h5 := h4.put (m' := { m with e := ⟨x.f0, x.f1, ⟨x.f2.f0, m.e.f2.f1⟩⟩ }) 11 (.bool x.f2.f0) rfl rfl rfl rfl
  have hv5 : Kd.R (Kd.int .u8) 5 _ w.heap.size (fun _ => True) v x.f2.f1 := R_farg (R_farg (R_farg (R_farg (R_farg hv h.lt.2.1 7 (.string x.f0)) h.lt.2.1 8 (.int .i64 x.f1.f0)) h.lt.2.1 9 (.int .i64 x.f1.f1)) h.lt.2.1 10 (.int .i64 x.f1.f2)) h.lt.2.1 11 (.bool x.f2.f0)
  obtain ⟨b, c, hr⟩ := h5.rd
  exact ⟨⟨b, c, rd_setM hr h5.blk h.lt.2.2 12 v⟩, by rw [blk_set h5.blk]; rfl, R_farg hv5 h.lt.2.1 12 v, R_farg h5.rL h.lt.2.1 12 v, R_farg h5.rR h.lt.2.1 12 v, h5.up.grown (upd_set _ M 12 v) (fun q hq => by injection hq with hq; exact .inr (.inl hq.symm)), h.lt, h.len⟩
theorem infoE : (Tryd.prog.info? 28).map (fun i => (i.zero, i.size, i.bytes)) = some (some (.agg #[.string ⟨#[]⟩, .int .i64 0, .int .i64 0, .int .i64 0, .bool false, .slice none 0 0]), 6, 72) := by kernel_rfl
theorem infoI : (Tryd.prog.info? 3).map (fun i => (i.zero, i.size, i.bytes)) = some (some (.int .i64 0), 1, 8) := by kernel_rfl
theorem below_rng (n : Int) (s : St) (hn : 0 < n) : ∃ c : Nat, (belowS n s).1 = (c : Int) ∧ (c : Int) < n := by
  unfold belowS
  split
  · split
    · split
      · rename_i h; obtain ⟨c, hc⟩ := Int.eq_ofNat_of_zero_le h.1; exact ⟨c, hc, by rw [← hc]; exact h.2⟩
      · exact ⟨0, rfl, hn⟩
    · exact ⟨0, rfl, hn⟩
  · exact ⟨0, rfl, hn⟩
theorem iter_L (x : Ms × St) : ∀ n, (iter lstep n x).1.L.length = x.1.L.length + n
  | 0 => rfl
  | n + 1 => by
    show ((iter lstep n x).1.L ++ [toE (getS (iter lstep n x).2).1]).length = _
    rw [List.length_append, iter_L x n]; rfl
theorem iter_R (x : Ms × St) : ∀ n, (iter rstep n x).1.R.length = x.1.R.length + n
  | 0 => rfl
  | n + 1 => by
    show ((iter rstep n x).1.R ++ [(belowS 1048576 (iter rstep n x).2).1]).length = _
    rw [List.length_append, iter_R x n]; rfl
theorem iter_R' (x : Ms × St) : ∀ n, (iter lstep n x).1.R = x.1.R
  | 0 => rfl
  | n + 1 => iter_R' x n
theorem gn_LR (b : Hs) (x : Ms × St) : (gn b x).1.L = x.1.L ∧ (gn b x).1.R = x.1.R := by unfold gn; split <;> exact ⟨rfl, rfl⟩
theorem gf_LR (b : Hs) (x : Ms × St) : (gf b x).1.L = x.1.L ∧ (gf b x).1.R = x.1.R := by unfold gf; split <;> exact ⟨rfl, rfl⟩
theorem ge_LR (b : Hs) (x : Ms × St) : (ge b x).1.L = x.1.L ∧ (ge b x).1.R = x.1.R := by unfold ge; split <;> exact ⟨rfl, rfl⟩
theorem gl_R (b : Hs) (x : Ms × St) : (gl b x).1.R = x.1.R := by
  unfold gl; split
  · exact iter_R' _ _
  · rfl
end Go.Proofs.YthaoiamgkpkcbaaDoor.Ms
