/- The contract of the second closure of msgs.Bytes (an entry's bytes), and of pack.Truth's bytes behind those there are. Conditions: an entry that may be. · The contract of msgs.Bytes. Conditions: the table lies in its variable; bytes are bytes. · The contract of msgs.Bytes. Conditions: the table lies in its variable; bytes are bytes. -/
import Derived.Test.YthaoiamgkpkcbaaDoorZMsgsTwice23
import Derived.Deep.Light
namespace Go.Proofs.YthaoiamgkpkcbaaDoor.Ms
open Go.ChangeShapes Go.WideShapes Go.ChangeAt Go.RowKit Go.Proofs.YthaoiamgkpkcbaaDoor.Pk Go.Proofs.YthaoiamgkpkcbaaDoor.Tg Go.Proofs.YthaoiamgkpkcbaaDoor.Enc Go.Proofs.YthaoiamgkpkcbaaDoor.EncC Go.Proofs.YthaoiamgkpkcbaaDoor.EncP
open Go.Proofs.YthaoiamgkpkcbaaDoor.Hlp Go.Proofs.YthaoiamgkpkcbaaDoor.Wrd Go.Proofs.YthaoiamgkpkcbaaDoor.Lex Go.Proofs.YthaoiamgkpkcbaaDoorW.PrintWords Go.Proofs.YthaoiamgkpkcbaaDoorW.PrintLast Go.Proofs.YthaoiamgkpkcbaaDoorW.PrintMore
set_option linter.unusedVariables false
set_option linter.unusedSimpArgs false
/-- an entry's bytes -/
def entX (x : E6) : List Int := entB x.f0 x.f1.f0 x.f1.f1 x.f1.f2 x.f2.f0 x.f2.f1
theorem entX_len (x : E6) (h : okE x) : (entX x).length ≤ 61000 := by
  have h' : okEnt x.f0 x.f1.f0 x.f1.f1 x.f1.f2 x.f2.f0 x.f2.f1 := h
  unfold okEnt at h'
  unfold entX entB
  have h1 := rowB_len (l := Tg.bytesOf x.f0)
  have h2 := rowB_len (l := x.f2.f1)
  have h3 := numB_len x.f1.f0
  have h4 := numB_len x.f1.f1
  have h5 := numB_len x.f1.f2
  rw [bytesOf_len] at h1
  have h6 : (truthB x.f2.f0).length = 1 := by unfold truthB; split <;> rfl
  simp only [List.length_append]
  split
  · omega
  · simp; omega
theorem bytesV_ok {x : E6} (h : okE x) : bytesV x.f0 x.f1.f0 x.f1.f1 x.f1.f2 x.f2.f0 x.f2.f1 = (entX x, 0) := if_pos h
theorem tbytes_c {w : World} {A : Option Addr} {n d : Nat} (x : E6) (h : okE x) (hr : Kd.C (Kd.int .u8) w A n x.f2.f1) (hc : n ≤ d) :
    Calls Tryd.prog 31 #[.agg #[.string x.f0, .int .i64 x.f1.f0, .int .i64 x.f1.f1, .int .i64 x.f1.f2, .bool x.f2.f0, .slice A n d]] w (Made2 w (entX x) 0) := by
  obtain rfl : x.f2.f1.length = n := hr.1
  have := bytes_ x.f0 x.f1.f0 x.f1.f1 x.f1.f2 x.f2.f0 hr hc
  rwa [bytesV_ok h] at this
set_option maxHeartbeats 4000000 in
theorem entry_b {w : World} {B g : Nat} {acc : List Int} {A : Option Addr} {n d : Nat} (x : E6) (hx : okE x) (hO : Out w g acc) (hB : B ≤ g) (hr : Kd.C (Kd.int .u8) w A n x.f2.f1) (hc : n ≤ d) (hl : acc.length + 61000 ≤ 17592186044415) :
    Calls Tryd.prog 30 #[.agg #[.string x.f0, .int .i64 x.f1.f0, .int .i64 x.f1.f1, .int .i64 x.f1.f2, .bool x.f2.f0, .slice A n d], .pointer (some ⟨g, 0, none⟩)] w (OutPost w B g (acc ++ entX x)) := by
  have HG : Aside0 (g < w.heap.size) := ⟨by obtain ⟨_, _, h, _⟩ := hO; exact blk_lt h⟩
  have hG := HG.out
  have hbl := below_alloc (Below.refl w.heap.size w) (.cells #[.string x.f0, .int .i64 x.f1.f0, .int .i64 x.f1.f1, .int .i64 x.f1.f2, .bool x.f2.f0, .slice A n d] 28)
  have HO := Aside0.mk (hO.below hbl)
  have HR := Aside0.mk (Kd.C_below hr hbl)
  have HK := Aside0.mk (KeptF.below (g := g) hbl (show B ≤ w.heap.size by omega))
  have BE := Aside0.mk (blk_new w (.cells #[.string x.f0, .int .i64 x.f1.f0, .int .i64 x.f1.f1, .int .i64 x.f1.f2, .bool x.f2.f0, .slice A n d] 28))
  have HX := Aside0.mk hx
  clear hO hr hx hbl
  go_enter Tryd.func30, Tryd.ntmps30
  go_upto_region 1 with fail
  generalize w.alloc (.cells #[.string x.f0, .int .i64 x.f1.f0, .int .i64 x.f1.f1, .int .i64 x.f1.f2, .bool x.f2.f0, .slice A n d] 28) = W at *
  obtain ⟨e0, e1, e2, e3, e4, e5⟩ := en_cells BE.out
  obtain ⟨A1, c1, hb1, hr1⟩ := HO.out
  have HB1 := Aside0.mk hb1
  have HR1 := Aside0.mk hr1
  have hal : (entX x).length ≤ 61000 := entX_len x HX.out
  clear hb1 hr1
  go_wp2_with (first | (go_at_call 31; (with_reducible refine (tbytes_c x HX.out HR.out hc).mono ?_); rintro y w2 ⟨vn, rfl, hn, hb⟩; obtain ⟨An, cn, evn, hcn, hnr⟩ := Kd.R_reads hn; subst evn; have HN := Aside0.mk hnr; have HB2 : Aside0 (w2.heap[g]? = some (.cells #[.slice A1 acc.length c1] 24 (0, 0))) := ⟨(hb.block g (blk_lt HB1.out)).trans HB1.out⟩; have HR2 : Aside0 (Kd.R (Kd.int .u8) 5 w2 (g + 1) (fun _ => True) (.slice A1 acc.length c1) acc) := ⟨Kd.R_below HR1.out hb⟩; have HK2 : Aside0 (KeptF W w2 B g) := ⟨KeptF.below hb (by have := HK.out.2.1; have := HG.out; omega)⟩; have o2 : w2.cell? ⟨g, 0, none⟩ = some (.slice A1 acc.length c1) := (blk_cell HB2.out 0).trans rfl; clear hn hnr hb e0 e1 e2 e3 e4 e5) | ((with_reducible refine gate_builtin (b := .append) rfl ?_); at_builtin; refine Kd.R_append_rows (Kd.int .u8) (w0 := w2) (g + 1) rfl _ _ 24 5 (.int .u8 0) 1 rfl Tryd.underlying24 info8 rfl (by decide) (by omega) (.slice A1 acc.length c1) acc (entX x) _ _ _ (fun _ => True) (fun _ => False) rfl rfl HR2.out HN.out (fun _ _ h => h) (fun _ h => h.elim) (fun _ _ => trivial) (Below.refl _ _) ?a3 ?a4 ?_; (case a3 => exact blk_lt HB2.out); (case a4 => omega); intro v1 w4 ho hb4 hgr hat; obtain ⟨A4, c4, e4⟩ := Kd.R_slice ho; subst e4; have HA4 := Aside0.mk ho; have HO4 := Aside0.mk (blk_apart HR2.out HB2.out (by decide) hgr); have y0 : w4.cell? ⟨g, 0, none⟩ = some (.slice A1 acc.length c1) := (blk_cell HO4.out 0).trans rfl; have y1 := blk_frozen HO4.out 0; have HG4 := Aside0.mk (KeptF.grown HR2.out hgr hB (by have := HK2.out.2.1; have := HK.out.2.1; have := HG.out; omega)); clear ho hgr hat hb4))
  go_end0
  exact ⟨rfl, ⟨A4, c4, by rw [List.length_append]; exact blk_set HO4.out 0 _, R_farg HA4.out (Nat.lt_succ_self g) 0 _⟩, HK.out.trans (HK2.out.trans (HG4.out.trans (KeptF.set hB 0 _)))⟩
end Go.Proofs.YthaoiamgkpkcbaaDoor.Ms

namespace Go.Proofs.YthaoiamgkpkcbaaDoor.Ms
open Go.ChangeShapes Go.WideShapes Go.ChangeAt Go.RowKit Go.Proofs.YthaoiamgkpkcbaaDoor.Pk Go.Proofs.YthaoiamgkpkcbaaDoor.Tg Go.Proofs.YthaoiamgkpkcbaaDoor.Enc Go.Proofs.YthaoiamgkpkcbaaDoor.EncC Go.Proofs.YthaoiamgkpkcbaaDoor.EncP
open Go.Proofs.YthaoiamgkpkcbaaDoor.Hlp Go.Proofs.YthaoiamgkpkcbaaDoor.Wrd Go.Proofs.YthaoiamgkpkcbaaDoor.Lex Go.Proofs.YthaoiamgkpkcbaaDoorW.PrintWords Go.Proofs.YthaoiamgkpkcbaaDoorW.PrintLast Go.Proofs.YthaoiamgkpkcbaaDoorW.PrintMore
set_option linter.unusedVariables false
set_option linter.unusedSimpArgs false
def entL (l : List E6) : List Int := (l.map entX).flatten
theorem entL_snoc (l : List E6) (x : E6) : entL (l ++ [x]) = entL l ++ entX x := by simp [entL]
theorem entL_len : ∀ l : List E6, (∀ x ∈ l, okE x) → (entL l).length ≤ 61000 * l.length
  | [], _ => by simp [entL]
  | x :: l, h => by
    have e : entL (x :: l) = entX x ++ entL l := rfl
    have h1 := entX_len x (h x List.mem_cons_self)
    have h2 := entL_len l (fun y hy => h y (List.mem_cons_of_mem _ hy))
    rw [e, List.length_append, List.length_cons]; omega
/-- a message's bytes, part by part -/
def b1 (m : Ms) : List Int := catB [m.kind, m.fr, m.dst, m.ep, m.op]
def b2 (m : Ms) : List Int := b1 m ++ (if (hasV m.kind).n = true then catB [m.n] else [])
def b3 (m : Ms) : List Int := b2 m ++ (if (hasV m.kind).f = true then truthB m.f else [])
def b4 (m : Ms) : List Int := b3 m ++ (if (hasV m.kind).e = true then entX m.e else [])
def b5 (m : Ms) : List Int := b4 m ++ (if (hasV m.kind).l = true then catB [(m.L.length : Int)] ++ entL m.L else [])
def bytesM (m : Ms) : List Int := b5 m ++ (if (hasV m.kind).r = true then catB [m.each, m.keep, (m.R.length : Int)] ++ catB m.R else [])
structure Okm (m : Ms) : Prop where
  kd : 1 ≤ m.kind ∧ m.kind ≤ 17
  fr : 0 ≤ m.fr ∧ m.fr ≤ 1048575
  dst : 0 ≤ m.dst ∧ m.dst ≤ 1048575
  ep : 0 ≤ m.ep ∧ m.ep ≤ 1099511627775
  op : 0 ≤ m.op ∧ m.op ≤ 1099511627775
  n : 0 ≤ m.n ∧ m.n ≤ 1099511627775
  n0 : (hasV m.kind).n = true ∨ m.n = 0
  f0 : (hasV m.kind).f = true ∨ m.f = false
  l0 : (hasV m.kind).l = true ∨ m.L.length = 0
  len : m.L.length ≤ 1000
  all : ∀ x ∈ m.L, okE x
  e1 : (hasV m.kind).e = true → okE m.e
  e0 : (hasV m.kind).e = false → zeroB m.e = true ∧ m.e.f2.f1.length = 0
  r1 : (hasV m.kind).r = true → ringB m.R m.each m.keep = true
  r0 : (hasV m.kind).r = false → noneB m.R m.each m.keep = true
theorem okm_iff (m : Ms) : a4 m = true ↔ Okm m := by
  constructor
  · intro h
    have x3 : a3 m = true := by
      unfold a4 at h
      split at h <;> (rw [Bool.and_eq_true] at h; exact h.1)
    have xr1 : (hasV m.kind).r = true → ringB m.R m.each m.keep = true := by
      intro hr; unfold a4 at h; rw [if_pos hr, Bool.and_eq_true] at h; exact h.2
    have xr0 : (hasV m.kind).r = false → noneB m.R m.each m.keep = true := by
      intro hr; unfold a4 at h; rw [hr, if_neg (by decide), Bool.and_eq_true] at h; exact h.2
    have x2 : a2 m = true := by
      unfold a3 at x3
      split at x3
      · rw [Bool.and_eq_true] at x3; exact x3.1
      · rw [Bool.and_eq_true, Bool.and_eq_true] at x3; exact x3.1.1
    have xe1 : (hasV m.kind).e = true → okE m.e := by
      intro he; unfold a3 at x3; rw [if_pos he, Bool.and_eq_true] at x3; exact of_decide_eq_true x3.2
    have xe0 : (hasV m.kind).e = false → zeroB m.e = true ∧ m.e.f2.f1.length = 0 := by
      intro he; unfold a3 at x3; rw [he, if_neg (by decide), Bool.and_eq_true, Bool.and_eq_true] at x3; exact ⟨x3.1.2, of_decide_eq_true x3.2⟩
    unfold a2 a1 withinB rightB at x2
    simp only [Bool.and_eq_true, decide_eq_true_eq, Bool.or_eq_true, beq_iff_eq, Bool.not_eq_true'] at x2
    obtain ⟨⟨⟨⟨⟨⟨⟨⟨⟨y0, y1⟩, y2⟩, y3⟩, y4⟩, y5⟩, y6⟩, y7⟩, y8⟩, y9, y10⟩ := x2
    exact ⟨y0, y1, y2, y3, y4, y5, y6, y7, y8, y9, y10, xe1, xe0, xr1, xr0⟩
  · intro h
    have hw : a1 m = true := by
      unfold a1 withinB
      simp only [Bool.and_eq_true, decide_eq_true_eq]
      exact ⟨⟨⟨⟨⟨h.kd, h.fr⟩, h.dst⟩, h.ep⟩, h.op⟩, h.n⟩
    have hr : a2 m = true := by
      unfold a2 rightB
      simp only [Bool.and_eq_true, decide_eq_true_eq, Bool.or_eq_true, beq_iff_eq, Bool.not_eq_true']
      exact ⟨⟨⟨⟨hw, h.n0⟩, h.f0⟩, h.l0⟩, h.len, h.all⟩
    have he : a3 m = true := by
      unfold a3
      cases hh : (hasV m.kind).e
      · simp [hr, h.e0 hh]
      · simp [hr, h.e1 hh]
    unfold a4
    cases hh : (hasV m.kind).r
    · simp [he, h.r0 hh]
    · simp [he, h.r1 hh]
theorem ring_len {R : List Int} {e k : Int} (h : ringB R e k = true) : R.length ≤ 64 := by
  unfold ringB at h
  simp only [Bool.and_eq_true, decide_eq_true_eq] at h
  exact h.1.1.2
end Go.Proofs.YthaoiamgkpkcbaaDoor.Ms

namespace Go.Proofs.YthaoiamgkpkcbaaDoor.Ms
open Go.ChangeShapes Go.WideShapes Go.ChangeAt Go.RowKit Go.Proofs.YthaoiamgkpkcbaaDoor.Pk Go.Proofs.YthaoiamgkpkcbaaDoor.Tg Go.Proofs.YthaoiamgkpkcbaaDoor.Enc Go.Proofs.YthaoiamgkpkcbaaDoor.EncC Go.Proofs.YthaoiamgkpkcbaaDoor.EncP
open Go.Proofs.YthaoiamgkpkcbaaDoor.Hlp Go.Proofs.YthaoiamgkpkcbaaDoor.Wrd Go.Proofs.YthaoiamgkpkcbaaDoor.Lex Go.Proofs.YthaoiamgkpkcbaaDoorW.PrintWords Go.Proofs.YthaoiamgkpkcbaaDoorW.PrintLast Go.Proofs.YthaoiamgkpkcbaaDoorW.PrintMore
set_option linter.unusedVariables false
set_option linter.unusedSimpArgs false
theorem C_inK {k : IntKind} {w : World} {A : Option Addr} {n : Nat} {xs : List Int} (h : Kd.C (Kd.int k) w A n xs) : ∀ p o, A = some ⟨p, o, none⟩ → xs ≠ [] → p < w.heap.size := by
  intro p o e h0
  obtain rfl : xs.length = n := h.1
  obtain ⟨b, off, e2, hc⟩ := C_block h (List.length_pos_iff.2 h0)
  rw [e] at e2; injection e2 with e2; injection e2 with e2 _; subst e2
  exact block_lt_of_cell (hc 0 (List.length_pos_iff.2 h0))
/-- while a message's bytes are laid: those there are, the message in its block, and what stood -/
structure Sb (w wi : World) (m : Ms) (p : Pl) (g : Nat) (acc : List Int) : Prop where
  out : Out wi g acc
  blk : wi.heap[w.heap.size]? = some (.cells (m.val p) 34 (0, 0))
  up : Below w.heap.size w wi
  lt : w.heap.size < g
theorem Sb.free {w wi : World} {m : Ms} {p : Pl} {g : Nat} {acc : List Int} (h : Sb w wi m p g acc) : Free wi w.heap.size g w.heap.size :=
  ⟨blk_lt h.blk, .inr ⟨Nat.ne_of_lt h.lt, fun cs fr e => by rw [h.blk] at e; injection e with e; injection e with _ e _; exact absurd e (by decide)⟩⟩
theorem Sb.step {w wi w' : World} {m : Ms} {p : Pl} {g : Nat} {acc acc' : List Int} (h : Sb w wi m p g acc) (hO : Out w' g acc') (hK : KeptF wi w' w.heap.size g) : Sb w w' m p g acc' :=
  ⟨hO, (hK.2.2 _ h.free).trans h.blk, h.up.trans hK.1, h.lt⟩
theorem Sb.below {w wi w' : World} {m : Ms} {p : Pl} {g : Nat} {acc : List Int} (h : Sb w wi m p g acc) (hb : Below wi.heap.size wi w') : Sb w w' m p g acc :=
  h.step (h.out.below hb) (KeptF.below hb h.up.size)
/-- numbers that a literal holds, laid behind the bytes there are -/
theorem nums_lit {w wi : World} {m : Ms} {p : Pl} {g n n' : Nat} {acc ys : List Int} (xs : List Int) {cs : Array Value} (h : Sb w wi m p g acc) (hcs : cs.toList = xs.map (Value.int .i64)) (hn : cs.size = n) (hn' : n ≤ n') (hy : acc ++ catB xs = ys) (hl : acc.length + 9 * xs.length ≤ 17592186044415) (hx : xs.length ≤ 100) :
    Calls Tryd.prog 28 #[.slice (some ⟨wi.heap.size, 0, none⟩) n n', .pointer (some ⟨g, 0, none⟩)] (wi.alloc (.cells cs 3)) fun e w' => e = .returned (.tuple #[]) ∧ Sb w w' m p g ys := by
  subst hn hy
  have hb := below_alloc (Below.refl wi.heap.size wi) (.cells cs 3)
  have h2 := h.below hb
  have hc := C_blki (k := .i64) xs (blk_new wi (.cells cs 3)) (by rw [← Array.length_toList, hcs, List.length_map]; omega) hcs
  refine (nums_b h2.out (Nat.le_of_lt h.lt) hc hn' (fun p o e _ => ?_) hl).mono ?_
  · injection e with e; injection e with e _
    subst e
    refine ⟨by rw [size1]; exact Nat.lt_succ_self _, .inr ⟨?_, ?_⟩⟩
    · obtain ⟨_, _, hb, _⟩ := h.out; exact Nat.ne_of_gt (blk_lt hb)
    · intro cs' fr e
      rw [show (wi.alloc (.cells cs 3)).heap[wi.heap.size]? = _ from blk_new wi (.cells cs 3)] at e
      injection e with e; injection e with _ e _; exact absurd e (by decide)
  · rintro e w' ⟨rfl, hO, hK⟩
    exact ⟨rfl, h2.step hO hK⟩
/-- numbers of a row that came, laid behind the bytes there are -/
theorem nums_arg {w wi : World} {m : Ms} {p : Pl} {g n c : Nat} {acc ys : List Int} {A : Option Addr} (xs : List Int) (h : Sb w wi m p g acc) (hx : Kd.C (Kd.int .i64) w A n xs) (hc : n ≤ c) (hy : acc ++ catB xs = ys) (hl : acc.length + 9 * xs.length ≤ 17592186044415) :
    Calls Tryd.prog 28 #[.slice A n c, .pointer (some ⟨g, 0, none⟩)] wi fun e w' => e = .returned (.tuple #[]) ∧ Sb w w' m p g ys := by
  subst hy
  refine (nums_b h.out (Nat.le_of_lt h.lt) (Kd.C_below hx h.up) hc (fun p o e h0 => ?_) hl).mono ?_
  · have := C_inK hx p o e h0
    exact ⟨Nat.lt_of_lt_of_le this h.up.size, .inl this⟩
  · rintro e w' ⟨rfl, hO, hK⟩
    exact ⟨rfl, h.step hO hK⟩
/-- an entry, laid behind the bytes there are -/
theorem entry_s {w wi : World} {m : Ms} {p : Pl} {g n d : Nat} {acc ys : List Int} {A : Option Addr} (x : E6) (hx : okE x) (h : Sb w wi m p g acc) (hr : Kd.C (Kd.int .u8) wi A n x.f2.f1) (hc : n ≤ d) (hy : acc ++ entX x = ys) (hl : acc.length + 61000 ≤ 17592186044415) :
    Calls Tryd.prog 30 #[.agg #[.string x.f0, .int .i64 x.f1.f0, .int .i64 x.f1.f1, .int .i64 x.f1.f2, .bool x.f2.f0, .slice A n d], .pointer (some ⟨g, 0, none⟩)] wi fun e w' => e = .returned (.tuple #[]) ∧ Sb w w' m p g ys := by
  subst hy
  refine (entry_b x hx h.out (Nat.le_of_lt h.lt) hr hc hl).mono ?_
  rintro e w' ⟨rfl, hO, hK⟩
  exact ⟨rfl, h.step hO hK⟩
set_option maxHeartbeats 4000000 in
set_option maxRecDepth 100000 in
theorem bytes_no {w : World} {m : Ms} {p : Pl} (hK : Kin w) (hm : Lies w m p) (hv : Bytes m.e.f2.f1) (hR : m.R.length < 9223372036854775807) (hno : checkM m = 2) :
    Calls Tryd.prog 12 #[.agg (m.val p)] w fun e w' => e = .returned (.tuple #[.slice none 0 0, .int .i64 2]) ∧ Below w.heap.size w w' := by
  have hbn := blk_new w (.cells (m.val p) 34)
  have HBN := Aside0.mk hbn
  have HW := Aside0.mk (below_alloc (Below.refl w.heap.size w) (.cells (m.val p) 34))
  have HK := Aside0.mk (hK.below HW.out)
  have HM := Aside0.mk (hm.below HW.out)
  have HV := Aside0.mk hv
  have HL := Aside0.mk hR
  have HN := Aside0.mk hno
  clear hK hm hv hbn hR hno
  go_enter Tryd.func12, Tryd.ntmps12
  go_upto_region 1 with fail
  generalize w.alloc (.cells (m.val p) 34) = W at *
  go_wp2_with (first | (refine wpList_load_row rfl 34 (.tmp 1) rfl w.heap.size rfl 34 (m.val p) (0, 0) _ HBN.out Tryd.underlying34 rfl (by kernel_rfl) ?_) | (go_at_call 15; (with_reducible refine (check_ HK.out HM.out HV.out HL.out).mono ?_); rw [HN.out]; rintro e w1 ⟨rfl, hb⟩; have HB1 := Aside0.mk hb; clear hb))
  go_ret2
  exact ⟨rfl, HW.out.trans (HB1.out.mono HW.out.size)⟩
end Go.Proofs.YthaoiamgkpkcbaaDoor.Ms
