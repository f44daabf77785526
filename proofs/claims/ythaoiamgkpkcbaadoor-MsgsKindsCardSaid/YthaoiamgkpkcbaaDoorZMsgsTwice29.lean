/- The contract of icehouselaw12.known: it returns true. Conditions: the table lies in its variable. · What an argument that is a message reads as. Conditions: none. -/
import Derived.Test.YthaoiamgkpkcbaaDoorZMsgsTwice28
import Derived.Test.YthaoiamgkpkcbaaDoorZMsgsTwice1
namespace Go.Proofs.YthaoiamgkpkcbaaDoor.Ms
open Go.ChangeShapes Go.WideShapes Go.ChangeAt Go.RowKit Go.Proofs.YthaoiamgkpkcbaaDoor.Pk Go.Proofs.YthaoiamgkpkcbaaDoor.Tg Go.Proofs.YthaoiamgkpkcbaaDoor.Enc Go.Proofs.YthaoiamgkpkcbaaDoor.EncC Go.Proofs.YthaoiamgkpkcbaaDoor.EncP
open Go.Proofs.YthaoiamgkpkcbaaDoor.Hlp Go.Proofs.YthaoiamgkpkcbaaDoor.Wrd Go.Proofs.YthaoiamgkpkcbaaDoor.Lex Go.Proofs.YthaoiamgkpkcbaaDoorW.PrintWords Go.Proofs.YthaoiamgkpkcbaaDoorW.PrintLast Go.Proofs.YthaoiamgkpkcbaaDoorW.PrintMore
set_option linter.unusedVariables false
set_option linter.unusedSimpArgs false
theorem numB_zero : numB 0 = [0] := by
  have : word 0 = 0 := rfl
  unfold numB; rw [this, beR_zero]; rfl
theorem numB_small {n : Nat} (h : 0 < n) (h2 : n < 256) : numB (n : Int) = [1, (n : Int)] := by
  have hw : word (n : Int) = n := by unfold word; omega
  unfold numB
  rw [hw, beR_pos (by omega), show n / 256 = 0 by omega, beR_zero, show n % 256 = n by omega]
  rfl
/-- the chapter's example -/
def mBeat : Ms := ⟨17, 3, 0, 0, 0, 0, false, zE, [], [], 0, 0⟩
theorem bytes_beat : bytesM mBeat = [1, 17, 1, 3, 0, 0, 0] := by
  have h : hasV 17 = ⟨false, false, false, false, false⟩ := rfl
  unfold bytesM b5 b4 b3 b2 b1 mBeat
  simp only [h]
  have e1 : numB 17 = [1, 17] := numB_small (n := 17) (by decide) (by decide)
  have e2 : numB 3 = [1, 3] := numB_small (n := 3) (by decide) (by decide)
  simp [catB, e1, e2, numB_zero]
theorem okm_beat : Okm mBeat := by
  have h : hasV 17 = ⟨false, false, false, false, false⟩ := rfl
  refine ⟨by decide, by decide, by decide, by decide, by decide, by decide, .inr rfl, .inr rfl, .inr rfl, by decide, (fun x hx => by cases hx), fun hh => ?_, fun _ => ?_, fun hh => ?_, fun _ => ?_⟩
  · rw [show mBeat.kind = 17 from rfl, h] at hh; cases hh
  · exact ⟨by unfold zeroB; exact decide_eq_true ⟨by rw [show mBeat.e.f0 = (⟨#[]⟩ : ByteArray) from rfl, EncC.toList_eq], rfl, rfl, rfl, rfl⟩, rfl⟩
  · rw [show mBeat.kind = 17 from rfl, h] at hh; cases hh
  · exact decide_eq_true ⟨rfl, rfl, rfl⟩
theorem lies_nil (w : World) (m : Ms) (hv : m.e.f2.f1 = []) (hl : m.L = []) (hr : m.R = []) : Lies w m nP := by
  constructor
  · rw [hv]; exact C_empty
  · rw [hv]; exact Nat.le_refl _
  · rw [hl]; exact Kd.C_nil _ _
  · rw [hl]; exact Nat.le_refl _
  · rw [hr]; exact C_empty
  · rw [hr]; exact Nat.le_refl _
theorem bytes_k {w : World} (hK : Kin w) : Calls Tryd.prog 12 #[.agg #[.int .i64 17, .int .i64 3, .int .i64 0, .int .i64 0, .int .i64 0, .int .i64 0, .bool false, .string ⟨#[]⟩, .int .i64 0, .int .i64 0, .int .i64 0, .bool false, .slice none 0 0, .slice none 0 0, .slice none 0 0, .int .i64 0, .int .i64 0]] w (Made2 w [1, 17, 1, 3, 0, 0, 0] 0) := by
  have := bytes_ok (w := w) (m := mBeat) (p := nP) hK (lies_nil _ _ rfl rfl rfl) (by intro x hx; cases hx) (by decide) okm_beat
  rw [bytes_beat] at this
  exact this
theorem read_0 : readM [0] = (zM, 11) := by kernel_rfl
theorem read_k {w : World} {A : Option Addr} {c : Nat} (hK : Kin w) (hr : Kd.C (Kd.int .u8) w A 1 [0]) (hc : 1 ≤ c) : Calls Tryd.prog 17 #[.slice A 1 c] w fun x w' => ∃ vA vc lA lc rA rc, x = .returned (.tuple #[.agg #[.int .i64 0, .int .i64 0, .int .i64 0, .int .i64 0, .int .i64 0, .int .i64 0, .bool false, .string ⟨#[]⟩, .int .i64 0, .int .i64 0, .int .i64 0, .bool false, .slice vA 0 vc, .slice lA 0 lc, .slice rA 0 rc, .int .i64 0, .int .i64 0], .int .i64 11]) ∧ Below w.heap.size w w' := by
  refine (read_m hK hr hc (fun x hx => by simp at hx; omega) (by decide)).mono ?_
  rw [read_0]
  rintro x w' ⟨p, rfl, _, hb⟩
  exact ⟨p.vA, p.vc, p.lA, p.lc, p.rA, p.rc, rfl, hb⟩
set_option maxHeartbeats 4000000 in
set_option maxRecDepth 100000 in
theorem known_ (w : World) (hK : Kin w) : Calls Tryd.prog 11 #[] w fun e w' => e = .returned (.bool true) ∧ Below w.heap.size w w' := by
  have HK := Aside0.mk hK
  clear hK
  go_enter Tryd.func11, Tryd.ntmps11
  go_upto_region 2 with (go_at_call 12; (with_reducible refine (bytes_k HK.out).mono ?_); rintro x w1 ⟨v, rfl, hR, hb⟩; obtain ⟨A1, c1, rfl, hc1, hC⟩ := Kd.R_reads hR; have HC1 := Aside0.mk hC; have HB1 := Aside0.mk hb; clear hR hC hb)
  have HZ := Aside0.mk (C_blki (k := .u8) [0] (blk_new w1 (.cells #[.int .u8 0] 5)) (by decide) rfl)
  have HK1 := Aside0.mk (HK.out.below HB1.out |>.below (below_alloc (Below.refl _ _) (.cells #[.int .u8 0] 5)))
  have HC2 := Aside0.mk (Kd.C_alloc HC1.out (.cells #[.int .u8 0] 5))
  have HB2 := Aside0.mk (below_alloc HB1.out (.cells #[.int .u8 0] 5))
  go_upto_region 3 with (go_at_call 17; (with_reducible refine (read_k HK1.out HZ.out (by decide)).mono ?_); rintro x w2 ⟨vA, vc, lA, lc, rA, rc, rfl, hb⟩; have HC3 := Aside0.mk (Kd.C_below HC2.out hb); have HB3 := Aside0.mk (below_step HB2.out hb); clear hb)
  have HB4 := Aside0.mk (below_alloc HB3.out (.cells #[.int .i64 0, .int .i64 0, .int .i64 0, .int .i64 0, .int .i64 0, .int .i64 0, .bool false, .string ⟨#[]⟩, .int .i64 0, .int .i64 0, .int .i64 0, .bool false, .slice vA 0 vc, .slice lA 0 lc, .slice rA 0 rc, .int .i64 0, .int .i64 0] 34))
  have HC4 : Aside0 (Kd.C (Kd.int .u8) (w2.alloc (.cells #[.int .i64 0, .int .i64 0, .int .i64 0, .int .i64 0, .int .i64 0, .int .i64 0, .bool false, .string ⟨#[]⟩, .int .i64 0, .int .i64 0, .int .i64 0, .bool false, .slice vA 0 vc, .slice lA 0 lc, .slice rA 0 rc, .int .i64 0, .int .i64 0] 34)) A1 7 [1, 17, 1, 3, 0, 0, 0]) := ⟨Kd.C_alloc HC3.out _⟩
  have hc7 : 7 ≤ c1 := hc1
  generalize w2.alloc (.cells #[.int .i64 0, .int .i64 0, .int .i64 0, .int .i64 0, .int .i64 0, .int .i64 0, .bool false, .string ⟨#[]⟩, .int .i64 0, .int .i64 0, .int .i64 0, .bool false, .slice vA 0 vc, .slice lA 0 lc, .slice rA 0 rc, .int .i64 0, .int .i64 0] 34) = w3 at *
  have HC5 := Aside0.mk (Kd.C_alloc HC4.out (.cells #[.int .u8 1, .int .u8 17, .int .u8 1, .int .u8 3, .int .u8 0, .int .u8 0, .int .u8 0] 5))
  have HD5 := Aside0.mk (C_blki (k := .u8) [1, 17, 1, 3, 0, 0, 0] (blk_new w3 (.cells #[.int .u8 1, .int .u8 17, .int .u8 1, .int .u8 3, .int .u8 0, .int .u8 0, .int .u8 0] 5)) (by decide) rfl)
  have HB5 := Aside0.mk (below_alloc HB4.out (.cells #[.int .u8 1, .int .u8 17, .int .u8 1, .int .u8 3, .int .u8 0, .int .u8 0, .int .u8 0] 5))
  go_wp2_with (go_at_call 14; (with_reducible refine (same_c (n := 7) (m := 7) HC5.out hc7 HD5.out (Nat.le_refl _)).mono ?_); rintro x w4 ⟨rfl, hd⟩; have HB6 := Aside0.mk (below_step HB5.out hd.below); clear hd)
  go_ret
  exact ⟨rfl, HB6.out⟩
end Go.Proofs.YthaoiamgkpkcbaaDoor.Ms

namespace Go.Proofs.YthaoiamgkpkcbaaDoor.Opn
open Go.RowKit Go.Proofs.YthaoiamgkpkcbaaDoor.Ms Go.Proofs.YthaoiamgkpkcbaaDoorW.PrintWords
set_option linter.unusedVariables false
abbrev S23 := QL.S23
abbrev S26 := QL.S26
theorem opens_S23 : Opens Tryd.prog 23 QL.k23 (fun x : S23 => wTag (x.f0, x.f1, x.f2)) :=
  @opens_iso _ _ _ _ _ _ @opens_tag (fun x : S23 => (x.f0, x.f1, x.f2)) (fun p => ⟨p.1, p.2.1, p.2.2⟩) (fun _ => rfl)
theorem opens_S26 : Opens Tryd.prog 26 QL.k26 (fun x : S26 => wVal (x.f0, x.f1)) :=
  @opens_iso _ _ _ _ _ _ @opens_val (fun x : S26 => (x.f0, x.f1)) (fun p => ⟨p.1, p.2⟩) (fun _ => rfl)
def wE (x : E6) : Prop := x.f0.size ≤ 140737488351232 ∧ wTag (x.f1.f0, x.f1.f1, x.f1.f2) ∧ wVal (x.f2.f0, x.f2.f1)
theorem opens_E0 : Opens Tryd.prog 28 (Kd.pair Kd.string (Kd.pair QL.k23 QL.k26)) (fun p : ByteArray × S23 × S26 => p.1.size ≤ 140737488351232 ∧ wTag (p.2.1.f0, p.2.1.f1, p.2.1.f2) ∧ wVal (p.2.2.f0, p.2.2.f1)) := by
  refine @opens_struct _ _ _ _ _ _ Tryd.underlying28 (by kernel_rfl) ?_
  refine @fopens_cons Tryd.prog _ _ 0 _ _ (Kd.string) (Kd.pair QL.k23 QL.k26) (fun s => s.size ≤ 140737488351232) (fun q : S23 × S26 => wTag (q.1.f0, q.1.f1, q.1.f2) ∧ wVal (q.2.f0, q.2.f1)) rfl (by kernel_rfl) ?_ ?_
  · exact @opens_string _ _ Tryd.underlying9
  refine @fopens_cons Tryd.prog _ _ 1 _ _ QL.k23 QL.k26 (fun x : S23 => wTag (x.f0, x.f1, x.f2)) (fun x : S26 => wVal (x.f0, x.f1)) rfl (by kernel_rfl) ?_ ?_
  · exact @opens_S23
  exact @fopens_one Tryd.prog _ 4 _ QL.k26 (fun x : S26 => wVal (x.f0, x.f1)) rfl (by kernel_rfl) (@opens_S26)
theorem opens_E : Opens Tryd.prog 28 kE wE :=
  @opens_iso _ _ _ _ _ _ @opens_E0 (fun x : E6 => (x.f0, x.f1, x.f2)) (fun p => ⟨p.1, p.2.1, p.2.2⟩) (fun _ => rfl)
def wL (l : List E6) : Prop := l.length ≤ maxLen ∧ l.length * 72 ≤ 140737488351232 ∧ ∀ x ∈ l, wE x
def wI (l : List Int) : Prop := l.length ≤ maxLen ∧ l.length * 8 ≤ 140737488351232 ∧ ∀ x ∈ l, wInt x
abbrev kRing : Kd (List Int × Int × Int) := Kd.pair (Kd.slice 3 (Kd.int .i64)) (Kd.pair (Kd.int .i64) (Kd.int .i64))
def wRing (p : List Int × Int × Int) : Prop := wI p.1 ∧ wInt p.2.1 ∧ wInt p.2.2
theorem opens_ring : Opens Tryd.prog 32 kRing wRing := by
  refine @opens_struct _ _ _ _ _ _ Tryd.underlying32 (by kernel_rfl) ?_
  refine @fopens_cons Tryd.prog _ _ 0 _ _ (Kd.slice 3 (Kd.int .i64)) (Kd.pair (Kd.int .i64) (Kd.int .i64)) wI (fun q => wInt q.1 ∧ wInt q.2) rfl (by kernel_rfl) ?_ ?_
  · exact @opens_slice _ _ _ _ _ _ 8 Tryd.underlying30 (by kernel_rfl) (by kernel_rfl) (@opens_int _ _ _ Tryd.underlying3)
  refine @fopens_cons Tryd.prog _ _ 1 _ _ (Kd.int .i64) (Kd.int .i64) wInt wInt rfl (by kernel_rfl) ?_ ?_
  · exact @opens_int _ _ _ Tryd.underlying3
  exact @fopens_one Tryd.prog _ 2 _ (Kd.int .i64) wInt rfl (by kernel_rfl) (@opens_int _ _ _ Tryd.underlying3)
abbrev kM9 : Kd (List E6 × List Int × Int × Int) := Kd.pair (Kd.slice 28 kE) kRing
abbrev kM8 : Kd (E6 × List E6 × List Int × Int × Int) := Kd.pair kE kM9
abbrev kM7 : Kd (Bool × E6 × List E6 × List Int × Int × Int) := Kd.pair Kd.bool kM8
abbrev kM6 := Kd.pair (Kd.int .i64) kM7
abbrev kM5 := Kd.pair (Kd.int .i64) kM6
abbrev kM4 := Kd.pair (Kd.int .i64) kM5
abbrev kM3 := Kd.pair (Kd.int .i64) kM4
abbrev kM2 := Kd.pair (Kd.int .i64) kM3
abbrev kMsg := Kd.pair (Kd.int .i64) kM2
abbrev TM := Int × Int × Int × Int × Int × Int × Bool × E6 × List E6 × List Int × Int × Int
def wM9 (p : List E6 × List Int × Int × Int) : Prop := wL p.1 ∧ wRing p.2
def wM8 (p : E6 × List E6 × List Int × Int × Int) : Prop := wE p.1 ∧ wM9 p.2
def wM7 (p : Bool × E6 × List E6 × List Int × Int × Int) : Prop := True ∧ wM8 p.2
def wM6 (p : Int × Bool × E6 × List E6 × List Int × Int × Int) : Prop := wInt p.1 ∧ wM7 p.2
def wM5 (p : Int × Int × Bool × E6 × List E6 × List Int × Int × Int) : Prop := wInt p.1 ∧ wM6 p.2
def wM4 (p : Int × Int × Int × Bool × E6 × List E6 × List Int × Int × Int) : Prop := wInt p.1 ∧ wM5 p.2
def wM3 (p : Int × Int × Int × Int × Bool × E6 × List E6 × List Int × Int × Int) : Prop := wInt p.1 ∧ wM4 p.2
def wM2 (p : Int × Int × Int × Int × Int × Bool × E6 × List E6 × List Int × Int × Int) : Prop := wInt p.1 ∧ wM3 p.2
def wMsg (p : TM) : Prop := wInt p.1 ∧ wM2 p.2
theorem opens_msg : Opens Tryd.prog 34 kMsg wMsg := by
  refine @opens_struct _ _ _ _ _ _ Tryd.underlying34 (by kernel_rfl) ?_
  refine @fopens_cons Tryd.prog _ _ 0 _ _ (Kd.int .i64) kM2 wInt wM2 rfl (by kernel_rfl) (@opens_int _ _ _ Tryd.underlying3) ?_
  refine @fopens_cons Tryd.prog _ _ 1 _ _ (Kd.int .i64) kM3 wInt wM3 rfl (by kernel_rfl) (@opens_int _ _ _ Tryd.underlying3) ?_
  refine @fopens_cons Tryd.prog _ _ 2 _ _ (Kd.int .i64) kM4 wInt wM4 rfl (by kernel_rfl) (@opens_int _ _ _ Tryd.underlying3) ?_
  refine @fopens_cons Tryd.prog _ _ 3 _ _ (Kd.int .i64) kM5 wInt wM5 rfl (by kernel_rfl) (@opens_int _ _ _ Tryd.underlying3) ?_
  refine @fopens_cons Tryd.prog _ _ 4 _ _ (Kd.int .i64) kM6 wInt wM6 rfl (by kernel_rfl) (@opens_int _ _ _ Tryd.underlying3) ?_
  refine @fopens_cons Tryd.prog _ _ 5 _ _ (Kd.int .i64) kM7 wInt wM7 rfl (by kernel_rfl) (@opens_int _ _ _ Tryd.underlying3) ?_
  refine @fopens_cons Tryd.prog _ _ 6 _ _ Kd.bool kM8 (fun _ => True) wM8 rfl (by kernel_rfl) (@opens_bool _ _ Tryd.underlying4) ?_
  refine @fopens_cons Tryd.prog _ _ 7 _ _ kE kM9 wE wM9 rfl (by kernel_rfl) (@opens_E) ?_
  refine @fopens_cons Tryd.prog _ _ 13 _ _ (Kd.slice 28 kE) kRing wL wRing rfl (by kernel_rfl) (@opens_slice _ _ _ _ _ _ 72 Tryd.underlying29 (by kernel_rfl) (by kernel_rfl) (@opens_E)) ?_
  exact @fopens_one Tryd.prog _ 14 _ kRing wRing rfl (by kernel_rfl) (@opens_ring)
def toMs (a : TM) : Ms.Ms := ⟨a.1, a.2.1, a.2.2.1, a.2.2.2.1, a.2.2.2.2.1, a.2.2.2.2.2.1, a.2.2.2.2.2.2.1, a.2.2.2.2.2.2.2.1, a.2.2.2.2.2.2.2.2.1, a.2.2.2.2.2.2.2.2.2.1, a.2.2.2.2.2.2.2.2.2.2.1, a.2.2.2.2.2.2.2.2.2.2.2⟩
/-- what a message that came is known to be -/
structure Wm (m : Ms.Ms) : Prop where
  e : Bytes m.e.f2.f1
  el : m.e.f2.f1.length ≤ 140737488351232
  l : ∀ x ∈ m.L, Bytes x.f2.f1 ∧ x.f2.f1.length ≤ 140737488351232
  ll : m.L.length ≤ 1954687338213
  rl : m.R.length ≤ 17592186043904
theorem u8_rng {x : Int} (h : (Lit.int .u8 x).wf = true) : 0 ≤ x ∧ x < 256 := by
  simp [Lit.wf] at h
  have h2 := h.2
  simp [IntKind.max, IntKind.bits, IntKind.signed] at h2
  exact ⟨h.1, by omega⟩
theorem wm_of {a : TM} (h : wMsg a) : Wm (toMs a) := by
  obtain ⟨_, _, _, _, _, _, _, ⟨_, _, _, hb1, hb2, hb3⟩, ⟨hl1, hl2, hl3⟩, ⟨hr1, hr2, _⟩, _⟩ := h
  exact ⟨fun x hx => u8_rng (hb3 x hx), by have : a.2.2.2.2.2.2.2.1.f2.f1.length * 1 ≤ 140737488351232 := hb2; show a.2.2.2.2.2.2.2.1.f2.f1.length ≤ _; omega, fun x hx => by
    obtain ⟨_, _, _, h1, h2, h3⟩ := hl3 x hx
    exact ⟨fun y hy => u8_rng (h3 y hy), by have : x.f2.f1.length * 1 ≤ 140737488351232 := h2; omega⟩, by show a.2.2.2.2.2.2.2.2.1.length ≤ _; omega, by show a.2.2.2.2.2.2.2.2.2.1.length ≤ _; omega⟩
theorem msg_cells {w : World} {cs : List Value} {a : TM} (h : kMsg.K w a cs) : ∃ p : Pl, cs = ((toMs a).val p).toList ∧ Lies w (toMs a) p := by
  obtain ⟨_, _, rfl, rfl, _, _, rfl, rfl, _, _, rfl, rfl, _, _, rfl, rfl, _, _, rfl, rfl, _, _, rfl, rfl, _, _, rfl, rfl, _, _, rfl, hE, _, _, rfl, ⟨lA, lc, rfl, hlc, hl⟩, _, _, rfl, ⟨rA, rc, rfl, hrc, hr⟩, _, _, rfl, rfl, rfl⟩ := h
  obtain ⟨vA, vc, rfl, hvc, hv⟩ := QL.k28_open hE
  exact ⟨⟨vA, vc, lA, lc, rA, rc⟩, rfl, hv, hvc, hl, hlc, hr, hrc⟩
end Go.Proofs.YthaoiamgkpkcbaaDoor.Opn
