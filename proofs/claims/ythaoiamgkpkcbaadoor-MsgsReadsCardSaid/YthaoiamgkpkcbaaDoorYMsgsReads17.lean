/- The contract of icehouselaw12.known: it returns true. Conditions: the table lies in its variable. · What an argument that is a message reads as. Conditions: none. · A message's bytes are read as it was; cut short something is missing. Plain. Conditions: a message that may be. · The contract of the reference's Bytes. Conditions: an entry that fits in memory. · The reference's Get, GetTruth, GetNum and GetRow, by what the reader's peek tells. Conditions: bytes that fit in memory. · The reference's GetRow. Conditions: bytes that fit in memory. -/
import Derived.Test.YthaoiamgkpkcbaaDoorYMsgsReads16
import Derived.Test.YthaoiamgkpkcbaaDoorYMsgsReads4
import Derived.Test.YthaoiamgkpkcbaaDoorYMsgsReads13

namespace Go.Proofs.YthaoiamgkpkcbaaDoor.Ms
open Go.ChangeShapes Go.WideShapes Go.ChangeAt Go.RowKit Go.Proofs.YthaoiamgkpkcbaaDoor.Pk Go.Proofs.YthaoiamgkpkcbaaDoor.Tg Go.Proofs.YthaoiamgkpkcbaaDoor.Enc Go.Proofs.YthaoiamgkpkcbaaDoor.EncC Go.Proofs.YthaoiamgkpkcbaaDoor.EncP
open Go.Proofs.YthaoiamgkpkcbaaDoor.Hlp Go.Proofs.YthaoiamgkpkcbaaDoor.Wrd Go.Proofs.YthaoiamgkpkcbaaDoor.Lex Go.Proofs.YthaoiamgkpkcbaaDoorW.PrintWords Go.Proofs.YthaoiamgkpkcbaaDoorW.PrintLast Go.Proofs.YthaoiamgkpkcbaaDoorW.PrintMore
set_option linter.unusedVariables false
set_option linter.unusedSimpArgs false
theorem numB_zero : numB 0 = [0] := by
  have : word 0 = 0 := rfl
  unfold numB; rw [this, beR_zero]; rfl
theorem numB_small {n : Nat} (h : 0 < n) (h2 : n < 256) : numB (n : Int) = [1, (n : Int)] := by
  have hw : word (n : Int) = n := by unfold word; omega
  unfold numB
  rw [hw, beR_pos (by omega), show n / 256 = 0 by omega, beR_zero, show n % 256 = n by omega]
  rfl
/-- the chapter's example -/
def mBeat : Ms := ⟨17, 3, 0, 0, 0, 0, false, zE, [], [], 0, 0⟩
theorem bytes_beat : bytesM mBeat = [1, 17, 1, 3, 0, 0, 0] := by
  have h : hasV 17 = ⟨false, false, false, false, false⟩ := rfl
  unfold bytesM b5 b4 b3 b2 b1 mBeat
  simp only [h]
  have e1 : numB 17 = [1, 17] := numB_small (n := 17) (by decide) (by decide)
  have e2 : numB 3 = [1, 3] := numB_small (n := 3) (by decide) (by decide)
  simp [catB, e1, e2, numB_zero]
theorem okm_beat : Okm mBeat := by
  have h : hasV 17 = ⟨false, false, false, false, false⟩ := rfl
  refine ⟨by decide, by decide, by decide, by decide, by decide, by decide, .inr rfl, .inr rfl, .inr rfl, by decide, (fun x hx => by cases hx), fun hh => ?_, fun _ => ?_, fun hh => ?_, fun _ => ?_⟩
  · rw [show mBeat.kind = 17 from rfl, h] at hh; cases hh
  · exact ⟨by unfold zeroB; exact decide_eq_true ⟨by rw [show mBeat.e.f0 = (⟨#[]⟩ : ByteArray) from rfl, EncC.toList_eq], rfl, rfl, rfl, rfl⟩, rfl⟩
  · rw [show mBeat.kind = 17 from rfl, h] at hh; cases hh
  · exact decide_eq_true ⟨rfl, rfl, rfl⟩
theorem lies_nil (w : World) (m : Ms) (hv : m.e.f2.f1 = []) (hl : m.L = []) (hr : m.R = []) : Lies w m nP := by
  constructor
  · rw [hv]; exact C_empty
  · rw [hv]; exact Nat.le_refl _
  · rw [hl]; exact Kd.C_nil _ _
  · rw [hl]; exact Nat.le_refl _
  · rw [hr]; exact C_empty
  · rw [hr]; exact Nat.le_refl _
theorem bytes_k {w : World} (hK : Kin w) : Calls Tryd.prog 12 #[.agg #[.int .i64 17, .int .i64 3, .int .i64 0, .int .i64 0, .int .i64 0, .int .i64 0, .bool false, .string ⟨#[]⟩, .int .i64 0, .int .i64 0, .int .i64 0, .bool false, .slice none 0 0, .slice none 0 0, .slice none 0 0, .int .i64 0, .int .i64 0]] w (Made2 w [1, 17, 1, 3, 0, 0, 0] 0) := by
  have := bytes_ok (w := w) (m := mBeat) (p := nP) hK (lies_nil _ _ rfl rfl rfl) (by intro x hx; cases hx) (by decide) okm_beat
  rw [bytes_beat] at this
  exact this
theorem read_0 : readM [0] = (zM, 11) := by kernel_rfl
theorem read_k {w : World} {A : Option Addr} {c : Nat} (hK : Kin w) (hr : Kd.C (Kd.int .u8) w A 1 [0]) (hc : 1 ≤ c) : Calls Tryd.prog 17 #[.slice A 1 c] w fun x w' => ∃ vA vc lA lc rA rc, x = .returned (.tuple #[.agg #[.int .i64 0, .int .i64 0, .int .i64 0, .int .i64 0, .int .i64 0, .int .i64 0, .bool false, .string ⟨#[]⟩, .int .i64 0, .int .i64 0, .int .i64 0, .bool false, .slice vA 0 vc, .slice lA 0 lc, .slice rA 0 rc, .int .i64 0, .int .i64 0], .int .i64 11]) ∧ Below w.heap.size w w' := by
  refine (read_m hK hr hc (fun x hx => by simp at hx; omega) (by decide)).mono ?_
  rw [read_0]
  rintro x w' ⟨p, rfl, _, hb⟩
  exact ⟨p.vA, p.vc, p.lA, p.lc, p.rA, p.rc, rfl, hb⟩
set_option maxHeartbeats 4000000 in
set_option maxRecDepth 100000 in
theorem known_ (w : World) (hK : Kin w) : Calls Tryd.prog 11 #[] w fun e w' => e = .returned (.bool true) ∧ Below w.heap.size w w' := by
  have HK := Aside0.mk hK
  clear hK
  go_enter Tryd.func11, Tryd.ntmps11
  go_upto_region 2 with (go_at_call 12; (with_reducible refine (bytes_k HK.out).mono ?_); rintro x w1 ⟨v, rfl, hR, hb⟩; obtain ⟨A1, c1, rfl, hc1, hC⟩ := Kd.R_reads hR; have HC1 := Aside0.mk hC; have HB1 := Aside0.mk hb; clear hR hC hb)
  have HZ := Aside0.mk (C_blki (k := .u8) [0] (blk_new w1 (.cells #[.int .u8 0] 5)) (by decide) rfl)
  have HK1 := Aside0.mk (HK.out.below HB1.out |>.below (below_alloc (Below.refl _ _) (.cells #[.int .u8 0] 5)))
  have HC2 := Aside0.mk (Kd.C_alloc HC1.out (.cells #[.int .u8 0] 5))
  have HB2 := Aside0.mk (below_alloc HB1.out (.cells #[.int .u8 0] 5))
  go_upto_region 3 with (go_at_call 17; (with_reducible refine (read_k HK1.out HZ.out (by decide)).mono ?_); rintro x w2 ⟨vA, vc, lA, lc, rA, rc, rfl, hb⟩; have HC3 := Aside0.mk (Kd.C_below HC2.out hb); have HB3 := Aside0.mk (below_step HB2.out hb); clear hb)
  have HB4 := Aside0.mk (below_alloc HB3.out (.cells #[.int .i64 0, .int .i64 0, .int .i64 0, .int .i64 0, .int .i64 0, .int .i64 0, .bool false, .string ⟨#[]⟩, .int .i64 0, .int .i64 0, .int .i64 0, .bool false, .slice vA 0 vc, .slice lA 0 lc, .slice rA 0 rc, .int .i64 0, .int .i64 0] 34))
  have HC4 : Aside0 (Kd.C (Kd.int .u8) (w2.alloc (.cells #[.int .i64 0, .int .i64 0, .int .i64 0, .int .i64 0, .int .i64 0, .int .i64 0, .bool false, .string ⟨#[]⟩, .int .i64 0, .int .i64 0, .int .i64 0, .bool false, .slice vA 0 vc, .slice lA 0 lc, .slice rA 0 rc, .int .i64 0, .int .i64 0] 34)) A1 7 [1, 17, 1, 3, 0, 0, 0]) := ⟨Kd.C_alloc HC3.out _⟩
  have hc7 : 7 ≤ c1 := hc1
  generalize w2.alloc (.cells #[.int .i64 0, .int .i64 0, .int .i64 0, .int .i64 0, .int .i64 0, .int .i64 0, .bool false, .string ⟨#[]⟩, .int .i64 0, .int .i64 0, .int .i64 0, .bool false, .slice vA 0 vc, .slice lA 0 lc, .slice rA 0 rc, .int .i64 0, .int .i64 0] 34) = w3 at *
  have HC5 := Aside0.mk (Kd.C_alloc HC4.out (.cells #[.int .u8 1, .int .u8 17, .int .u8 1, .int .u8 3, .int .u8 0, .int .u8 0, .int .u8 0] 5))
  have HD5 := Aside0.mk (C_blki (k := .u8) [1, 17, 1, 3, 0, 0, 0] (blk_new w3 (.cells #[.int .u8 1, .int .u8 17, .int .u8 1, .int .u8 3, .int .u8 0, .int .u8 0, .int .u8 0] 5)) (by decide) rfl)
  have HB5 := Aside0.mk (below_alloc HB4.out (.cells #[.int .u8 1, .int .u8 17, .int .u8 1, .int .u8 3, .int .u8 0, .int .u8 0, .int .u8 0] 5))
  go_wp2_with (go_at_call 14; (with_reducible refine (same_c (n := 7) (m := 7) HC5.out hc7 HD5.out (Nat.le_refl _)).mono ?_); rintro x w4 ⟨rfl, hd⟩; have HB6 := Aside0.mk (below_step HB5.out hd.below); clear hd)
  go_ret
  exact ⟨rfl, HB6.out⟩
end Go.Proofs.YthaoiamgkpkcbaaDoor.Ms
namespace Go.Proofs.YthaoiamgkpkcbaaDoor.Opn
open Go.RowKit Go.Proofs.YthaoiamgkpkcbaaDoor.Ms Go.Proofs.YthaoiamgkpkcbaaDoorW.PrintWords
set_option linter.unusedVariables false
abbrev S23 := QL.S23
abbrev S26 := QL.S26
/-- what a message that came is known to be -/
structure Wm (m : Ms.Ms) : Prop where
  e : Bytes m.e.f2.f1
  el : m.e.f2.f1.length ≤ 140737488351232
  l : ∀ x ∈ m.L, Bytes x.f2.f1 ∧ x.f2.f1.length ≤ 140737488351232
  ll : m.L.length ≤ 1954687338213
  rl : m.R.length ≤ 17592186043904
theorem u8_rng {x : Int} (h : (Lit.int .u8 x).wf = true) : 0 ≤ x ∧ x < 256 := by
  simp [Lit.wf] at h
  have h2 := h.2
  simp [IntKind.max, IntKind.bits, IntKind.signed] at h2
  exact ⟨h.1, by omega⟩
end Go.Proofs.YthaoiamgkpkcbaaDoor.Opn
namespace Go.Proofs.YthaoiamgkpkcbaaDoor.Ms
open Go Go.RowKit Go.Proofs.YthaoiamgkpkcbaaDoor.Pk Go.Proofs.YthaoiamgkpkcbaaDoor.Tg Go.Proofs.YthaoiamgkpkcbaaDoor.Enc Go.Proofs.YthaoiamgkpkcbaaDoor.EncP Go.Proofs.YthaoiamgkpkcbaaDoor.Seg
set_option linter.unusedVariables false
set_option linter.unusedSimpArgs false
/-- a step that reads some bytes -/
structure Rdr (F : Ms × St → Ms × St) (m m' : Ms) (X : List Int) : Prop where
  whole : ∀ r, F (m, ⟨X ++ r, 0⟩) = (m', ⟨r, 0⟩)
  cut : ∀ q, q < X.length → (F (m, ⟨X.take q, 0⟩)).2.e = 12
def Dead (F : Ms × St → Ms × St) : Prop := ∀ x : Ms × St, x.2.e ≠ 0 → (F x).2.e = x.2.e
theorem Rdr.nil {m : Ms} : Rdr (fun x => x) m m [] := ⟨fun r => rfl, fun q hq => by cases hq⟩
theorem num_dead {F : Ms × St → Ms × St} {B : Int} (hF : ∀ x, (F x).2 = (belowS B x.2).2) : Dead F := fun x h => by rw [hF, belowS_dead h]
theorem iter_succ' (f : Ms × St → Ms × St) : ∀ (n : Nat) (x : Ms × St), iter f (n + 1) x = iter f n (f x)
  | 0, x => rfl
  | n + 1, x => congrArg f (iter_succ' f n x)
theorem iter_dead {f : Ms × St → Ms × St} (h : Dead f) : ∀ n, Dead (iter f n)
  | 0 => fun x _ => rfl
  | n + 1 => fun x hx => by
    show (f (iter f n x)).2.e = _
    have h1 := iter_dead h n x hx
    rw [h _ (by rw [h1]; exact hx), h1]
theorem getS_dead {s : St} (h : s.e ≠ 0) : (getS s).2.e = s.e := by
  have h1 : rowS s = ([], s) := rowS_dead h
  rw [get_dead1 h1 h]
theorem lstep_dead : Dead lstep := fun x h => getS_dead h
theorem rstep_dead : Dead rstep := num_dead (fun x => rfl)
/-! the steps -/
theorem two_dead {F : Ms × St → Ms × St} {A B : Int} (hF : ∀ x, (F x).2 = (belowS B (belowS A x.2).2).2) : Dead F := fun x h => by
  rw [hF, belowS_dead h, belowS_dead h]
theorem gfr_dead : Dead gfr := two_dead (fun x => rfl)
theorem gep_dead : Dead gep := two_dead (fun x => rfl)
theorem gn_dead (h : Hs) : Dead (gn h) := fun x hx => by
  unfold gn; split
  · show (belowS _ x.2).2.e = _; rw [belowS_dead hx]
  · rfl
theorem gf_dead (h : Hs) : Dead (gf h) := fun x hx => by
  unfold gf; split
  · show (truthS x.2).2.e = _; rw [truthS_dead hx]
  · rfl
theorem ge_dead (h : Hs) : Dead (ge h) := fun x hx => by
  unfold ge; split
  · exact getS_dead hx
  · rfl
theorem gl_dead (h : Hs) : Dead (gl h) := fun x hx => by
  unfold gl; split
  · rw [belowS_dead hx]; rfl
  · rfl
theorem gk_dead : Dead gk := two_dead (fun x => rfl)
theorem gr_dead (h : Hs) : Dead (gr h) := fun x hx => by
  unfold gr; split
  · have h1 := gk_dead x hx
    have h2 : (gk x).2.e ≠ 0 := by rw [h1]; exact hx
    rw [belowS_dead h2]
    exact h1
  · rfl
theorem rise_rng : ∀ {l : List Int} {a : Int}, -1 ≤ a → riseB a l = true → ∀ x ∈ l, 0 ≤ x ∧ x ≤ 1048575
  | [], _, _, _, x, hx => by cases hx
  | y :: l, a, ha, h, x, hx => by
    unfold riseB at h
    simp only [Bool.and_eq_true, decide_eq_true_eq] at h
    rcases List.mem_cons.1 hx with rfl | hx
    · omega
    · exact rise_rng (by omega) h.2 x hx
/-! what Read tells of a message's bytes -/
end Go.Proofs.YthaoiamgkpkcbaaDoor.Ms
namespace Go.Proofs.YthaoiamgkpkcbaaDoor.Tg
open Go.ChangeShapes Go.WideShapes Go.ChangeAt Go.RowKit Go.Proofs.YthaoiamgkpkcbaaDoor.Pk Go.Proofs.YthaoiamgkpkcbaaDoor.EncC Go.Proofs.YthaoiamgkpkcbaaDoor.EncP Go.Proofs.YthaoiamgkpkcbaaDoor.Enc
open Go.Proofs.YthaoiamgkpkcbaaDoor.Hlp Go.Proofs.YthaoiamgkpkcbaaDoor.Wrd Go.Proofs.YthaoiamgkpkcbaaDoorW.PrintWords Go.Proofs.YthaoiamgkpkcbaaDoorW.PrintLast Go.Proofs.YthaoiamgkpkcbaaDoorW.PrintMore
set_option linter.unusedVariables false
set_option linter.unusedSimpArgs false
theorem rcheck_f (a b c : Int) (k : Nat) : QR.icehouseref03_Check.f (k + 1) a b c = some (checkV a b c) := by
  unfold QR.icehouseref03_Check.f QR.icehouseref03_Check.j0 checkV okTag QR.icehouseref03_within.f
  by_cases h1 : a ≥ 0
  · by_cases h2 : a ≤ 1099511627775
    · by_cases h3 : b ≥ 0
      · by_cases h4 : b ≤ 1048575
        · by_cases h5 : c ≥ 0
          · by_cases h6 : c ≤ 1048575
            · by_cases h7 : a = 0
              · subst h7
                by_cases h8 : b = 0
                · subst h8
                  by_cases h9 : c = 0
                  · subst h9; simp
                  · have h10 : c > 0 := by omega
                    simp [h5, h6, h9, h10]
                · have h10 : b > 0 := by omega
                  simp [h3, h4, h5, h6, h8, h10]
              · simp [h1, h2, h3, h4, h5, h6, h7]
            · simp [h1, h2, h3, h4, h5, h6]
          · simp [h1, h2, h3, h4, h5]
        · simp [h1, h2, h3, h4]
      · simp [h1, h2, h3]
    · simp [h1, h2]
  · simp [h1]
theorem rright_f (k : ByteArray) (a b c : Int) (h : Bool) (v : List Int) : QR.icehouseref03_Right.f 2 k a b c h v = some (rightV k a b c h v) := by
  unfold QR.icehouseref03_Right.f QR.icehouseref03_Right.j0 rightV okEnt
  simp only [rcheck_f, Option.bind_some]
  by_cases h1 : (k.size : Int) < 1
  · have : ¬ (1 ≤ k.size) := by omega
    simp [h1, this]
  · have e1 : 1 ≤ k.size := by omega
    by_cases h2 : (k.size : Int) > 250
    · have : ¬ (k.size ≤ 250) := by omega
      simp [h1, h2, this]
    · have e2 : k.size ≤ 250 := by omega
      by_cases h3 : (v.length : Int) > 60000
      · have : ¬ (v.length ≤ 60000) := by omega
        simp [h1, h2, h3, this]
      · have e3 : v.length ≤ 60000 := by omega
        rw [if_neg h1, if_neg h2, if_neg h3]
        unfold checkV
        by_cases h5 : okTag a b c
        · cases h
          · by_cases h6 : v.length = 0
            · by_cases h7 : a = 0 <;> simp [e1, e2, e3, h5, h6, h7] <;> (try (subst h7; simp [h5]))
            · have : (v.length : Int) > 0 := by omega
              simp [e1, e2, e3, h5, h6, this]
          · by_cases h7 : a = 0 <;> simp [e1, e2, e3, h5, h7]
        · cases h
          · by_cases h6 : v.length = 0
            · simp [e1, e2, e3, h5, h6]
            · have : (v.length : Int) > 0 := by omega
              simp [e1, e2, e3, h5, h6, this]
          · simp [e1, e2, e3, h5]
theorem rright_c {w : World} {A : Option Addr} {n c' : Nat} {v : List Int} (k : ByteArray) (a b c : Int) (h : Bool) {r : Int} (hq : rightV k a b c h v = r) (hr : Kd.C (Kd.int .u8) w A n v) (hc : n ≤ c') :
    Calls Tryd.prog 43 #[.agg #[.string k, .int .i64 a, .int .i64 b, .int .i64 c, .bool h, .slice A n c']] w fun e w' => e = .returned (.int .i64 r) ∧ Below w.heap.size w w' := by
  obtain rfl : v.length = n := hr.1
  subst hq
  exact QR.icehouseref03_Right.calls 2 k a b c h A c' v _ w hr hc (rright_f k a b c h v)
theorem own_lt {α : Type} {d : Kd α} {e : Nat} {w : World} {base : Nat} {ok : Nat → Prop} {v : Value} {xs : List α} (h : d.R e w base ok v xs) (q : Nat) (hq : v.ownBlock = some q) : q < w.heap.size := by
  obtain ⟨cells, hc⟩ := own_typed (Kd.R_own h).choose_spec q hq
  exact blk_lt hc
end Go.Proofs.YthaoiamgkpkcbaaDoor.Tg
namespace Go.Proofs.YthaoiamgkpkcbaaDoor.Tg
open Go.ChangeShapes Go.WideShapes Go.ChangeAt Go.RowKit Go.Proofs.YthaoiamgkpkcbaaDoor.Pk Go.Proofs.YthaoiamgkpkcbaaDoor.EncC Go.Proofs.YthaoiamgkpkcbaaDoor.Lex
open Go.Proofs.YthaoiamgkpkcbaaDoor.Hlp Go.Proofs.YthaoiamgkpkcbaaDoor.Wrd Go.Proofs.YthaoiamgkpkcbaaDoorW.PrintWords Go.Proofs.YthaoiamgkpkcbaaDoorW.PrintLast Go.Proofs.YthaoiamgkpkcbaaDoorW.PrintMore
set_option linter.unusedVariables false
set_option linter.unusedSimpArgs false
theorem rd_nat {l : List Int} {q : Nat} (h : q < l.length) : rd l (q : Int) = l[q] := by simp [rd, h]
theorem rd_drop {l r : List Int} {k : Int} {p i : Nat} (h : l.drop p = k :: r) (hi : i < r.length) : rd l ((p + 1 + i : Nat) : Int) = r[i] := by
  have h2 : l.drop (p + 1) = r := by
    rw [← List.drop_drop, h]; rfl
  have hl : p + 1 + i < l.length := by
    have := congrArg List.length h2
    rw [List.length_drop] at this; omega
  have e : r[i] = l[p + 1 + i] := by
    simp only [← h2, List.getElem_drop]
  rw [e]
  exact rd_nat hl
theorem rd_here {l r : List Int} {k : Int} {p : Nat} (h : l.drop p = k :: r) : rd l (p : Int) = k := by
  have hl : p < l.length := by
    have := congrArg List.length h
    rw [List.length_drop] at this; simp at this; omega
  have e : l.drop p = l[p] :: l.drop (p + 1) := List.drop_eq_getElem_cons hl
  rw [h] at e
  injection e with e1 _
  rw [e1]
  exact rd_nat hl
theorem drop_len {l r : List Int} {k : Int} {p : Nat} (h : l.drop p = k :: r) : l.length = p + 1 + r.length := by
  have := congrArg List.length h
  rw [List.length_drop] at this; simp at this; omega
theorem u64_in {x : Int} (h0 : 0 ≤ x) (h1 : x < 18446744073709551616) : IntKind.u64.wrap x = x := by
  simp [IntKind.wrap, IntKind.bits, IntKind.signed]
  omega
theorem word_take {r : List Int} {i : Nat} (hb : ∀ x ∈ r, 0 ≤ x ∧ x < 256) (hi : i ≤ 7) : 0 ≤ wordOf (r.take i) ∧ wordOf (r.take i) < 72057594037927936 := by
  have hU := wordOf_bd (r.take i) (fun x hx => hb x (List.mem_of_mem_take hx))
  have hp : (256 : Int) ^ (r.take i).length ≤ 256 ^ 7 := by
    have := Nat.pow_le_pow_right (n := 256) (by decide) (show (r.take i).length ≤ 7 by rw [List.length_take]; omega)
    have e : ((256 ^ (r.take i).length : Nat) : Int) ≤ ((256 ^ 7 : Nat) : Int) := Int.ofNat_le.2 this
    simpa using e
  exact ⟨hU.1, by have := hU.2; omega⟩
theorem rget_l0 {l r : List Int} {p K : Nat} (h : l.drop p = (K : Int) :: r) (hK : K ≤ 8) (hr : K ≤ r.length) (hl : l.length ≤ 140737488351232) (hb : ∀ x ∈ l, 0 ≤ x ∧ x < 256) :
    ∀ (d i : Nat), K - i = d → i ≤ K → Since (fun f => QR.icehouseref02_Get.l0 f l (p : Int) (K : Int) (wordOf (r.take i)) (i : Int)) (if 0 < (K : Int) ∧ r.getD 0 0 = 0 then (0, (p : Int), 11) else (wrap64 (wordOf (r.take K)), (p : Int) + (1 + (K : Int)), 0)) := by
  have hlen := drop_len h
  have W1 : Hid (wrap64 ((p : Int) + 1) = ((p + 1 : Nat) : Int)) := Lib.hid (by unfold wrap64; omega)
  have hbr : ∀ x ∈ r, 0 ≤ x ∧ x < 256 := fun x hx => hb x (by
    have : x ∈ l.drop p := by rw [h]; exact List.mem_cons_of_mem _ hx
    exact List.mem_of_mem_drop this)
  intro d
  induction d with
  | zero =>
    intro i hd hi
    obtain rfl : i = K := by omega
    refine Since.none fun f => ?_
    simp only [QR.icehouseref02_Get.l0]
    rw [if_neg (Int.lt_irrefl _)]
    have W2 : Hid (wrap64 (((p + 1 : Nat) : Int) + (i : Int)) = (p : Int) + (1 + (i : Int))) := Lib.hid (by unfold wrap64; omega)
    have i1 : 0 ≤ ((p + 1 : Nat) : Int) := by omega
    have i2 : (i : Int) > 0 → ((p + 1 : Nat) : Int) < (l.length : Int) := by omega
    by_cases h0 : (i : Int) > 0
    · have hr0 : 0 < r.length := by omega
      have e0 := rd_drop h hr0
      rw [Nat.add_zero] at e0
      have g0 : r.getD 0 0 = r[0] := by simp [List.getD, hr0]
      rw [if_pos h0, W1.out, W2.out, if_pos i1, if_pos (i2 h0), e0, g0]
      by_cases hz : r[0] = 0
      · rw [if_pos hz, if_pos ⟨by omega, hz⟩]
      · rw [if_neg hz, if_neg (by rintro ⟨_, h⟩; exact hz h)]
    · rw [if_neg h0, W1.out, W2.out, if_neg (by rintro ⟨h, _⟩; omega)]
  | succ d ih =>
    intro i hd hi
    have hi1 : i < K := by omega
    have hir : i < r.length := by omega
    have e0 := rd_drop h hir
    have i1 : (i : Int) < (K : Int) := by omega
    have i2 : 0 ≤ ((p + 1 + i : Nat) : Int) := by omega
    have i3 : ((p + 1 + i : Nat) : Int) < (l.length : Int) := by omega
    have i7 : i ≤ 7 := by omega
    have W2 : Hid (wrap64 (((p + 1 : Nat) : Int) + (i : Int)) = ((p + 1 + i : Nat) : Int)) := Lib.hid (by unfold wrap64; omega)
    have W3 : Hid (wrap64 ((i : Int) + 1) = ((i + 1 : Nat) : Int)) := Lib.hid (by unfold wrap64; omega)
    obtain ⟨hx0, hx1⟩ := hbr r[i] (List.getElem_mem hir)
    obtain ⟨hU0, hU1⟩ := word_take hbr i7
    have w4 : IntKind.u64.wrap (IntKind.u64.wrap (wordOf (r.take i) * 256) + IntKind.u64.wrap r[i]) = wordOf (r.take (i + 1)) := by
      rw [List.take_succ_eq_append_getElem hir, wordOf_snoc]
      generalize wordOf (r.take i) = u at *
      generalize r[i] = x at *
      rw [u64_in (x := u * 256) (by omega) (by omega), u64_in (x := x) (by omega) (by omega), u64_in (by omega) (by omega)]
    refine Since.one (ih (i + 1) (by omega) (by omega)) fun f hf => ?_
    simp only [QR.icehouseref02_Get.l0]
    rw [if_pos i1, W1.out, W2.out, if_pos i2, if_pos i3, e0, w4, W3.out]
    exact hf
/-- a number at a place -/
def getP (l : List Int) (p : Nat) : Int × Int × Int := if (peekP (l.drop p)).2.2 = 0 then ((peekP (l.drop p)).1, (p : Int) + (peekP (l.drop p)).2.1, 0) else (0, (p : Int), (peekP (l.drop p)).2.2)
theorem rget_ev (l : List Int) (p : Nat) (hp : p ≤ l.length) (hl : l.length ≤ 140737488351232) (hb : ∀ x ∈ l, 0 ≤ x ∧ x < 256) : Since (fun f => QR.icehouseref02_Get.f f l (p : Int)) (getP l p) := by
  cases hs : l.drop p with
  | nil =>
    have hlen : p = l.length := by
      have := congrArg List.length hs
      rw [List.length_drop] at this; simp at this; omega
    refine ⟨0, fun f _ => ?_⟩
    show QR.icehouseref02_Get.f f l (p : Int) = some (getP l p)
    unfold QR.icehouseref02_Get.f getP
    rw [if_pos (by omega), hs]
    rfl
  | cons k r =>
    have hlen := drop_len hs
    have hk := hb k (by
      have : k ∈ l.drop p := by rw [hs]; exact List.mem_cons_self
      exact List.mem_of_mem_drop this)
    obtain ⟨K, rfl⟩ := Int.eq_ofNat_of_zero_le hk.1
    have e0 := rd_here hs
    have i1 : ¬ ((p : Int) ≥ (l.length : Int)) := by omega
    have i2 : 0 ≤ (p : Int) := by omega
    have i3 : (p : Int) < (l.length : Int) := by omega
    have i4 : (r.length : Int) < (K : Int) → ((p + 1 + K : Nat) : Int) > (l.length : Int) := by omega
    have i5 : ¬ ((r.length : Int) < (K : Int)) → ¬ (((p + 1 + K : Nat) : Int) > (l.length : Int)) := by omega
    have Wk : Hid (wrap64 (K : Int) = (K : Int)) := Lib.hid (by unfold wrap64; omega)
    have W1 : Hid (wrap64 (wrap64 ((p : Int) + 1) + (K : Int)) = ((p + 1 + K : Nat) : Int)) := Lib.hid (by unfold wrap64; omega)
    by_cases h8 : 8 < (K : Int)
    · refine ⟨0, fun f _ => ?_⟩
      show QR.icehouseref02_Get.f f l (p : Int) = some (getP l p)
      unfold QR.icehouseref02_Get.f getP
      rw [if_neg i1, if_pos i2, if_pos i3, e0, Wk.out, if_pos h8, hs, peekP_cons, if_pos h8]
      rfl
    · by_cases hsh : (r.length : Int) < (K : Int)
      · refine ⟨0, fun f _ => ?_⟩
        show QR.icehouseref02_Get.f f l (p : Int) = some (getP l p)
        unfold QR.icehouseref02_Get.f getP
        rw [if_neg i1, if_pos i2, if_pos i3, e0, Wk.out, if_neg h8, W1.out, if_pos (i4 hsh), hs, peekP_cons, if_neg h8, if_pos hsh]
        rfl
      · have hq := rget_l0 hs (by omega) (by omega) hl hb K 0 rfl (Nat.zero_le _)
        refine hq.map fun f hf => ?_
        unfold QR.icehouseref02_Get.f getP
        rw [if_neg i1, if_pos i2, if_pos i3, e0, Wk.out, if_neg h8, W1.out, if_neg (i5 hsh)]
        rw [List.take_zero] at hf
        refine Eq.trans hf ?_
        rw [hs, peekP_cons, if_neg h8, if_neg hsh]
        by_cases hz : 0 < (K : Int) ∧ r.getD 0 0 = 0
        · rw [if_pos hz, if_pos hz]; rfl
        · rw [if_neg hz, if_neg hz, if_pos rfl, Int.toNat_natCast]
/-- a number of nought to another one, at a place -/
def getNumP (l : List Int) (p : Nat) (most : Int) : Int × Int × Int := if (getP l p).2.2 = 0 then (if 0 ≤ (getP l p).1 ∧ (getP l p).1 ≤ most then ((getP l p).1, (getP l p).2.1, 0) else (0, (p : Int), 11)) else ((getP l p).1, (getP l p).2.1, (getP l p).2.2)
theorem rgetnum_ev (l : List Int) (p : Nat) (most : Int) (hp : p ≤ l.length) (hl : l.length ≤ 140737488351232) (hb : ∀ x ∈ l, 0 ≤ x ∧ x < 256) : Since (fun f => QR.icehouseref03_GetNum.f f l (p : Int) most) (getNumP l p most) := by
  refine (rget_ev l p hp hl hb).map fun f hf => ?_
  have hf : QR.icehouseref02_Get.f f l (p : Int) = some (getP l p) := hf
  unfold QR.icehouseref03_GetNum.f getNumP QR.icehouseref03_within.f
  rw [hf, Option.bind_some]
  by_cases h0 : (getP l p).2.2 = 0
  · rw [if_pos h0, if_pos h0]
    by_cases h1 : (getP l p).1 ≥ 0
    · rw [if_pos h1, Option.bind_some]
      by_cases h2 : (getP l p).1 ≤ most
      · rw [if_pos (decide_eq_true h2), if_pos ⟨h1, h2⟩, h0]
      · rw [if_neg (by rw [decide_eq_false h2]; decide), if_neg (by rintro ⟨_, h⟩; exact h2 h)]
    · rw [if_neg h1, Option.bind_some, if_neg (by decide), if_neg (by rintro ⟨h, _⟩; exact h1 h)]
  · rw [if_neg h0, if_neg h0]
def getTruthP (l : List Int) (p : Nat) : Bool × Int × Int := match l.drop p with | [] => (false, (p : Int), 12) | x :: _ => if 1 < x then (false, (p : Int), 11) else (x == 1, (p : Int) + 1, 0)
theorem rgettruth_f (l : List Int) (p : Nat) (hp : p ≤ l.length) (hl : l.length ≤ 140737488351232) : QR.icehouseref02_GetTruth.f l (p : Int) = some (getTruthP l p) := by
  unfold QR.icehouseref02_GetTruth.f getTruthP
  cases hs : l.drop p with
  | nil =>
    have hlen : p = l.length := by
      have := congrArg List.length hs
      rw [List.length_drop] at this; simp at this; omega
    rw [if_pos (by omega)]
  | cons k r =>
    have hlen := drop_len hs
    have e0 := rd_here hs
    have i1 : ¬ ((p : Int) ≥ (l.length : Int)) := by omega
    have i2 : 0 ≤ (p : Int) := by omega
    have i3 : (p : Int) < (l.length : Int) := by omega
    have W1 : Hid (wrap64 ((p : Int) + 1) = (p : Int) + 1) := Lib.hid (by unfold wrap64; omega)
    rw [if_neg i1, if_pos i2, if_pos i3, e0, W1.out]
    by_cases h1 : 1 < k
    · rw [if_pos h1]; simp only [if_pos h1]
    · rw [if_neg (by omega)]; simp only [if_neg h1]
section
variable {w : World} {A : Option Addr} {n c : Nat} {l : List Int}
theorem rget_c (hr : Kd.C (Kd.int .u8) w A n l) (hc : n ≤ c) (p : Nat) (hp : p ≤ n) (hl : n ≤ 140737488351232) (hb : ∀ x ∈ l, 0 ≤ x ∧ x < 256) {x y z : Int} (hq : getP l p = (x, y, z)) :
    Calls Tryd.prog 72 #[.slice A n c, .int .i64 p] w fun e w' => e = .returned (.tuple #[.int .i64 x, .int .i64 y, .int .i64 z]) ∧ Below w.heap.size w w' := by
  obtain rfl : l.length = n := hr.1
  obtain ⟨K, hK⟩ := rget_ev l p hp hl hb
  refine (QR.icehouseref02_Get.calls K A c l p x y z w hr hc (by rw [← hq]; exact hK K (Nat.le_refl K))).mono ?_
  rintro e w1 ⟨rfl, h⟩
  exact ⟨rfl, h.below⟩
theorem rgetnum_c (hr : Kd.C (Kd.int .u8) w A n l) (hc : n ≤ c) (p : Nat) (hp : p ≤ n) (most : Int) (hl : n ≤ 140737488351232) (hb : ∀ x ∈ l, 0 ≤ x ∧ x < 256) {x y z : Int} (hq : getNumP l p most = (x, y, z)) :
    Calls Tryd.prog 50 #[.slice A n c, .int .i64 p, .int .i64 most] w fun e w' => e = .returned (.tuple #[.int .i64 x, .int .i64 y, .int .i64 z]) ∧ Below w.heap.size w w' := by
  obtain rfl : l.length = n := hr.1
  obtain ⟨K, hK⟩ := rgetnum_ev l p most hp hl hb
  refine (QR.icehouseref03_GetNum.calls K A c l p most x y z w hr hc (by rw [← hq]; exact hK K (Nat.le_refl K))).mono ?_
  rintro e w1 ⟨rfl, h⟩
  exact ⟨rfl, h.below⟩
theorem rgettruth_c (hr : Kd.C (Kd.int .u8) w A n l) (hc : n ≤ c) (p : Nat) (hp : p ≤ n) (hl : n ≤ 140737488351232) {x : Bool} {y z : Int} (hq : getTruthP l p = (x, y, z)) :
    Calls Tryd.prog 51 #[.slice A n c, .int .i64 p] w fun e w' => e = .returned (.tuple #[.bool x, .int .i64 y, .int .i64 z]) ∧ Below w.heap.size w w' := by
  obtain rfl : l.length = n := hr.1
  refine (QR.icehouseref02_GetTruth.calls A c l p x y z w hr hc (by rw [← hq]; exact rgettruth_f l p hp hl)).mono ?_
  rintro e w1 ⟨rfl, h⟩
  exact ⟨rfl, by first | exact h.below | exact h⟩
end
end Go.Proofs.YthaoiamgkpkcbaaDoor.Tg
namespace Go.Proofs.YthaoiamgkpkcbaaDoor.Tg
open Go.ChangeShapes Go.WideShapes Go.ChangeAt Go.RowKit Go.Proofs.YthaoiamgkpkcbaaDoor.Pk Go.Proofs.YthaoiamgkpkcbaaDoor.EncC Go.Proofs.YthaoiamgkpkcbaaDoor.Lex
open Go.Proofs.YthaoiamgkpkcbaaDoor.Hlp Go.Proofs.YthaoiamgkpkcbaaDoor.Wrd Go.Proofs.YthaoiamgkpkcbaaDoorW.PrintWords Go.Proofs.YthaoiamgkpkcbaaDoorW.PrintLast Go.Proofs.YthaoiamgkpkcbaaDoorW.PrintMore
set_option linter.unusedVariables false
set_option linter.unusedSimpArgs false
/-- a row at a place -/
def getRowP (l : List Int) (p : Nat) : List Int × Int × Int :=
  if (getP l p).2.2 = 0 then (if 0 ≤ (getP l p).1 ∧ (getP l p).1 ≤ 65536 then (if (l.length : Int) - (getP l p).2.1 < (getP l p).1 then ([], (p : Int), 12) else ((l.drop (getP l p).2.1.toNat).take (getP l p).1.toNat, (getP l p).2.1 + (getP l p).1, 0)) else ([], (p : Int), 11)) else ([], (p : Int), (getP l p).2.2)
theorem getP_ok {l : List Int} {p : Nat} {n t : Int} (h : getP l p = (n, t, 0)) (hb : ∀ x ∈ l, 0 ≤ x ∧ x < 256) : ∃ k : Nat, peekP (l.drop p) = (n, (k : Int), 0) ∧ t = (p : Int) + (k : Int) ∧ 1 ≤ k ∧ p + k ≤ l.length ∧ p < l.length := by
  unfold getP at h
  by_cases h0 : (peekP (l.drop p)).2.2 = 0
  · rw [if_pos h0] at h
    simp only [Prod.mk.injEq] at h
    have hp : peekP (l.drop p) = (n, (peekP (l.drop p)).2.1, 0) := by
      rw [← h.1, ← h0]
    obtain ⟨h1, h2, h3⟩ := peekP_ok hp (fun x hx => hb x (List.mem_of_mem_drop hx))
    rw [List.length_drop] at h3
    obtain ⟨k, hk⟩ := Int.eq_ofNat_of_zero_le (show 0 ≤ (peekP (l.drop p)).2.1 by omega)
    rw [hk] at hp h h1 h3
    exact ⟨k, hp, h.2.1.symm, by omega, by omega, by omega⟩
  · rw [if_neg h0] at h
    simp only [Prod.mk.injEq] at h
    exact absurd h.2.2 h0
def RowAt (w : World) (r : List Int × Int × Int) (x : Ending) (w' : World) : Prop := ∃ A c, x = .returned (.tuple #[.slice A r.1.length c, .int .i64 r.2.1, .int .i64 r.2.2]) ∧ Kd.C (Kd.int .u8) w' A r.1.length r.1 ∧ r.1.length ≤ c ∧ Below w.heap.size w w'
theorem RowAt.nil {w w' : World} (p e : Int) (h : Below w.heap.size w w') : RowAt w ([], p, e) (.returned (.tuple #[.slice none 0 0, .int .i64 p, .int .i64 e])) w' := ⟨none, 0, rfl, C_empty, Nat.le_refl _, h⟩
set_option maxHeartbeats 2000000 in
theorem rgetrow_c {w : World} {A : Option Addr} {n c : Nat} {l : List Int} (hr : Kd.C (Kd.int .u8) w A n l) (hc : n ≤ c) (p : Nat) (hp : p ≤ n) (hl : n ≤ 140737488351232) (hb : ∀ x ∈ l, 0 ≤ x ∧ x < 256) :
    Calls Tryd.prog 74 #[.slice A n c, .int .i64 p] w (RowAt w (getRowP l p)) := by
  obtain rfl : l.length = n := hr.1
  obtain ⟨x, y, z, hq⟩ : ∃ x y z, getP l p = (x, y, z) := ⟨_, _, _, rfl⟩
  have K := Lib.hid (rget_c hr hc p hp hl hb hq)
  by_cases hz : z = 0
  · subst hz
    obtain ⟨k, hk, rfl, hk1, hk2, hk3⟩ := getP_ok hq hb
    by_cases hin : 0 ≤ x ∧ x ≤ 65536
    · obtain ⟨hin1, hin2⟩ := hin
      obtain ⟨m, rfl⟩ := Int.eq_ofNat_of_zero_le hin1
      have t1 : decide ((m : Int) < 0) = false := decide_eq_false (by omega)
      have t2 : decide (65536 < (m : Int)) = false := decide_eq_false (by omega)
      have t2n : decide (65536 < m) = false := decide_eq_false (by omega)
      by_cases hs : (l.length : Int) - ((p : Int) + (k : Int)) < (m : Int)
      · have E := Lib.hid (show getRowP l p = ([], (p : Int), 12) by unfold getRowP; rw [hq]; simp only [if_true]; rw [if_pos ⟨hin1, hin2⟩, if_pos hs])
        have t3 : decide ((l.length : Int) - ((p : Int) + (k : Int)) < (m : Int)) = true := decide_eq_true hs
        clear hq hk hs
        go_enter Tryd.func74, Tryd.ntmps74
        go_wp2_with (go_at_call 72; (with_reducible refine K.out.mono ?_); rintro e w1 ⟨rfl, hb1⟩)
        go_ret3
        rw [E.out]
        exact RowAt.nil _ _ hb1
      · have E := Lib.hid (show getRowP l p = ((l.drop (p + k)).take m, ((p + k + m : Nat) : Int), 0) by unfold getRowP; rw [hq]; simp only [if_true]; rw [if_pos ⟨hin1, hin2⟩, if_neg hs]; simp only [Int.toNat_natCast]; congr 2)
        have t3 : decide ((l.length : Int) - ((p : Int) + (k : Int)) < (m : Int)) = false := decide_eq_false hs
        obtain ⟨bb, off, rfl, hcell⟩ := C_block hr (by omega)
        have hrow := C_take (C_drop hr (p + k) hk2) m (by rw [List.length_drop]; omega)
        have HR := Aside0.mk hrow
        have hm : ((l.drop (p + k)).take m).length = m := by rw [List.length_take, List.length_drop]; omega
        have HM := Lib.hid hm
        have b1 : (0 : Int) ≤ (p : Int) + (k : Int) := by omega
        have b2 : (p : Int) + (k : Int) + (m : Int) ≤ (l.length : Int) := by omega
        have b3 : (p : Int) + (k : Int) ≤ (p : Int) + (k : Int) + (m : Int) := by omega
        have b4 : (p : Int) + (k : Int) + (m : Int) ≤ (c : Int) := by omega
        clear hq hk hs hcell hrow hm hr
        by_cases hcc : c = p + k
        · obtain rfl : m = 0 := by omega
          have hc2 : (c == p + k) = true := beq_iff_eq.2 hcc
          have HCc := Lib.hid hcc
          clear hcc
          go_enter Tryd.func74, Tryd.ntmps74
          go_wp2_with (go_at_call 72; (with_reducible refine K.out.mono ?_); rintro e w1 ⟨rfl, hb1⟩)
          go_ret3
          rw [E.out]
          refine ⟨some ⟨bb, off, none⟩, 0, ?_, ?_, ?_, hb1⟩
          · simp only [List.take_zero, List.length_nil, Nat.add_zero, Nat.sub_self]; simp
          · rw [List.take_zero]; exact C_empty
          · simp
        · have hc2 : (c == p + k) = false := beq_eq_false_iff_ne.2 hcc
          go_enter Tryd.func74, Tryd.ntmps74
          go_wp2_with (go_at_call 72; (with_reducible refine K.out.mono ?_); rintro e w1 ⟨rfl, hb1⟩)
          go_ret3
          rw [E.out]
          refine ⟨some ⟨bb, off + (p + k), none⟩, c - (p + k), ?_, ?_, ?_, hb1⟩
          · rw [HM.out]; simp
          · rw [HM.out]; exact Kd.C_below HR.out hb1
          · rw [HM.out]; omega
    · have E := Lib.hid (show getRowP l p = ([], (p : Int), 11) by unfold getRowP; rw [hq]; simp only [if_true]; rw [if_neg hin])
      by_cases hn : x < 0
      · have t1 := decide_eq_true hn
        clear hq hk hin hn
        go_enter Tryd.func74, Tryd.ntmps74
        go_wp2_with (go_at_call 72; (with_reducible refine K.out.mono ?_); rintro e w1 ⟨rfl, hb1⟩)
        go_ret3
        rw [E.out]
        exact RowAt.nil _ _ hb1
      · have t1 := decide_eq_false hn
        have t2 : decide (65536 < x) = true := decide_eq_true (by omega)
        clear hq hk hin hn
        go_enter Tryd.func74, Tryd.ntmps74
        go_wp2_with (go_at_call 72; (with_reducible refine K.out.mono ?_); rintro e w1 ⟨rfl, hb1⟩)
        go_ret3
        rw [E.out]
        exact RowAt.nil _ _ hb1
  · have E := Lib.hid (show getRowP l p = ([], (p : Int), z) by unfold getRowP; rw [hq]; simp only [if_neg hz])
    have hz2 : (z != 0) = true := bne_iff_ne.2 hz
    clear hq hz
    go_enter Tryd.func74, Tryd.ntmps74
    go_wp2_with (go_at_call 72; (with_reducible refine K.out.mono ?_); rintro e w1 ⟨rfl, hb1⟩)
    go_ret3
    rw [E.out]
    exact RowAt.nil _ _ hb1
end Go.Proofs.YthaoiamgkpkcbaaDoor.Tg
