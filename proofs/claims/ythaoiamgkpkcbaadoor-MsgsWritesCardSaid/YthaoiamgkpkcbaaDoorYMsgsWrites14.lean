/- The contract of the reference's Bytes. Conditions: an entry that fits in memory. · Written by a program of this session over the kit's print: functions and their contracts. · Written by a program of this session over the kit's print: functions and their contracts. · Written by a program of this session over the kit's print: functions and their contracts. -/
import Derived.Test.YthaoiamgkpkcbaaDoorYMsgsWrites10
import Derived.Test.YthaoiamgkpkcbaaDoorProg
import Derived.Below
import Derived.Deep.Draws
import Derived.Deep.AppendLies
import Derived.Maps.AppendAt
import Derived.OwnWalk
import Derived.Laws.BytesArg
import Derived.Laws.MakeOwn
import Derived.Laws.OwnMore
import Derived.Deep.OwnRows
import Derived.Tactics
import Derived.Lib.ConvBytes
import Derived.Laws.Slices
import Derived.WalkKit
import Derived.KernelRfl
import Derived.RowKit3
import Derived.Deep.LoopGhost
import Derived.Deep.QuietTactic
import Derived.BigQuiet
import Derived.WideLaws
import Derived.Deep.DeepCutAuto
import Derived.Deep.CutBlock
import Derived.Deep.RegionHeld3
import Derived.Laws.Rows
import Derived.Lib.AppendStr
import Derived.ArgAppend
import Derived.Laws.IdiomCopy
import Derived.OrdersHeld
import Derived.Laws.BitsLemmas
import Derived.RowKit
import Derived.Test.YthaoiamgkpkcbaaDoorYMsgsWrites5
import Derived.Test.YthaoiamgkpkcbaaDoorYMsgsWrites13
import Derived.Test.YthaoiamgkpkcbaaDoorYMsgsWrites0
import Derived.Test.YthaoiamgkpkcbaaDoorYMsgsWrites1
import Derived.Test.YthaoiamgkpkcbaaDoorYMsgsWrites2

namespace Go.Proofs.YthaoiamgkpkcbaaDoor.Tg
open Go.ChangeShapes Go.WideShapes Go.ChangeAt Go.RowKit Go.Proofs.YthaoiamgkpkcbaaDoor.Pk Go.Proofs.YthaoiamgkpkcbaaDoor.EncC Go.Proofs.YthaoiamgkpkcbaaDoor.EncP Go.Proofs.YthaoiamgkpkcbaaDoor.Enc
open Go.Proofs.YthaoiamgkpkcbaaDoor.Hlp Go.Proofs.YthaoiamgkpkcbaaDoor.Wrd Go.Proofs.YthaoiamgkpkcbaaDoorW.PrintWords Go.Proofs.YthaoiamgkpkcbaaDoorW.PrintLast Go.Proofs.YthaoiamgkpkcbaaDoorW.PrintMore
set_option linter.unusedVariables false
set_option linter.unusedSimpArgs false
theorem rcheck_f (a b c : Int) (k : Nat) : QR.icehouseref03_Check.f (k + 1) a b c = some (checkV a b c) := by
  unfold QR.icehouseref03_Check.f QR.icehouseref03_Check.j0 checkV okTag QR.icehouseref03_within.f
  by_cases h1 : a ≥ 0
  · by_cases h2 : a ≤ 1099511627775
    · by_cases h3 : b ≥ 0
      · by_cases h4 : b ≤ 1048575
        · by_cases h5 : c ≥ 0
          · by_cases h6 : c ≤ 1048575
            · by_cases h7 : a = 0
              · subst h7
                by_cases h8 : b = 0
                · subst h8
                  by_cases h9 : c = 0
                  · subst h9; simp
                  · have h10 : c > 0 := by omega
                    simp [h5, h6, h9, h10]
                · have h10 : b > 0 := by omega
                  simp [h3, h4, h5, h6, h8, h10]
              · simp [h1, h2, h3, h4, h5, h6, h7]
            · simp [h1, h2, h3, h4, h5, h6]
          · simp [h1, h2, h3, h4, h5]
        · simp [h1, h2, h3, h4]
      · simp [h1, h2, h3]
    · simp [h1, h2]
  · simp [h1]
theorem rright_f (k : ByteArray) (a b c : Int) (h : Bool) (v : List Int) : QR.icehouseref03_Right.f 2 k a b c h v = some (rightV k a b c h v) := by
  unfold QR.icehouseref03_Right.f QR.icehouseref03_Right.j0 rightV okEnt
  simp only [rcheck_f, Option.bind_some]
  by_cases h1 : (k.size : Int) < 1
  · have : ¬ (1 ≤ k.size) := by omega
    simp [h1, this]
  · have e1 : 1 ≤ k.size := by omega
    by_cases h2 : (k.size : Int) > 250
    · have : ¬ (k.size ≤ 250) := by omega
      simp [h1, h2, this]
    · have e2 : k.size ≤ 250 := by omega
      by_cases h3 : (v.length : Int) > 60000
      · have : ¬ (v.length ≤ 60000) := by omega
        simp [h1, h2, h3, this]
      · have e3 : v.length ≤ 60000 := by omega
        rw [if_neg h1, if_neg h2, if_neg h3]
        unfold checkV
        by_cases h5 : okTag a b c
        · cases h
          · by_cases h6 : v.length = 0
            · by_cases h7 : a = 0 <;> simp [e1, e2, e3, h5, h6, h7] <;> (try (subst h7; simp [h5]))
            · have : (v.length : Int) > 0 := by omega
              simp [e1, e2, e3, h5, h6, this]
          · by_cases h7 : a = 0 <;> simp [e1, e2, e3, h5, h7]
        · cases h
          · by_cases h6 : v.length = 0
            · simp [e1, e2, e3, h5, h6]
            · have : (v.length : Int) > 0 := by omega
              simp [e1, e2, e3, h5, h6, this]
          · simp [e1, e2, e3, h5]
theorem rright_c {w : World} {A : Option Addr} {n c' : Nat} {v : List Int} (k : ByteArray) (a b c : Int) (h : Bool) {r : Int} (hq : rightV k a b c h v = r) (hr : Kd.C (Kd.int .u8) w A n v) (hc : n ≤ c') :
    Calls Tryd.prog 43 #[.agg #[.string k, .int .i64 a, .int .i64 b, .int .i64 c, .bool h, .slice A n c']] w fun e w' => e = .returned (.int .i64 r) ∧ Below w.heap.size w w' := by
  obtain rfl : v.length = n := hr.1
  subst hq
  exact QR.icehouseref03_Right.calls 2 k a b c h A c' v _ w hr hc (rright_f k a b c h v)
theorem C_same {w w1 : World} {A : Option Addr} {n : Nat} {xs : List Int} (h : Kd.C (Kd.int .u8) w A n xs) (hs : ∀ p o, A = some ⟨p, o, none⟩ → w1.heap[p]? = w.heap[p]?) : Kd.C (Kd.int .u8) w1 A n xs := by
  obtain rfl : xs.length = n := h.1
  rcases Nat.eq_zero_or_pos xs.length with h0 | h0
  · obtain rfl := List.length_eq_zero_iff.1 h0
    exact C_empty
  · obtain ⟨b, off, rfl, hc⟩ := C_block h h0
    refine C_mk h.2.1 fun k hk => ?_
    rw [← hc k hk]
    have := hs b off rfl
    simp [World.cell?, this]
theorem own_lt {α : Type} {d : Kd α} {e : Nat} {w : World} {base : Nat} {ok : Nat → Prop} {v : Value} {xs : List α} (h : d.R e w base ok v xs) (q : Nat) (hq : v.ownBlock = some q) : q < w.heap.size := by
  obtain ⟨cells, hc⟩ := own_typed (Kd.R_own h).choose_spec q hq
  exact blk_lt hc
/-- a row made later stands while an elder one grows -/
theorem C_later {w w1 : World} {B n c : Nat} {A : Option Addr} {xs : List Int} {row : Option Nat} (h : Kd.R (Kd.int .u8) 5 w B (fun _ => True) (.slice A n c) xs) (hg : w.grownBy w1 row) (hrow : ∀ q, row = some q → q < B) : Kd.C (Kd.int .u8) w1 A n xs := by
  obtain ⟨rfl, _, hC⟩ := Kd.R_reads' h
  rcases Nat.eq_zero_or_pos xs.length with h0 | h0
  · obtain rfl := List.length_eq_zero_iff.1 h0
    exact C_empty
  · obtain ⟨g, cap, ep, h1, h2, _⟩ := Kd.R_form h h0
    injection ep with ep _ _
    subst ep
    refine C_same hC fun p o hp => ?_
    injection hp with hp
    injection hp with hp _ _
    subst hp
    exact hg.block _ h2 (fun hq => by have := hrow _ hq.symm; omega)
set_option maxHeartbeats 4000000 in
set_option maxRecDepth 100000 in
theorem rbytes_ {w : World} {A : Option Addr} {d : Nat} {v : List Int} (k : ByteArray) (a b c : Int) (h : Bool) (hr : Kd.C (Kd.int .u8) w A v.length v) (hc : v.length ≤ d) :
    Calls Tryd.prog 34 #[.agg #[.string k, .int .i64 a, .int .i64 b, .int .i64 c, .bool h, .slice A v.length d]] w (Made2 w (bytesV k a b c h v).1 (bytesV k a b c h v).2) := by
  have hu40 := Tryd.underlying28
  have hu23 := Tryd.underlying23
  have hu38 := Tryd.underlying26
  have bE := blk_new w (.cells #[.string k, .int .i64 a, .int .i64 b, .int .i64 c, .bool h, .slice A v.length d] 28)
  have HR0 := Aside0.mk hr
  have HR := Aside0.mk (Kd.C_alloc hr (.cells #[.string k, .int .i64 a, .int .i64 b, .int .i64 c, .bool h, .slice A v.length d] 28))
  have HB := Aside0.mk (below_alloc (Below.refl w.heap.size w) (.cells #[.string k, .int .i64 a, .int .i64 b, .int .i64 c, .bool h, .slice A v.length d] 28))
  have BE := Aside0.mk bE
  clear hr bE
  by_cases hok : okEnt k a b c h v
  · have HV := Aside0.mk (show rightV k a b c h v = 0 from if_pos hok)
    have HE := Aside0.mk (show bytesV k a b c h v = (entB k a b c h v, 0) from if_pos hok)
    have hk : k.size ≤ 250 := hok.2.1
    have hv : v.length ≤ 60000 := hok.2.2.1
    clear hok
    go_enter Tryd.func34, Tryd.ntmps34
    go_upto_region 1 with fail
    generalize w.alloc (.cells #[.string k, .int .i64 a, .int .i64 b, .int .i64 c, .bool h, .slice A v.length d] 28) = W at *
    obtain ⟨e0, e1, e2, e3, e4, e5⟩ := en_cells BE.out
    go_wp2_with fail
    (with_reducible refine (rright_c k a b c h HV.out HR.out hc).mono ?_)
    rintro x w1 ⟨rfl, hb⟩
    have HB := Aside0.mk (below_then HB.out HB.out.size hb)
    have BE := Aside0.mk (blk_below BE.out hb)
    clear hb e0 e1 e2 e3 e4 e5
    obtain ⟨e0, e1, e2, e3, e4, e5⟩ := en_cells BE.out
    obtain ⟨ck, w2, hcv, hck, hb, hC⟩ := conv_ex w1 k (by omega)
    have HB := Aside0.mk (below_then HB.out HB.out.size hb)
    have BE := Aside0.mk (blk_below BE.out hb)
    have HC := Aside0.mk hC
    clear hb hC
    go_wp2_with fail
    clear hcv
    (with_reducible refine (rrow_c HC.out hck (by omega)).mono ?_)
    rintro x w3 ⟨vo, rfl, ho, hb⟩
    have HO := Aside0.mk (Kd.R_lower ho HB.out.size)
    have HB := Aside0.mk (below_then HB.out HB.out.size hb)
    have BE := Aside0.mk (blk_below BE.out hb)
    clear ho hb e0 e1 e2 e3 e4 e5
    obtain ⟨e0, e1, e2, e3, e4, e5⟩ := en_cells BE.out
    obtain ⟨x0, hx⟩ : ∃ z, rowB (bytesOf k) = z := ⟨_, rfl⟩
    rw [hx] at HO
    have HX0 := Aside0.mk hx
    have HL0 : Aside0 (x0.length ≤ 300) := ⟨by rw [← hx]; have := rowB_len (l := bytesOf k); rw [bytesOf_len] at this; omega⟩
    clear hx
    obtain ⟨Ao, co, rfl⟩ := Kd.R_slice HO.out
    go_wp2_with fail
    (with_reducible refine (rnum_c a _).mono ?_)
    rintro y u1 ⟨vn, rfl, hn, hb⟩
    obtain ⟨An, cn, rfl, hcn, hnr⟩ := Kd.R_reads hn
    have HN := Aside0.mk hnr
    have HO := Aside0.mk (Kd.R_below HO.out hb)
    have HB := Aside0.mk (below_then HB.out HB.out.size hb)
    have BE := Aside0.mk (blk_below BE.out hb)
    clear hn hnr hb e0 e1 e2 e3 e4 e5
    obtain ⟨e0, e1, e2, e3, e4, e5⟩ := en_cells BE.out
    go_wp2_with ((with_reducible refine gate_builtin (b := .append) (xs := #[.tmp 18, .tmp 22]) rfl ?_); at_builtin; refine Kd.R_append_rows (Kd.int .u8) (w0 := w) w.heap.size rfl (.tmp 18) (.tmp 22) 24 5 (.int .u8 0) 1 rfl Tryd.underlying24 info8 rfl (by decide) (by omega) _ _ _ _ _ _ (fun _ => True) (fun _ => False) rfl rfl HO.out HN.out (fun _ _ h => h) (fun _ h => h.elim) (fun _ _ => trivial) HB.out HB.out.size ?aL ?_; (case aL => have q1 := HL0.out; have q3 := numB_len a; omega); intro va wa ho hb hg hat; have HO2 := Aside0.mk ho; have HB2 := Aside0.mk hb; have BE2 := Aside0.mk (blk_apart HO.out BE.out (by decide) hg); clear ho hb hg hat e0 e1 e2 e3 e4 e5; obtain ⟨e0, e1, e2, e3, e4, e5⟩ := en_cells BE2.out)
    obtain ⟨x1, hx⟩ : ∃ z, x0 ++ numB a = z := ⟨_, rfl⟩
    rw [hx] at HO2
    have HX1 := Aside0.mk hx
    have HL1 : Aside0 (x1.length ≤ 309) := ⟨by rw [← hx, List.length_append]; have q1 := HL0.out; have q2 := numB_len a; omega⟩
    clear hx
    obtain ⟨Ao, co, rfl⟩ := Kd.R_slice HO2.out
    have HO := HO2
    have HB := HB2
    have BE := BE2
    (with_reducible refine (rnum_c b _).mono ?_)
    rintro y u2 ⟨vn, rfl, hn, hb⟩
    obtain ⟨An, cn, rfl, hcn, hnr⟩ := Kd.R_reads hn
    have HN := Aside0.mk hnr
    have HO := Aside0.mk (Kd.R_below HO.out hb)
    have HB := Aside0.mk (below_then HB.out HB.out.size hb)
    have BE := Aside0.mk (blk_below BE.out hb)
    clear hn hnr hb e0 e1 e2 e3 e4 e5
    obtain ⟨e0, e1, e2, e3, e4, e5⟩ := en_cells BE.out
    go_wp2_with ((with_reducible refine gate_builtin (b := .append) (xs := #[.tmp 24, .tmp 28]) rfl ?_); at_builtin; refine Kd.R_append_rows (Kd.int .u8) (w0 := w) w.heap.size rfl (.tmp 24) (.tmp 28) 24 5 (.int .u8 0) 1 rfl Tryd.underlying24 info8 rfl (by decide) (by omega) _ _ _ _ _ _ (fun _ => True) (fun _ => False) rfl rfl HO.out HN.out (fun _ _ h => h) (fun _ h => h.elim) (fun _ _ => trivial) HB.out HB.out.size ?aL ?_; (case aL => have q1 := HL1.out; have q3 := numB_len b; omega); intro va wa ho hb hg hat; have HO2 := Aside0.mk ho; have HB2 := Aside0.mk hb; have BE2 := Aside0.mk (blk_apart HO.out BE.out (by decide) hg); clear ho hb hg hat e0 e1 e2 e3 e4 e5; obtain ⟨e0, e1, e2, e3, e4, e5⟩ := en_cells BE2.out)
    obtain ⟨x2, hx⟩ : ∃ z, x1 ++ numB b = z := ⟨_, rfl⟩
    rw [hx] at HO2
    have HX2 := Aside0.mk hx
    have HL2 : Aside0 (x2.length ≤ 318) := ⟨by rw [← hx, List.length_append]; have q1 := HL1.out; have q2 := numB_len b; omega⟩
    clear hx
    obtain ⟨Ao, co, rfl⟩ := Kd.R_slice HO2.out
    have HO := HO2
    have HB := HB2
    have BE := BE2
    (with_reducible refine (rnum_c c _).mono ?_)
    rintro y u3 ⟨vn, rfl, hn, hb⟩
    obtain ⟨An, cn, rfl, hcn, hnr⟩ := Kd.R_reads hn
    have HN := Aside0.mk hnr
    have HO := Aside0.mk (Kd.R_below HO.out hb)
    have HB := Aside0.mk (below_then HB.out HB.out.size hb)
    have BE := Aside0.mk (blk_below BE.out hb)
    clear hn hnr hb e0 e1 e2 e3 e4 e5
    obtain ⟨e0, e1, e2, e3, e4, e5⟩ := en_cells BE.out
    go_upto_region 7 with ((with_reducible refine gate_builtin (b := .append) (xs := #[.tmp 30, .tmp 34]) rfl ?_); at_builtin; refine Kd.R_append_rows (Kd.int .u8) (w0 := w) w.heap.size rfl (.tmp 30) (.tmp 34) 24 5 (.int .u8 0) 1 rfl Tryd.underlying24 info8 rfl (by decide) (by omega) _ _ _ _ _ _ (fun _ => True) (fun _ => False) rfl rfl HO.out HN.out (fun _ _ h => h) (fun _ h => h.elim) (fun _ _ => trivial) HB.out HB.out.size ?aL ?_; (case aL => have q1 := HL2.out; have q3 := numB_len c; omega); intro va wa ho hb hg hat; have HO2 := Aside0.mk ho; have HB2 := Aside0.mk hb; have BE2 := Aside0.mk (blk_apart HO.out BE.out (by decide) hg); clear ho hb hg hat e0 e1 e2 e3 e4 e5; obtain ⟨e0, e1, e2, e3, e4, e5⟩ := en_cells BE2.out)
    obtain ⟨x3, hx⟩ : ∃ z, x2 ++ numB c = z := ⟨_, rfl⟩
    rw [hx] at HO2
    have HX3 := Aside0.mk hx
    have HL3 : Aside0 (x3.length ≤ 327) := ⟨by rw [← hx, List.length_append]; have q1 := HL2.out; have q2 := numB_len c; omega⟩
    clear hx
    obtain ⟨Ao, co, rfl⟩ := Kd.R_slice HO2.out
    have HO := HO2
    have HB := HB2
    have BE := BE2
    cases h
    · go_wp2_with ((with_reducible refine gate_builtin (b := .append) (xs := #[.tmp 40, .tmp 41]) rfl ?_); at_builtin; refine Kd.R_append (Kd.int .u8) (w0 := w) w.heap.size rfl (.tmp 40) (.tmp 41) 24 5 (.int .u8 0) 1 rfl Tryd.underlying24 info8 rfl (by decide) (by omega) _ _ 0 [.int .u8 0] (fun _ => True) (fun _ => False) rfl rfl rfl (fun _ hk => hk.elim) (fun _ _ => trivial) HO.out HB.out HB.out.size ?aL ?_; (case aL => have q1 := HL3.out; omega); intro va wa ho hb hg hat; have HO2 := Aside0.mk ho; have HB2 := Aside0.mk hb; clear ho hb hg hat)
      go_ret2
      refine ⟨va, ?_, ?_, HB2.out⟩
      · rw [HE.out]; rfl
      · rw [HE.out, show (entB k a b c false v, (0 : Int)).1 = x3 ++ [(0 : Int)] from by rw [← HX3.out, ← HX2.out, ← HX1.out, ← HX0.out]; simp [entB, truthB]]; exact HO2.out
    · go_wp2_with fail
      have HR := Aside0.mk (Kd.C_below HR0.out HB.out)
      have HRow := Aside0.mk (own_lt HO.out)
      (with_reducible refine (rrow_c HR.out hc (by omega)).mono ?_)
      rintro y w6 ⟨vn, rfl, hn, hb⟩
      obtain ⟨An, cn, rfl, hcn, hnr⟩ := Kd.R_reads hn
      have HNr := Aside0.mk hn
      have HO := Aside0.mk (Kd.R_below HO.out hb)
      have HB := Aside0.mk (below_then HB.out HB.out.size hb)
      have HLv : Aside0 ((rowB v).length ≤ 60009) := ⟨by have := rowB_len (l := v); omega⟩
      clear hn hnr hb e0 e1 e2 e3 e4 e5
      go_wp2_with (first | ((with_reducible refine gate_builtin (b := .append) (xs := #[.tmp 50, .tmp 51]) rfl ?_); at_builtin; refine Kd.R_append (Kd.int .u8) (w0 := w) w.heap.size rfl (.tmp 50) (.tmp 51) 24 5 (.int .u8 0) 1 rfl Tryd.underlying24 info8 rfl (by decide) (by omega) _ _ 1 [.int .u8 1] (fun _ => True) (fun _ => False) rfl rfl rfl (fun _ hk => hk.elim) (fun _ _ => trivial) HO.out HB.out HB.out.size ?aL ?_; (case aL => have q1 := HL3.out; omega); intro va wa ho hb hg hat; have HO2 := Aside0.mk ho; have HB2 := Aside0.mk hb; have HN := Aside0.mk (C_later HNr.out hg HRow.out); clear ho hb hg hat; obtain ⟨Ap, cp, ep⟩ := Kd.R_slice HO2.out; subst ep; rw [List.length_append, List.length_singleton] at HO2 ⊢) | ((with_reducible refine gate_builtin (b := .append) (xs := #[.tmp 53, .tmp 54]) rfl ?_); at_builtin; refine Kd.R_append_rows (Kd.int .u8) (w0 := w) w.heap.size rfl (.tmp 53) (.tmp 54) 24 5 (.int .u8 0) 1 rfl Tryd.underlying24 info8 rfl (by decide) (by omega) _ _ _ _ _ _ (fun _ => True) (fun _ => False) rfl rfl HO2.out HN.out (fun _ _ h => h) (fun _ h => h.elim) (fun _ _ => trivial) HB2.out HB2.out.size ?aL ?_; (case aL => have q1 := HL3.out; have q2 := HLv.out; rw [List.length_append, List.length_singleton]; omega); intro va wa ho hb hg hat; have HO3 := Aside0.mk ho; have HB3 := Aside0.mk hb; clear ho hb hg hat))
      go_ret2
      refine ⟨va, ?_, ?_, HB3.out⟩
      · rw [HE.out]; rfl
      · rw [HE.out, show (entB k a b c true v, (0 : Int)).1 = (x3 ++ [(1 : Int)]) ++ rowB v from by rw [← HX3.out, ← HX2.out, ← HX1.out, ← HX0.out]; simp [entB, truthB]]; exact HO3.out
  · have HV := Aside0.mk (show rightV k a b c h v = 2 from if_neg hok)
    have HE := Aside0.mk (show bytesV k a b c h v = ([], 2) from if_neg hok)
    clear hok
    go_enter Tryd.func34, Tryd.ntmps34
    go_upto_region 1 with fail
    generalize w.alloc (.cells #[.string k, .int .i64 a, .int .i64 b, .int .i64 c, .bool h, .slice A v.length d] 28) = W at *
    obtain ⟨e0, e1, e2, e3, e4, e5⟩ := en_cells BE.out
    go_wp2_with fail
    (with_reducible refine (rright_c k a b c h HV.out HR.out hc).mono ?_)
    rintro x w1 ⟨rfl, hb⟩
    have HB := Aside0.mk (below_then HB.out HB.out.size hb)
    clear hb e0 e1 e2 e3 e4 e5
    go_wp2_with fail
    go_ret2
    rw [HE.out]
    exact ⟨.slice none 0 0, rfl, Kd.R_nil _ _ _ _ _, HB.out⟩
end Go.Proofs.YthaoiamgkpkcbaaDoor.Tg
namespace Go.Proofs.YthaoiamgkpkcbaaDoor.QK
open Go.RowKit Go.Proofs.YthaoiamgkpkcbaaDoorW.PrintWords Go.Proofs.YthaoiamgkpkcbaaDoorW.PrintLast Go.Proofs.YthaoiamgkpkcbaaDoorW.PrintMore
attribute [local go_sem] max2_int min2_int max_two min_two max_three min_three max_four min_four   -- for this text's walks alone
set_option linter.unusedVariables false
set_option linter.unusedSimpArgs false
def errW : Option Int → Value
  | none => .nilIface
  | some c => .iface 0 (.int .i64 c)
theorem errW_none : errW none = .nilIface := rfl
theorem errW_some (c : Int) : errW (some c) = .iface 0 (.int .i64 c) := rfl

-- the values' own types
end Go.Proofs.YthaoiamgkpkcbaaDoor.QK
namespace Go.Proofs.YthaoiamgkpkcbaaDoor.QK
open Go.RowKit Go.Proofs.YthaoiamgkpkcbaaDoorW.PrintWords Go.Proofs.YthaoiamgkpkcbaaDoorW.PrintLast Go.Proofs.YthaoiamgkpkcbaaDoorW.PrintMore
attribute [local go_sem] max2_int min2_int max_two min_two max_three min_three max_four min_four   -- for this text's walks alone
set_option linter.unusedVariables false
set_option linter.unusedSimpArgs false
/-! ### icehouseref09_Check: function 44 -/
mutual
def icehouseref09_Check.j0 : Nat → Int → Bool → List Int → Int → Int → Option (Int)
  | 0, _, _, _, _, _ => none
  | k + 1, x3, x34, x102000, x102001, x102002 => if x34 = true then (some 2) else (icehouseref09_Check.l0 k x3 0 x102000 x102001 x102002)
def icehouseref09_Check.l0 : Nat → Int → Int → List Int → Int → Int → Option (Int)
  | 0, _, _, _, _, _ => none
  | k + 1, x3, x4, x102000, x102001, x102002 => if x4 < x3 then (if 0 ≤ x4 then (if x4 < (x102000.length : Int) then (if (rd x102000 x4) < 0 then (some 2) else (if (rd x102000 x4) > 1048575 then (some 2) else (if x4 > 0 then (if 0 ≤ (wrap64 (x4 - 1)) then (if (wrap64 (x4 - 1)) < (x102000.length : Int) then (if (rd x102000 x4) ≤ (rd x102000 (wrap64 (x4 - 1))) then (some 2) else (icehouseref09_Check.l0 k x3 (wrap64 (x4 + 1)) x102000 x102001 x102002)) else (none)) else (none)) else (icehouseref09_Check.l0 k x3 (wrap64 (x4 + 1)) x102000 x102001 x102002)))) else (none)) else (none)) else (some 0)
end
def icehouseref09_Check.f (k : Nat) (l0_0 : List Int) (a0_1 : Int) (a0_2 : Int) : Option (Int) := if (l0_0.length : Int) < 1 then (icehouseref09_Check.j0 k (l0_0.length : Int) true l0_0 a0_1 a0_2) else (if (l0_0.length : Int) > 64 then (icehouseref09_Check.j0 k (l0_0.length : Int) true l0_0 a0_1 a0_2) else (if a0_1 < 1 then (icehouseref09_Check.j0 k (l0_0.length : Int) true l0_0 a0_1 a0_2) else (if a0_1 > 64 then (icehouseref09_Check.j0 k (l0_0.length : Int) true l0_0 a0_1 a0_2) else (if a0_2 < 1 then (icehouseref09_Check.j0 k (l0_0.length : Int) true l0_0 a0_1 a0_2) else (icehouseref09_Check.j0 k (l0_0.length : Int) (decide (a0_2 > (l0_0.length : Int))) l0_0 a0_1 a0_2)))))
theorem icehouseref09_Check.mono_l : ∀ k, (∀ y0 y1 y2 y3 y4, LeO (icehouseref09_Check.j0 k y0 y1 y2 y3 y4) (icehouseref09_Check.j0 (k + 1) y0 y1 y2 y3 y4)) ∧ (∀ y0 y1 y2 y3 y4, LeO (icehouseref09_Check.l0 k y0 y1 y2 y3 y4) (icehouseref09_Check.l0 (k + 1) y0 y1 y2 y3 y4))
  | 0 => ⟨fun _ _ _ _ _ r h => by simp [icehouseref09_Check.j0] at h, fun _ _ _ _ _ r h => by simp [icehouseref09_Check.l0] at h⟩
  | k + 1 => by
    obtain ⟨ih0, ih1⟩ := icehouseref09_Check.mono_l k
    refine ⟨?_, ?_⟩
    · intro y0 y1 y2 y3 y4
      unfold icehouseref09_Check.j0
      repeat' first
      | (with_reducible exact ih0 _ _ _ _ _)
      | (with_reducible exact ih1 _ _ _ _ _)
      | (with_reducible exact LeO.refl _)
      | (with_reducible exact LeO.none _)
      | (with_reducible refine LeO.ite ?_ ?_)
      | (with_reducible refine LeO.bind ?_ (fun _ => ?_))
      | exact ih0 _ _ _ _ _
      | exact ih1 _ _ _ _ _
      | exact LeO.none _
      | refine LeO.ite ?_ ?_
      | refine LeO.bind ?_ (fun _ => ?_)
    · intro y0 y1 y2 y3 y4
      unfold icehouseref09_Check.l0
      repeat' first
      | (with_reducible exact ih0 _ _ _ _ _)
      | (with_reducible exact ih1 _ _ _ _ _)
      | (with_reducible exact LeO.refl _)
      | (with_reducible exact LeO.none _)
      | (with_reducible refine LeO.ite ?_ ?_)
      | (with_reducible refine LeO.bind ?_ (fun _ => ?_))
      | exact ih0 _ _ _ _ _
      | exact ih1 _ _ _ _ _
      | exact LeO.none _
      | refine LeO.ite ?_ ?_
      | refine LeO.bind ?_ (fun _ => ?_)
set_option maxHeartbeats 8000000 in
set_option maxRecDepth 100000 in
theorem icehouseref09_Check.calls (k : Nat) (A0_0 : Option Addr) (c0_0 : Nat) (l0_0 : List Int) (a0_1 : Int) (a0_2 : Int) (r : Int) (w : World) (hr0_0 : Kd.C (Kd.int .i64) w A0_0 l0_0.length l0_0) (hc0_0 : l0_0.length ≤ c0_0) (h : icehouseref09_Check.f k l0_0 a0_1 a0_2 = some r) :
    Calls Tryd.prog 44 #[.agg #[.slice A0_0 l0_0.length c0_0, .int .i64 a0_1, .int .i64 a0_2]] w fun e w' => e = .returned (.int .i64 r) ∧ Below w.heap.size w w' := by
  have hu32 := Tryd.underlying32
  have HR0_0 := Aside0.mk hr0_0
  have HC0_0 := Aside0.mk hc0_0
  clear hr0_0 hc0_0
  have HB := Aside0.mk (Below.refl w.heap.size w)
  have H : (if (l0_0.length : Int) < 1 then (icehouseref09_Check.j0 k (l0_0.length : Int) true l0_0 a0_1 a0_2) else (if (l0_0.length : Int) > 64 then (icehouseref09_Check.j0 k (l0_0.length : Int) true l0_0 a0_1 a0_2) else (if a0_1 < 1 then (icehouseref09_Check.j0 k (l0_0.length : Int) true l0_0 a0_1 a0_2) else (if a0_1 > 64 then (icehouseref09_Check.j0 k (l0_0.length : Int) true l0_0 a0_1 a0_2) else (if a0_2 < 1 then (icehouseref09_Check.j0 k (l0_0.length : Int) true l0_0 a0_1 a0_2) else (icehouseref09_Check.j0 k (l0_0.length : Int) (decide (a0_2 > (l0_0.length : Int))) l0_0 a0_1 a0_2)))))) = some r := h
  clear h
  have HC2 := Aside0.mk H
  clear H
  go_enter Tryd.func44, Tryd.ntmps44
  go_upto_region 2 with (first | ((with_reducible refine gate_dst (N := 1) rfl ?_); refine box_event ?hg (N := 1) ?hd (cs := #[.slice A0_0 l0_0.length c0_0, .int .i64 a0_1, .int .i64 a0_2]) (t := 32) ?hr ?_; (case hd => rfl); (case hg => rfl); (case hr => first | (go_simp; done) | (go_simp; rfl)); intro gb101 hg w3 hbox hb; have n0_ := Aside0.mk (below_step (by repeat (first | (with_reducible first | exact HB.out | apply below_alloc | apply pw_below_drewN | apply below_drew1) | exact HB.out)) hb); have n1_ := Aside0.mk (hbox); have n2_ := Aside0.mk ((by rw [hg]; exact (below_size (by repeat (first | (with_reducible first | exact HB.out | apply below_alloc | apply pw_below_drewN | apply below_drew1) | exact HB.out))) : w.heap.size ≤ gb101)); have n3_ := Aside0.mk ((by rw [hg]; exact (below_size (by repeat (first | (with_reducible first | exact HB.out | apply below_alloc | apply pw_below_drewN | apply below_drew1) | exact HB.out))) : w.heap.size ≤ gb101)); clear HB; have HB := n0_; have BK101 := n1_; have GW101 := n2_; have GE101 := n3_; clear n0_ n1_ n2_ n3_; clear hb hbox hg; have hcz4_0 : w3.cell? ⟨gb101, 0, none⟩ = some (.slice A0_0 l0_0.length c0_0) := (blk_cell BK101.out 0).trans rfl; have hcz4_1 : w3.cell? ⟨gb101, 1, none⟩ = some (.int .i64 a0_1) := (blk_cell BK101.out 1).trans rfl; have hcz4_2 : w3.cell? ⟨gb101, 2, none⟩ = some (.int .i64 a0_2) := (blk_cell BK101.out 2).trans rfl; have hfz4_0 := blk_frozen BK101.out 0; have hfz4_1 := blk_frozen BK101.out 1; have hfz4_2 := blk_frozen BK101.out 2))
  repeat (go_quiet (first | ((with_reducible refine gate_dst (N := 1) rfl ?_); refine box_event ?hg (N := 1) ?hd (cs := #[.slice A0_0 l0_0.length c0_0, .int .i64 a0_1, .int .i64 a0_2]) (t := 32) ?hr ?_; (case hd => rfl); (case hg => rfl); (case hr => first | (go_simp; done) | (go_simp; rfl)); intro gb101 hg w3 hbox hb; have n0_ := Aside0.mk (below_step (by repeat (first | (with_reducible first | exact HB.out | apply below_alloc | apply pw_below_drewN | apply below_drew1) | exact HB.out)) hb); have n1_ := Aside0.mk (hbox); have n2_ := Aside0.mk ((by rw [hg]; exact (below_size (by repeat (first | (with_reducible first | exact HB.out | apply below_alloc | apply pw_below_drewN | apply below_drew1) | exact HB.out))) : w.heap.size ≤ gb101)); have n3_ := Aside0.mk ((by rw [hg]; exact (below_size (by repeat (first | (with_reducible first | exact HB.out | apply below_alloc | apply pw_below_drewN | apply below_drew1) | exact HB.out))) : w.heap.size ≤ gb101)); clear HB; have HB := n0_; have BK101 := n1_; have GW101 := n2_; have GE101 := n3_; clear n0_ n1_ n2_ n3_; clear hb hbox hg; have hcz4_0 : w3.cell? ⟨gb101, 0, none⟩ = some (.slice A0_0 l0_0.length c0_0) := (blk_cell BK101.out 0).trans rfl; have hcz4_1 : w3.cell? ⟨gb101, 1, none⟩ = some (.int .i64 a0_1) := (blk_cell BK101.out 1).trans rfl; have hcz4_2 : w3.cell? ⟨gb101, 2, none⟩ = some (.int .i64 a0_2) := (blk_cell BK101.out 2).trans rfl; have hfz4_0 := blk_frozen BK101.out 0; have hfz4_1 := blk_frozen BK101.out 1; have hfz4_2 := blk_frozen BK101.out 2)); go_upto_region 2 with (first | ((with_reducible refine gate_dst (N := 1) rfl ?_); refine box_event ?hg (N := 1) ?hd (cs := #[.slice A0_0 l0_0.length c0_0, .int .i64 a0_1, .int .i64 a0_2]) (t := 32) ?hr ?_; (case hd => rfl); (case hg => rfl); (case hr => first | (go_simp; done) | (go_simp; rfl)); intro gb101 hg w3 hbox hb; have n0_ := Aside0.mk (below_step (by repeat (first | (with_reducible first | exact HB.out | apply below_alloc | apply pw_below_drewN | apply below_drew1) | exact HB.out)) hb); have n1_ := Aside0.mk (hbox); have n2_ := Aside0.mk ((by rw [hg]; exact (below_size (by repeat (first | (with_reducible first | exact HB.out | apply below_alloc | apply pw_below_drewN | apply below_drew1) | exact HB.out))) : w.heap.size ≤ gb101)); have n3_ := Aside0.mk ((by rw [hg]; exact (below_size (by repeat (first | (with_reducible first | exact HB.out | apply below_alloc | apply pw_below_drewN | apply below_drew1) | exact HB.out))) : w.heap.size ≤ gb101)); clear HB; have HB := n0_; have BK101 := n1_; have GW101 := n2_; have GE101 := n3_; clear n0_ n1_ n2_ n3_; clear hb hbox hg; have hcz4_0 : w3.cell? ⟨gb101, 0, none⟩ = some (.slice A0_0 l0_0.length c0_0) := (blk_cell BK101.out 0).trans rfl; have hcz4_1 : w3.cell? ⟨gb101, 1, none⟩ = some (.int .i64 a0_1) := (blk_cell BK101.out 1).trans rfl; have hcz4_2 : w3.cell? ⟨gb101, 2, none⟩ = some (.int .i64 a0_2) := (blk_cell BK101.out 2).trans rfl; have hfz4_0 := blk_frozen BK101.out 0; have hfz4_1 := blk_frozen BK101.out 1; have hfz4_2 := blk_frozen BK101.out 2)))
  (try simp only [Act.put, List.setIfInBounds_toArray, List.set_cons_zero, List.set_cons_succ])
  go_cut [34] (fun v34 wc => ∃ (kq : Nat) (x34_1 : Bool), v34 = .bool x34_1 ∧ Aside0 (icehouseref09_Check.j0 kq (l0_0.length : Int) x34_1 l0_0 a0_1 a0_2 = some r) ∧ Aside0 (kq ≤ k) ∧ Aside0 (wc.heap[gb101]? = some (.cells #[(.slice A0_0 l0_0.length c0_0), .int .i64 a0_1, .int .i64 a0_2] 32 (0, 0))) ∧ Aside0 (Below w.heap.size w wc))
  case first =>
    have H := HC2.out
    clear HC2
    by_cases c5 : (l0_0.length : Int) < 1
    · rw [if_pos c5] at H
      have c5b0 : decide ((l0_0.length : Int) < 1) = true := decide_eq_true c5
      have c5b1 : decide (l0_0.length < 1) = true := decide_eq_true (by omega)
      clear c5
      (first | rw [c5b0] | (simp only [i64_w, i32_w]; rw [c5b0]) | skip)
      have H' := Aside0.mk H
      clear H
      go_wp2
      repeat (go_quiet (fail); try go_wp2)
      go_meet
      case rel => exact ⟨_, (true), (by first | rfl | (simp; done) | (simp [*]; done)), H', ⟨by first | omega | exact Nat.le_refl _⟩, ⟨by (with_reducible repeat (first | refine blk_drewN ?_ _ | refine blk_drew ?_ | refine blk_alloc ?_ _)); exact BK101.out⟩, ⟨by repeat (first | (with_reducible first | exact HB.out | apply below_alloc | apply pw_below_drewN | apply below_drew1 | refine below_set ?_ GE101.out) | exact HB.out)⟩⟩
    · rw [if_neg c5] at H
      have c5b0 : decide ((l0_0.length : Int) < 1) = false := decide_eq_false c5
      have c5b1 : decide (l0_0.length < 1) = false := decide_eq_false (by omega)
      clear c5
      (first | rw [c5b0] | (simp only [i64_w, i32_w]; rw [c5b0]) | skip)
      by_cases c6 : (l0_0.length : Int) > 64
      · rw [if_pos c6] at H
        have c6b0 : decide (64 < (l0_0.length : Int)) = true := decide_eq_true c6
        have c6b1 : decide (64 < l0_0.length) = true := decide_eq_true (by omega)
        clear c6
        have H' := Aside0.mk H
        clear H
        go_wp2
        repeat (go_quiet (fail); try go_wp2)
        go_meet
        case rel => exact ⟨_, (true), (by first | rfl | (simp; done) | (simp [*]; done)), H', ⟨by first | omega | exact Nat.le_refl _⟩, ⟨by (with_reducible repeat (first | refine blk_drewN ?_ _ | refine blk_drew ?_ | refine blk_alloc ?_ _)); exact BK101.out⟩, ⟨by repeat (first | (with_reducible first | exact HB.out | apply below_alloc | apply pw_below_drewN | apply below_drew1 | refine below_set ?_ GE101.out) | exact HB.out)⟩⟩
      · rw [if_neg c6] at H
        have c6b0 : decide (64 < (l0_0.length : Int)) = false := decide_eq_false c6
        have c6b1 : decide (64 < l0_0.length) = false := decide_eq_false (by omega)
        clear c6
        by_cases c7 : a0_1 < 1
        · rw [if_pos c7] at H
          have c7b0 : decide (a0_1 < 1) = true := decide_eq_true c7
          clear c7
          have H' := Aside0.mk H
          clear H
          have hcz8_0 : w3.cell? ⟨gb101, 0, none⟩ = some (.slice A0_0 l0_0.length c0_0) := (blk_cell BK101.out 0).trans rfl
          have hcz8_1 : w3.cell? ⟨gb101, 1, none⟩ = some (.int .i64 a0_1) := (blk_cell BK101.out 1).trans rfl
          have hcz8_2 : w3.cell? ⟨gb101, 2, none⟩ = some (.int .i64 a0_2) := (blk_cell BK101.out 2).trans rfl
          have hfz8_0 := blk_frozen BK101.out 0
          have hfz8_1 := blk_frozen BK101.out 1
          have hfz8_2 := blk_frozen BK101.out 2
          go_wp2
          repeat (go_quiet (fail); try go_wp2)
          go_meet
          case rel => exact ⟨_, (true), (by first | rfl | (simp; done) | (simp [*]; done)), H', ⟨by first | omega | exact Nat.le_refl _⟩, ⟨by (with_reducible repeat (first | refine blk_drewN ?_ _ | refine blk_drew ?_ | refine blk_alloc ?_ _)); exact BK101.out⟩, ⟨by repeat (first | (with_reducible first | exact HB.out | apply below_alloc | apply pw_below_drewN | apply below_drew1 | refine below_set ?_ GE101.out) | exact HB.out)⟩⟩
        · rw [if_neg c7] at H
          have c7b0 : decide (a0_1 < 1) = false := decide_eq_false c7
          clear c7
          by_cases c9 : a0_1 > 64
          · rw [if_pos c9] at H
            have c9b0 : decide (64 < a0_1) = true := decide_eq_true c9
            clear c9
            have H' := Aside0.mk H
            clear H
            have hcz10_0 : w3.cell? ⟨gb101, 0, none⟩ = some (.slice A0_0 l0_0.length c0_0) := (blk_cell BK101.out 0).trans rfl
            have hcz10_1 : w3.cell? ⟨gb101, 1, none⟩ = some (.int .i64 a0_1) := (blk_cell BK101.out 1).trans rfl
            have hcz10_2 : w3.cell? ⟨gb101, 2, none⟩ = some (.int .i64 a0_2) := (blk_cell BK101.out 2).trans rfl
            have hfz10_0 := blk_frozen BK101.out 0
            have hfz10_1 := blk_frozen BK101.out 1
            have hfz10_2 := blk_frozen BK101.out 2
            go_wp2
            repeat (go_quiet (fail); try go_wp2)
            go_meet
            case rel => exact ⟨_, (true), (by first | rfl | (simp; done) | (simp [*]; done)), H', ⟨by first | omega | exact Nat.le_refl _⟩, ⟨by (with_reducible repeat (first | refine blk_drewN ?_ _ | refine blk_drew ?_ | refine blk_alloc ?_ _)); exact BK101.out⟩, ⟨by repeat (first | (with_reducible first | exact HB.out | apply below_alloc | apply pw_below_drewN | apply below_drew1 | refine below_set ?_ GE101.out) | exact HB.out)⟩⟩
          · rw [if_neg c9] at H
            have c9b0 : decide (64 < a0_1) = false := decide_eq_false c9
            clear c9
            by_cases c11 : a0_2 < 1
            · rw [if_pos c11] at H
              have c11b0 : decide (a0_2 < 1) = true := decide_eq_true c11
              clear c11
              have H' := Aside0.mk H
              clear H
              have hcz12_0 : w3.cell? ⟨gb101, 0, none⟩ = some (.slice A0_0 l0_0.length c0_0) := (blk_cell BK101.out 0).trans rfl
              have hcz12_1 : w3.cell? ⟨gb101, 1, none⟩ = some (.int .i64 a0_1) := (blk_cell BK101.out 1).trans rfl
              have hcz12_2 : w3.cell? ⟨gb101, 2, none⟩ = some (.int .i64 a0_2) := (blk_cell BK101.out 2).trans rfl
              have hfz12_0 := blk_frozen BK101.out 0
              have hfz12_1 := blk_frozen BK101.out 1
              have hfz12_2 := blk_frozen BK101.out 2
              go_wp2
              repeat (go_quiet (fail); try go_wp2)
              go_meet
              case rel => exact ⟨_, (true), (by first | rfl | (simp; done) | (simp [*]; done)), H', ⟨by first | omega | exact Nat.le_refl _⟩, ⟨by (with_reducible repeat (first | refine blk_drewN ?_ _ | refine blk_drew ?_ | refine blk_alloc ?_ _)); exact BK101.out⟩, ⟨by repeat (first | (with_reducible first | exact HB.out | apply below_alloc | apply pw_below_drewN | apply below_drew1 | refine below_set ?_ GE101.out) | exact HB.out)⟩⟩
            · rw [if_neg c11] at H
              have c11b0 : decide (a0_2 < 1) = false := decide_eq_false c11
              clear c11
              have H' := Aside0.mk H
              clear H
              have hcz13_0 : w3.cell? ⟨gb101, 0, none⟩ = some (.slice A0_0 l0_0.length c0_0) := (blk_cell BK101.out 0).trans rfl
              have hcz13_1 : w3.cell? ⟨gb101, 1, none⟩ = some (.int .i64 a0_1) := (blk_cell BK101.out 1).trans rfl
              have hcz13_2 : w3.cell? ⟨gb101, 2, none⟩ = some (.int .i64 a0_2) := (blk_cell BK101.out 2).trans rfl
              have hfz13_0 := blk_frozen BK101.out 0
              have hfz13_1 := blk_frozen BK101.out 1
              have hfz13_2 := blk_frozen BK101.out 2
              go_wp2
              repeat (go_quiet (fail); try go_wp2)
              go_meet
              case rel => exact ⟨_, (decide (a0_2 > (l0_0.length : Int))), (by first | rfl | (simp; done) | (simp [*]; done)), H', ⟨by first | omega | exact Nat.le_refl _⟩, ⟨by (with_reducible repeat (first | refine blk_drewN ?_ _ | refine blk_drew ?_ | refine blk_alloc ?_ _)); exact BK101.out⟩, ⟨by repeat (first | (with_reducible first | exact HB.out | apply below_alloc | apply pw_below_drewN | apply below_drew1 | refine below_set ?_ GE101.out) | exact HB.out)⟩⟩
  case rest =>
    clear HC2
    try clear c1
    try clear p2
    try clear c4
    try clear c5
    try clear c5b0
    try clear c5b1
    try clear c6
    try clear c6b0
    try clear c6b1
    try clear c7
    try clear c7b0
    try clear c9
    try clear c9b0
    try clear c11
    try clear c11b0
    try clear hcz10_0
    try clear hcz10_1
    try clear hcz10_2
    try clear hcz12_0
    try clear hcz12_1
    try clear hcz12_2
    try clear hcz13_0
    try clear hcz13_1
    try clear hcz13_2
    try clear hcz4_0
    try clear hcz4_1
    try clear hcz4_2
    try clear hcz8_0
    try clear hcz8_1
    try clear hcz8_2
    try clear hfz10_0
    try clear hfz10_1
    try clear hfz10_2
    try clear hfz12_0
    try clear hfz12_1
    try clear hfz12_2
    try clear hfz13_0
    try clear hfz13_1
    try clear hfz13_2
    try clear hfz4_0
    try clear hfz4_1
    try clear hfz4_2
    try clear hfz8_0
    try clear hfz8_1
    try clear hfz8_2
    obtain ⟨kq, x34_1, rfl, HA, HJ1, BK101, HB⟩ := hcut
    cases kq with
    | zero => exact absurd HA.out (by simp [icehouseref09_Check.j0])
    | succ kj1 =>
      have H := HA.out
      clear HA
      simp only [icehouseref09_Check.j0] at H
      by_cases c14 : x34_1 = true
      · subst c14
        have H1 : (some 2) = some r := by rw [if_pos rfl] at H; exact H
        clear H
        have H := H1
        clear H1
        obtain rfl := Option.some.inj H
        go_wp2
        repeat (go_quiet (fail); try go_wp2)
        go_ret
        exact ⟨by first | rfl | (simp [errW_none, errW_some] <;> rfl) | (simp [*, errW_none, errW_some] <;> rfl), by repeat (first | (with_reducible first | exact HB.out | apply below_alloc | apply pw_below_drewN | apply below_drew1 | refine below_set ?_ GE101.out) | exact HB.out)⟩
      · replace c14 := Bool.eq_false_iff.mpr c14
        subst c14
        have H1 : (icehouseref09_Check.l0 kj1 (l0_0.length : Int) 0 l0_0 a0_1 a0_2) = some r := by rw [if_neg (show ¬ (false = true) by decide)] at H; exact H
        clear H
        have H := H1
        clear H1
        have H' := Aside0.mk H
        clear H
        go_wp2
        repeat (go_quiet (fail); try go_wp2)
        go_loopg [4] kj1 (fun kq v4 w' => ∃ (x4_2 : Int), v4 = .int .i64 x4_2 ∧ Aside0 (icehouseref09_Check.l0 kq (l0_0.length : Int) x4_2 l0_0 a0_1 a0_2 = some r) ∧ Aside0 (kq ≤ kj1) ∧ Aside0 (w'.heap[gb101]? = some (.cells #[(.slice A0_0 l0_0.length c0_0), .int .i64 a0_1, .int .i64 a0_2] 32 (0, 0))) ∧ Aside0 (Below w.heap.size w w'))
        case atStart => exact ⟨(0), (by first | rfl | (simp; done) | (simp [*]; done)), H', ⟨Nat.le_refl _⟩, ⟨by (with_reducible repeat (first | refine blk_drewN ?_ _ | refine blk_drew ?_ | refine blk_alloc ?_ _)); exact BK101.out⟩, ⟨by repeat (first | (with_reducible first | exact HB.out | apply below_alloc | apply pw_below_drewN | apply below_drew1 | refine below_set ?_ GE101.out) | exact HB.out)⟩⟩
        case round =>
          clear H'
          try clear c1
          try clear p2
          try clear c4
          try clear c5
          try clear c5b0
          try clear c5b1
          try clear c6
          try clear c6b0
          try clear c6b1
          try clear c7
          try clear c7b0
          try clear c9
          try clear c9b0
          try clear c11
          try clear c11b0
          try clear c14
          try clear hcz10_0
          try clear hcz10_1
          try clear hcz10_2
          try clear hcz12_0
          try clear hcz12_1
          try clear hcz12_2
          try clear hcz13_0
          try clear hcz13_1
          try clear hcz13_2
          try clear hcz4_0
          try clear hcz4_1
          try clear hcz4_2
          try clear hcz8_0
          try clear hcz8_1
          try clear hcz8_2
          try clear hfz10_0
          try clear hfz10_1
          try clear hfz10_2
          try clear hfz12_0
          try clear hfz12_1
          try clear hfz12_2
          try clear hfz13_0
          try clear hfz13_1
          try clear hfz13_2
          try clear hfz4_0
          try clear hfz4_1
          try clear hfz4_2
          try clear hfz8_0
          try clear hfz8_1
          try clear hfz8_2
          try clear p2
          obtain ⟨x4_2, rfl, HA, HK2, BK101, HB⟩ := hrel
          cases gk with
          | zero => exact absurd HA.out (by simp [icehouseref09_Check.l0])
          | succ k2 =>
            have H := HA.out
            clear HA
            simp only [icehouseref09_Check.l0] at H
            by_cases c15 : x4_2 < (l0_0.length : Int)
            · rw [if_pos c15] at H
              have c15b0 : decide (x4_2 < (l0_0.length : Int)) = true := decide_eq_true c15
              clear c15
              by_cases c16 : 0 ≤ x4_2
              · rw [if_pos c16] at H
                have c16b0 : decide (0 ≤ x4_2) = true := decide_eq_true c16
                clear c16
                by_cases c17 : x4_2 < (l0_0.length : Int)
                · rw [if_pos c17] at H
                  have c17b0 : decide (x4_2 < (l0_0.length : Int)) = true := decide_eq_true c17
                  clear c17
                  by_cases c18 : (rd l0_0 x4_2) < 0
                  · rw [if_pos c18] at H
                    have c18b0 : decide ((rd l0_0 x4_2) < 0) = true := decide_eq_true c18
                    clear c18
                    obtain rfl := Option.some.inj H
                    have hcz19_0 : wr.cell? ⟨gb101, 0, none⟩ = some (.slice A0_0 l0_0.length c0_0) := (blk_cell BK101.out 0).trans rfl
                    have hcz19_1 : wr.cell? ⟨gb101, 1, none⟩ = some (.int .i64 a0_1) := (blk_cell BK101.out 1).trans rfl
                    have hcz19_2 : wr.cell? ⟨gb101, 2, none⟩ = some (.int .i64 a0_2) := (blk_cell BK101.out 2).trans rfl
                    have hfz19_0 := blk_frozen BK101.out 0
                    have hfz19_1 := blk_frozen BK101.out 1
                    have hfz19_2 := blk_frozen BK101.out 2
                    have p102 : 0 ≤ (x4_2 : Int) := of_decide_eq_true (by first | (with_reducible assumption) | assumption)
                    have q102 : x4_2 < (l0_0.length : Int) := of_decide_eq_true (by first | (with_reducible assumption) | assumption)
                    obtain ⟨ad102, e102, hx102_0⟩ := Kd.at_int HR0_0.out x4_2 p102 q102
                    cases e102
                    replace hx102_0 := (HB.out.cell (World.block_lt_of_cell? w _ hx102_0)).trans hx102_0
                    replace p102 := eq_true p102
                    replace q102 := eq_true q102
                    go_wp2
                    repeat (go_quiet (fail); try go_wp2)
                    go_ret
                    exact ⟨by first | rfl | (simp [errW_none, errW_some] <;> rfl) | (simp [*, errW_none, errW_some] <;> rfl), by repeat (first | (with_reducible first | exact HB.out | apply below_alloc | apply pw_below_drewN | apply below_drew1 | refine below_set ?_ GE101.out) | exact HB.out)⟩
                  · rw [if_neg c18] at H
                    have c18b0 : decide ((rd l0_0 x4_2) < 0) = false := decide_eq_false c18
                    clear c18
                    by_cases c20 : (rd l0_0 x4_2) > 1048575
                    · rw [if_pos c20] at H
                      have c20b0 : decide (1048575 < (rd l0_0 x4_2)) = true := decide_eq_true c20
                      clear c20
                      obtain rfl := Option.some.inj H
                      have hcz21_0 : wr.cell? ⟨gb101, 0, none⟩ = some (.slice A0_0 l0_0.length c0_0) := (blk_cell BK101.out 0).trans rfl
                      have hcz21_1 : wr.cell? ⟨gb101, 1, none⟩ = some (.int .i64 a0_1) := (blk_cell BK101.out 1).trans rfl
                      have hcz21_2 : wr.cell? ⟨gb101, 2, none⟩ = some (.int .i64 a0_2) := (blk_cell BK101.out 2).trans rfl
                      have hfz21_0 := blk_frozen BK101.out 0
                      have hfz21_1 := blk_frozen BK101.out 1
                      have hfz21_2 := blk_frozen BK101.out 2
                      have p102 : 0 ≤ (x4_2 : Int) := of_decide_eq_true (by first | (with_reducible assumption) | assumption)
                      have q102 : x4_2 < (l0_0.length : Int) := of_decide_eq_true (by first | (with_reducible assumption) | assumption)
                      obtain ⟨ad102, e102, hx102_0⟩ := Kd.at_int HR0_0.out x4_2 p102 q102
                      cases e102
                      replace hx102_0 := (HB.out.cell (World.block_lt_of_cell? w _ hx102_0)).trans hx102_0
                      replace p102 := eq_true p102
                      replace q102 := eq_true q102
                      have p103 : 0 ≤ (x4_2 : Int) := of_decide_eq_true (by first | (with_reducible assumption) | assumption)
                      have q103 : x4_2 < (l0_0.length : Int) := of_decide_eq_true (by first | (with_reducible assumption) | assumption)
                      obtain ⟨ad103, e103, hx103_0⟩ := Kd.at_int HR0_0.out x4_2 p103 q103
                      obtain rfl : ad102 = ad103 := (by injection e103)
                      replace hx103_0 := (HB.out.cell (World.block_lt_of_cell? w _ hx103_0)).trans hx103_0
                      replace p103 := eq_true p103
                      replace q103 := eq_true q103
                      go_wp2
                      repeat (go_quiet (fail); try go_wp2)
                      go_ret
                      exact ⟨by first | rfl | (simp [errW_none, errW_some] <;> rfl) | (simp [*, errW_none, errW_some] <;> rfl), by repeat (first | (with_reducible first | exact HB.out | apply below_alloc | apply pw_below_drewN | apply below_drew1 | refine below_set ?_ GE101.out) | exact HB.out)⟩
                    · rw [if_neg c20] at H
                      have c20b0 : decide (1048575 < (rd l0_0 x4_2)) = false := decide_eq_false c20
                      clear c20
                      by_cases c22 : x4_2 > 0
                      · rw [if_pos c22] at H
                        have c22b0 : decide (0 < x4_2) = true := decide_eq_true c22
                        clear c22
                        obtain ⟨ji23, hji23⟩ : ∃ j_ : Int, (wrap64 (x4_2 - 1)) = j_ := ⟨_, rfl⟩
                        replace H : (if 0 ≤ (ji23) then (if (ji23) < (l0_0.length : Int) then (if (rd l0_0 x4_2) ≤ (rd l0_0 (ji23)) then (some 2) else (icehouseref09_Check.l0 k2 (l0_0.length : Int) (wrap64 (x4_2 + 1)) l0_0 a0_1 a0_2)) else (none)) else (none)) = some r := by first | (rw [hji23] at H; exact H) | (simp only [hji23] at H ⊢; exact H)
                        have hji23w : (IntKind.i64.wrap (x4_2 - 1)) = ji23 := (i64_w _).trans hji23
                        by_cases c24 : 0 ≤ (ji23)
                        · rw [if_pos c24] at H
                          have c24b0 : decide (0 ≤ (ji23)) = true := decide_eq_true c24
                          clear c24
                          by_cases c25 : (ji23) < (l0_0.length : Int)
                          · rw [if_pos c25] at H
                            have c25b0 : decide ((ji23) < (l0_0.length : Int)) = true := decide_eq_true c25
                            clear c25
                            by_cases c26 : (rd l0_0 x4_2) ≤ (rd l0_0 (ji23))
                            · rw [if_pos c26] at H
                              have c26b0 : decide ((rd l0_0 x4_2) ≤ (rd l0_0 (ji23))) = true := decide_eq_true c26
                              clear c26
                              obtain rfl := Option.some.inj H
                              have hcz27_0 : wr.cell? ⟨gb101, 0, none⟩ = some (.slice A0_0 l0_0.length c0_0) := (blk_cell BK101.out 0).trans rfl
                              have hcz27_1 : wr.cell? ⟨gb101, 1, none⟩ = some (.int .i64 a0_1) := (blk_cell BK101.out 1).trans rfl
                              have hcz27_2 : wr.cell? ⟨gb101, 2, none⟩ = some (.int .i64 a0_2) := (blk_cell BK101.out 2).trans rfl
                              have hfz27_0 := blk_frozen BK101.out 0
                              have hfz27_1 := blk_frozen BK101.out 1
                              have hfz27_2 := blk_frozen BK101.out 2
                              have p102 : 0 ≤ (x4_2 : Int) := of_decide_eq_true (by first | (with_reducible assumption) | assumption)
                              have q102 : x4_2 < (l0_0.length : Int) := of_decide_eq_true (by first | (with_reducible assumption) | assumption)
                              obtain ⟨ad102, e102, hx102_0⟩ := Kd.at_int HR0_0.out x4_2 p102 q102
                              cases e102
                              replace hx102_0 := (HB.out.cell (World.block_lt_of_cell? w _ hx102_0)).trans hx102_0
                              replace p102 := eq_true p102
                              replace q102 := eq_true q102
                              have p103 : 0 ≤ (x4_2 : Int) := of_decide_eq_true (by first | (with_reducible assumption) | assumption)
                              have q103 : x4_2 < (l0_0.length : Int) := of_decide_eq_true (by first | (with_reducible assumption) | assumption)
                              obtain ⟨ad103, e103, hx103_0⟩ := Kd.at_int HR0_0.out x4_2 p103 q103
                              obtain rfl : ad102 = ad103 := (by injection e103)
                              replace hx103_0 := (HB.out.cell (World.block_lt_of_cell? w _ hx103_0)).trans hx103_0
                              replace p103 := eq_true p103
                              replace q103 := eq_true q103
                              have p104 : 0 ≤ (x4_2 : Int) := of_decide_eq_true (by first | (with_reducible assumption) | assumption)
                              have q104 : x4_2 < (l0_0.length : Int) := of_decide_eq_true (by first | (with_reducible assumption) | assumption)
                              obtain ⟨ad104, e104, hx104_0⟩ := Kd.at_int HR0_0.out x4_2 p104 q104
                              obtain rfl : ad102 = ad104 := (by injection e104)
                              replace hx104_0 := (HB.out.cell (World.block_lt_of_cell? w _ hx104_0)).trans hx104_0
                              replace p104 := eq_true p104
                              replace q104 := eq_true q104
                              have p105 : 0 ≤ ((ji23) : Int) := of_decide_eq_true (by first | (with_reducible assumption) | assumption)
                              have q105 : (ji23) < (l0_0.length : Int) := of_decide_eq_true (by first | (with_reducible assumption) | assumption)
                              obtain ⟨ad105, e105, hx105_0⟩ := Kd.at_int HR0_0.out (ji23) p105 q105
                              obtain rfl : ad102 = ad105 := (by injection e105)
                              replace hx105_0 := (HB.out.cell (World.block_lt_of_cell? w _ hx105_0)).trans hx105_0
                              replace p105 := eq_true p105
                              replace q105 := eq_true q105
                              go_wp2
                              repeat (go_quiet (fail); try go_wp2)
                              go_ret
                              exact ⟨by first | rfl | (simp [errW_none, errW_some] <;> rfl) | (simp only [← hji23]; first | rfl | (simp [errW_none, errW_some] <;> rfl)) | (simp [*, errW_none, errW_some] <;> rfl), by repeat (first | (with_reducible first | exact HB.out | apply below_alloc | apply pw_below_drewN | apply below_drew1 | refine below_set ?_ GE101.out) | exact HB.out)⟩
                            · rw [if_neg c26] at H
                              have c26b0 : decide ((rd l0_0 x4_2) ≤ (rd l0_0 (ji23))) = false := decide_eq_false c26
                              clear c26
                              have H' := Aside0.mk H
                              clear H
                              have hcz28_0 : wr.cell? ⟨gb101, 0, none⟩ = some (.slice A0_0 l0_0.length c0_0) := (blk_cell BK101.out 0).trans rfl
                              have hcz28_1 : wr.cell? ⟨gb101, 1, none⟩ = some (.int .i64 a0_1) := (blk_cell BK101.out 1).trans rfl
                              have hcz28_2 : wr.cell? ⟨gb101, 2, none⟩ = some (.int .i64 a0_2) := (blk_cell BK101.out 2).trans rfl
                              have hfz28_0 := blk_frozen BK101.out 0
                              have hfz28_1 := blk_frozen BK101.out 1
                              have hfz28_2 := blk_frozen BK101.out 2
                              have p102 : 0 ≤ (x4_2 : Int) := of_decide_eq_true (by first | (with_reducible assumption) | assumption)
                              have q102 : x4_2 < (l0_0.length : Int) := of_decide_eq_true (by first | (with_reducible assumption) | assumption)
                              obtain ⟨ad102, e102, hx102_0⟩ := Kd.at_int HR0_0.out x4_2 p102 q102
                              cases e102
                              replace hx102_0 := (HB.out.cell (World.block_lt_of_cell? w _ hx102_0)).trans hx102_0
                              replace p102 := eq_true p102
                              replace q102 := eq_true q102
                              have p103 : 0 ≤ (x4_2 : Int) := of_decide_eq_true (by first | (with_reducible assumption) | assumption)
                              have q103 : x4_2 < (l0_0.length : Int) := of_decide_eq_true (by first | (with_reducible assumption) | assumption)
                              obtain ⟨ad103, e103, hx103_0⟩ := Kd.at_int HR0_0.out x4_2 p103 q103
                              obtain rfl : ad102 = ad103 := (by injection e103)
                              replace hx103_0 := (HB.out.cell (World.block_lt_of_cell? w _ hx103_0)).trans hx103_0
                              replace p103 := eq_true p103
                              replace q103 := eq_true q103
                              have p104 : 0 ≤ (x4_2 : Int) := of_decide_eq_true (by first | (with_reducible assumption) | assumption)
                              have q104 : x4_2 < (l0_0.length : Int) := of_decide_eq_true (by first | (with_reducible assumption) | assumption)
                              obtain ⟨ad104, e104, hx104_0⟩ := Kd.at_int HR0_0.out x4_2 p104 q104
                              obtain rfl : ad102 = ad104 := (by injection e104)
                              replace hx104_0 := (HB.out.cell (World.block_lt_of_cell? w _ hx104_0)).trans hx104_0
                              replace p104 := eq_true p104
                              replace q104 := eq_true q104
                              have p105 : 0 ≤ ((ji23) : Int) := of_decide_eq_true (by first | (with_reducible assumption) | assumption)
                              have q105 : (ji23) < (l0_0.length : Int) := of_decide_eq_true (by first | (with_reducible assumption) | assumption)
                              obtain ⟨ad105, e105, hx105_0⟩ := Kd.at_int HR0_0.out (ji23) p105 q105
                              obtain rfl : ad102 = ad105 := (by injection e105)
                              replace hx105_0 := (HB.out.cell (World.block_lt_of_cell? w _ hx105_0)).trans hx105_0
                              replace p105 := eq_true p105
                              replace q105 := eq_true q105
                              go_wp2
                              repeat (go_quiet (fail); try go_wp2)
                              go_roundg k2
                              case measure => have := HJ1.out; have := HK2.out; omega
                              case rel => exact ⟨(wrap64 (x4_2 + 1)), (by first | rfl | (simp; done) | (simp [*]; done)), H', ⟨by have := HJ1.out; have := HK2.out; omega⟩, ⟨by (with_reducible repeat (first | refine blk_drewN ?_ _ | refine blk_drew ?_ | refine blk_alloc ?_ _)); exact BK101.out⟩, ⟨by repeat (first | (with_reducible first | exact HB.out | apply below_alloc | apply pw_below_drewN | apply below_drew1 | refine below_set ?_ GE101.out) | exact HB.out)⟩⟩
                          · rw [if_neg c25] at H
                            exact absurd H (by simp)
                        · rw [if_neg c24] at H
                          exact absurd H (by simp)
                      · rw [if_neg c22] at H
                        have c22b0 : decide (0 < x4_2) = false := decide_eq_false c22
                        clear c22
                        have H' := Aside0.mk H
                        clear H
                        have hcz29_0 : wr.cell? ⟨gb101, 0, none⟩ = some (.slice A0_0 l0_0.length c0_0) := (blk_cell BK101.out 0).trans rfl
                        have hcz29_1 : wr.cell? ⟨gb101, 1, none⟩ = some (.int .i64 a0_1) := (blk_cell BK101.out 1).trans rfl
                        have hcz29_2 : wr.cell? ⟨gb101, 2, none⟩ = some (.int .i64 a0_2) := (blk_cell BK101.out 2).trans rfl
                        have hfz29_0 := blk_frozen BK101.out 0
                        have hfz29_1 := blk_frozen BK101.out 1
                        have hfz29_2 := blk_frozen BK101.out 2
                        have p102 : 0 ≤ (x4_2 : Int) := of_decide_eq_true (by first | (with_reducible assumption) | assumption)
                        have q102 : x4_2 < (l0_0.length : Int) := of_decide_eq_true (by first | (with_reducible assumption) | assumption)
                        obtain ⟨ad102, e102, hx102_0⟩ := Kd.at_int HR0_0.out x4_2 p102 q102
                        cases e102
                        replace hx102_0 := (HB.out.cell (World.block_lt_of_cell? w _ hx102_0)).trans hx102_0
                        replace p102 := eq_true p102
                        replace q102 := eq_true q102
                        have p103 : 0 ≤ (x4_2 : Int) := of_decide_eq_true (by first | (with_reducible assumption) | assumption)
                        have q103 : x4_2 < (l0_0.length : Int) := of_decide_eq_true (by first | (with_reducible assumption) | assumption)
                        obtain ⟨ad103, e103, hx103_0⟩ := Kd.at_int HR0_0.out x4_2 p103 q103
                        obtain rfl : ad102 = ad103 := (by injection e103)
                        replace hx103_0 := (HB.out.cell (World.block_lt_of_cell? w _ hx103_0)).trans hx103_0
                        replace p103 := eq_true p103
                        replace q103 := eq_true q103
                        go_wp2
                        repeat (go_quiet (fail); try go_wp2)
                        go_roundg k2
                        case measure => have := HJ1.out; have := HK2.out; omega
                        case rel => exact ⟨(wrap64 (x4_2 + 1)), (by first | rfl | (simp; done) | (simp [*]; done)), H', ⟨by have := HJ1.out; have := HK2.out; omega⟩, ⟨by (with_reducible repeat (first | refine blk_drewN ?_ _ | refine blk_drew ?_ | refine blk_alloc ?_ _)); exact BK101.out⟩, ⟨by repeat (first | (with_reducible first | exact HB.out | apply below_alloc | apply pw_below_drewN | apply below_drew1 | refine below_set ?_ GE101.out) | exact HB.out)⟩⟩
                · rw [if_neg c17] at H
                  exact absurd H (by simp)
              · rw [if_neg c16] at H
                exact absurd H (by simp)
            · rw [if_neg c15] at H
              have c15b0 : decide (x4_2 < (l0_0.length : Int)) = false := decide_eq_false c15
              clear c15
              obtain rfl := Option.some.inj H
              go_wp2
              repeat (go_quiet (fail); try go_wp2)
              go_ret
              exact ⟨by first | rfl | (simp [errW_none, errW_some] <;> rfl) | (simp [*, errW_none, errW_some] <;> rfl), by repeat (first | (with_reducible first | exact HB.out | apply below_alloc | apply pw_below_drewN | apply below_drew1 | refine below_set ?_ GE101.out) | exact HB.out)⟩
end Go.Proofs.YthaoiamgkpkcbaaDoor.QK
namespace Go.Proofs.YthaoiamgkpkcbaaDoor.QK
open Go.RowKit Go.Proofs.YthaoiamgkpkcbaaDoorW.PrintWords Go.Proofs.YthaoiamgkpkcbaaDoorW.PrintLast Go.Proofs.YthaoiamgkpkcbaaDoorW.PrintMore
attribute [local go_sem] max2_int min2_int max_two min_two max_three min_three max_four min_four   -- for this text's walks alone
set_option linter.unusedVariables false
set_option linter.unusedSimpArgs false
end Go.Proofs.YthaoiamgkpkcbaaDoor.QK
