/- The contract of the reference's Bytes. Conditions: an entry that fits in memory. -/
import Derived.Test.YtbmbnkoggmeanaaZTagsBack22
namespace Go.Proofs.Ytbmbnkoggmeanaa.Tg
open Go.ChangeShapes Go.WideShapes Go.ChangeAt Go.RowKit Go.Proofs.Ytbmbnkoggmeanaa.Pk Go.Proofs.Ytbmbnkoggmeanaa.EncC Go.Proofs.Ytbmbnkoggmeanaa.EncP Go.Proofs.Ytbmbnkoggmeanaa.Enc
open Go.Proofs.Ytbmbnkoggmeanaa.Hlp Go.Proofs.Ytbmbnkoggmeanaa.Wrd Go.Proofs.YtbmbnkoggmeanaaW.PrintWords Go.Proofs.YtbmbnkoggmeanaaW.PrintLast Go.Proofs.YtbmbnkoggmeanaaW.PrintMore
set_option linter.unusedVariables false
set_option linter.unusedSimpArgs false
theorem rcheck_f (a b c : Int) (k : Nat) : QR.icehouseref03_Check.f (k + 1) a b c = some (checkV a b c) := by
  unfold QR.icehouseref03_Check.f QR.icehouseref03_Check.j0 checkV okTag QR.icehouseref03_within.f
  by_cases h1 : a ≥ 0
  · by_cases h2 : a ≤ 1099511627775
    · by_cases h3 : b ≥ 0
      · by_cases h4 : b ≤ 1048575
        · by_cases h5 : c ≥ 0
          · by_cases h6 : c ≤ 1048575
            · by_cases h7 : a = 0
              · subst h7
                by_cases h8 : b = 0
                · subst h8
                  by_cases h9 : c = 0
                  · subst h9; simp
                  · have h10 : c > 0 := by omega
                    simp [h5, h6, h9, h10]
                · have h10 : b > 0 := by omega
                  simp [h3, h4, h5, h6, h8, h10]
              · simp [h1, h2, h3, h4, h5, h6, h7]
            · simp [h1, h2, h3, h4, h5, h6]
          · simp [h1, h2, h3, h4, h5]
        · simp [h1, h2, h3, h4]
      · simp [h1, h2, h3]
    · simp [h1, h2]
  · simp [h1]
theorem rright_f (k : ByteArray) (a b c : Int) (h : Bool) (v : List Int) : QR.icehouseref03_Right.f 2 k a b c h v = some (rightV k a b c h v) := by
  unfold QR.icehouseref03_Right.f QR.icehouseref03_Right.j0 rightV okEnt
  simp only [rcheck_f, Option.bind_some]
  by_cases h1 : (k.size : Int) < 1
  · have : ¬ (1 ≤ k.size) := by omega
    simp [h1, this]
  · have e1 : 1 ≤ k.size := by omega
    by_cases h2 : (k.size : Int) > 250
    · have : ¬ (k.size ≤ 250) := by omega
      simp [h1, h2, this]
    · have e2 : k.size ≤ 250 := by omega
      by_cases h3 : (v.length : Int) > 60000
      · have : ¬ (v.length ≤ 60000) := by omega
        simp [h1, h2, h3, this]
      · have e3 : v.length ≤ 60000 := by omega
        rw [if_neg h1, if_neg h2, if_neg h3]
        unfold checkV
        by_cases h5 : okTag a b c
        · cases h
          · by_cases h6 : v.length = 0
            · by_cases h7 : a = 0 <;> simp [e1, e2, e3, h5, h6, h7] <;> (try (subst h7; simp [h5]))
            · have : (v.length : Int) > 0 := by omega
              simp [e1, e2, e3, h5, h6, this]
          · by_cases h7 : a = 0 <;> simp [e1, e2, e3, h5, h7]
        · cases h
          · by_cases h6 : v.length = 0
            · simp [e1, e2, e3, h5, h6]
            · have : (v.length : Int) > 0 := by omega
              simp [e1, e2, e3, h5, h6, this]
          · simp [e1, e2, e3, h5]
theorem rright_c {w : World} {A : Option Addr} {n c' : Nat} {v : List Int} (k : ByteArray) (a b c : Int) (h : Bool) {r : Int} (hq : rightV k a b c h v = r) (hr : Kd.C (Kd.int .u8) w A n v) (hc : n ≤ c') :
    Calls Try.prog 43 #[.agg #[.string k, .int .i64 a, .int .i64 b, .int .i64 c, .bool h, .slice A n c']] w fun e w' => e = .returned (.int .i64 r) ∧ Below w.heap.size w w' := by
  obtain rfl : v.length = n := hr.1
  subst hq
  exact QR.icehouseref03_Right.calls 2 k a b c h A c' v _ w hr hc (rright_f k a b c h v)
theorem C_same {w w1 : World} {A : Option Addr} {n : Nat} {xs : List Int} (h : Kd.C (Kd.int .u8) w A n xs) (hs : ∀ p o, A = some ⟨p, o, none⟩ → w1.heap[p]? = w.heap[p]?) : Kd.C (Kd.int .u8) w1 A n xs := by
  obtain rfl : xs.length = n := h.1
  rcases Nat.eq_zero_or_pos xs.length with h0 | h0
  · obtain rfl := List.length_eq_zero_iff.1 h0
    exact C_empty
  · obtain ⟨b, off, rfl, hc⟩ := C_block h h0
    refine C_mk h.2.1 fun k hk => ?_
    rw [← hc k hk]
    have := hs b off rfl
    simp [World.cell?, this]
theorem own_lt {α : Type} {d : Kd α} {e : Nat} {w : World} {base : Nat} {ok : Nat → Prop} {v : Value} {xs : List α} (h : d.R e w base ok v xs) (q : Nat) (hq : v.ownBlock = some q) : q < w.heap.size := by
  obtain ⟨cells, hc⟩ := own_typed (Kd.R_own h).choose_spec q hq
  exact blk_lt hc
/-- a row made later stands while an elder one grows -/
theorem C_later {w w1 : World} {B n c : Nat} {A : Option Addr} {xs : List Int} {row : Option Nat} (h : Kd.R (Kd.int .u8) 5 w B (fun _ => True) (.slice A n c) xs) (hg : w.grownBy w1 row) (hrow : ∀ q, row = some q → q < B) : Kd.C (Kd.int .u8) w1 A n xs := by
  obtain ⟨rfl, _, hC⟩ := Kd.R_reads' h
  rcases Nat.eq_zero_or_pos xs.length with h0 | h0
  · obtain rfl := List.length_eq_zero_iff.1 h0
    exact C_empty
  · obtain ⟨g, cap, ep, h1, h2, _⟩ := Kd.R_form h h0
    injection ep with ep _ _
    subst ep
    refine C_same hC fun p o hp => ?_
    injection hp with hp
    injection hp with hp _ _
    subst hp
    exact hg.block _ h2 (fun hq => by have := hrow _ hq.symm; omega)
set_option maxHeartbeats 4000000 in
set_option maxRecDepth 100000 in
theorem rbytes_ {w : World} {A : Option Addr} {d : Nat} {v : List Int} (k : ByteArray) (a b c : Int) (h : Bool) (hr : Kd.C (Kd.int .u8) w A v.length v) (hc : v.length ≤ d) :
    Calls Try.prog 41 #[.agg #[.string k, .int .i64 a, .int .i64 b, .int .i64 c, .bool h, .slice A v.length d]] w (Made2 w (bytesV k a b c h v).1 (bytesV k a b c h v).2) := by
  have hu40 := Try.underlying40
  have hu23 := Try.underlying23
  have hu38 := Try.underlying38
  have bE := blk_new w (.cells #[.string k, .int .i64 a, .int .i64 b, .int .i64 c, .bool h, .slice A v.length d] 40)
  have HR0 := Aside0.mk hr
  have HR := Aside0.mk (Kd.C_alloc hr (.cells #[.string k, .int .i64 a, .int .i64 b, .int .i64 c, .bool h, .slice A v.length d] 40))
  have HB := Aside0.mk (below_alloc (Below.refl w.heap.size w) (.cells #[.string k, .int .i64 a, .int .i64 b, .int .i64 c, .bool h, .slice A v.length d] 40))
  have BE := Aside0.mk bE
  clear hr bE
  by_cases hok : okEnt k a b c h v
  · have HV := Aside0.mk (show rightV k a b c h v = 0 from if_pos hok)
    have HE := Aside0.mk (show bytesV k a b c h v = (entB k a b c h v, 0) from if_pos hok)
    have hk : k.size ≤ 250 := hok.2.1
    have hv : v.length ≤ 60000 := hok.2.2.1
    clear hok
    go_enter Try.func41, Try.ntmps41
    go_upto_region 1 with fail
    generalize w.alloc (.cells #[.string k, .int .i64 a, .int .i64 b, .int .i64 c, .bool h, .slice A v.length d] 40) = W at *
    obtain ⟨e0, e1, e2, e3, e4, e5⟩ := en_cells BE.out
    go_wp2_with fail
    (with_reducible refine (rright_c k a b c h HV.out HR.out hc).mono ?_)
    rintro x w1 ⟨rfl, hb⟩
    have HB := Aside0.mk (below_then HB.out HB.out.size hb)
    have BE := Aside0.mk (blk_below BE.out hb)
    clear hb e0 e1 e2 e3 e4 e5
    obtain ⟨e0, e1, e2, e3, e4, e5⟩ := en_cells BE.out
    obtain ⟨ck, w2, hcv, hck, hb, hC⟩ := conv_ex w1 k (by omega)
    have HB := Aside0.mk (below_then HB.out HB.out.size hb)
    have BE := Aside0.mk (blk_below BE.out hb)
    have HC := Aside0.mk hC
    clear hb hC
    go_wp2_with fail
    clear hcv
    (with_reducible refine (rrow_c HC.out hck (by omega)).mono ?_)
    rintro x w3 ⟨vo, rfl, ho, hb⟩
    have HO := Aside0.mk (Kd.R_lower ho HB.out.size)
    have HB := Aside0.mk (below_then HB.out HB.out.size hb)
    have BE := Aside0.mk (blk_below BE.out hb)
    clear ho hb e0 e1 e2 e3 e4 e5
    obtain ⟨e0, e1, e2, e3, e4, e5⟩ := en_cells BE.out
    obtain ⟨x0, hx⟩ : ∃ z, rowB (bytesOf k) = z := ⟨_, rfl⟩
    rw [hx] at HO
    have HX0 := Aside0.mk hx
    have HL0 : Aside0 (x0.length ≤ 300) := ⟨by rw [← hx]; have := rowB_len (l := bytesOf k); rw [bytesOf_len] at this; omega⟩
    clear hx
    obtain ⟨Ao, co, rfl⟩ := Kd.R_slice HO.out
    go_wp2_with fail
    (with_reducible refine (rnum_c a _).mono ?_)
    rintro y u1 ⟨vn, rfl, hn, hb⟩
    obtain ⟨An, cn, rfl, hcn, hnr⟩ := Kd.R_reads hn
    have HN := Aside0.mk hnr
    have HO := Aside0.mk (Kd.R_below HO.out hb)
    have HB := Aside0.mk (below_then HB.out HB.out.size hb)
    have BE := Aside0.mk (blk_below BE.out hb)
    clear hn hnr hb e0 e1 e2 e3 e4 e5
    obtain ⟨e0, e1, e2, e3, e4, e5⟩ := en_cells BE.out
    go_wp2_with ((with_reducible refine gate_builtin (b := .append) (xs := #[.tmp 18, .tmp 22]) rfl ?_); at_builtin; refine Kd.R_append_rows (Kd.int .u8) (w0 := w) w.heap.size rfl (.tmp 18) (.tmp 22) 36 5 (.int .u8 0) 1 rfl Try.underlying36 info8 rfl (by decide) (by omega) _ _ _ _ _ _ (fun _ => True) (fun _ => False) rfl rfl HO.out HN.out (fun _ _ h => h) (fun _ h => h.elim) (fun _ _ => trivial) HB.out HB.out.size ?aL ?_; (case aL => have q1 := HL0.out; have q3 := numB_len a; omega); intro va wa ho hb hg hat; have HO2 := Aside0.mk ho; have HB2 := Aside0.mk hb; have BE2 := Aside0.mk (blk_apart HO.out BE.out (by decide) hg); clear ho hb hg hat e0 e1 e2 e3 e4 e5; obtain ⟨e0, e1, e2, e3, e4, e5⟩ := en_cells BE2.out)
    obtain ⟨x1, hx⟩ : ∃ z, x0 ++ numB a = z := ⟨_, rfl⟩
    rw [hx] at HO2
    have HX1 := Aside0.mk hx
    have HL1 : Aside0 (x1.length ≤ 309) := ⟨by rw [← hx, List.length_append]; have q1 := HL0.out; have q2 := numB_len a; omega⟩
    clear hx
    obtain ⟨Ao, co, rfl⟩ := Kd.R_slice HO2.out
    have HO := HO2
    have HB := HB2
    have BE := BE2
    (with_reducible refine (rnum_c b _).mono ?_)
    rintro y u2 ⟨vn, rfl, hn, hb⟩
    obtain ⟨An, cn, rfl, hcn, hnr⟩ := Kd.R_reads hn
    have HN := Aside0.mk hnr
    have HO := Aside0.mk (Kd.R_below HO.out hb)
    have HB := Aside0.mk (below_then HB.out HB.out.size hb)
    have BE := Aside0.mk (blk_below BE.out hb)
    clear hn hnr hb e0 e1 e2 e3 e4 e5
    obtain ⟨e0, e1, e2, e3, e4, e5⟩ := en_cells BE.out
    go_wp2_with ((with_reducible refine gate_builtin (b := .append) (xs := #[.tmp 24, .tmp 28]) rfl ?_); at_builtin; refine Kd.R_append_rows (Kd.int .u8) (w0 := w) w.heap.size rfl (.tmp 24) (.tmp 28) 36 5 (.int .u8 0) 1 rfl Try.underlying36 info8 rfl (by decide) (by omega) _ _ _ _ _ _ (fun _ => True) (fun _ => False) rfl rfl HO.out HN.out (fun _ _ h => h) (fun _ h => h.elim) (fun _ _ => trivial) HB.out HB.out.size ?aL ?_; (case aL => have q1 := HL1.out; have q3 := numB_len b; omega); intro va wa ho hb hg hat; have HO2 := Aside0.mk ho; have HB2 := Aside0.mk hb; have BE2 := Aside0.mk (blk_apart HO.out BE.out (by decide) hg); clear ho hb hg hat e0 e1 e2 e3 e4 e5; obtain ⟨e0, e1, e2, e3, e4, e5⟩ := en_cells BE2.out)
    obtain ⟨x2, hx⟩ : ∃ z, x1 ++ numB b = z := ⟨_, rfl⟩
    rw [hx] at HO2
    have HX2 := Aside0.mk hx
    have HL2 : Aside0 (x2.length ≤ 318) := ⟨by rw [← hx, List.length_append]; have q1 := HL1.out; have q2 := numB_len b; omega⟩
    clear hx
    obtain ⟨Ao, co, rfl⟩ := Kd.R_slice HO2.out
    have HO := HO2
    have HB := HB2
    have BE := BE2
    (with_reducible refine (rnum_c c _).mono ?_)
    rintro y u3 ⟨vn, rfl, hn, hb⟩
    obtain ⟨An, cn, rfl, hcn, hnr⟩ := Kd.R_reads hn
    have HN := Aside0.mk hnr
    have HO := Aside0.mk (Kd.R_below HO.out hb)
    have HB := Aside0.mk (below_then HB.out HB.out.size hb)
    have BE := Aside0.mk (blk_below BE.out hb)
    clear hn hnr hb e0 e1 e2 e3 e4 e5
    obtain ⟨e0, e1, e2, e3, e4, e5⟩ := en_cells BE.out
    go_upto_region 7 with ((with_reducible refine gate_builtin (b := .append) (xs := #[.tmp 30, .tmp 34]) rfl ?_); at_builtin; refine Kd.R_append_rows (Kd.int .u8) (w0 := w) w.heap.size rfl (.tmp 30) (.tmp 34) 36 5 (.int .u8 0) 1 rfl Try.underlying36 info8 rfl (by decide) (by omega) _ _ _ _ _ _ (fun _ => True) (fun _ => False) rfl rfl HO.out HN.out (fun _ _ h => h) (fun _ h => h.elim) (fun _ _ => trivial) HB.out HB.out.size ?aL ?_; (case aL => have q1 := HL2.out; have q3 := numB_len c; omega); intro va wa ho hb hg hat; have HO2 := Aside0.mk ho; have HB2 := Aside0.mk hb; have BE2 := Aside0.mk (blk_apart HO.out BE.out (by decide) hg); clear ho hb hg hat e0 e1 e2 e3 e4 e5; obtain ⟨e0, e1, e2, e3, e4, e5⟩ := en_cells BE2.out)
    obtain ⟨x3, hx⟩ : ∃ z, x2 ++ numB c = z := ⟨_, rfl⟩
    rw [hx] at HO2
    have HX3 := Aside0.mk hx
    have HL3 : Aside0 (x3.length ≤ 327) := ⟨by rw [← hx, List.length_append]; have q1 := HL2.out; have q2 := numB_len c; omega⟩
    clear hx
    obtain ⟨Ao, co, rfl⟩ := Kd.R_slice HO2.out
    have HO := HO2
    have HB := HB2
    have BE := BE2
    cases h
    · go_wp2_with ((with_reducible refine gate_builtin (b := .append) (xs := #[.tmp 40, .tmp 41]) rfl ?_); at_builtin; refine Kd.R_append (Kd.int .u8) (w0 := w) w.heap.size rfl (.tmp 40) (.tmp 41) 36 5 (.int .u8 0) 1 rfl Try.underlying36 info8 rfl (by decide) (by omega) _ _ 0 [.int .u8 0] (fun _ => True) (fun _ => False) rfl rfl rfl (fun _ hk => hk.elim) (fun _ _ => trivial) HO.out HB.out HB.out.size ?aL ?_; (case aL => have q1 := HL3.out; omega); intro va wa ho hb hg hat; have HO2 := Aside0.mk ho; have HB2 := Aside0.mk hb; clear ho hb hg hat)
      go_ret2
      refine ⟨va, ?_, ?_, HB2.out⟩
      · rw [HE.out]; rfl
      · rw [HE.out, show (entB k a b c false v, (0 : Int)).1 = x3 ++ [(0 : Int)] from by rw [← HX3.out, ← HX2.out, ← HX1.out, ← HX0.out]; simp [entB, truthB]]; exact HO2.out
    · go_wp2_with fail
      have HR := Aside0.mk (Kd.C_below HR0.out HB.out)
      have HRow := Aside0.mk (own_lt HO.out)
      (with_reducible refine (rrow_c HR.out hc (by omega)).mono ?_)
      rintro y w6 ⟨vn, rfl, hn, hb⟩
      obtain ⟨An, cn, rfl, hcn, hnr⟩ := Kd.R_reads hn
      have HNr := Aside0.mk hn
      have HO := Aside0.mk (Kd.R_below HO.out hb)
      have HB := Aside0.mk (below_then HB.out HB.out.size hb)
      have HLv : Aside0 ((rowB v).length ≤ 60009) := ⟨by have := rowB_len (l := v); omega⟩
      clear hn hnr hb e0 e1 e2 e3 e4 e5
      go_wp2_with (first | ((with_reducible refine gate_builtin (b := .append) (xs := #[.tmp 50, .tmp 51]) rfl ?_); at_builtin; refine Kd.R_append (Kd.int .u8) (w0 := w) w.heap.size rfl (.tmp 50) (.tmp 51) 36 5 (.int .u8 0) 1 rfl Try.underlying36 info8 rfl (by decide) (by omega) _ _ 1 [.int .u8 1] (fun _ => True) (fun _ => False) rfl rfl rfl (fun _ hk => hk.elim) (fun _ _ => trivial) HO.out HB.out HB.out.size ?aL ?_; (case aL => have q1 := HL3.out; omega); intro va wa ho hb hg hat; have HO2 := Aside0.mk ho; have HB2 := Aside0.mk hb; have HN := Aside0.mk (C_later HNr.out hg HRow.out); clear ho hb hg hat; obtain ⟨Ap, cp, ep⟩ := Kd.R_slice HO2.out; subst ep; rw [List.length_append, List.length_singleton] at HO2 ⊢) | ((with_reducible refine gate_builtin (b := .append) (xs := #[.tmp 53, .tmp 54]) rfl ?_); at_builtin; refine Kd.R_append_rows (Kd.int .u8) (w0 := w) w.heap.size rfl (.tmp 53) (.tmp 54) 36 5 (.int .u8 0) 1 rfl Try.underlying36 info8 rfl (by decide) (by omega) _ _ _ _ _ _ (fun _ => True) (fun _ => False) rfl rfl HO2.out HN.out (fun _ _ h => h) (fun _ h => h.elim) (fun _ _ => trivial) HB2.out HB2.out.size ?aL ?_; (case aL => have q1 := HL3.out; have q2 := HLv.out; rw [List.length_append, List.length_singleton]; omega); intro va wa ho hb hg hat; have HO3 := Aside0.mk ho; have HB3 := Aside0.mk hb; clear ho hb hg hat))
      go_ret2
      refine ⟨va, ?_, ?_, HB3.out⟩
      · rw [HE.out]; rfl
      · rw [HE.out, show (entB k a b c true v, (0 : Int)).1 = (x3 ++ [(1 : Int)]) ++ rowB v from by rw [← HX3.out, ← HX2.out, ← HX1.out, ← HX0.out]; simp [entB, truthB]]; exact HO3.out
  · have HV := Aside0.mk (show rightV k a b c h v = 2 from if_neg hok)
    have HE := Aside0.mk (show bytesV k a b c h v = ([], 2) from if_neg hok)
    clear hok
    go_enter Try.func41, Try.ntmps41
    go_upto_region 1 with fail
    generalize w.alloc (.cells #[.string k, .int .i64 a, .int .i64 b, .int .i64 c, .bool h, .slice A v.length d] 40) = W at *
    obtain ⟨e0, e1, e2, e3, e4, e5⟩ := en_cells BE.out
    go_wp2_with fail
    (with_reducible refine (rright_c k a b c h HV.out HR.out hc).mono ?_)
    rintro x w1 ⟨rfl, hb⟩
    have HB := Aside0.mk (below_then HB.out HB.out.size hb)
    clear hb e0 e1 e2 e3 e4 e5
    go_wp2_with fail
    go_ret2
    rw [HE.out]
    exact ⟨.slice none 0 0, rfl, Kd.R_nil _ _ _ _ _, HB.out⟩
end Go.Proofs.Ytbmbnkoggmeanaa.Tg
