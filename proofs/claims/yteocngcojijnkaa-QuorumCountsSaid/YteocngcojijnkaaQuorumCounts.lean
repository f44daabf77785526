/- The walk of the law QuorumCounts, for every two rows of numbers. No condition. -/
import Derived.Test.YteocngcojijnkaaQuorumAdds
import Derived.Test.YteocngcojijnkaaPureQuorumEnough
namespace Go.Proofs.Yteocngcojijnkaa.Cn
open Go.ChangeShapes Go.WideShapes Go.ChangeAt Go.RowKit Go.Proofs.Yteocngcojijnkaa.QO Go.Proofs.Yteocngcojijnkaa.QE Go.Proofs.Yteocngcojijnkaa.Lex Go.Proofs.Yteocngcojijnkaa.Cm Go.Proofs.Yteocngcojijnkaa.Ql Go.Proofs.Yteocngcojijnkaa.Pure
open Go.Proofs.YteocngcojijnkaaW.PrintWords Go.Proofs.YteocngcojijnkaaW.PrintLast Go.Proofs.YteocngcojijnkaaW.PrintMore
set_option linter.unusedVariables false
set_option linter.unusedSimpArgs false
/-- in both lists: a row of its own -/
theorem rcom_g {A B : Option Addr} {c d n m : Nat} {l ms out : List Int} {w : World} (h : Kd.C (Kd.int .i64) w A l.length l) (hc : l.length ≤ c) (hl : l.length < 17592186044416) (hn : ms.length = n) (h' : Kd.C (Kd.int .i64) w B ms.length ms) (hd : n ≤ d) (hn2 : n < 17592186044416) (ho : com l ms = out) (hm : out.length = m) :
    Calls Try.prog 17 #[.slice A l.length c, .slice B n d] w fun e w' => ∃ B d, e = .returned (.slice B m d) ∧ Kd.C (Kd.int .i64) w' B out.length out ∧ m ≤ d ∧ Below w.heap.size w w' := by
  subst hn ho hm
  obtain ⟨K, hK⟩ := QlQA.rcom_ev l ms hl hn2
  refine (QA.icehouseref10_Common.calls K A c l B d ms _ w h hc h' hd (hK K (Nat.le_refl K))).mono ?_
  rintro e w1 ⟨v, rfl, hr, hb⟩
  obtain ⟨B, d, rfl⟩ := Kd.R_slice hr
  exact ⟨B, d, rfl, (Kd.R_reads' hr).2.2, (Kd.R_reads' hr).2.1, hb⟩
theorem has_g {A : Option Addr} {c : Nat} {l : List Int} {x : Int} {r : Bool} {w : World} (h : Kd.C (Kd.int .i64) w A l.length l) (hc : l.length ≤ c) (hl : l.length < 17592186044416) (hr : decide (x ∈ l) = r) :
    Calls Try.prog 22 #[.slice A l.length c, .int .i64 x] w fun e w' => e = .returned (.bool r) ∧ Below w.heap.size w w' := by
  subst hr
  obtain ⟨K, hK⟩ := QlQA.has_ev l x (by omega)
  refine (QA.icehouseref09_Has.calls K A c l x _ w h hc (hK K (Nat.le_refl K))).mono ?_
  rintro e w1 ⟨rfl, hb⟩
  exact ⟨rfl, by first | exact hb | exact hb.below⟩
theorem enough_g {A B : Option Addr} {c d n : Nat} {l ms : List Int} {r : Bool} {w : World} (h : Kd.C (Kd.int .i64) w A l.length l) (hc : l.length ≤ c) (hl : l.length < 17592186044416) (hn : ms.length = n) (h' : Kd.C (Kd.int .i64) w B ms.length ms) (hd : n ≤ d) (hr : enough l ms = r) :
    Calls Try.prog 13 #[.slice A l.length c, .slice B n d] w fun e w' => e = .returned (.bool r) ∧ Below w.heap.size w w' := by
  subst hn hr
  obtain ⟨K, hK⟩ := enough_ev l ms hl
  exact quorum_Enough.calls K A c l B d ms _ w h hc h' hd (hK K (Nat.le_refl K))
theorem need_g {n r : Int} (h0 : 0 < n) (hn : n ≤ 100000) (hr : need n = r) (w : World) : Calls Try.prog 11 #[.int .i64 n] w fun e w' => e = .returned (.int .i64 r) ∧ Below w.heap.size w w' := by
  subst hr
  obtain ⟨K, hK⟩ := rneed_ev n h0 hn
  refine (QA.icehouseref10_Need.calls K n _ w (hK K (Nat.le_refl K))).mono ?_
  rintro e w1 ⟨rfl, hb⟩
  exact ⟨rfl, by first | exact hb | exact hb.below⟩
theorem same_g {A B : Option Addr} {c d n : Nat} {l : List Int} {w : World} (hn : l.length = n) (h : Kd.C (Kd.int .i64) w A l.length l) (hc : n ≤ c) (h' : Kd.C (Kd.int .i64) w B l.length l) (hd : n ≤ d) (hl : n ≤ 9223372036854775807) :
    Calls Try.prog 15 #[.slice A n c, .slice B n d] w fun e w' => e = .returned (.bool true) ∧ Below w.heap.size w w' := by
  subst hn
  obtain ⟨K, hK⟩ := same_ev l hl
  refine (QA.icehouseref00_SameInts.calls K A c l B d l _ w h hc h' hd (hK K (Nat.le_refl K))).mono ?_
  rintro e w1 ⟨rfl, hb⟩
  exact ⟨rfl, by first | exact hb | exact hb.below⟩
theorem gotc_g {w0 w : World} {g : Nat} {l seen out : List Int} {n : Nat} (h : St w w0.heap.size g l seen) (hl : l.length ≤ 17592186044400) (ho : gotL l (marks l seen) = out) (hn : out.length = n) :
    Calls Try.prog 23 #[.pointer (some ⟨g, 0, none⟩)] w fun e w' => ∃ B d, e = .returned (.slice B n d) ∧ Kd.C (Kd.int .i64) w' B out.length out ∧ n ≤ d ∧ Below w.heap.size w w' := by
  subst hn ho
  refine (got_ h hl).mono ?_
  rintro e w1 ⟨v, rfl, hr, hb⟩
  obtain ⟨B, d, rfl⟩ := Kd.R_slice hr
  exact ⟨B, d, rfl, (Kd.R_reads' hr).2.2, (Kd.R_reads' hr).2.1, hb⟩
theorem leftv_g {w0 w : World} {g : Nat} {l seen : List Int} {r : Int} (h : St w w0.heap.size g l seen) (hl : l.length ≤ 17592186044400) (hr : left l seen = r) :
    Calls Try.prog 24 #[.pointer (some ⟨g, 0, none⟩)] w fun e w' => e = .returned (.int .i64 r) ∧ Below w.heap.size w w' := by
  subst hr; exact left_ h hl
theorem enough_left {l s : List Int} (h0 : 0 < l.length) (h : (once l).length = l.length) : enough l s = decide (left l s = 0) := by
  unfold enough left cnt
  rw [got_com h, h]
  have hc := com_len l s
  rw [h] at hc
  have hn : need (l.length : Int) = (l.length : Int) / 2 + 1 := by unfold need; rw [if_neg (by omega)]
  rw [hn, decide_eq_true h0, Bool.true_and]
  refine decide_eq_decide.2 ?_
  omega
theorem take_snoc {ms : List Int} {k : Nat} (h : k < ms.length) : ms.take (k + 1) = ms.take k ++ [ms[k]] := List.take_succ_eq_append_getElem h
set_option maxHeartbeats 16000000 in
set_option maxRecDepth 100000 in
theorem quorumCounts (w : World) (A : Option Addr) (c : Nat) (l : List Int) (hr : Kd.C (Kd.int .i64) w A l.length l) (hc : l.length ≤ c) (wf : l.length ≤ maxLen ∧ l.length * 8 ≤ 140737488351232 ∧ ∀ x ∈ l, (Lit.int .i64 x).wf = true)
    (A' : Option Addr) (c' : Nat) (ms : List Int) (hr' : Kd.C (Kd.int .i64) w A' ms.length ms) (hc' : ms.length ≤ c') (wf' : ms.length ≤ maxLen ∧ ms.length * 8 ≤ 140737488351232 ∧ ∀ x ∈ ms, (Lit.int .i64 x).wf = true) :
    Calls Try.prog 6 #[.slice A l.length c, .slice A' ms.length c'] w fun e w' => e = .returned (.bool true) ∧ Below w.heap.size w w' := by
  have HR := Aside0.mk hr
  have HR' := Aside0.mk hr'
  have HC := Aside0.mk hc
  clear hr hr' wf wf' hc
  by_cases h40 : 40 < l.length
  · have t1 : decide ((40 : Int) < (l.length : Int)) = true := decide_eq_true (by omega)
    go_enter Try.func6, Try.ntmps6
    go_wp2_with (go_at_call 10; (with_reducible refine (Fk.known_ _).mono ?_); rintro e w7 ⟨rfl, hb⟩)
    go_ret
    exact ⟨rfl, hb⟩
  have t1 : decide ((40 : Int) < (l.length : Int)) = false := decide_eq_false (by omega)
  by_cases h60 : 60 < ms.length
  · have t2 : decide ((60 : Int) < (ms.length : Int)) = true := decide_eq_true (by omega)
    go_enter Try.func6, Try.ntmps6
    go_wp2_with (go_at_call 10; (with_reducible refine (Fk.known_ _).mono ?_); rintro e w7 ⟨rfl, hb⟩)
    go_ret
    exact ⟨rfl, hb⟩
  have t2 : decide ((60 : Int) < (ms.length : Int)) = false := decide_eq_false (by omega)
  have hl : l.length ≤ 17592186044400 := by omega
  have HO := Aside0.mk (com_self l)
  have hle := once_len l
  by_cases h0 : 0 < l.length ∧ (once l).length = l.length
  · have HG := Aside0.mk (new_g HR.out HC.out hl h0)
    have HN := Aside0.mk (nodup_of_once h0.2)
    have H0 := Aside0.mk h0
    have l0 := h0.1
    have t3 : ((l.length : Int) == 0) = false := beq_eq_false_iff_ne.2 (by omega)
    have t4 : decide ((l.length : Int) < (l.length : Int)) = false := decide_eq_false (by omega)
    clear h0 hle
    go_enter Try.func6, Try.ntmps6
    go_wp2_with fail
    (with_reducible refine HG.out.mono ?_)
    rintro e w1 ⟨g, rfl, hs, hb⟩
    have HS := Aside0.mk hs
    have HB := Aside0.mk hb
    have HR1 := Aside0.mk (Kd.C_below HR.out hb)
    clear hs hb HG
    go_wp2_with fail
    (with_reducible refine (rcom_g HR1.out HC.out (by omega) rfl HR1.out HC.out (by omega) HO.out H0.out.2).mono ?_)
    rintro e w2 ⟨B, d, rfl, hx, hd, hb⟩
    have HS2 := Aside0.mk (HS.out.below hb)
    have HB2 := Aside0.mk (below_then HB.out HB.out.size hb)
    clear hx hd hb HS
    go_wp2_with fail
    go_loopg [7] ms.length (fun q i w' => ∃ (k : Nat), k ≤ ms.length ∧ i = .int .i64 k ∧ q = ms.length - k ∧ Aside0 (St w' w.heap.size g l (ms.take k)) ∧ Aside0 (Below w.heap.size w w'))
    case atStart => exact ⟨0, Nat.zero_le _, rfl, rfl, HS2, HB2⟩
    case round =>
      obtain ⟨k, hk, rfl, rfl, HSr, HBr⟩ := hrel
      by_cases hlt : k < ms.length
      · have u3 : decide ((k : Int) < (ms.length : Int)) = true := decide_eq_true (by omega)
        obtain ⟨ad, hA, hcw⟩ := Hlp.C_at HR'.out k hlt
        subst hA
        have i0 : (0 : Int) ≤ (k : Int) := by omega
        have i1 : (k : Int) < (ms.length : Int) := by omega
        have hts := take_snoc hlt
        obtain ⟨x, hx⟩ : ∃ x, ms[k] = x := ⟨_, rfl⟩
        rw [hx] at hcw hts
        clear hx
        obtain ⟨s', hs'⟩ : ∃ s', ms.take k ++ [x] = s' := ⟨_, rfl⟩
        rw [hs'] at hts
        have HTk := Aside0.mk hts
        have HSx := Aside0.mk hs'
        have hlen : s'.length = k + 1 := by rw [← hts, List.length_take]; omega
        have HLn := Lib.hid hlen
        have HCs := Aside0.mk (Kd.C_take HR'.out (m := k + 1) (by omega))
        rw [hts] at HCs
        obtain ⟨out, hout⟩ : ∃ out, com l s' = out := ⟨_, rfl⟩
        obtain ⟨n, hn⟩ : ∃ n, out.length = n := ⟨_, rfl⟩
        have hg : gotL l (marks l s') = out := (got_com H0.out.2).trans hout
        have hel := enough_left (s := s') H0.out.1 H0.out.2
        have hle : left l s' = max 0 (need l.length - n) := by unfold left cnt; rw [hg, hn]
        have hn40 : n ≤ l.length := by
          have := com_len l s'
          rw [H0.out.2, hout, hn] at this
          exact this
        have hne : need (l.length : Int) = (l.length : Int) / 2 + 1 := by unfold need; rw [if_neg (by omega)]
        obtain ⟨N, hN⟩ : ∃ N, need (l.length : Int) = N := ⟨_, rfl⟩
        rw [hN] at hle hne
        obtain ⟨L, hL⟩ : ∃ L, left l s' = L := ⟨_, rfl⟩
        rw [hL] at hle hel
        obtain ⟨b, hb⟩ : ∃ b, enough l s' = b := ⟨_, rfl⟩
        have hb2 : decide (left l s' = 0) = b := by rw [hL, ← hel, hb]
        obtain ⟨r, hr⟩ : ∃ r : Int, (if x ∈ l then 0 else 4) = r := ⟨_, rfl⟩
        obtain ⟨bx, hbx⟩ : ∃ bx, decide (x ∈ l) = bx := ⟨_, rfl⟩
        have hrr : (bx = true ∧ r = 0) ∨ (bx = false ∧ r = 4) := by
          by_cases hxl : x ∈ l
          · rw [if_pos hxl] at hr; rw [decide_eq_true hxl] at hbx; exact .inl ⟨hbx.symm, hr.symm⟩
          · rw [if_neg hxl] at hr; rw [decide_eq_false hxl] at hbx; exact .inr ⟨hbx.symm, hr.symm⟩
        have HCw := Aside0.mk hcw
        have HOut := Aside0.mk hout
        have HNn := Lib.hid hn
        have HGt := Aside0.mk hg
        have HNe := Lib.hid hN
        have HLe := Lib.hid hL
        have HEn := Aside0.mk hb
        have HDn := Aside0.mk hb2
        have HRr := Aside0.mk hr
        have HBx := Aside0.mk hbx
        have hw : IntKind.i64.wrap (N - (n : Int)) = N - (n : Int) := by rw [IntKind.wrap_i64]; omega
        have hgl := HSr.out.le
        have HLL := Lib.hid hle
        have bL : (L == 0) = b := by rw [← hb, hel]; rfl
        clear hts hs' hlen hout hn hg hel hne hN hL hb hb2 hr hbx hcw
        rcases hrr with ⟨rfl, rfl⟩ | ⟨rfl, rfl⟩
        all_goals
          have hc0 := pw_cell_below HBr.out HCw.out
          go_wp2_with fail
          (with_reducible refine (add_g HSr.out HBr.out HN.out HRr.out).mono ?_)
          rintro e v3 ⟨rfl, hs, hb⟩
          have S3 := Aside0.mk hs
          have E3 := Aside0.mk hb
          rw [HSx.out] at S3
          clear hs hb hc0
          have hc0 := pw_cell_below E3.out HCw.out
          have R3 := Aside0.mk (Kd.C_below HR.out E3.out)
          go_wp2_with fail
          (with_reducible refine (has_g R3.out HC.out (by omega) HBx.out).mono ?_)
          rintro e v4 ⟨rfl, hb⟩
          have S4 := Aside0.mk (S3.out.below hb)
          have E4 := Aside0.mk (below_then E3.out E3.out.size hb)
          have R4 := Aside0.mk (Kd.C_below HR.out E4.out)
          have R4' := Aside0.mk (Kd.C_below HCs.out E4.out)
          clear hb hc0 S3
          go_wp2_with fail
          (with_reducible refine (rcom_g R4.out HC.out (by omega) HLn.out R4'.out (by omega) (by omega) HOut.out HNn.out).mono ?_)
          rintro e v5 ⟨B5, d5, rfl, hx, hd5, hb⟩
          have S5 := Aside0.mk (S4.out.below hb)
          have E5 := Aside0.mk (below_then E4.out E4.out.size hb)
          have G5 := Aside0.mk hx
          clear hb hx S4 R3 R4 R4'
          go_wp2_with fail
          (with_reducible refine (need_g (by omega) (by omega) HNe.out _).mono ?_)
          rintro e v6 ⟨rfl, hb⟩
          have S6 := Aside0.mk (S5.out.below hb)
          have E6 := Aside0.mk (below_then E5.out E5.out.size hb)
          have G6 := Aside0.mk (Kd.C_below G5.out hb)
          clear hb S5 G5
          go_wp2_with fail
          case' inl =>
            obtain rfl : L = 0 := by omega
            clear hle
            have hbt : b = true := by rw [← bL]; rfl
            subst hbt
            have cm : Aside0 True := ⟨trivial⟩
            have cL : ((0 : Int) != 0) = false := by simp
            have cb : ((true : Bool) != true) = false := by simp
          case' inr =>
            obtain rfl : L = N - (n : Int) := by omega
            clear hle
            have cL : ((N - (n : Int)) != (N - (n : Int))) = false := by simp
            have cb : ((b : Bool) != b) = false := by simp
          all_goals
            have k0 : (0 : Int) ≤ (k : Int) + 1 := by omega
            have k1 : (k : Int) + 1 ≤ (c' : Int) := by omega
            have k2 : IntKind.i64.wrap ((k : Int) + 1) = (k : Int) + 1 := by rw [IntKind.wrap_i64]; omega
            have k3 : ((k : Int) + 1).toNat = k + 1 := by omega
            have D6 : Aside0 (St v6.drew w.heap.size g l s') := ⟨S6.out.below (below_drew (Below.refl _ _))⟩
            have F6 := Aside0.mk (below_drew E6.out)
            have J6 := Aside0.mk (Kd.C_drew G6.out)
            clear S6 E6 G6
            go_region_held3 (fun W => True) (exact trivial) (first
              | (go_at_call 23; (with_reducible refine (gotc_g D6.out hl HGt.out HNn.out).mono ?_); rintro e v7 ⟨B7, d7, rfl, hx, hd7, hb⟩; have S7 := Aside0.mk (D6.out.below hb); have E7 := Aside0.mk (below_then F6.out F6.out.size hb); have G7 := Aside0.mk (Kd.C_below J6.out hb); have X7 := Aside0.mk hx; clear hb hx)
              | (go_at_call 15; (with_reducible refine (same_g HNn.out X7.out hd7 G7.out hd5 (by omega)).mono ?_); rintro e v8 ⟨rfl, hb⟩; have S8 := Aside0.mk (S7.out.below hb); have E8 := Aside0.mk (below_then E7.out E7.out.size hb); clear hb)
              | (go_at_call 24; (with_reducible refine (leftv_g S8.out hl HLe.out).mono ?_); rintro e v9 ⟨rfl, hb⟩; have S9 := Aside0.mk (S8.out.below hb); have E9 := Aside0.mk (below_then E8.out E8.out.size hb); clear hb)
              | (go_at_call 25; first
                | ((with_reducible refine (left_g S10.out hl HDn.out).mono ?_); rintro e v11 ⟨rfl, hb⟩; have S11 := Aside0.mk (S10.out.below hb); have E11 := Aside0.mk (below_then E10.out E10.out.size hb); have R11 := Aside0.mk (Kd.C_below HR.out E11.out); have R11' := Aside0.mk (Kd.C_below HCs.out E11.out); clear hb)
                | ((with_reducible refine (left_g S9.out hl HDn.out).mono ?_); rintro e v10 ⟨rfl, hb⟩; have S10 := Aside0.mk (S9.out.below hb); have E10 := Aside0.mk (below_then E9.out E9.out.size hb); clear hb))
              | (go_at_call 13; (with_reducible refine (enough_g R11.out HC.out (by omega) HLn.out R11'.out (by omega) HEn.out).mono ?_); rintro e v12 ⟨rfl, hb⟩; have S12 := Aside0.mk (S11.out.below hb); have E12 := Aside0.mk (below_then E11.out E11.out.size hb); clear hb))
            go_wp2_with fail
            go_roundg (ms.length - (k + 1))
            case measure => omega
            case rel => exact ⟨k + 1, hlt, by go_num, rfl, ⟨by rw [HTk.out]; exact S12.out⟩, E12⟩
      · obtain rfl : k = ms.length := by omega
        have u3 : decide ((ms.length : Int) < (ms.length : Int)) = false := decide_eq_false (by omega)
        go_wp2_with (go_at_call 10; (with_reducible refine (Fk.known_ _).mono ?_); rintro e w7 ⟨rfl, hb⟩; have HB7 := Aside0.mk (below_then HBr.out HBr.out.size hb))
        go_ret
        exact ⟨rfl, HB7.out⟩
  · have HG := Aside0.mk (new_no HR.out HC.out hl h0)
    by_cases h1 : 0 < l.length
    · have t3 : ((l.length : Int) == 0) = false := beq_eq_false_iff_ne.2 (by omega)
      obtain ⟨m, hm⟩ : ∃ m, (once l).length = m := ⟨_, rfl⟩
      have HM := Lib.hid hm
      have t4 : decide ((m : Int) < (l.length : Int)) = true := decide_eq_true (by have : ¬ (once l).length = l.length := fun h => h0 ⟨h1, h⟩; omega)
      have t5 : m < l.length := by have : ¬ (once l).length = l.length := fun h => h0 ⟨h1, h⟩; omega
      clear h0 hle hm
      go_enter Try.func6, Try.ntmps6
      go_wp2_with fail
      (with_reducible refine HG.out.mono ?_)
      rintro e w1 ⟨rfl, hb⟩
      have HB := Aside0.mk hb
      have HR1 := Aside0.mk (Kd.C_below HR.out hb)
      clear hb HG
      go_wp2_with fail
      (with_reducible refine (rcom_g HR1.out HC.out (by omega) rfl HR1.out HC.out (by omega) HO.out HM.out).mono ?_)
      rintro e w2 ⟨B, d, rfl, hx, hd, hb⟩
      have HB2 := Aside0.mk (below_then HB.out HB.out.size hb)
      clear hx hd hb
      go_wp2_with (go_at_call 10; (with_reducible refine (Fk.known_ _).mono ?_); rintro e w7 ⟨rfl, hb⟩; have HB7 := Aside0.mk (below_then HB2.out HB2.out.size hb))
      go_ret
      exact ⟨rfl, HB7.out⟩
    · have t3 : ((l.length : Int) == 0) = true := beq_iff_eq.2 (by omega)
      clear h0 hle
      go_enter Try.func6, Try.ntmps6
      go_wp2_with fail
      (with_reducible refine HG.out.mono ?_)
      rintro e w1 ⟨rfl, hb⟩
      have HB := Aside0.mk hb
      clear hb HG
      go_wp2_with (go_at_call 10; (with_reducible refine (Fk.known_ _).mono ?_); rintro e w7 ⟨rfl, hb⟩; have HB7 := Aside0.mk (below_then HB.out HB.out.size hb))
      go_ret
      exact ⟨rfl, HB7.out⟩
end Go.Proofs.Yteocngcojijnkaa.Cn
