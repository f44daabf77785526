/- Written by a program of this session over the kit's print: functions and their contracts. · What a kind of messages has: the table of the program, and the contract of msgs.Has. Conditions: the table's variable holds what the program's text lays. · The contract of msgs.right: are all entries of a list such as may be? Conditions: none. -/
import Derived.Test.YthaoiamgkpkcbaaDoorZMsgsTwice19
import Derived.Test.YthaoiamgkpkcbaaDoorZMsgsTwice20
import Derived.Test.YthaoiamgkpkcbaaDoorZMsgsTwice18
import Derived.Outline
import Derived.WalkMore
namespace Go.Proofs.YthaoiamgkpkcbaaDoor.QL
open Go.RowKit Go.Proofs.YthaoiamgkpkcbaaDoorW.PrintWords Go.Proofs.YthaoiamgkpkcbaaDoorW.PrintLast Go.Proofs.YthaoiamgkpkcbaaDoorW.PrintMore
attribute [local go_sem] max2_int min2_int max_two min_two max_three min_three max_four min_four   -- for this text's walks alone
set_option linter.unusedVariables false
set_option linter.unusedSimpArgs false

end Go.Proofs.YthaoiamgkpkcbaaDoor.QL

namespace Go.Proofs.YthaoiamgkpkcbaaDoor.Ms
open Go.ChangeShapes Go.WideShapes Go.ChangeAt Go.RowKit Go.Proofs.YthaoiamgkpkcbaaDoor.Pk Go.Proofs.YthaoiamgkpkcbaaDoor.Tg
open Go.Proofs.YthaoiamgkpkcbaaDoor.Hlp Go.Proofs.YthaoiamgkpkcbaaDoor.Wrd Go.Proofs.YthaoiamgkpkcbaaDoorW.PrintWords Go.Proofs.YthaoiamgkpkcbaaDoorW.PrintLast Go.Proofs.YthaoiamgkpkcbaaDoorW.PrintMore
set_option linter.unusedVariables false
set_option linter.unusedSimpArgs false
/-- what a kind has -/
structure Hs where
  n : Bool
  f : Bool
  e : Bool
  l : Bool
  r : Bool
def Hs.none : Hs := ⟨false, false, false, false, false⟩
def tab : List Hs := [⟨false, false, false, false, false⟩, ⟨false, false, true, false, false⟩, ⟨true, true, true, false, false⟩, ⟨false, false, true, false, false⟩, ⟨false, false, true, false, false⟩, ⟨false, false, true, false, false⟩, ⟨true, false, false, false, false⟩, ⟨false, false, true, false, false⟩, ⟨false, false, true, false, false⟩, ⟨true, false, true, false, false⟩, ⟨false, false, true, false, false⟩, ⟨false, false, true, false, false⟩, ⟨true, false, false, false, false⟩, ⟨true, true, false, true, false⟩, ⟨true, true, false, true, false⟩, ⟨false, false, false, false, false⟩, ⟨false, false, false, false, true⟩, ⟨false, false, false, false, false⟩]
def kindsC : Array Value := (tab.flatMap fun h => [Value.bool h.n, .bool h.f, .bool h.e, .bool h.l, .bool h.r]).toArray
/-- the table lies in its variable -/
def Kin (w : World) : Prop := ∃ t fr, w.heap[0]? = some (.cells kindsC t fr)
theorem Kin.below {w w1 : World} (h : Kin w) (hb : Below w.heap.size w w1) : Kin w1 := by
  obtain ⟨t, fr, h⟩ := h
  exact ⟨t, fr, (hb.block 0 (blk_lt h)).trans h⟩
theorem Kin.at_ {w : World} (h : Kin w) (k : Nat) (hk : k < 18) : ∃ b : Hs, tab[k]? = some b ∧ w.cell? ⟨0, k * 5, none⟩ = some (.bool b.n) ∧ w.cell? ⟨0, k * 5 + 1, none⟩ = some (.bool b.f) ∧ w.cell? ⟨0, k * 5 + 2, none⟩ = some (.bool b.e) ∧ w.cell? ⟨0, k * 5 + 3, none⟩ = some (.bool b.l) ∧ w.cell? ⟨0, k * 5 + 4, none⟩ = some (.bool b.r) := by
  obtain ⟨t, fr, h⟩ := h
  have hc : ∀ j, w.cell? ⟨0, j, none⟩ = kindsC[j]? := fun j => cell_of_row w 0 j kindsC t fr h
  simp only [hc]
  have : ∀ k : Fin 18, ∃ b : Hs, tab[k.val]? = some b ∧ kindsC[k.val * 5]? = some (.bool b.n) ∧ kindsC[k.val * 5 + 1]? = some (.bool b.f) ∧ kindsC[k.val * 5 + 2]? = some (.bool b.e) ∧ kindsC[k.val * 5 + 3]? = some (.bool b.l) ∧ kindsC[k.val * 5 + 4]? = some (.bool b.r) := by
    intro k
    obtain ⟨k, hk⟩ := k
    match k, hk with
    | 0, _ | 1, _ | 2, _ | 3, _ | 4, _ | 5, _ | 6, _ | 7, _ | 8, _ | 9, _ | 10, _ | 11, _ | 12, _ | 13, _ | 14, _ | 15, _ | 16, _ | 17, _ => exact ⟨_, rfl, rfl, rfl, rfl, rfl, rfl⟩
    | n + 18, h => exact absurd h (by omega)
  exact this ⟨k, hk⟩
/-- what a kind has, whatever number it is -/
def hasV (k : Int) : Hs := if 1 ≤ k ∧ k ≤ 17 then (tab[k.toNat]?).getD Hs.none else Hs.none
def hasR (b : Hs) : Value := .tuple #[.bool b.n, .bool b.f, .bool b.e, .bool b.l, .bool b.r]
theorem known_k (k : Int) (w : World) : Calls Tryd.prog 35 #[.int .i64 k] w fun e w' => e = .returned (.bool (decide (1 ≤ k ∧ k ≤ 17))) ∧ Below w.heap.size w w' := by
  refine (QR.msgs_known.calls k (decide (1 ≤ k ∧ k ≤ 17)) w ?_).mono (fun e w' h => ⟨h.1, h.2.below⟩)
  unfold QR.msgs_known.f
  by_cases h1 : k ≥ 1
  · by_cases h2 : k ≤ 17 <;> simp [h1, h2]
  · simp [h1]
set_option maxHeartbeats 1000000 in
theorem has_ (k : Int) (w : World) (h : Kin w) : Calls Tryd.prog 23 #[.int .i64 k] w fun e w' => e = .returned (hasR (hasV k)) ∧ Below w.heap.size w w' := by
  by_cases hk : 1 ≤ k ∧ k ≤ 17
  · have hk1 : decide (1 ≤ k ∧ k ≤ 17) = true := decide_eq_true hk
    obtain ⟨n, rfl⟩ := Int.eq_ofNat_of_zero_le (show 0 ≤ k by omega)
    have n17 : n ≤ 17 := by omega
    have n1 : 1 ≤ n := by omega
    have HK := Aside0.mk h
    have HV : Aside0 (hasV (n : Int) = (tab[n]?).getD Hs.none) := ⟨by unfold hasV; rw [if_pos hk]; rfl⟩
    clear hk h
    go_enter Tryd.func23, Tryd.ntmps23
    go_wp2_with (go_at_call 35; (with_reducible refine (known_k _ _).mono ?_); rintro e w1 ⟨rfl, hb⟩; rw [hk1]; obtain ⟨b, hb0, c0, c1, c2, c3, c4⟩ := (HK.out.below hb).at_ n (by omega); have HB := Aside0.mk hb; clear hb)
    have hz := blk_new w1 (.cells #[.bool b.n, .bool b.f, .bool b.e, .bool b.l, .bool b.r] 97)
    have d0 := (blk_cell hz 0).trans (show _ = some (Value.bool b.n) from rfl)
    have d1 := (blk_cell hz 1).trans (show _ = some (Value.bool b.f) from rfl)
    have d2 := (blk_cell hz 2).trans (show _ = some (Value.bool b.e) from rfl)
    have d3 := (blk_cell hz 3).trans (show _ = some (Value.bool b.l) from rfl)
    have d4 := (blk_cell hz 4).trans (show _ = some (Value.bool b.r) from rfl)
    clear hz
    go_quiet (fail)
    (try simp only [Exit.inBlock, Exit.then])
    go_wp2
    refine bodyPost_ret (v := hasR b) (by simp [results, Tryd.results23, go_sem, hasR]) rfl ?_
    rw [HV.out, hb0]
    exact ⟨rfl, pw_below_drewN (below_alloc HB.out _) _⟩
  · have hk1 : decide (1 ≤ k ∧ k ≤ 17) = false := decide_eq_false hk
    have HV : hasV k = Hs.none := by unfold hasV; rw [if_neg hk]
    rw [HV]
    clear hk HV h
    go_enter Tryd.func23, Tryd.ntmps23
    go_wp2_with (go_at_call 35; (with_reducible refine (known_k _ _).mono ?_); rintro e w1 ⟨rfl, hb⟩; rw [hk1]; have HB := Aside0.mk hb; clear hb)
    exact bodyPost_ret (v := hasR Hs.none) (by simp [results, Tryd.results23, go_sem, hasR, Hs.none]) rfl ⟨rfl, HB.out⟩
end Go.Proofs.YthaoiamgkpkcbaaDoor.Ms

namespace Go.Proofs.YthaoiamgkpkcbaaDoor.Ms
open Go.ChangeShapes Go.WideShapes Go.ChangeAt Go.RowKit Go.Proofs.YthaoiamgkpkcbaaDoor.Pk Go.Proofs.YthaoiamgkpkcbaaDoor.Tg
open Go.Proofs.YthaoiamgkpkcbaaDoor.Hlp Go.Proofs.YthaoiamgkpkcbaaDoor.Wrd Go.Proofs.YthaoiamgkpkcbaaDoorW.PrintWords Go.Proofs.YthaoiamgkpkcbaaDoorW.PrintLast Go.Proofs.YthaoiamgkpkcbaaDoorW.PrintMore
set_option linter.unusedVariables false
set_option linter.unusedSimpArgs false
/-- an entry, as a list holds it -/
abbrev E6 := QL.S28
abbrev kE : Kd E6 := QL.k28
def okE (x : E6) : Prop := okEnt x.f0 x.f1.f0 x.f1.f1 x.f1.f2 x.f2.f0 x.f2.f1
instance (x : E6) : Decidable (okE x) := by unfold okE; infer_instance
def rightB (l : List E6) : Bool := decide (l.length ≤ 1000 ∧ ∀ x ∈ l, okE x)
theorem rd_E {l : List E6} {k : Nat} (h : k < l.length) : QL.rd_T28 l (k : Int) = l[k] := by simp [QL.rd_T28, h]
/-- the cells of an entry in a list -/
theorem at_E {w : World} {A : Option Addr} {n : Nat} {l : List E6} (h : Kd.C kE w A n l) (k : Nat) (hk : k < l.length) : ∃ ad A5 c5, A = some ad ∧ w.cell? (ad.add (k * 6)) = some (.string l[k].f0) ∧ w.cell? ⟨(ad.add (k * 6)).block, (ad.add (k * 6)).off + 1, none⟩ = some (.int .i64 l[k].f1.f0) ∧ w.cell? ⟨(ad.add (k * 6)).block, (ad.add (k * 6)).off + 2, none⟩ = some (.int .i64 l[k].f1.f1) ∧ w.cell? ⟨(ad.add (k * 6)).block, (ad.add (k * 6)).off + 3, none⟩ = some (.int .i64 l[k].f1.f2) ∧ w.cell? ⟨(ad.add (k * 6)).block, (ad.add (k * 6)).off + 4, none⟩ = some (.bool l[k].f2.f0) ∧ w.cell? ⟨(ad.add (k * 6)).block, (ad.add (k * 6)).off + 5, none⟩ = some (.slice A5 l[k].f2.f1.length c5) ∧ l[k].f2.f1.length ≤ c5 ∧ (Kd.int .u8).C w A5 l[k].f2.f1.length l[k].f2.f1 := by
  obtain ⟨ad, A5, c5, h0, h1, h2, h3, h4, h5, h6, h7, h8⟩ := QL.at_T28 h (k : Int) (Int.natCast_nonneg k) (by have := h.1; omega)
  simp only [rd_E hk, Int.toNat_natCast] at h1 h2 h3 h4 h5 h6 h7 h8
  exact ⟨ad, A5, c5, h0, h1, h2, h3, h4, h5, h6, h7, h8⟩
theorem right_e {w : World} {A : Option Addr} {n c' : Nat} {v : List Int} (k : ByteArray) (a b c : Int) (h : Bool) {r : Int} (hq : rightV k a b c h v = r) (hr : Kd.C (Kd.int .u8) w A n v) (hc : n ≤ c') :
    Calls Tryd.prog 38 #[.agg #[.string k, .int .i64 a, .int .i64 b, .int .i64 c, .bool h, .slice A n c']] w fun e w' => e = .returned (.int .i64 r) ∧ Below w.heap.size w w' := by
  subst hq; exact right_c k a b c h hr hc
theorem take_ok {l : List E6} {k : Nat} (hk : k < l.length) (h : ∀ x ∈ l.take k, okE x) (h1 : okE l[k]) : ∀ x ∈ l.take (k + 1), okE x := by
  intro x hx
  rw [List.take_succ_eq_append_getElem hk] at hx
  rcases List.mem_append.1 hx with hx | hx
  · exact h x hx
  · obtain rfl := List.mem_singleton.1 hx; exact h1
set_option maxHeartbeats 2000000 in
theorem right_l {w : World} {A : Option Addr} {n c : Nat} {l : List E6} (hr : Kd.C kE w A n l) (hc : n ≤ c) :
    Calls Tryd.prog 37 #[.slice A n c] w fun e w' => e = .returned (.bool (rightB l)) ∧ Below w.heap.size w w' := by
  obtain rfl : l.length = n := hr.1
  have hm := hr.2.1
  have HR := Aside0.mk hr
  clear hr
  by_cases hl : l.length ≤ 1000
  · have t1 : decide ((l.length : Int) ≤ 1000) = true := decide_eq_true (by omega)
    go_enter Tryd.func37, Tryd.ntmps37
    go_wp2
    go_step3
    go_wp2
    go_step3
    go_wp2
    go_loopg [3, 11] l.length (fun q v3 v11 w' => ∃ k : Nat, k ≤ l.length ∧ v11 = .int .i64 k ∧ q = l.length - k ∧ v3 = .bool true ∧ Aside0 (∀ x ∈ l.take k, okE x) ∧ Aside0 (Below w.heap.size w w'))
    case atStart => exact ⟨0, Nat.zero_le _, rfl, rfl, rfl, ⟨by simp⟩, ⟨Below.refl _ _⟩⟩
    case round =>
      obtain ⟨k, hk, rfl, rfl, rfl, HO, HB⟩ := hrel
      by_cases hlt : k < l.length
      · have t2 : decide (k < l.length) = true := decide_eq_true hlt
        obtain ⟨ad, A5, c5, rfl, h1, h2, h3, h4, h5, h6, h7, h8⟩ := at_E (Kd.C_below HR.out HB.out) k hlt
        have HC := Aside0.mk h8
        clear h8
        by_cases ho : okE l[k]
        · have hq : Aside0 (rightV l[k].f0 l[k].f1.f0 l[k].f1.f1 l[k].f1.f2 l[k].f2.f0 l[k].f2.f1 = 0) := ⟨if_pos ho⟩
          have ho := Aside0.mk ho
          go_wp2_with (go_at_call 38; (with_reducible refine (right_e _ _ _ _ _ hq.out (Kd.C_alloc HC.out _) h7).mono ?_); rintro e w2 ⟨rfl, hb⟩; have HB2 := Aside0.mk hb; clear hb)
          go_roundg (l.length - (k + 1))
          case measure => omega
          case rel => exact ⟨k + 1, by omega, by go_num, rfl, rfl, ⟨take_ok hlt HO.out ho.out⟩, ⟨HB.out.trans ((below_alloc (Below.refl _ _) _).trans (HB2.out.mono (by simp)) |>.mono HB.out.size)⟩⟩
        · have hq : Aside0 (rightV l[k].f0 l[k].f1.f0 l[k].f1.f1 l[k].f1.f2 l[k].f2.f0 l[k].f2.f1 = 2) := ⟨if_neg ho⟩
          have ho := Aside0.mk ho
          go_wp2_with (go_at_call 38; (with_reducible refine (right_e _ _ _ _ _ hq.out (Kd.C_alloc HC.out _) h7).mono ?_); rintro e w2 ⟨rfl, hb⟩; have HB2 := Aside0.mk hb; clear hb)
          rw [Exit.noGoto_ret]
          go_ret
          exact ⟨by rw [show rightB l = false from decide_eq_false (fun h => ho.out (h.2 _ (List.getElem_mem hlt)))]; rfl, HB.out.trans ((below_alloc (Below.refl _ _) _).trans (HB2.out.mono (by simp)) |>.mono HB.out.size)⟩
      · have t2 : decide (k < l.length) = false := decide_eq_false hlt
        go_wp2
        rw [Exit.noGoto_ret]
        go_ret
        obtain rfl : k = l.length := by omega
        exact ⟨by rw [show rightB l = true from decide_eq_true ⟨hl, by have := HO.out; rwa [List.take_length] at this⟩]; rfl, HB.out⟩
  · have t1 : decide ((l.length : Int) ≤ 1000) = false := decide_eq_false (by omega)
    have HF : Aside0 (rightB l = false) := ⟨decide_eq_false (fun h => hl h.1)⟩
    have t2 : decide (0 < l.length) = true := decide_eq_true (by omega)
    have h0 : 0 < l.length := by omega
    obtain ⟨ad, A5, c5, rfl, h1, h2, h3, h4, h5, h6, h7, h8⟩ := at_E HR.out 0 h0
    have e0 : ad.add (0 * 6) = ad := by obtain ⟨b, o, p⟩ := ad; cases p <;> simp [Addr.add]
    rw [e0] at h1 h2 h3 h4 h5 h6
    clear h8 h7 hl e0
    go_enter Tryd.func37, Tryd.ntmps37
    go_wp2
    go_step3
    go_wp2
    go_step3
    go_wp2
    go_loopg [3, 11] 0 (fun q v3 v11 w' => v11 = .int .i64 0 ∧ v3 = .bool false ∧ w' = w)
    case atStart => exact ⟨rfl, rfl, rfl⟩
    case round =>
      obtain ⟨rfl, rfl, rfl⟩ := hrel
      go_wp2
      rw [Exit.noGoto_ret]
      go_ret
      exact ⟨by rw [HF.out]; rfl, below_alloc (Below.refl _ _) _⟩
end Go.Proofs.YthaoiamgkpkcbaaDoor.Ms
