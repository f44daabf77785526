/- What the card's condition tells: the table of msgs lies in its variable; and the world in which the door lays it. Conditions: none. · For every message and every kind the law MsgsKinds returns true. No condition; the table of kinds starts as the program's text lays it. -/
import Derived.Test.YthaoiamgkpkcbaaDoorRows
import Derived.Test.YthaoiamgkpkcbaaDoorZMsgsTwice21
import Derived.ProofKit
import Derived.LaidMore
import Derived.OpenShut
import Derived.Stop.Joined
import Derived.Test.YthaoiamgkpkcbaaDoorCards
import Derived.Test.YthaoiamgkpkcbaaDoorTie
import Derived.Test.YthaoiamgkpkcbaaDoorZMsgsKinds0
import Derived.Test.YthaoiamgkpkcbaaDoorZMsgsTwice29
import Derived.WalkKit
import Derived.ShutString
import Derived.ChangeOld
import Derived.Below
import Derived.SizedLaws
import Derived.SevenTiedAt

namespace Go.Proofs.YthaoiamgkpkcbaaDoor.Ms
open Go.ChangeShapes Go.WideShapes Go.ChangeAt Go.RowKit
abbrev laidK : List (String × DataW Unit) := [("icehouse/msgs.kinds", Rows.laid_icehouse_msgs_kinds)]
theorem gKinds : Tryd.prog.globalNamed "icehouse/msgs.kinds" = some 0 := by kernel_rfl
theorem tKinds : (Tryd.prog.globals[0]?).map (·.type) = some 98 := by kernel_rfl
theorem door_met (os : Os) (args : Array Value) : laidMetH Tryd.prog laidK ((World.doorLaid Tryd.prog 30 os).forCall (fun _ _ => 0) ⟨#[], args, []⟩).memory :=
  laidMetH_of_parts3 (fuel := 8) (laidMet_of_run' 8 (by kernel_rfl) (by kernel_rfl)) (by kernel_rfl) (by kernel_rfl)
theorem bool_trod {H : Type} {enc : TypeId × Value → H} {P : Program} {w : World} {base : Nat} {sp : Nat → Bool} {held : Bool} {fuel : Nat} {t : TypeId} {cs : List Value} {y : DataW H × List MemPlace}
    (ht : P.underlying t = some .bool) (hl : cs.length = 1) (h : DataW.trod enc P w base sp held fuel t cs = some y) : ∃ b, cs = [.bool b] ∧ y.1 = .lit (.bool b) := by
  match cs, hl with
  | [c], _ =>
    cases fuel with
    | zero => simp [DataW.trod] at h
    | succ fuel =>
      cases c with
      | bool b =>
        simp [DataW.trod, ht] at h
        exact ⟨b, rfl, by rw [← h]⟩
      | _ => simp [DataW.trod, ht] at h
set_option maxRecDepth 100000 in
theorem five_trod {H : Type} {enc : TypeId × Value → H} {w : World} {base : Nat} {sp : Nat → Bool} {held : Bool} {fuel : Nat} {cs : List Value} {y : DataW H × List MemPlace} {b0 b1 b2 b3 b4 : Bool}
    (h : DataW.trod enc Tryd.prog w base sp held fuel 97 cs = some y) (hy : y.1 = .agg [.lit (.bool b0), .lit (.bool b1), .lit (.bool b2), .lit (.bool b3), .lit (.bool b4)]) : cs = [.bool b0, .bool b1, .bool b2, .bool b3, .bool b4] := by
  obtain ⟨xs, m1, rfl, rfl, hlen, hn, hel⟩ := DataW.trod_array Tryd.underlying97 h
  have c5 : Tryd.prog.cellsOf 97 = 5 := by kernel_rfl
  have c1 : Tryd.prog.cellsOf 4 = 1 := by kernel_rfl
  rw [c5] at hlen
  match cs, hlen with
  | [v0, v1, v2, v3, v4], _ =>
    have e0 := hel 0 (by decide)
    have e1 := hel 1 (by decide)
    have e2 := hel 2 (by decide)
    have e3 := hel 3 (by decide)
    have e4 := hel 4 (by decide)
    rw [c1] at e0 e1 e2 e3 e4
    match xs, hn with
    | [x0, x1, x2, x3, x4], _ =>
      simp only [List.map_cons, List.map_nil, DataW.agg.injEq, List.cons.injEq, and_true] at hy
      obtain ⟨y0, y1, y2, y3, y4⟩ := hy
      obtain ⟨z0, h0, q0⟩ := bool_trod Tryd.underlying4 rfl (show DataW.trod enc Tryd.prog w base sp held m1 4 [v0] = some x0 from e0)
      obtain ⟨z1, h1, q1⟩ := bool_trod Tryd.underlying4 rfl (show DataW.trod enc Tryd.prog w base sp held m1 4 [v1] = some x1 from e1)
      obtain ⟨z2, h2, q2⟩ := bool_trod Tryd.underlying4 rfl (show DataW.trod enc Tryd.prog w base sp held m1 4 [v2] = some x2 from e2)
      obtain ⟨z3, h3, q3⟩ := bool_trod Tryd.underlying4 rfl (show DataW.trod enc Tryd.prog w base sp held m1 4 [v3] = some x3 from e3)
      obtain ⟨z4, h4, q4⟩ := bool_trod Tryd.underlying4 rfl (show DataW.trod enc Tryd.prog w base sp held m1 4 [v4] = some x4 from e4)
      rw [q0] at y0; rw [q1] at y1; rw [q2] at y2; rw [q3] at y3; rw [q4] at y4
      simp only [DataW.lit.injEq, Lit.bool.injEq] at y0 y1 y2 y3 y4
      subst y0 y1 y2 y3 y4
      simp only [List.cons.injEq, and_true] at h0 h1 h2 h3 h4
      rw [h0, h1, h2, h3, h4]
theorem chunks : ∀ (n : Nat) (l : List Value) (f : Nat → List Value), l.length = n * 5 → (∀ i, i < n → (l.drop (i * 5)).take 5 = f i) → l = (List.range n).flatMap f := by
  intro n
  induction n with
  | zero => intro l f hl _; simpa using hl
  | succ n ih =>
    intro l f hl h
    have h1 := ih (l.take (n * 5)) f (by rw [List.length_take]; omega) (fun i hi => by
      rw [← h i (by omega), List.drop_take, List.take_take]
      congr 1; omega)
    have h2 := h n (by omega)
    rw [List.range_succ, List.flatMap_append, ← h1]
    simp only [List.flatMap_cons, List.flatMap_nil, List.append_nil]
    rw [← h2, List.take_of_length_le (i := 5) (l := l.drop (n * 5)) (by rw [List.length_drop]; omega), List.take_append_drop]
def rowK (i : Nat) : List Value := match tab[i]? with
  | some h => [.bool h.n, .bool h.f, .bool h.e, .bool h.l, .bool h.r]
  | none => []
theorem kinds_chunks : kindsC.toList = (List.range 18).flatMap rowK := by kernel_rfl
set_option maxRecDepth 100000 in
theorem kin_of_laid {W : World} (h : laidMetH Tryd.prog laidK W) : Kin W := by
  rw [MakeChecks.laidMetH_plain _ _ _ (by kernel_rfl)] at h
  obtain ⟨ps, ⟨g0, t0, cs0, f0, p0, q0, hg0, ht0, hv0, hd0, _, _⟩, _⟩ := h
  obtain rfl := Option.some.inj (gKinds.symm.trans hg0)
  obtain rfl := Option.some.inj (tKinds.symm.trans ht0)
  obtain ⟨xs, m1, rfl, hx, hlen, hn, hel⟩ := DataW.trod_array Tryd.underlying98 hd0
  have c5 : Tryd.prog.cellsOf 97 = 5 := by kernel_rfl
  have c90 : Tryd.prog.cellsOf 98 = 90 := by kernel_rfl
  rw [c90] at hlen
  simp only [c5] at hel
  have hcs : cs0.toList = kindsC.toList := by
    rw [kinds_chunks]
    refine chunks 18 cs0.toList rowK hlen fun i hi => ?_
    have he := hel i hi
    have hxs : xs.map (·.1) = (tab.map fun h => (DataW.agg [.lit (.bool h.n), .lit (.bool h.f), .lit (.bool h.e), .lit (.bool h.l), .lit (.bool h.r)] : DataW Unit)) := by
      have := congrArg Prod.fst hx
      simp only at this
      injection this with this
      rw [← this]; rfl
    obtain ⟨x, hxi⟩ : ∃ x, xs[i]? = some x := ⟨xs[i]'(by omega), List.getElem?_eq_getElem (by omega)⟩
    rw [hxi] at he
    have ht : i < tab.length := hi
    have hm : (xs.map (·.1))[i]? = some x.1 := by rw [List.getElem?_map, hxi]; rfl
    rw [hxs, List.getElem?_map, List.getElem?_eq_getElem ht] at hm
    have hm2 := Option.some.inj hm
    unfold rowK
    rw [List.getElem?_eq_getElem ht]
    exact five_trod he hm2.symm
  have : cs0 = kindsC := Array.toList_inj.1 hcs
  subst this
  unfold World.var? at hv0
  rw [gKinds, Option.bind_some] at hv0
  split at hv0
  · rename_i c t fr hb
    obtain rfl := Option.some.inj hv0
    exact ⟨t, fr, hb⟩
  · cases hv0
end Go.Proofs.YthaoiamgkpkcbaaDoor.Ms
namespace Go.Proofs.YthaoiamgkpkcbaaDoor.msgsKindsRow
open Go Go.ChangeShapes Go.WideShapes Go.ChangeAt Go.WideMaps Go.WideElems Go.RowKit Go.Proofs.YthaoiamgkpkcbaaDoor.Opn Go.Proofs.YthaoiamgkpkcbaaDoor.Ms
open Go.Proofs.YthaoiamgkpkcbaaDoorW.PrintWords
set_option linter.unusedVariables false
theorem own : ownKnob Tryd.prog.godebug = none := by kernel_rfl
theorem laidOut : laidOutB Tryd.prog = true := by kernel_rfl
set_option maxRecDepth 100000 in
theorem lifted (os : Os) (started : os.Started) (H : Type) (enc : TypeId × Value → H) :
    ReturnsInHanded {} Tryd.checked os 6 .any (fun w args => (Rows.msgsKindsSpec.pre enc Tryd.prog Tryd.f6 [] false w args ∧ laidMetH Tryd.prog laidK w) ∧ sizedMet enc Tryd.prog Tryd.f6 (OpenSpec.ofChange Rows.msgsKindsSpec) false w args) (Rows.msgsKindsSpec.post enc Tryd.prog Tryd.f6 false true false false) := by
  refine returnsInHanded_of_change_and (C := Tryd.checked) (X := fun w _ => laidMetH Tryd.prog laidK w) (fun _ _ _ hh h => h.of_heap hh) own started (by kernel_rfl) Tryd.func6
    (ChangeSpec.witness_shaped (enc := enc) (C := Tryd.checked) (os := os) (X := fun w _ => laidMetH Tryd.prog laidK w) false (World.doorLaid Tryd.prog 30 os) #[.agg #[.int .i64 0, .int .i64 0, .int .i64 0, .int .i64 0, .int .i64 0, .int .i64 0, .bool false, .string ByteArray.empty, .int .i64 0, .int .i64 0, .int .i64 0, .bool false, .slice none 0 0, .slice none 0 0, .slice none 0 0, .int .i64 0, .int .i64 0], .int .i64 0] 8 rfl (World.shaped_of_RefB (by kernel_rfl) (by kernel_rfl)) (by kernel_rfl) (by kernel_rfl) (by kernel_rfl) (door_met os _)) ?_
  intro W base args ds gs before hval0 hW _ hsz0 hL _
  have hsz : (DataW.weightsEach Tryd.prog (Tryd.f6.params.toList ++ Rows.msgsKindsSpec.plain.varTypes Tryd.prog) (ds ++ gs)).all (· ≤ reachBytes) = true := hsz0
  have hval : ∀ (j : Nat) t v, Tryd.f6.params[j]? = some t → args[j]? = some v → Value.okWide Tryd.prog W .any base t v := hval0
  have hW' := hW
  obtain ⟨p, q, hA0, hV, rfl, hfz, hnd⟩ := hW
  have hA : DataW.TrodAll enc Tryd.prog W 0 (fun _ => true) true Tryd.f6.params.toList args.toList ds p := hA0
  rw [Tryd.params6] at hA hval hsz
  obtain ⟨v0, vs0, d0, ds0, p0, q0, hargs, rfl, rfl, h0, r0⟩ := trodAll_cons hA
  obtain ⟨v1, vs1, d1, ds1, p1, q1, rfl, rfl, rfl, h1, r1⟩ := trodAll_cons r0
  obtain ⟨rfl, rfl, rfl⟩ := trodAll_nil r1
  obtain rfl : args = #[v0, v1] := by cases args; simp_all
  obtain ⟨rfl, rfl⟩ := trodVars_none hV
  have k0 := h0
  have lt0 : ∀ x ∈ p0, x.block < W.heap.size := by obtain ⟨m, hm⟩ := k0; exact DataW.trod_lt m _ _ _ hm
  obtain ⟨a0, K0, wf0⟩ := open_arg (@opens_msg) h0 hsz (j := 0) (t := 34) rfl rfl
  obtain ⟨cs0, rfl, sz0⟩ := okWide_struct Tryd.underlying34 (hval 0 34 v0 rfl rfl)
  have K0' := K0
  simp only [Value.cells] at K0'
  obtain ⟨a1, rfl, rfl, rfl, w1⟩ := open_int Tryd.underlying3 (hval 1 3 v1 rfl rfl) h1
  have hkin := kin_of_laid hL
  clear hA0 hval0 hsz0 hsz hL
  refine (Ms.msgsKinds W hkin cs0 a0 K0' wf0 a1 w1).mono fun e W' ⟨he, bel⟩ => ?_
  subst he
  exact ⟨_, rfl, _, _, _, [], _, [], hW', trodAll_mk1 (shut_bool Tryd.underlying4 _), (trodAll_cons_mk (Below.trod laidOut (by kernel_rfl) (of_decide_eq_true (by kernel_rfl)) k0 bel lt0) (trodAll_cons_mk (shut_int Tryd.underlying3 w1) trodAll_mk0)), rfl, bel.frame _, fun h => by cases h⟩
theorem over : Rows.msgsKindsRow.holds Tryd.pinned (OpenSpec.ofChange Rows.msgsKindsSpec) :=
  OpenClaim.holds_of_wide 6 Tryd.f6 rfl rfl rfl rfl rfl rfl rfl ⟨rfl, rfl, rfl, rfl, rfl⟩ rfl rfl rfl rfl rfl (by kernel_rfl) Tryd.func6 (by kernel_rfl)
    (of_decide_eq_true (by kernel_rfl)) (by unfold Func.isWrapper; first | (rw [if_pos (by decide +kernel)]; kernel_rfl) | (rw [if_neg (by decide +kernel)]; exact ⟨rfl, rfl⟩))
    (fun os started H enc _ => lifted os started H enc)
theorem proved : Rows.MsgsKindsCardSaid :=
  Claim7.holds_tied_plain_at .later [] [.data] true (true, "2d6ae1731ce91e2eb794e220e0a15458808e8c869b97cc5e7bd78b853c790114") false
    over (fun _ h => by cases h) (by kernel_rfl) (fun _ h => by cases h) msgsKinds_row_tie rfl ⟨rfl, rfl⟩ (by kernel_rfl) rfl
    (fun f fn hf hfn => by
      obtain rfl : f = 6 := Option.some.inj ((show Tryd.prog.funcNamed "icehouse/icehouselaw12.MsgsKinds" = some 6 by kernel_rfl).symm.trans hf) |>.symm
      obtain rfl : fn = Tryd.f6 := (Option.some.inj (Tryd.func6.symm.trans hfn)).symm
      exact ⟨by kernel_rfl, fun j t ht => by
        rw [Tryd.params6] at ht
        have hm : t ∈ ([34, 3] : List Nat) := by simpa using Array.mem_of_getElem? ht
        have hall : (([34, 3] : List Nat).all fun u => !Tryd.prog.wantsStandIn u) = true := by kernel_rfl
        exact (show Tryd.prog.wantsStandIn t = false by simpa using List.all_eq_true.1 hall t hm)⟩)
    (by kernel_rfl)
#print axioms proved
end Go.Proofs.YthaoiamgkpkcbaaDoor.msgsKindsRow
