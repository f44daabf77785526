/- For every two rows of tags the law TagsMaxes returns true: the greatest of all is the greater one of both rows' greatest. No condition. -/
import Derived.Test.YtbmbnkoggmeanaaRows
import Derived.Test.YtbmbnkoggmeanaaTagsMaxes
import Derived.Test.YtbmbnkoggmeanaaOpen
import Derived.WalkKit
import Derived.ProofKit
import Derived.OpenShut
import Derived.ShutString
import Derived.ChangeOld
import Derived.Below
import Derived.SizedLaws
import Derived.Test.YtbmbnkoggmeanaaShapes
namespace Go.Proofs.Ytbmbnkoggmeanaa.tagsMaxesRow
open Go.ChangeShapes Go.WideShapes Go.ChangeAt Go.RowKit Go.Proofs.Ytbmbnkoggmeanaa.Opn
open Go.Proofs.YtbmbnkoggmeanaaW.PrintWords
set_option linter.unusedVariables false
theorem own : ownKnob Try.prog.godebug = none := by kernel_rfl
theorem laidOut : laidOutB Try.prog = true := by kernel_rfl
set_option maxRecDepth 100000 in
theorem lifted (os : Os) (started : os.Started) (H : Type) (enc : TypeId × Value → H) :
    ReturnsInHanded {} Try.checked os 7 .any (Rows.tagsMaxesSpec.pre6 enc Try.prog Try.f7 Rows.tagsMaxesRow.domain false) (Rows.tagsMaxesSpec.post enc Try.prog Try.f7 false true false false) := by
  refine returnsInHanded_of_change_sized (C := Try.checked) own started (by kernel_rfl) Try.func7
    (ChangeSpec.witness6 (enc := enc) (C := Try.checked) false ⟨#[], #[.slice none 0 0, .slice none 0 0], []⟩ 8 (by kernel_rfl) (by kernel_rfl) (by kernel_rfl) (by kernel_rfl)) ?_
  intro W base args ds gs before hval0 hW hcnd hsz0 _
  have hsz : (DataW.weightsEach Try.prog (Try.f7.params.toList ++ Rows.tagsMaxesSpec.plain.varTypes Try.prog) (ds ++ gs)).all (· ≤ reachBytes) = true := hsz0
  have hval : ∀ (j : Nat) t v, Try.f7.params[j]? = some t → args[j]? = some v → Value.okWide Try.prog W .any base t v := hval0
  have hW' := hW
  obtain ⟨p, q, hA0, hV, rfl, hfz, hnd⟩ := hW
  have hA : DataW.TrodAll enc Try.prog W 0 (fun _ => true) true Try.f7.params.toList args.toList ds p := hA0
  rw [Try.params7] at hA hval hsz
  obtain ⟨v0, vs0, d0, ds0, p0, q0, hargs, rfl, rfl, h0, r0⟩ := trodAll_cons hA
  obtain ⟨v1, vs1, d1, ds1, p1, q1, rfl, rfl, rfl, h1, r1⟩ := trodAll_cons r0
  obtain ⟨rfl, rfl, rfl⟩ := trodAll_nil r1
  obtain rfl : args = #[v0, v1] := by cases args; simp_all
  obtain ⟨rfl, rfl⟩ := trodVars_none hV
  have k0 := h0
  have lt0 : ∀ x ∈ p0, x.block < W.heap.size := by obtain ⟨m, hm⟩ := k0; exact DataW.trod_lt m _ _ _ hm
  obtain ⟨a0, K0, wf0⟩ := open_arg (@opens_slice _ _ _ _ _ _ 24 Try.underlying53 (by kernel_rfl) (by kernel_rfl) (@opens_iso _ _ _ _ _ _ @opens_tag (fun x : QMaxes.S23 => (x.f0, x.f1, x.f2)) (fun p => ⟨p.1, p.2.1, p.2.2⟩) (fun _ => rfl))) h0 hsz (j := 0) (t := 53) rfl rfl
  obtain ⟨A0, n0, c0, rfl⟩ := okWide_slice Try.underlying53 (hval 0 53 v0 rfl rfl)
  obtain ⟨B0, b0, he0, hc0, C0⟩ := K0
  simp [Value.cells] at he0
  obtain ⟨rfl, rfl, rfl⟩ := he0
  have k1 := h1
  have lt1 : ∀ x ∈ p1, x.block < W.heap.size := by obtain ⟨m, hm⟩ := k1; exact DataW.trod_lt m _ _ _ hm
  obtain ⟨a1, K1, wf1⟩ := open_arg (@opens_slice _ _ _ _ _ _ 24 Try.underlying53 (by kernel_rfl) (by kernel_rfl) (@opens_iso _ _ _ _ _ _ @opens_tag (fun x : QMaxes.S23 => (x.f0, x.f1, x.f2)) (fun p => ⟨p.1, p.2.1, p.2.2⟩) (fun _ => rfl))) h1 hsz (j := 1) (t := 53) rfl rfl
  obtain ⟨A1, n1, c1, rfl⟩ := okWide_slice Try.underlying53 (hval 1 53 v1 rfl rfl)
  obtain ⟨B1, b1, he1, hc1, C1⟩ := K1
  simp [Value.cells] at he1
  obtain ⟨rfl, rfl, rfl⟩ := he1
  clear hA0 hval0 hsz0 hsz
  refine (CmpQMaxes.tagsMaxes W A0 c0 a0 C0 hc0 wf0 A1 c1 a1 C1 hc1 wf1).mono fun e W' ⟨he, bel⟩ => ?_
  subst he
  exact ⟨_, rfl, _, _, _, [], _, [], hW', trodAll_mk1 (shut_bool Try.underlying4 _), (trodAll_cons_mk (Below.trod laidOut (by kernel_rfl) (of_decide_eq_true (by kernel_rfl)) k0 bel lt0) (trodAll_cons_mk (Below.trod laidOut (by kernel_rfl) (of_decide_eq_true (by kernel_rfl)) k1 bel lt1) trodAll_mk0)), rfl, bel.frame _, fun h => by cases h⟩
theorem over : Rows.tagsMaxesRow.holds Try.pinned (OpenSpec.ofChange Rows.tagsMaxesSpec) :=
  OpenClaim.holds_of_wide 7 Try.f7 rfl rfl rfl rfl rfl rfl rfl ⟨rfl, rfl, rfl, rfl, rfl⟩ rfl rfl rfl rfl rfl (by kernel_rfl) Try.func7 (by kernel_rfl)
    (of_decide_eq_true (by kernel_rfl)) (by unfold Func.isWrapper; first | (rw [if_pos (by decide +kernel)]; kernel_rfl) | (rw [if_neg (by decide +kernel)]; exact ⟨rfl, rfl⟩))
    (fun os started H enc _ => lifted os started H enc)
theorem proved : Rows.TagsMaxesSaid := over
#print axioms proved
end Go.Proofs.Ytbmbnkoggmeanaa.tagsMaxesRow
