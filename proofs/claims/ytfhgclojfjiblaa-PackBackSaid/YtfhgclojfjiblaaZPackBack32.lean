/- For all numbers, rows and bytes the law PackBack returns true. No condition. -/
import Derived.Test.YtfhgclojfjiblaaRows
import Derived.Test.YtfhgclojfjiblaaZPackBack30
import Derived.Test.YtfhgclojfjiblaaZPackBack31
import Derived.WalkKit
import Derived.ProofKit
import Derived.OpenShut
import Derived.ShutString
import Derived.ChangeOld
import Derived.Below
import Derived.SizedLaws
namespace Go.Proofs.Ytfhgclojfjiblaa.packBackRow
open Go.ChangeShapes Go.WideShapes Go.ChangeAt Go.RowKit Go.Proofs.Ytfhgclojfjiblaa.Opn
open Go.Proofs.YtfhgclojfjiblaaW.PrintWords
set_option linter.unusedVariables false
theorem own : ownKnob Try.prog.godebug = none := by kernel_rfl
theorem laidOut : laidOutB Try.prog = true := by kernel_rfl
set_option maxRecDepth 100000 in
theorem lifted (os : Os) (started : os.Started) (H : Type) (enc : TypeId × Value → H) :
    ReturnsInHanded {} Try.checked os 9 .any (Rows.packBackSpec.pre6 enc Try.prog Try.f9 Rows.packBackRow.domain false) (Rows.packBackSpec.post enc Try.prog Try.f9 false true false false) := by
  refine returnsInHanded_of_change_sized (C := Try.checked) own started (by kernel_rfl) Try.func9
    (ChangeSpec.witness6 (enc := enc) (C := Try.checked) false ⟨#[], #[.slice none 0 0, .slice none 0 0, .slice none 0 0, .int .u16 0], []⟩ 8 (by kernel_rfl) (by kernel_rfl) (by kernel_rfl) (by kernel_rfl)) ?_
  intro W base args ds gs before hval0 hW hcnd hsz0 _
  have hsz : (DataW.weightsEach Try.prog (Try.f9.params.toList ++ Rows.packBackSpec.plain.varTypes Try.prog) (ds ++ gs)).all (· ≤ reachBytes) = true := hsz0
  have hval : ∀ (j : Nat) t v, Try.f9.params[j]? = some t → args[j]? = some v → Value.okWide Try.prog W .any base t v := hval0
  have hW' := hW
  obtain ⟨p, q, hA0, hV, rfl, hfz, hnd⟩ := hW
  have hA : DataW.TrodAll enc Try.prog W 0 (fun _ => true) true Try.f9.params.toList args.toList ds p := hA0
  rw [Try.params9] at hA hval hsz
  obtain ⟨v0, vs0, d0, ds0, p0, q0, hargs, rfl, rfl, h0, r0⟩ := trodAll_cons hA
  obtain ⟨v1, vs1, d1, ds1, p1, q1, rfl, rfl, rfl, h1, r1⟩ := trodAll_cons r0
  obtain ⟨v2, vs2, d2, ds2, p2, q2, rfl, rfl, rfl, h2, r2⟩ := trodAll_cons r1
  obtain ⟨v3, vs3, d3, ds3, p3, q3, rfl, rfl, rfl, h3, r3⟩ := trodAll_cons r2
  obtain ⟨rfl, rfl, rfl⟩ := trodAll_nil r3
  obtain rfl : args = #[v0, v1, v2, v3] := by cases args; simp_all
  obtain ⟨rfl, rfl⟩ := trodVars_none hV
  have k0 := h0
  have lt0 : ∀ x ∈ p0, x.block < W.heap.size := by obtain ⟨m, hm⟩ := k0; exact DataW.trod_lt m _ _ _ hm
  obtain ⟨a0, K0, wf0⟩ := open_arg (opens_slice (B := 8) Try.underlying44 (by kernel_rfl) (by kernel_rfl) (opens_int Try.underlying3)) h0 hsz (j := 0) (t := 44) rfl rfl
  obtain ⟨A0, n0, c0, rfl⟩ := okWide_slice Try.underlying44 (hval 0 44 v0 rfl rfl)
  obtain ⟨B0, b0, he0, hc0, C0⟩ := K0
  simp [Value.cells] at he0
  obtain ⟨rfl, rfl, rfl⟩ := he0
  have k1 := h1
  have lt1 : ∀ x ∈ p1, x.block < W.heap.size := by obtain ⟨m, hm⟩ := k1; exact DataW.trod_lt m _ _ _ hm
  obtain ⟨a1, K1, wf1⟩ := open_arg (opens_slice (B := 24) Try.underlying49 (by kernel_rfl) (by kernel_rfl) (opens_slice (B := 1) Try.underlying22 (by kernel_rfl) (by kernel_rfl) (opens_int Try.underlying5))) h1 hsz (j := 1) (t := 49) rfl rfl
  obtain ⟨A1, n1, c1, rfl⟩ := okWide_slice Try.underlying49 (hval 1 49 v1 rfl rfl)
  obtain ⟨B1, b1, he1, hc1, C1⟩ := K1
  simp [Value.cells] at he1
  obtain ⟨rfl, rfl, rfl⟩ := he1
  have k2 := h2
  have lt2 : ∀ x ∈ p2, x.block < W.heap.size := by obtain ⟨m, hm⟩ := k2; exact DataW.trod_lt m _ _ _ hm
  obtain ⟨a2, K2, wf2⟩ := open_arg (opens_slice (B := 1) Try.underlying22 (by kernel_rfl) (by kernel_rfl) (opens_int Try.underlying5)) h2 hsz (j := 2) (t := 22) rfl rfl
  obtain ⟨A2, n2, c2, rfl⟩ := okWide_slice Try.underlying22 (hval 2 22 v2 rfl rfl)
  obtain ⟨B2, b2, he2, hc2, C2⟩ := K2
  simp [Value.cells] at he2
  obtain ⟨rfl, rfl, rfl⟩ := he2
  obtain ⟨a3, rfl, rfl, rfl, w3⟩ := open_int Try.underlying57 (hval 3 57 v3 rfl rfl) h3
  clear hA0 hval0 hsz0 hsz
  refine (Pk.packBack W A0 c0 a0 C0 hc0 wf0 A1 c1 a1 C1 hc1 wf1 A2 c2 a2 C2 hc2 wf2 a3 w3).mono fun e W' ⟨he, bel⟩ => ?_
  subst he
  exact ⟨_, rfl, _, _, _, [], _, [], hW', trodAll_mk1 (shut_bool Try.underlying4 _), (trodAll_cons_mk (Below.trod laidOut (by kernel_rfl) (of_decide_eq_true (by kernel_rfl)) k0 bel lt0) (trodAll_cons_mk (Below.trod laidOut (by kernel_rfl) (of_decide_eq_true (by kernel_rfl)) k1 bel lt1) (trodAll_cons_mk (Below.trod laidOut (by kernel_rfl) (of_decide_eq_true (by kernel_rfl)) k2 bel lt2) (trodAll_cons_mk (shut_int Try.underlying57 w3) trodAll_mk0)))), rfl, bel.frame _, fun h => by cases h⟩
theorem over : Rows.packBackRow.holds Try.pinned (OpenSpec.ofChange Rows.packBackSpec) :=
  OpenClaim.holds_of_wide 9 Try.f9 rfl rfl rfl rfl rfl rfl rfl ⟨rfl, rfl, rfl, rfl, rfl⟩ rfl rfl rfl rfl rfl (by kernel_rfl) Try.func9 (by kernel_rfl)
    (of_decide_eq_true (by kernel_rfl)) (by unfold Func.isWrapper; first | (rw [if_pos (by decide +kernel)]; kernel_rfl) | (rw [if_neg (by decide +kernel)]; exact ⟨rfl, rfl⟩))
    (fun os started H enc _ => lifted os started H enc)
theorem proved : Rows.PackBackSaid := over
#print axioms proved
end Go.Proofs.Ytfhgclojfjiblaa.packBackRow
