/- The law TagsWrites returns true. Conditions: none. · For every entry the law TagsWrites returns true: its bytes, or that it has none, are the reference's. No condition. -/
import Derived.Test.YtbmbnkoggmeanaaZTagsWrites31
import Derived.Test.YtbmbnkoggmeanaaZTagsWrites33
import Derived.Test.YtbmbnkoggmeanaaRows
import Derived.Test.YtbmbnkoggmeanaaZTagsWrites32
import Derived.WalkKit
import Derived.ProofKit
import Derived.OpenShut
import Derived.ShutString
import Derived.ChangeOld
import Derived.Below
import Derived.SizedLaws
namespace Go.Proofs.Ytbmbnkoggmeanaa.WritesP
open Go.RowKit Go.Proofs.Ytbmbnkoggmeanaa.Opn Go.Proofs.Ytbmbnkoggmeanaa.Tg Go.Proofs.Ytbmbnkoggmeanaa.EncC Go.Proofs.Ytbmbnkoggmeanaa.QWrites Go.Proofs.YtbmbnkoggmeanaaW.PrintWords Go.Proofs.YtbmbnkoggmeanaaW.PrintLast Go.Proofs.YtbmbnkoggmeanaaW.PrintMore
set_option linter.unusedVariables false
set_option linter.unusedSimpArgs false
theorem long_f (k : ByteArray) (a b c : Int) (h : Bool) (v : List Int) : QR.icehouselaw03_long.f k a b c h v = some (longB k v) := by
  unfold QR.icehouselaw03_long.f longB
  by_cases h1 : 400 < k.size
  · rw [if_pos (show (k.size : Int) > 400 by omega), if_pos h1]
  · rw [if_neg (show ¬ (k.size : Int) > 400 by omega), if_neg h1]
    congr 1
    exact decide_eq_decide.2 (by omega)
theorem right_up (k : ByteArray) (a b c : Int) (h : Bool) (v : List Int) (m : Nat) : QA.tags_Right.f (m + 1) k a b c h v = some (rightV k a b c h v) := by
  induction m with
  | zero => exact right_f k a b c h v
  | succ m ih => exact QA.tags_Right.mono _ _ _ _ _ _ _ _ ih
theorem rright_up (k : ByteArray) (a b c : Int) (h : Bool) (v : List Int) (m : Nat) : QR.icehouseref03_Right.f (m + 2) k a b c h v = some (rightV k a b c h v) := by
  induction m with
  | zero => exact rright_f k a b c h v
  | succ m ih => exact QR.icehouseref03_Right.mono _ _ _ _ _ _ _ _ ih
theorem same_self (l : List Int) : QR.icehouseref00_Same.f l l = some true := by unfold QR.icehouseref00_Same.f; simp
theorem law_f (m : Nat) (k : ByteArray) (a b c : Int) (h : Bool) (v : List Int) : icehouselaw03_TagsWrites.f (m + 2) k a b c h v = some true := by
  have e1 := right_up k a b c h v (m + 1)
  have e2 := rright_up k a b c h v m
  have e3 := long_f k a b c h v
  have e4 := same_self (bytesV k a b c h v).1
  unfold icehouselaw03_TagsWrites.f
  rw [e3, Option.bind_some]
  cases longB k v
  · rw [if_neg Bool.false_ne_true, show Fb.tags_Bytes.f k a b c h v = some (bytesV k a b c h v) from rfl, show Fb.icehouseref03_Bytes.f k a b c h v = some (bytesV k a b c h v) from rfl, Option.bind_some, Option.bind_some, e4, Option.bind_some, if_pos rfl, if_pos rfl, e1, e2, Option.bind_some, Option.bind_some, if_pos rfl]
    unfold QR.tags_Size.f Fk.known.f
    rw [Option.bind_some, if_pos rfl]; rfl
  · rw [if_pos rfl]; rfl
theorem tagsWrites (w : World) (cs0 : Array Value) (a0 : ByteArray × (Int × Int × Int) × Bool × List Int) (K0 : kEnt.K w a0 cs0.toList) (wf0 : wEnt a0) :
    Calls Try.prog 11 #[.agg cs0] w fun e w' => e = .returned (.bool true) ∧ Below w.heap.size w w' := by
  obtain ⟨A0, c0, e0, hc0, C0⟩ := ent_cells K0
  rw [show cs0 = #[.string a0.1, .int .i64 a0.2.1.1, .int .i64 a0.2.1.2.1, .int .i64 a0.2.1.2.2, .bool a0.2.2.1, .slice A0 a0.2.2.2.length c0] from by rw [← Array.toList_inj, e0]]
  exact icehouselaw03_TagsWrites.calls (0 + 2) _ _ _ _ _ A0 c0 _ w C0 hc0 (law_f 0 _ _ _ _ _ _)
end Go.Proofs.Ytbmbnkoggmeanaa.WritesP

namespace Go.Proofs.Ytbmbnkoggmeanaa.tagsWritesRow
open Go.ChangeShapes Go.WideShapes Go.ChangeAt Go.RowKit Go.Proofs.Ytbmbnkoggmeanaa.Opn
open Go.Proofs.YtbmbnkoggmeanaaW.PrintWords
set_option linter.unusedVariables false
theorem own : ownKnob Try.prog.godebug = none := by kernel_rfl
theorem laidOut : laidOutB Try.prog = true := by kernel_rfl
set_option maxRecDepth 100000 in
theorem lifted (os : Os) (started : os.Started) (H : Type) (enc : TypeId × Value → H) :
    ReturnsInHanded {} Try.checked os 11 .any (Rows.tagsWritesSpec.pre6 enc Try.prog Try.f11 Rows.tagsWritesRow.domain false) (Rows.tagsWritesSpec.post enc Try.prog Try.f11 false true false false) := by
  refine returnsInHanded_of_change_sized (C := Try.checked) own started (by kernel_rfl) Try.func11
    (ChangeSpec.witness6 (enc := enc) (C := Try.checked) false ⟨#[], #[.agg #[.string ByteArray.empty, .int .i64 0, .int .i64 0, .int .i64 0, .bool false, .slice none 0 0]], []⟩ 8 (by kernel_rfl) (by kernel_rfl) (by kernel_rfl) (by kernel_rfl)) ?_
  intro W base args ds gs before hval0 hW hcnd hsz0 _
  have hsz : (DataW.weightsEach Try.prog (Try.f11.params.toList ++ Rows.tagsWritesSpec.plain.varTypes Try.prog) (ds ++ gs)).all (· ≤ reachBytes) = true := hsz0
  have hval : ∀ (j : Nat) t v, Try.f11.params[j]? = some t → args[j]? = some v → Value.okWide Try.prog W .any base t v := hval0
  have hW' := hW
  obtain ⟨p, q, hA0, hV, rfl, hfz, hnd⟩ := hW
  have hA : DataW.TrodAll enc Try.prog W 0 (fun _ => true) true Try.f11.params.toList args.toList ds p := hA0
  rw [Try.params11] at hA hval hsz
  obtain ⟨v0, vs0, d0, ds0, p0, q0, hargs, rfl, rfl, h0, r0⟩ := trodAll_cons hA
  obtain ⟨rfl, rfl, rfl⟩ := trodAll_nil r0
  obtain rfl : args = #[v0] := by cases args; simp_all
  obtain ⟨rfl, rfl⟩ := trodVars_none hV
  have k0 := h0
  have lt0 : ∀ x ∈ p0, x.block < W.heap.size := by obtain ⟨m, hm⟩ := k0; exact DataW.trod_lt m _ _ _ hm
  obtain ⟨a0, K0, wf0⟩ := open_arg (@opens_ent) h0 hsz (j := 0) (t := 40) rfl rfl
  obtain ⟨cs0, rfl, sz0⟩ := okWide_struct Try.underlying40 (hval 0 40 v0 rfl rfl)
  have K0' := K0
  simp only [Value.cells] at K0'
  clear hA0 hval0 hsz0 hsz
  refine (WritesP.tagsWrites W cs0 a0 K0' wf0).mono fun e W' ⟨he, bel⟩ => ?_
  subst he
  exact ⟨_, rfl, _, _, _, [], _, [], hW', trodAll_mk1 (shut_bool Try.underlying4 _), (trodAll_cons_mk (Below.trod laidOut (by kernel_rfl) (of_decide_eq_true (by kernel_rfl)) k0 bel lt0) trodAll_mk0), rfl, bel.frame _, fun h => by cases h⟩
theorem over : Rows.tagsWritesRow.holds Try.pinned (OpenSpec.ofChange Rows.tagsWritesSpec) :=
  OpenClaim.holds_of_wide 11 Try.f11 rfl rfl rfl rfl rfl rfl rfl ⟨rfl, rfl, rfl, rfl, rfl⟩ rfl rfl rfl rfl rfl (by kernel_rfl) Try.func11 (by kernel_rfl)
    (of_decide_eq_true (by kernel_rfl)) (by unfold Func.isWrapper; first | (rw [if_pos (by decide +kernel)]; kernel_rfl) | (rw [if_neg (by decide +kernel)]; exact ⟨rfl, rfl⟩))
    (fun os started H enc _ => lifted os started H enc)
theorem proved : Rows.TagsWritesSaid := over
#print axioms proved
end Go.Proofs.Ytbmbnkoggmeanaa.tagsWritesRow
