/- quorum.Common: what is in both. -/
import Derived.Test.YteocngcojijnkaaC3
namespace Go.Proofs.Yteocngcojijnkaa.Cm
open Go.ChangeShapes Go.WideShapes Go.ChangeAt Go.RowKit Go.Proofs.Yteocngcojijnkaa.QO Go.Proofs.Yteocngcojijnkaa.Lex
open Go.Proofs.YteocngcojijnkaaW.PrintWords Go.Proofs.YteocngcojijnkaaW.PrintLast Go.Proofs.YteocngcojijnkaaW.PrintMore
set_option linter.unusedVariables false
set_option linter.unusedSimpArgs false
def common.f (k : Nat) (a b : List Int) : Option (List Int) := (quorum_once.f k a).bind fun o => some (keep b o)
theorem common.mono : ∀ a0 a1 k, LeO (common.f k a0 a1) (common.f (k + 1) a0 a1) := by
  intro a b k
  exact LeO.bind (quorum_once.mono a k) (fun _ => LeO.refl _)
set_option maxHeartbeats 4000000 in
set_option maxRecDepth 100000 in
theorem common.calls (k : Nat) (A0 : Option Addr) (c0 : Nat) (l0 : List Int) (A1 : Option Addr) (c1 : Nat) (l1 : List Int) (r : List Int) (w : World) (hr0 : Kd.C (Kd.int .i64) w A0 l0.length l0) (hc0 : l0.length ≤ c0) (hr1 : Kd.C (Kd.int .i64) w A1 l1.length l1) (hc1 : l1.length ≤ c1) (h : common.f k l0 l1 = some r) :
    Calls Try.prog 16 #[.slice A0 l0.length c0, .slice A1 l1.length c1] w fun e w' => ∃ v0_ : Value, e = .returned (v0_) ∧ Kd.R (Kd.int .i64) 3 w' w.heap.size (fun _ => True) v0_ r ∧ Below w.heap.size w w' := by
  obtain ⟨o, ho, hr⟩ := Option.bind_eq_some_iff.1 h
  obtain rfl := Option.some.inj hr
  have HR0 := Aside0.mk hr0
  have HC0 := Aside0.mk hc0
  have HR1 := Aside0.mk hr1
  have HC1 := Aside0.mk hc1
  have HO := Aside0.mk ho
  clear hr0 hc0 hr1 hc1 h ho hr
  have hmf : ∀ (fn : Fn) (first cap : Array Value) (w : World), (Instr.makeFunc fn first cap).run Try.prog w = .ok (.func fn first cap) w := fun _ _ _ _ => rfl
  go_enter Try.func16, Try.ntmps16
  go_wp2_with fail
  obtain ⟨W, hW⟩ : ∃ W, W = w.alloc (.cells #[.slice A1 l1.length c1] 22) := ⟨_, rfl⟩
  have HG : Aside0 (W.heap[w.heap.size]? = some (.cells #[.slice A1 l1.length c1] 22 (0, 0))) := ⟨by rw [hW]; exact Array.getElem?_push_size⟩
  have HRa := Aside0.mk (show Kd.C (Kd.int .i64) W A0 l0.length l0 by rw [hW]; exact Kd.C_alloc HR0.out _)
  have HRb := Aside0.mk (show Kd.C (Kd.int .i64) W A1 l1.length l1 by rw [hW]; exact Kd.C_alloc HR1.out _)
  have HBW : Aside0 (Below w.heap.size w W) := ⟨by rw [hW]; exact below_alloc (Below.refl _ _) _⟩
  rw [← hW]
  clear hW
  (with_reducible refine (quorum_once.calls k A0 c0 l0 _ W HRa.out HC0.out HO.out).mono ?_)
  rintro e w1 ⟨v, rfl, hv, hb⟩
  have HV := Aside0.mk hv
  have HB := Aside0.mk hb
  clear hv hb
  go_wp2_with fail
  (with_reducible refine (delete_ HG.out HRb.out HC1.out HV.out HB.out).mono ?_)
  rintro e w2 ⟨v', rfl, hv', hb'⟩
  have HV' := Aside0.mk hv'
  have HB' := Aside0.mk hb'
  clear hv' hb'
  go_wp2_with fail
  go_ret
  exact ⟨_, rfl, Kd.R_lower HV'.out HBW.out.size, below_then HBW.out HBW.out.size HB'.out⟩
end Go.Proofs.Yteocngcojijnkaa.Cm
