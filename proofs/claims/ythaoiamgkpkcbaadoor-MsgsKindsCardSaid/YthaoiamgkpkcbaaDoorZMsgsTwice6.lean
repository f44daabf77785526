/- Written by a program of this session over the kit's print: functions and their contracts. · tags.Check, None, Right, plain. -/
import Derived.Test.YthaoiamgkpkcbaaDoorZMsgsTwice4
import Derived.Test.YthaoiamgkpkcbaaDoorZMsgsTwice5
namespace Go.Proofs.YthaoiamgkpkcbaaDoor.QA
open Go.RowKit Go.Proofs.YthaoiamgkpkcbaaDoorW.PrintWords Go.Proofs.YthaoiamgkpkcbaaDoorW.PrintLast Go.Proofs.YthaoiamgkpkcbaaDoorW.PrintMore
attribute [local go_sem] max2_int min2_int max_two min_two max_three min_three max_four min_four   -- for this text's walks alone
set_option linter.unusedVariables false
set_option linter.unusedSimpArgs false

end Go.Proofs.YthaoiamgkpkcbaaDoor.QA

namespace Go.Proofs.YthaoiamgkpkcbaaDoor.Tg
open Go.RowKit Go.Proofs.YthaoiamgkpkcbaaDoor.QA Go.Proofs.YthaoiamgkpkcbaaDoorW.PrintWords Go.Proofs.YthaoiamgkpkcbaaDoorW.PrintLast Go.Proofs.YthaoiamgkpkcbaaDoorW.PrintMore
set_option linter.unusedVariables false
set_option linter.unusedSimpArgs false
/-- a tag that may be -/
def okTag (a b c : Int) : Prop := 0 ≤ a ∧ a ≤ 1099511627775 ∧ 0 ≤ b ∧ b ≤ 1048575 ∧ 0 ≤ c ∧ c ≤ 1048575 ∧ (a = 0 → b = 0 ∧ c = 0)
instance (a b c : Int) : Decidable (okTag a b c) := by unfold okTag; infer_instance
def checkV (a b c : Int) : Int := if okTag a b c then 0 else 2
theorem check_f (a b c : Int) : tags_Check.f a b c = some (checkV a b c) := by
  unfold tags_Check.f checkV okTag
  by_cases h1 : a ≥ 0
  · by_cases h2 : a ≤ 1099511627775
    · by_cases h3 : b ≥ 0
      · by_cases h4 : b ≤ 1048575
        · by_cases h5 : c ≥ 0
          · by_cases h6 : c ≤ 1048575
            · by_cases h7 : a = 0
              · subst h7
                by_cases h8 : b = 0 <;> by_cases h9 : c = 0 <;> simp [h8, h9] <;> omega
              · simp [h1, h2, h3, h4, h5, h6, h7]
            · simp [h1, h2, h3, h4, h5, h6]
          · simp [h1, h2, h3, h4, h5]
        · simp [h1, h2, h3, h4]
      · simp [h1, h2, h3]
    · simp [h1, h2]
  · simp [h1]
/-- an entry that may be -/
def okEnt (k : ByteArray) (a b c : Int) (h : Bool) (v : List Int) : Prop := 1 ≤ k.size ∧ k.size ≤ 250 ∧ v.length ≤ 60000 ∧ (h = false → v.length = 0) ∧ okTag a b c ∧ (a = 0 → h = false)
instance (k : ByteArray) (a b c : Int) (h : Bool) (v : List Int) : Decidable (okEnt k a b c h v) := by unfold okEnt; infer_instance
def rightV (k : ByteArray) (a b c : Int) (h : Bool) (v : List Int) : Int := if okEnt k a b c h v then 0 else 2
theorem right_f (k : ByteArray) (a b c : Int) (h : Bool) (v : List Int) : tags_Right.f 1 k a b c h v = some (rightV k a b c h v) := by
  unfold tags_Right.f tags_Right.j0 rightV okEnt tags_None.f
  simp only [check_f, Option.bind_some]
  by_cases h1 : (k.size : Int) = 0
  · have : ¬ (1 ≤ k.size) := by omega
    simp [h1, this]
  · have e1 : 1 ≤ k.size := by omega
    by_cases h2 : (k.size : Int) > 250
    · have : ¬ (k.size ≤ 250) := by omega
      simp [h1, h2, this]
    · have e2 : k.size ≤ 250 := by omega
      by_cases h3 : (v.length : Int) > 60000
      · have : ¬ (v.length ≤ 60000) := by omega
        simp [h1, h2, h3, this]
      · have e3 : v.length ≤ 60000 := by omega
        rw [if_neg h1, if_neg h2, if_neg h3]
        unfold checkV
        by_cases h5 : okTag a b c
        · cases h
          · by_cases h6 : v.length = 0
            · by_cases h7 : a = 0 <;> simp [e1, e2, e3, h5, h6, h7]
            · have : (v.length : Int) > 0 := by omega
              simp [e1, e2, e3, h5, h6, this]
          · by_cases h7 : a = 0 <;> simp [e1, e2, e3, h5, h7]
        · cases h
          · by_cases h6 : v.length = 0
            · simp [e1, e2, e3, h5, h6]
            · have : (v.length : Int) > 0 := by omega
              simp [e1, e2, e3, h5, h6, this]
          · simp [e1, e2, e3, h5]
theorem right_c {w : World} {A : Option Addr} {n c' : Nat} {v : List Int} (k : ByteArray) (a b c : Int) (h : Bool) (hr : Kd.C (Kd.int .u8) w A n v) (hc : n ≤ c') :
    Calls Tryd.prog 38 #[.agg #[.string k, .int .i64 a, .int .i64 b, .int .i64 c, .bool h, .slice A n c']] w fun e w' => e = .returned (.int .i64 (rightV k a b c h v)) ∧ Below w.heap.size w w' := by
  obtain rfl : v.length = n := hr.1
  exact tags_Right.calls 1 k a b c h A c' v _ w hr hc (right_f k a b c h v)
end Go.Proofs.YthaoiamgkpkcbaaDoor.Tg
