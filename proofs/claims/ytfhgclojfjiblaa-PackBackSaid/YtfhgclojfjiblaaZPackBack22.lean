/- The contract of icehouselaw02.known: it returns true. Conditions: none. -/
import Derived.Test.YtfhgclojfjiblaaZPackBack5
import Derived.Test.YtfhgclojfjiblaaZPackBack21
namespace Go.Proofs.Ytfhgclojfjiblaa.Pk
open Go.ChangeShapes Go.WideShapes Go.ChangeAt Go.RowKit Go.Proofs.Ytfhgclojfjiblaa.PPackPuts Go.Proofs.Ytfhgclojfjiblaa.Enc Go.Proofs.Ytfhgclojfjiblaa.EncP Go.Proofs.Ytfhgclojfjiblaa.EncC
open Go.Proofs.Ytfhgclojfjiblaa.Hlp Go.Proofs.Ytfhgclojfjiblaa.Wrd Go.Proofs.YtfhgclojfjiblaaW.PrintWords Go.Proofs.YtfhgclojfjiblaaW.PrintLast Go.Proofs.YtfhgclojfjiblaaW.PrintMore
set_option linter.unusedVariables false
set_option linter.unusedSimpArgs false
theorem row_a : rowB [97] = [1, 1, 97] := by decide +kernel
theorem num_300 : numB 300 = [2, 1, 44] := by decide +kernel
set_option maxHeartbeats 2000000 in
theorem known_ (w : World) : Calls Try.prog 10 #[] w fun e w' => e = .returned (.bool true) ∧ Below w.heap.size w w' := by
  have R1 := Lib.hid row_a
  have N1 := Lib.hid num_300
  have HA0 : Aside0 (Kd.C (Kd.int .u8) (w.alloc (.cells #[.int .u8 97] 5)) (some ⟨w.heap.size, 0, none⟩) 1 [97]) := ⟨C_blki [97] (blk_new w _) (by decide) rfl⟩
  have HB0 := Aside0.mk (below_alloc (Below.refl w.heap.size w) (.cells #[.int .u8 97] 5))
  go_enter Try.func10, Try.ntmps10
  go_wp2_with fail
  (with_reducible refine (row_c HA0.out (Nat.le_refl 1) (by decide)).mono ?_)
  rw [R1.out]
  rintro e w1 ⟨v1, rfl, ho1, hb1⟩
  obtain ⟨A1, c1, rfl, hc1, hr1⟩ := Kd.R_reads ho1
  simp only [List.length_cons, List.length_nil, Nat.zero_add, Nat.reduceAdd] at hr1 hc1
  have HR1 := Aside0.mk hr1
  have HB1 := Aside0.mk (below_step HB0.out hb1)
  clear ho1 hb1 hr1
  go_wp2_with fail
  (with_reducible refine (num_c 300 _).mono ?_)
  rw [N1.out]
  rintro e w2 ⟨v2, rfl, ho2, hb2⟩
  obtain ⟨A2, c2, rfl, hc2, hr2⟩ := Kd.R_reads ho2
  simp only [List.length_cons, List.length_nil, Nat.zero_add, Nat.reduceAdd] at hr2 hc2
  have HR2 := Aside0.mk hr2
  have HR1 := Aside0.mk (Kd.C_below HR1.out hb2)
  have HB2 := Aside0.mk (below_step HB1.out hb2)
  clear ho2 hb2 hr2
  have HL : Aside0 (Kd.C (Kd.int .u8) (w2.alloc (.cells #[.int .u8 2, .int .u8 1, .int .u8 44] 5)) (some ⟨w2.heap.size, 0, none⟩) 3 [2, 1, 44]) := ⟨C_blki [2, 1, 44] (blk_new w2 _) (by decide) rfl⟩
  go_wp2_with fail
  (with_reducible refine (same_c (Kd.C_alloc HR2.out _) hc2 HL.out (Nat.le_refl 3)).mono ?_)
  rintro e w' ⟨rfl, ⟨n3, rfl⟩⟩
  have HB3 := Aside0.mk (pw_below_drewN (below_alloc HB2.out (.cells #[.int .u8 2, .int .u8 1, .int .u8 44] 5)) n3)
  have HR1 := Aside0.mk (Kd.C_drewN (Kd.C_alloc HR1.out (.cells #[.int .u8 2, .int .u8 1, .int .u8 44] 5)) n3)
  generalize hw3 : (w2.alloc (.cells #[.int .u8 2, .int .u8 1, .int .u8 44] 5)).drewN n3 = w3 at *
  clear hw3 HR2 HL HB2 HB1 HA0 HB0
  have HL : Aside0 (Kd.C (Kd.int .u8) (w3.alloc (.cells #[.int .u8 1, .int .u8 1, .int .u8 97] 5)) (some ⟨w3.heap.size, 0, none⟩) 3 [1, 1, 97]) := ⟨C_blki [1, 1, 97] (blk_new w3 _) (by decide) rfl⟩
  go_wp2_with fail
  (with_reducible refine (same_c (Kd.C_alloc HR1.out _) hc1 HL.out (Nat.le_refl 3)).mono ?_)
  rintro e w' ⟨rfl, ⟨n4, rfl⟩⟩
  have HB4 := Aside0.mk (pw_below_drewN (below_alloc HB3.out (.cells #[.int .u8 1, .int .u8 1, .int .u8 97] 5)) n4)
  generalize hw4 : (w3.alloc (.cells #[.int .u8 1, .int .u8 1, .int .u8 97] 5)).drewN n4 = w4 at *
  clear hw4 HR1 HL HB3
  go_wp2_with fail
  (with_reducible refine end_nil.mono ?_)
  rintro e w' ⟨rfl, rfl⟩
  go_wp2_with fail
  (with_reducible refine (truth_c true _).mono ?_)
  rw [show truthB true = [1] from rfl]
  rintro e w5 ⟨v5, rfl, ho5, hb5⟩
  obtain ⟨A5, c5, rfl, hc5, hr5⟩ := Kd.R_reads ho5
  simp only [List.length_cons, List.length_nil, Nat.zero_add] at hr5 hc5
  have HR5 := Aside0.mk hr5
  have HB5 := Aside0.mk (below_step HB4.out hb5)
  clear ho5 hb5 hr5 HB4
  have HL : Aside0 (Kd.C (Kd.int .u8) (w5.alloc (.cells #[.int .u8 1] 5)) (some ⟨w5.heap.size, 0, none⟩) 1 [1]) := ⟨C_blki [1] (blk_new w5 _) (by decide) rfl⟩
  go_wp2_with fail
  (with_reducible refine (same_c (Kd.C_alloc HR5.out _) hc5 HL.out (Nat.le_refl 1)).mono ?_)
  rintro e w' ⟨rfl, ⟨n6, rfl⟩⟩
  go_wp2_with fail
  go_ret
  exact ⟨rfl, pw_below_drewN (below_alloc HB5.out _) n6⟩
end Go.Proofs.Ytfhgclojfjiblaa.Pk
