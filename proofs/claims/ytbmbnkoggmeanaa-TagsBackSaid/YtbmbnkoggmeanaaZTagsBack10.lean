/- The contracts of tags.Copy, tags.Newer and the reference's Newer. Conditions: bytes that fit in memory. · How tags stand, plain: by their numbers, one behind the other. And what holds from some count of rounds on. · tags.Compare, plain. -/
import Derived.Test.YtbmbnkoggmeanaaZTagsBack9
import Derived.Test.YtbmbnkoggmeanaaZTagsBack7
namespace Go.Proofs.Ytbmbnkoggmeanaa.Tg
open Go.ChangeShapes Go.WideShapes Go.ChangeAt Go.RowKit Go.Proofs.Ytbmbnkoggmeanaa.Pk
open Go.Proofs.Ytbmbnkoggmeanaa.Hlp Go.Proofs.Ytbmbnkoggmeanaa.Wrd Go.Proofs.YtbmbnkoggmeanaaW.PrintWords Go.Proofs.YtbmbnkoggmeanaaW.PrintLast Go.Proofs.YtbmbnkoggmeanaaW.PrintMore
set_option linter.unusedVariables false
set_option linter.unusedSimpArgs false
/-- what Copy tells: the same entry, its bytes in a row of the call's own -/
def CopyPost (w : World) (k : ByteArray) (a b c : Int) (h : Bool) (v : List Int) (x : Ending) (w' : World) : Prop :=
  ∃ A2 c2, x = .returned (.agg #[.string k, .int .i64 a, .int .i64 b, .int .i64 c, .bool h, .slice A2 v.length c2]) ∧ Kd.R (Kd.int .u8) 5 w' w.heap.size (fun _ => True) (.slice A2 v.length c2) v ∧ Below w.heap.size w w'
set_option maxHeartbeats 2000000 in
set_option maxRecDepth 100000 in
theorem copy_ {w : World} {A : Option Addr} {n c' : Nat} {v : List Int} (k : ByteArray) (a b c : Int) (h : Bool) (hr : Kd.C (Kd.int .u8) w A n v) (hc : n ≤ c') (hl : n ≤ 140737488351232) :
    Calls Try.prog 36 #[.agg #[.string k, .int .i64 a, .int .i64 b, .int .i64 c, .bool h, .slice A n c']] w (CopyPost w k a b c h v) := by
  obtain rfl : v.length = n := hr.1
  have hu40 := Try.underlying40
  have hu23 := Try.underlying23
  have hu38 := Try.underlying38
  have HR := Aside0.mk (Kd.C_alloc (Kd.C_alloc hr (.cells #[.string k, .int .i64 a, .int .i64 b, .int .i64 c, .bool h, .slice A v.length c'] 40)) (.cells zEn 40))
  have HB := Aside0.mk (below_allocs (Below.refl w.heap.size w) (.cells #[.string k, .int .i64 a, .int .i64 b, .int .i64 c, .bool h, .slice A v.length c'] 40) (.cells zEn 40))
  obtain ⟨bE, bN⟩ := two_blks w (.cells #[.string k, .int .i64 a, .int .i64 b, .int .i64 c, .bool h, .slice A v.length c'] 40) (.cells zEn 40)
  have bE := Aside0.mk bE
  have bN := Aside0.mk bN
  clear hr
  go_enter Try.func36, Try.ntmps36
  go_upto_region 1 with fail
  generalize (w.alloc (.cells #[.string k, .int .i64 a, .int .i64 b, .int .i64 c, .bool h, .slice A v.length c'] 40)).alloc (.cells zEn 40) = W at *
  obtain ⟨e0, e1, e2, e3, e4, e5⟩ := en_cells bE.out
  have hS := Aside0.mk (blk_lt bN.out)
  go_wp2_with ((with_reducible refine gate_builtin (b := .append) rfl ?_); at_builtin; refine Kd.R_append_rows (Kd.int .u8) (w0 := W) W.heap.size rfl _ _ 36 5 (.int .u8 0) 1 rfl Try.underlying36 info8 rfl (by decide) (by omega) (.slice none 0 0) [] v _ _ _ (fun _ => True) (fun _ => False) rfl rfl (Kd.R_nil _ _ _ _ _) HR.out (fun _ _ h => h) (fun _ h => h.elim) (fun _ _ => trivial) (Below.refl _ _) (Nat.le_refl _) (by simp; omega) ?_; intro v1 w1 ho hb1 hg hat; rw [List.nil_append] at ho; obtain ⟨A1, c1, rfl⟩ := Kd.R_slice ho; have HO := Aside0.mk ho; have HB1 := Aside0.mk (below_then HB.out HB.out.size hb1); have bE1 := Aside0.mk (blk_below bE.out hb1); have bN1 := Aside0.mk (blk_below bN.out hb1); clear ho hb1 hg hat e0 e1 e2 e3 e4 e5; obtain ⟨e0, e1, e2, e3, e4, e5⟩ := en_cells bE1.out; obtain ⟨f0, f1, f2, f3, f4, f5⟩ := en_free bE1.out; obtain ⟨n0, n1, n2, n3, n4, n5⟩ := en_cells bN1.out; obtain ⟨m0, m1, m2, m3, m4, m5⟩ := en_free bN1.out)
  have bE2 := blk_set bE1.out 5 (.slice A1 v.length c1)
  have bN2 : (w1.setCell ⟨w.heap.size, 5, none⟩ (.slice A1 v.length c1)).heap[w.heap.size + 1]? = _ := (Below.heap_setCell w1 _ _ _ (by simp)).trans bN1.out
  have bN3 := put6_blk (k' := k) (a' := a) (b' := b) (c' := c) (h' := h) (v := .slice A1 v.length c1) bN2
  have hlt := hS.out
  refine bodyPost_ret (put6_ret rfl _ rfl bN3) rfl ?_
  exact ⟨A1, c1, rfl, Kd.R_lower (put6_R (R_farg HO.out (Nat.lt_of_succ_lt hlt) _ _) hlt) HB.out.size, put6_below (below_set HB1.out (Nat.le_refl _)) (Nat.le_succ _)⟩
end Go.Proofs.Ytbmbnkoggmeanaa.Tg

namespace Go.Proofs.Ytbmbnkoggmeanaa.Lex
def cmp1 (a b : Int) : Int := if a < b then -1 else if a > b then 1 else 0
def cmpV (a0 a1 a2 b0 b1 b2 : Int) : Int := if cmp1 a0 b0 ≠ 0 then cmp1 a0 b0 else if cmp1 a1 b1 ≠ 0 then cmp1 a1 b1 else cmp1 a2 b2
theorem cmpV_ge {a0 a1 a2 b0 b1 b2 : Int} : cmpV a0 a1 a2 b0 b1 b2 ≥ 0 ↔ (a0 > b0 ∨ a0 = b0 ∧ (a1 > b1 ∨ a1 = b1 ∧ a2 ≥ b2)) := by
  unfold cmpV cmp1
  repeat' split
  all_goals omega
theorem cmpV_gt {a0 a1 a2 b0 b1 b2 : Int} : cmpV a0 a1 a2 b0 b1 b2 > 0 ↔ (a0 > b0 ∨ a0 = b0 ∧ (a1 > b1 ∨ a1 = b1 ∧ a2 > b2)) := by
  unfold cmpV cmp1
  repeat' split
  all_goals omega
theorem cmpV_zero {a0 a1 a2 b0 b1 b2 : Int} : cmpV a0 a1 a2 b0 b1 b2 = 0 ↔ (a0 = b0 ∧ a1 = b1 ∧ a2 = b2) := by
  unfold cmpV cmp1
  repeat' split
  all_goals omega
theorem cmpV_neg (a0 a1 a2 b0 b1 b2 : Int) : cmpV a0 a1 a2 b0 b1 b2 = - cmpV b0 b1 b2 a0 a1 a2 := by
  unfold cmpV cmp1
  repeat' split
  all_goals omega
/-- from some count of rounds on -/
def Since {α : Type} (f : Nat → Option α) (r : α) : Prop := ∃ K, ∀ k, K ≤ k → f k = some r
theorem Since.one {α β : Type} {f : Nat → Option α} {r : α} {F : Nat → Option β} {q : β} (h : Since f r) (hF : ∀ k, f k = some r → F (k + 1) = some q) : Since F q := by
  obtain ⟨K, h⟩ := h
  refine ⟨K + 1, fun k hk => ?_⟩
  obtain ⟨k, rfl⟩ : ∃ j, k = j + 1 := ⟨k - 1, by omega⟩
  exact hF k (h k (by omega))
theorem Since.two {α α' β : Type} {f : Nat → Option α} {r : α} {g : Nat → Option α'} {r' : α'} {F : Nat → Option β} {q : β} (h : Since f r) (h' : Since g r') (hF : ∀ k, f k = some r → g k = some r' → F (k + 1) = some q) : Since F q := by
  obtain ⟨K, h⟩ := h
  obtain ⟨K', h'⟩ := h'
  refine ⟨K + K' + 1, fun k hk => ?_⟩
  obtain ⟨k, rfl⟩ : ∃ j, k = j + 1 := ⟨k - 1, by omega⟩
  exact hF k (h k (by omega)) (h' k (by omega))
theorem Since.none {β : Type} {F : Nat → Option β} {q : β} (hF : ∀ k, F (k + 1) = some q) : Since F q := by
  refine ⟨1, fun k hk => ?_⟩
  obtain ⟨k, rfl⟩ : ∃ j, k = j + 1 := ⟨k - 1, by omega⟩
  exact hF k
theorem Since.map {α β : Type} {f : Nat → Option α} {r : α} {F : Nat → Option β} {q : β} (h : Since f r) (hF : ∀ k, f k = some r → F k = some q) : Since F q := by
  obtain ⟨K, h⟩ := h
  exact ⟨K, fun k hk => hF k (h k hk)⟩
theorem Since.and {α α' β : Type} {f : Nat → Option α} {r : α} {g : Nat → Option α'} {r' : α'} {F : Nat → Option β} {q : β} (h : Since f r) (h' : Since g r') (hF : ∀ k, f k = some r → g k = some r' → F k = some q) : Since F q := by
  obtain ⟨K, h⟩ := h
  obtain ⟨K', h'⟩ := h'
  exact ⟨K + K', fun k hk => hF k (h k (by omega)) (h' k (by omega))⟩
end Go.Proofs.Ytbmbnkoggmeanaa.Lex

namespace Go.Proofs.Ytbmbnkoggmeanaa.CmpQA
open Go.RowKit Go.Proofs.Ytbmbnkoggmeanaa.Lex Go.Proofs.Ytbmbnkoggmeanaa.QA Go.Proofs.YtbmbnkoggmeanaaW.PrintWords Go.Proofs.YtbmbnkoggmeanaaW.PrintLast Go.Proofs.YtbmbnkoggmeanaaW.PrintMore
set_option linter.unusedVariables false
set_option linter.unusedSimpArgs false
theorem cmp_int (a b : Int) : cmp_Compare_int.f a b = some (cmp1 a b) := by
  unfold cmp_Compare_int.f cmp_isNaN_int.f cmp1
  have h1 : (a != a) = false := by simp
  have h2 : (b != b) = false := by simp
  simp only [h1, h2, Option.bind_some, Bool.false_eq_true, if_false]
  repeat' split
  all_goals first | rfl | omega
theorem or_f (k : Nat) (x y z : Int) : cmp_Or_int.f (k + 4) [x, y, z] = some (if x ≠ 0 then x else if y ≠ 0 then y else z) := by
  have w1 : wrap64 1 = 1 := by decide +kernel
  have w2 : wrap64 2 = 2 := by decide +kernel
  have w3 : wrap64 3 = 3 := by decide +kernel
  unfold cmp_Or_int.f
  simp only [cmp_Or_int.l0, rd, List.length_cons, List.length_nil]
  by_cases hx : x = 0
  · by_cases hy : y = 0
    · by_cases hz : z = 0
      · simp [hx, hy, hz, w1, w2, w3]
      · simp [hx, hy, hz, w1, w2, w3]
    · simp [hx, hy, w1, w2, w3]
  · simp [hx, w1, w2, w3]
theorem compare_f (k : Nat) (a0 a1 a2 b0 b1 b2 : Int) : tags_Compare.f (k + 4) a0 a1 a2 b0 b1 b2 = some (cmpV a0 a1 a2 b0 b1 b2) := by
  unfold tags_Compare.f cmpV
  simp only [cmp_int, Option.bind_some, or_f]
theorem compare_ev (a0 a1 a2 b0 b1 b2 : Int) : Since (fun k => tags_Compare.f k a0 a1 a2 b0 b1 b2) (cmpV a0 a1 a2 b0 b1 b2) :=
  ⟨4, fun k hk => by obtain ⟨j, rfl⟩ : ∃ j, k = j + 4 := ⟨k - 4, by omega⟩; exact compare_f j _ _ _ _ _ _⟩
end Go.Proofs.Ytbmbnkoggmeanaa.CmpQA
