/- The contracts of the reference's Has, of long, and of msgs.Back. Conditions: the table lies in its variable. -/
import Derived.Test.YthaoiamgkpkcbaaDoorZMsgsTwice29
namespace Go.Proofs.YthaoiamgkpkcbaaDoor.Ms
open Go.ChangeShapes Go.WideShapes Go.ChangeAt Go.RowKit Go.Proofs.YthaoiamgkpkcbaaDoor.Pk Go.Proofs.YthaoiamgkpkcbaaDoor.Tg Go.Proofs.YthaoiamgkpkcbaaDoor.Enc Go.Proofs.YthaoiamgkpkcbaaDoor.EncC Go.Proofs.YthaoiamgkpkcbaaDoor.EncP
open Go.Proofs.YthaoiamgkpkcbaaDoor.Hlp Go.Proofs.YthaoiamgkpkcbaaDoor.Wrd Go.Proofs.YthaoiamgkpkcbaaDoor.Lex Go.Proofs.YthaoiamgkpkcbaaDoorW.PrintWords Go.Proofs.YthaoiamgkpkcbaaDoorW.PrintLast Go.Proofs.YthaoiamgkpkcbaaDoorW.PrintMore
set_option linter.unusedVariables false
set_option linter.unusedSimpArgs false
/-- what a kind has, by its letter -/
def hasL (h : Hs) (c : UInt8) : Bool := if c = 110 then h.n else if c = 102 then h.f else if c = 101 then h.e else if c = 108 then h.l else h.r
theorem has_tab : ∀ c ∈ ([110, 102, 101, 108, 114] : List UInt8), (List.range 18).map (fun i => QR.icehouseref12_Has.f 12 ((i : Nat) : Int) ⟨#[c]⟩) = (List.range 18).map (fun i => some (hasL (hasV ((i : Nat) : Int)) c)) := by
  intro c hc
  simp only [List.mem_cons, List.not_mem_nil, or_false] at hc
  rcases hc with rfl | rfl | rfl | rfl | rfl <;> kernel_rfl
theorem has_f (k : Int) (c : UInt8) (hc : c ∈ ([110, 102, 101, 108, 114] : List UInt8)) : QR.icehouseref12_Has.f 12 k ⟨#[c]⟩ = some (hasL (hasV k) c) := by
  by_cases hk : 1 ≤ k ∧ k ≤ 17
  · obtain ⟨n, rfl⟩ := Int.eq_ofNat_of_zero_le (show 0 ≤ k by omega)
    have := congrArg (fun l => l[n]?) (has_tab c hc)
    simp only [List.getElem?_map, List.getElem?_range (show n < 18 by omega), Option.map_some] at this
    exact Option.some.inj this
  · have hn : hasV k = Hs.none := by unfold hasV; rw [if_neg hk]
    have hl : hasL (hasV k) c = false := by rw [hn]; unfold hasL Hs.none; repeat' split
                                            all_goals rfl
    rw [hl]
    unfold QR.icehouseref12_Has.f
    by_cases h1 : k < 1
    · rw [if_pos h1]; simp only [QR.icehouseref12_Has.j0]; rfl
    · rw [if_neg h1, decide_eq_true (show k > 17 by omega)]; simp only [QR.icehouseref12_Has.j0]; rfl
theorem rhas_c (k : Int) (c : UInt8) (hc : c ∈ ([110, 102, 101, 108, 114] : List UInt8)) {r : Bool} (hr : hasL (hasV k) c = r) (w : World) : Calls Tryd.prog 21 #[.int .i64 k, .string ⟨#[c]⟩] w fun e w' => e = .returned (.bool r) ∧ Below w.heap.size w w' :=
  QR.icehouseref12_Has.calls 12 k ⟨#[c]⟩ r w (by rw [has_f k c hc, hr])
theorem rhas_n (k : Int) {r : Bool} (hr : (hasV k).n = r) (w : World) : Calls Tryd.prog 21 #[.int .i64 k, .string ⟨#[110]⟩] w fun e w' => e = .returned (.bool r) ∧ Below w.heap.size w w' := rhas_c k 110 (by decide) hr w
theorem rhas_f (k : Int) {r : Bool} (hr : (hasV k).f = r) (w : World) : Calls Tryd.prog 21 #[.int .i64 k, .string ⟨#[102]⟩] w fun e w' => e = .returned (.bool r) ∧ Below w.heap.size w w' := rhas_c k 102 (by decide) hr w
theorem rhas_e (k : Int) {r : Bool} (hr : (hasV k).e = r) (w : World) : Calls Tryd.prog 21 #[.int .i64 k, .string ⟨#[101]⟩] w fun e w' => e = .returned (.bool r) ∧ Below w.heap.size w w' := rhas_c k 101 (by decide) hr w
theorem rhas_l (k : Int) {r : Bool} (hr : (hasV k).l = r) (w : World) : Calls Tryd.prog 21 #[.int .i64 k, .string ⟨#[108]⟩] w fun e w' => e = .returned (.bool r) ∧ Below w.heap.size w w' := rhas_c k 108 (by decide) hr w
theorem rhas_r (k : Int) {r : Bool} (hr : (hasV k).r = r) (w : World) : Calls Tryd.prog 21 #[.int .i64 k, .string ⟨#[114]⟩] w fun e w' => e = .returned (.bool r) ∧ Below w.heap.size w w' := rhas_c k 114 (by decide) hr w
/-! long -/
theorem long_l0 (m : Ms) (hl : m.L.length < 9223372036854775807) : ∀ (d i : Nat) (a : Int), m.L.length - i = d → i ≤ m.L.length → ∃ r, Since (fun k => QL.icehouseref12_Long.l0 k a (i : Int) m.kind m.fr m.dst m.ep m.op m.n m.f m.e.f0 m.e.f1.f0 m.e.f1.f1 m.e.f1.f2 m.e.f2.f0 m.e.f2.f1 m.L m.R m.each m.keep) r := by
  intro d
  induction d with
  | zero =>
    intro i a hd hi
    obtain rfl : i = m.L.length := by omega
    refine ⟨wrap64 (a + ((([] : List Int).length : Nat) : Int)), Since.none fun k => ?_⟩
    simp only [QL.icehouseref12_Long.l0]
    rw [if_neg (Int.lt_irrefl _)]
    rfl
  | succ d ih =>
    intro i a hd hi
    have hw : wrap64 ((i : Int) + 1) = ((i + 1 : Nat) : Int) := by unfold wrap64; omega
    obtain ⟨r, hr⟩ := ih (i + 1) (wrap64 ((wrap64 (a + (((QL.rd_T28 m.L (i : Int)).f0).size : Int))) + (((QL.rd_T28 m.L (i : Int)).f2.f1).length : Int))) (by omega) (by omega)
    refine ⟨r, Since.one hr fun k hk => ?_⟩
    simp only [QL.icehouseref12_Long.l0]
    rw [if_pos (by omega), if_pos (by omega), hw]
    exact hk
theorem long_c {w : World} {m : Ms} {p : Pl} (hm : Lies w m p) (hl : m.L.length < 9223372036854775807) :
    Calls Tryd.prog 10 #[.agg (m.val p)] w fun e w' => (∃ r, e = .returned (.bool r)) ∧ Below w.heap.size w w' := by
  obtain ⟨r, K, hK⟩ := long_l0 m hl _ 0 (wrap64 ((wrap64 ((wrap64 ((m.e.f0.size : Int) + (m.e.f2.f1.length : Int))) + (m.R.length : Int))) + (m.L.length : Int))) rfl (Nat.zero_le _)
  refine (QL.icehouselaw12_long.calls K m.kind m.fr m.dst m.ep m.op m.n m.f m.e.f0 m.e.f1.f0 m.e.f1.f1 m.e.f1.f2 m.e.f2.f0 p.vA p.vc m.e.f2.f1 p.lA p.lc m.L p.rA p.rc m.R m.each m.keep (decide (r > 1000)) w hm.v hm.vc hm.l hm.lc hm.r hm.rc ?_).mono ?_
  · unfold QL.icehouselaw12_long.f QL.icehouseref12_Long.f
    rw [show QL.icehouseref12_Long.l0 K _ (0 : Int) _ _ _ _ _ _ _ _ _ _ _ _ _ _ _ _ _ = some r from hK K (Nat.le_refl _)]
    rfl
  · rintro e w' ⟨rfl, hb⟩
    exact ⟨⟨_, rfl⟩, hb⟩
/-! Back -/
def backE (h : Bool) (k : ByteArray) : E6 := ⟨if h = true then k else ⟨#[]⟩, ⟨0, 0, 0⟩, ⟨false, []⟩⟩
def backM (m : Ms) (k : Int) : Ms := ⟨k, m.dst, m.fr, m.ep, m.op, 0, false, backE (hasV k).e m.e.f0, [], [], 0, 0⟩
abbrev bkC (m : Ms) (k : Int) (s : ByteArray) : Array Value := #[.int .i64 k, .int .i64 m.dst, .int .i64 m.fr, .int .i64 m.ep, .int .i64 m.op, .int .i64 0, .bool false, .string s, .int .i64 0, .int .i64 0, .int .i64 0, .bool false, .slice none 0 0, .slice none 0 0, .slice none 0 0, .int .i64 0, .int .i64 0]
theorem bkC_one (m : Ms) (k : Int) (s : ByteArray) : (bkC m k s).all (·.oneCell') = true := by simp [Value.oneCell']
set_option maxHeartbeats 4000000 in
set_option maxRecDepth 100000 in
theorem back_c {w : World} {m : Ms} {p : Pl} (k : Int) (hK : Kin w) : Calls Tryd.prog 22 #[.agg (m.val p), .int .i64 k] w fun e w' => e = .returned (.agg ((backM m k).val nP)) ∧ Below w.heap.size w w' := by
  obtain ⟨b0, b1, b2⟩ := three_blks w (.cells (m.val p) 34) (.cells zMs 34) (.cells (bkC m k ⟨#[]⟩) 34)
  obtain ⟨d0, d1⟩ := two_blks w (.cells (m.val p) 34) (.cells zMs 34)
  have HB := Aside0.mk (below_alloc (below_allocs (Below.refl w.heap.size w) (.cells (m.val p) 34) (.cells zMs 34)) (.cells (bkC m k ⟨#[]⟩) 34))
  have HK := Aside0.mk (hK.below HB.out)
  have B0 := Aside0.mk b0
  have B1 := Aside0.mk b1
  have B2 := Aside0.mk b2
  have D0 := Aside0.mk d0
  have HZ : Aside0 (((w.alloc (.cells (m.val p) 34)).alloc (.cells zMs 34)).heap.size = w.heap.size + 1 + 1) := ⟨by rw [size1, size1]⟩
  clear hK b0 b1 b2 d0 d1
  obtain ⟨b, hb⟩ : ∃ b, hasV k = b := ⟨_, rfl⟩
  have HH := Aside0.mk hb
  have HM : Aside0 (backM m k = ⟨k, m.dst, m.fr, m.ep, m.op, 0, false, backE b.e m.e.f0, [], [], 0, 0⟩) := ⟨by unfold backM; rw [hb]⟩
  obtain ⟨bn, bf, be, bl, br⟩ := b
  clear hb
  go_enter Tryd.func22, Tryd.ntmps22
  go_upto_region 1 with fail
  have e1 := (blk_cell D0.out 1).trans (show _ = some (Value.int .i64 m.fr) from rfl)
  have e2 := (blk_cell D0.out 2).trans (show _ = some (Value.int .i64 m.dst) from rfl)
  have e3 := (blk_cell D0.out 3).trans (show _ = some (Value.int .i64 m.ep) from rfl)
  have e4 := (blk_cell D0.out 4).trans (show _ = some (Value.int .i64 m.op) from rfl)
  go_upto_region 2 with fail
  generalize ((w.alloc (.cells (m.val p) 34)).alloc (.cells zMs 34)).alloc (.cells (bkC m k ⟨#[]⟩) 34) = W at *
  clear e1 e2 e3 e4 D0 HZ
  go_upto_if 29 with (go_at_call 23; (with_reducible refine (has_ _ _ HK.out).mono ?_); rw [HH.out, show hasR ⟨bn, bf, be, bl, br⟩ = .tuple #[.bool bn, .bool bf, .bool be, .bool bl, .bool br] from rfl]; rintro x w1 ⟨rfl, hb⟩; have HB1 := Aside0.mk (HB.out.trans (hb.mono HB.out.size)); have C0 := Aside0.mk ((hb.block _ (blk_lt B0.out)).trans B0.out); have C1 := Aside0.mk ((hb.block _ (blk_lt B1.out)).trans B1.out); have C2 := Aside0.mk ((hb.block _ (blk_lt B2.out)).trans B2.out); clear hb)
  clear B0 B1 B2
  cases be
  · go_wp2_with (first
      | (refine wpList_load_row rfl 34 (.tmp 5) rfl (w.heap.size + 1 + 1) rfl 34 (bkC m k ⟨#[]⟩) (0, 0) _ C2.out Tryd.underlying34 rfl (by kernel_rfl) ?_)
      | (refine wpList_store_row rfl 34 (.tmp 4) (.tmp 35) rfl (w.heap.size + 1) (bkC m k ⟨#[]⟩) rfl rfl 34 zMs C1.out (by kernel_rfl) rfl (bkC_one m k ⟨#[]⟩) ?_))
    refine bodyPost_ret (results_cell_row rfl _ _ (w.heap.size + 1) 34 _ (0, 0) _ rfl (setRow_heap _ _ _ _ _ _ C1.out) Tryd.underlying34 rfl (by kernel_rfl)) rfl ?_
    rw [HM.out]
    exact ⟨rfl, below_setRow HB1.out (Nat.le_succ _) _⟩
  · have e7 := (blk_cell C0.out 7).trans (show _ = some (Value.string m.e.f0) from rfl)
    have g7 := (blk_cell C2.out 7).trans (show _ = some (Value.string ⟨#[]⟩) from rfl)
    have f7 := blk_frozen C2.out 7
    have C3 : Aside0 ((w1.setCell ⟨w.heap.size + 1 + 1, 7, none⟩ (.string m.e.f0)).heap[w.heap.size + 1 + 1]? = some (.cells (bkC m k m.e.f0) 34 (0, 0))) := ⟨blk_set C2.out 7 (.string m.e.f0)⟩
    have C4 : Aside0 ((w1.setCell ⟨w.heap.size + 1 + 1, 7, none⟩ (.string m.e.f0)).heap[w.heap.size + 1]? = some (.cells zMs 34 (0, 0))) := ⟨(Below.heap_setCell _ _ _ _ (by show w.heap.size + 1 ≠ w.heap.size + 1 + 1; omega)).trans C1.out⟩
    have HB2 : Aside0 (Below w.heap.size w (w1.setCell ⟨w.heap.size + 1 + 1, 7, none⟩ (.string m.e.f0))) := ⟨below_set HB1.out (by omega)⟩
    go_wp2_with (first
      | (refine wpList_load_row rfl 34 (.tmp 5) rfl (w.heap.size + 1 + 1) rfl 34 (bkC m k m.e.f0) (0, 0) _ C3.out Tryd.underlying34 rfl (by kernel_rfl) ?_)
      | (refine wpList_store_row rfl 34 (.tmp 4) (.tmp 35) rfl (w.heap.size + 1) (bkC m k m.e.f0) rfl rfl 34 zMs C4.out (by kernel_rfl) rfl (bkC_one m k m.e.f0) ?_))
    refine bodyPost_ret (results_cell_row rfl _ _ (w.heap.size + 1) 34 _ (0, 0) _ rfl (setRow_heap _ _ _ _ _ _ C4.out) Tryd.underlying34 rfl (by kernel_rfl)) rfl ?_
    rw [HM.out]
    exact ⟨rfl, below_setRow HB2.out (Nat.le_succ _) _⟩
end Go.Proofs.YthaoiamgkpkcbaaDoor.Ms
