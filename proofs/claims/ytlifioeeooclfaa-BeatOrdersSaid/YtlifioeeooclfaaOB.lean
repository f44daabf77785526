/- The contract of beat.Order. Conditions: at most 20 nodes. · The contract of the reference's less: does a score stand ahead of another one. Conditions: numbers of 64 bits. · The contract of the reference's Order. Conditions: at most 20 nodes. -/
import Derived.Test.YtlifioeeooclfaaOA
namespace Go.Proofs.Ytlifioeeooclfaa.Rl
open Go.ChangeShapes Go.WideShapes Go.ChangeAt Go.RowKit Dbl
open Go.Proofs.YtlifioeeooclfaaW.PrintWords Go.Proofs.YtlifioeeooclfaaW.PrintLast Go.Proofs.YtlifioeeooclfaaW.PrintMore
set_option linter.unusedVariables false
/-- the scores, all without an error -/
def scs (now : Int) (l : List (Int × List Nat)) : List Nat := l.map fun p => (scoreR p.1 p.2 now).1
def allOk (now : Int) (l : List (Int × List Nat)) : Prop := ∀ p ∈ l, (scoreR p.1 p.2 now).2 = 0
theorem scs_take {now : Int} {l : List (Int × List Nat)} {k : Nat} (h : k < l.length) : scs now (l.take (k + 1)) = scs now (l.take k) ++ [(scoreR l[k].1 l[k].2 now).1] := by
  unfold scs
  rw [List.take_succ_eq_append_getElem h, List.map_append]; rfl
theorem allOk_take {now : Int} {l : List (Int × List Nat)} {k : Nat} (h : k < l.length) (ha : allOk now (l.take k)) (h0 : (scoreR l[k].1 l[k].2 now).2 = 0) : allOk now (l.take (k + 1)) := by
  intro p hp
  rw [List.take_succ_eq_append_getElem h, List.mem_append, List.mem_singleton] at hp
  rcases hp with hp | rfl
  · exact ha p hp
  · exact h0
theorem rangeI_succ (n : Nat) : rangeI (n + 1) = rangeI n ++ [(n : Int)] := by unfold rangeI; rw [List.range_succ, List.map_append]; rfl
/-- the first error -/
def firstErr (now : Int) : List (Int × List Nat) → Int
  | [] => 0
  | p :: t => if (scoreR p.1 p.2 now).2 = 0 then firstErr now t else (scoreR p.1 p.2 now).2
theorem firstErr_ok {now : Int} : ∀ {l : List (Int × List Nat)}, allOk now l → firstErr now l = 0
  | [], _ => rfl
  | p :: t, h => by
    unfold firstErr
    rw [if_pos (h p (List.mem_cons_self ..))]
    exact firstErr_ok fun q hq => h q (List.mem_cons_of_mem _ hq)
theorem firstErr_at {now e : Int} : ∀ {l : List (Int × List Nat)} {k : Nat} (hk : k < l.length), allOk now (l.take k) → (scoreR l[k].1 l[k].2 now).2 = e → e ≠ 0 → firstErr now l = e
  | p :: t, 0, _, _, h, h0 => by
    unfold firstErr
    have h : (scoreR p.1 p.2 now).2 = e := h
    rw [h, if_neg h0]
  | p :: t, k + 1, hk, ha, h, h0 => by
    unfold firstErr
    rw [if_pos (ha p (by simp))]
    exact firstErr_at (l := t) (k := k) (by simpa using hk) (fun q hq => ha q (by rw [List.take_succ_cons]; exact List.mem_cons_of_mem _ hq)) (by simpa using h) h0
def ordR (now : Int) (l : List (Int × List Nat)) : List Int := if firstErr now l = 0 then (ordN (scs now l) l.length).map (fun x : Nat => (x : Int)) else []
theorem infoI : (Try.prog.info? 3).map (fun i => (i.zero, i.size, i.bytes)) = some (some (.int .i64 0), 1, 8) := by kernel_rfl
theorem rangeI_len (n : Nat) : (rangeI n).length = n := by simp [rangeI]
theorem apart {α : Type} {d : Kd α} {e T : Nat} {w : World} {base bx : Nat} {ok : Nat → Prop} {v : Value} {xs : List α} {cs : Array Value} (h : d.R e w base ok v xs) (hx : w.heap[bx]? = some (.cells cs T (0, 0))) (hne : T ≠ e) : some bx ≠ v.ownBlock := by
  intro hk
  obtain ⟨cells, hc⟩ := own_typed (Kd.R_own h).choose_spec bx hk.symm
  rw [hx] at hc
  injection hc with hc
  injection hc with _ h2
  exact hne h2
theorem score_full {last : Int} {ts : List Nat} {now : Int} (h : (scoreR last ts now).2 = 0) : (scoreR last ts now).1 < full := by
  by_cases ho : okN last ts now
  · obtain ⟨s, hs, hl⟩ := score_low ho
    rw [hs]
    exact (low_word hl).2.2
  · rw [score_no ho] at h; cases h
theorem scs_full {now : Int} {l : List (Int × List Nat)} (h : allOk now l) : ∀ x ∈ scs now l, x < full := by
  intro x hx
  unfold scs at hx
  obtain ⟨p, hp, rfl⟩ := List.mem_map.1 hx
  exact score_full (h p hp)
set_option maxHeartbeats 8000000 in
set_option maxRecDepth 100000 in
theorem order_ {w : World} {A : Option Addr} {c : Nat} {l : List (Int × List Nat)} {now : Int} (h : Kd.C kBts w A l.length l) (hc : l.length ≤ c) (hw : ∀ p ∈ l, wBts p) (hn : l.length ≤ 20) :
    Calls Try.prog 27 #[.int .i64 now, .slice A l.length c] w fun e w' => ∃ v, e = .returned (.tuple #[v, .int .i64 (firstErr now l)]) ∧ Kd.R (Kd.int .i64) 3 w' w.heap.size (fun _ => True) v (ordR now l) ∧ Below w.heap.size w w' := by
  have HR := Aside0.mk h
  have HW := Aside0.mk hw
  have HB0 := Aside0.mk (below_alloc (Below.refl w.heap.size w) (.cells #[.slice none 0 0] 23))
  have HX0 := Aside0.mk (blk_new w (.cells #[.slice none 0 0] 23))
  have HO0 : Aside0 (∀ W : World, Kd.R (Kd.int .i64) 3 W w.heap.size (fun _ => True) (.slice none 0 0) (rangeI 0)) := ⟨fun W => Kd.R_nil _ _ _ _ _⟩
  have HS0 : Aside0 (∀ W : World, Kd.R Opn.flt 30 W w.heap.size (fun _ => True) (.slice none 0 0) ([] : List Nat)) := ⟨fun W => Kd.R_nil _ _ _ _ _⟩
  have HA0 : Aside0 (allOk now (l.take 0)) := ⟨by intro p hp; simp at hp⟩
  clear h hw
  go_enter Try.func27, Try.ntmps27
  go_wp2_with fail
  go_loopg [7, 14] l.length (fun q v7 v14 w' => ∃ (k n : Nat) (B : Option Addr) (d : Nat), k ≤ l.length ∧ v14 = .int .i64 k ∧ q = l.length - k ∧ Aside0 (Kd.R (Kd.int .i64) 3 w' w.heap.size (fun _ => True) v7 (rangeI k)) ∧ Aside0 (w'.heap[w.heap.size]? = some (.cells #[.slice B n d] 23 (0, 0))) ∧ Aside0 (Kd.R Opn.flt 30 w' w.heap.size (fun _ => True) (.slice B n d) (scs now (l.take k))) ∧ Aside0 (allOk now (l.take k)) ∧ Aside0 (Below w.heap.size w w') ∧ Aside0 (k = 0 → v7 = .slice none 0 0))
  case atStart => exact ⟨0, 0, none, 0, Nat.zero_le _, rfl, rfl, ⟨HO0.out _⟩, HX0, ⟨HS0.out _⟩, HA0, HB0, ⟨fun _ => rfl⟩⟩
  case round =>
    obtain ⟨k, n, B, d, hk, rfl, rfl, HO, HX, HS, HA, HBr, HZ⟩ := hrel
    obtain ⟨Ao, co, eo⟩ := Kd.R_slice HO.out
    have hrl : (rangeI k).length = k := by simp [rangeI]
    rw [hrl] at eo
    subst eo
    by_cases hlt : k < l.length
    · obtain ⟨bb, off, E, ce, hAd, z0, z1, ht⟩ := beats_blk (Kd.C_below HR.out HBr.out) k hlt (HW.out _ (List.getElem_mem hlt)) (HW.out _ (List.getElem_mem _))
      subst hAd
      have x0 : wr.cell? ⟨w.heap.size, 0, none⟩ = some (.slice B n d) := (blk_cell HX.out 0).trans rfl
      obtain ⟨last, hla⟩ : ∃ a, l[k].1 = a := ⟨_, rfl⟩
      obtain ⟨ts, hts⟩ : ∃ a, l[k].2 = a := ⟨_, rfl⟩
      obtain ⟨s, hs⟩ : ∃ a, (scoreR last ts now).1 = a := ⟨_, rfl⟩
      obtain ⟨e, he⟩ : ∃ a, (scoreR last ts now).2 = a := ⟨_, rfl⟩
      have HP : Aside0 (scoreR last ts now = (s, e)) := ⟨by rw [← hs, ← he]⟩
      have HT1 := Aside0.mk (scs_take (now := now) hlt)
      have HT2 := Aside0.mk (allOk_take (now := now) hlt HA.out)
      have HFe := Aside0.mk (firstErr_at (now := now) (e := e) hlt HA.out)
      rw [hla, hts] at HT1 HT2 HFe
      rw [hla] at z0
      rw [hts] at z1 ht
      have HE := Aside0.mk ht
      have t1 : decide ((k : Int) < (l.length : Int)) = true := decide_eq_true (by omega)
      have i0 : (0 : Int) ≤ (k : Int) := by omega
      have i1 : (k : Int) < (l.length : Int) := by omega
      obtain ⟨m, hm⟩ : ∃ m, ts.length = m := ⟨_, rfl⟩
      rw [hm] at z1
      have HM := Lib.hid hm
      clear hla hts hs he ht hm hrl
      go_wp2_with fail
      (with_reducible refine (score_n HM.out HP.out (HE.out.alloc _)).mono ?_)
      rintro x w3 ⟨rfl, hb⟩
      have hb' := below_then (below_alloc (Below.refl wr.heap.size wr) (.cells #[.int .i64 last, .slice E m ce] 25)) (by simp) hb
      have HO3 := Aside0.mk (Kd.R_below HO.out hb')
      have HX3 := Aside0.mk (blk_below HX.out hb')
      have HS3 := Aside0.mk (Kd.R_below HS.out hb')
      have HB3 := Aside0.mk (below_then HBr.out HBr.out.size hb')
      have hx3 := blk_lt HX3.out
      have y0 : w3.cell? ⟨w.heap.size, 0, none⟩ = some (.slice B n d) := (blk_cell HX3.out 0).trans rfl
      clear hb hb' HO HX HS x0 z0 z1
      by_cases h0 : e = 0
      · subst h0
        have HA1 := Aside0.mk (HT2.out (by rw [HP.out]))
        rw [HP.out] at HT1
        have hsl : (scs now (l.take k)).length ≤ 20 := by unfold scs; rw [List.length_map, List.length_take]; omega
        go_wp2_with (first
          | ((with_reducible refine gate_builtin (b := .append) (xs := #[.tmp 28, .tmp 30]) rfl ?_); at_builtin; refine Kd.R_append Opn.flt (w0 := w) w.heap.size rfl (.tmp 28) (.tmp 30) 23 30 (.float .f64 0) 8 rfl Try.underlying23 info30 rfl (by decide) (by omega) _ _ s [.float .f64 s] (fun _ => True) (fun _ => False) rfl rfl rfl (fun _ hk => hk.elim) (fun _ _ => trivial) HS3.out HB3.out HB3.out.size ?aL ?_; (case aL => omega); intro v4 w4 ho hb hg hat; obtain ⟨B4, d4, e4⟩ := Kd.R_slice ho; subst e4; have HS4 := Aside0.mk ho; have HB4 := Aside0.mk hb; have HO4 := Aside0.mk (Kd.R_over HO3.out HS3.out (by intro q hq; simp [Kd.int, Kd.scalar] at hq; omega) hg); have HX4 := Aside0.mk ((hg.block _ hx3 (apart HS3.out HX3.out (by decide))).trans HX3.out); have hx4 := blk_lt HX4.out; clear ho hb hg hat)
          | ((with_reducible refine gate_builtin (b := .append) (xs := #[.tmp 32, .tmp 34]) rfl ?_); at_builtin; refine Kd.R_append (Kd.int .i64) (w0 := w) w.heap.size rfl (.tmp 32) (.tmp 34) 37 3 (.int .i64 0) 8 rfl Try.underlying37 infoI rfl (by decide) (by omega) _ _ (k : Int) [.int .i64 (k : Int)] (fun _ => True) (fun _ => False) rfl rfl rfl (fun _ hk => hk.elim) (fun _ _ => trivial) HO4.out HB4.out HB4.out.size ?aL ?_; (case aL => rw [rangeI_len]; omega); intro v5 w5 ho hb hg hat; obtain ⟨B5, d5, e5⟩ := Kd.R_slice ho; subst e5; have HO5 := Aside0.mk ho; have HB5 := Aside0.mk hb; have HS5 := Aside0.mk (Kd.R_over HS4.out HO4.out (by intro q hq; simp [Opn.flt, Kd.scalar] at hq; omega) hg); have HX5 := Aside0.mk ((hg.block _ hx4 (apart HO4.out HX4.out (by decide))).trans HX4.out); have y5 := blk_frozen HX5.out 0; have y6 : w5.cell? ⟨w.heap.size, 0, none⟩ = some (.slice B n d) := (blk_cell HX5.out 0).trans rfl; clear ho hb hg hat))
        go_roundg (l.length - (k + 1))
        case measure => omega
        case rel => exact ⟨k + 1, _, _, _, hlt, by go_num, rfl, ⟨by rw [rangeI_succ]; have z := Kd.R_set HO5.out HX5.out (by intro q hq; simp [Kd.int, Kd.scalar] at hq; omega) 0 (.slice B4 ((scs now (List.take k l)).length + 1) d4); rw [List.length_append] at z; exact z⟩, ⟨blk_set HX5.out 0 _⟩, ⟨by rw [HT1.out]; have z := Kd.R_set HS5.out HX5.out (by intro q hq; simp [Opn.flt, Kd.scalar] at hq; omega) 0 (.slice B4 ((scs now (List.take k l)).length + 1) d4); rw [List.length_append] at z; exact z⟩, HA1, ⟨HB5.out.setCell (Nat.le_refl _) _⟩, ⟨fun h => absurd h (by omega)⟩⟩
      · have HFe := Aside0.mk (HFe.out (by rw [HP.out]) h0)
        have t2 : (e != 0) = true := by simpa using h0
        go_wp2_with fail
        go_ret2
        refine ⟨.slice none 0 0, ?_, ?_, HB3.out⟩
        · rw [HFe.out]; rfl
        · unfold ordR
          rw [HFe.out, if_neg h0]
          exact Kd.R_nil _ _ _ _ _
    · obtain rfl : k = l.length := by omega
      have t1 : decide ((l.length : Int) < (l.length : Int)) = false := decide_eq_false (by omega)
      have HA2 : Aside0 (allOk now l) := ⟨by have := HA.out; rwa [List.take_length] at this⟩
      have HFo := Aside0.mk (firstErr_ok HA2.out)
      go_wp2_with fail
      have hsc : (scs now (l.take l.length)).length = l.length := by unfold scs; rw [List.length_map, List.take_length]
      have hHO := HO.out
      have hHS := HS.out
      obtain ⟨rfl, hcap, hrd⟩ := Kd.R_reads' hHS
      rcases Nat.eq_zero_or_pos l.length with hl0 | hl0
      · have hk0 : Ao = none ∧ co = 0 := by
          have := HZ.out hl0
          injection this with h1 _ h3
          exact ⟨h1, h3⟩
        obtain ⟨rfl, rfl⟩ := hk0
        rw [hl0]
        (with_reducible refine (sort0_ _ _).mono ?_)
        rintro x w5 ⟨rfl, rfl⟩
        go_wp2_with fail
        go_ret2
        refine ⟨.slice none 0 0, ?_, ?_, HBr.out⟩
        · rw [HFo.out]; rfl
        · have hln : l = [] := List.length_eq_zero_iff.1 hl0
          unfold ordR
          rw [if_pos HFo.out, hl0]
          exact Kd.R_nil _ _ _ _ _
      · have hlen : (scs now l).length = l.length := by unfold scs; rw [List.length_map]
        have hful := scs_full HA2.out
        obtain ⟨M, hM⟩ : ∃ M, l.length = M + 1 := ⟨l.length - 1, by omega⟩
        obtain ⟨g, cap, eo, hg1, hg2, cells, hcl⟩ := Kd.R_form hHO (by rw [rangeI_len]; exact hl0)
        obtain ⟨g2, cap2, es, _, _, cells2, hcl2⟩ := Kd.R_form hHS (by rw [hsc]; exact hl0)
        injection eo with eo1 _ eo3
        injection es with es1 _ es3
        subst eo1 es1
        obtain rfl := eo3
        obtain rfl := es3
        have hx := HX.out
        have hap := apart hHO hx (by decide)
        have hgg : g2 ≠ g := by
          rintro rfl
          rw [hcl] at hcl2
          simp at hcl2
        have hne : w.heap.size ≠ g := by rintro e; exact hap (by rw [e]; rfl)
        rw [List.take_length] at hHS hx hrd hcap hsc
        have hc0 : wr.cell? ⟨w.heap.size, 0, none⟩ = some (.slice (some ⟨g2, 0, none⟩) (scs now l).length d) := (blk_cell hx 0).trans rfl
        have hbt : Bt wr (some ⟨g2, 0, none⟩) d (scs now l) := ⟨hrd, hcap, by rw [hlen]; omega, hful⟩
        have hF := ordF_eq M (scs now l)
        rw [hM] at hHO ⊢
        have hS := order_sort (M := M) (by omega) (w := wr) (base := w.heap.size) (g := g) (cap := co) (bx := w.heap.size) (sc := scs now l) (by rw [hlen, hM]) hHO hc0 hbt hne (by intro a ha; injection ha with ha; subst ha; exact hgg)
        have HF := Aside0.mk hF
        have HM := Aside0.mk hM
        have HG := Aside0.mk hg1
        clear hF hM hHO hHS hx hrd hcap hsc hbt hc0 hcl hcl2 hap hgg hne hful hlen HS HX HO HZ HA hg1 hg2 t1
        (with_reducible refine hS.mono ?_)
        rintro x w5 ⟨rfl, hR5, hgr⟩
        have HR5 := Aside0.mk hR5
        have HGr := Aside0.mk hgr
        clear hR5 hgr hS
        go_wp2_with fail
        go_ret2
        refine ⟨.slice (some ⟨g, 0, none⟩) (M + 1) co, ?_, ?_, ?_⟩
        · rw [HFo.out]; rfl
        · unfold ordR
          rw [if_pos HFo.out, HM.out, ← HF.out]
          exact HR5.out
        · exact pw_below_grown HBr.out _ HBr.out.size HGr.out (by intro k hk; injection hk with hk; rw [← hk]; exact HG.out)
end Go.Proofs.Ytlifioeeooclfaa.Rl
namespace Go.Proofs.Ytlifioeeooclfaa.Rl
open Go.ChangeShapes Go.WideShapes Go.ChangeAt Go.RowKit Dbl
open Go.Proofs.YtlifioeeooclfaaW.PrintWords Go.Proofs.YtlifioeeooclfaaW.PrintLast Go.Proofs.YtlifioeeooclfaaW.PrintMore
set_option linter.unusedVariables false
theorem less_ (a b : Nat) (ha : a < full) (hb : b < full) (w : World) :
    Calls Try.prog 48 #[.float .f64 a, .float .f64 b] w fun e w' => e = .returned (.bool (decide (0 < cmpU a b))) ∧ w = w' := by
  have h13 := c13
  have K := rcompare (a : Int) (b : Int) (wd_nat ha) (wd_nat hb) w
  rw [Int.toNat_natCast, Int.toNat_natCast] at K
  have K := Lib.hid K
  go_enter Try.func48, Try.ntmps48
  go_wp2_with (go_at_call 26; (with_reducible refine K.out.mono ?_); rintro e w' ⟨rfl, rfl⟩)
  go_ret
  exact ⟨rfl, rfl⟩
end Go.Proofs.Ytlifioeeooclfaa.Rl
namespace Go.Proofs.Ytlifioeeooclfaa.Rl
open Go.ChangeShapes Go.WideShapes Go.ChangeAt Go.RowKit Dbl
open Go.Proofs.YtlifioeeooclfaaW.PrintWords Go.Proofs.YtlifioeeooclfaaW.PrintLast Go.Proofs.YtlifioeeooclfaaW.PrintMore
set_option linter.unusedVariables false
set_option linter.unusedSimpArgs false
def castN (l : List Nat) : List Int := l.map fun x : Nat => (x : Int)
theorem castN_len (l : List Nat) : (castN l).length = l.length := by unfold castN; simp
theorem scs_len (now : Int) (l : List (Int × List Nat)) : (scs now l).length = l.length := by unfold scs; simp
theorem scs_at (now : Int) (l : List (Int × List Nat)) (k : Nat) (h : k < l.length) : (scs now l).getD k 0 = (scoreR l[k].1 l[k].2 now).1 := by
  unfold scs; rw [List.getD_eq_getElem?_getD, List.getElem?_map, List.getElem?_eq_getElem h]; rfl
theorem ltN_pos (sc : List Nat) (x y : Nat) : ltN sc x y = decide (0 < cmpU (sc.getD x 0) (sc.getD y 0)) := by
  unfold ltN
  rw [decide_eq_decide]
  unfold cmpU
  constructor
  · intro h
    split at h <;> rename_i h1
    · rw [if_neg (by omega), if_pos (by omega)]; decide
    · split at h <;> omega
  · intro h
    split at h <;> rename_i h1
    · omega
    · split at h
      · rename_i h2; rw [if_pos (by omega)]; decide
      · omega
/-- the place of k is j, from the end on -/
def Past (sc : List Nat) (k j : Nat) : Prop := ∀ i (h : i < (ordN sc k).length), j ≤ i → ltN sc k (ordN sc k)[i] = true
theorem past_end (sc : List Nat) (k : Nat) : Past sc k k := fun i h hj => by rw [ordN_len] at h; omega
theorem past_down {sc : List Nat} {k j : Nat} (h : Past sc k j) (h0 : 0 < j) (hj : j - 1 < (ordN sc k).length) (hl : ltN sc k (ordN sc k)[j - 1] = true) : Past sc k (j - 1) := by
  intro i hi hji
  by_cases e : i = j - 1
  · subst e; exact hl
  · exact h i hi (by omega)
theorem past_place {sc : List Nat} {k j : Nat} (hj : j ≤ k) (h : Past sc k j) (h2 : j = 0 ∨ ∃ h : j - 1 < (ordN sc k).length, 0 < j ∧ ltN sc k (ordN sc k)[j - 1] = false) :
    castN (ordN sc (k + 1)) = (castN (ordN sc k)).take j ++ [(k : Int)] ++ (castN (ordN sc k)).drop j := by
  rw [ordN_succ, insR_at (ltN sc) k (ordN sc k) j (by rw [ordN_len]; exact hj) (fun i hi hji => h i hi hji) h2]
  unfold castN
  simp [List.map_take, List.map_drop]
theorem less_r {a b : Nat} {r : Bool} (ha : a < full) (hb : b < full) (hr : decide (0 < cmpU a b) = r) (w : World) :
    Calls Try.prog 48 #[.float .f64 a, .float .f64 b] w fun e w' => e = .returned (.bool r) ∧ w = w' := by
  subst hr; exact less_ a b ha hb w
theorem scs_take_full {now : Int} {l : List (Int × List Nat)} {k : Nat} (h : allOk now (l.take k)) (x : Nat) (hx : x < (scs now (l.take k)).length) : (scs now (l.take k))[x] < full := scs_full h _ (List.getElem_mem hx)
theorem scs_take_at (now : Int) (l : List (Int × List Nat)) (k x : Nat) (hx : x < k) (h : x < (scs now (l.take k)).length) : (scs now l).getD x 0 = (scs now (l.take k))[x] := by
  have h2 : x < l.length := by rw [scs_len, List.length_take] at h; omega
  rw [scs_at now l x h2]
  unfold scs
  simp
theorem C_takeF {α : Type} {enc : α → Value} {h1 : ∀ x, (enc x).oneCell' = true} {w : World} {A : Option Addr} {xs : List α} (h : (Kd.scalar enc h1).C w A xs.length xs) (k : Nat) (hk : k ≤ xs.length) :
    (Kd.scalar enc h1).C w A k (xs.take k) := by
  have hl : (xs.take k).length = k := by rw [List.length_take]; omega
  rcases Nat.eq_zero_or_pos k with h0 | h0
  · subst h0; exact ⟨hl, by omega, fun h => absurd h (Nat.lt_irrefl 0)⟩
  · obtain ⟨b, off, rfl, hc⟩ := Hlp.C_block h (by omega)
    have := Hlp.C_mk (enc := enc) (h1 := h1) (w := w) (b := b) (off := off) (xs := xs.take k) (by have := h.2.1; omega) (fun j hj => by rw [hl] at hj; rw [hc j (by omega), List.getElem_take])
    rw [hl] at this
    exact this
theorem C_dropF {α : Type} {enc : α → Value} {h1 : ∀ x, (enc x).oneCell' = true} {w : World} {b off n : Nat} {xs : List α} (h : (Kd.scalar enc h1).C w (some ⟨b, off, none⟩) xs.length xs) (k : Nat) (hn : xs.length = n) (hk : k ≤ n) :
    (Kd.scalar enc h1).C w (some ⟨b, off + k, none⟩) (n - k) (xs.drop k) := by
  have := Hlp.C_drop h k (by omega)
  rw [List.length_drop, hn] at this
  exact this
set_option maxHeartbeats 8000000 in
set_option maxRecDepth 100000 in
theorem rorder_ {w : World} {A : Option Addr} {c : Nat} {l : List (Int × List Nat)} {now : Int} (h : Kd.C kBts w A l.length l) (hc : l.length ≤ c) (hw : ∀ p ∈ l, wBts p) (hn : l.length ≤ 20) :
    Calls Try.prog 28 #[.int .i64 now, .slice A l.length c] w fun e w' => ∃ v, e = .returned (.tuple #[v, .int .i64 (firstErr now l)]) ∧ Kd.R (Kd.int .i64) 3 w' w.heap.size (fun _ => True) v (ordR now l) ∧ Below w.heap.size w w' := by
  have HR := Aside0.mk h
  have HW := Aside0.mk hw
  have HO0 : Aside0 (∀ W : World, Kd.R (Kd.int .i64) 3 W w.heap.size (fun _ => True) (.slice none 0 0) (castN (ordN (scs now l) 0))) := ⟨fun W => Kd.R_nil _ _ _ _ _⟩
  have HS0 : Aside0 (∀ W : World, Kd.R Opn.flt 30 W w.heap.size (fun _ => True) (.slice none 0 0) ([] : List Nat)) := ⟨fun W => Kd.R_nil _ _ _ _ _⟩
  have HA0 : Aside0 (allOk now (l.take 0)) := ⟨by intro p hp; simp at hp⟩
  have HF := Aside0.mk (@scs_full now l)
  have hsl := Lib.hid (scs_len now l)
  clear h hw
  go_enter Try.func28, Try.ntmps28
  go_wp2_with fail
  go_loopg [6, 7, 8] l.length (fun q v6 v7 v8 w' => ∃ (k : Nat), k ≤ l.length ∧ v8 = .int .i64 k ∧ q = l.length - k ∧ Aside0 (Kd.R (Kd.int .i64) 3 w' w.heap.size (fun _ => True) v6 (castN (ordN (scs now l) k))) ∧ Aside0 (Kd.R Opn.flt 30 w' w.heap.size (fun _ => True) v7 (scs now (l.take k))) ∧ Aside0 (allOk now (l.take k)) ∧ Aside0 (Below w.heap.size w w') ∧ Aside0 (k = 0 → v6 = .slice none 0 0))
  case atStart => exact ⟨0, Nat.zero_le _, rfl, rfl, ⟨HO0.out _⟩, ⟨HS0.out _⟩, HA0, ⟨Below.refl _ _⟩, ⟨fun _ => rfl⟩⟩
  case round =>
    obtain ⟨k, hk, rfl, rfl, HO, HS, HA, HBr, HZ⟩ := hrel
    obtain ⟨Ao, co, eo⟩ := Kd.R_slice HO.out
    obtain ⟨As, cs, es⟩ := Kd.R_slice HS.out
    rw [castN_len, ordN_len] at eo
    have hskl : (scs now (l.take k)).length = k := by rw [scs_len, List.length_take]; omega
    rw [hskl] at es
    subst eo es
    by_cases hlt : k < l.length
    · obtain ⟨bb, off, E, ce, hAd, z0, z1, ht⟩ := beats_blk (Kd.C_below HR.out HBr.out) k hlt (HW.out _ (List.getElem_mem hlt)) (HW.out _ (List.getElem_mem _))
      subst hAd
      obtain ⟨last, hla⟩ : ∃ a, l[k].1 = a := ⟨_, rfl⟩
      obtain ⟨ts, hts⟩ : ∃ a, l[k].2 = a := ⟨_, rfl⟩
      obtain ⟨s, hs⟩ : ∃ a, (scoreR last ts now).1 = a := ⟨_, rfl⟩
      obtain ⟨e, he⟩ : ∃ a, (scoreR last ts now).2 = a := ⟨_, rfl⟩
      have HP : Aside0 (scoreR last ts now = (s, e)) := ⟨by rw [← hs, ← he]⟩
      have HT1 := Aside0.mk (scs_take (now := now) hlt)
      have HT2 := Aside0.mk (allOk_take (now := now) hlt HA.out)
      have HFe := Aside0.mk (firstErr_at (now := now) (e := e) hlt HA.out)
      have HAt := Aside0.mk (scs_at now l k hlt)
      rw [hla, hts] at HT1 HT2 HFe HAt
      rw [hs] at HAt
      rw [hla] at z0
      rw [hts] at z1 ht
      have HE := Aside0.mk ht
      have t1 : decide ((k : Int) < (l.length : Int)) = true := decide_eq_true (by omega)
      have i0 : (0 : Int) ≤ (k : Int) := by omega
      have i1 : (k : Int) < (l.length : Int) := by omega
      obtain ⟨m, hm⟩ : ∃ m, ts.length = m := ⟨_, rfl⟩
      rw [hm] at z1
      have HM := Lib.hid hm
      have HSK := Lib.hid hskl
      clear hla hts hs he ht hm hskl
      go_wp2_with fail
      (with_reducible refine (rscore_n HM.out HP.out HE.out).mono ?_)
      rintro x w3 ⟨rfl, hb⟩
      have HO3 := Aside0.mk (Kd.R_below HO.out hb)
      have HS3 := Aside0.mk (Kd.R_below HS.out hb)
      have HB3 := Aside0.mk (below_then HBr.out HBr.out.size hb)
      clear hb HO HS z0 z1
      by_cases h0 : e = 0
      · subst h0
        have HA1 := Aside0.mk (HT2.out (by rw [HP.out]))
        rw [HP.out] at HT1
        have HsF : Aside0 (s < full) := ⟨by have := score_full (last := last) (ts := ts) (now := now) (by rw [HP.out]); rw [HP.out] at this; exact this⟩
        go_wp2_with fail
        by_cases hk0 : k = 0
        · obtain ⟨rfl, rfl⟩ : Ao = none ∧ co = 0 := by
            have := HZ.out hk0
            injection this with h1 _ h3
            exact ⟨h1, h3⟩
          subst hk0
          have HPl : Aside0 (([] : List Int) ++ [((0 : Nat) : Int)] ++ [] = castN (ordN (scs now l) (0 + 1))) := ⟨by rw [past_place (sc := scs now l) (Nat.le_refl 0) (past_end _ _) (.inl rfl)]; rfl⟩
          have Htl : Hid (([] : List Int).length = 0) := Lib.hid rfl
          have HC1 : Aside0 (Kd.C (Kd.int .i64) w3 none 0 []) := ⟨Hlp.C_empty⟩
          have HC2 : Aside0 (Kd.C (Kd.int .i64) w3 none 0 []) := ⟨Hlp.C_empty⟩
          go_loop [11] (fun v => v = .int .i64 0) (fun v => (intOf v).toNat)
          case atStart => rfl
          case round =>
            subst hrel
            go_wp2_with (first
              | (go_at_call 48; (with_reducible refine K.out.mono ?_); rintro e w' ⟨rfl, rfl⟩)
              | ((with_reducible refine gate_builtin (b := .append) (xs := #[.tmp 54, .tmp 56]) rfl ?_); at_builtin; refine Kd.R_append (Kd.int .i64) (w0 := w3) w3.heap.size rfl (.tmp 54) (.tmp 56) 37 3 (.int .i64 0) 8 rfl Try.underlying37 infoI rfl (by decide) (by omega) _ _ ((0 : Nat) : Int) [.int .i64 ((0 : Nat) : Int)] (fun _ => True) (fun _ => False) rfl rfl rfl (fun _ hk => hk.elim) (fun _ _ => trivial) (Kd.R_nil _ _ _ _ _) (Below.refl _ _) (Nat.le_refl _) ?aL ?_; (case aL => simp); intro v5 w5 ho hb hg hat; obtain ⟨B5, d5, e5⟩ := Kd.R_slice ho; subst e5;  have HN5 := Aside0.mk ho; have HB5 := Aside0.mk hb; clear ho hb hg hat)
              | ((with_reducible refine gate_builtin (b := .append) (xs := #[.tmp 54, .tmp 56]) rfl ?_); at_builtin; refine Kd.R_append (Kd.int .i64) (w0 := w3) w3.heap.size rfl (.tmp 54) (.tmp 56) 37 3 (.int .i64 0) 8 rfl Try.underlying37 infoI rfl (by decide) (by omega) _ _ ((0 : Nat) : Int) [.int .i64 ((0 : Nat) : Int)] (fun _ => True) (fun _ => False) rfl rfl rfl (fun _ hk => hk.elim) (fun _ _ => trivial) (Kd.R_nil _ _ _ _ _) (Below.refl _ _) (Nat.le_refl _) ?aL ?_; (case aL => simp); intro v5 w5 ho hb hg hat; obtain ⟨B5, d5, e5⟩ := Kd.R_slice ho; subst e5;  have HN5 := Aside0.mk ho; have HB5 := Aside0.mk hb; clear ho hb hg hat)
              | ((with_reducible refine gate_builtin (b := .append) (xs := #[.tmp 58, .tmp 61]) rfl ?_); at_builtin; refine Kd.R_append_rows (Kd.int .i64) (w0 := w3) w3.heap.size rfl (.tmp 58) (.tmp 61) 37 3 (.int .i64 0) 8 rfl Try.underlying37 infoI rfl (by decide) (by omega) _ _ _ _ _ _ (fun _ => True) (fun _ => False) rfl rfl HN5.out (Kd.C_below HC2.out HB5.out) (fun _ _ h => h) (fun _ h => h.elim) (fun _ _ => trivial) HB5.out HB5.out.size ?aL ?_; (case aL => rw [List.length_append, Htl.out, List.length_singleton]; omega); intro v6 w6 ho hb hg hat; rw [HPl.out] at ho; obtain ⟨B6, d6, e6⟩ := Kd.R_slice ho; subst e6; rw [castN_len, ordN_len] at ho ⊢; have HN6 := Aside0.mk (Kd.R_lower ho HB3.out.size); have HB6 := Aside0.mk (below_then HB3.out HB3.out.size hb); have HS6 := Aside0.mk (Kd.R_below HS3.out hb); clear ho hb hg hat)
              | ((with_reducible refine gate_builtin (b := .append) (xs := #[.tmp 64, .tmp 66]) rfl ?_); at_builtin; refine Kd.R_append Opn.flt (w0 := w) w.heap.size rfl (.tmp 64) (.tmp 66) 23 30 (.float .f64 0) 8 rfl Try.underlying23 info30 rfl (by decide) (by omega) _ _ s [.float .f64 s] (fun _ => True) (fun _ => False) rfl rfl rfl (fun _ hk => hk.elim) (fun _ _ => trivial) HS6.out HB6.out HB6.out.size ?aL ?_; (case aL => rw [HSK.out]; omega); intro v7 w7 ho hb hg hat; have HS7 := Aside0.mk (show Kd.R Opn.flt 30 w7 w.heap.size (fun _ => True) v7 (scs now (List.take (0 + 1) l)) from by rw [HT1.out]; exact ho); have HB7 := Aside0.mk hb; have HN7 := Aside0.mk (Kd.R_over HN6.out HS6.out (by intro q hq; simp [Kd.int, Kd.scalar] at hq; omega) hg); clear ho hb hg hat))
            go_roundg (l.length - (0 + 1))
            case measure => omega
            case rel => exact ⟨0 + 1, hlt, by go_num, rfl, HN7, HS7, HA1, HB7, ⟨fun h => absurd h (by omega)⟩⟩
        · obtain ⟨g, co', eo, hg1, hg2, cells, hcl⟩ := Kd.R_form HO3.out (by rw [castN_len, ordN_len]; omega)
          injection eo with eo1 eo2 eo3
          clear eo2
          subst eo1
          obtain rfl := eo3
          obtain ⟨hO1, hO2, hO3⟩ := Kd.R_reads' HO3.out
          obtain ⟨hS1, hS2, hS3⟩ := Kd.R_reads' HS3.out
          obtain ⟨P, hP⟩ : ∃ P, castN (ordN (scs now l) k) = P := ⟨_, rfl⟩
          rw [hP] at hO1 hO3
          obtain ⟨g9, o9, eg9, hcO⟩ := Hlp.C_block hO3 (by omega)
          injection eg9 with eg9
          injection eg9 with eg9 eo9 sp9
          clear sp9
          subst eg9 eo9
          obtain ⟨bS, oS, rfl, hcS⟩ := Hlp.C_block hS3 (by omega)
          have HcO := Aside0.mk hcO
          have HcS := Aside0.mk hcS
          have HCO := Aside0.mk hO3
          have HPe := Aside0.mk hP
          have HO1 := Aside0.mk hO1
          have HcoB : Aside0 (k ≤ co ∧ 0 < k) := ⟨hO2, by omega⟩
          have HS1 := Aside0.mk hS1
          clear hO1 hO2 hO3 hS1 hS2 hS3 hcO hcS hP hcl
          go_loop [11] (fun v => ∃ j : Nat, j ≤ k ∧ v = .int .i64 j ∧ Aside0 (Past (scs now l) k j)) (fun v => (intOf v).toNat)
          case atStart => exact ⟨k, Nat.le_refl _, rfl, ⟨past_end _ _⟩⟩
          case round =>
            obtain ⟨j, hj, rfl, HPa⟩ := hrel
            have hcob := HcoB.out
            have b1 : (j : Int) ≤ (co : Int) := by omega
            have b2 : (j : Int) ≤ (k : Int) := by omega
            have b0 : (0 : Int) ≤ (j : Int) := by omega
            have hPk : P.length = k := HO1.out.symm
            have Htl := Lib.hid (show (P.take j).length = j by rw [List.length_take]; omega)
            have HC1 := Aside0.mk (C_takeF HCO.out j (by omega))
            have HC2 := Aside0.mk (C_dropF HCO.out j hPk hj)
            have HC3 : Aside0 (co = j → Kd.C (Kd.int .i64) w3 (some ⟨g, 0, none⟩) (k - j) (P.drop j)) := ⟨fun e => by
              have e2 : k - j = 0 := by omega
              rw [e2, List.drop_eq_nil_of_le (by omega)]
              exact ⟨rfl, by simp, fun h => absurd h (Nat.lt_irrefl 0)⟩⟩
            have HPk := Lib.hid hPk
            clear hPk hcob
            by_cases hj0 : 0 < j
            · obtain ⟨i, rfl⟩ : ∃ i, j = i + 1 := ⟨j - 1, by omega⟩
              have hjl : i < (ordN (scs now l) k).length := by rw [ordN_len]; omega
              obtain ⟨x, hx⟩ : ∃ x, (ordN (scs now l) k)[i] = x := ⟨_, rfl⟩
              have hxk : x < k := by rw [← hx]; exact ordN_lt _ _ _ (List.getElem_mem hjl)
              obtain ⟨y, hy⟩ : ∃ y, (scs now (l.take k))[x]'(by rw [HSK.out]; exact hxk) = y := ⟨_, rfl⟩
              have c1 := HcO.out i (by rw [HPk.out]; omega)
              have c2 := HcS.out x (by rw [HSK.out]; exact hxk)
              have hPx : P[i]'(by rw [HPk.out]; omega) = (((ordN (scs now l) k)[i] : Nat) : Int) := by simp only [← HPe.out, castN, List.getElem_map]
              rw [hPx, hx, Nat.zero_add] at c1
              rw [hy] at c2
              have hyF : y < full := by rw [← hy]; exact scs_take_full HA.out x _
              have hyE : (scs now l).getD x 0 = y := by rw [← hy]; exact scs_take_at now l k x hxk _
              have HL : Aside0 (ltN (scs now l) k (ordN (scs now l) k)[i] = decide (0 < cmpU s y)) := ⟨by rw [hx, ltN_pos, HAt.out, hyE]⟩
              obtain ⟨r, hr⟩ : ∃ r, decide (0 < cmpU s y) = r := ⟨_, rfl⟩
              have K := Lib.hid (less_r HsF.out hyF hr w3)
              rw [hr] at HL
              have x0 : (0 : Int) ≤ (x : Int) := by omega
              have x1 : (x : Int) < (k : Int) := by omega
              have i3 : (i : Int) < (k : Int) := by omega
              have i4 : (0 : Int) ≤ (i : Int) := by omega
              have t5 : decide (0 < i + 1) = true := decide_eq_true (by omega)
              clear hx hy hyE hr hyF hPx
              cases r
              · have HPl : Aside0 (P.take (i + 1) ++ [(k : Int)] ++ P.drop (i + 1) = castN (ordN (scs now l) (k + 1))) := ⟨by rw [← HPe.out]; exact (past_place hj HPa.out (.inr ⟨hjl, by omega, HL.out⟩)).symm⟩
                by_cases hco : co = i + 1
                · have HC2 := Aside0.mk (HC3.out hco)
                  subst hco
                  go_wp2_with (first
                    | (go_at_call 48; (with_reducible refine K.out.mono ?_); rintro e w' ⟨rfl, rfl⟩)
                    | ((with_reducible refine gate_builtin (b := .append) (xs := #[.tmp 49, .tmp 52]) rfl ?_); at_builtin; refine Kd.R_append_rows (Kd.int .i64) (w0 := w3) w3.heap.size rfl (.tmp 49) (.tmp 52) 37 3 (.int .i64 0) 8 rfl Try.underlying37 infoI rfl (by decide) (by omega) (.slice none 0 0) [] _ _ _ _ (fun _ => True) (fun _ => False) rfl rfl (Kd.R_nil _ _ _ _ _) HC1.out (fun _ _ h => h) (fun _ h => h.elim) (fun _ _ => trivial) (Below.refl _ _) (Nat.le_refl _) ?aL ?_; (case aL => simp; omega); intro v4 w4 ho hb hg hat; rw [List.nil_append] at ho; obtain ⟨B4, d4, e4⟩ := Kd.R_slice ho; subst e4; rw [Htl.out] at ho ⊢; have HN4 := Aside0.mk ho; have HB4 := Aside0.mk hb; clear ho hb hg hat)
                    | ((with_reducible refine gate_builtin (b := .append) (xs := #[.tmp 54, .tmp 56]) rfl ?_); at_builtin; refine Kd.R_append (Kd.int .i64) (w0 := w3) w3.heap.size rfl (.tmp 54) (.tmp 56) 37 3 (.int .i64 0) 8 rfl Try.underlying37 infoI rfl (by decide) (by omega) _ _ (k : Int) [.int .i64 (k : Int)] (fun _ => True) (fun _ => False) rfl rfl rfl (fun _ hk => hk.elim) (fun _ _ => trivial) HN4.out HB4.out HB4.out.size ?aL ?_; (case aL => rw [Htl.out]; omega); intro v5 w5 ho hb hg hat; obtain ⟨B5, d5, e5⟩ := Kd.R_slice ho; subst e5; rw [List.length_append, Htl.out, List.length_singleton] at ho ⊢; have HN5 := Aside0.mk ho; have HB5 := Aside0.mk hb; clear ho hb hg hat)
                    | ((with_reducible refine gate_builtin (b := .append) (xs := #[.tmp 58, .tmp 61]) rfl ?_); at_builtin; refine Kd.R_append_rows (Kd.int .i64) (w0 := w3) w3.heap.size rfl (.tmp 58) (.tmp 61) 37 3 (.int .i64 0) 8 rfl Try.underlying37 infoI rfl (by decide) (by omega) _ _ _ _ _ _ (fun _ => True) (fun _ => False) rfl rfl HN5.out (Kd.C_below HC2.out HB5.out) (fun _ _ h => h) (fun _ h => h.elim) (fun _ _ => trivial) HB5.out HB5.out.size ?aL ?_; (case aL => rw [List.length_append, Htl.out, List.length_singleton]; omega); intro v6 w6 ho hb hg hat; rw [HPl.out] at ho; obtain ⟨B6, d6, e6⟩ := Kd.R_slice ho; subst e6; rw [castN_len, ordN_len] at ho ⊢; have HN6 := Aside0.mk (Kd.R_lower ho HB3.out.size); have HB6 := Aside0.mk (below_then HB3.out HB3.out.size hb); have HS6 := Aside0.mk (Kd.R_below HS3.out hb); clear ho hb hg hat)
                    | ((with_reducible refine gate_builtin (b := .append) (xs := #[.tmp 64, .tmp 66]) rfl ?_); at_builtin; refine Kd.R_append Opn.flt (w0 := w) w.heap.size rfl (.tmp 64) (.tmp 66) 23 30 (.float .f64 0) 8 rfl Try.underlying23 info30 rfl (by decide) (by omega) _ _ s [.float .f64 s] (fun _ => True) (fun _ => False) rfl rfl rfl (fun _ hk => hk.elim) (fun _ _ => trivial) HS6.out HB6.out HB6.out.size ?aL ?_; (case aL => rw [HSK.out]; omega); intro v7 w7 ho hb hg hat; have HS7 := Aside0.mk (show Kd.R Opn.flt 30 w7 w.heap.size (fun _ => True) v7 (scs now (List.take (k + 1) l)) from by rw [HT1.out]; exact ho); have HB7 := Aside0.mk hb; have HN7 := Aside0.mk (Kd.R_over HN6.out HS6.out (by intro q hq; simp [Kd.int, Kd.scalar] at hq; omega) hg); clear ho hb hg hat))
                  go_roundg (l.length - (k + 1))
                  case measure => omega
                  case rel => exact ⟨k + 1, hlt, by go_num, rfl, HN7, HS7, HA1, HB7, ⟨fun h => absurd h (by omega)⟩⟩
                · rw [Nat.zero_add] at HC2
                  have hco2 : (co == i + 1) = false := beq_eq_false_iff_ne.2 hco
                  go_wp2_with (first
                    | (go_at_call 48; (with_reducible refine K.out.mono ?_); rintro e w' ⟨rfl, rfl⟩)
                    | ((with_reducible refine gate_builtin (b := .append) (xs := #[.tmp 49, .tmp 52]) rfl ?_); at_builtin; refine Kd.R_append_rows (Kd.int .i64) (w0 := w3) w3.heap.size rfl (.tmp 49) (.tmp 52) 37 3 (.int .i64 0) 8 rfl Try.underlying37 infoI rfl (by decide) (by omega) (.slice none 0 0) [] _ _ _ _ (fun _ => True) (fun _ => False) rfl rfl (Kd.R_nil _ _ _ _ _) HC1.out (fun _ _ h => h) (fun _ h => h.elim) (fun _ _ => trivial) (Below.refl _ _) (Nat.le_refl _) ?aL ?_; (case aL => simp; omega); intro v4 w4 ho hb hg hat; rw [List.nil_append] at ho; obtain ⟨B4, d4, e4⟩ := Kd.R_slice ho; subst e4; rw [Htl.out] at ho ⊢; have HN4 := Aside0.mk ho; have HB4 := Aside0.mk hb; clear ho hb hg hat)
                    | ((with_reducible refine gate_builtin (b := .append) (xs := #[.tmp 54, .tmp 56]) rfl ?_); at_builtin; refine Kd.R_append (Kd.int .i64) (w0 := w3) w3.heap.size rfl (.tmp 54) (.tmp 56) 37 3 (.int .i64 0) 8 rfl Try.underlying37 infoI rfl (by decide) (by omega) _ _ (k : Int) [.int .i64 (k : Int)] (fun _ => True) (fun _ => False) rfl rfl rfl (fun _ hk => hk.elim) (fun _ _ => trivial) HN4.out HB4.out HB4.out.size ?aL ?_; (case aL => rw [Htl.out]; omega); intro v5 w5 ho hb hg hat; obtain ⟨B5, d5, e5⟩ := Kd.R_slice ho; subst e5; rw [List.length_append, Htl.out, List.length_singleton] at ho ⊢; have HN5 := Aside0.mk ho; have HB5 := Aside0.mk hb; clear ho hb hg hat)
                    | ((with_reducible refine gate_builtin (b := .append) (xs := #[.tmp 58, .tmp 61]) rfl ?_); at_builtin; refine Kd.R_append_rows (Kd.int .i64) (w0 := w3) w3.heap.size rfl (.tmp 58) (.tmp 61) 37 3 (.int .i64 0) 8 rfl Try.underlying37 infoI rfl (by decide) (by omega) _ _ _ _ _ _ (fun _ => True) (fun _ => False) rfl rfl HN5.out (Kd.C_below HC2.out HB5.out) (fun _ _ h => h) (fun _ h => h.elim) (fun _ _ => trivial) HB5.out HB5.out.size ?aL ?_; (case aL => rw [List.length_append, Htl.out, List.length_singleton]; omega); intro v6 w6 ho hb hg hat; rw [HPl.out] at ho; obtain ⟨B6, d6, e6⟩ := Kd.R_slice ho; subst e6; rw [castN_len, ordN_len] at ho ⊢; have HN6 := Aside0.mk (Kd.R_lower ho HB3.out.size); have HB6 := Aside0.mk (below_then HB3.out HB3.out.size hb); have HS6 := Aside0.mk (Kd.R_below HS3.out hb); clear ho hb hg hat)
                    | ((with_reducible refine gate_builtin (b := .append) (xs := #[.tmp 64, .tmp 66]) rfl ?_); at_builtin; refine Kd.R_append Opn.flt (w0 := w) w.heap.size rfl (.tmp 64) (.tmp 66) 23 30 (.float .f64 0) 8 rfl Try.underlying23 info30 rfl (by decide) (by omega) _ _ s [.float .f64 s] (fun _ => True) (fun _ => False) rfl rfl rfl (fun _ hk => hk.elim) (fun _ _ => trivial) HS6.out HB6.out HB6.out.size ?aL ?_; (case aL => rw [HSK.out]; omega); intro v7 w7 ho hb hg hat; have HS7 := Aside0.mk (show Kd.R Opn.flt 30 w7 w.heap.size (fun _ => True) v7 (scs now (List.take (k + 1) l)) from by rw [HT1.out]; exact ho); have HB7 := Aside0.mk hb; have HN7 := Aside0.mk (Kd.R_over HN6.out HS6.out (by intro q hq; simp [Kd.int, Kd.scalar] at hq; omega) hg); clear ho hb hg hat))
                  go_roundg (l.length - (k + 1))
                  case measure => omega
                  case rel => exact ⟨k + 1, hlt, by go_num, rfl, HN7, HS7, HA1, HB7, ⟨fun h => absurd h (by omega)⟩⟩
              · have HPa2 := Aside0.mk (past_down HPa.out (by omega) (by simpa using hjl) HL.out)
                go_wp2_with (go_at_call 48; (with_reducible refine K.out.mono ?_); rintro e w' ⟨rfl, rfl⟩)
                go_round
                case rel => exact ⟨i, by omega, by go_num, HPa2⟩
                case measure => simp [intOf]
            · obtain rfl : j = 0 := by omega
              have HPl : Aside0 (P.take 0 ++ [(k : Int)] ++ P.drop 0 = castN (ordN (scs now l) (k + 1))) := ⟨by rw [← HPe.out]; exact (past_place hj HPa.out (.inl rfl)).symm⟩
              rw [Nat.zero_add, Nat.sub_zero, List.drop_zero] at HC2
              rw [List.drop_zero, List.take_zero] at HPl
              rw [List.take_zero] at Htl
              have hco : co ≠ 0 := by have := HcoB.out; omega
              have hco2 : (co == 0) = false := beq_eq_false_iff_ne.2 hco
              go_wp2_with (first
                | (go_at_call 48; (with_reducible refine K.out.mono ?_); rintro e w' ⟨rfl, rfl⟩)
                | ((with_reducible refine gate_builtin (b := .append) (xs := #[.tmp 54, .tmp 56]) rfl ?_); at_builtin; refine Kd.R_append (Kd.int .i64) (w0 := w3) w3.heap.size rfl (.tmp 54) (.tmp 56) 37 3 (.int .i64 0) 8 rfl Try.underlying37 infoI rfl (by decide) (by omega) _ _ (k : Int) [.int .i64 (k : Int)] (fun _ => True) (fun _ => False) rfl rfl rfl (fun _ hk => hk.elim) (fun _ _ => trivial) (Kd.R_nil _ _ _ _ _) (Below.refl _ _) (Nat.le_refl _) ?aL ?_; (case aL => simp); intro v5 w5 ho hb hg hat; obtain ⟨B5, d5, e5⟩ := Kd.R_slice ho; subst e5;  have HN5 := Aside0.mk ho; have HB5 := Aside0.mk hb; clear ho hb hg hat)
                | ((with_reducible refine gate_builtin (b := .append) (xs := #[.tmp 54, .tmp 56]) rfl ?_); at_builtin; refine Kd.R_append (Kd.int .i64) (w0 := w3) w3.heap.size rfl (.tmp 54) (.tmp 56) 37 3 (.int .i64 0) 8 rfl Try.underlying37 infoI rfl (by decide) (by omega) _ _ (k : Int) [.int .i64 (k : Int)] (fun _ => True) (fun _ => False) rfl rfl rfl (fun _ hk => hk.elim) (fun _ _ => trivial) (Kd.R_nil _ _ _ _ _) (Below.refl _ _) (Nat.le_refl _) ?aL ?_; (case aL => simp); intro v5 w5 ho hb hg hat; obtain ⟨B5, d5, e5⟩ := Kd.R_slice ho; subst e5;  have HN5 := Aside0.mk ho; have HB5 := Aside0.mk hb; clear ho hb hg hat)
                | ((with_reducible refine gate_builtin (b := .append) (xs := #[.tmp 58, .tmp 61]) rfl ?_); at_builtin; refine Kd.R_append_rows (Kd.int .i64) (w0 := w3) w3.heap.size rfl (.tmp 58) (.tmp 61) 37 3 (.int .i64 0) 8 rfl Try.underlying37 infoI rfl (by decide) (by omega) _ _ _ _ _ _ (fun _ => True) (fun _ => False) rfl rfl HN5.out (Kd.C_below HC2.out HB5.out) (fun _ _ h => h) (fun _ h => h.elim) (fun _ _ => trivial) HB5.out HB5.out.size ?aL ?_; (case aL => rw [List.length_append, Htl.out, List.length_singleton]; omega); intro v6 w6 ho hb hg hat; rw [HPl.out] at ho; obtain ⟨B6, d6, e6⟩ := Kd.R_slice ho; subst e6; rw [castN_len, ordN_len] at ho ⊢; have HN6 := Aside0.mk (Kd.R_lower ho HB3.out.size); have HB6 := Aside0.mk (below_then HB3.out HB3.out.size hb); have HS6 := Aside0.mk (Kd.R_below HS3.out hb); clear ho hb hg hat)
                | ((with_reducible refine gate_builtin (b := .append) (xs := #[.tmp 64, .tmp 66]) rfl ?_); at_builtin; refine Kd.R_append Opn.flt (w0 := w) w.heap.size rfl (.tmp 64) (.tmp 66) 23 30 (.float .f64 0) 8 rfl Try.underlying23 info30 rfl (by decide) (by omega) _ _ s [.float .f64 s] (fun _ => True) (fun _ => False) rfl rfl rfl (fun _ hk => hk.elim) (fun _ _ => trivial) HS6.out HB6.out HB6.out.size ?aL ?_; (case aL => rw [HSK.out]; omega); intro v7 w7 ho hb hg hat; have HS7 := Aside0.mk (show Kd.R Opn.flt 30 w7 w.heap.size (fun _ => True) v7 (scs now (List.take (k + 1) l)) from by rw [HT1.out]; exact ho); have HB7 := Aside0.mk hb; have HN7 := Aside0.mk (Kd.R_over HN6.out HS6.out (by intro q hq; simp [Kd.int, Kd.scalar] at hq; omega) hg); clear ho hb hg hat))
              go_roundg (l.length - (k + 1))
              case measure => omega
              case rel => exact ⟨k + 1, hlt, by go_num, rfl, HN7, HS7, HA1, HB7, ⟨fun h => absurd h (by omega)⟩⟩

      · have HFe := Aside0.mk (HFe.out (by rw [HP.out]) h0)
        have t2 : (e != 0) = true := by simpa using h0
        go_wp2_with fail
        go_ret2
        refine ⟨.slice none 0 0, ?_, ?_, HB3.out⟩
        · rw [HFe.out]; rfl
        · unfold ordR
          rw [HFe.out, if_neg h0]
          exact Kd.R_nil _ _ _ _ _
    · obtain rfl : k = l.length := by omega
      have t1 : decide ((l.length : Int) < (l.length : Int)) = false := decide_eq_false (by omega)
      have HA2 : Aside0 (allOk now l) := ⟨by have := HA.out; rwa [List.take_length] at this⟩
      have HFo := Aside0.mk (firstErr_ok HA2.out)
      go_wp2_with fail
      go_ret2
      refine ⟨.slice Ao l.length co, ?_, ?_, HBr.out⟩
      · rw [HFo.out]; rfl
      · unfold ordR
        rw [if_pos HFo.out]
        exact HO.out
end Go.Proofs.Ytlifioeeooclfaa.Rl
