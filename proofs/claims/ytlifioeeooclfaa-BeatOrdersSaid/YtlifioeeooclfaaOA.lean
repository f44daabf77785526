/- slices.insertionSortCmpFunc at []int: the library's contract laid over this program. No condition. · The closure of beat.Order. Condition: places in the row of scores. · slices.SortStableFunc at []int of at most 20: it is the insertion sort. · The sort in beat.Order: places in the order of their scores. Conditions: at most 20, the scores' row apart from the row that is sorted. · The insertion sort of an array, as a list built one by one: plain. · The order of places by their scores: plain. · Where one more is put in; the order falls: plain. · A row of nodes' times: what the argument reads as, and an element's cells. -/
import Derived.Test.YtlifioeeooclfaaB11
import Derived.Shelf.SlSortCmp.Insertion1
import Derived.Sort.OwnSortedInts
import Derived.Test.YtlifioeeooclfaaOpen
namespace Go.Proofs.Ytlifioeeooclfaa.Rl
open Go.ChangeShapes Go.WideShapes Go.ChangeAt Go.RowKit Dbl
open Go.Proofs.YtlifioeeooclfaaW.PrintWords Go.Proofs.YtlifioeeooclfaaW.PrintLast Go.Proofs.YtlifioeeooclfaaW.PrintMore
set_option linter.unusedVariables false
set_option linter.unusedSimpArgs false
def insRen : Go.Shelf.Ren := ⟨fun | 20 => 53 | n => n, fun | 22 => 37 | 24 => 3 | 25 => 82 | n => n, fun n => n⟩
set_option maxRecDepth 100000 in
theorem insLays : SlLaysF.n20 Try.prog insRen := {
  mixed := by kernel_rfl
  f20 := ⟨"slices.insertionSortCmpFunc[int]", by decide, by kernel_rfl⟩
  t0 := by kernel_rfl
  a0 := fun _ => by kernel_rfl
  z0 := fun _ => by kernel_rfl
  v0 := fun _ => by kernel_rfl
  t3 := by kernel_rfl
  a3 := fun _ => by kernel_rfl
  z3 := fun _ => by kernel_rfl
  v3 := fun _ => by kernel_rfl
  t4 := by kernel_rfl
  a4 := fun _ => by kernel_rfl
  z4 := fun _ => by kernel_rfl
  v4 := fun _ => by kernel_rfl
  t22 := by kernel_rfl
  a22 := fun _ => by kernel_rfl
  z22 := fun _ => by kernel_rfl
  v22 := fun _ => by kernel_rfl
  a24 := fun _ => by kernel_rfl
  z24 := fun _ => by kernel_rfl
  t25 := by kernel_rfl
  a25 := fun _ => by kernel_rfl
  z25 := fun _ => by kernel_rfl
  v25 := fun _ => by kernel_rfl }
end Go.Proofs.Ytlifioeeooclfaa.Rl
namespace Go.Proofs.Ytlifioeeooclfaa.Rl
open Go.ChangeShapes Go.WideShapes Go.ChangeAt Go.RowKit Dbl
open Go.Proofs.YtlifioeeooclfaaW.PrintWords Go.Proofs.YtlifioeeooclfaaW.PrintLast Go.Proofs.YtlifioeeooclfaaW.PrintMore
set_option linter.unusedVariables false
set_option linter.unusedSimpArgs false
set_option maxHeartbeats 4000000 in
theorem oclo_ {w : World} {bx : Nat} {A : Option Addr} {c : Nat} {sc : List Nat} (hg : w.cell? ⟨bx, 0, none⟩ = some (.slice A sc.length c)) (h : Bt w A c sc) (x y : Nat) (hx : x < sc.length) (hy : y < sc.length) :
    Calls Try.prog 47 #[.int .i64 x, .int .i64 y, .pointer (some ⟨bx, 0, none⟩)] w fun e w' => e = .returned (.int .i64 (cmpU sc[y] sc[x])) ∧ ∃ q, w' = w.drewN q := by
  obtain ⟨ad, hA, hcx⟩ := Hlp.C_at h.r x hx
  obtain ⟨ad', hA', hcy⟩ := Hlp.C_at h.r y hy
  subst hA
  obtain rfl : ad = ad' := Option.some.inj hA'
  have hfx := h.w _ (List.getElem_mem hx)
  have hfy := h.w _ (List.getElem_mem hy)
  have x0 : (0 : Int) ≤ (x : Int) := by omega
  have x1 : (x : Int) < (sc.length : Int) := by omega
  have y0 : (0 : Int) ≤ (y : Int) := by omega
  have y1 : (y : Int) < (sc.length : Int) := by omega
  obtain ⟨a, ha⟩ : ∃ a, sc[x] = a := ⟨_, rfl⟩
  obtain ⟨b, hb⟩ : ∃ b, sc[y] = b := ⟨_, rfl⟩
  rw [ha] at hcx hfx ⊢
  rw [hb] at hcy hfy ⊢
  clear ha hb h hA'
  have hfx := Aside0.mk hfx
  have hfy := Aside0.mk hfy
  go_enter Try.func47, Try.ntmps47
  go_wp2_with fail
  go_region_held3 (fun W => W.cell? ⟨bx, 0, none⟩ = some (.slice (some ad) sc.length c) ∧ W.cell? (ad.add x) = some (.float .f64 a) ∧ W.cell? (ad.add y) = some (.float .f64 b)) (first | go_keep | exact ⟨hg, hcx, hcy⟩) (first | (go_at_call 43; (with_reducible refine (compare_ _ _ hfy.out hfx.out _).mono ?_); rintro e w' ⟨rfl, rfl⟩))
  all_goals
    go_wp2_with fail
    go_ret
    refine ⟨rfl, ?_⟩
    first | exact ⟨0, rfl⟩ | exact ⟨1, rfl⟩
open Go.Sort in
theorem cell_sw {α : Type} [Inhabited α] (enc : α → Value) (w : World) (blk off m : Nat) (dk : Array α) (os : Array Obj) (a : Addr) (v : Value) (h : w.cell? a = some v) (hne : a.block ≠ blk) : (sortWorld enc w blk off m dk os).cell? a = some v := by
  have h1 : (putRow enc (Sort.ahead w m) blk off dk).cell? a = some v := (cell?_putRow_other enc (Sort.ahead w m) blk off dk a (.inl hne)).trans h
  have hb := World.block_lt_of_cell? _ _ h1
  show (grow (putRow enc (Sort.ahead w m) blk off dk) os).cell? a = some v
  rw [cell?_grow _ _ _ hb]
  exact h1
end Go.Proofs.Ytlifioeeooclfaa.Rl
namespace Go.Proofs.Ytlifioeeooclfaa.Rl
open Go.ChangeShapes Go.WideShapes Go.ChangeAt Go.RowKit Dbl Go.Sort
open Go.Proofs.YtlifioeeooclfaaW.PrintWords Go.Proofs.YtlifioeeooclfaaW.PrintLast Go.Proofs.YtlifioeeooclfaaW.PrintMore
set_option linter.unusedVariables false
set_option linter.unusedSimpArgs false
variable {α : Type} [Inhabited α]
theorem ins_ (enc : α → Value) (cf : α → α → Int) (g : Nat) (cb : Array Value) (blk off cap a b : Nat) (d0 d : Array α) (w0 w : World)
    (eg : ∀ args w, (callFunc g args).run Try.prog w = .ok (.enter g args) w) (hcmp : CmpLays1 Try.prog g cb enc cf blk off d0.size w0) (R : Row1 enc w0 blk off d0) (hs : d0.size = d.size) (S : SW enc w0 blk off d w) (hab : a ≤ b) (hb : b ≤ d.size) (hsz : d.size < 4611686018427387904) :
    Calls Try.prog 53 #[.slice (some ⟨blk, off, none⟩) d.size cap, .int .i64 a, .int .i64 b, .func (.func g) #[] cb] w fun e w' => e = .returned (.tuple #[]) ∧ SW enc w0 blk off (Sort.insertionSort (ltOf cf) d a b) w' :=
  Any.insertionSortCmpFunc_s insLays enc cf g cb blk off cap a b d0 d w0 w eg hcmp R hs S hab hb hsz
theorem swp_size (d : Array α) (i j : Nat) : (swp d i j).size = d.size := by unfold swp; simp
theorem inner_size (lt : α → α → Bool) (a : Nat) : ∀ (j : Nat) (d : Array α), (insInner lt a j d).size = d.size
  | 0, d => rfl
  | j + 1, d => by
    unfold insInner
    split
    · rw [inner_size lt a j, swp_size]
    · rfl
theorem outer_size (lt : α → α → Bool) (a b : Nat) : ∀ (q i : Nat) (d : Array α), b - i = q → (insOuter lt a b i d).size = d.size := by
  intro q
  induction q with
  | zero =>
    intro i d h
    rw [insOuter, if_neg (by omega)]
  | succ q ih =>
    intro i d h
    rw [insOuter, if_pos (by omega), ih (i + 1) _ (by omega), inner_size]
theorem ins_size (lt : α → α → Bool) (d : Array α) (a b : Nat) : (Sort.insertionSort lt d a b).size = d.size := outer_size lt a b _ (a + 1) d rfl
theorem ins_none (lt : α → α → Bool) (d : Array α) (n : Nat) : Sort.insertionSort lt d n n = d := by
  unfold Sort.insertionSort Sort.insOuter
  rw [if_neg (by omega)]
set_option maxHeartbeats 4000000 in
set_option maxRecDepth 100000 in
theorem stable_ (enc : α → Value) (cf : α → α → Int) (g : Nat) (cb : Array Value) (blk off cap : Nat) (d : Array α) (w : World)
    (eg : ∀ args w, (callFunc g args).run Try.prog w = .ok (.enter g args) w) (hcmp : CmpLays1 Try.prog g cb enc cf blk off d.size w) (R : Row1 enc w blk off d) (hn : d.size ≤ 20) :
    Calls Try.prog 52 #[.slice (some ⟨blk, off, none⟩) d.size cap, .int .i64 d.size, .func (.func g) #[] cb] w fun e w' => e = .returned (.tuple #[]) ∧ SW enc w blk off (Sort.insertionSort (ltOf cf) d 0 d.size) w' := by
  have HC := Aside0.mk hcmp
  have HR := Aside0.mk R
  have HE := Aside0.mk eg
  have S0 := Aside0.mk (SW.start R.hH)
  obtain ⟨n, hN⟩ : ∃ n, d.size = n := ⟨_, rfl⟩
  clear hcmp R eg
  rcases (by omega : n = 20 ∨ n < 20) with rfl | hlt
  · obtain ⟨d2, hd2⟩ : ∃ d2, Sort.insertionSort (ltOf cf) d 0 20 = d2 := ⟨_, rfl⟩
    have K1 : Aside0 (Calls Try.prog 53 #[.slice (some ⟨blk, off, none⟩) d.size cap, .int .i64 0, .int .i64 20, .func (.func g) #[] cb] w fun e w' => e = .returned (.tuple #[]) ∧ SW enc w blk off (Sort.insertionSort (ltOf cf) d 0 20) w') := ⟨ins_ enc cf g cb blk off cap 0 20 d d w w HE.out HC.out HR.out rfl S0.out (by omega) (by omega) (by omega)⟩
    have hsz : d2.size = d.size := by rw [← hd2]; exact ins_size ..
    rw [hN] at K1 hsz ⊢
    rw [hd2] at K1 ⊢
    have K2 : Aside0 (∀ w', SW enc w blk off d2 w' → Calls Try.prog 53 #[.slice (some ⟨blk, off, none⟩) 20 cap, .int .i64 20, .int .i64 20, .func (.func g) #[] cb] w' fun e w' => e = .returned (.tuple #[]) ∧ SW enc w blk off d2 w') := ⟨by
      intro w' hS
      have := ins_ enc cf g cb blk off cap 20 20 d d2 w w' HE.out HC.out HR.out (by omega) hS (by omega) (by omega) (by omega)
      rw [ins_none, hsz] at this
      exact this⟩
    clear S0 HC HR HE
    go_enter Try.func52, Try.ntmps52
    go_wp2
    go_loopg [7, 8] 1 (fun q a b w' => (a = .int .i64 0 ∧ b = .int .i64 20 ∧ q = 1 ∧ w' = w) ∨ (a = .int .i64 20 ∧ b = .int .i64 40 ∧ q = 0 ∧ SW enc w blk off d2 w'))
    case atStart => exact .inl ⟨rfl, rfl, rfl, rfl⟩
    case round =>
      rcases hrel with ⟨rfl, rfl, rfl, rfl⟩ | ⟨rfl, rfl, rfl, hS⟩
      · go_wp2_with fail
        (with_reducible refine K1.out.mono ?_)
        rintro e w1 ⟨rfl, hs⟩
        go_wp2_with fail
        go_roundg 0
        case measure => omega
        case rel => exact .inr ⟨rfl, rfl, rfl, hs⟩
      · go_wp2_with fail
        (with_reducible refine (K2.out _ hS).mono ?_)
        rintro e w1 ⟨rfl, hs⟩
        go_wp2
        go_loopg [6] 0 (fun q x w' => x = .int .i64 20 ∧ q = 0 ∧ SW enc w blk off d2 w')
        case atStart => exact ⟨rfl, rfl, hs⟩
        case round =>
          obtain ⟨rfl, rfl, hs⟩ := hrel
          go_wp2_with fail
          go_end0
          exact ⟨rfl, hs⟩
  · obtain ⟨d2, hd2⟩ : ∃ d2, Sort.insertionSort (ltOf cf) d 0 n = d2 := ⟨_, rfl⟩
    have K1 : Aside0 (Calls Try.prog 53 #[.slice (some ⟨blk, off, none⟩) d.size cap, .int .i64 0, .int .i64 (n : Int), .func (.func g) #[] cb] w fun e w' => e = .returned (.tuple #[]) ∧ SW enc w blk off (Sort.insertionSort (ltOf cf) d 0 n) w') := ⟨ins_ enc cf g cb blk off cap 0 n d d w w HE.out HC.out HR.out rfl S0.out (by omega) (by omega) (by omega)⟩
    rw [hN] at K1 ⊢
    rw [hd2] at K1 ⊢
    have t1 : decide ((20 : Int) ≤ (n : Int)) = false := decide_eq_false (by omega)
    have t2 : decide ((20 : Int) < (n : Int)) = false := decide_eq_false (by omega)
    clear S0 HC HR HE
    go_enter Try.func52, Try.ntmps52
    go_wp2
    go_loopg [7, 8] 0 (fun q a b w' => a = .int .i64 0 ∧ b = .int .i64 20 ∧ q = 0 ∧ w' = w)
    case atStart => exact ⟨rfl, rfl, rfl, rfl⟩
    case round =>
      obtain ⟨rfl, rfl, rfl, rfl⟩ := hrel
      go_wp2_with fail
      (with_reducible refine K1.out.mono ?_)
      rintro e w1 ⟨rfl, hs⟩
      go_wp2
      go_loopg [6] 0 (fun q x w' => x = .int .i64 20 ∧ q = 0 ∧ SW enc wr blk off d2 w')
      case atStart => exact ⟨rfl, rfl, hs⟩
      case round =>
        obtain ⟨rfl, rfl, hs⟩ := hrel
        go_wp2_with fail
        go_end0
        exact ⟨rfl, hs⟩
set_option maxHeartbeats 4000000 in
set_option maxRecDepth 100000 in
theorem sort_ (enc : α → Value) (cf : α → α → Int) (g : Nat) (cb : Array Value) (blk off cap : Nat) (d : Array α) (w : World)
    (eg : ∀ args w, (callFunc g args).run Try.prog w = .ok (.enter g args) w) (hcmp : CmpLays1 Try.prog g cb enc cf blk off d.size w) (R : Row1 enc w blk off d) (hn : d.size ≤ 20) :
    Calls Try.prog 46 #[.slice (some ⟨blk, off, none⟩) d.size cap, .func (.func g) #[] cb] w fun e w' => e = .returned (.tuple #[]) ∧ SW enc w blk off (Sort.insertionSort (ltOf cf) d 0 d.size) w' := by
  have K := Aside0.mk (stable_ enc cf g cb blk off cap d w eg hcmp R hn)
  obtain ⟨n, hN⟩ : ∃ n, d.size = n := ⟨_, rfl⟩
  rw [hN] at K ⊢
  obtain ⟨d2, hd2⟩ : ∃ d2, Sort.insertionSort (ltOf cf) d 0 n = d2 := ⟨_, rfl⟩
  rw [hd2] at K ⊢
  clear hcmp R eg
  go_enter Try.func46, Try.ntmps46
  go_wp2_with fail
  (with_reducible refine K.out.mono ?_)
  rintro e w1 ⟨rfl, hs⟩
  go_wp2_with fail
  go_end0
  exact ⟨rfl, hs⟩
/-- of no element -/
theorem ins0_ (f : Value) (w : World) : Calls Try.prog 53 #[.slice none 0 0, .int .i64 0, .int .i64 0, f] w fun e w' => e = .returned (.tuple #[]) ∧ w = w' := by
  go_enter Try.func53, Try.ntmps53
  go_wp2
  go_loopg [8] 0 (fun q x w' => x = .int .i64 1 ∧ q = 0 ∧ w' = w)
  case atStart => exact ⟨rfl, rfl, rfl⟩
  case round =>
    obtain ⟨rfl, rfl, rfl⟩ := hrel
    go_wp2_with fail
    go_end0
    exact ⟨rfl, rfl⟩
theorem stable0_ (f : Value) (w : World) : Calls Try.prog 52 #[.slice none 0 0, .int .i64 0, f] w fun e w' => e = .returned (.tuple #[]) ∧ w = w' := by
  go_enter Try.func52, Try.ntmps52
  go_wp2
  go_loopg [7, 8] 0 (fun q a b w' => a = .int .i64 0 ∧ b = .int .i64 20 ∧ q = 0 ∧ w' = w)
  case atStart => exact ⟨rfl, rfl, rfl, rfl⟩
  case round =>
    obtain ⟨rfl, rfl, rfl, rfl⟩ := hrel
    go_wp2_with fail
    (with_reducible refine (ins0_ _ _).mono ?_)
    rintro e w1 ⟨rfl, rfl⟩
    go_wp2
    go_loopg [6] 0 (fun q x w' => x = .int .i64 20 ∧ q = 0 ∧ w' = wr)
    case atStart => exact ⟨rfl, rfl, rfl⟩
    case round =>
      obtain ⟨rfl, rfl, rfl⟩ := hrel
      go_wp2_with fail
      go_end0
      exact ⟨rfl, rfl⟩
theorem sort0_ (f : Value) (w : World) : Calls Try.prog 46 #[.slice none 0 0, f] w fun e w' => e = .returned (.tuple #[]) ∧ w = w' := by
  go_enter Try.func46, Try.ntmps46
  go_wp2_with fail
  (with_reducible refine (stable0_ _ _).mono ?_)
  rintro e w1 ⟨rfl, rfl⟩
  go_wp2_with fail
  go_end0
  exact ⟨rfl, rfl⟩
end Go.Proofs.Ytlifioeeooclfaa.Rl
namespace Go.Proofs.Ytlifioeeooclfaa.Rl
open Go.ChangeShapes Go.WideShapes Go.ChangeAt Go.RowKit Dbl Go.Sort
open Go.Proofs.YtlifioeeooclfaaW.PrintWords Go.Proofs.YtlifioeeooclfaaW.PrintLast Go.Proofs.YtlifioeeooclfaaW.PrintMore
set_option linter.unusedVariables false
set_option linter.unusedSimpArgs false
def rangeI (n : Nat) : List Int := (List.range n).map fun i : Nat => (i : Int)
def encF (M : Nat) (x : Fin (M + 1)) : Value := .int .i64 (x.val : Int)
def cfF (M : Nat) (sc : List Nat) (x y : Fin (M + 1)) : Int := cmpU (sc.getD y.val 0) (sc.getD x.val 0)
def ordA (M : Nat) (sc : List Nat) : Array (Fin (M + 1)) := Sort.insertionSort (ltOf (cfF M sc)) (Array.ofFn fun i : Fin (M + 1) => i) 0 (M + 1)
def ordF (M : Nat) (sc : List Nat) : List Int := (ordA M sc).toList.map fun x => (x.val : Int)
theorem ordA_size (M : Nat) (sc : List Nat) : (ordA M sc).size = M + 1 := by unfold ordA; rw [ins_size]; simp
theorem putRow_fin (M : Nat) (w : World) (g : Nat) (d : Array (Fin (M + 1))) : putRow (encF M) w g 0 d = putRow (Value.int .i64) w g 0 (d.toList.map fun x => (x.val : Int)).toArray := by
  unfold putRow
  congr 1
  funext c
  unfold putCells
  congr 1
  funext k x
  by_cases h : k < d.size
  · rw [if_pos ⟨by omega, by omega⟩, if_pos ⟨by omega, by simpa using h⟩]
    unfold encF
    simp [h]
  · rw [if_neg (by omega), if_neg (by simpa using h)]
theorem C_sw {α : Type} [Inhabited α] {enc : α → Value} {β : Type} {enc' : β → Value} {h1 : ∀ x, (enc' x).oneCell' = true} {w : World} {A : Option Addr} {xs : List β} {blk off m : Nat} {dk : Array α} {os : Array Obj} (h : (Kd.scalar enc' h1).C w A xs.length xs) (hne : ∀ a, A = some a → a.block ≠ blk) :
    (Kd.scalar enc' h1).C (sortWorld enc w blk off m dk os) A xs.length xs := by
  rcases Nat.eq_zero_or_pos xs.length with h0 | h0
  · obtain rfl := List.length_eq_zero_iff.1 h0
    exact Hlp.C_empty
  · obtain ⟨b, o, rfl, hc⟩ := Hlp.C_block h h0
    have hb : b ≠ blk := hne _ rfl
    exact Hlp.C_mk h.2.1 fun k hk => cell_sw enc w blk off m dk os _ _ (hc k hk) hb
theorem reads_ {M : Nat} {w : World} {g bx : Nat} {A : Option Addr} {c : Nat} {sc : List Nat} (hsc : sc.length = M + 1) (hbx : w.cell? ⟨bx, 0, none⟩ = some (.slice A sc.length c)) (hB : Bt w A c sc) (hne : bx ≠ g) (hA : ∀ a, A = some a → a.block ≠ g) (size : Nat) :
    CmpReads Try.prog 47 #[.pointer (some ⟨bx, 0, none⟩)] (encF M) (cfF M sc) g 0 size w := by
  intro m os dk hs x y
  have hx : x.val < sc.length := by rw [hsc]; exact x.isLt
  have hy : y.val < sc.length := by rw [hsc]; exact y.isLt
  have h1 := cell_sw (encF M) w g 0 m dk os _ _ hbx hne
  have h2 : Bt (sortWorld (encF M) w g 0 m dk os) A c sc := ⟨C_sw hB.r hA, hB.c, hB.l, hB.w⟩
  have := oclo_ h1 h2 x.val y.val hx hy
  unfold cfF
  rw [List.getD_eq_getElem?_getD, List.getD_eq_getElem?_getD, List.getElem?_eq_getElem hx, List.getElem?_eq_getElem hy]
  exact this
theorem order_sort {M : Nat} (hM : M + 1 ≤ 20) {w : World} {base g cap bx : Nat} {A : Option Addr} {c : Nat} {sc : List Nat} (hsc : sc.length = M + 1)
    (hR : Kd.R (Kd.int .i64) 3 w base (fun _ => True) (.slice (some ⟨g, 0, none⟩) (M + 1) cap) (rangeI (M + 1)))
    (hbx : w.cell? ⟨bx, 0, none⟩ = some (.slice A sc.length c)) (hB : Bt w A c sc) (hne : bx ≠ g) (hA : ∀ a, A = some a → a.block ≠ g) :
    Calls Try.prog 46 #[.slice (some ⟨g, 0, none⟩) (M + 1) cap, .func (.func 47) #[] #[.pointer (some ⟨bx, 0, none⟩)]] w fun e w' => e = .returned (.tuple #[]) ∧ Kd.R (Kd.int .i64) 3 w' base (fun _ => True) (.slice (some ⟨g, 0, none⟩) (M + 1) cap) (ordF M sc) ∧ w.grownBy w' (some g) := by
  have ho := Kd.own_of_R (enc := Value.int .i64) (h1 := fun _ => rfl) hR
  have hlen : (rangeI (M + 1)).length = M + 1 := by simp [rangeI]
  rw [hlen] at ho
  rcases ho.2 with ⟨h0, _⟩ | ⟨g', cap', cur, hv, hg, hh, hn, hcap, hs, ht⟩
  · cases h0
  cases hv
  have hH0 := holds_of_blockI (ss := rangeI (M + 1)) hh (by
    have ht' := ht
    simp only [Nat.mul_one, encs] at ht'
    rw [hlen]
    exact ht')
  have hsz : (Array.ofFn fun i : Fin (M + 1) => i).size = M + 1 := by simp
  have hH : Holds (encF M) w g 0 (Array.ofFn fun i : Fin (M + 1) => i) := by
    intro j hj
    rw [hsz] at hj
    have := hH0 j (by simpa [rangeI] using hj)
    refine ⟨?_, this.2⟩
    rw [this.1]
    unfold encF rangeI
    simp [hj]
  have eg : ∀ args w, (callFunc 47 args).run Try.prog w = .ok (.enter 47 args) w := enters_of Try.func47 (by kernel_rfl) rfl
  have K := sort_ (encF M) (cfF M sc) 47 #[.pointer (some ⟨bx, 0, none⟩)] g 0 cap (Array.ofFn fun i : Fin (M + 1) => i) w eg ((reads_ hsc hbx hB hne hA _).lays) ⟨fun _ => rfl, hH, blk_lt hh⟩ (by rw [hsz]; exact hM)
  rw [hsz] at K
  refine K.mono ?_
  rintro e w' ⟨rfl, m, os, rfl⟩
  refine ⟨rfl, ?_, ?_⟩
  · show Kd.R (Kd.int .i64) 3 (grow (putRow (encF M) (Sort.ahead w m) g 0 (ordA M sc)) os) base (fun _ => True) _ _
    rw [putRow_fin]
    have hl : (ordF M sc).length = (rangeI (M + 1)).length := by unfold ordF; rw [List.length_map, Array.length_toList, ordA_size, hlen]
    have := ownsRow_sortedI (w := w) (n := m) (os := os) hl hg hh (by rw [hlen]; exact hn) hcap (by rw [hs])
    rw [hlen] at this
    refine Kd.R_of_own (enc := Value.int .i64) (h1 := fun _ => rfl) ?_ (fun _ _ => trivial)
    rw [hl, hlen]
    exact this
  · show w.grownBy (grow (putRow (encF M) (Sort.ahead w m) g 0 (ordA M sc)) os) (some g)
    rw [putRow_fin]
    exact grownBy_sortedI _
end Go.Proofs.Ytlifioeeooclfaa.Rl
namespace Go.Proofs.Ytlifioeeooclfaa.Rl
open Go.Sort
set_option linter.unusedSimpArgs false
set_option linter.unusedSectionVars false
set_option linter.unusedVariables false
variable {α : Type} [Inhabited α]
/-- one more, from the right: it goes past all that it stands ahead of -/
def insRev (lt : α → α → Bool) (x : α) : List α → List α
  | [] => [x]
  | y :: t => if lt x y then y :: insRev lt x t else x :: y :: t
theorem insRev_cons (lt : α → α → Bool) (x y : α) (t : List α) : insRev lt x (y :: t) = if lt x y then y :: insRev lt x t else x :: y :: t := rfl
def insR (lt : α → α → Bool) (P : List α) (x : α) : List α := (insRev lt x P.reverse).reverse
theorem get_at (L : List α) (i : Nat) (h : i < L.length) : (L.toArray)[i]! = L[i] := by
  rw [getElem!_pos L.toArray i (by simpa using h)]
  simp
theorem swp_list (Q : List α) (x y : α) (R : List α) : swp (Q ++ y :: x :: R).toArray (Q.length + 1) Q.length = (Q ++ x :: y :: R).toArray := by
  unfold swp
  rw [get_at _ _ (by simp), get_at _ _ (by simp)]
  apply Array.ext'
  simp only [Array.toList_setIfInBounds]
  apply List.ext_getElem
  · simp
  · intro i h1 h2
    simp only [List.getElem_set]
    by_cases e1 : Q.length = i
    · subst e1
      simp
    · by_cases e2 : Q.length + 1 = i
      · subst e2
        simp
      · simp only [e1, e2, if_false]
        rcases Nat.lt_or_ge i Q.length with h | h
        · simp [List.getElem_append, h]
        · have : ∃ k, i = Q.length + 2 + k := ⟨i - Q.length - 2, by omega⟩
          obtain ⟨k, rfl⟩ := this
          simp [List.getElem_append, show ¬ Q.length + 2 + k < Q.length by omega, show Q.length + 2 + k - Q.length = k + 2 by omega]
theorem inner_list (lt : α → α → Bool) (x : α) : ∀ (t R : List α), insInner lt 0 t.length (t.reverse ++ x :: R).toArray = ((insRev lt x t).reverse ++ R).toArray
  | [], R => by simp [insInner, insRev]
  | y :: t, R => by
    have e : (y :: t).reverse ++ x :: R = t.reverse ++ y :: x :: R := by simp
    rw [e]
    show insInner lt 0 (t.length + 1) _ = _
    unfold insInner
    have g1 : ((t.reverse ++ y :: x :: R).toArray)[t.length + 1]! = x := by rw [get_at _ _ (by simp)]; simp [List.getElem_append]
    have g0 : ((t.reverse ++ y :: x :: R).toArray)[t.length]! = y := by rw [get_at _ _ (by simp)]; simp [List.getElem_append]
    rw [g1, g0]
    by_cases h : lt x y = true
    · have s := swp_list t.reverse x y R
      rw [List.length_reverse] at s
      rw [if_pos (by simp [h]), s, inner_list lt x t (y :: R)]
      rw [insRev_cons, if_pos h]
      simp
    · rw [if_neg (by simp [h])]
      rw [insRev_cons, if_neg h]
      simp
/-- all, one by one -/
def insAll (lt : α → α → Bool) (out : List α) : List α → List α
  | [] => out
  | x :: t => insAll lt (insR lt out x) t
theorem insRev_len (lt : α → α → Bool) (x : α) : ∀ (t : List α), (insRev lt x t).length = t.length + 1
  | [] => rfl
  | y :: t => by
    rw [insRev_cons]
    split
    · simp [insRev_len lt x t]
    · simp
theorem insR_len (lt : α → α → Bool) (P : List α) (x : α) : (insR lt P x).length = P.length + 1 := by
  unfold insR; rw [List.length_reverse, insRev_len, List.length_reverse]
theorem outer_list (lt : α → α → Bool) : ∀ (R P : List α) (n : Nat), P.length + R.length = n → insOuter lt 0 n P.length (P ++ R).toArray = (insAll lt P R).toArray
  | [], P, n, h => by
    rw [insOuter, if_neg (by simp at h; omega)]
    simp [insAll]
  | x :: R, P, n, h => by
    rw [insOuter, if_pos (by simp at h; omega)]
    have := inner_list lt x P.reverse R
    rw [List.length_reverse, List.reverse_reverse] at this
    rw [this]
    have ih := outer_list lt R (insR lt P x) n (by rw [insR_len]; simp at h; omega)
    rw [insR_len] at ih
    exact ih
theorem insertion_list (lt : α → α → Bool) (x : α) (R : List α) : (Sort.insertionSort lt (x :: R).toArray 0 (x :: R).length).toList = insAll lt [x] R := by
  have := outer_list lt R [x] (x :: R).length (by simp; omega)
  unfold Sort.insertionSort
  show (insOuter lt 0 (x :: R).length 1 ([x] ++ R).toArray).toList = _
  rw [show (1 : Nat) = [x].length from rfl, this]
end Go.Proofs.Ytlifioeeooclfaa.Rl
namespace Go.Proofs.Ytlifioeeooclfaa.Rl
open Go.Sort Dbl
set_option linter.unusedSimpArgs false
set_option linter.unusedSectionVars false
set_option linter.unusedVariables false
theorem insRev_map {α β : Type} [Inhabited α] [Inhabited β] (f : α → β) (lt : α → α → Bool) (lt' : β → β → Bool) (h : ∀ x y, lt x y = lt' (f x) (f y)) (x : α) : ∀ t : List α, (insRev lt x t).map f = insRev lt' (f x) (t.map f)
  | [] => rfl
  | y :: t => by
    rw [insRev_cons, List.map_cons, insRev_cons, h]
    split
    · rw [List.map_cons, insRev_map f lt lt' h x t]
    · rfl
theorem insAll_map {α β : Type} [Inhabited α] [Inhabited β] (f : α → β) (lt : α → α → Bool) (lt' : β → β → Bool) (h : ∀ x y, lt x y = lt' (f x) (f y)) : ∀ (t P : List α), (insAll lt P t).map f = insAll lt' (P.map f) (t.map f)
  | [], P => rfl
  | x :: t, P => by
    show (insAll lt (insR lt P x) t).map f = insAll lt' (insR lt' (P.map f) (f x)) (t.map f)
    rw [insAll_map f lt lt' h t]
    unfold insR
    rw [List.map_reverse, insRev_map f lt lt' h, List.map_reverse]
/-- does place x stand ahead of place y? -/
def ltN (sc : List Nat) (x y : Nat) : Bool := decide (cmpU (sc.getD y 0) (sc.getD x 0) < 0)
/-- the order of the first n places -/
def ordN (sc : List Nat) (n : Nat) : List Nat := insAll (ltN sc) [] (List.range n)
theorem insAll_snoc {α : Type} [Inhabited α] (lt : α → α → Bool) (x : α) : ∀ (t P : List α), insAll lt P (t ++ [x]) = insR lt (insAll lt P t) x
  | [], P => rfl
  | y :: t, P => insAll_snoc lt x t (insR lt P y)
theorem ordN_succ (sc : List Nat) (n : Nat) : ordN sc (n + 1) = insR (ltN sc) (ordN sc n) n := by
  unfold ordN
  rw [List.range_succ, insAll_snoc]
theorem ordN_len (sc : List Nat) : ∀ n, (ordN sc n).length = n
  | 0 => rfl
  | n + 1 => by rw [ordN_succ, insR_len, ordN_len sc n]
theorem mem_insRev {α : Type} [Inhabited α] (lt : α → α → Bool) (x z : α) : ∀ t : List α, z ∈ insRev lt x t ↔ z = x ∨ z ∈ t
  | [] => by simp [insRev]
  | y :: t => by
    rw [insRev_cons]
    split
    · rw [List.mem_cons, mem_insRev lt x z t, List.mem_cons]
      constructor
      · rintro (h | h | h)
        · exact .inr (.inl h)
        · exact .inl h
        · exact .inr (.inr h)
      · rintro (h | h | h)
        · exact .inr (.inl h)
        · exact .inl h
        · exact .inr (.inr h)
    · simp
theorem mem_insR {α : Type} [Inhabited α] (lt : α → α → Bool) (P : List α) (x z : α) : z ∈ insR lt P x ↔ z = x ∨ z ∈ P := by
  unfold insR; rw [List.mem_reverse, mem_insRev, List.mem_reverse]
theorem ordN_lt (sc : List Nat) : ∀ n, ∀ x ∈ ordN sc n, x < n
  | 0, x, h => by simp [ordN, insAll] at h
  | n + 1, x, h => by
    rw [ordN_succ, mem_insR] at h
    rcases h with rfl | h
    · omega
    · have := ordN_lt sc n x h; omega
theorem ordF_eq (M : Nat) (sc : List Nat) : ordF M sc = (ordN sc (M + 1)).map fun x : Nat => (x : Int) := by
  have e : (Array.ofFn fun i : Fin (M + 1) => i) = (List.ofFn fun i : Fin (M + 1) => i).toArray := by
    apply Array.ext'
    simp
  obtain ⟨x, R, hx⟩ : ∃ x R, (List.ofFn fun i : Fin (M + 1) => i) = x :: R := by
    cases h : (List.ofFn fun i : Fin (M + 1) => i) with
    | nil => have := congrArg List.length h; simp at this
    | cons x R => exact ⟨x, R, rfl⟩
  have hl : (x :: R).length = M + 1 := by rw [← hx]; simp
  have h1 : (ordA M sc).toList = insAll (ltOf (cfF M sc)) [] (List.ofFn fun i : Fin (M + 1) => i) := by
    unfold ordA
    have h3 := insertion_list (ltOf (cfF M sc)) x R
    rw [hl] at h3
    rw [e, hx, h3]
    rfl
  have h2 : (ordA M sc).toList.map (fun x => x.val) = ordN sc (M + 1) := by
    rw [h1, insAll_map (fun x : Fin (M + 1) => x.val) (ltOf (cfF M sc)) (ltN sc) (fun a b => rfl)]
    unfold ordN
    congr 1
    apply List.ext_getElem
    · simp
    · intro i a b
      rw [List.getElem_map, List.getElem_ofFn, List.getElem_range]
  unfold ordF
  rw [← h2, List.map_map]
  rfl
end Go.Proofs.Ytlifioeeooclfaa.Rl
namespace Go.Proofs.Ytlifioeeooclfaa.Rl
open Go.Sort Dbl
set_option linter.unusedSimpArgs false
set_option linter.unusedSectionVars false
set_option linter.unusedVariables false
theorem insRev_app {α : Type} [Inhabited α] (lt : α → α → Bool) (x : α) : ∀ (S T : List α), (∀ z ∈ S, lt x z = true) → insRev lt x (S ++ T) = S ++ insRev lt x T
  | [], T, _ => rfl
  | y :: S, T, h => by
    rw [List.cons_append, insRev_cons, if_pos (h y (List.mem_cons_self ..)), insRev_app lt x S T fun z hz => h z (List.mem_cons_of_mem _ hz)]
    rfl
theorem insR_app {α : Type} [Inhabited α] (lt : α → α → Bool) (x : α) (A B : List α) (h : ∀ z ∈ B, lt x z = true) : insR lt (A ++ B) x = insR lt A x ++ B := by
  unfold insR
  rw [List.reverse_append, insRev_app lt x _ _ (fun z hz => h z (List.mem_reverse.1 hz))]
  simp
theorem insR_end {α : Type} [Inhabited α] (lt : α → α → Bool) (x : α) (A : List α) (h : A = [] ∨ ∃ A' y, A = A' ++ [y] ∧ lt x y = false) : insR lt A x = A ++ [x] := by
  rcases h with rfl | ⟨A', y, rfl, h⟩
  · rfl
  · unfold insR
    rw [List.reverse_append]
    show (insRev lt x (y :: A'.reverse)).reverse = _
    rw [insRev_cons, if_neg (by simp [h])]
    simp
/-- .. as the reference finds the place -/
theorem insR_at {α : Type} [Inhabited α] (lt : α → α → Bool) (x : α) (P : List α) (k : Nat) (hk : k ≤ P.length) (h1 : ∀ j (hj : j < P.length), k ≤ j → lt x P[j] = true) (h2 : k = 0 ∨ ∃ h : k - 1 < P.length, 0 < k ∧ lt x P[k - 1] = false) :
    insR lt P x = P.take k ++ [x] ++ P.drop k := by
  conv => lhs; rw [← List.take_append_drop k P]
  rw [insR_app, insR_end]
  · rcases h2 with rfl | ⟨hl, hk0, h2⟩
    · exact .inl (by simp)
    · refine .inr ⟨P.take (k - 1), P[k - 1], ?_, h2⟩
      obtain ⟨q, rfl⟩ : ∃ q, k = q + 1 := ⟨k - 1, by omega⟩
      exact List.take_succ_eq_append_getElem hl
  · intro z hz
    obtain ⟨j, hj, rfl⟩ := List.getElem_of_mem hz
    rw [List.getElem_drop]
    exact h1 _ _ (by omega)
/-- a list in reverse: none stands ahead of the one that comes before it -/
def Dn {α : Type} (lt : α → α → Bool) : List α → Prop
  | [] => True
  | [_] => True
  | u :: v :: t => lt u v = false ∧ Dn lt (v :: t)
theorem Dn_tail {α : Type} {lt : α → α → Bool} {u : α} {t : List α} (h : Dn lt (u :: t)) : Dn lt t := by
  cases t with
  | nil => trivial
  | cons v t => exact h.2
theorem Dn_cons {α : Type} {lt : α → α → Bool} {u : α} {t : List α} (h : Dn lt t) (h0 : ∀ v ∈ t.head?, lt u v = false) : Dn lt (u :: t) := by
  cases t with
  | nil => trivial
  | cons v t => exact ⟨h0 v rfl, h⟩
theorem insRev_dn {α : Type} [Inhabited α] (lt : α → α → Bool) (ha : ∀ x y, lt x y = true → lt y x = false) (x : α) : ∀ t : List α, Dn lt t → Dn lt (insRev lt x t)
  | [], _ => trivial
  | [y], _ => by
    rw [insRev_cons]
    split
    · rename_i h; exact ⟨ha _ _ h, trivial⟩
    · rename_i h; exact ⟨by simpa using h, trivial⟩
  | y :: z :: t, h => by
    rw [insRev_cons]
    split
    · rename_i hy
      refine Dn_cons (insRev_dn lt ha x (z :: t) h.2) ?_
      intro v hv
      rw [insRev_cons] at hv
      split at hv
      · rw [List.head?_cons, Option.mem_some_iff] at hv; subst hv; exact h.1
      · rw [List.head?_cons, Option.mem_some_iff] at hv; subst hv; exact ha _ _ hy
    · rename_i hy
      exact ⟨by simpa using hy, h⟩
theorem ltN_asymm (sc : List Nat) (x y : Nat) (h : ltN sc x y = true) : ltN sc y x = false := by
  unfold ltN at *
  have h := of_decide_eq_true h
  refine decide_eq_false ?_
  unfold cmpU at *
  split at h <;> rename_i h1
  · rw [if_neg (by omega)]
    split <;> omega
  · split at h <;> omega
theorem ordN_dn (sc : List Nat) : ∀ n, Dn (ltN sc) (ordN sc n).reverse
  | 0 => trivial
  | n + 1 => by
    rw [ordN_succ]
    unfold insR
    rw [List.reverse_reverse]
    exact insRev_dn _ (ltN_asymm sc) _ _ (ordN_dn sc n)
theorem Dn_at {α : Type} {lt : α → α → Bool} : ∀ (t : List α), Dn lt t → ∀ (i : Nat) (h : i + 1 < t.length), lt t[i] t[i + 1] = false
  | [], _, i, h => by simp at h
  | [_], _, i, h => by simp at h
  | u :: v :: t, hd, 0, h => hd.1
  | u :: v :: t, hd, i + 1, h => Dn_at (v :: t) hd.2 i (by simpa using h)
/-- of two that stand side by side the later one does not stand ahead -/
theorem ordN_falls (sc : List Nat) (n i : Nat) (h : i + 1 < (ordN sc n).length) : ltN sc (ordN sc n)[i + 1] (ordN sc n)[i] = false := by
  have hl : (ordN sc n).reverse.length = (ordN sc n).length := List.length_reverse
  have := Dn_at _ (ordN_dn sc n) ((ordN sc n).length - 1 - (i + 1)) (by rw [hl]; omega)
  rw [List.getElem_reverse, List.getElem_reverse] at this
  rw [← this]
  congr 2 <;> omega
end Go.Proofs.Ytlifioeeooclfaa.Rl
namespace Go.Proofs.Ytlifioeeooclfaa.Rl
open Go.ChangeShapes Go.WideShapes Go.ChangeAt Go.RowKit Dbl
open Go.Proofs.Ytlifioeeooclfaa.Opn (Opens fopens_cons fopens_one opens_int opens_float opens_slice opens_struct)
open Go.Proofs.YtlifioeeooclfaaW.PrintWords Go.Proofs.YtlifioeeooclfaaW.PrintLast Go.Proofs.YtlifioeeooclfaaW.PrintMore
set_option linter.unusedVariables false
abbrev kBts : Kd (Int × List Nat) := Kd.pair (Kd.int .i64) (Kd.slice 30 Opn.flt)
def wIntB (n : Int) : Prop := (Lit.int .i64 n).wf = true
def wFl (xs : List Nat) : Prop := xs.length ≤ maxLen ∧ xs.length * 8 ≤ 140737488351232 ∧ ∀ x ∈ xs, x < 18446744073709551616
def wBts (p : Int × List Nat) : Prop := wIntB p.1 ∧ wFl p.2
theorem opens_beats : Opens Try.prog 25 kBts wBts := by
  refine @opens_struct _ _ _ _ _ _ Try.underlying25 (by kernel_rfl) ?_
  refine @fopens_cons Try.prog _ _ 0 _ _ (Kd.int .i64) (Kd.slice 30 Opn.flt) (wIntB) (wFl) rfl (by kernel_rfl) ?_ ?_
  · exact @opens_int _ _ _ Try.underlying3
  exact @fopens_one Try.prog _ 1 _ (Kd.slice 30 Opn.flt) (wFl) rfl (by kernel_rfl) (@opens_slice _ _ _ _ _ _ 8 Try.underlying23 (by kernel_rfl) (by kernel_rfl) (@opens_float _ _ Try.underlying30))
theorem beats_at {w : World} {A : Option Addr} {l : List (Int × List Nat)} (h : Kd.C kBts w A l.length l) (k : Nat) (hk : k < l.length) (hw : wBts l[k]) :
    ∃ ad B c, A = some ad ∧ w.cell? (ad.add (k * 2)) = some (.int .i64 l[k].1) ∧ w.cell? (ad.add (k * 2 + 1)) = some (.slice B l[k].2.length c) ∧ Bt w B c l[k].2 := by
  obtain ⟨ad, e, hc⟩ := h.2.2 (by omega)
  obtain ⟨cs, hs, hr, hcell⟩ := hc k _ (List.getElem?_eq_getElem hk)
  obtain ⟨c0, c1, rfl, h0, B, c, rfl, hcc, hC⟩ := hr
  obtain rfl : c0 = [.int .i64 l[k].1] := h0
  have g0 := hcell 0 _ rfl
  have g1 := hcell 1 _ rfl
  exact ⟨ad, B, c, e, g0, g1, hC, hcc, by have := hw.2.2.1; omega, hw.2.2.2⟩
/-- .. by its block -/
theorem beats_blk {w : World} {A : Option Addr} {l : List (Int × List Nat)} (h : Kd.C kBts w A l.length l) (k : Nat) (hk : k < l.length) (hw : wBts l[k]) (hw0 : wBts (l[0]'(by omega))) :
    ∃ b off B c, A = some ⟨b, off, none⟩ ∧ w.cell? ⟨b, off + k * 2, none⟩ = some (.int .i64 l[k].1) ∧ w.cell? ⟨b, off + k * 2 + 1, none⟩ = some (.slice B l[k].2.length c) ∧ Bt w B c l[k].2 := by
  obtain ⟨ad, B, c, e, z0, z1, hB⟩ := beats_at h k hk hw
  obtain ⟨b, off, sp⟩ := ad
  have hk1 : k * 2 + 1 ≠ 0 := by omega
  cases sp with
  | none =>
    refine ⟨b, off, B, c, e, ?_, ?_, hB⟩
    · rw [← z0]
      unfold Addr.add
      split <;> simp_all
    · rw [← z1]
      unfold Addr.add
      rw [if_neg hk1]
      rfl
  | some q =>
    exfalso
    obtain ⟨ad0, B0, c0, e0, y0, y1, _⟩ := beats_at h 0 (by omega) hw0
    rw [e] at e0
    obtain rfl := Option.some.inj e0
    simp [World.cell?, Addr.add] at y0
    split at y0 <;> simp at y0
end Go.Proofs.Ytlifioeeooclfaa.Rl
