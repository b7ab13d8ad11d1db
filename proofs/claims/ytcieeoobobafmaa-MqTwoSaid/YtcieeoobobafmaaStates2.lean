/-
  states.At, Begin of the program and of the reference: wherever they are asked. Conditions: none.
-/
import Derived.Test.YtcieeoobobafmaaStates
import Derived.Deep.WholeRow
namespace Go.Proofs.Ytcieeoobobafmaa
open Go.RowKit

/-- A state's four cells, the reference's way. -/
def rcells4 (s : Nat × Nat × Nat × Bool) : List Value := [.int .i64 s.1, .int .i64 s.2.1, .int .i64 s.2.2.1, .int .i64 (if s.2.2.2 then 1 else 0)]
def rCells : Array Value := (tab.flatMap rcells4).toArray
def rZero : Array Value := (List.replicate 188 (Value.int .i64 0)).toArray
theorem rtab_size : rCells.size = 188 := by decide +kernel
theorem rtab_one : rCells.all (·.oneCell') = true := by decide +kernel
theorem rtab_cell (i j : Nat) (hi : i < 47) (hj : j < 4) : rCells[i * 4 + j]? = (rcells4 (tabAt i))[j]? := by
  have : ∀ i, i < 47 → ∀ j, j < 4 → same1 (rCells[i * 4 + j]?) (rcells4 (tabAt i))[j]? = true := by decide +kernel
  exact same1_eq (this i hi j hj)

set_option maxHeartbeats 400000 in
theorem at_none (x : Int) (w : World) (h : x < 0 ∨ 46 < x) :
    Calls Try.prog 44 #[.int .i64 x] w fun e w' => e = .returned (.agg #[.int .i64 0, .int .i64 0, .int .i64 0, .bool false]) ∧ Keep (fun _ => False) w w' := by
  by_cases h0 : x < 0
  · clear h
    go_enter Try.func44, Try.ntmps44
    go_wp2_with fail
    exact bodyPost_ret (v := .agg #[.int .i64 0, .int .i64 0, .int .i64 0, .bool false]) (by simp [results, Try.results44, go_sem]) rfl ⟨rfl, (Keep.refl _ w).alloc _⟩
  · have h1 : 46 < x := by omega
    clear h
    go_enter Try.func44, Try.ntmps44
    go_wp2_with fail
    exact bodyPost_ret (v := .agg #[.int .i64 0, .int .i64 0, .int .i64 0, .bool false]) (by simp [results, Try.results44, go_sem]) rfl ⟨rfl, (Keep.refl _ w).alloc _⟩

/-- One of a row; none: 0. -/
def pickM (zs : List Int) (x : Int) : Int := if x < 0 then 0 else zs.getD x.toNat 0
set_option maxHeartbeats 400000 in
theorem pick_any (A : Option Addr) (n c : Nat) (zs : List Int) (x : Int) (w : World) (h : Rd w A n (zs.map (Value.int .i64))) :
    Calls Try.prog 43 #[.slice A n c, .int .i64 x] w fun e w' => e = .returned (.int .i64 (pickM zs x)) ∧ w = w' := by
  by_cases h1 : x < 0
  · have HM := hid (show pickM zs x = 0 from if_pos h1)
    go_enter Try.func43, Try.ntmps43
    go_wp2_with fail
    go_ret
    exact ⟨by rw [HM.out]; rfl, rfl⟩
  · by_cases h2 : (n : Int) ≤ x
    · have HM := hid (show pickM zs x = 0 by
        unfold pickM
        rw [if_neg h1, List.getD_eq_getElem?_getD, List.getElem?_eq_none (by rw [h.len]; omega)]; rfl)
      clear h
      go_enter Try.func43, Try.ntmps43
      go_wp2_with fail
      go_ret
      exact ⟨by rw [HM.out]; rfl, rfl⟩
    · obtain ⟨j, rfl⟩ := Int.eq_ofNat_of_zero_le (show 0 ≤ x by omega)
      have hj : j < n := by omega
      obtain ⟨b, o, rfl, hc⟩ := h.int_ix hj
      have hm : zs.getD j 0 = pickM zs j := by unfold pickM; rw [if_neg h1]; rfl
      rw [hm] at hc
      clear h hm
      generalize pickM zs j = z at *
      go_enter Try.func43, Try.ntmps43
      go_wp2_with fail
      go_ret
      exact ⟨rfl, rfl⟩
/-- A context's first state. -/
def begM (x : Int) : Int := if x = 0 then 4 else if x = 17 then 3 else if x = 18 then 46 else 0
def begTab : List Int := [4, 0, 0, 0, 0, 0, 0, 0, 0, 0, 0, 0, 0, 0, 0, 0, 0, 3, 46]
theorem beg_pick (x : Int) : pickM begTab x = begM x := by
  unfold pickM
  by_cases h : x < 0
  · rw [if_pos h]; unfold begM; rw [if_neg (by omega), if_neg (by omega), if_neg (by omega)]
  · rw [if_neg h]
    by_cases h2 : x < 19
    · have : ∀ k : Nat, k < 19 → begTab.getD k 0 = begM k := by decide +kernel
      have := this x.toNat (by omega)
      rw [this, Int.toNat_of_nonneg (by omega)]
    · rw [List.getD_eq_getElem?_getD, List.getElem?_eq_none (by show 19 ≤ _; omega)]
      unfold begM; rw [if_neg (by omega), if_neg (by omega), if_neg (by omega)]; rfl
set_option maxHeartbeats 800000 in
theorem begin_any (x : Int) (w : World) :
    Calls Try.prog 30 #[.int .i64 x] w fun e w' => e = .returned (.int .i64 (begM x)) ∧ Keep (fun _ => False) w w' := by
  have hB := hid (beg_pick x)
  go_enter Try.func30, Try.ntmps30
  go_wp2_with fail
  refine (pick_any _ 19 _ begTab x _ ⟨rfl, fun _ => ⟨_, rfl, fun j u hu => ?_⟩⟩).mono ?_
  · have hc : begTab.map (Value.int .i64) = [.int .i64 4, .int .i64 0, .int .i64 0, .int .i64 0, .int .i64 0, .int .i64 0, .int .i64 0, .int .i64 0, .int .i64 0, .int .i64 0, .int .i64 0, .int .i64 0, .int .i64 0, .int .i64 0, .int .i64 0, .int .i64 0, .int .i64 0, .int .i64 3, .int .i64 46] := rfl
    rw [hc] at hu
    rw [add_lit', Nat.zero_add]
    have := (Blk.new w 3 #[.int .i64 4, .int .i64 0, .int .i64 0, .int .i64 0, .int .i64 0, .int .i64 0, .int .i64 0, .int .i64 0, .int .i64 0, .int .i64 0, .int .i64 0, .int .i64 0, .int .i64 0, .int .i64 0, .int .i64 0, .int .i64 0, .int .i64 0, .int .i64 3, .int .i64 46]).cell j
    refine this.trans ?_
    rw [← hu, List.getElem?_toArray]
  rintro e w' ⟨rfl, rfl⟩
  go_wp2_with fail
  go_ret
  exact ⟨by rw [hB.out]; rfl, (Keep.refl _ w).alloc _⟩
set_option maxHeartbeats 400000 in
theorem rbegin_any (x : Int) (w : World) :
    Calls Try.prog 41 #[.int .i64 x] w fun e w' => e = .returned (.int .i64 (begM x)) ∧ w = w' := by
  by_cases h0 : x = 0
  · subst h0
    go_enter Try.func41, Try.ntmps41
    go_wp2_with fail
    go_ret
    exact ⟨rfl, rfl⟩
  · by_cases h1 : x = 17
    · subst h1
      go_enter Try.func41, Try.ntmps41
      go_wp2_with fail
      go_ret
      exact ⟨rfl, rfl⟩
    · by_cases h2 : x = 18
      · subst h2
        go_enter Try.func41, Try.ntmps41
        go_wp2_with fail
        go_ret
        exact ⟨rfl, rfl⟩
      · have HM := hid (show begM x = 0 by unfold begM; rw [if_neg h0, if_neg h1, if_neg h2])
        have a0 : (x == 0) = false := by simpa using h0
        have a1 : (x == 17) = false := by simpa using h1
        have a2 : (x == 18) = false := by simpa using h2
        clear h0 h1 h2
        go_enter Try.func41, Try.ntmps41
        go_wp2_with fail
        go_ret
        exact ⟨by rw [HM.out]; rfl, rfl⟩

set_option maxRecDepth 100000 in
set_option maxHeartbeats 4000000 in
theorem rows_any (w : World) :
    Calls Try.prog 38 #[] w fun e w' => e = .returned (.agg rCells) ∧ Keep (fun _ => False) w w' := by
  have hz : ∀ w, (zeroValue 75).run Try.prog w = .ok (.agg rZero) w := fun _ => by kernel_rfl
  go_enter Try.func38, Try.ntmps38
  go_upto_region 1 with fail
  refine wp_region_lit ?_
  iterate 48 (refine wpList_build rfl _ _ rfl (by kernel_rfl) ?_)
  refine wpList_act (a' := ⟨#[Value.pointer (some ⟨w.heap.size, 0, none⟩), Value.agg (rcells4 (tabAt 0)).toArray, Value.agg (rcells4 (tabAt 1)).toArray, Value.agg (rcells4 (tabAt 2)).toArray, Value.agg (rcells4 (tabAt 3)).toArray, Value.agg (rcells4 (tabAt 4)).toArray, Value.agg (rcells4 (tabAt 5)).toArray, Value.agg (rcells4 (tabAt 6)).toArray, Value.agg (rcells4 (tabAt 7)).toArray, Value.agg (rcells4 (tabAt 8)).toArray, Value.agg (rcells4 (tabAt 9)).toArray, Value.agg (rcells4 (tabAt 10)).toArray, Value.agg (rcells4 (tabAt 11)).toArray, Value.agg (rcells4 (tabAt 12)).toArray, Value.agg (rcells4 (tabAt 13)).toArray, Value.agg (rcells4 (tabAt 14)).toArray, Value.agg (rcells4 (tabAt 15)).toArray, Value.agg (rcells4 (tabAt 16)).toArray, Value.agg (rcells4 (tabAt 17)).toArray, Value.agg (rcells4 (tabAt 18)).toArray, Value.agg (rcells4 (tabAt 19)).toArray, Value.agg (rcells4 (tabAt 20)).toArray, Value.agg (rcells4 (tabAt 21)).toArray, Value.agg (rcells4 (tabAt 22)).toArray, Value.agg (rcells4 (tabAt 23)).toArray, Value.agg (rcells4 (tabAt 24)).toArray, Value.agg (rcells4 (tabAt 25)).toArray, Value.agg (rcells4 (tabAt 26)).toArray, Value.agg (rcells4 (tabAt 27)).toArray, Value.agg (rcells4 (tabAt 28)).toArray, Value.agg (rcells4 (tabAt 29)).toArray, Value.agg (rcells4 (tabAt 30)).toArray, Value.agg (rcells4 (tabAt 31)).toArray, Value.agg (rcells4 (tabAt 32)).toArray, Value.agg (rcells4 (tabAt 33)).toArray, Value.agg (rcells4 (tabAt 34)).toArray, Value.agg (rcells4 (tabAt 35)).toArray, Value.agg (rcells4 (tabAt 36)).toArray, Value.agg (rcells4 (tabAt 37)).toArray, Value.agg (rcells4 (tabAt 38)).toArray, Value.agg (rcells4 (tabAt 39)).toArray, Value.agg (rcells4 (tabAt 40)).toArray, Value.agg (rcells4 (tabAt 41)).toArray, Value.agg (rcells4 (tabAt 42)).toArray, Value.agg (rcells4 (tabAt 43)).toArray, Value.agg (rcells4 (tabAt 44)).toArray, Value.agg (rcells4 (tabAt 45)).toArray, Value.agg (rcells4 (tabAt 46)).toArray, Value.agg rCells], []⟩) (by kernel_rfl) ?_
  clear hz
  go_wp2_with (
    refine wpList_store_row rfl 75 _ _ rfl w.heap.size rCells rfl rfl 75 rZero ?hg (by rw [rtab_size]; kernel_rfl) (by rw [rtab_size]; decide +kernel) rtab_one ?_)
  case hg => exact Blk.new w 75 rZero
  rw [setRow_new]
  have hl := run_loadVar_new (P := Try.prog) w 75 rCells 47 74 Try.underlying75 (by rw [rtab_size]; kernel_rfl)
  refine bodyPost_ret (v := .agg rCells) ?_ rfl ⟨rfl, (Keep.refl _ w).alloc _⟩
  simp only [results, Try.results38, Act.put]
  simp [asAddr, Sem.run_bind, hl]

set_option maxHeartbeats 800000 in
theorem rat_none (x : Int) (w : World) (h : x < 0 ∨ 46 < x) :
    Calls Try.prog 20 #[.int .i64 x] w fun e w' => e = .returned (.agg #[.int .i64 0, .int .i64 0, .int .i64 0, .bool false]) ∧ Keep (fun _ => False) w w' := by
  by_cases h0 : x < 0
  · clear h
    go_enter Try.func20, Try.ntmps20
    go_wp2_with fail
    exact bodyPost_ret (v := .agg #[.int .i64 0, .int .i64 0, .int .i64 0, .bool false]) (by simp [results, Try.results20, go_sem]) rfl ⟨rfl, (Keep.refl _ w).alloc _⟩
  · have h1 : 46 < x := by omega
    clear h
    go_enter Try.func20, Try.ntmps20
    go_wp2_with fail
    exact bodyPost_ret (v := .agg #[.int .i64 0, .int .i64 0, .int .i64 0, .bool false]) (by simp [results, Try.results20, go_sem]) rfl ⟨rfl, (Keep.refl _ w).alloc _⟩

set_option maxRecDepth 100000 in
set_option maxHeartbeats 4000000 in
theorem rat_any (i : Nat) (w : World) (h : i < 47) :
    Calls Try.prog 20 #[.int .i64 i] w fun e w' => e = .returned (.agg (cells4 (tabAt i)).toArray) ∧ Keep (fun _ => False) w w' := by
  have hz : ∀ w, (zeroValue 75).run Try.prog w = .ok (.agg rZero) w := fun _ => by kernel_rfl
  have t0 : rCells[i * 4]? = some (.int .i64 (tabAt i).1) := rtab_cell i 0 h (by omega)
  have t1 : rCells[i * 4 + 1]? = some (.int .i64 (tabAt i).2.1) := rtab_cell i 1 h (by omega)
  have t2 : rCells[i * 4 + 2]? = some (.int .i64 (tabAt i).2.2.1) := rtab_cell i 2 h (by omega)
  have t3 : rCells[i * 4 + 3]? = some (.int .i64 (if (tabAt i).2.2.2 then 1 else 0)) := rtab_cell i 3 h (by omega)
  obtain ⟨q, m, l, s, ht⟩ : ∃ q m l s, tabAt i = (q, m, l, s) := ⟨_, _, _, _, rfl⟩
  rw [ht] at t0 t1 t2 t3 ⊢
  simp only at t0 t1 t2 t3
  clear ht
  go_enter Try.func20, Try.ntmps20
  go_wp2_with fail
  refine (rows_any _).mono ?_
  rintro e w1 ⟨rfl, hk1⟩
  go_wp2_with (
    refine wpList_store_row rfl 75 _ _ rfl w1.heap.size rCells rfl rfl 75 rZero ?hg (by rw [rtab_size]; kernel_rfl) (by rw [rtab_size]; decide +kernel) rtab_one ?_)
  case hg => exact Blk.new w1 75 rZero
  rw [setRow_new]
  have hb0 : Blk (w1.alloc (.cells rCells 75)) w.heap.size 41 #[.int .i64 0, .int .i64 0, .int .i64 0, .bool false] := ((Blk.new w 41 _).keep hk1 (fun h => h)).alloc _
  have hb1 : Blk (w1.alloc (.cells rCells 75)) w1.heap.size 75 rCells := Blk.new _ _ _
  have hks := hk1.size
  simp only [World.size_alloc] at hks
  have hne : w.heap.size ≠ w1.heap.size := by omega
  have HKK := hid (((Keep.refl (fun _ => False) w).alloc _).trans hk1 (fun _ _ h => h) |>.alloc (.cells rCells 75))
  generalize hw2 : w1.alloc (.cells rCells 75) = w2 at *
  generalize w1.heap.size = g at *
  have c0 : w2.cell? ⟨g, i * 4, none⟩ = some (.int .i64 q) := (hb1.cell _).trans t0
  have c1 : w2.cell? ⟨g, i * 4 + 1, none⟩ = some (.int .i64 m) := (hb1.cell _).trans t1
  have c2 : w2.cell? ⟨g, i * 4 + 2, none⟩ = some (.int .i64 l) := (hb1.cell _).trans t2
  have c3 : w2.cell? ⟨g, i * 4 + 3, none⟩ = some (.int .i64 (if s = true then 1 else 0)) := (hb1.cell _).trans t3
  have z0 : w2.cell? ⟨w.heap.size, 0, none⟩ = some (.int .i64 0) := hb0.cell 0
  have z1 : w2.cell? ⟨w.heap.size, 1, none⟩ = some (.int .i64 0) := hb0.cell 1
  have z2 : w2.cell? ⟨w.heap.size, 2, none⟩ = some (.int .i64 0) := hb0.cell 2
  have z3 : w2.cell? ⟨w.heap.size, 3, none⟩ = some (.bool false) := hb0.cell 3
  have f0 := hb0.frozen 0
  have f1 := hb0.frozen 1
  have f2 := hb0.frozen 2
  have f3 := hb0.frozen 3
  have HB0 := hid hb0
  clear hw2 hz hb1 hb0 t0 t1 t2 t3 hk1 hks
  have hi47 : (i : Int) < 47 := by omega
  simp only [Act.put]
  cases s with
  | true =>
    simp only [if_true] at c3
    have HB9 := hid (((((HB0.out.set_ 0 (.int .i64 q)).set_ 1 (.int .i64 m)).set_ 2 (.int .i64 l)).set_ 3 (.bool true)).drew)
    have HK9 := hid (((((HKK.out.setCell (p := ⟨w.heap.size, 0, none⟩) (.inr (Nat.le_refl _)) (.int .i64 q)).setCell (p := ⟨w.heap.size, 1, none⟩) (.inr (Nat.le_refl _)) (.int .i64 m)).setCell (p := ⟨w.heap.size, 2, none⟩) (.inr (Nat.le_refl _)) (.int .i64 l)).setCell (p := ⟨w.heap.size, 3, none⟩) (.inr (Nat.le_refl _)) (.bool true)).drew)
    go_region
    go_wp2_with fail
    generalize ((((w2.setCell ⟨w.heap.size, 0, none⟩ (.int .i64 q)).setCell ⟨w.heap.size, 1, none⟩ (.int .i64 m)).setCell ⟨w.heap.size, 2, none⟩ (.int .i64 l)).setCell ⟨w.heap.size, 3, none⟩ (.bool true)).drew = w9 at *
    have e0 : w9.cell? ⟨w.heap.size, 0, none⟩ = some (.int .i64 q) := HB9.out.cell 0
    have e1 : w9.cell? ⟨w.heap.size, 1, none⟩ = some (.int .i64 m) := HB9.out.cell 1
    have e2 : w9.cell? ⟨w.heap.size, 2, none⟩ = some (.int .i64 l) := HB9.out.cell 2
    have e3 : w9.cell? ⟨w.heap.size, 3, none⟩ = some (.bool true) := HB9.out.cell 3
    exact bodyPost_ret (v := .agg #[.int .i64 q, .int .i64 m, .int .i64 l, .bool true]) (by simp [results, Try.results20, go_sem, e0, e1, e2, e3]) rfl ⟨rfl, HK9.out⟩
  | false =>
    simp only [Bool.false_eq_true, if_false] at c3
    have HB9 := hid (((((HB0.out.set_ 0 (.int .i64 q)).set_ 1 (.int .i64 m)).set_ 2 (.int .i64 l)).set_ 3 (.bool false)).drew)
    have HK9 := hid (((((HKK.out.setCell (p := ⟨w.heap.size, 0, none⟩) (.inr (Nat.le_refl _)) (.int .i64 q)).setCell (p := ⟨w.heap.size, 1, none⟩) (.inr (Nat.le_refl _)) (.int .i64 m)).setCell (p := ⟨w.heap.size, 2, none⟩) (.inr (Nat.le_refl _)) (.int .i64 l)).setCell (p := ⟨w.heap.size, 3, none⟩) (.inr (Nat.le_refl _)) (.bool false)).drew)
    go_region
    go_wp2_with fail
    generalize ((((w2.setCell ⟨w.heap.size, 0, none⟩ (.int .i64 q)).setCell ⟨w.heap.size, 1, none⟩ (.int .i64 m)).setCell ⟨w.heap.size, 2, none⟩ (.int .i64 l)).setCell ⟨w.heap.size, 3, none⟩ (.bool false)).drew = w9 at *
    have e0 : w9.cell? ⟨w.heap.size, 0, none⟩ = some (.int .i64 q) := HB9.out.cell 0
    have e1 : w9.cell? ⟨w.heap.size, 1, none⟩ = some (.int .i64 m) := HB9.out.cell 1
    have e2 : w9.cell? ⟨w.heap.size, 2, none⟩ = some (.int .i64 l) := HB9.out.cell 2
    have e3 : w9.cell? ⟨w.heap.size, 3, none⟩ = some (.bool false) := HB9.out.cell 3
    exact bodyPost_ret (v := .agg #[.int .i64 q, .int .i64 m, .int .i64 l, .bool false]) (by simp [results, Try.results20, go_sem, e0, e1, e2, e3]) rfl ⟨rfl, HK9.out⟩

/-- The state of a number; none: all 0. -/
def valM (x : Int) : Nat × Nat × Nat × Bool := if 0 ≤ x ∧ x < 47 then tabAt x.toNat else (0, 0, 0, false)
theorem at_all (x : Int) (q m l : Nat) (s : Bool) (w : World) (ht : valM x = (q, m, l, s)) :
    Calls Try.prog 44 #[.int .i64 x] w fun e w' => e = .returned (.agg #[.int .i64 q, .int .i64 m, .int .i64 l, .bool s]) ∧ Keep (fun _ => False) w w' := by
  unfold valM at ht
  by_cases h : 0 ≤ x ∧ x < 47
  · rw [if_pos h] at ht
    obtain ⟨i, rfl⟩ := Int.eq_ofNat_of_zero_le h.1
    rw [Int.toNat_natCast] at ht
    refine (at_any i w (by omega)).mono ?_
    rintro e w' ⟨rfl, hk⟩
    rw [ht]
    exact ⟨rfl, hk⟩
  · rw [if_neg h] at ht
    injection ht with e1 e2
    injection e2 with e2 e3
    injection e3 with e3 e4
    subst e1 e2 e3 e4
    exact at_none x w (by omega)
theorem rat_all (x : Int) (q m l : Nat) (s : Bool) (w : World) (ht : valM x = (q, m, l, s)) :
    Calls Try.prog 20 #[.int .i64 x] w fun e w' => e = .returned (.agg #[.int .i64 q, .int .i64 m, .int .i64 l, .bool s]) ∧ Keep (fun _ => False) w w' := by
  unfold valM at ht
  by_cases h : 0 ≤ x ∧ x < 47
  · rw [if_pos h] at ht
    obtain ⟨i, rfl⟩ := Int.eq_ofNat_of_zero_le h.1
    rw [Int.toNat_natCast] at ht
    refine (rat_any i w (by omega)).mono ?_
    rintro e w' ⟨rfl, hk⟩
    rw [ht]
    exact ⟨rfl, hk⟩
  · rw [if_neg h] at ht
    injection ht with e1 e2
    injection e2 with e2 e3
    injection e3 with e3 e4
    subst e1 e2 e3 e4
    exact rat_none x w (by omega)
end Go.Proofs.Ytcieeoobobafmaa
