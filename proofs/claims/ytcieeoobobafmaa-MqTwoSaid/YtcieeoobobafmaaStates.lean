/-
  states.At of the program: the states' table. Conditions: none.
-/
import Derived.Test.YtcieeoobobafmaaProg
import Derived.Test.YtcieeoobobafmaaMem
import Derived.Deep.MidRow
import Derived.Deep.CutRange
namespace Go.Proofs.Ytcieeoobobafmaa
open Go.RowKit

/-- The 47 states: Qe, Mps, Lps, Swap. -/
def tab : List (Nat × Nat × Nat × Bool) := [(22017, 1, 1, true), (13313, 2, 6, false), (6145, 3, 9, false), (2753, 4, 12, false), (1313, 5, 29, false), (545, 38, 33, false), (22017, 7, 6, true), (21505, 8, 14, false), (18433, 9, 14, false), (14337, 10, 14, false), (12289, 11, 17, false), (9217, 12, 18, false), (7169, 13, 20, false), (5633, 29, 21, false), (22017, 15, 14, true), (21505, 16, 14, false), (20737, 17, 15, false), (18433, 18, 16, false), (14337, 19, 17, false), (13313, 20, 18, false), (12289, 21, 19, false), (10241, 22, 19, false), (9217, 23, 20, false), (8705, 24, 21, false), (7169, 25, 22, false), (6145, 26, 23, false), (5633, 27, 24, false), (5121, 28, 25, false), (4609, 29, 26, false), (4353, 30, 27, false), (2753, 31, 28, false), (2497, 32, 29, false), (2209, 33, 30, false), (1313, 34, 31, false), (1089, 35, 32, false), (673, 36, 33, false), (545, 37, 34, false), (321, 38, 35, false), (273, 39, 36, false), (133, 40, 37, false), (73, 41, 38, false), (37, 42, 39, false), (21, 43, 40, false), (9, 44, 41, false), (5, 45, 42, false), (1, 45, 43, false), (22017, 46, 46, false)]
def tabAt (i : Nat) : Nat × Nat × Nat × Bool := tab.getD i (0, 0, 0, false)
/-- A state's four cells. -/
def cells4 (s : Nat × Nat × Nat × Bool) : List Value := [.int .i64 s.1, .int .i64 s.2.1, .int .i64 s.2.2.1, .bool s.2.2.2]
def tabCells : Array Value := (tab.flatMap cells4).toArray
def zero4 : Array Value := #[.int .i64 0, .int .i64 0, .int .i64 0, .bool false]
def zeroTab : Array Value := ((List.replicate 47 zero4.toList).flatMap id).toArray

theorem tab_size : tabCells.size = 188 := by decide +kernel
theorem tab_one : tabCells.all (·.oneCell') = true := by decide +kernel
def same1 (x y : Option Value) : Bool :=
  match x, y with
  | some (Value.int IntKind.i64 a), some (Value.int IntKind.i64 b) => a == b
  | some (Value.bool a), some (Value.bool b) => a == b
  | _, _ => false
theorem same1_eq {x y : Option Value} (h : same1 x y = true) : x = y := by
  unfold same1 at h
  split at h
  · simp at h; rw [h]
  · simp at h; rw [h]
  · cases h
theorem tab_cell (i j : Nat) (hi : i < 47) (hj : j < 4) : tabCells[i * 4 + j]? = (cells4 (tabAt i))[j]? := by
  have : ∀ i, i < 47 → ∀ j, j < 4 → same1 (tabCells[i * 4 + j]?) (cells4 (tabAt i))[j]? = true := by decide +kernel
  exact same1_eq (this i hi j hj)

theorem push_modify (a : Array Obj) (x : Obj) (f : Obj → Obj) : (a.push x).modify a.size f = a.push (f x) := by
  apply Array.ext
  · simp
  · intro i h1 h2
    simp only [Array.getElem_modify, Array.getElem_push]
    by_cases h : a.size = i
    · subst h
      simp
    · have hi : i < a.size := by simp at h1; omega
      simp [h, hi]
theorem setRow_new (w : World) (c c' : Array Value) (t : TypeId) : (w.alloc (.cells c t)).setRow w.heap.size c' = w.alloc (.cells c' t) := by
  unfold World.setRow
  show ({ w.alloc (.cells c t) with heap := (w.heap.push (.cells c t)).modify w.heap.size _ } : World) = _
  rw [push_modify]
  rfl
theorem wpList_act {P : Program} {ops : Array Oper} {Q : Exit → Act → World → Prop} {l : List Oper} {a a' : Act} {w : World} (h : a = a') (hw : wpList P ops Q l a' w) : wpList P ops Q l a w := by rw [h]; exact hw

set_option maxRecDepth 100000 in
set_option maxHeartbeats 4000000 in
theorem at_any (i : Nat) (w : World) (h : i < 47) :
    Calls Try.prog 44 #[.int .i64 i] w fun e w' => e = .returned (.agg (cells4 (tabAt i)).toArray) ∧ Keep (fun _ => False) w w' := by
  go_enter Try.func44, Try.ntmps44
  go_upto_region 3 with fail
  go_cut [3] from 11 to 58 (fun v3 wc => v3 = .pointer (some ⟨w.heap.size + 1, 0, none⟩) ∧ wc = (w.alloc (.cells #[.int .i64 0, .int .i64 0, .int .i64 0, .bool false] 68)).alloc (.cells tabCells 81))
  case first =>
    refine wp_region_lit ?_
    iterate 48 (refine wpList_build rfl _ _ rfl (by kernel_rfl) ?_)
    refine wpList_act (a' := ⟨#[Value.int .i64 i, undef, Value.pointer (some ⟨w.heap.size, 0, none⟩), undef, Value.int .i64 i, Value.bool (decide ((i : Int) < 0)), Value.bool (decide ((i : Int) < 0)), Value.int .i64 i, Value.bool (decide (47 ≤ (i : Int))), Value.bool (decide ((i : Int) < 0) || decide (47 ≤ (i : Int))), undef, Value.agg (cells4 (tabAt 0)).toArray, Value.agg (cells4 (tabAt 1)).toArray, Value.agg (cells4 (tabAt 2)).toArray, Value.agg (cells4 (tabAt 3)).toArray, Value.agg (cells4 (tabAt 4)).toArray, Value.agg (cells4 (tabAt 5)).toArray, Value.agg (cells4 (tabAt 6)).toArray, Value.agg (cells4 (tabAt 7)).toArray, Value.agg (cells4 (tabAt 8)).toArray, Value.agg (cells4 (tabAt 9)).toArray, Value.agg (cells4 (tabAt 10)).toArray, Value.agg (cells4 (tabAt 11)).toArray, Value.agg (cells4 (tabAt 12)).toArray, Value.agg (cells4 (tabAt 13)).toArray, Value.agg (cells4 (tabAt 14)).toArray, Value.agg (cells4 (tabAt 15)).toArray, Value.agg (cells4 (tabAt 16)).toArray, Value.agg (cells4 (tabAt 17)).toArray, Value.agg (cells4 (tabAt 18)).toArray, Value.agg (cells4 (tabAt 19)).toArray, Value.agg (cells4 (tabAt 20)).toArray, Value.agg (cells4 (tabAt 21)).toArray, Value.agg (cells4 (tabAt 22)).toArray, Value.agg (cells4 (tabAt 23)).toArray, Value.agg (cells4 (tabAt 24)).toArray, Value.agg (cells4 (tabAt 25)).toArray, Value.agg (cells4 (tabAt 26)).toArray, Value.agg (cells4 (tabAt 27)).toArray, Value.agg (cells4 (tabAt 28)).toArray, Value.agg (cells4 (tabAt 29)).toArray, Value.agg (cells4 (tabAt 30)).toArray, Value.agg (cells4 (tabAt 31)).toArray, Value.agg (cells4 (tabAt 32)).toArray, Value.agg (cells4 (tabAt 33)).toArray, Value.agg (cells4 (tabAt 34)).toArray, Value.agg (cells4 (tabAt 35)).toArray, Value.agg (cells4 (tabAt 36)).toArray, Value.agg (cells4 (tabAt 37)).toArray, Value.agg (cells4 (tabAt 38)).toArray, Value.agg (cells4 (tabAt 39)).toArray, Value.agg (cells4 (tabAt 40)).toArray, Value.agg (cells4 (tabAt 41)).toArray, Value.agg (cells4 (tabAt 42)).toArray, Value.agg (cells4 (tabAt 43)).toArray, Value.agg (cells4 (tabAt 44)).toArray, Value.agg (cells4 (tabAt 45)).toArray, Value.agg (cells4 (tabAt 46)).toArray, Value.agg tabCells, undef, undef, undef], []⟩) (by kernel_rfl) ?_
    have hz : ∀ w, (zeroValue 81).run Try.prog w = .ok (.agg zeroTab) w := fun _ => by kernel_rfl
    go_wp2_with (
      refine wpList_store_row rfl 81 _ _ rfl (w.heap.size + 1) tabCells rfl rfl 81 zeroTab ?hg (by rw [tab_size]; kernel_rfl) (by rw [tab_size]; decide +kernel) tab_one ?_)
    case hg =>
      have := Blk.new (w.alloc (.cells #[.int .i64 0, .int .i64 0, .int .i64 0, .bool false] 68)) 81 zeroTab
      rw [World.size_alloc] at this
      exact this
    go_meet
    case rel =>
      refine ⟨rfl, ?_⟩
      have := setRow_new (w.alloc (.cells #[.int .i64 0, .int .i64 0, .int .i64 0, .bool false] 68)) zeroTab tabCells 81
      rw [World.size_alloc] at this
      exact this
  case rest =>
    obtain ⟨rfl, rfl⟩ := hcut
    have t0 : tabCells[i * 4]? = some (.int .i64 (tabAt i).1) := tab_cell i 0 h (by omega)
    have t1 : tabCells[i * 4 + 1]? = some (.int .i64 (tabAt i).2.1) := tab_cell i 1 h (by omega)
    have t2 : tabCells[i * 4 + 2]? = some (.int .i64 (tabAt i).2.2.1) := tab_cell i 2 h (by omega)
    have t3 : tabCells[i * 4 + 3]? = some (.bool (tabAt i).2.2.2) := tab_cell i 3 h (by omega)
    go_wp2_with fail
    exact bodyPost_ret (v := .agg (cells4 (tabAt i)).toArray) (by simp [results, Try.results44, go_sem, cells4]) rfl ⟨rfl, ((Keep.refl _ w).alloc _).alloc _⟩
end Go.Proofs.Ytcieeoobobafmaa
