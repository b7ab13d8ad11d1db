/-
  The contexts of the program's coder: what they hold, what each step leaves. Conditions: none.
-/
import Derived.Test.YtcieeoobobafmaaMqE2
import Derived.Test.YtcieeoobobafmaaStates2
namespace Go.Proofs.Ytcieeoobobafmaa
open Go.RowKit

/-- Contexts' cells: each one's state, its more likely sign. -/
def cxL : List (Nat × Nat) → List Value
  | [] => []
  | p :: l => .int .i64 p.1 :: .int .i64 p.2 :: cxL l
def cxCells (l : List (Nat × Nat)) : Array Value := (cxL l).toArray
def cxAt (l : List (Nat × Nat)) (k : Nat) : Nat × Nat := l.getD k (0, 0)
theorem cxL_I (l : List (Nat × Nat)) : ∀ k, k < l.length → (cxL l)[k * 2]? = some (.int .i64 (cxAt l k).1) ∧ (cxL l)[k * 2 + 1]? = some (.int .i64 (cxAt l k).2) := by
  induction l with
  | nil => intro k h; simp at h
  | cons p l ih =>
    intro k h
    cases k with
    | zero => exact ⟨rfl, rfl⟩
    | succ k =>
      have e1 : (k + 1) * 2 = k * 2 + 1 + 1 := by omega
      have e2 : (k + 1) * 2 + 1 = k * 2 + 1 + 1 + 1 := by omega
      rw [e1]
      exact ih k (by simpa using h)
theorem cxL_setI (l : List (Nat × Nat)) : ∀ k (x : Nat), k < l.length → (cxL l).set (k * 2) (.int .i64 x) = cxL (l.set k (x, (cxAt l k).2)) ∧ (cxL l).set (k * 2 + 1) (.int .i64 x) = cxL (l.set k ((cxAt l k).1, x)) := by
  induction l with
  | nil => intro k x h; simp at h
  | cons p l ih =>
    intro k x h
    cases k with
    | zero => exact ⟨rfl, rfl⟩
    | succ k =>
      have e1 : (k + 1) * 2 = k * 2 + 1 + 1 := by omega
      rw [e1]
      obtain ⟨h1, h2⟩ := ih k x (by simpa using h)
      constructor
      · show _ :: _ :: (cxL l).set (k * 2) _ = _ :: _ :: cxL (l.set k _)
        rw [h1]; rfl
      · show _ :: _ :: (cxL l).set (k * 2 + 1) _ = _ :: _ :: cxL (l.set k _)
        rw [h2]; rfl
theorem cx_I {l : List (Nat × Nat)} {k : Nat} (h : k < l.length) : (cxCells l)[k * 2]? = some (.int .i64 (cxAt l k).1) := by
  rw [cxCells, List.getElem?_toArray]; exact (cxL_I l k h).1
theorem cx_M {l : List (Nat × Nat)} {k : Nat} (h : k < l.length) : (cxCells l)[k * 2 + 1]? = some (.int .i64 (cxAt l k).2) := by
  rw [cxCells, List.getElem?_toArray]; exact (cxL_I l k h).2
theorem cx_setI {l : List (Nat × Nat)} {k : Nat} (h : k < l.length) (x : Nat) : (cxCells l).setIfInBounds (k * 2) (.int .i64 x) = cxCells (l.set k (x, (cxAt l k).2)) := by
  rw [cxCells, List.setIfInBounds_toArray, (cxL_setI l k x h).1, cxCells]
theorem cx_setM {l : List (Nat × Nat)} {k : Nat} (h : k < l.length) (x : Nat) : (cxCells l).setIfInBounds (k * 2 + 1) (.int .i64 x) = cxCells (l.set k ((cxAt l k).1, x)) := by
  rw [cxCells, List.setIfInBounds_toArray, (cxL_setI l k x h).2, cxCells]
/-- Contexts that are: 19, each with a state and a sign. -/
structure Cxs (l : List (Nat × Nat)) : Prop where
  len : l.length = 19
  st : ∀ k, (cxAt l k).1 < 47
  sg : ∀ k, (cxAt l k).2 < 2
/-- Contexts in memory. -/
def Ctx (w : World) (K : Nat) (l : List (Nat × Nat)) : Prop := Blk w K 30 (cxCells l)

set_option maxHeartbeats 400000 in
theorem state_none (w : World) (K : Nat) (x : Int) (h : x < 0 ∨ 18 < x) :
    Calls Try.prog 34 #[.pointer (some ⟨K, 0, none⟩), .int .i64 x] w fun e w' => e = .returned (.tuple #[.agg #[.int .i64 0, .int .i64 0, .int .i64 0, .bool false], .bool false]) ∧ Keep (fun _ => False) w w' := by
  by_cases h0 : x < 0
  · clear h
    go_enter Try.func34, Try.ntmps34
    go_wp2_with fail
    exact bodyPost_ret (v := .tuple #[.agg #[.int .i64 0, .int .i64 0, .int .i64 0, .bool false], .bool false]) (by simp [results, Try.results34, go_sem]) rfl ⟨rfl, (Keep.refl _ w).alloc _⟩
  · have h1 : 18 < x := by omega
    clear h
    go_enter Try.func34, Try.ntmps34
    go_wp2_with fail
    exact bodyPost_ret (v := .tuple #[.agg #[.int .i64 0, .int .i64 0, .int .i64 0, .bool false], .bool false]) (by simp [results, Try.results34, go_sem]) rfl ⟨rfl, (Keep.refl _ w).alloc _⟩
set_option maxHeartbeats 800000 in
theorem state_any (w : World) (K k : Nat) (l : List (Nat × Nat)) (hC : Ctx w K l) (hl : Cxs l) (hk : k < 19) (i q m lp : Nat) (s : Bool) (hi : (cxAt l k).1 = i) (ht : valM i = (q, m, lp, s)) :
    Calls Try.prog 34 #[.pointer (some ⟨K, 0, none⟩), .int .i64 k] w fun e w' => e = .returned (.tuple #[.agg #[.int .i64 q, .int .i64 m, .int .i64 lp, .bool s], .bool (decide (0 < q))]) ∧ Keep (fun _ => False) w w' := by
  have g0 : (w.alloc (.cells #[.int .i64 0, .int .i64 0, .int .i64 0, .bool false] 68)).cell? ⟨K, k * 2, none⟩ = some (.int .i64 i) := by rw [← hi]; exact (Blk.cell (Blk.alloc hC _) (k * 2)).trans (cx_I (by rw [hl.len]; omega))
  have HT := hid ht
  clear ht hi hl hC
  go_enter Try.func34, Try.ntmps34
  go_wp2_with fail
  refine (at_all i q m lp s _ HT.out).mono ?_
  rintro e w1 ⟨rfl, hk1⟩
  have hk1' := hid hk1
  clear hk1
  have hb1 : Blk w1 w.heap.size 68 #[.int .i64 0, .int .i64 0, .int .i64 0, .bool false] := (Blk.new w 68 _).keep hk1'.out (fun h => h)
  have hlt := hb1.lt
  have z0 : w1.cell? ⟨w.heap.size, 0, none⟩ = some (.int .i64 0) := hb1.cell 0
  have z1 : w1.cell? ⟨w.heap.size, 1, none⟩ = some (.int .i64 0) := hb1.cell 1
  have z2 : w1.cell? ⟨w.heap.size, 2, none⟩ = some (.int .i64 0) := hb1.cell 2
  have z3 : w1.cell? ⟨w.heap.size, 3, none⟩ = some (.bool false) := hb1.cell 3
  have f0 := hb1.frozen 0
  have f1 := hb1.frozen 1
  have f2 := hb1.frozen 2
  have f3 := hb1.frozen 3
  go_wp2_with fail
  go_region
  go_wp2_with fail
  have b5 : Blk (((((w1.setCell ⟨w.heap.size, 0, none⟩ (.int .i64 q)).setCell ⟨w.heap.size, 1, none⟩ (.int .i64 m)).setCell ⟨w.heap.size, 2, none⟩ (.int .i64 lp)).setCell ⟨w.heap.size, 3, none⟩ (.bool s)).alloc (.cells #[.int .i64 q, .int .i64 m, .int .i64 lp, .bool s] 68)).drew w.heap.size 68 #[.int .i64 q, .int .i64 m, .int .i64 lp, .bool s] :=
    (((((hb1.set_ 0 (.int .i64 q)).set_ 1 (.int .i64 m)).set_ 2 (.int .i64 lp)).set_ 3 (.bool s)).alloc _).drew
  have k5 : Keep (fun _ => False) w (((((w1.setCell ⟨w.heap.size, 0, none⟩ (.int .i64 q)).setCell ⟨w.heap.size, 1, none⟩ (.int .i64 m)).setCell ⟨w.heap.size, 2, none⟩ (.int .i64 lp)).setCell ⟨w.heap.size, 3, none⟩ (.bool s)).alloc (.cells #[.int .i64 q, .int .i64 m, .int .i64 lp, .bool s] 68)).drew :=
    ((((((((Keep.refl (fun _ => False) w).alloc _).trans hk1'.out (fun _ _ h => h)).setCell (p := ⟨w.heap.size, 0, none⟩) (.inr (Nat.le_refl _)) _).setCell (p := ⟨w.heap.size, 1, none⟩) (.inr (Nat.le_refl _)) _).setCell (p := ⟨w.heap.size, 2, none⟩) (.inr (Nat.le_refl _)) _).setCell (p := ⟨w.heap.size, 3, none⟩) (.inr (Nat.le_refl _)) _).alloc _).drew
  generalize (((((w1.setCell ⟨w.heap.size, 0, none⟩ (.int .i64 q)).setCell ⟨w.heap.size, 1, none⟩ (.int .i64 m)).setCell ⟨w.heap.size, 2, none⟩ (.int .i64 lp)).setCell ⟨w.heap.size, 3, none⟩ (.bool s)).alloc (.cells #[.int .i64 q, .int .i64 m, .int .i64 lp, .bool s] 68)).drew = w5 at *
  have e0 : w5.cell? ⟨w.heap.size, 0, none⟩ = some (.int .i64 q) := b5.cell 0
  have e1 : w5.cell? ⟨w.heap.size, 1, none⟩ = some (.int .i64 m) := b5.cell 1
  have e2 : w5.cell? ⟨w.heap.size, 2, none⟩ = some (.int .i64 lp) := b5.cell 2
  have e3 : w5.cell? ⟨w.heap.size, 3, none⟩ = some (.bool s) := b5.cell 3
  exact bodyPost_ret (v := .tuple #[.agg #[.int .i64 q, .int .i64 m, .int .i64 lp, .bool s], .bool (decide (0 < q))]) (by simp [results, Try.results34, go_sem, e0, e1, e2, e3]) rfl ⟨rfl, k5⟩
end Go.Proofs.Ytcieeoobobafmaa
