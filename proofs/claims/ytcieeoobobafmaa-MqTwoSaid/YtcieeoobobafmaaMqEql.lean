/-
  Contexts compared, and loaded whole. Conditions: none.
-/
import Derived.Test.YtcieeoobobafmaaMqTwoE
import Derived.DeepKeys
namespace Go.Proofs.Ytcieeoobobafmaa
open Go.RowKit

theorem exec_load_row {P : Program} {o : Oper} {a : Act} {w : World} (ty : TypeId) (x : Operand) (ho : o.op = .load ty x)
    (g : Nat) (hx : a.eval x = .pointer (some ⟨g, 0, none⟩)) (t : TypeId) (cs : Array Value) (fr : Nat × Nat) (d : TypeDesc) (hg : w.heap[g]? = some (.cells cs t fr))
    (hu : P.underlying ty = some d) (hd : (match d with | .struct _ | .array _ _ => true | _ => false) = true) (hi : (P.info? ty).map (·.size) = some cs.size) :
    (execOp a.eval o).run P w = .ok (.value (.agg cs)) w := by
  unfold execOp
  simp only [ho, hx, Instr.loadAt, Instr.sureAddr, Sem.run_bind, Sem.run_pure, Result.andThen_ok, run_loadVar_row w g t ty cs fr d hg hu hd hi]
theorem cxL_two (l : List (Nat × Nat)) : ∀ k, k < l.length → ((cxL l).drop (k * 2)).take 2 = [.int .i64 (cxAt l k).1, .int .i64 (cxAt l k).2] := by
  induction l with
  | nil => intro k h; simp at h
  | cons p l ih =>
    intro k h
    cases k with
    | zero => rfl
    | succ k =>
      have e1 : (k + 1) * 2 = k * 2 + 1 + 1 := by omega
      rw [e1]
      exact ih k (by simpa using h)
theorem cx_part (w : World) {l : List (Nat × Nat)} {k : Nat} (hk : k < l.length) :
    (part 28 (cxCells l) (k * 2)).run Try.prog w = .ok (.agg #[.int .i64 (cxAt l k).1, .int .i64 (cxAt l k).2]) w := by
  have hx : (cxCells l).extract (k * 2) (k * 2 + 2) = #[.int .i64 (cxAt l k).1, .int .i64 (cxAt l k).2] := by
    unfold cxCells
    rw [List.extract_toArray, List.extract_eq_drop_take', List.drop_take, Nat.add_sub_cancel_left, cxL_two l k hk]
  have ha : (isAgg 28).run Try.prog w = .ok true w := by
    unfold isAgg
    rw [Sem.run_bind, run_underlying Try.underlying28 w]
    rfl
  have hs : (sizeOf 28).run Try.prog w = .ok 2 w := by kernel_rfl
  unfold part
  simp only [Sem.run_bind, ha, hs, Result.andThen_ok, if_true, Sem.run_pure, hx]
theorem eqItems_same {P : Program} (w : World) (d : Nat) (e : TypeId) (c : Nat) (xs : Array Value) : ∀ is : List Nat,
    (∀ i ∈ is, ∃ v, (part e xs (i * c)).run P w = .ok v w ∧ (Op.equalIn d e v v).run P w = .ok true w) → (Op.eqItems d e c xs xs is).run P w = .ok true w
  | [], _ => by simp [Op.eqItems]
  | i :: is, h => by
    obtain ⟨v, h1, h2⟩ := h i (by simp)
    have ih := eqItems_same w d e c xs is (fun j hj => h j (by simp [hj]))
    simp only [Op.eqItems, Sem.run_bind, h1, h2, Result.andThen_ok, Bool.not_true, Bool.false_eq_true, if_false, ih]
theorem st_eql (w : World) (a b : Int) : (Op.equalIn 9999 28 (.agg #[.int .i64 a, .int .i64 b]) (.agg #[.int .i64 a, .int .i64 b])).run Try.prog w = .ok true w := by
  go_simp
theorem cx_eql (w : World) {l : List (Nat × Nat)} (hl : l.length = 19) : (Op.equalIn 10000 30 (.agg (cxCells l)) (.agg (cxCells l))).run Try.prog w = .ok true w := by
  have hs : (Try.prog.info? 28).isSome = true := by kernel_rfl
  obtain ⟨i, hi⟩ := Option.isSome_iff_exists.1 hs
  have hc : Try.prog.cellsOf 28 = 2 := by kernel_rfl
  rw [run_equalIn_array (P := Try.prog) w 9999 (cxCells l) (cxCells l) Try.underlying30 hi, hc]
  refine eqItems_same w 9999 _ 2 _ _ (fun k hk => ?_)
  rw [List.mem_range] at hk
  exact ⟨_, cx_part w (by omega), st_eql w _ _⟩
end Go.Proofs.Ytcieeoobobafmaa
