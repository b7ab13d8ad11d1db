/-
  The laws' own example, over both coders; numbers within bounds. Conditions: none.
-/
import Derived.Test.YtcieeoobobafmaaMqRun
namespace Go.Proofs.Ytcieeoobobafmaa
open Go.RowKit

theorem wpList_store_new {P : Program} {ops : Array Oper} {rest : List Oper} {o : Oper} {a : Act} {w1 : World} {Q : Exit → Act → World → Prop} {zs : Array Value} {t : TypeId} (hgd : o.guard = none) (ty : TypeId) (x y : Operand) (ho : o.op = .store ty x y)
    (hd : o.dst = none) (cells : Array Value) (hx : a.eval x = .pointer (some ⟨w1.heap.size, 0, none⟩)) (hy : a.eval y = .agg cells)
    (hi : (P.info? ty).map (·.size) = some cells.size) (hold : zs.size = cells.size) (h1 : cells.all (·.oneCell') = true)
    (K : ∀ w2, Blk w2 w1.heap.size t cells → Keep (fun _ => False) w1 w2 → wpList P ops Q rest a w2) : wpList P ops Q (o :: rest) a (w1.alloc (.cells zs t)) := by
  refine wpList_store_row hgd ty x y ho w1.heap.size cells hx hy t zs (Blk.new w1 t zs) hi hold h1 ?_
  rw [hd]
  exact K _ (Blk.new w1 t zs).row (((Keep.refl (fun _ => False) w1).alloc _).row (.inr (Nat.le_refl _)) _)
set_option maxHeartbeats 400000 in
theorem within_any (w : World) (x n : Int) (h0 : -9223372036854775808 ≤ x) (h1 : x ≤ 9223372036854775807) (hn : 0 < n) (hn2 : n ≤ 4294967296) :
    Calls Try.prog 14 #[.int .i64 x, .int .i64 n] w fun e w' => e = .returned (.int .i64 (x % n)) ∧ w = w' := by
  obtain ⟨t1, t2, t3, t4⟩ := tmod_fix x n hn
  have hz : (n == 0) = false := by simp; omega
  have hw : wrap64 (x.tmod n) = x.tmod n := IntWalk.wrap64_in _ (by omega)
  have hw2 : IntKind.i64.wrap (x.tmod n) = x.tmod n := IntWalk.i64_in _ (by omega)
  by_cases hc : x.tmod n < 0
  · have e := t1 hc
    have HE := hid e
    clear t1 t2 e
    go_enter Try.func14, Try.ntmps14
    go_wp2_with fail
    go_ret
    exact ⟨by rw [← HE.out]; rfl, rfl⟩
  · have e := t2 (by omega)
    have HE := hid e
    clear t1 t2 e
    go_enter Try.func14, Try.ntmps14
    go_wp2_with fail
    go_ret
    exact ⟨by rw [← HE.out]; rfl, rfl⟩
set_option maxHeartbeats 1600000 in
theorem known_any (w : World) : Calls Try.prog 13 #[] w fun e w' => e = .returned (.bool true) ∧ Keep (fun _ => False) w w' := by
  go_enter Try.func13, Try.ntmps13
  go_wp2_with fail
  refine (fresh_any w).mono ?_
  rintro e w1 ⟨rfl, hk1⟩
  have HK1 := hid hk1
  clear hk1
  go_wp2_with (refine wpList_store_new rfl 30 _ _ rfl rfl (cxCells begL) rfl rfl ctx_info rfl (cx_one _) ?_; intro w2 hb2 hk2)
  have g0 : w2.cell? ⟨w1.heap.size, 36, none⟩ = some (.int .i64 46) := hb2.cell 36
  have g1 : w2.cell? ⟨w1.heap.size, 0, none⟩ = some (.int .i64 4) := hb2.cell 0
  have HB2 := hid hb2
  have HK2 := hid (HK1.out.trans hk2 (fun _ _ h => h))
  clear hb2 hk2
  refine (newe_any w2).mono ?_
  rintro e w3 ⟨E, A, n, c, rfl, hE, hen, hk3⟩
  have g0' := hk3.cell g0 (fun h => h)
  have g1' := hk3.cell g1 (fun h => h)
  have HK3 := hid (HK2.out.trans hk3 (fun _ _ h => h))
  clear hen hk3 g0 g1
  go_wp2_with fail
  refine (newd_any w3 none 0 0 [] (Rd.nil _) (fun z hz => by simp at hz) (by omega)).mono ?_
  rintro e w4 ⟨D, A', c', rfl, hD, hde, hk4⟩
  have HK4 := hid (HK3.out.trans hk4 (fun _ _ h => h))
  clear hde hk4
  go_wp2_with fail
  go_ret
  exact ⟨rfl, HK4.out⟩
end Go.Proofs.Ytcieeoobobafmaa
