/-
  Contexts of both coders compared. Conditions: none.
-/
import Derived.Test.YtcieeoobobafmaaRefFlush
namespace Go.Proofs.Ytcieeoobobafmaa
open Go.RowKit

set_option maxRecDepth 20000 in
set_option maxHeartbeats 4000000 in
theorem csame_any (w : World) (l : List (Nat × Nat)) (hl : l.length = 19) :
    Calls Try.prog 29 #[.agg (cxCells l), .agg (cxCells l)] w fun e w' => e = .returned (.bool true) ∧ Keep (fun _ => False) w w' := by
  have HB0 := hid (Blk.alloc (Blk.new w 30 (cxCells l)) (.cells (cxCells l) 50))
  have hb1 := Blk.new (w.alloc (.cells (cxCells l) 30)) 50 (cxCells l)
  rw [World.size_alloc] at hb1
  have HB1 := hid hb1
  have HK := hid (((Keep.refl (fun _ => False) w).alloc (.cells (cxCells l) 30)).alloc (.cells (cxCells l) 50))
  clear hb1
  go_enter Try.func29, Try.ntmps29
  go_wp2_with fail
  go_loopw [5] (fun v wr => ∃ k : Nat, k ≤ 19 ∧ v = .int .i64 k ∧ Hid (Blk wr w.heap.size 30 (cxCells l)) ∧ Hid (Blk wr (w.heap.size + 1) 50 (cxCells l)) ∧ Hid (Keep (fun _ => False) w wr)) (fun v _ => 19 - (intOf v).toNat)
  case atStart => exact ⟨0, by omega, rfl, HB0, HB1, HK⟩
  case round =>
    clear HB0 HB1 HK
    obtain ⟨k, hk, rfl, HB0, HB1, HK⟩ := hrel
    by_cases hk19 : k < 19
    · have z0 := (HB0.out.cell (k * 2)).trans (cx_I (by omega))
      have z1 := (HB0.out.cell (k * 2 + 1)).trans (cx_M (by omega))
      have y0 := (HB1.out.cell (k * 2)).trans (cx_I (l := l) (by omega))
      have y1 := (HB1.out.cell (k * 2 + 1)).trans (cx_M (l := l) (by omega))
      generalize (cxAt l k).1 = I at *
      generalize (cxAt l k).2 = M at *
      go_wp2_with fail
      -- region 4: 20 operations
      refine At.start (L := #[false, false, false, false, false, false, false, false, false, false, false, false, false, false, false, false, false, false, false, false]) (by kernel_rfl) rfl ?_
      refine At.pure 0 (some 10) (v := ?v0) rfl rfl (by kernel_rfl) (fun _ _ _ h => h) rfl (fun w' => ?y0) ?_   
      case y0 => go_simp; try with_reducible rfl
      try simp only [Act.put, List.setIfInBounds_toArray, List.set_cons_zero, List.set_cons_succ]
      refine At.pure 1 (some 11) (v := ?v1) rfl rfl (by kernel_rfl) (fun _ _ _ h => h) rfl (fun w' => ?y1) ?_   
      case y1 => go_simp; try with_reducible rfl
      try simp only [Act.put, List.setIfInBounds_toArray, List.set_cons_zero, List.set_cons_succ]
      refine At.pure 2 (some 12) (v := ?v2) rfl rfl (by kernel_rfl) (fun _ _ _ h => h) rfl (fun w' => ?y2) ?_   
      case y2 => go_simp; try with_reducible rfl
      try simp only [Act.put, List.setIfInBounds_toArray, List.set_cons_zero, List.set_cons_succ]
      refine At.read 3 (some 13) (fun w' => w'.cell? ⟨w.heap.size, k * 2, none⟩ = some (.int .i64 I)) (v := ?v3) rfl rfl (by kernel_rfl) (fun _ _ _ h => h) rfl z0 (fun w' hw' => ?y3) ?_   
      case y3 => skip; go_simp; try with_reducible rfl
      try simp only [Act.put, List.setIfInBounds_toArray, List.set_cons_zero, List.set_cons_succ]
      refine At.pure 4 (some 14) (v := ?v4) rfl rfl (by kernel_rfl) (fun _ _ _ h => h) rfl (fun w' => ?y4) ?_   
      case y4 => go_simp; try with_reducible rfl
      try simp only [Act.put, List.setIfInBounds_toArray, List.set_cons_zero, List.set_cons_succ]
      refine At.pure 5 (some 15) (v := ?v5) rfl rfl (by kernel_rfl) (fun _ _ _ h => h) rfl (fun w' => ?y5) ?_   
      case y5 => go_simp; try with_reducible rfl
      try simp only [Act.put, List.setIfInBounds_toArray, List.set_cons_zero, List.set_cons_succ]
      refine At.pure 6 (some 16) (v := ?v6) rfl rfl (by kernel_rfl) (fun _ _ _ h => h) rfl (fun w' => ?y6) ?_   
      case y6 => go_simp; try with_reducible rfl
      try simp only [Act.put, List.setIfInBounds_toArray, List.set_cons_zero, List.set_cons_succ]
      refine At.read 7 (some 17) (fun w' => w'.cell? ⟨w.heap.size + 1, k * 2, none⟩ = some (.int .i64 I)) (v := ?v7) rfl rfl (by kernel_rfl) (fun _ _ _ h => h) rfl y0 (fun w' hw' => ?y7) ?_   
      case y7 => skip; go_simp; try with_reducible rfl
      try simp only [Act.put, List.setIfInBounds_toArray, List.set_cons_zero, List.set_cons_succ]
      refine At.pure 8 (some 18) (v := ?v8) rfl rfl (by kernel_rfl) (fun _ _ _ h => h) rfl (fun w' => ?y8) ?_   
      case y8 => go_simp; try with_reducible rfl
      try simp only [Act.put, List.setIfInBounds_toArray, List.set_cons_zero, List.set_cons_succ]
      refine At.pure 9 (some 19) (v := ?v9) rfl rfl (by kernel_rfl) (fun _ _ _ h => h) rfl (fun w' => ?y9) ?_   
      case y9 => go_simp; try with_reducible rfl
      try simp only [Act.put, List.setIfInBounds_toArray, List.set_cons_zero, List.set_cons_succ]
      refine At.pure 10 (some 20) (v := ?v10) rfl rfl (by kernel_rfl) (fun _ _ _ h => h) rfl (fun w' => ?y10) ?_   
      case y10 => go_simp; try with_reducible rfl
      try simp only [Act.put, List.setIfInBounds_toArray, List.set_cons_zero, List.set_cons_succ]
      refine At.pure 11 (some 21) (v := ?v11) rfl rfl (by kernel_rfl) (fun _ _ _ h => h) rfl (fun w' => ?y11) ?_   
      case y11 => go_simp; try with_reducible rfl
      try simp only [Act.put, List.setIfInBounds_toArray, List.set_cons_zero, List.set_cons_succ]
      refine At.pure 12 (some 22) (v := ?v12) rfl rfl (by kernel_rfl) (fun _ _ _ h => h) rfl (fun w' => ?y12) ?_   
      case y12 => go_simp; try with_reducible rfl
      try simp only [Act.put, List.setIfInBounds_toArray, List.set_cons_zero, List.set_cons_succ]
      refine At.read 13 (some 23) (fun w' => w'.cell? ⟨w.heap.size, k * 2 + 1, none⟩ = some (.int .i64 M)) (v := ?v13) rfl rfl (by kernel_rfl) (fun _ _ _ h => h) rfl z1 (fun w' hw' => ?y13) ?_   
      case y13 => skip; go_simp; try with_reducible rfl
      try simp only [Act.put, List.setIfInBounds_toArray, List.set_cons_zero, List.set_cons_succ]
      refine At.pure 14 (some 24) (v := ?v14) rfl rfl (by kernel_rfl) (fun _ _ _ h => h) rfl (fun w' => ?y14) ?_   
      case y14 => go_simp; try with_reducible rfl
      try simp only [Act.put, List.setIfInBounds_toArray, List.set_cons_zero, List.set_cons_succ]
      refine At.pure 15 (some 25) (v := ?v15) rfl rfl (by kernel_rfl) (fun _ _ _ h => h) rfl (fun w' => ?y15) ?_   
      case y15 => go_simp; try with_reducible rfl
      try simp only [Act.put, List.setIfInBounds_toArray, List.set_cons_zero, List.set_cons_succ]
      refine At.pure 16 (some 26) (v := ?v16) rfl rfl (by kernel_rfl) (fun _ _ _ h => h) rfl (fun w' => ?y16) ?_   
      case y16 => go_simp; try with_reducible rfl
      try simp only [Act.put, List.setIfInBounds_toArray, List.set_cons_zero, List.set_cons_succ]
      refine At.read 17 (some 27) (fun w' => w'.cell? ⟨w.heap.size + 1, k * 2 + 1, none⟩ = some (.int .i64 M)) (v := ?v17) rfl rfl (by kernel_rfl) (fun _ _ _ h => h) rfl y1 (fun w' hw' => ?y17) ?_   
      case y17 => skip; go_simp; try with_reducible rfl
      try simp only [Act.put, List.setIfInBounds_toArray, List.set_cons_zero, List.set_cons_succ]
      refine At.pure 18 (some 28) (v := ?v18) rfl rfl (by kernel_rfl) (fun _ _ _ h => h) rfl (fun w' => ?y18) ?_   
      case y18 => go_simp; try with_reducible rfl
      try simp only [Act.put, List.setIfInBounds_toArray, List.set_cons_zero, List.set_cons_succ]
      refine At.pure 19 (some 29) (v := ?v19) rfl rfl (by kernel_rfl) (fun _ _ _ h => h) rfl (fun w' => ?y19) ?_   
      case y19 => go_simp; try with_reducible rfl
      try simp only [Act.put, List.setIfInBounds_toArray, List.set_cons_zero, List.set_cons_succ]
      refine At.done (by kernel_rfl) ?_
      go_wp2_with fail
      exact ⟨⟨k + 1, by omega, by go_num, hid (HB0.out.drew), hid (HB1.out.drew), hid (HK.out.drew)⟩, by simp [intOf]; omega⟩
    · obtain rfl : k = 19 := by omega
      go_wp2_with fail
      go_ret
      exact ⟨rfl, HK.out⟩
end Go.Proofs.Ytcieeoobobafmaa
