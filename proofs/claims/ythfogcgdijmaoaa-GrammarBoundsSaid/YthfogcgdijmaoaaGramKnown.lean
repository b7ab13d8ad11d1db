/-
  The laws' own example; numbers within bounds. Conditions: none.
-/
import Derived.Test.YthfogcgdijmaoaaGramMark
namespace Go.Proofs.Ythfogcgdijmaoaa
open Go.RowKit

set_option maxHeartbeats 400000 in
theorem within_any (w : World) (x n : Int) (h0 : -9223372036854775808 ≤ x) (h1 : x ≤ 9223372036854775807) (hn : 0 < n) (hn2 : n ≤ 4294967296) :
    Calls Try.prog 6 #[.int .i64 x, .int .i64 n] w fun e w' => e = .returned (.int .i64 (x % n)) ∧ w = w' := by
  obtain ⟨t1, t2, t3, t4⟩ := tmod_fix x n hn
  have hz : (n == 0) = false := by simp; omega
  have hw : wrap64 (x.tmod n) = x.tmod n := IntWalk.wrap64_in _ (by omega)
  have hw2 : IntKind.i64.wrap (x.tmod n) = x.tmod n := IntWalk.i64_in _ (by omega)
  by_cases hc : x.tmod n < 0
  · have e := t1 hc
    have HE := hid e
    clear t1 t2 e
    go_enter Try.func6, Try.ntmps6
    go_wp2_with fail
    go_ret
    exact ⟨by rw [← HE.out]; rfl, rfl⟩
  · have e := t2 (by omega)
    have HE := hid e
    clear t1 t2 e
    go_enter Try.func6, Try.ntmps6
    go_wp2_with fail
    go_ret
    exact ⟨by rw [← HE.out]; rfl, rfl⟩
set_option maxRecDepth 20000 in
set_option maxHeartbeats 1600000 in
theorem all_four (w : World) (base V g : Nat) (h : Wk w base V g 0 0 none 0 none 0 [] []) (hb : base ≤ w.heap.size) :
    Calls Try.prog 11 #[.pointer (some ⟨V, 0, none⟩)] w fun e w' => e = .returned (.bool false) ∧ Keep (fun j => base ≤ j ∨ j = V) w w' := by
  go_enter Try.func11, Try.ntmps11
  go_wp2_with fail
  refine (mark_any w base V g 0 0 none 0 none 0 [] [] 79 65359 h hb (.inl ⟨rfl, rfl⟩) rfl (by omega)).mono ?_
  rintro e w2 ⟨rfl, ⟨M, cm, T, ct, xs, ys, h2⟩, hk2⟩
  have H2 := hid h2
  have HK2 := hid hk2
  clear h h2 hk2
  go_wp2_with fail
  go_loopw [] (fun wr => wr = w2) (fun _ => 0)
  case atStart => exact rfl
  case round =>
    subst hrel
    go_wp2_with fail
    refine (mark_any wr base V g 2 1 M cm T ct xs ys 217 65497 H2.out (Nat.le_trans hb HK2.out.size) (.inr ⟨rfl, rfl⟩) rfl (by omega)).mono ?_
    rintro e w3 ⟨rfl, ⟨M3, cm3, T3, ct3, xs3, ys3, h3⟩, hk3⟩
    have HK3 := hid (HK2.out.trans hk3 (fun j _ h => h))
    have c4 : w3.cell? ⟨V, 4, none⟩ = some (.bool false) := h3.blk.cell 4
    clear h3 hk3
    go_wp2_with fail
    -- region 11: 17 operations
    refine At.start (L := #[false, false, false, false, false, false, false, false, false, false, false, false, false, false, false, false, false]) (by kernel_rfl) rfl ?_
    refine At.pure 0 (some 52) (v := ?v0) rfl rfl (by kernel_rfl) (fun _ _ _ h => h) rfl (fun w' => ?y0) ?_   
    case y0 => go_simp; try with_reducible rfl
    try simp only [Act.put, List.setIfInBounds_toArray, List.set_cons_zero, List.set_cons_succ]
    refine At.pure 1 (some 53) (v := ?v1) rfl rfl (by kernel_rfl) (fun _ _ _ h => h) rfl (fun w' => ?y1) ?_   
    case y1 => go_simp; try with_reducible rfl
    try simp only [Act.put, List.setIfInBounds_toArray, List.set_cons_zero, List.set_cons_succ]
    refine At.pure 2 (some 54) (v := ?v2) rfl rfl (by kernel_rfl) (fun _ _ _ h => h) rfl (fun w' => ?y2) ?_   
    case y2 => go_simp; try with_reducible rfl
    try simp only [Act.put, List.setIfInBounds_toArray, List.set_cons_zero, List.set_cons_succ]
    refine At.read 3 (some 55) (fun w' => w'.cell? ⟨V, 4, none⟩ = some (.bool false)) (v := ?v3) rfl rfl (by kernel_rfl) (fun _ _ _ h => h) rfl c4 (fun w' hw' => ?y3) ?_   
    case y3 => skip; go_simp; try with_reducible rfl
    try simp only [Act.put, List.setIfInBounds_toArray, List.set_cons_zero, List.set_cons_succ]
    refine At.pure 4 (some 56) (v := ?v4) rfl rfl (by kernel_rfl) (fun _ _ _ h => h) rfl (fun w' => ?y4) ?_   
    case y4 => go_simp; try with_reducible rfl
    try simp only [Act.put, List.setIfInBounds_toArray, List.set_cons_zero, List.set_cons_succ]
    refine At.skip 5 (some 57) rfl rfl (by kernel_rfl) (fun _ _ _ h => h) rfl ?_   
    try simp only [Act.put, List.setIfInBounds_toArray, List.set_cons_zero, List.set_cons_succ]
    refine At.skip 6 (some 58) rfl rfl (by kernel_rfl) (fun _ _ _ h => h) rfl ?_   
    try simp only [Act.put, List.setIfInBounds_toArray, List.set_cons_zero, List.set_cons_succ]
    refine At.skip 7 (some 59) rfl rfl (by kernel_rfl) (fun _ _ _ h => h) rfl ?_   
    try simp only [Act.put, List.setIfInBounds_toArray, List.set_cons_zero, List.set_cons_succ]
    refine At.skip 8 (some 60) rfl rfl (by kernel_rfl) (fun _ _ _ h => h) rfl ?_   
    try simp only [Act.put, List.setIfInBounds_toArray, List.set_cons_zero, List.set_cons_succ]
    refine At.skip 9 (some 61) rfl rfl (by kernel_rfl) (fun _ _ _ h => h) rfl ?_   
    try simp only [Act.put, List.setIfInBounds_toArray, List.set_cons_zero, List.set_cons_succ]
    refine At.skip 10 (some 62) rfl rfl (by kernel_rfl) (fun _ _ _ h => h) rfl ?_   
    try simp only [Act.put, List.setIfInBounds_toArray, List.set_cons_zero, List.set_cons_succ]
    refine At.skip 11 (some 63) rfl rfl (by kernel_rfl) (fun _ _ _ h => h) rfl ?_   
    try simp only [Act.put, List.setIfInBounds_toArray, List.set_cons_zero, List.set_cons_succ]
    refine At.skip 12 (some 64) rfl rfl (by kernel_rfl) (fun _ _ _ h => h) rfl ?_   
    try simp only [Act.put, List.setIfInBounds_toArray, List.set_cons_zero, List.set_cons_succ]
    refine At.skip 13 (some 65) rfl rfl (by kernel_rfl) (fun _ _ _ h => h) rfl ?_   
    try simp only [Act.put, List.setIfInBounds_toArray, List.set_cons_zero, List.set_cons_succ]
    refine At.skip 14 (some 66) rfl rfl (by kernel_rfl) (fun _ _ _ h => h) rfl ?_   
    try simp only [Act.put, List.setIfInBounds_toArray, List.set_cons_zero, List.set_cons_succ]
    refine At.pure 15 (some 67) (v := ?v15) rfl rfl (by kernel_rfl) (fun _ _ _ h => h) rfl (fun w' => ?y15) ?_   
    case y15 => go_simp; try with_reducible rfl
    try simp only [Act.put, List.setIfInBounds_toArray, List.set_cons_zero, List.set_cons_succ]
    refine At.pure 16 (some 2) (v := ?v16) rfl rfl (by kernel_rfl) (fun _ _ _ h => h) rfl (fun w' => ?y16) ?_   
    case y16 => go_simp; try with_reducible rfl
    try simp only [Act.put, List.setIfInBounds_toArray, List.set_cons_zero, List.set_cons_succ]
    refine At.done (by kernel_rfl) ?_
    go_wp2_with fail
    go_ret
    exact ⟨rfl, HK3.out.drew⟩
set_option maxRecDepth 20000 in
set_option maxHeartbeats 1600000 in
theorem walk_four (w : World) (g : Nat) (h : Blk w g 5 #[.int .u8 255, .int .u8 79, .int .u8 255, .int .u8 217]) :
    Calls Try.prog 8 #[.slice (some ⟨g, 0, none⟩) 4 4] w fun e w' => e = .returned (.tuple #[.slice none 0 0, .slice none 0 0, .int .i64 10]) ∧ Keep (fun _ => False) w w' := by
  have hw := Blk.new w 36 #[.slice (some ⟨g, 0, none⟩) 4 4, .int .i64 0, .slice none 0 0, .slice none 0 0, .bool false]
  have hk := (Keep.refl (fun _ => False) w).alloc (.cells #[.slice (some ⟨g, 0, none⟩) 4 4, .int .i64 0, .slice none 0 0, .slice none 0 0, .bool false] 36)
  have hn : ∀ b : Nat, (w.alloc (.cells #[.slice (some ⟨g, 0, none⟩) 4 4, .int .i64 0, .slice none 0 0, .slice none 0 0, .bool false] 36)).ownsRow b 3 1 (.slice none 0 0) 0 [] := fun b => ⟨rfl, .inl ⟨rfl, rfl⟩⟩
  have HW := hid (show Wk (w.alloc (.cells #[.slice (some ⟨g, 0, none⟩) 4 4, .int .i64 0, .slice none 0 0, .slice none 0 0, .bool false] 36)) w.heap.size w.heap.size g 0 0 none 0 none 0 [] [] from ⟨hw, h.alloc _, hn _, hn _, fun j e => by simp [Value.ownBlock] at e⟩)
  have HK := hid hk
  clear hw hk hn h
  go_enter Try.func8, Try.ntmps8
  go_wp2_with fail
  refine (all_four _ w.heap.size w.heap.size g HW.out HK.out.size).mono ?_
  rintro e w2 ⟨rfl, hk2⟩
  have HK2 := hid (HK.out.trans hk2 (fun j hj h => by
    rcases h with h | h <;> omega))
  clear hk2 HW HK
  go_wp2_with fail
  exact bodyPost_ret (v := .tuple #[.slice none 0 0, .slice none 0 0, .int .i64 10]) (by simp [results, Try.results8, go_sem]) rfl ⟨rfl, HK2.out⟩
theorem rd_lit2 (w : World) (x y : Int) (e : TypeId) : Rd (w.alloc (.cells #[.int .u8 x, .int .u8 y] e)) (some ⟨w.heap.size, 0, none⟩) 2 (([x, y] : List Int).map (Value.int .u8)) :=
  ⟨rfl, fun _ => ⟨_, rfl, fun j v hj => by
    match j, hj with
    | 0, hj => simp at hj; subst hj; simp [Addr.add]
    | 1, hj => simp at hj; subst hj; simp [Addr.add]⟩⟩
set_option maxRecDepth 20000 in
set_option maxHeartbeats 1600000 in
theorem known_any (w : World) : Calls Try.prog 5 #[] w fun e w' => e = .returned (.bool true) ∧ Keep (fun _ => False) w w' := by
  have t1 : cleanB [255, 143] = true := by decide +kernel
  have t2 : cleanB [255, 144] = false := by decide +kernel
  have b1 : Bytes [255, 143] := fun z hz => by simp at hz; omega
  have b2 : Bytes [255, 144] := fun z hz => by simp at hz; omega
  go_enter Try.func5, Try.ntmps5
  go_wp2_with fail
  refine (walk_four _ w.heap.size (Blk.new w 5 _)).mono ?_
  rintro e w2 ⟨rfl, hk2⟩
  have HK2 := hid (((Keep.refl (fun _ => False) w).alloc _).trans hk2 (fun _ _ h => h))
  clear hk2
  go_wp2_with fail
  refine (clean_any _ (some ⟨w2.heap.size, 0, none⟩) 2 2 [255, 143] (rd_lit2 w2 255 143 _) b1 (by omega)).mono ?_
  rintro e w3 ⟨rfl, hk3⟩
  have HK3 := hid (HK2.out.trans (((Keep.refl (fun _ => False) w2).alloc _).trans hk3 (fun _ _ h => h)) (fun _ _ h => h))
  clear hk3 HK2
  rw [t1]
  go_wp2_with fail
  refine (clean_any _ (some ⟨w3.heap.size, 0, none⟩) 2 2 [255, 144] (rd_lit2 w3 255 144 _) b2 (by omega)).mono ?_
  rintro e w4 ⟨rfl, hk4⟩
  have HK4 := hid (HK3.out.trans (((Keep.refl (fun _ => False) w3).alloc _).trans hk4 (fun _ _ h => h)) (fun _ _ h => h))
  clear hk4 HK3
  rw [t2]
  go_wp2_with fail
  go_ret
  exact ⟨rfl, HK4.out⟩
end Go.Proofs.Ythfogcgdijmaoaa
