/-
  The nodes from the top one down to a leaf. Conditions: none.
-/
import Derived.Test.YtbkffpedigeflaaTree
namespace Go.Proofs.Ytbkffpedigeflaa
open Go.RowKit

def ptrW (W L k : Nat) (B : Nat → Nat) (r : Nat) : Value := .pointer (some ⟨B (L - 1 - r), 3 * idx W (L - 1 - r) k, none⟩)
/-- The way's pointers, those of the i lowest levels being there. -/
def wayTo (W L k : Nat) (B : Nat → Nat) (i : Nat) : Array Value := ((List.range L).map (fun r => if L - 1 - r < i then ptrW W L k B r else .pointer none)).toArray
theorem wayTo_set (W L k : Nat) (B : Nat → Nat) (i : Nat) (h : i < L) : (wayTo W L k B i).setIfInBounds (L - 1 - i) (.pointer (some ⟨B i, 3 * idx W i k, none⟩)) = wayTo W L k B (i + 1) := by
  apply Array.ext_getElem?
  intro j
  have hs : (wayTo W L k B i).size = L := by simp [wayTo]
  rw [Array.getElem?_setIfInBounds, hs]
  unfold wayTo
  simp only [List.getElem?_toArray, List.getElem?_map]
  rcases Nat.lt_or_ge j L with hj | hj
  · rw [List.getElem?_range hj]
    simp only [Option.map_some]
    by_cases e : L - 1 - i = j
    · rw [if_pos e, if_pos (by omega), if_pos (by omega)]
      unfold ptrW
      rw [show L - 1 - j = i by omega]
    · rw [if_neg e]
      by_cases e2 : L - 1 - j < i
      · rw [if_pos e2, if_pos (by omega)]
      · rw [if_neg e2, if_neg (by omega)]
  · rw [List.getElem?_eq_none (by simpa using hj)]
    simp only [Option.map_none]
    rw [if_neg (by omega)]
theorem wayTo_at (W L k : Nat) (B : Nat → Nat) (r : Nat) (h : r < L) : (wayTo W L k B L)[r]? = some (ptrW W L k B r) := by
  unfold wayTo
  simp only [List.getElem?_toArray, List.getElem?_map, List.getElem?_range h, Option.map_some]
  rw [if_pos (by omega)]
theorem wayTo_some (W L k : Nat) (B : Nat → Nat) (i r : Nat) (h : r < L) : ∃ u, (wayTo W L k B i)[r]? = some u := by
  unfold wayTo
  simp only [List.getElem?_toArray, List.getElem?_map, List.getElem?_range h, Option.map_some]
  exact ⟨_, rfl⟩
theorem info_ptr : (Try.prog.info? 69).map (fun i => (i.zero, i.size, i.bytes)) = some (some (.pointer none), 1, 8) := by kernel_rfl
theorem made_ptrs (W L k : Nat) (B : Nat → Nat) (z : Value) (hz : z.cells = #[.pointer none]) : madeCells z.cells (L * 1) = wayTo W L k B 0 := by
  rw [hz]
  unfold madeCells wayTo
  apply Array.ext_getElem?
  intro j
  rcases Nat.lt_or_ge j L with hk | hk
  · rw [Array.getElem?_map, Array.getElem?_range, if_pos (by omega)]
    simp only [List.getElem?_toArray, List.getElem?_map, List.getElem?_range hk, Option.map_some]
    show some (#[Value.pointer none][j % 1]!) = _
    rw [Nat.mod_one, if_neg (by omega)]
    rfl
  · rw [Array.getElem?_map, Array.getElem?_range, if_neg (by omega)]
    simp only [List.getElem?_toArray, List.getElem?_map]
    rw [List.getElem?_eq_none (by simpa using hk)]
    rfl

set_option maxHeartbeats 4000000 in
theorem way_in (w : World) (p G c L W H : Nat) (B : Nat → Nat) (N : Nat → Nat → Nd) (k : Nat) (h : TrG w p G c L W H B N) (hk : k < W * H) :
    Calls Try.prog 26 #[.pointer (some ⟨p, 0, none⟩), .int .i64 k] w fun e w' => ∃ Q, e = .returned (.slice (some ⟨Q, 0, none⟩) L L) ∧
      Blk w' Q 69 (wayTo W L k B L) ∧ w.heap.size ≤ Q ∧ Keep (fun _ => False) w w' := by
  obtain ⟨i0, hi0, hz0, hz1, hz2⟩ := info_parts info_ptr
  have hL := h.lev.pos
  have hL7 := h.lev.le
  have hc := h.cap
  have hW0 := h.lev.w0
  have hW1 := h.lev.w1
  have hm : W * H ≤ 4096 := Nat.le_trans (Nat.mul_le_mul h.lev.w1 h.lev.h1) (by decide)
  have p0 : w.cell? ⟨p, 0, none⟩ = some (.slice (some ⟨G, 0, none⟩) L c) := h.blk.cell 0
  have g0 : w.cell? ⟨G, 0, none⟩ = some (.int .i64 W) := (h.lv 0 (by omega)).1
  have g2 : w.cell? ⟨G, 2, none⟩ = some (.slice (some ⟨B 0, 0, none⟩) (W * H) (W * H)) := (h.lv 0 (by omega)).2.2
  have HT := hid h
  clear h
  have e0 : ((L : Int) == 0) = false := by simp; omega
  have e1 : decide ((k : Int) < 0) = false := by simp
  have e2 : decide ((k : Int) ≥ ((W * H : Nat) : Int)) = false := by simp only [decide_eq_false_iff_not]; omega
  have HK := hid hk
  have e3 : Hid (wrap64 ((k : Int) / (W : Int)) = ((k / W : Nat) : Int)) := hid (by
    have hd : k / W ≤ k := Nat.div_le_self _ _
    rw [← Int.natCast_ediv]
    generalize k / W = q at *
    exact IntWalk.wrap64_in _ (by omega))
  have e4 : Hid ((k : Int) % (W : Int) = ((k % W : Nat) : Int)) := hid (by simp)
  generalize hM : W * H = m at *
  go_enter Try.func26, Try.ntmps26
  go_wp2_with fail
  go_quiet (fail)
  go_wp2_with (refine wpList_make_full _ rfl _ _ 66 rfl w.heap.size 69 i0 _ 1 Try.underlying66 hi0 hz0 hz1 .i64 .i64 _ _ L rfl rfl rfl rfl (by rw [hz2]; omega) (by simp only [maxLen]; omega) (by simp) ?_; intro w2 hown2 hg2)
  have hb2 := blk_of_full hown2
  rw [Array.toArray_toList, made_ptrs W L k B _ rfl] at hb2
  have hk2 : Keep (fun _ => False) w w2 := ((Keep.refl (fun _ => False) w).drewN _ |>.grown hg2 (fun k hk => by cases hk))
  obtain ⟨X, hX⟩ : ∃ X : Nat, k % W = X := ⟨_, rfl⟩
  obtain ⟨Y, hY⟩ : ∃ Y : Nat, k / W = Y := ⟨_, rfl⟩
  have e5 := e3.out
  have e6 := e4.out
  rw [hY] at e5
  rw [hX] at e6
  rw [e5, e6]
  have HX := hid hX
  have HY := hid hY
  clear e3 e4 e5 e6 hX hY
  have HB2 := hid hb2
  have HK2 := hid hk2
  clear hown2 hg2 hb2 hk2
  go_loopw [58] (fun u wr => ∃ i : Nat, i ≤ L ∧ u = .int .i64 i ∧ Hid (Blk wr w.heap.size 69 (wayTo W L k B i)) ∧ Hid (Keep (fun _ => False) w wr)) (fun u _ => L - (intOf u).toNat)
  case atStart => exact ⟨0, by omega, rfl, HB2, HK2⟩
  case round =>
    obtain ⟨i, hi, rfl, HB, HKr⟩ := hrel
    clear HB2 HK2
    by_cases hiL : i < L
    · have HTr := hid (HT.out.aside HKr.out)
      have c0 := (HTr.out.lv i hiL).1
      have c1 := (HTr.out.lv i hiL).2.1
      have c2 := (HTr.out.lv i hiL).2.2
      have pr : wr.cell? ⟨p, 0, none⟩ = some (.slice (some ⟨G, 0, none⟩) L c) := HTr.out.blk.cell 0
      have hx := div_lt_up (Nat.mod_lt k hW0) i
      rw [HX.out] at hx
      have hWi := upN_le (W := W) i
      obtain ⟨j, hj, hjL⟩ : ∃ j, L - 1 - i = j ∧ j < L := ⟨_, rfl, by omega⟩
      have w5 : IntKind.i64.wrap ((L : Int) - 1) = (L : Int) - 1 := IntWalk.i64_in _ (by omega)
      have w6 : IntKind.i64.wrap ((L : Int) - 1 - (i : Int)) = (j : Int) := by rw [IntWalk.i64_in _ (by omega)]; omega
      go_wp2_with fail
      -- region 9: 21 operations
      refine At.start (L := #[false, false, false, false, false, false, false, false, false, false, false, false, false, false, false, false, false, false, false, false, false]) (by kernel_rfl) rfl ?_
      refine At.pure 0 (some 61) (v := ?v0) rfl rfl (by kernel_rfl) (fun _ _ _ h => h) rfl (fun w' => ?y0) ?_   
      case y0 => go_simp; try with_reducible rfl
      try simp only [Act.put, List.setIfInBounds_toArray, List.set_cons_zero, List.set_cons_succ]
      refine At.pure 1 (some 62) (v := ?v1) rfl rfl (by kernel_rfl) (fun _ _ _ h => h) rfl (fun w' => ?y1) ?_   
      case y1 => go_simp; try with_reducible rfl
      try simp only [Act.put, List.setIfInBounds_toArray, List.set_cons_zero, List.set_cons_succ]
      refine At.pure 2 (some 63) (v := ?v2) rfl rfl (by kernel_rfl) (fun _ _ _ h => h) rfl (fun w' => ?y2) ?_   
      case y2 => go_simp; try with_reducible rfl
      try simp only [Act.put, List.setIfInBounds_toArray, List.set_cons_zero, List.set_cons_succ]
      refine At.pure 3 (some 64) (v := ?v3) rfl rfl (by kernel_rfl) (fun _ _ _ h => h) rfl (fun w' => ?y3) ?_   
      case y3 => go_simp; try with_reducible rfl
      try simp only [Act.put, List.setIfInBounds_toArray, List.set_cons_zero, List.set_cons_succ]
      refine At.pure 4 (some 65) (v := ?v4) rfl rfl (by kernel_rfl) (fun _ _ _ h => h) rfl (fun w' => ?y4) ?_   
      case y4 => go_simp; try with_reducible rfl
      try simp only [Act.put, List.setIfInBounds_toArray, List.set_cons_zero, List.set_cons_succ]
      refine At.pure 5 (some 66) (v := ?v5) rfl rfl (by kernel_rfl) (fun _ _ _ h => h) rfl (fun w' => ?y5) ?_   
      case y5 => go_simp; try with_reducible rfl
      try simp only [Act.put, List.setIfInBounds_toArray, List.set_cons_zero, List.set_cons_succ]
      refine At.pure 6 (some 67) (v := ?v6) rfl rfl (by kernel_rfl) (fun _ _ _ h => h) rfl (fun w' => ?y6) ?_   
      case y6 => go_simp; try with_reducible rfl
      try simp only [Act.put, List.setIfInBounds_toArray, List.set_cons_zero, List.set_cons_succ]
      refine At.pure 7 (some 68) (v := ?v7) rfl rfl (by kernel_rfl) (fun _ _ _ h => h) rfl (fun w' => ?y7) ?_   
      case y7 => go_simp; try with_reducible rfl
      try simp only [Act.put, List.setIfInBounds_toArray, List.set_cons_zero, List.set_cons_succ]
      refine At.read 8 (some 69) (fun w' => w'.cell? ⟨p, 0, none⟩ = some (.slice (some ⟨G, 0, none⟩) L c)) (v := ?v8) rfl rfl (by kernel_rfl) (fun _ _ _ h => h) rfl pr (fun w' hw' => ?y8) ?_   
      case y8 => skip; go_simp; try with_reducible rfl
      try simp only [Act.put, List.setIfInBounds_toArray, List.set_cons_zero, List.set_cons_succ]
      refine At.pure 9 (some 70) (v := ?v9) rfl rfl (by kernel_rfl) (fun _ _ _ h => h) rfl (fun w' => ?y9) ?_   
      case y9 => go_simp; try with_reducible rfl
      try simp only [Act.put, List.setIfInBounds_toArray, List.set_cons_zero, List.set_cons_succ]
      refine At.pure 10 (some 71) (v := ?v10) rfl rfl (by kernel_rfl) (fun _ _ _ h => h) rfl (fun w' => ?y10) ?_   
      case y10 => go_simp; try with_reducible rfl
      try simp only [Act.put, List.setIfInBounds_toArray, List.set_cons_zero, List.set_cons_succ]
      refine At.read 11 (some 72) (fun w' => w'.cell? ⟨G, i * 3, none⟩ = some (.int .i64 (upN i W)) ∧ w'.cell? ⟨G, i * 3 + 1, none⟩ = some (.int .i64 (upN i H)) ∧ w'.cell? ⟨G, i * 3 + 2, none⟩ = some (.slice (some ⟨B i, 0, none⟩) (sz W H i) (sz W H i))) (v := (.agg #[.int .i64 (upN i W), .int .i64 (upN i H), .slice (some ⟨B i, 0, none⟩) (sz W H i) (sz W H i)])) rfl rfl (by kernel_rfl) (fun _ _ _ h => h) rfl ⟨c0, c1, c2⟩ (fun w' hw' => ?y11) ?_   
      case y11 => obtain ⟨h1, h2, h3⟩ := hw'; go_simp; try with_reducible rfl
      try simp only [Act.put, List.setIfInBounds_toArray, List.set_cons_zero, List.set_cons_succ]
      refine At.pure 12 (some 73) (v := ?v12) rfl rfl (by kernel_rfl) (fun _ _ _ h => h) rfl (fun w' => ?y12) ?_   
      case y12 => go_simp; try with_reducible rfl
      try simp only [Act.put, List.setIfInBounds_toArray, List.set_cons_zero, List.set_cons_succ]
      refine At.pure 13 (some 74) (v := ?v13) rfl rfl (by kernel_rfl) (fun _ _ _ h => h) rfl (fun w' => ?y13) ?_   
      case y13 => go_simp; try with_reducible rfl
      try simp only [Act.put, List.setIfInBounds_toArray, List.set_cons_zero, List.set_cons_succ]
      refine At.pure 14 (some 75) (v := ?v14) rfl rfl (by kernel_rfl) (fun _ _ _ h => h) rfl (fun w' => ?y14) ?_   
      case y14 => go_simp; try with_reducible rfl
      try simp only [Act.put, List.setIfInBounds_toArray, List.set_cons_zero, List.set_cons_succ]
      refine At.pure 15 (some 76) (v := ?v15) rfl rfl (by kernel_rfl) (fun _ _ _ h => h) rfl (fun w' => ?y15) ?_   
      case y15 => go_simp; try with_reducible rfl
      try simp only [Act.put, List.setIfInBounds_toArray, List.set_cons_zero, List.set_cons_succ]
      refine At.pure 16 (some 77) (v := ?v16) rfl rfl (by kernel_rfl) (fun _ _ _ h => h) rfl (fun w' => ?y16) ?_   
      case y16 => go_simp; try with_reducible rfl
      try simp only [Act.put, List.setIfInBounds_toArray, List.set_cons_zero, List.set_cons_succ]
      refine At.pure 17 (some 78) (v := ?v17) rfl rfl (by kernel_rfl) (fun _ _ _ h => h) rfl (fun w' => ?y17) ?_   
      case y17 => go_simp; try with_reducible rfl
      try simp only [Act.put, List.setIfInBounds_toArray, List.set_cons_zero, List.set_cons_succ]
      refine At.call 18 (pend' := []) rfl (by kernel_rfl) rfl (by kernel_rfl) (fun K hK => ?_)   
      go_simp
      rw [show (X : Int) / 2 ^ i = ((X / 2 ^ i : Nat) : Int) by simp, show (Y : Int) / 2 ^ i = ((Y / 2 ^ i : Nat) : Int) by simp]
      have hid_ : idx W i k = Y / 2 ^ i * upN i W + X / 2 ^ i := by unfold idx; rw [HX.out, HY.out]
      have hix := idx_lt HT.out.lev (by rw [hM]; exact HK.out) i
      rw [hid_] at hix
      have hyi := div_lt_up (x := k / W) (W := H) (by rw [Nat.div_lt_iff_lt_mul hW0, Nat.mul_comm, hM]; exact HK.out) i
      rw [HY.out] at hyi
      have hHi := Nat.le_trans (upN_le (W := H) i) HT.out.lev.h1
      refine (at_grid wr.drew (upN i W) (upN i H) (B i) (sz W H i) (X / 2 ^ i) (Y / 2 ^ i) (by omega) (by omega) (by omega) hix (sz_le hW1 HT.out.lev.h1 i)).mono ?_
      rintro e w3 ⟨rfl, hk3⟩
      have hk3' : Keep (fun _ => False) wr w3 := hk3.undrew
      have HB3 := hid (HB.out.keep hk3' (fun h => h))
      have HK3 := hid (HKr.out.trans hk3' (fun _ _ h => h))
      obtain ⟨u, hu⟩ := wayTo_some W L k B i j hjL
      have q1 : w3.cell? ⟨w.heap.size, j, none⟩ = some u := (HB3.out.cell j).trans hu
      have q2 := HB3.out.frozen j
      have HB4 := hid (show Blk (w3.setCell ⟨w.heap.size, j, none⟩ (.pointer (some ⟨B i, 3 * (Y / 2 ^ i * upN i W + X / 2 ^ i), none⟩))) w.heap.size 69 (wayTo W L k B (i + 1)) from by
        rw [← wayTo_set W L k B i hiL, hj, hid_]
        exact HB3.out.set_ j _)
      have HK4 := hid (HK3.out.setCell (p := ⟨w.heap.size, j, none⟩) (.inr (Nat.le_refl _)) (.pointer (some ⟨B i, 3 * (Y / 2 ^ i * upN i W + X / 2 ^ i), none⟩)))
      clear HB HKr HB3 HK3
      refine hK _ _ all_nil ?_
      clear hK K
      try simp only [Act.put, List.setIfInBounds_toArray, List.set_cons_zero, List.set_cons_succ]
      refine At.pure 19 (some 80) (v := ?v19) rfl rfl (by kernel_rfl) (fun _ _ _ h => h) rfl (fun w' => ?y19) ?_   
      case y19 => go_simp; try with_reducible rfl
      try simp only [Act.put, List.setIfInBounds_toArray, List.set_cons_zero, List.set_cons_succ]
      refine At.call 20 (pend' := []) rfl (by kernel_rfl) rfl (by kernel_rfl) (fun K hK => ?_)   
      go_simp
      refine hK _ _ all_nil ?_
      clear hK K
      try simp only [Act.put, List.setIfInBounds_toArray, List.set_cons_zero, List.set_cons_succ]
      refine At.done (by kernel_rfl) ?_
      generalize 3 * (Y / 2 ^ i * upN i W + X / 2 ^ i) = off at *
      go_wp2_with fail
      exact ⟨⟨i + 1, by omega, by go_num, HB4, HK4⟩, by simp [intOf]; omega⟩
    · obtain rfl : i = L := by omega
      go_wp2_with fail
      go_ret
      exact ⟨w.heap.size, rfl, HB.out, Nat.le_refl _, HKr.out⟩
end Go.Proofs.Ytbkffpedigeflaa
