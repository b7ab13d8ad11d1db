/-
  A new tree. Conditions: none.
-/
import Derived.Test.YtbkffpedigeflaaTree
namespace Go.Proofs.Ytbkffpedigeflaa
open Go.RowKit

theorem up6 {W : Nat} (h0 : 0 < W) (h : W ≤ 64) : upN 6 W = 1 := by
  show ((((((W + 1) / 2 + 1) / 2 + 1) / 2 + 1) / 2 + 1) / 2 + 1) / 2 = 1
  omega
/-- What stands ahead of the i-th level's making. -/
structure NewI (w0 : World) (P W H i : Nat) (A : Option Addr) (c : Nat) (B : Nat → Nat) (w : World) : Prop where
  blk : Blk w P 55 #[.slice A i c]
  own : w.ownsRow w0.heap.size 58 3 (.slice A i c) i (lvrow W H B i)
  nd : ∀ j, j < i → Blk w (B j) 61 (ncells (sz W H j) (fun _ => nd0))
  inj : ∀ j k, j < i → k < i → B j = B k → j = k
  new : ∀ j, j < i → w0.heap.size ≤ B j
  keep : Keep (fun _ => False) w0 w
  p : w0.heap.size ≤ P
theorem lvcells_one (W H : Nat) (B : Nat → Nat) (i : Nat) : ∀ u ∈ lvcells W H B i, u.oneCell' = true := by
  intro u hu
  simp [lvcells] at hu
  rcases hu with rfl | rfl | rfl <;> rfl

set_option maxHeartbeats 4000000 in
theorem new_any (w : World) (W H : Nat) (hW0 : 0 < W) (hH0 : 0 < H) (hW : W ≤ 64) (hH : H ≤ 64) :
    Calls Try.prog 9 #[.int .i64 W, .int .i64 H] w fun e w' => ∃ p G c L B,
      e = .returned (.pointer (some ⟨p, 0, none⟩)) ∧ TrG w' p G c L W H B (fun _ _ => nd0) ∧ (∀ k, TF p G L B k → w.heap.size ≤ k) ∧ Keep (fun _ => False) w w' := by
  obtain ⟨i0, hi0, hz0, hz1, hz2⟩ := info_parts info_grid
  go_enter Try.func9, Try.ntmps9
  go_wp2_with fail
  have HN0 : Hid (NewI w w.heap.size W H 0 none 0 (fun _ => 0) (w.alloc (.cells #[.slice none 0 0] 55))) := hid
    ⟨Blk.new _ _ _, World.ownsRow_nil _ _ _ _, fun _ h => by omega, fun _ _ h => by omega, fun _ h => by omega, (Keep.refl _ w).alloc _, Nat.le_refl _⟩
  go_loopw [0, 1] (fun u v wr => ∃ (i : Nat) (A : Option Addr) (c : Nat) (B : Nat → Nat), i ≤ 6 ∧ u = .int .i64 (upN i W) ∧ v = .int .i64 (upN i H) ∧ Hid (NewI w w.heap.size W H i A c B wr) ∧ Hid (∀ j, j < i → ¬ (upN j W = 1 ∧ upN j H = 1))) (fun u v _ => (intOf u).toNat + (intOf v).toNat)
  case atStart => exact ⟨0, none, 0, _, by omega, rfl, rfl, HN0, hid (fun _ h => by omega)⟩
  case round =>
    obtain ⟨i, A, c, B, hi, rfl, rfl, HN, H1⟩ := hrel
    clear HN0
    have hs1 : w.heap.size ≤ wr.heap.size := HN.out.keep.size
    have hPl := HN.out.blk.lt
    have ha0 := upN_pos hW0 i
    have hb0 := upN_pos hH0 i
    have ha1 : upN i W ≤ 64 := Nat.le_trans (upN_le i) hW
    have hb1 : upN i H ≤ 64 := Nat.le_trans (upN_le i) hH
    have t0 : wr.cell? ⟨w.heap.size, 0, none⟩ = some (.slice A i c) := HN.out.blk.cell 0
    go_wp2_with fail
    -- region 4: 13 operations
    refine At.start (L := #[false, false, false, false, false, false, false, false, false, false, false, false, false]) (by kernel_rfl) rfl ?_
    refine At.pure 0 (some 24) (v := ?v0) rfl rfl (by kernel_rfl) (fun _ _ _ h => h) rfl (fun w' => ?y0) ?_   
    case y0 => go_simp; try with_reducible rfl
    try simp only [Act.put, List.setIfInBounds_toArray, List.set_cons_zero, List.set_cons_succ]
    refine At.pure 1 (some 25) (v := ?v1) rfl rfl (by kernel_rfl) (fun _ _ _ h => h) rfl (fun w' => ?y1) ?_   
    case y1 => go_simp; try with_reducible rfl
    try simp only [Act.put, List.setIfInBounds_toArray, List.set_cons_zero, List.set_cons_succ]
    refine At.pure 2 (some 26) (v := ?v2) rfl rfl (by kernel_rfl) (fun _ _ _ h => h) rfl (fun w' => ?y2) ?_   
    case y2 => go_simp; try with_reducible rfl
    try simp only [Act.put, List.setIfInBounds_toArray, List.set_cons_zero, List.set_cons_succ]
    refine At.pure 3 (some 27) (v := ?v3) rfl rfl (by kernel_rfl) (fun _ _ _ h => h) rfl (fun w' => ?y3) ?_   
    case y3 => go_simp; try with_reducible rfl
    try simp only [Act.put, List.setIfInBounds_toArray, List.set_cons_zero, List.set_cons_succ]
    refine At.read 4 (some 28) (fun w' => w'.cell? ⟨w.heap.size, 0, none⟩ = some (.slice A i c)) (v := (.slice A i c)) rfl rfl (by kernel_rfl) (fun _ _ _ h => h) rfl t0 (fun w' hw' => ?y4) ?_   
    case y4 => skip; go_simp; try with_reducible rfl
    try simp only [Act.put, List.setIfInBounds_toArray, List.set_cons_zero, List.set_cons_succ]
    refine At.pure 5 (some 29) (v := ?v5) rfl rfl (by kernel_rfl) (fun _ _ _ h => h) rfl (fun w' => ?y5) ?_   
    case y5 => go_simp; try with_reducible rfl
    try simp only [Act.put, List.setIfInBounds_toArray, List.set_cons_zero, List.set_cons_succ]
    refine At.pure 6 (some 30) (v := ?v6) rfl rfl (by kernel_rfl) (fun _ _ _ h => h) rfl (fun w' => ?y6) ?_   
    case y6 => go_simp; try with_reducible rfl
    try simp only [Act.put, List.setIfInBounds_toArray, List.set_cons_zero, List.set_cons_succ]
    refine At.call 7 (pend' := [(4, (fun w' => w'.cell? ⟨w.heap.size, 0, none⟩ = some (.slice A i c)))]) rfl (by kernel_rfl) rfl (by kernel_rfl) (fun K hK => ?_)   
    go_simp
    refine (gridof_any wr.drew (upN i W) (upN i H) ha1 hb1).mono ?_
    rintro e w3 ⟨g, rfl, hB3, hg3, hk3⟩
    have hk3' : Keep (fun _ => False) wr w3 := hk3.undrew
    have t3 := hk3'.cell t0 (fun h => h)
    have HN3 := hid hk3'
    have HB3 := hid hB3
    have hs3 : wr.heap.size ≤ w3.heap.size := hk3'.size
    have hg3' : wr.heap.size ≤ g := hg3
    clear hk3 hk3' hB3 hg3
    refine hK _ _ (all_cons t3 all_nil) ?_
    clear hK K
    try simp only [Act.put, List.setIfInBounds_toArray, List.set_cons_zero, List.set_cons_succ]
    refine At.call 8 (pend' := [(4, (fun w' => w'.cell? ⟨w.heap.size, 0, none⟩ = some (.slice A i c)))]) rfl (by kernel_rfl) rfl (by kernel_rfl) (fun K hK => ?_)   
    go_simp
    have t4 : (w3.alloc (.cells #[.int .i64 (upN i W), .int .i64 (upN i H), .slice (some ⟨g, 0, none⟩) (upN i W * upN i H) (upN i W * upN i H)] 58)).cell? ⟨w.heap.size, 0, none⟩ = some (.slice A i c) := ((Keep.refl (fun _ => False) w3).alloc _).cell t3 (fun h => h)
    refine hK _ _ (all_cons t4 all_nil) ?_
    clear hK K
    try simp only [Act.put, List.setIfInBounds_toArray, List.set_cons_zero, List.set_cons_succ]
    refine At.call 9 (pend' := []) rfl (by kernel_rfl) rfl (by kernel_rfl) (fun K hK => ?_)   
    refine wp_append_own _ (.tmp 28) (.tmp 32) 53 rfl w.heap.size 58 i0 _ 3 40 Try.underlying53 hi0 hz0 hz1 hz2 rfl (by omega) (.slice A i c) i (lvrow W H B i) rfl
      ((own_keep HN.out.own HN3.out (fun _ _ h => h)).alloc _) ⟨w3.heap.size, 0, none⟩ 1 1 (lvcells W H (fun j => if j = i then g else B j) i) rfl rfl ?hnews (lvcells_one _ _ _ _) (by simp only [maxLen]; omega) (by omega) (by rw [World.size_alloc]; omega) ?_
    case hnews =>
      intro j u hj
      have hb := (Blk.new w3 58 #[.int .i64 (upN i W), .int .i64 (upN i H), .slice (some ⟨g, 0, none⟩) (upN i W * upN i H) (upN i W * upN i H)]).cell j
      rw [add_lit', Nat.zero_add, hb, ← hj]
      simp [lvcells, sz]
    intro v5 w5 hown5 hg5 _h5
    obtain ⟨A5, c5, rfl⟩ := own_form hown5
    have hrow : ∀ k, (Value.slice A i c).ownBlock = some k → w.heap.size ≤ k ∧ k < wr.heap.size := fun k hk => HN.out.own.lt k hk
    have HKa := hid ((Keep.refl (fun _ => False) w3).alloc (.cells #[.int .i64 (upN i W), .int .i64 (upN i H), .slice (some ⟨g, 0, none⟩) (upN i W * upN i H) (upN i W * upN i H)] 58))
    have HK5 := hid (((HN.out.keep.trans HN3.out (fun _ _ h => h)).trans HKa.out (fun _ _ h => h)).grown hg5 (fun k hk => .inr (hrow k hk).1))
    have b5 := ((HN.out.blk.keep HN3.out (fun h => h)).keep HKa.out (fun h => h)).grown hg5 (Ne.symm (own_ne HN.out.own HN.out.blk (by decide)))
    have t5 : w5.cell? ⟨w.heap.size, 0, none⟩ = some (.slice A i c) := b5.cell 0
    have f5 := b5.frozen 0
    have HB5 := hid b5
    have HND : Hid (∀ j, j < i + 1 → Blk w5 (if j = i then g else B j) 61 (ncells (sz W H j) (fun _ => nd0))) := hid (fun j hj => by
      by_cases e : j = i
      · subst e
        rw [if_pos rfl]
        refine (HB3.out.keep HKa.out (fun h => h)).grown hg5 (fun e => ?_)
        have := (hrow _ e.symm).2
        omega
      · rw [if_neg e]
        have hj' : j < i := by omega
        exact (((HN.out.nd j hj').keep HN3.out (fun h => h)).keep HKa.out (fun h => h)).grown hg5 (Ne.symm (own_ne HN.out.own (HN.out.nd j hj') (by decide))))
    have HO5 : Hid (w5.ownsRow w.heap.size 58 3 (.slice A5 (i + 1) c5) (i + 1) (lvrow W H (fun j => if j = i then g else B j) (i + 1))) := hid (by
      show w5.ownsRow _ _ _ _ _ (lvrow W H (fun j => if j = i then g else B j) i ++ lvcells W H (fun j => if j = i then g else B j) i)
      rw [lvrow_congr (B := fun j => if j = i then g else B j) (B' := B) (fun j hj => if_neg (by omega))]
      exact hown5)
    have HBW := hid (fun j (hj : j < i) => (HN.out.nd j hj).lt)
    clear hown5 hg5 b5 hrow HKa
    refine hK _ _ all_nil ?_
    clear hK K
    try simp only [Act.put, List.setIfInBounds_toArray, List.set_cons_zero, List.set_cons_succ]
    refine At.pure 10 (some 34) (v := ?v10) rfl rfl (by kernel_rfl) (fun _ _ _ h => h) rfl (fun w' => ?y10) ?_   
    case y10 => go_simp; try with_reducible rfl
    try simp only [Act.put, List.setIfInBounds_toArray, List.set_cons_zero, List.set_cons_succ]
    refine At.pure 11 (some 35) (v := ?v11) rfl rfl (by kernel_rfl) (fun _ _ _ h => h) rfl (fun w' => ?y11) ?_   
    case y11 => go_simp; try with_reducible rfl
    try simp only [Act.put, List.setIfInBounds_toArray, List.set_cons_zero, List.set_cons_succ]
    refine At.call 12 (pend' := []) rfl (by kernel_rfl) rfl (by kernel_rfl) (fun K hK => ?_)   
    go_simp
    refine hK _ _ all_nil ?_
    clear hK K
    try simp only [Act.put, List.setIfInBounds_toArray, List.set_cons_zero, List.set_cons_succ]
    refine At.done (by kernel_rfl) ?_
    have HN6 : Hid (NewI w w.heap.size W H (i + 1) A5 c5 (fun j => if j = i then g else B j) (w5.setCell ⟨w.heap.size, 0, none⟩ (.slice A5 (i + 1) c5))) := hid (by
      have hs := Keep.set1 w5 w.heap.size 0 (.slice A5 (i + 1) c5)
      have hne := own_ne HO5.out HB5.out (by decide)
      refine ⟨HB5.out.set_ 0 _, own_keep HO5.out hs (fun k e hk => hne (by rw [e, hk])), fun j hj => (HND.out j hj).keep hs (fun e => Blk.ne_ (HND.out j hj) HB5.out (by decide) e), fun j k hj hk e => ?_, fun j hj => ?_, HK5.out.setCell (.inr (Nat.le_refl _)) _, Nat.le_refl _⟩
      · by_cases e1 : j = i
        · by_cases e2 : k = i
          · omega
          · simp only [if_pos e1, if_neg e2] at e
            have := HBW.out k (by omega)
            omega
        · by_cases e2 : k = i
          · simp only [if_pos e2, if_neg e1] at e
            have := HBW.out j (by omega)
            omega
          · simp only [if_neg e1, if_neg e2] at e
            exact HN.out.inj j k (by omega) (by omega) e
      · by_cases e1 : j = i
        · simp only [if_pos e1]; omega
        · simp only [if_neg e1]; exact HN.out.new j (by omega))
    by_cases h11 : upN i W = 1 ∧ upN i H = 1
    · obtain ⟨hw1, hh1⟩ := h11
      have HLEV : Hid (Lev W H (i + 1)) := hid ⟨hW0, hH0, hW, hH, by omega, by omega, hw1, hh1, fun j hj => H1.out j (by omega)⟩
      clear HN HN3 HB3 HK5 HB5 HO5 HND HBW H1 t0 t3 t4 t5 f5
      rw [hw1, hh1]
      go_wp2_with fail
      go_ret
      obtain ⟨G, hG, hGc, hGb, hGt, hcell⟩ : ∃ G, A5 = some ⟨G, 0, none⟩ ∧ i + 1 ≤ c5 ∧ w.heap.size ≤ G ∧ (∃ cs, Blk (w5.setCell ⟨w.heap.size, 0, none⟩ (.slice A5 (i + 1) c5)) G 58 cs) ∧ ∀ j u, (lvrow W H (fun j => if j = i then g else B j) (i + 1))[j]? = some u → (w5.setCell ⟨w.heap.size, 0, none⟩ (.slice A5 (i + 1) c5)).cell? ⟨G, j, none⟩ = some u := by
        rcases HN6.out.own.2 with ⟨h0, _⟩ | ⟨G, cap, cur, hv, hb, hg, hnc, _⟩
        · cases h0
        · injection hv with h1 h2 h3
          subst h1 h3
          refine ⟨G, rfl, hnc, hb, ⟨_, hg⟩, fun j u hu => ?_⟩
          have := HN6.out.own.cells (g := G) rfl j u hu
          rw [add_lit', Nat.zero_add] at this
          exact this
      subst hG
      refine ⟨w.heap.size, G, c5, i + 1, _, rfl, ⟨HLEV.out, hGc, HN6.out.blk, fun j hj => ?_, fun j hj => HN6.out.nd j hj, HN6.out.inj, hGt⟩, fun k hk => ?_, HN6.out.keep⟩
      · obtain ⟨h1, h2, h3⟩ := lvrow_at W H (fun j => if j = i then g else B j) (i + 1) j hj
        exact ⟨hcell _ _ h1, hcell _ _ h2, hcell _ _ h3⟩
      · rcases hk with rfl | rfl | ⟨j, hj, rfl⟩
        · exact Nat.le_refl _
        · exact hGb
        · exact HN6.out.new j hj
    · have hup : upN (i + 1) W = (upN i W + 1) / 2 := rfl
      have hup' : upN (i + 1) H = (upN i H + 1) / 2 := rfl
      have hi6 : i < 6 := by
        rcases Nat.lt_or_ge i 6 with h | h
        · exact h
        · obtain rfl : i = 6 := by omega
          exact absurd ⟨up6 hW0 hW, up6 hH0 hH⟩ h11
      have HNX : Hid (∀ j, j < i + 1 → ¬ (upN j W = 1 ∧ upN j H = 1)) := hid (fun j hj => by
        by_cases e : j = i
        · subst e; exact h11
        · exact H1.out j (by omega))
      clear HN HN3 HB3 HK5 HB5 HO5 HND HBW H1 t0 t3 t4 t5 f5
      have fin : ∀ (x y : Int), x = upN (i + 1) W → y = upN (i + 1) H → ∃ (i' : Nat) (A' : Option Addr) (c' : Nat) (B' : Nat → Nat), i' ≤ 6 ∧ Value.int .i64 x = .int .i64 (upN i' W) ∧ Value.int .i64 y = .int .i64 (upN i' H) ∧ Hid (NewI w w.heap.size W H i' A' c' B' (w5.setCell ⟨w.heap.size, 0, none⟩ (.slice A5 (i + 1) c5))) ∧ Hid (∀ j, j < i' → ¬ (upN j W = 1 ∧ upN j H = 1)) :=
        fun x y hx hy => ⟨i + 1, A5, c5, _, by omega, by rw [hx], by rw [hy], HN6, HNX⟩
      have HF := hid fin
      clear fin HN6 HNX
      generalize upN (i + 1) W = a' at *
      generalize upN (i + 1) H = b' at *
      generalize hwa : upN i W = a at *
      generalize hwb : upN i H = b at *
      rcases Nat.lt_or_ge 1 a with h1a | h1a
      · have ea : ((a : Int) == 1) = false := by simp; omega
        go_wp2_with fail
        exact ⟨HF.out _ _ (by omega) (by omega), by rw [hwa, hwb]; simp [intOf]; omega⟩
      · obtain rfl : a = 1 := by omega
        have eb : ((b : Int) == 1) = false := by simp; omega
        go_wp2_with fail
        exact ⟨HF.out _ _ (by omega) (by omega), by rw [hwa, hwb]; simp [intOf]; omega⟩
end Go.Proofs.Ytbkffpedigeflaa
