/-
  BitsStuffed, BitsOnes: the walks. Conditions: none.
-/
import Derived.Test.YtnhciiljdmgcjaaLawBits
import Derived.WalkLawsBesides
namespace Go.Proofs.Ytnhciiljdmgcjaa
open Go.RowKit

/-- The program's writer; all it holds is new. -/
structure One (w0 : World) (W : Nat) (A : Option Addr) (n c : Nat) (l : List Int) (r : Int) (w : World) : Prop where
  wr : Wr w w0.heap.size W A n c l r
  hW : w0.heap.size ≤ W
  keep : Keep (fun _ => False) w0 w
  inv : BInv l r
theorem One.footW {w0 w : World} {W : Nat} {A : Option Addr} {n c : Nat} {l : List Int} {r : Int} (h : One w0 W A n c l r w) (k : Nat) (hk : foot W A k) : w0.heap.size ≤ k := by
  rcases hk with rfl | ⟨ad, e, rfl⟩
  · exact h.hW
  · exact (own_foot_lt h.wr.own ad e).1
theorem One.next {w0 w w1 : World} {W : Nat} {A A1 : Option Addr} {n c n1 c1 : Nat} {l l1 : List Int} {r r1 : Int} (h : One w0 W A n c l r w)
    (h1 : Wr w1 w0.heap.size W A1 n1 c1 l1 r1) (k1 : Keep (foot W A) w w1) (hi : BInv l1 r1) : One w0 W A1 n1 c1 l1 r1 w1 := ⟨h1, h.hW, h.keep.new k1 h.footW, hi⟩
theorem One.aside {w0 w w1 : World} {W : Nat} {A : Option Addr} {n c : Nat} {l : List Int} {r : Int} (h : One w0 W A n c l r w) (hk : Keep (fun _ => False) w w1) : One w0 W A n c l r w1 :=
  ⟨h.wr.keep hk (fun h => h) (fun _ _ h => h), h.hW, h.keep.trans hk (fun _ _ h => h), h.inv⟩
theorem One.drew {w0 w : World} {W : Nat} {A : Option Addr} {n c : Nat} {l : List Int} {r : Int} (h : One w0 W A n c l r w) : One w0 W A n c l r w.drew := h.aside (Keep.refl _ w).drew
def OneS (w0 : World) (W : Nat) (l : List Int) (r : Int) (w : World) : Prop := ∃ A n c, One w0 W A n c l r w

/-- Behind a 255 nothing above 127; the last one is not 255. -/
def Stuffed (l : List Int) : Prop := (∀ i, i + 1 < l.length → l.getD i 0 = 255 → l.getD (i + 1) 0 ≤ 127) ∧ lastM l ≠ 255
theorem BInv.out {l : List Int} {r : Int} (h : BInv l r) : Stuffed (outB l) := by
  unfold outB
  by_cases hz : lastM l = 255
  · rw [if_pos hz]
    refine ⟨fun i hi he => ?_, by rw [lastM_snoc]; decide⟩
    rw [getD_snoc] at he ⊢
    simp at hi
    by_cases h1 : i + 1 < l.length
    · rw [if_pos h1]
      rw [if_pos (by omega)] at he
      exact h.stuffed i h1 he
    · rw [if_neg h1, if_pos (by omega)]
      decide
  · rw [if_neg hz]
    exact ⟨h.stuffed, hz⟩

set_option maxHeartbeats 4000000 in
theorem bitsStuffed_walk (A : Option Addr) (n c : Nat) (ns : List Int) (w : World) (h : Arg .i64 8 w A n c ns) :
    Calls Try.prog 4 #[.slice A n c] w fun e w' => e = .returned (.bool true) ∧ Below w.heap.size w w' := by
  go_enter Try.func4, Try.ntmps4
  go_wp2_with fail
  refine (known_any w).mono ?_
  rintro e w1 ⟨rfl, hk1⟩
  go_wp2_with fail
  refine (neww_any w1).mono ?_
  rintro e w2 ⟨W, rfl, hW, hw2, hk2⟩
  have hT : OneS w W [] 0 w2 := by
    have hs1 := hk1.size
    exact ⟨none, 0, 0, ⟨hw2.blk, own_mono hw2.own hs1⟩, by omega, hk1.trans hk2 (fun _ _ h => h), BInv.nil⟩
  have HT := hid hT
  clear hT hw2 hk1 hk2 hW
  have hcn : n ≤ 9223372036854775807 := by have := h.cap; have := h.reach; omega
  have H := hid h
  clear h
  go_wp2_with fail
  go_loopw [4] (fun v wr => ∃ i : Nat, i ≤ 60 ∧ v = .int .i64 i ∧ ∃ l r, Hid (OneS w W l r wr) ∧ Hid (l.length ≤ 32 * i)) (fun v _ => 60 - (intOf v).toNat)
  case atStart => exact ⟨0, by omega, rfl, [], 0, HT, hid (by simp)⟩
  case round =>
    obtain ⟨i, hi, rfl, l, r, HTS, HL⟩ := hrel
    clear HT
    obtain ⟨A1, n1, c1, ht⟩ := HTS.out
    have HT := hid ht
    by_cases hlt : i < n ∧ i < 60
    · obtain ⟨h1, h2⟩ := hlt
      obtain ⟨b1, o1, rfl, hc1⟩ := (H.out.rd.keep ht.keep (fun _ _ h => h)).int_ix h1
      clear ht HTS
      generalize ns.getD i 0 = x at *
      have hlr := HL.out
      have ha1 : (0 : Int) ≤ (i : Int) := by omega
      have hq11 : IntKind.i64.wrap (1 + (i : Int) % 11) = 1 + (i : Int) % 11 := IntWalk.i64_in _ (by omega)
      go_wp2_with fail
      -- region 7: 9 operations
      refine At.start (L := #[false, false, false, false, false, false, false, false, false]) (by kernel_rfl) rfl ?_
      refine At.pure 0 (some 20) (v := ?v0) rfl rfl (by kernel_rfl) (fun _ _ _ h => h) rfl (fun w' => ?y0) ?_   
      case y0 => go_simp; try with_reducible rfl
      try simp only [Act.put, List.setIfInBounds_toArray, List.set_cons_zero, List.set_cons_succ]
      refine At.pure 1 (some 21) (v := ?v1) rfl rfl (by kernel_rfl) (fun _ _ _ h => h) rfl (fun w' => ?y1) ?_   
      case y1 => go_simp; try with_reducible rfl
      try simp only [Act.put, List.setIfInBounds_toArray, List.set_cons_zero, List.set_cons_succ]
      refine At.pure 2 (some 22) (v := ?v2) rfl rfl (by kernel_rfl) (fun _ _ _ h => h) rfl (fun w' => ?y2) ?_   
      case y2 => go_simp; try with_reducible rfl
      try simp only [Act.put, List.setIfInBounds_toArray, List.set_cons_zero, List.set_cons_succ]
      refine At.pure 3 (some 23) (v := ?v3) rfl rfl (by kernel_rfl) (fun _ _ _ h => h) rfl (fun w' => ?y3) ?_   
      case y3 => go_simp; try with_reducible rfl
      try simp only [Act.put, List.setIfInBounds_toArray, List.set_cons_zero, List.set_cons_succ]
      refine At.read 4 (some 24) (fun w' => w'.cell? ⟨b1, o1 + i, none⟩ = some (.int .i64 x)) (v := (.int .i64 x)) rfl rfl (by kernel_rfl) (fun _ _ _ h => h) rfl hc1 (fun w' hw' => ?y4) ?_   
      case y4 => skip; go_simp; try with_reducible rfl
      try simp only [Act.put, List.setIfInBounds_toArray, List.set_cons_zero, List.set_cons_succ]
      refine At.pure 5 (some 25) (v := ?v5) rfl rfl (by kernel_rfl) (fun _ _ _ h => h) rfl (fun w' => ?y5) ?_   
      case y5 => go_simp; try with_reducible rfl
      try simp only [Act.put, List.setIfInBounds_toArray, List.set_cons_zero, List.set_cons_succ]
      refine At.call 6 (pend' := [(4, (fun w' => w'.cell? ⟨b1, o1 + i, none⟩ = some (.int .i64 x)))]) rfl (by kernel_rfl) rfl (by kernel_rfl) (fun K hK => ?_)   
      go_simp
      refine (within_any i 11 _ (by omega) (by omega)).mono ?_
      rintro e w9 ⟨rfl, rfl⟩
      have q1 : (0 : Int) ≤ (i : Int) % 11 := by omega
      have q2 : (i : Int) % 11 < 11 := by omega
      refine hK _ _ (all_cons hc1 all_nil) ?_
      clear hK K
      try simp only [Act.put, List.setIfInBounds_toArray, List.set_cons_zero, List.set_cons_succ]
      refine At.pure 7 (some 27) (v := ?v7) rfl rfl (by kernel_rfl) (fun _ _ _ h => h) rfl (fun w' => ?y7) ?_   
      case y7 => go_simp; try with_reducible rfl
      try simp only [Act.put, List.setIfInBounds_toArray, List.set_cons_zero, List.set_cons_succ]
      refine At.call 8 (pend' := []) rfl (by kernel_rfl) rfl (by kernel_rfl) (fun K hK => ?_)   
      go_simp
      refine (bits_any _ w.heap.size W A1 n1 c1 l r x (1 + (i : Int) % 11) HT.out.drew.wr HT.out.inv HT.out.drew.keep.size (by have := HT.out.wr.len; omega)).mono ?_
      rintro e w4 ⟨A2, n2, c2, rfl, h4, hg4, hk4⟩
      refine hK _ _ all_nil ?_
      clear hK K
      try simp only [Act.put, List.setIfInBounds_toArray, List.set_cons_zero, List.set_cons_succ]
      refine At.done (by kernel_rfl) ?_
      have HI := hid (runM_inv (numB x (1 + (i : Int) % 11)) (l, r) HT.out.inv)
      have HO := hid (HT.out.drew.next h4 hk4 HI.out)
      have HL1 := hid (Nat.le_trans (runM_length (numB x (1 + (i : Int) % 11)) (l, r)) (Nat.add_le_add_left (numB_le x (1 + (i : Int) % 11)) _))
      clear h4 hk4 hg4 hq11
      simp only at HL1
      generalize (runM (l, r) (numB x (1 + (i : Int) % 11))).1 = l2 at *
      generalize (runM (l, r) (numB x (1 + (i : Int) % 11))).2 = r2 at *
      go_wp2_with fail
      go_roundw
      case rel => exact ⟨i + 1, by omega, by go_num, l2, r2, hid ⟨_, _, _, HO.out⟩, hid (by have := HL1.out; omega)⟩
      case measure => simp [intOf]; omega
    · have hlr := HL.out
      clear ht HTS
      by_cases h1 : i < n
      · have h2 : ¬ i < 60 := fun h2 => hlt ⟨h1, h2⟩
        go_wp2_with fail
        refine (bytes_any wr w.heap.size W A1 n1 c1 l r HT.out.wr (by have := HT.out.wr.len; omega)).mono ?_
        rintro e w3 ⟨A3, n3, c3, rfl, hown3, hk3⟩
        have hs := HT.out.inv.out
        have hl3 : (outB l).length ≤ 1073741824 := by have := outB_le l; omega
        have HK := hid (HT.out.keep.trans hk3 (fun _ _ h => h))
        have hn3 : (outB l).length = n3 := by have := hown3.1; simpa using this
        have HS := hid hs
        have HO := hid hown3
        clear hs hk3 hown3
        generalize outB l = b at *
        have HN := hid hn3
        rw [hn3] at hl3
        clear hn3
        go_wp2_with fail
        go_loop [6] (fun v => ∃ j : Nat, j ≤ n3 ∧ v = .int .i64 j) (fun v => n3 - (intOf v).toNat)
        case atStart => exact ⟨0, by omega, rfl⟩
        case round =>
          obtain ⟨j, hj, rfl⟩ := hrel
          by_cases hlt : j + 1 < n3
          · obtain ⟨g, rfl, hgc, hgb, hgl, _⟩ := own_at HO.out (by omega)
            have g0 : w3.cell? ⟨g, j, none⟩ = some (.int .u8 (b.getD j 0)) := hgl j _ (map_at _ _ j (by rw [HN.out]; omega))
            have g1 : w3.cell? ⟨g, j + 1, none⟩ = some (.int .u8 (b.getD (j + 1) 0)) := hgl (j + 1) _ (map_at _ _ (j + 1) (by rw [HN.out]; omega))
            have hst := HS.out.1 j (by rw [HN.out]; omega)
            clear hgl
            generalize b.getD j 0 = y at *
            generalize b.getD (j + 1) 0 = z at *
            by_cases hy : y = 255
            · have hz := hst hy
              clear hst
              subst hy
              go_wp2_with fail
              go_round
              case rel => exact ⟨j + 1, by omega, by go_num⟩
              case measure => simp [intOf]; omega
            · have hy' : (y == 255) = false := by simpa using hy
              clear hst
              go_wp2_with fail
              go_round
              case rel => exact ⟨j + 1, by omega, by go_num⟩
              case measure => simp [intOf]; omega
          · by_cases h0 : n3 = 0
            · have h0' : (((n3 : Nat) : Int) == 0) = true := by simp [h0]
              go_wp2_with fail
              go_ret
              exact ⟨rfl, HK.out.below (Nat.le_refl _) (fun _ h => h.elim)⟩
            · obtain ⟨m, rfl⟩ : ∃ m, n3 = m + 1 := ⟨n3 - 1, by omega⟩
              obtain ⟨g, rfl, hgc, hgb, hgl, _⟩ := own_at HO.out (by omega)
              have g0 : w3.cell? ⟨g, m, none⟩ = some (.int .u8 (lastM b)) := lastM_at hgl HN.out
              have hz' : (lastM b != 255) = true := by simpa using HS.out.2
              have wm : IntKind.i64.wrap (((m + 1 : Nat) : Int) - 1) = (m : Int) := by rw [IntWalk.i64_in _ (by omega)]; omega
              clear hgl
              generalize lastM b = z at *
              go_wp2_with fail
              go_ret
              exact ⟨rfl, HK.out.below (Nat.le_refl _) (fun _ h => h.elim)⟩
      · clear hlt
        go_wp2_with fail
        refine (bytes_any wr w.heap.size W A1 n1 c1 l r HT.out.wr (by have := HT.out.wr.len; omega)).mono ?_
        rintro e w3 ⟨A3, n3, c3, rfl, hown3, hk3⟩
        have hs := HT.out.inv.out
        have hl3 : (outB l).length ≤ 1073741824 := by have := outB_le l; omega
        have HK := hid (HT.out.keep.trans hk3 (fun _ _ h => h))
        have hn3 : (outB l).length = n3 := by have := hown3.1; simpa using this
        have HS := hid hs
        have HO := hid hown3
        clear hs hk3 hown3
        generalize outB l = b at *
        have HN := hid hn3
        rw [hn3] at hl3
        clear hn3
        go_wp2_with fail
        go_loop [6] (fun v => ∃ j : Nat, j ≤ n3 ∧ v = .int .i64 j) (fun v => n3 - (intOf v).toNat)
        case atStart => exact ⟨0, by omega, rfl⟩
        case round =>
          obtain ⟨j, hj, rfl⟩ := hrel
          by_cases hlt : j + 1 < n3
          · obtain ⟨g, rfl, hgc, hgb, hgl, _⟩ := own_at HO.out (by omega)
            have g0 : w3.cell? ⟨g, j, none⟩ = some (.int .u8 (b.getD j 0)) := hgl j _ (map_at _ _ j (by rw [HN.out]; omega))
            have g1 : w3.cell? ⟨g, j + 1, none⟩ = some (.int .u8 (b.getD (j + 1) 0)) := hgl (j + 1) _ (map_at _ _ (j + 1) (by rw [HN.out]; omega))
            have hst := HS.out.1 j (by rw [HN.out]; omega)
            clear hgl
            generalize b.getD j 0 = y at *
            generalize b.getD (j + 1) 0 = z at *
            by_cases hy : y = 255
            · have hz := hst hy
              clear hst
              subst hy
              go_wp2_with fail
              go_round
              case rel => exact ⟨j + 1, by omega, by go_num⟩
              case measure => simp [intOf]; omega
            · have hy' : (y == 255) = false := by simpa using hy
              clear hst
              go_wp2_with fail
              go_round
              case rel => exact ⟨j + 1, by omega, by go_num⟩
              case measure => simp [intOf]; omega
          · by_cases h0 : n3 = 0
            · have h0' : (((n3 : Nat) : Int) == 0) = true := by simp [h0]
              go_wp2_with fail
              go_ret
              exact ⟨rfl, HK.out.below (Nat.le_refl _) (fun _ h => h.elim)⟩
            · obtain ⟨m, rfl⟩ : ∃ m, n3 = m + 1 := ⟨n3 - 1, by omega⟩
              obtain ⟨g, rfl, hgc, hgb, hgl, _⟩ := own_at HO.out (by omega)
              have g0 : w3.cell? ⟨g, m, none⟩ = some (.int .u8 (lastM b)) := lastM_at hgl HN.out
              have hz' : (lastM b != 255) = true := by simpa using HS.out.2
              have wm : IntKind.i64.wrap (((m + 1 : Nat) : Int) - 1) = (m : Int) := by rw [IntWalk.i64_in _ (by omega)]; omega
              clear hgl
              generalize lastM b = z at *
              go_wp2_with fail
              go_ret
              exact ⟨rfl, HK.out.below (Nat.le_refl _) (fun _ h => h.elim)⟩
end Go.Proofs.Ytnhciiljdmgcjaa
