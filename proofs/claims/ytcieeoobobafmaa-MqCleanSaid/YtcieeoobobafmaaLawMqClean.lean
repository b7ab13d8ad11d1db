/-
  MqClean: the walk. Conditions: none.
-/
import Derived.Test.YtcieeoobobafmaaMqRun2
import Derived.Test.YtcieeoobobafmaaMqClean
namespace Go.Proofs.Ytcieeoobobafmaa
open Go.RowKit

theorem runE_ci (zs bs : List Int) : ∀ i, CI (runE (kL zs) bs i).1.a (runE (kL zs) bs i).1
  | 0 => CI.new
  | i + 1 => (runE_ci zs bs i).step (runE_ok zs bs i).1 _ _
set_option maxRecDepth 20000 in
set_option maxHeartbeats 4000000 in
theorem mqClean_walk (A : Option Addr) (n c : Nat) (zs : List Int) (w : World) (h : Arg .i64 8 w A n c zs) :
    Calls Try.prog 5 #[.slice A n c] w fun e w' => e = .returned (.bool true) ∧ Below w.heap.size w w' := by
  go_enter Try.func5, Try.ntmps5
  go_wp2_with fail
  refine (known_any w).mono ?_
  rintro e w1 ⟨rfl, hk1⟩
  have HK1 := hid hk1
  clear hk1
  go_wp2_with fail
  refine (lists_rd w1 A n c zs (h.rd.keep HK1.out (fun _ _ h => h)) h.ints).mono ?_
  rintro e w2 ⟨A1, c1, A2, c2, m, rfl, hm, hr1, hr2, hk2⟩
  have HK2 := hid (HK1.out.trans hk2 (fun _ _ h => h))
  have HL1 := hid hr1
  have HL2 := hid hr2
  clear hk2 hr1 hr2
  go_wp2_with fail
  refine (fresh_any w2).mono ?_
  rintro e w3 ⟨rfl, hkf⟩
  have HF1 := hid hkf
  clear hkf
  go_wp2_with (refine wpList_store_new rfl 30 _ _ rfl rfl (cxCells begL) rfl rfl ctx_info rfl (cx_one _) ?_; intro w4 hbf hkf)
  have HC := hid hbf
  have HF2 := hid (HF1.out.trans hkf (fun _ _ h => h))
  clear hbf hkf
  go_wp2_with fail
  refine (newe_any w4).mono ?_
  rintro e w5 ⟨E, A3, n3, c3, rfl, hEb, hen, hk5⟩
  have HR0 := hid (RunW.new HC.out hen hEb hk5)
  have hK2 : w2.heap.size ≤ w3.heap.size := HF1.out.size
  have hK0 : w.heap.size ≤ w3.heap.size := Nat.le_trans HK2.out.size hK2
  have hK4 : w3.heap.size < w4.heap.size := HC.out.lt
  have HKW := hid (HK2.out.trans HF2.out (fun _ _ h => h))
  clear hen hk5 HF1 HC
  generalize w3.heap.size = X at *
  go_wp2_with fail
  go_loopw [7] (fun v wr => ∃ i : Nat, i ≤ m ∧ v = .int .i64 i ∧ Hid (RunW w4 E X (runE (kL zs) (bL zs) i) wr)) (fun v _ => m - (intOf v).toNat)
  case atStart => exact ⟨0, by omega, rfl, HR0⟩
  case round =>
    obtain ⟨i, hi, rfl, HR⟩ := hrel
    clear HR0
    by_cases him : i < m
    · skip
      obtain ⟨b1, o1, rfl, hy1⟩ := HL1.out.int_ix him
      have hb1 := HL1.out.lt (by omega) _ rfl
      have z1 := HR.out.keep.cell (HF2.out.cell hy1 (fun h => h)) (fun h : b1 = X => by simp only at hb1; omega)
      obtain ⟨b2, o2, rfl, hy2⟩ := HL2.out.int_ix him
      have hb2 := HL2.out.lt (by omega) _ rfl
      have z2 := HR.out.keep.cell (HF2.out.cell hy2 (fun h => h)) (fun h : b2 = X => by simp only at hb2; omega)
      obtain ⟨hk0, hk19⟩ := kL_at zs i
      obtain ⟨k, hk⟩ : ∃ k : Nat, (kL zs).getD i 0 = k := ⟨_, (Int.toNat_of_nonneg hk0).symm⟩
      have HS := hid (show runE (kL zs) (bL zs) (i + 1) = encR (runE (kL zs) (bL zs) i) k ((bL zs).getD i 0) by
        show encR _ ((kL zs).getD i 0).toNat _ = _
        rw [hk, Int.toNat_natCast])
      rw [hk, Int.toNat_natCast] at hk19
      rw [hk] at z1
      have HRN := hid (runE_ok zs (bL zs) i).1
      have hlen := (runE_ok zs (bL zs) i).2
      clear hk0 hk hy1 hy2
      generalize (bL zs).getD i 0 = bit at *
      go_wp2_with fail
      -- region 9: 10 operations
      refine At.start (L := #[false, false, false, false, false, false, false, false, false, false]) (by kernel_rfl) rfl ?_
      refine At.pure 0 (some 25) (v := ?v0) rfl rfl (by kernel_rfl) (fun _ _ _ h => h) rfl (fun w' => ?y0) ?_   
      case y0 => go_simp; try with_reducible rfl
      try simp only [Act.put, List.setIfInBounds_toArray, List.set_cons_zero, List.set_cons_succ]
      refine At.pure 1 (some 26) (v := ?v1) rfl rfl (by kernel_rfl) (fun _ _ _ h => h) rfl (fun w' => ?y1) ?_   
      case y1 => go_simp; try with_reducible rfl
      try simp only [Act.put, List.setIfInBounds_toArray, List.set_cons_zero, List.set_cons_succ]
      refine At.pure 2 (some 27) (v := ?v2) rfl rfl (by kernel_rfl) (fun _ _ _ h => h) rfl (fun w' => ?y2) ?_   
      case y2 => go_simp; try with_reducible rfl
      try simp only [Act.put, List.setIfInBounds_toArray, List.set_cons_zero, List.set_cons_succ]
      refine At.pure 3 (some 28) (v := ?v3) rfl rfl (by kernel_rfl) (fun _ _ _ h => h) rfl (fun w' => ?y3) ?_   
      case y3 => go_simp; try with_reducible rfl
      try simp only [Act.put, List.setIfInBounds_toArray, List.set_cons_zero, List.set_cons_succ]
      refine At.read 4 (some 29) (fun w' => w'.cell? ⟨b1, o1 + i, none⟩ = some (.int .i64 k)) (v := ?v4) rfl rfl (by kernel_rfl) (fun _ _ _ h => h) rfl z1 (fun w' hw' => ?y4) ?_   
      case y4 => skip; go_simp; try with_reducible rfl
      try simp only [Act.put, List.setIfInBounds_toArray, List.set_cons_zero, List.set_cons_succ]
      refine At.pure 5 (some 30) (v := ?v5) rfl rfl (by kernel_rfl) (fun _ _ _ h => h) rfl (fun w' => ?y5) ?_   
      case y5 => go_simp; try with_reducible rfl
      try simp only [Act.put, List.setIfInBounds_toArray, List.set_cons_zero, List.set_cons_succ]
      refine At.pure 6 (some 31) (v := ?v6) rfl rfl (by kernel_rfl) (fun _ _ _ h => h) rfl (fun w' => ?y6) ?_   
      case y6 => go_simp; try with_reducible rfl
      try simp only [Act.put, List.setIfInBounds_toArray, List.set_cons_zero, List.set_cons_succ]
      refine At.pure 7 (some 32) (v := ?v7) rfl rfl (by kernel_rfl) (fun _ _ _ h => h) rfl (fun w' => ?y7) ?_   
      case y7 => go_simp; try with_reducible rfl
      try simp only [Act.put, List.setIfInBounds_toArray, List.set_cons_zero, List.set_cons_succ]
      refine At.read 8 (some 33) (fun w' => w'.cell? ⟨b2, o2 + i, none⟩ = some (.int .i64 bit)) (v := ?v8) rfl rfl (by kernel_rfl) (fun _ _ _ h => h) rfl z2 (fun w' hw' => ?y8) ?_   
      case y8 => skip; go_simp; try with_reducible rfl
      try simp only [Act.put, List.setIfInBounds_toArray, List.set_cons_zero, List.set_cons_succ]
      refine At.call 9 (pend' := []) rfl (by kernel_rfl) rfl (by kernel_rfl) (fun K hK => ?_)   
      go_simp
      refine (HR.out.drew.enc HRN.out (by omega) k hk19 bit).mono ?_
      rintro e w6 ⟨rfl, hr6⟩
      have HR6 := hid (show RunW w4 E X (runE (kL zs) (bL zs) (i + 1)) w6 by rw [HS.out]; exact hr6)
      clear hr6
      refine hK _ _ all_nil ?_
      clear hK K
      try simp only [Act.put, List.setIfInBounds_toArray, List.set_cons_zero, List.set_cons_succ]
      refine At.done (by kernel_rfl) ?_
      go_wp2_with fail
      go_roundw
      case rel => exact ⟨i + 1, by omega, by go_num, HR6⟩
      case measure => simp [intOf]; omega
    · obtain rfl : m = i := by omega
      obtain ⟨hrn, hlen⟩ := runE_ok zs (bL zs) m
      obtain ⟨hcl, hla⟩ := (runE_ci zs (bL zs) m).flush hrn.inv hrn.lo
      go_wp2_with fail
      refine (HR.out.flush hrn (by omega)).mono ?_
      rintro e w6 ⟨A6, n6, c6, rfl, hO, _, hk6⟩
      have HO := hid hO
      have HW := hid (HKW.out.trans hk6 (fun j hj h => by omega))
      have HB : Hid (Below w.heap.size w w6) := hid (HW.out.below (Nat.le_refl _) (fun _ h => h.elim))
      have hn6 : (flushM (flushE (runE (kL zs) (bL zs) m).1)).length = n6 := by have := hO.1; simpa using this
      have hb6 : n6 ≤ 10000 := by
        rw [← hn6]
        have h1 := mqFlush_le (flushE (runE (kL zs) (bL zs) m).1)
        have h2 := flushE_len (runE (kL zs) (bL zs) m).1
        omega
      have HN := hid hn6
      have HCL := hid hcl
      have HLA := hid hla
      clear hO hk6 hcl hla hrn hlen hn6
      generalize flushM (flushE (runE (kL zs) (bL zs) m).1) = l at *
      go_wp2_with fail
      go_loop [9] (fun v => ∃ j : Nat, j ≤ n6 ∧ v = .int .i64 j) (fun v => n6 - (intOf v).toNat)
      case atStart => exact ⟨0, by omega, rfl⟩
      case round =>
        obtain ⟨j, hj, rfl⟩ := hrel
        by_cases hj1 : j + 1 < n6
        · obtain ⟨g, rfl, hgc, hgb, hgl, _⟩ := own_at HO.out (by omega)
          have g0 : w6.cell? ⟨g, j, none⟩ = some (.int .u8 (l.getD j 0)) := hgl j _ (map_at _ _ j (by rw [HN.out]; omega))
          have g1 : w6.cell? ⟨g, j + 1, none⟩ = some (.int .u8 (l.getD (j + 1) 0)) := hgl (j + 1) _ (map_at _ _ (j + 1) (by rw [HN.out]; omega))
          have hcl := HCL.out j
          clear hgl
          generalize l.getD j 0 = x at *
          generalize l.getD (j + 1) 0 = y at *
          have hj1' : (j : Int) + 1 < n6 := by omega
          by_cases hx : x = 255
          · have hy := hcl hx
            subst hx
            go_wp2_with fail
            exact ⟨⟨j + 1, by omega, by go_num⟩, by simp [intOf]; omega⟩
          · have hx' : (x == 255) = false := by simpa using hx
            go_wp2_with fail
            go_round
            case rel => exact ⟨j + 1, by omega, by go_num⟩
            case measure => simp [intOf]; omega
        · have hj1' : ¬ (j : Int) + 1 < n6 := by omega
          by_cases hz : n6 = 0
          · subst hz
            go_wp2_with fail
            go_ret
            exact ⟨rfl, HB.out⟩
          · obtain ⟨g, rfl, hgc, hgb, hgl, _⟩ := own_at HO.out (by omega)
            obtain ⟨r, rfl⟩ : ∃ r, n6 = r + 1 := ⟨n6 - 1, by omega⟩
            have g0 : w6.cell? ⟨g, r, none⟩ = some (.int .u8 (l.getD r 0)) := hgl r _ (map_at _ _ r (by rw [HN.out]; omega))
            have hla : l.getD r 0 ≠ 255 := by
              have := HLA.out
              unfold lastM at this
              rwa [HN.out] at this
            clear hgl
            generalize l.getD r 0 = x at *
            have hx' : (x != 255) = true := by simpa using hla
            go_wp2_with fail
            go_ret
            exact ⟨ret_bool (by simp [hx']), HB.out⟩
end Go.Proofs.Ytcieeoobobafmaa
