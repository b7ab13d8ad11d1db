/-
  MqBehind: the walk. Conditions: none.
-/
import Derived.Test.YtcieeoobobafmaaMqBeh
namespace Go.Proofs.Ytcieeoobobafmaa
open Go.RowKit

set_option maxRecDepth 20000 in
set_option maxHeartbeats 8000000 in
theorem mqBehind_walk (A : Option Addr) (n c : Nat) (l : List Int) (x : Int) (B : Option Addr) (n' c' : Nat) (zs : List Int) (w : World) (h : Arg .u8 1 w A n c l) (hx : (Lit.int .i64 x).wf = true) (h' : Arg .i64 8 w B n' c' zs) :
    Calls Try.prog 3 #[.slice A n c, .int .i64 x, .slice B n' c'] w fun e w' => e = .returned (.bool true) ∧ Below w.heap.size w w' := by
  obtain ⟨i0, hi0, hz0, hz1, hz2⟩ := info_parts info_u8
  obtain ⟨hx0, hx1⟩ := wf_i64 hx
  have HBY := hid h.bytes
  have HL := hid h.len
  have hcn : n ≤ 9223372036854775807 := by have := h.cap; have := h.reach; omega
  by_cases hn : n ≤ 100
  · go_enter Try.func3, Try.ntmps3
    go_wp2_with fail
    refine (known_any w).mono ?_
    rintro e w1 ⟨rfl, hk1⟩
    have HK1 := hid hk1
    clear hk1
    have hrd1 := h.rd.keep HK1.out (fun _ _ h => h)
    go_wp2_with (
      at_builtin
      refine wpList_append_src _ rfl (.tmp 21) (.tmp 22) _ rfl w1.heap.size 5 i0 _ 1 Try.underlying22 hi0 hz0 hz1 hz2 rfl
        (World.ownsRow_made w1 #[] 0 (Nat.le_refl _) (by simp [maxLen]) rfl) rfl (hrd1.alloc _) rfl (oneCell_ints _ _) (by simp only [maxLen]; omega) (by omega) (by simp) ?_
      intro v2 w2 hown2 hg2 hat2 _hold
      simp only [Nat.zero_add, List.nil_append] at hown2
      obtain ⟨A3, c3, rfl⟩ := own_form hown2)
    have hk2 : Keep (fun _ => False) w1 w2 := ((Keep.refl _ w1).alloc _).grown hg2 (fun k hk => by simp [Value.ownBlock] at hk; omega)
    have HO2 := hid (own_mono hown2 HK1.out.size)
    have HK2 := hid (HK1.out.trans hk2 (fun _ _ h => h))
    clear hk2 hown2 hg2 hat2 _hold hrd1
    go_wp2_with fail
    obtain ⟨N, hN, hN1⟩ : ∃ N : Nat, x % 9 = N ∧ N < 9 := ⟨(x % 9).toNat, by omega, by omega⟩
    go_loopw [7, 8] (fun u v wr => ∃ (j : Nat) (A4 : Option Addr) (c4 : Nat), j ≤ N ∧ u = .slice A4 (n + j) c4 ∧ v = .int .i64 j ∧ Hid (wr.ownsRow w.heap.size 5 1 (.slice A4 (n + j) c4) (n + j) ((l ++ List.replicate j 255).map (Value.int .u8))) ∧ Hid (Keep (fun _ => False) w wr)) (fun _ v _ => N - (intOf v).toNat)
    case atStart => exact ⟨0, A3, c3, by omega, rfl, rfl, hid (by rw [List.replicate_zero, List.append_nil]; exact HO2.out), HK2⟩
    case round =>
      obtain ⟨j, A4, c4, hj, rfl, rfl, HO, HK⟩ := hrel
      clear HO2 HK2
      have hb1 := HK.out.size
      go_wp2_with fail
      refine (within_any wr x 9 hx0 hx1 (by decide) (by decide)).mono ?_
      rintro e w4 ⟨rfl, rfl⟩
      rw [hN]
      by_cases hjN : j < N
      · go_wp2_with (
          at_builtin
          refine wpList_append_one wr rfl (.tmp 30) (.tmp 31) _ rfl w.heap.size 5 i0 _ 1 Try.underlying22 hi0 hz0 hz1 hz2 rfl HO.out rfl _ rfl rfl (by simp only [maxLen]; omega) (by omega) (by omega) ?_
          intro v5 w5 hown5 hg5 hat5 _hold5
          obtain ⟨A5, c5, rfl⟩ := own_form hown5
          have HO5 : Hid (w5.ownsRow w.heap.size 5 1 (.slice A5 (n + (j + 1)) c5) (n + (j + 1)) ((l ++ List.replicate (j + 1) 255).map (Value.int .u8))) := hid (by
            have := hown5
            rw [List.replicate_succ', ← List.append_assoc, List.map_append]
            exact this)
          have HK5 := hid (HK.out.trans ((((Keep.refl (fun k => (Value.slice A4 (n + j) c4).ownBlock = some k) wr).alloc _).grown hg5 (fun k hk => .inl hk))) (fun k hk h => by
            obtain ⟨ad, e1, e2⟩ := own_foot h
            have := own_foot_lt HO.out ad e1
            omega))
          clear hown5 hg5 hat5 _hold5)
        exact ⟨⟨j + 1, A5, c5, by omega, rfl, by go_num, HO5, HK5⟩, by simp [intOf]; omega⟩
      · obtain rfl : N = j := by omega
        go_wp2_with fail
        refine (lists_rd wr B n' c' zs (h'.rd.keep HK.out (fun _ _ h => h)) h'.ints).mono ?_
        rintro e w5 ⟨A1, c1, A2, c2, m, rfl, hm, hr1, _hr2, hk2⟩
        have HK5 := hid (HK.out.trans hk2 (fun _ _ h => h))
        have HL1 := hid hr1
        have HO5 := hid (own_keep HO.out hk2 (fun _ _ h => h))
        clear hk2 hr1 _hr2 HK HO
        go_wp2_with fail
        refine (fresh_any w5).mono ?_
        rintro e w6 ⟨rfl, hkf⟩
        have HG1 := hid hkf
        clear hkf
        go_wp2_with fail
        refine (fresh_any w6).mono ?_
        rintro e w7 ⟨rfl, hkf⟩
        have HG2 := hid (HG1.out.trans hkf (fun _ _ h => h))
        clear hkf HG1
        go_wp2_with (first
          | (refine wpList_store_blk (g := w7.heap.size) (Blk.alloc (Blk.new w7 30 (cxCells zeros19)) _) rfl 30 _ _ rfl rfl (cxCells begL) rfl rfl ctx_info rfl (cx_one _) ?_; intro w8 hb8 hk8)
          | (refine wpList_store_blk (g := w7.heap.size + 1) (zs := cxCells zeros19) (t := 30) (Blk.keep (by have := Blk.new (w7.alloc (.cells (cxCells zeros19) 30)) 30 (cxCells zeros19); rw [World.size_alloc] at this; exact this) hk8 (by omega)) rfl 30 _ _ rfl rfl (cxCells begL) rfl rfl ctx_info rfl (cx_one _) ?_; intro w9 hb9 hk9))
        have HC1 := hid (Blk.keep hb8 hk9 (by omega))
        have HC2 := hid hb9
        have HG := hid (HG2.out.trans ((((Keep.refl (fun _ => False) w7).alloc _).alloc _).trans ((show Keep (fun j => w7.heap.size ≤ j) _ w8 from hk8.mono (fun _ _ h => by omega)).trans hk9 (fun j hj h => by omega)) (fun j hj h => by omega)) (fun _ _ h => h))
        clear hb8 hk8 hb9 hk9
        have hK5 : w5.heap.size ≤ w7.heap.size := HG2.out.size
        have hK2 : w7.heap.size + 1 < w9.heap.size := HC2.out.lt
        have HKW := hid (HK5.out.trans HG.out (fun _ _ h => h))
        have hw5 : w.heap.size ≤ w5.heap.size := HK5.out.size
        clear HG2 HK5
        have HRB := hid (Rd.of_own (own_keep HO5.out HG.out (fun _ _ h => h)))
        have HRA := hid (h.rd.keep HKW.out (fun _ _ h => h))
        have hBY2 : Bytes (l ++ List.replicate N 255) := fun z hz => by
          rcases List.mem_append.1 hz with hz | hz
          · exact HBY.out z hz
          · obtain rfl := List.eq_of_mem_replicate hz
            omega
        have HBY2 := hid hBY2
        have HCG := hid (runD_congr (fun k => byteM_behind l N k) (kL zs))
        have hl2 : (l ++ List.replicate N 255).length ≤ 200 := by rw [List.length_append, List.length_replicate, HL.out]; omega
        clear HO5 h h' hBY2 hx0 hx1 hx
        generalize l ++ List.replicate N 255 = l' at *
        refine (newd_any w9 A n c l HRA.out HBY.out (by omega)).mono ?_
        rintro e w10 ⟨D1, A6, c6, rfl, hD1, hde1, hk10⟩
        have HDE1 := hid hde1
        have HK10 := hid hk10
        clear hde1 hk10
        go_wp2_with fail
        refine (newd_any w10 A4 (n + N) c4 l' (HRB.out.keep HK10.out (fun _ _ h => h)) HBY2.out (by omega)).mono ?_
        rintro e w11 ⟨D2, A7, c7, rfl, hD2, hde2, hk11⟩
        have HT0 : Hid (TwoD w9 D1 w7.heap.size D2 (w7.heap.size + 1) l l' (runD l (kL zs) 0) (runD l' (kL zs) 0) w11) := hid (by
          have h12 := HK10.out.trans hk11 (fun _ _ h => h)
          have hlt := HDE1.out.blk.lt
          exact ⟨⟨A6, n, c6, HDE1.out.keep hk11 (fun h => h) (fun _ _ h => h)⟩, ⟨A7, n + N, c7, ⟨hde2.blk, own_mono hde2.own HK10.out.size⟩⟩,
            Blk.keep HC1.out h12 (fun h => h), Blk.keep HC2.out h12 (fun h => h), by omega, by omega, hD1, Nat.le_trans HK10.out.size hD2, h12.mono (fun _ _ h => h.elim)⟩)
        clear HDE1 HK10 hde2 hk11 hD1 hD2 HRA HRB HC1 HC2
        generalize w7.heap.size = X at *
        go_wp2_with fail
        go_loopw [15] (fun v wr => ∃ i : Nat, i ≤ m ∧ v = .int .i64 i ∧ Hid (TwoD w9 D1 X D2 (X + 1) l l' (runD l (kL zs) i) (runD l' (kL zs) i) wr)) (fun v _ => m - (intOf v).toNat)
        case atStart => exact ⟨0, by omega, rfl, HT0⟩
        case round =>
          obtain ⟨i, hi, rfl, HT⟩ := hrel
          clear HT0
          by_cases him : i < m
          · obtain ⟨b1, o1, rfl, hy1⟩ := HL1.out.int_ix him
            have hb1 := HL1.out.lt (by omega) _ rfl
            simp only at hb1
            obtain ⟨hk0, hk19⟩ := kL_at zs i
            obtain ⟨k, hk⟩ : ∃ k : Nat, (kL zs).getD i 0 = k := ⟨_, (Int.toNat_of_nonneg hk0).symm⟩
            have HS1 := hid (show runD l (kL zs) (i + 1) = decR l (runD l (kL zs) i) k by show decR _ _ ((kL zs).getD i 0).toNat = _; rw [hk, Int.toNat_natCast])
            have HS2 := hid (show runD l' (kL zs) (i + 1) = decR l' (runD l' (kL zs) i) k by show decR _ _ ((kL zs).getD i 0).toNat = _; rw [hk, Int.toNat_natCast])
            rw [hk, Int.toNat_natCast] at hk19
            rw [hk] at hy1
            have HY9 := hid (HG.out.cell hy1 (fun h => h))
            have HOK1 := hid (runD_ok l zs i)
            have HOK2 := hid (runD_ok l' zs i)
            have HEQ := hid (HCG.out i)
            clear hk0 hk hy1
            have z1 := HT.out.keep.cell HY9.out (fun h : b1 = X ∨ b1 = X + 1 => by omega)
            go_wp2_with fail
            -- region 16: 13 operations
            refine At.start (L := #[false, false, false, false, false, false, false, false, false, false, false, false, false]) (by kernel_rfl) rfl ?_
            refine At.pure 0 (some 50) (v := ?v0) rfl rfl (by kernel_rfl) (fun _ _ _ h => h) rfl (fun w' => ?y0) ?_   
            case y0 => go_simp; try with_reducible rfl
            try simp only [Act.put, List.setIfInBounds_toArray, List.set_cons_zero, List.set_cons_succ]
            refine At.pure 1 (some 51) (v := ?v1) rfl rfl (by kernel_rfl) (fun _ _ _ h => h) rfl (fun w' => ?y1) ?_   
            case y1 => go_simp; try with_reducible rfl
            try simp only [Act.put, List.setIfInBounds_toArray, List.set_cons_zero, List.set_cons_succ]
            refine At.pure 2 (some 52) (v := ?v2) rfl rfl (by kernel_rfl) (fun _ _ _ h => h) rfl (fun w' => ?y2) ?_   
            case y2 => go_simp; try with_reducible rfl
            try simp only [Act.put, List.setIfInBounds_toArray, List.set_cons_zero, List.set_cons_succ]
            refine At.pure 3 (some 53) (v := ?v3) rfl rfl (by kernel_rfl) (fun _ _ _ h => h) rfl (fun w' => ?y3) ?_   
            case y3 => go_simp; try with_reducible rfl
            try simp only [Act.put, List.setIfInBounds_toArray, List.set_cons_zero, List.set_cons_succ]
            refine At.read 4 (some 54) (fun w' => w'.cell? ⟨b1, o1 + i, none⟩ = some (.int .i64 k)) (v := ?v4) rfl rfl (by kernel_rfl) (fun _ _ _ h => h) rfl z1 (fun w' hw' => ?y4) ?_   
            case y4 => skip; go_simp; try with_reducible rfl
            try simp only [Act.put, List.setIfInBounds_toArray, List.set_cons_zero, List.set_cons_succ]
            refine At.pure 6 (some 56) (v := ?v6) rfl rfl (by kernel_rfl) (fun _ _ _ h => h) rfl (fun w' => ?y6) ?_   
            case y6 => go_simp; try with_reducible rfl
            try simp only [Act.put, List.setIfInBounds_toArray, List.set_cons_zero, List.set_cons_succ]
            refine At.pure 7 (some 57) (v := ?v7) rfl rfl (by kernel_rfl) (fun _ _ _ h => h) rfl (fun w' => ?y7) ?_   
            case y7 => go_simp; try with_reducible rfl
            try simp only [Act.put, List.setIfInBounds_toArray, List.set_cons_zero, List.set_cons_succ]
            refine At.pure 8 (some 58) (v := ?v8) rfl rfl (by kernel_rfl) (fun _ _ _ h => h) rfl (fun w' => ?y8) ?_   
            case y8 => go_simp; try with_reducible rfl
            try simp only [Act.put, List.setIfInBounds_toArray, List.set_cons_zero, List.set_cons_succ]
            refine At.pure 9 (some 59) (v := ?v9) rfl rfl (by kernel_rfl) (fun _ _ _ h => h) rfl (fun w' => ?y9) ?_   
            case y9 => go_simp; try with_reducible rfl
            try simp only [Act.put, List.setIfInBounds_toArray, List.set_cons_zero, List.set_cons_succ]
            refine At.read 10 (some 60) (fun w' => w'.cell? ⟨b1, o1 + i, none⟩ = some (.int .i64 k)) (v := ?v10) rfl rfl (by kernel_rfl) (fun _ _ _ h => h) rfl z1 (fun w' hw' => ?y10) ?_   
            case y10 => skip; go_simp; try with_reducible rfl
            try simp only [Act.put, List.setIfInBounds_toArray, List.set_cons_zero, List.set_cons_succ]
            refine At.call 5 (pend' := [(10, (fun w' => w'.cell? ⟨b1, o1 + i, none⟩ = some (.int .i64 k)))]) rfl (by kernel_rfl) rfl (by kernel_rfl) (fun K hK => ?_)   
            go_simp
            refine (HT.out.drew.dec HOK1.out HBY.out (by rw [HL.out]; omega) k hk19).mono ?_
            rintro e w12 ⟨rfl, ht12⟩
            have z12 := ht12.keep.cell HY9.out (fun h : b1 = X ∨ b1 = X + 1 => by omega)
            have HT12 := hid ht12
            clear ht12
            refine hK _ _ (all_cons z12 all_nil) ?_
            clear hK K
            try simp only [Act.put, List.setIfInBounds_toArray, List.set_cons_zero, List.set_cons_succ]
            refine At.call 11 (pend' := []) rfl (by kernel_rfl) rfl (by kernel_rfl) (fun K hK => ?_)   
            go_simp
            refine (HT12.out.swap.dec HOK2.out HBY2.out (by omega) k hk19).mono ?_
            rintro e w13 ⟨rfl, ht13⟩
            have HT13 := hid (show TwoD w9 D1 X D2 (X + 1) l l' (runD l (kL zs) (i + 1)) (runD l' (kL zs) (i + 1)) w13 by rw [HS1.out, HS2.out]; exact ht13.swap)
            rw [HEQ.out]
            clear ht13 HT12 z12 HEQ
            refine hK _ _ all_nil ?_
            clear hK K
            try simp only [Act.put, List.setIfInBounds_toArray, List.set_cons_zero, List.set_cons_succ]
            refine At.pure 12 (some 62) (v := ?v12) rfl rfl (by kernel_rfl) (fun _ _ _ h => h) rfl (fun w' => ?y12) ?_   
            case y12 => go_simp; try with_reducible rfl
            try simp only [Act.put, List.setIfInBounds_toArray, List.set_cons_zero, List.set_cons_succ]
            refine At.done (by kernel_rfl) ?_
            generalize decV (runD l (kL zs) i) k = v at *
            go_wp2_with fail
            exact ⟨⟨i + 1, by omega, by go_num, HT13⟩, by simp [intOf]; omega⟩
          · obtain rfl : m = i := by omega
            go_wp2_with fail
            go_ret
            exact ⟨rfl, (HKW.out.trans HT.out.keep (fun j hj h => by omega)).below (Nat.le_refl _) (fun _ h => h.elim)⟩
  · have HB : Hid True := hid trivial
    go_enter Try.func3, Try.ntmps3
    go_wp2_with fail
    refine (known_any w).mono ?_
    rintro e w1 ⟨rfl, hk1⟩
    have HK1 := hid hk1
    clear hk1
    go_wp2_with fail
    go_ret
    exact ⟨rfl, HK1.out.below (Nat.le_refl _) (fun _ h => h.elim)⟩
end Go.Proofs.Ytcieeoobobafmaa
