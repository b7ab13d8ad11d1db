/-
  MqFronts: the walk. Conditions: none.
-/
import Derived.Test.YtcieeoobobafmaaLawMqBack
namespace Go.Proofs.Ytcieeoobobafmaa
open Go.RowKit

set_option maxRecDepth 20000 in
set_option maxHeartbeats 8000000 in
theorem mqFronts_walk (A : Option Addr) (n c : Nat) (zs : List Int) (y : Int) (w : World) (h : Arg .i64 8 w A n c zs) (hy : (Lit.int .i64 y).wf = true) :
    Calls Try.prog 12 #[.slice A n c, .int .i64 y] w fun e w' => e = .returned (.bool true) ∧ Below w.heap.size w w' := by
  obtain ⟨hy0, hy1⟩ := wf_i64 hy
  clear hy
  go_enter Try.func12, Try.ntmps12
  go_wp2_with fail
  refine (known_any w).mono ?_
  rintro e w1 ⟨rfl, hk1⟩
  have HK1 := hid hk1
  clear hk1
  go_wp2_with fail
  refine (lists_rd w1 A n c zs (h.rd.keep HK1.out (fun _ _ h => h)) h.ints).mono ?_
  rintro e w2 ⟨A1, c1, A2, c2, m, rfl, hm, hr1, hr2, hk2⟩
  have HK2 := hid (HK1.out.trans hk2 (fun _ _ h => h))
  have HL1 := hid hr1
  have HL2 := hid hr2
  clear hk2 hr1 hr2
  go_wp2_with fail
  refine (within_any w2 y (m + 1) hy0 hy1 (by omega) (by omega)).mono ?_
  rintro e w3 ⟨rfl, rfl⟩
  obtain ⟨N, hN, hN1⟩ : ∃ N : Nat, y % ((m : Int) + 1) = N ∧ N ≤ m := by
    have h1 := Int.emod_nonneg y (show (m : Int) + 1 ≠ 0 by omega)
    have h2 := Int.emod_lt_of_pos y (show 0 < (m : Int) + 1 by omega)
    exact ⟨(y % ((m : Int) + 1)).toNat, by omega, by omega⟩
  rw [hN]
  clear hN hy0 hy1
  go_wp2_with fail
  refine (fresh_any w2).mono ?_
  rintro e w6 ⟨rfl, hkf⟩
  have HG1 := hid hkf
  clear hkf
  go_wp2_with fail
  refine (fresh_any w6).mono ?_
  rintro e w7 ⟨rfl, hkf⟩
  have HG2 := hid (HG1.out.trans hkf (fun _ _ h => h))
  clear hkf HG1
  go_wp2_with (first
    | (refine wpList_store_blk (g := w7.heap.size) (Blk.alloc (Blk.new w7 30 (cxCells zeros19)) _) rfl 30 _ _ rfl rfl (cxCells begL) rfl rfl ctx_info rfl (cx_one _) ?_; intro w8 hb8 hk8)
    | (refine wpList_store_blk (g := w7.heap.size + 1) (zs := cxCells zeros19) (t := 30) (Blk.keep (by have := Blk.new (w7.alloc (.cells (cxCells zeros19) 30)) 30 (cxCells zeros19); rw [World.size_alloc] at this; exact this) hk8 (by omega)) rfl 30 _ _ rfl rfl (cxCells begL) rfl rfl ctx_info rfl (cx_one _) ?_; intro w9 hb9 hk9))
  have HC1 := hid (Blk.keep hb8 hk9 (by omega))
  have HC2 := hid hb9
  have HG := hid (HG2.out.trans ((((Keep.refl (fun _ => False) w7).alloc _).alloc _).trans ((show Keep (fun j => w7.heap.size ≤ j) _ w8 from hk8.mono (fun _ _ h => by omega)).trans hk9 (fun j hj h => by omega)) (fun j hj h => by omega)) (fun _ _ h => h))
  clear hb8 hk8 hb9 hk9
  have hK2 : w2.heap.size ≤ w7.heap.size := HG2.out.size
  have hK4 : w7.heap.size + 1 < w9.heap.size := HC2.out.lt
  have hK0 : w.heap.size ≤ w2.heap.size := HK2.out.size
  have HKW := hid (HK2.out.trans HG.out (fun _ _ h => h))
  have HF2 := HG
  clear HG2
  generalize w7.heap.size = X at *
  refine (newe_any w9).mono ?_
  rintro e w10 ⟨E, A3, n3, c3, rfl, hEb, hen, hk10⟩
  have HR0 := hid (RunW.new HC1.out hen hEb hk10)
  clear hen hk10 HC1
  go_wp2_with fail
  go_loopw [11, 12] (fun u v wr => ∃ (i : Nat) (o : Int), i ≤ m ∧ u = .int .i64 o ∧ v = .int .i64 i ∧ (N < i → o = ((runE (kL zs) (bL zs) N).1.b.length : Int) - 1) ∧ Hid (RunW w9 E X (runE (kL zs) (bL zs) i) wr)) (fun _ v _ => m - (intOf v).toNat)
  case atStart => exact ⟨0, 0, by omega, rfl, rfl, fun h => absurd h (by omega), HR0⟩
  case round =>
    obtain ⟨i, o, hi, rfl, rfl, ho, HR⟩ := hrel
    clear HR0
    by_cases him : i < m
    · by_cases hiN : i = N
      · subst hiN
        have hlb := (runE_ok zs (bL zs) i).2
        go_wp2_with fail
        refine (HR.out.out (runE_ok zs (bL zs) i).1 (by omega)).mono ?_
        rintro e w5 ⟨rfl, rfl⟩
        obtain ⟨b1, o1, rfl, hy1⟩ := HL1.out.int_ix him
        have hb1 := HL1.out.lt (by omega) _ rfl
        have z1 := HR.out.keep.cell (HF2.out.cell hy1 (fun h => h)) (fun h : b1 = X => by simp only at hb1; omega)
        obtain ⟨b2, o2, rfl, hy2⟩ := HL2.out.int_ix him
        have hb2 := HL2.out.lt (by omega) _ rfl
        have z2 := HR.out.keep.cell (HF2.out.cell hy2 (fun h => h)) (fun h : b2 = X => by simp only at hb2; omega)
        obtain ⟨hk0, hk19⟩ := kL_at zs i
        obtain ⟨k, hk⟩ : ∃ k : Nat, (kL zs).getD i 0 = k := ⟨_, (Int.toNat_of_nonneg hk0).symm⟩
        have HS := hid (show runE (kL zs) (bL zs) (i + 1) = encR (runE (kL zs) (bL zs) i) k ((bL zs).getD i 0) by
          show encR _ ((kL zs).getD i 0).toNat _ = _
          rw [hk, Int.toNat_natCast])
        rw [hk, Int.toNat_natCast] at hk19
        rw [hk] at z1
        have HRN := hid (runE_ok zs (bL zs) i).1
        have hlen := (runE_ok zs (bL zs) i).2
        clear hk0 hk hy1 hy2
        generalize (bL zs).getD i 0 = bit at *
        go_wp2_with fail
        -- region 13: 10 operations
        refine At.start (L := #[false, false, false, false, false, false, false, false, false, false]) (by kernel_rfl) rfl ?_
        refine At.pure 0 (some 42) (v := ?v0s0) rfl rfl (by kernel_rfl) (fun _ _ _ h => h) rfl (fun w' => ?y0s0) ?_   
        case y0s0 => go_simp; try with_reducible rfl
        try simp only [Act.put, List.setIfInBounds_toArray, List.set_cons_zero, List.set_cons_succ]
        refine At.pure 1 (some 43) (v := ?v1s0) rfl rfl (by kernel_rfl) (fun _ _ _ h => h) rfl (fun w' => ?y1s0) ?_   
        case y1s0 => go_simp; try with_reducible rfl
        try simp only [Act.put, List.setIfInBounds_toArray, List.set_cons_zero, List.set_cons_succ]
        refine At.pure 2 (some 44) (v := ?v2s0) rfl rfl (by kernel_rfl) (fun _ _ _ h => h) rfl (fun w' => ?y2s0) ?_   
        case y2s0 => go_simp; try with_reducible rfl
        try simp only [Act.put, List.setIfInBounds_toArray, List.set_cons_zero, List.set_cons_succ]
        refine At.pure 3 (some 45) (v := ?v3s0) rfl rfl (by kernel_rfl) (fun _ _ _ h => h) rfl (fun w' => ?y3s0) ?_   
        case y3s0 => go_simp; try with_reducible rfl
        try simp only [Act.put, List.setIfInBounds_toArray, List.set_cons_zero, List.set_cons_succ]
        refine At.read 4 (some 46) (fun w' => w'.cell? ⟨b1, o1 + i, none⟩ = some (.int .i64 k)) (v := ?v4s0) rfl rfl (by kernel_rfl) (fun _ _ _ h => h) rfl z1 (fun w' hw' => ?y4s0) ?_   
        case y4s0 => skip; go_simp; try with_reducible rfl
        try simp only [Act.put, List.setIfInBounds_toArray, List.set_cons_zero, List.set_cons_succ]
        refine At.pure 5 (some 47) (v := ?v5s0) rfl rfl (by kernel_rfl) (fun _ _ _ h => h) rfl (fun w' => ?y5s0) ?_   
        case y5s0 => go_simp; try with_reducible rfl
        try simp only [Act.put, List.setIfInBounds_toArray, List.set_cons_zero, List.set_cons_succ]
        refine At.pure 6 (some 48) (v := ?v6s0) rfl rfl (by kernel_rfl) (fun _ _ _ h => h) rfl (fun w' => ?y6s0) ?_   
        case y6s0 => go_simp; try with_reducible rfl
        try simp only [Act.put, List.setIfInBounds_toArray, List.set_cons_zero, List.set_cons_succ]
        refine At.pure 7 (some 49) (v := ?v7s0) rfl rfl (by kernel_rfl) (fun _ _ _ h => h) rfl (fun w' => ?y7s0) ?_   
        case y7s0 => go_simp; try with_reducible rfl
        try simp only [Act.put, List.setIfInBounds_toArray, List.set_cons_zero, List.set_cons_succ]
        refine At.read 8 (some 50) (fun w' => w'.cell? ⟨b2, o2 + i, none⟩ = some (.int .i64 bit)) (v := ?v8s0) rfl rfl (by kernel_rfl) (fun _ _ _ h => h) rfl z2 (fun w' hw' => ?y8s0) ?_   
        case y8s0 => skip; go_simp; try with_reducible rfl
        try simp only [Act.put, List.setIfInBounds_toArray, List.set_cons_zero, List.set_cons_succ]
        refine At.call 9 (pend' := []) rfl (by kernel_rfl) rfl (by kernel_rfl) (fun K hK => ?_)   
        go_simp
        refine (HR.out.drew.enc HRN.out (by omega) k hk19 bit).mono ?_
        rintro e w6 ⟨rfl, hr6⟩
        have HR6 := hid (show RunW w9 E X (runE (kL zs) (bL zs) (i + 1)) w6 by rw [HS.out]; exact hr6)
        clear hr6
        refine hK _ _ all_nil ?_
        clear hK K
        try simp only [Act.put, List.setIfInBounds_toArray, List.set_cons_zero, List.set_cons_succ]
        refine At.done (by kernel_rfl) ?_
        go_wp2_with fail
        exact ⟨⟨i + 1, _, by omega, rfl, by go_num, fun _ => rfl, HR6⟩, by simp [intOf]; omega⟩
      · have hiN' : ((i : Int) == (N : Int)) = false := by simp; omega
        obtain ⟨b1, o1, rfl, hy1⟩ := HL1.out.int_ix him
        have hb1 := HL1.out.lt (by omega) _ rfl
        have z1 := HR.out.keep.cell (HF2.out.cell hy1 (fun h => h)) (fun h : b1 = X => by simp only at hb1; omega)
        obtain ⟨b2, o2, rfl, hy2⟩ := HL2.out.int_ix him
        have hb2 := HL2.out.lt (by omega) _ rfl
        have z2 := HR.out.keep.cell (HF2.out.cell hy2 (fun h => h)) (fun h : b2 = X => by simp only at hb2; omega)
        obtain ⟨hk0, hk19⟩ := kL_at zs i
        obtain ⟨k, hk⟩ : ∃ k : Nat, (kL zs).getD i 0 = k := ⟨_, (Int.toNat_of_nonneg hk0).symm⟩
        have HS := hid (show runE (kL zs) (bL zs) (i + 1) = encR (runE (kL zs) (bL zs) i) k ((bL zs).getD i 0) by
          show encR _ ((kL zs).getD i 0).toNat _ = _
          rw [hk, Int.toNat_natCast])
        rw [hk, Int.toNat_natCast] at hk19
        rw [hk] at z1
        have HRN := hid (runE_ok zs (bL zs) i).1
        have hlen := (runE_ok zs (bL zs) i).2
        clear hk0 hk hy1 hy2
        generalize (bL zs).getD i 0 = bit at *
        go_wp2_with fail
        -- region 13: 10 operations
        refine At.start (L := #[false, false, false, false, false, false, false, false, false, false]) (by kernel_rfl) rfl ?_
        refine At.pure 0 (some 42) (v := ?v0s1) rfl rfl (by kernel_rfl) (fun _ _ _ h => h) rfl (fun w' => ?y0s1) ?_   
        case y0s1 => go_simp; try with_reducible rfl
        try simp only [Act.put, List.setIfInBounds_toArray, List.set_cons_zero, List.set_cons_succ]
        refine At.pure 1 (some 43) (v := ?v1s1) rfl rfl (by kernel_rfl) (fun _ _ _ h => h) rfl (fun w' => ?y1s1) ?_   
        case y1s1 => go_simp; try with_reducible rfl
        try simp only [Act.put, List.setIfInBounds_toArray, List.set_cons_zero, List.set_cons_succ]
        refine At.pure 2 (some 44) (v := ?v2s1) rfl rfl (by kernel_rfl) (fun _ _ _ h => h) rfl (fun w' => ?y2s1) ?_   
        case y2s1 => go_simp; try with_reducible rfl
        try simp only [Act.put, List.setIfInBounds_toArray, List.set_cons_zero, List.set_cons_succ]
        refine At.pure 3 (some 45) (v := ?v3s1) rfl rfl (by kernel_rfl) (fun _ _ _ h => h) rfl (fun w' => ?y3s1) ?_   
        case y3s1 => go_simp; try with_reducible rfl
        try simp only [Act.put, List.setIfInBounds_toArray, List.set_cons_zero, List.set_cons_succ]
        refine At.read 4 (some 46) (fun w' => w'.cell? ⟨b1, o1 + i, none⟩ = some (.int .i64 k)) (v := ?v4s1) rfl rfl (by kernel_rfl) (fun _ _ _ h => h) rfl z1 (fun w' hw' => ?y4s1) ?_   
        case y4s1 => skip; go_simp; try with_reducible rfl
        try simp only [Act.put, List.setIfInBounds_toArray, List.set_cons_zero, List.set_cons_succ]
        refine At.pure 5 (some 47) (v := ?v5s1) rfl rfl (by kernel_rfl) (fun _ _ _ h => h) rfl (fun w' => ?y5s1) ?_   
        case y5s1 => go_simp; try with_reducible rfl
        try simp only [Act.put, List.setIfInBounds_toArray, List.set_cons_zero, List.set_cons_succ]
        refine At.pure 6 (some 48) (v := ?v6s1) rfl rfl (by kernel_rfl) (fun _ _ _ h => h) rfl (fun w' => ?y6s1) ?_   
        case y6s1 => go_simp; try with_reducible rfl
        try simp only [Act.put, List.setIfInBounds_toArray, List.set_cons_zero, List.set_cons_succ]
        refine At.pure 7 (some 49) (v := ?v7s1) rfl rfl (by kernel_rfl) (fun _ _ _ h => h) rfl (fun w' => ?y7s1) ?_   
        case y7s1 => go_simp; try with_reducible rfl
        try simp only [Act.put, List.setIfInBounds_toArray, List.set_cons_zero, List.set_cons_succ]
        refine At.read 8 (some 50) (fun w' => w'.cell? ⟨b2, o2 + i, none⟩ = some (.int .i64 bit)) (v := ?v8s1) rfl rfl (by kernel_rfl) (fun _ _ _ h => h) rfl z2 (fun w' hw' => ?y8s1) ?_   
        case y8s1 => skip; go_simp; try with_reducible rfl
        try simp only [Act.put, List.setIfInBounds_toArray, List.set_cons_zero, List.set_cons_succ]
        refine At.call 9 (pend' := []) rfl (by kernel_rfl) rfl (by kernel_rfl) (fun K hK => ?_)   
        go_simp
        refine (HR.out.drew.enc HRN.out (by omega) k hk19 bit).mono ?_
        rintro e w6 ⟨rfl, hr6⟩
        have HR6 := hid (show RunW w9 E X (runE (kL zs) (bL zs) (i + 1)) w6 by rw [HS.out]; exact hr6)
        clear hr6
        refine hK _ _ all_nil ?_
        clear hK K
        try simp only [Act.put, List.setIfInBounds_toArray, List.set_cons_zero, List.set_cons_succ]
        refine At.done (by kernel_rfl) ?_
        go_wp2_with fail
        exact ⟨⟨i + 1, o, by omega, rfl, by go_num, fun h => ho (by omega), HR6⟩, by simp [intOf]; omega⟩
    · obtain rfl : m = i := by omega
      by_cases hmN : N = m
      · obtain rfl : m = N := hmN.symm
        have hlb := (runE_ok zs (bL zs) m).2
        go_wp2_with fail
        refine (HR.out.out (runE_ok zs (bL zs) m).1 (by omega)).mono ?_
        rintro e w5 ⟨rfl, rfl⟩
        obtain ⟨hrn, hlen⟩ := runE_ok zs (bL zs) m
        have hlN := (runE_ok zs (bL zs) m).2
        have hsN := (runE_ok zs (bL zs) m).1.inv.some_
        have hfr := fun i hi => mq_front zs m m hN1 (i := i) hi
        have hby := flush_bytes hrn.inv hrn.lo
        have hll := flush_len zs m hm
        obtain ⟨O, hO⟩ : ∃ O : Nat, (runE (kL zs) (bL zs) m).1.b.length = O + 1 := ⟨(runE (kL zs) (bL zs) m).1.b.length - 1, by omega⟩
        have hOi : ((runE (kL zs) (bL zs) m).1.b.length : Int) - 1 = (O : Int) := by omega
        rw [hOi]
        rw [hO] at hfr hlN
        go_wp2_with fail
        refine (HR.out.flush hrn (by omega)).mono ?_
        rintro e w6 ⟨A6, n6, c6, rfl, hO6, hC6, hk6⟩
        have HK6 := hid hk6
        have HO6 := hid hO6
        have HC2' := hid (Blk.keep HC2.out hk6 (fun h : X + 1 = X => by omega))
        have hn6 : (flushM (flushE (runE (kL zs) (bL zs) m).1)).length = n6 := by have := hO6.1; simpa using this
        rw [show O + 1 - 1 + 5 = O + 5 by omega] at hfr
        have hcn : n6 ≤ c6 := by
          rcases Nat.eq_zero_or_pos n6 with h0 | h0
          · omega
          · obtain ⟨_, _, hcc, _⟩ := own_at hO6 h0
            exact hcc
        have HBY := hid hby
        have hs6 := hk6.size
        obtain ⟨M, hM, hM1, hM2⟩ : ∃ M, min (O + 5) (flushM (flushE (runE (kL zs) (bL zs) m).1)).length = M ∧ M ≤ n6 ∧ M ≤ O + 5 := ⟨_, rfl, by omega, by omega⟩
        have hMi : (if (n6 : Int) < (O : Int) + 5 then (n6 : Int) else (O : Int) + 5) = (M : Int) := by split <;> omega
        rw [hM] at hfr
        have HBB := hid hfr
        clear hO6 hk6 hrn hC6 hfr hby HR HC2 hM hOi hsN hlen
        generalize flushM (flushE (runE (kL zs) (bL zs) m).1) = x at *
        have HRD : Hid (Rd w6 A6 M ((x.take M).map (Value.int .u8))) := hid (by
          have := (Rd.of_own HO6.out).take (k := M) hM1
          rwa [← List.map_take] at this)
        have HBY2 : Hid (Bytes (x.take M)) := hid (fun z hz => HBY.out z (List.mem_of_mem_take hz))
        have hlM : (x.take M).length ≤ 10000 := by rw [List.length_take]; omega
        clear HO6 HBY hn6
        generalize x.take M = l at *
        go_wp2_with fail
        refine (newd_any w6 A6 M c6 l HRD.out HBY2.out (by omega)).mono ?_
        rintro e w8 ⟨D, A7, c7, rfl, hDb, hde, hk8⟩
        have HD0 := hid (show DecW w6 D (X + 1) l (runD l (kL zs) 0) w8 from ⟨A7, M, c7, hde, Blk.keep HC2'.out hk8 (fun h => h), hDb, hk8.mono (fun _ _ h => h.elim)⟩)
        clear hde hk8 HC2' HRD
        go_wp2_with fail
        go_loopw [15] (fun v wr => ∃ i : Nat, i ≤ m ∧ v = .int .i64 i ∧ Hid (DecW w6 D (X + 1) l (runD l (kL zs) i) wr)) (fun v _ => m - (intOf v).toNat)
        case atStart => exact ⟨0, by omega, rfl, HD0⟩
        case round =>
          clear him hi
          obtain ⟨i, hi, rfl, HD⟩ := hrel
          clear HD0
          by_cases hiN : i < m
          · have him : i < m := by omega
            have HDD := hid (fun (w' : World) (h' : DecW w6 D (X + 1) l (runD l (kL zs) i) w') (k : Nat) (hk : k < 19) => h'.dec (runD_ok l zs i) HBY2.out (by omega) k hk)
            obtain ⟨b1, o1, rfl, hy1⟩ := HL1.out.int_ix him
            have hb1 := HL1.out.lt (by omega) _ rfl
            obtain ⟨b2, o2, rfl, hy2⟩ := HL2.out.int_ix him
            have hb2 := HL2.out.lt (by omega) _ rfl
            simp only at hb1 hb2
            have hy1 := HK6.out.cell (HF2.out.cell hy1 (fun h => h)) (fun h : b1 = X => by omega)
            have hy2 := HK6.out.cell (HF2.out.cell hy2 (fun h => h)) (fun h : b2 = X => by omega)
            obtain ⟨hk0, hk19⟩ := kL_at zs i
            obtain ⟨k, hk⟩ : ∃ k : Nat, (kL zs).getD i 0 = k := ⟨_, (Int.toNat_of_nonneg hk0).symm⟩
            have hbb := HBB.out i (by omega)
            have HS := hid (show runD l (kL zs) (i + 1) = decR l (runD l (kL zs) i) k by
              show decR _ _ ((kL zs).getD i 0).toNat = _
              rw [hk, Int.toNat_natCast])
            rw [hk, Int.toNat_natCast] at hk19 hbb
            rw [hk] at hy1
            rw [← hbb] at hy2
            have HOK := hid (runD_ok l zs i)
            have HY2 := hid hy2
            have z1 := HD.out.keep.cell hy1 (fun h : b1 = X + 1 => by omega)
            have z2 := HD.out.keep.cell hy2 (fun h : b2 = X + 1 => by omega)
            clear hk0 hk hy1 hy2 hbb HL1 HL2
            have HDD := hid (fun w' h' => HDD.out w' h' k hk19)
            generalize decV (runD l (kL zs) i) k = v at *
            go_wp2_with fail
            -- region 21: 11 operations
            refine At.start (L := #[false, false, false, false, false, false, false, false, false, false, false]) (by kernel_rfl) rfl ?_
            refine At.pure 0 (some 73) (v := ?v0s3) rfl rfl (by kernel_rfl) (fun _ _ _ h => h) rfl (fun w' => ?y0s3) ?_   
            case y0s3 => go_simp; try with_reducible rfl
            try simp only [Act.put, List.setIfInBounds_toArray, List.set_cons_zero, List.set_cons_succ]
            refine At.pure 1 (some 74) (v := ?v1s3) rfl rfl (by kernel_rfl) (fun _ _ _ h => h) rfl (fun w' => ?y1s3) ?_   
            case y1s3 => go_simp; try with_reducible rfl
            try simp only [Act.put, List.setIfInBounds_toArray, List.set_cons_zero, List.set_cons_succ]
            refine At.pure 2 (some 75) (v := ?v2s3) rfl rfl (by kernel_rfl) (fun _ _ _ h => h) rfl (fun w' => ?y2s3) ?_   
            case y2s3 => go_simp; try with_reducible rfl
            try simp only [Act.put, List.setIfInBounds_toArray, List.set_cons_zero, List.set_cons_succ]
            refine At.pure 3 (some 76) (v := ?v3s3) rfl rfl (by kernel_rfl) (fun _ _ _ h => h) rfl (fun w' => ?y3s3) ?_   
            case y3s3 => go_simp; try with_reducible rfl
            try simp only [Act.put, List.setIfInBounds_toArray, List.set_cons_zero, List.set_cons_succ]
            refine At.read 4 (some 77) (fun w' => w'.cell? ⟨b1, o1 + i, none⟩ = some (.int .i64 k)) (v := ?v4s3) rfl rfl (by kernel_rfl) (fun _ _ _ h => h) rfl z1 (fun w' hw' => ?y4s3) ?_   
            case y4s3 => skip; go_simp; try with_reducible rfl
            try simp only [Act.put, List.setIfInBounds_toArray, List.set_cons_zero, List.set_cons_succ]
            refine At.pure 6 (some 79) (v := ?v6s3) rfl rfl (by kernel_rfl) (fun _ _ _ h => h) rfl (fun w' => ?y6s3) ?_   
            case y6s3 => go_simp; try with_reducible rfl
            try simp only [Act.put, List.setIfInBounds_toArray, List.set_cons_zero, List.set_cons_succ]
            refine At.pure 7 (some 80) (v := ?v7s3) rfl rfl (by kernel_rfl) (fun _ _ _ h => h) rfl (fun w' => ?y7s3) ?_   
            case y7s3 => go_simp; try with_reducible rfl
            try simp only [Act.put, List.setIfInBounds_toArray, List.set_cons_zero, List.set_cons_succ]
            refine At.pure 8 (some 81) (v := ?v8s3) rfl rfl (by kernel_rfl) (fun _ _ _ h => h) rfl (fun w' => ?y8s3) ?_   
            case y8s3 => go_simp; try with_reducible rfl
            try simp only [Act.put, List.setIfInBounds_toArray, List.set_cons_zero, List.set_cons_succ]
            refine At.read 9 (some 82) (fun w' => w'.cell? ⟨b2, o2 + i, none⟩ = some (.int .i64 v)) (v := ?v9s3) rfl rfl (by kernel_rfl) (fun _ _ _ h => h) rfl z2 (fun w' hw' => ?y9s3) ?_   
            case y9s3 => skip; go_simp; try with_reducible rfl
            try simp only [Act.put, List.setIfInBounds_toArray, List.set_cons_zero, List.set_cons_succ]
            refine At.call 5 (pend' := [(9, (fun w' => w'.cell? ⟨b2, o2 + i, none⟩ = some (.int .i64 v)))]) rfl (by kernel_rfl) rfl (by kernel_rfl) (fun K hK => ?_)   
            go_simp
            refine (HDD.out _ HD.out.drew).mono ?_
            rintro e w11 ⟨rfl, hd11, _⟩
            have HD11 := hid (show DecW w6 D (X + 1) l (runD l (kL zs) (i + 1)) w11 by rw [HS.out]; exact hd11)
            have z11 := hd11.keep.cell HY2.out (fun h : b2 = X + 1 => by omega)
            clear hd11
            refine hK _ _ (all_cons z11 all_nil) ?_
            clear hK K
            try simp only [Act.put, List.setIfInBounds_toArray, List.set_cons_zero, List.set_cons_succ]
            refine At.pure 10 (some 83) (v := ?v10s3) rfl rfl (by kernel_rfl) (fun _ _ _ h => h) rfl (fun w' => ?y10s3) ?_   
            case y10s3 => go_simp; try with_reducible rfl
            try simp only [Act.put, List.setIfInBounds_toArray, List.set_cons_zero, List.set_cons_succ]
            refine At.done (by kernel_rfl) ?_
            go_wp2_with fail
            exact ⟨⟨i + 1, by omega, by go_num, HD11⟩, by simp [intOf]; omega⟩
          · obtain rfl : m = i := by omega
            have HW : Hid (Below w.heap.size w wr) := hid (((HKW.out.trans HK6.out (fun j hj h => by omega)).trans HD.out.keep (fun j hj h => by omega)).below (Nat.le_refl _) (fun _ h => h.elim))
            go_wp2_with fail
            go_ret
            exact ⟨rfl, HW.out⟩
      · have hmN' : ((N : Int) == (m : Int)) = false := by simp; omega
        have ho5 := ho (by omega)
        subst ho5
        obtain ⟨hrn, hlen⟩ := runE_ok zs (bL zs) m
        have hlN := (runE_ok zs (bL zs) N).2
        have hsN := (runE_ok zs (bL zs) N).1.inv.some_
        have hfr := fun i hi => mq_front zs m N hN1 (i := i) hi
        have hby := flush_bytes hrn.inv hrn.lo
        have hll := flush_len zs m hm
        obtain ⟨O, hO⟩ : ∃ O : Nat, (runE (kL zs) (bL zs) N).1.b.length = O + 1 := ⟨(runE (kL zs) (bL zs) N).1.b.length - 1, by omega⟩
        have hOi : ((runE (kL zs) (bL zs) N).1.b.length : Int) - 1 = (O : Int) := by omega
        rw [hOi]
        rw [hO] at hfr hlN
        go_wp2_with fail
        refine (HR.out.flush hrn (by omega)).mono ?_
        rintro e w6 ⟨A6, n6, c6, rfl, hO6, hC6, hk6⟩
        have HK6 := hid hk6
        have HO6 := hid hO6
        have HC2' := hid (Blk.keep HC2.out hk6 (fun h : X + 1 = X => by omega))
        have hn6 : (flushM (flushE (runE (kL zs) (bL zs) m).1)).length = n6 := by have := hO6.1; simpa using this
        rw [show O + 1 - 1 + 5 = O + 5 by omega] at hfr
        have hcn : n6 ≤ c6 := by
          rcases Nat.eq_zero_or_pos n6 with h0 | h0
          · omega
          · obtain ⟨_, _, hcc, _⟩ := own_at hO6 h0
            exact hcc
        have HBY := hid hby
        have hs6 := hk6.size
        obtain ⟨M, hM, hM1, hM2⟩ : ∃ M, min (O + 5) (flushM (flushE (runE (kL zs) (bL zs) m).1)).length = M ∧ M ≤ n6 ∧ M ≤ O + 5 := ⟨_, rfl, by omega, by omega⟩
        have hMi : (if (n6 : Int) < (O : Int) + 5 then (n6 : Int) else (O : Int) + 5) = (M : Int) := by split <;> omega
        rw [hM] at hfr
        have HBB := hid hfr
        clear hO6 hk6 hrn hC6 hfr hby HR HC2 hM hOi hsN hlen
        generalize flushM (flushE (runE (kL zs) (bL zs) m).1) = x at *
        have HRD : Hid (Rd w6 A6 M ((x.take M).map (Value.int .u8))) := hid (by
          have := (Rd.of_own HO6.out).take (k := M) hM1
          rwa [← List.map_take] at this)
        have HBY2 : Hid (Bytes (x.take M)) := hid (fun z hz => HBY.out z (List.mem_of_mem_take hz))
        have hlM : (x.take M).length ≤ 10000 := by rw [List.length_take]; omega
        clear HO6 HBY hn6
        generalize x.take M = l at *
        go_wp2_with fail
        refine (newd_any w6 A6 M c6 l HRD.out HBY2.out (by omega)).mono ?_
        rintro e w8 ⟨D, A7, c7, rfl, hDb, hde, hk8⟩
        have HD0 := hid (show DecW w6 D (X + 1) l (runD l (kL zs) 0) w8 from ⟨A7, M, c7, hde, Blk.keep HC2'.out hk8 (fun h => h), hDb, hk8.mono (fun _ _ h => h.elim)⟩)
        clear hde hk8 HC2' HRD
        go_wp2_with fail
        go_loopw [15] (fun v wr => ∃ i : Nat, i ≤ N ∧ v = .int .i64 i ∧ Hid (DecW w6 D (X + 1) l (runD l (kL zs) i) wr)) (fun v _ => N - (intOf v).toNat)
        case atStart => exact ⟨0, by omega, rfl, HD0⟩
        case round =>
          clear him hi
          obtain ⟨i, hi, rfl, HD⟩ := hrel
          clear HD0
          by_cases hiN : i < N
          · have him : i < m := by omega
            have HDD := hid (fun (w' : World) (h' : DecW w6 D (X + 1) l (runD l (kL zs) i) w') (k : Nat) (hk : k < 19) => h'.dec (runD_ok l zs i) HBY2.out (by omega) k hk)
            obtain ⟨b1, o1, rfl, hy1⟩ := HL1.out.int_ix him
            have hb1 := HL1.out.lt (by omega) _ rfl
            obtain ⟨b2, o2, rfl, hy2⟩ := HL2.out.int_ix him
            have hb2 := HL2.out.lt (by omega) _ rfl
            simp only at hb1 hb2
            have hy1 := HK6.out.cell (HF2.out.cell hy1 (fun h => h)) (fun h : b1 = X => by omega)
            have hy2 := HK6.out.cell (HF2.out.cell hy2 (fun h => h)) (fun h : b2 = X => by omega)
            obtain ⟨hk0, hk19⟩ := kL_at zs i
            obtain ⟨k, hk⟩ : ∃ k : Nat, (kL zs).getD i 0 = k := ⟨_, (Int.toNat_of_nonneg hk0).symm⟩
            have hbb := HBB.out i (by omega)
            have HS := hid (show runD l (kL zs) (i + 1) = decR l (runD l (kL zs) i) k by
              show decR _ _ ((kL zs).getD i 0).toNat = _
              rw [hk, Int.toNat_natCast])
            rw [hk, Int.toNat_natCast] at hk19 hbb
            rw [hk] at hy1
            rw [← hbb] at hy2
            have HOK := hid (runD_ok l zs i)
            have HY2 := hid hy2
            have z1 := HD.out.keep.cell hy1 (fun h : b1 = X + 1 => by omega)
            have z2 := HD.out.keep.cell hy2 (fun h : b2 = X + 1 => by omega)
            clear hk0 hk hy1 hy2 hbb HL1 HL2
            have HDD := hid (fun w' h' => HDD.out w' h' k hk19)
            generalize decV (runD l (kL zs) i) k = v at *
            go_wp2_with fail
            -- region 21: 11 operations
            refine At.start (L := #[false, false, false, false, false, false, false, false, false, false, false]) (by kernel_rfl) rfl ?_
            refine At.pure 0 (some 73) (v := ?v0s4) rfl rfl (by kernel_rfl) (fun _ _ _ h => h) rfl (fun w' => ?y0s4) ?_   
            case y0s4 => go_simp; try with_reducible rfl
            try simp only [Act.put, List.setIfInBounds_toArray, List.set_cons_zero, List.set_cons_succ]
            refine At.pure 1 (some 74) (v := ?v1s4) rfl rfl (by kernel_rfl) (fun _ _ _ h => h) rfl (fun w' => ?y1s4) ?_   
            case y1s4 => go_simp; try with_reducible rfl
            try simp only [Act.put, List.setIfInBounds_toArray, List.set_cons_zero, List.set_cons_succ]
            refine At.pure 2 (some 75) (v := ?v2s4) rfl rfl (by kernel_rfl) (fun _ _ _ h => h) rfl (fun w' => ?y2s4) ?_   
            case y2s4 => go_simp; try with_reducible rfl
            try simp only [Act.put, List.setIfInBounds_toArray, List.set_cons_zero, List.set_cons_succ]
            refine At.pure 3 (some 76) (v := ?v3s4) rfl rfl (by kernel_rfl) (fun _ _ _ h => h) rfl (fun w' => ?y3s4) ?_   
            case y3s4 => go_simp; try with_reducible rfl
            try simp only [Act.put, List.setIfInBounds_toArray, List.set_cons_zero, List.set_cons_succ]
            refine At.read 4 (some 77) (fun w' => w'.cell? ⟨b1, o1 + i, none⟩ = some (.int .i64 k)) (v := ?v4s4) rfl rfl (by kernel_rfl) (fun _ _ _ h => h) rfl z1 (fun w' hw' => ?y4s4) ?_   
            case y4s4 => skip; go_simp; try with_reducible rfl
            try simp only [Act.put, List.setIfInBounds_toArray, List.set_cons_zero, List.set_cons_succ]
            refine At.pure 6 (some 79) (v := ?v6s4) rfl rfl (by kernel_rfl) (fun _ _ _ h => h) rfl (fun w' => ?y6s4) ?_   
            case y6s4 => go_simp; try with_reducible rfl
            try simp only [Act.put, List.setIfInBounds_toArray, List.set_cons_zero, List.set_cons_succ]
            refine At.pure 7 (some 80) (v := ?v7s4) rfl rfl (by kernel_rfl) (fun _ _ _ h => h) rfl (fun w' => ?y7s4) ?_   
            case y7s4 => go_simp; try with_reducible rfl
            try simp only [Act.put, List.setIfInBounds_toArray, List.set_cons_zero, List.set_cons_succ]
            refine At.pure 8 (some 81) (v := ?v8s4) rfl rfl (by kernel_rfl) (fun _ _ _ h => h) rfl (fun w' => ?y8s4) ?_   
            case y8s4 => go_simp; try with_reducible rfl
            try simp only [Act.put, List.setIfInBounds_toArray, List.set_cons_zero, List.set_cons_succ]
            refine At.read 9 (some 82) (fun w' => w'.cell? ⟨b2, o2 + i, none⟩ = some (.int .i64 v)) (v := ?v9s4) rfl rfl (by kernel_rfl) (fun _ _ _ h => h) rfl z2 (fun w' hw' => ?y9s4) ?_   
            case y9s4 => skip; go_simp; try with_reducible rfl
            try simp only [Act.put, List.setIfInBounds_toArray, List.set_cons_zero, List.set_cons_succ]
            refine At.call 5 (pend' := [(9, (fun w' => w'.cell? ⟨b2, o2 + i, none⟩ = some (.int .i64 v)))]) rfl (by kernel_rfl) rfl (by kernel_rfl) (fun K hK => ?_)   
            go_simp
            refine (HDD.out _ HD.out.drew).mono ?_
            rintro e w11 ⟨rfl, hd11, _⟩
            have HD11 := hid (show DecW w6 D (X + 1) l (runD l (kL zs) (i + 1)) w11 by rw [HS.out]; exact hd11)
            have z11 := hd11.keep.cell HY2.out (fun h : b2 = X + 1 => by omega)
            clear hd11
            refine hK _ _ (all_cons z11 all_nil) ?_
            clear hK K
            try simp only [Act.put, List.setIfInBounds_toArray, List.set_cons_zero, List.set_cons_succ]
            refine At.pure 10 (some 83) (v := ?v10s4) rfl rfl (by kernel_rfl) (fun _ _ _ h => h) rfl (fun w' => ?y10s4) ?_   
            case y10s4 => go_simp; try with_reducible rfl
            try simp only [Act.put, List.setIfInBounds_toArray, List.set_cons_zero, List.set_cons_succ]
            refine At.done (by kernel_rfl) ?_
            go_wp2_with fail
            exact ⟨⟨i + 1, by omega, by go_num, HD11⟩, by simp [intOf]; omega⟩
          · obtain rfl : N = i := by omega
            have HW : Hid (Below w.heap.size w wr) := hid (((HKW.out.trans HK6.out (fun j hj h => by omega)).trans HD.out.keep (fun j hj h => by omega)).below (Nat.le_refl _) (fun _ h => h.elim))
            go_wp2_with fail
            go_ret
            exact ⟨rfl, HW.out⟩
end Go.Proofs.Ytcieeoobobafmaa
