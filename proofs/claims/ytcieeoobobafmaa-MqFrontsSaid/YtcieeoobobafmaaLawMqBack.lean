/-
  MqBack: the walk. Conditions: none.
-/
import Derived.Test.YtcieeoobobafmaaMqBackP
import Derived.Test.YtcieeoobobafmaaMqEql
namespace Go.Proofs.Ytcieeoobobafmaa
open Go.RowKit

theorem flush_bytes {s : ES} (hi : EInv s) (ha : 32768 ≤ s.a) : Bytes (flushM (flushE s)) := by
  have h := (fin_inv hi ha).1
  have ht : Bytes (flushE s) := fun z hz => h z (List.mem_of_mem_tail hz)
  unfold flushM
  split
  · exact fun z hz => ht z ((List.dropLast_sublist _).subset hz)
  · exact ht
theorem flush_len (zs : List Int) (n : Nat) (hn : n ≤ 400) : (flushM (flushE (runE (kL zs) (bL zs) n).1)).length ≤ 10000 := by
  have h1 := mqFlush_le (flushE (runE (kL zs) (bL zs) n).1)
  have h2 := flushE_len (runE (kL zs) (bL zs) n).1
  have h3 := (runE_ok zs (bL zs) n).2
  omega
theorem DecW.keep {w0 w : World} {D K : Nat} {l : List Int} {s : DS × List (Nat × Nat)} (h : DecW w0 D K l s w) : Keep (fun j => j = K) w0 w := by
  obtain ⟨A, n, c, _, _, _, hK⟩ := h
  exact hK
theorem DecW.drew {w0 w : World} {D K : Nat} {l : List Int} {s : DS × List (Nat × Nat)} (h : DecW w0 D K l s w) : DecW w0 D K l s w.drew := by
  obtain ⟨A, n, c, h1, h2, h3, hK⟩ := h
  exact ⟨A, n, c, ⟨h1.blk.drew, h1.own.drew⟩, Blk.drew h2, h3, hK.drew⟩
theorem DecW.ctx {w0 w : World} {D K : Nat} {l : List Int} {s : DS × List (Nat × Nat)} (h : DecW w0 D K l s w) : Ctx w K s.2 := by
  obtain ⟨A, n, c, h1, h2, h3, hK⟩ := h
  exact h2
set_option maxRecDepth 20000 in
set_option maxHeartbeats 8000000 in
theorem mqBack_walk (A : Option Addr) (n c : Nat) (zs : List Int) (w : World) (h : Arg .i64 8 w A n c zs) :
    Calls Try.prog 10 #[.slice A n c] w fun e w' => e = .returned (.bool true) ∧ Below w.heap.size w w' := by
  go_enter Try.func10, Try.ntmps10
  go_wp2_with fail
  refine (known_any w).mono ?_
  rintro e w1 ⟨rfl, hk1⟩
  have HK1 := hid hk1
  clear hk1
  go_wp2_with fail
  refine (lists_rd w1 A n c zs (h.rd.keep HK1.out (fun _ _ h => h)) h.ints).mono ?_
  rintro e w2 ⟨A1, c1, A2, c2, m, rfl, hm, hr1, hr2, hk2⟩
  have HK2 := hid (HK1.out.trans hk2 (fun _ _ h => h))
  have HL1 := hid hr1
  have HL2 := hid hr2
  clear hk2 hr1 hr2
  go_wp2_with fail
  refine (fresh_any w2).mono ?_
  rintro e w6 ⟨rfl, hkf⟩
  have HG1 := hid hkf
  clear hkf
  go_wp2_with fail
  refine (fresh_any w6).mono ?_
  rintro e w7 ⟨rfl, hkf⟩
  have HG2 := hid (HG1.out.trans hkf (fun _ _ h => h))
  clear hkf HG1
  go_wp2_with (first
    | (refine wpList_store_blk (g := w7.heap.size) (Blk.alloc (Blk.new w7 30 (cxCells zeros19)) _) rfl 30 _ _ rfl rfl (cxCells begL) rfl rfl ctx_info rfl (cx_one _) ?_; intro w8 hb8 hk8)
    | (refine wpList_store_blk (g := w7.heap.size + 1) (zs := cxCells zeros19) (t := 30) (Blk.keep (by have := Blk.new (w7.alloc (.cells (cxCells zeros19) 30)) 30 (cxCells zeros19); rw [World.size_alloc] at this; exact this) hk8 (by omega)) rfl 30 _ _ rfl rfl (cxCells begL) rfl rfl ctx_info rfl (cx_one _) ?_; intro w9 hb9 hk9))
  have HC1 := hid (Blk.keep hb8 hk9 (by omega))
  have HC2 := hid hb9
  have HG := hid (HG2.out.trans ((((Keep.refl (fun _ => False) w7).alloc _).alloc _).trans ((show Keep (fun j => w7.heap.size ≤ j) _ w8 from hk8.mono (fun _ _ h => by omega)).trans hk9 (fun j hj h => by omega)) (fun j hj h => by omega)) (fun _ _ h => h))
  clear hb8 hk8 hb9 hk9
  have hK2 : w2.heap.size ≤ w7.heap.size := HG2.out.size
  have hK4 : w7.heap.size + 1 < w9.heap.size := HC2.out.lt
  have hK0 : w.heap.size ≤ w2.heap.size := HK2.out.size
  have HKW := hid (HK2.out.trans HG.out (fun _ _ h => h))
  have HF2 := HG
  clear HG2
  generalize w7.heap.size = X at *
  refine (newe_any w9).mono ?_
  rintro e w10 ⟨E, A3, n3, c3, rfl, hEb, hen, hk10⟩
  have HR0 := hid (RunW.new HC1.out hen hEb hk10)
  clear hen hk10 HC1
  go_wp2_with fail
  go_loopw [8] (fun v wr => ∃ i : Nat, i ≤ m ∧ v = .int .i64 i ∧ Hid (RunW w9 E X (runE (kL zs) (bL zs) i) wr)) (fun v _ => m - (intOf v).toNat)
  case atStart => exact ⟨0, by omega, rfl, HR0⟩
  case round =>
    obtain ⟨i, hi, rfl, HR⟩ := hrel
    clear HR0
    by_cases him : i < m
    · skip
      obtain ⟨b1, o1, rfl, hy1⟩ := HL1.out.int_ix him
      have hb1 := HL1.out.lt (by omega) _ rfl
      have z1 := HR.out.keep.cell (HF2.out.cell hy1 (fun h => h)) (fun h : b1 = X => by simp only at hb1; omega)
      obtain ⟨b2, o2, rfl, hy2⟩ := HL2.out.int_ix him
      have hb2 := HL2.out.lt (by omega) _ rfl
      have z2 := HR.out.keep.cell (HF2.out.cell hy2 (fun h => h)) (fun h : b2 = X => by simp only at hb2; omega)
      obtain ⟨hk0, hk19⟩ := kL_at zs i
      obtain ⟨k, hk⟩ : ∃ k : Nat, (kL zs).getD i 0 = k := ⟨_, (Int.toNat_of_nonneg hk0).symm⟩
      have HS := hid (show runE (kL zs) (bL zs) (i + 1) = encR (runE (kL zs) (bL zs) i) k ((bL zs).getD i 0) by
        show encR _ ((kL zs).getD i 0).toNat _ = _
        rw [hk, Int.toNat_natCast])
      rw [hk, Int.toNat_natCast] at hk19
      rw [hk] at z1
      have HRN := hid (runE_ok zs (bL zs) i).1
      have hlen := (runE_ok zs (bL zs) i).2
      clear hk0 hk hy1 hy2
      generalize (bL zs).getD i 0 = bit at *
      go_wp2_with fail
      -- region 9: 10 operations
      refine At.start (L := #[false, false, false, false, false, false, false, false, false, false]) (by kernel_rfl) rfl ?_
      refine At.pure 0 (some 27) (v := ?v0s0) rfl rfl (by kernel_rfl) (fun _ _ _ h => h) rfl (fun w' => ?y0s0) ?_   
      case y0s0 => go_simp; try with_reducible rfl
      try simp only [Act.put, List.setIfInBounds_toArray, List.set_cons_zero, List.set_cons_succ]
      refine At.pure 1 (some 28) (v := ?v1s0) rfl rfl (by kernel_rfl) (fun _ _ _ h => h) rfl (fun w' => ?y1s0) ?_   
      case y1s0 => go_simp; try with_reducible rfl
      try simp only [Act.put, List.setIfInBounds_toArray, List.set_cons_zero, List.set_cons_succ]
      refine At.pure 2 (some 29) (v := ?v2s0) rfl rfl (by kernel_rfl) (fun _ _ _ h => h) rfl (fun w' => ?y2s0) ?_   
      case y2s0 => go_simp; try with_reducible rfl
      try simp only [Act.put, List.setIfInBounds_toArray, List.set_cons_zero, List.set_cons_succ]
      refine At.pure 3 (some 30) (v := ?v3s0) rfl rfl (by kernel_rfl) (fun _ _ _ h => h) rfl (fun w' => ?y3s0) ?_   
      case y3s0 => go_simp; try with_reducible rfl
      try simp only [Act.put, List.setIfInBounds_toArray, List.set_cons_zero, List.set_cons_succ]
      refine At.read 4 (some 31) (fun w' => w'.cell? ⟨b1, o1 + i, none⟩ = some (.int .i64 k)) (v := ?v4s0) rfl rfl (by kernel_rfl) (fun _ _ _ h => h) rfl z1 (fun w' hw' => ?y4s0) ?_   
      case y4s0 => skip; go_simp; try with_reducible rfl
      try simp only [Act.put, List.setIfInBounds_toArray, List.set_cons_zero, List.set_cons_succ]
      refine At.pure 5 (some 32) (v := ?v5s0) rfl rfl (by kernel_rfl) (fun _ _ _ h => h) rfl (fun w' => ?y5s0) ?_   
      case y5s0 => go_simp; try with_reducible rfl
      try simp only [Act.put, List.setIfInBounds_toArray, List.set_cons_zero, List.set_cons_succ]
      refine At.pure 6 (some 33) (v := ?v6s0) rfl rfl (by kernel_rfl) (fun _ _ _ h => h) rfl (fun w' => ?y6s0) ?_   
      case y6s0 => go_simp; try with_reducible rfl
      try simp only [Act.put, List.setIfInBounds_toArray, List.set_cons_zero, List.set_cons_succ]
      refine At.pure 7 (some 34) (v := ?v7s0) rfl rfl (by kernel_rfl) (fun _ _ _ h => h) rfl (fun w' => ?y7s0) ?_   
      case y7s0 => go_simp; try with_reducible rfl
      try simp only [Act.put, List.setIfInBounds_toArray, List.set_cons_zero, List.set_cons_succ]
      refine At.read 8 (some 35) (fun w' => w'.cell? ⟨b2, o2 + i, none⟩ = some (.int .i64 bit)) (v := ?v8s0) rfl rfl (by kernel_rfl) (fun _ _ _ h => h) rfl z2 (fun w' hw' => ?y8s0) ?_   
      case y8s0 => skip; go_simp; try with_reducible rfl
      try simp only [Act.put, List.setIfInBounds_toArray, List.set_cons_zero, List.set_cons_succ]
      refine At.call 9 (pend' := []) rfl (by kernel_rfl) rfl (by kernel_rfl) (fun K hK => ?_)   
      go_simp
      refine (HR.out.drew.enc HRN.out (by omega) k hk19 bit).mono ?_
      rintro e w6 ⟨rfl, hr6⟩
      have HR6 := hid (show RunW w9 E X (runE (kL zs) (bL zs) (i + 1)) w6 by rw [HS.out]; exact hr6)
      clear hr6
      refine hK _ _ all_nil ?_
      clear hK K
      try simp only [Act.put, List.setIfInBounds_toArray, List.set_cons_zero, List.set_cons_succ]
      refine At.done (by kernel_rfl) ?_
      go_wp2_with fail
      go_roundw
      case rel => exact ⟨i + 1, by omega, by go_num, HR6⟩
      case measure => simp [intOf]; omega
    · obtain rfl : m = i := by omega
      obtain ⟨hrn, hlen⟩ := runE_ok zs (bL zs) m
      obtain ⟨hbits, hcxs⟩ := mq_back zs m
      have hby := flush_bytes hrn.inv hrn.lo
      have hll := flush_len zs m hm
      have hsl := hrn.cx.len
      go_wp2_with fail
      refine (HR.out.flush hrn (by omega)).mono ?_
      rintro e w6 ⟨A6, n6, c6, rfl, hO, hC6, hk6⟩
      have HK6 := hid hk6
      have HO := hid hO
      have HC6 := hid hC6
      have HC2' := hid (Blk.keep HC2.out hk6 (fun h : X + 1 = X => by omega))
      have hn6 : (flushM (flushE (runE (kL zs) (bL zs) m).1)).length = n6 := by have := hO.1; simpa using this
      have HBB := hid hbits
      have HCX := hid hcxs
      have HBY := hid hby
      have hs6 := hk6.size
      clear hO hk6 hrn hlen hC6 hbits hcxs hby HR HC2
      generalize flushM (flushE (runE (kL zs) (bL zs) m).1) = l at *
      generalize (runE (kL zs) (bL zs) m).2 = cx at *
      go_wp2_with fail
      refine (newd_any w6 A6 n6 c6 l (Rd.of_own HO.out) HBY.out (by omega)).mono ?_
      rintro e w8 ⟨D, A7, c7, rfl, hDb, hde, hk8⟩
      have HD0 := hid (show DecW w6 D (X + 1) l (runD l (kL zs) 0) w8 from ⟨A7, n6, c7, hde, Blk.keep HC2'.out hk8 (fun h => h), hDb, hk8.mono (fun _ _ h => h.elim)⟩)
      clear hde hk8 HC2' HO
      go_wp2_with fail
      go_loopw [10] (fun v wr => ∃ i : Nat, i ≤ m ∧ v = .int .i64 i ∧ Hid (DecW w6 D (X + 1) l (runD l (kL zs) i) wr)) (fun v _ => m - (intOf v).toNat)
      case atStart => exact ⟨0, by omega, rfl, HD0⟩
      case round =>
        clear him hi
        obtain ⟨i, hi, rfl, HD⟩ := hrel
        clear HD0
        by_cases him : i < m
        · have HDD := hid (fun (w' : World) (h' : DecW w6 D (X + 1) l (runD l (kL zs) i) w') (k : Nat) (hk : k < 19) => h'.dec (runD_ok l zs i) HBY.out (by omega) k hk)
          obtain ⟨b1, o1, rfl, hy1⟩ := HL1.out.int_ix him
          have hb1 := HL1.out.lt (by omega) _ rfl
          obtain ⟨b2, o2, rfl, hy2⟩ := HL2.out.int_ix him
          have hb2 := HL2.out.lt (by omega) _ rfl
          simp only at hb1 hb2
          have hy1 := HK6.out.cell (HF2.out.cell hy1 (fun h => h)) (fun h : b1 = X => by omega)
          have hy2 := HK6.out.cell (HF2.out.cell hy2 (fun h => h)) (fun h : b2 = X => by omega)
          obtain ⟨hk0, hk19⟩ := kL_at zs i
          obtain ⟨k, hk⟩ : ∃ k : Nat, (kL zs).getD i 0 = k := ⟨_, (Int.toNat_of_nonneg hk0).symm⟩
          have hbb := HBB.out i (by omega)
          have HS := hid (show runD l (kL zs) (i + 1) = decR l (runD l (kL zs) i) k by
            show decR _ _ ((kL zs).getD i 0).toNat = _
            rw [hk, Int.toNat_natCast])
          rw [hk, Int.toNat_natCast] at hk19 hbb
          rw [hk] at hy1
          rw [← hbb] at hy2
          have HOK := hid (runD_ok l zs i)
          have HY2 := hid hy2
          have z1 := HD.out.keep.cell hy1 (fun h : b1 = X + 1 => by omega)
          have z2 := HD.out.keep.cell hy2 (fun h : b2 = X + 1 => by omega)
          clear hk0 hk hy1 hy2 hbb HL1 HL2
          have HDD := hid (fun w' h' => HDD.out w' h' k hk19)
          generalize decV (runD l (kL zs) i) k = v at *
          go_wp2_with fail
          -- region 14: 11 operations
          refine At.start (L := #[false, false, false, false, false, false, false, false, false, false, false]) (by kernel_rfl) rfl ?_
          refine At.pure 0 (some 46) (v := ?v0s1) rfl rfl (by kernel_rfl) (fun _ _ _ h => h) rfl (fun w' => ?y0s1) ?_   
          case y0s1 => go_simp; try with_reducible rfl
          try simp only [Act.put, List.setIfInBounds_toArray, List.set_cons_zero, List.set_cons_succ]
          refine At.pure 1 (some 47) (v := ?v1s1) rfl rfl (by kernel_rfl) (fun _ _ _ h => h) rfl (fun w' => ?y1s1) ?_   
          case y1s1 => go_simp; try with_reducible rfl
          try simp only [Act.put, List.setIfInBounds_toArray, List.set_cons_zero, List.set_cons_succ]
          refine At.pure 2 (some 48) (v := ?v2s1) rfl rfl (by kernel_rfl) (fun _ _ _ h => h) rfl (fun w' => ?y2s1) ?_   
          case y2s1 => go_simp; try with_reducible rfl
          try simp only [Act.put, List.setIfInBounds_toArray, List.set_cons_zero, List.set_cons_succ]
          refine At.pure 3 (some 49) (v := ?v3s1) rfl rfl (by kernel_rfl) (fun _ _ _ h => h) rfl (fun w' => ?y3s1) ?_   
          case y3s1 => go_simp; try with_reducible rfl
          try simp only [Act.put, List.setIfInBounds_toArray, List.set_cons_zero, List.set_cons_succ]
          refine At.read 4 (some 50) (fun w' => w'.cell? ⟨b1, o1 + i, none⟩ = some (.int .i64 k)) (v := ?v4s1) rfl rfl (by kernel_rfl) (fun _ _ _ h => h) rfl z1 (fun w' hw' => ?y4s1) ?_   
          case y4s1 => skip; go_simp; try with_reducible rfl
          try simp only [Act.put, List.setIfInBounds_toArray, List.set_cons_zero, List.set_cons_succ]
          refine At.pure 6 (some 52) (v := ?v6s1) rfl rfl (by kernel_rfl) (fun _ _ _ h => h) rfl (fun w' => ?y6s1) ?_   
          case y6s1 => go_simp; try with_reducible rfl
          try simp only [Act.put, List.setIfInBounds_toArray, List.set_cons_zero, List.set_cons_succ]
          refine At.pure 7 (some 53) (v := ?v7s1) rfl rfl (by kernel_rfl) (fun _ _ _ h => h) rfl (fun w' => ?y7s1) ?_   
          case y7s1 => go_simp; try with_reducible rfl
          try simp only [Act.put, List.setIfInBounds_toArray, List.set_cons_zero, List.set_cons_succ]
          refine At.pure 8 (some 54) (v := ?v8s1) rfl rfl (by kernel_rfl) (fun _ _ _ h => h) rfl (fun w' => ?y8s1) ?_   
          case y8s1 => go_simp; try with_reducible rfl
          try simp only [Act.put, List.setIfInBounds_toArray, List.set_cons_zero, List.set_cons_succ]
          refine At.read 9 (some 55) (fun w' => w'.cell? ⟨b2, o2 + i, none⟩ = some (.int .i64 v)) (v := ?v9s1) rfl rfl (by kernel_rfl) (fun _ _ _ h => h) rfl z2 (fun w' hw' => ?y9s1) ?_   
          case y9s1 => skip; go_simp; try with_reducible rfl
          try simp only [Act.put, List.setIfInBounds_toArray, List.set_cons_zero, List.set_cons_succ]
          refine At.call 5 (pend' := [(9, (fun w' => w'.cell? ⟨b2, o2 + i, none⟩ = some (.int .i64 v)))]) rfl (by kernel_rfl) rfl (by kernel_rfl) (fun K hK => ?_)   
          go_simp
          refine (HDD.out _ HD.out.drew).mono ?_
          rintro e w11 ⟨rfl, hd11, _⟩
          have HD11 := hid (show DecW w6 D (X + 1) l (runD l (kL zs) (i + 1)) w11 by rw [HS.out]; exact hd11)
          have z11 := hd11.keep.cell HY2.out (fun h : b2 = X + 1 => by omega)
          clear hd11
          refine hK _ _ (all_cons z11 all_nil) ?_
          clear hK K
          try simp only [Act.put, List.setIfInBounds_toArray, List.set_cons_zero, List.set_cons_succ]
          refine At.pure 10 (some 56) (v := ?v10s1) rfl rfl (by kernel_rfl) (fun _ _ _ h => h) rfl (fun w' => ?y10s1) ?_   
          case y10s1 => go_simp; try with_reducible rfl
          try simp only [Act.put, List.setIfInBounds_toArray, List.set_cons_zero, List.set_cons_succ]
          refine At.done (by kernel_rfl) ?_
          go_wp2_with fail
          exact ⟨⟨i + 1, by omega, by go_num, HD11⟩, by simp [intOf]; omega⟩
        · obtain rfl : m = i := by omega
          have hcx := HD.out.ctx
          rw [HCX.out] at hcx
          have hx := Blk.keep HC6.out HD.out.keep (fun h : X = X + 1 => by omega)
          have eq := cx_eql wr (l := cx) hsl
          have hinf : (Try.prog.info? 30).map (·.size) = some (cxCells cx).size := by rw [cx_size _ hsl]; exact ctx_info
          have HW : Hid (Below w.heap.size w wr) := hid (((HKW.out.trans HK6.out (fun j hj h => by omega)).trans HD.out.keep (fun j hj h => by omega)).below (Nat.le_refl _) (fun _ h => h.elim))
          go_wp2_with (first
            | refine wpList_load_row rfl 30 _ rfl X rfl 30 (cxCells cx) (0, 0) _ hx Try.underlying30 rfl hinf ?_
            | refine wpList_load_row rfl 30 _ rfl (X + 1) rfl 30 (cxCells cx) (0, 0) _ hcx Try.underlying30 rfl hinf ?_)
          go_ret
          exact ⟨rfl, HW.out⟩
end Go.Proofs.Ytcieeoobobafmaa
