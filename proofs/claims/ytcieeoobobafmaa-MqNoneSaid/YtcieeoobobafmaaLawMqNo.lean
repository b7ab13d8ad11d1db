/-
  MqNone: the walk. Conditions: none.
-/
import Derived.Test.YtcieeoobobafmaaMqEql
namespace Go.Proofs.Ytcieeoobobafmaa
open Go.RowKit

set_option maxRecDepth 20000 in
set_option maxHeartbeats 8000000 in
theorem mqNone_walk (x y : Int) (A : Option Addr) (n c : Nat) (l : List Int) (w : World) (hx : (Lit.int .i64 x).wf = true) (hy : (Lit.int .i64 y).wf = true) (h : Arg .u8 1 w A n c l) :
    Calls Try.prog 11 #[.int .i64 x, .int .i64 y, .slice A n c] w fun e w' => e = .returned (.bool true) ∧ Below w.heap.size w w' := by
  obtain ⟨hx0, hx1⟩ := wf_i64 hx
  have HBY := hid h.bytes
  have HL := hid h.len
  have hcn : n ≤ 9223372036854775807 := by have := h.cap; have := h.reach; omega
  have hand := bit_and y
  clear hx hy
  by_cases hn : n ≤ 50
  · by_cases hk : 0 ≤ x ∧ x < 19
    · obtain ⟨hk0, hk9⟩ := hk
      have hnx : x + 19 < 0 ∨ 18 < x + 19 := by omega
      go_enter Try.func11, Try.ntmps11
      go_wp2_with fail
      refine (known_any w).mono ?_
      rintro e w1 ⟨rfl, hk1⟩
      have HK1 := hid hk1
      clear hk1
      go_wp2_with fail
      refine (fresh_any w1).mono ?_
      rintro e w6 ⟨rfl, hkf⟩
      have HG1 := hid hkf
      clear hkf
      go_wp2_with fail
      refine (fresh_any w6).mono ?_
      rintro e w7 ⟨rfl, hkf⟩
      have HG2 := hid (HG1.out.trans hkf (fun _ _ h => h))
      clear hkf HG1
      go_wp2_with (first
        | (refine wpList_store_blk (g := w7.heap.size) (Blk.alloc (Blk.new w7 30 (cxCells zeros19)) _) rfl 30 _ _ rfl rfl (cxCells begL) rfl rfl ctx_info rfl (cx_one _) ?_; intro w8 hb8 hk8)
        | (refine wpList_store_blk (g := w7.heap.size + 1) (zs := cxCells zeros19) (t := 30) (Blk.keep (by have := Blk.new (w7.alloc (.cells (cxCells zeros19) 30)) 30 (cxCells zeros19); rw [World.size_alloc] at this; exact this) hk8 (by omega)) rfl 30 _ _ rfl rfl (cxCells begL) rfl rfl ctx_info rfl (cx_one _) ?_; intro w9 hb9 hk9))
      have HC1 := hid (Blk.keep hb8 hk9 (by omega))
      have HC2 := hid hb9
      have HG := hid (HG2.out.trans ((((Keep.refl (fun _ => False) w7).alloc _).alloc _).trans ((show Keep (fun j => w7.heap.size ≤ j) _ w8 from hk8.mono (fun _ _ h => by omega)).trans hk9 (fun j hj h => by omega)) (fun j hj h => by omega)) (fun _ _ h => h))
      clear hb8 hk8 hb9 hk9
      have hK5 : w1.heap.size ≤ w7.heap.size := HG2.out.size
      have hK2 : w7.heap.size + 1 < w9.heap.size := HC2.out.lt
      have HKW := hid (HK1.out.trans HG.out (fun _ _ h => h))
      have hw1 : w.heap.size ≤ w1.heap.size := HK1.out.size
      clear HG2
      refine (newe_any w9).mono ?_
      rintro e w10 ⟨E1, A1, n1, c1, rfl, hE1, hen1, hk10⟩
      have HE1 := hid hen1
      have HK10 := hid hk10
      clear hen1 hk10
      go_wp2_with fail
      refine (newe_any w10).mono ?_
      rintro e w11 ⟨E2, A2, n2, c2, rfl, hE2, hen2, hk11⟩
      have HT0 : Hid (TwoE w9 E1 w7.heap.size E2 (w7.heap.size + 1) (newM, begL) (newM, begL) w11) := hid (by
        have h12 := HK10.out.trans hk11 (fun _ _ h => h)
        have hlt := HE1.out.blk.lt
        have hs := HK10.out.size
        exact ⟨A1, n1, c1, A2, n2, c2, HE1.out.keep hk11 (fun h => h) (fun _ _ h => h), ⟨hen2.blk, own_mono hen2.own hs⟩,
          fun ad bd e1 e2 => by have := (own_foot_lt HE1.out.own ad e1).2; have := (own_foot_lt hen2.own bd e2).1; omega,
          Blk.keep HC1.out h12 (fun h => h), Blk.keep HC2.out h12 (fun h => h), by omega, by omega, hE1, Nat.le_trans hs hE2, h12.mono (fun _ _ h => h.elim)⟩)
      clear HE1 HK10 hen2 hk11 hE1 hE2 HC1 HC2 HG
      generalize w7.heap.size = X at *
      go_wp2_with fail
      refine (enc_none w11 E1 X (x + 19) y hnx).mono ?_
      rintro e w12 ⟨rfl, hk12⟩
      have HT1 := hid (HT0.out.more (hk12.mono (fun _ _ h => h.elim)))
      clear hk12 HT0
      go_wp2_with fail
      refine (HT1.out.enc Run.new (by decide) 5 (by decide) y).mono ?_
      rintro e w13 ⟨rfl, ht13⟩
      have HT2 := hid ht13
      obtain ⟨hr1, hl1⟩ := Run.new.step (k := 5) (by decide) y
      have hl1' : (encR (newM, begL) 5 y).1.b.length ≤ 17 := hl1
      have HR1 := hid hr1
      clear ht13 HT1 hr1 hl1
      go_wp2_with fail
      refine (HT2.out.swap.enc Run.new (by decide) 5 (by decide) (y % 2)).mono ?_
      rintro e w14 ⟨rfl, ht14⟩
      have HT3 : Hid (TwoE w9 E1 X E2 (X + 1) (encR (newM, begL) 5 y) (encR (newM, begL) 5 y) w14) := hid (by
        have := ht14.swap
        rwa [show encR (newM, begL) 5 (y % 2) = encR (newM, begL) 5 y by unfold encR; rw [Int.emod_emod]] at this)
      clear ht14 HT2
      have HRA := hid (h.rd.keep (HKW.out.trans HT3.out.keep (fun j hj h => by omega)) (fun _ _ h => h))
      go_wp2_with fail
      refine (newd_any w14 A n c l HRA.out HBY.out (by omega)).mono ?_
      rintro e w15 ⟨D, A5, c5, rfl, hD, hde, hk15⟩
      have HT4 := hid (HT3.out.more (hk15.mono (fun _ _ h => h.elim)))
      clear hde hk15 HT3 HRA
      go_wp2_with fail
      refine (dec_none w15 D X (x + 19) hnx).mono ?_
      rintro e w16 ⟨rfl, hk16⟩
      have HT5 := hid (HT4.out.more (hk16.mono (fun _ _ h => h.elim)))
      clear hk16 HT4
      generalize encR (newM, begL) 5 y = s at *
      have hsl := HR1.out.cx.len
      go_wp2_with fail
      have CV := hid (fun (w : World) (A : Option Addr) (n c : Nat) (zs : List Int) (h : Rd w A n (zs.map (Value.int .u8))) => (run_string_rd _ _ _ Try.underlying22 Try.underlying5 Try.underlying9 h c : (convert 22 9 (.slice A n c)).run Try.prog w = .ok (.string (strOfNums zs)) w))
      have EQ := hid (fun w => cx_eql w hsl)
      -- region 14: 17 operations
      refine At.start (L := #[false, false, false, false, false, false, false, false, false, false, false, false, false, false, false, false, false]) (by kernel_rfl) rfl ?_
      refine At.pure 0 (some 46) (v := ?v0s0) rfl rfl (by kernel_rfl) (fun _ _ _ h => h) rfl (fun w' => ?y0s0) ?_   
      case y0s0 => go_simp; try with_reducible rfl
      try simp only [Act.put, List.setIfInBounds_toArray, List.set_cons_zero, List.set_cons_succ]
      refine At.pure 1 (some 47) (v := ?v1s0) rfl rfl (by kernel_rfl) (fun _ _ _ h => h) rfl (fun w' => ?y1s0) ?_   
      case y1s0 => go_simp; try with_reducible rfl
      try simp only [Act.put, List.setIfInBounds_toArray, List.set_cons_zero, List.set_cons_succ]
      refine At.pure 2 (some 48) (v := ?v2s0) rfl rfl (by kernel_rfl) (fun _ _ _ h => h) rfl (fun w' => ?y2s0) ?_   
      case y2s0 => go_simp; try with_reducible rfl
      try simp only [Act.put, List.setIfInBounds_toArray, List.set_cons_zero, List.set_cons_succ]
      refine At.pure 3 (some 49) (v := ?v3s0) rfl rfl (by kernel_rfl) (fun _ _ _ h => h) rfl (fun w' => ?y3s0) ?_   
      case y3s0 => go_simp; try with_reducible rfl
      try simp only [Act.put, List.setIfInBounds_toArray, List.set_cons_zero, List.set_cons_succ]
      refine At.pure 6 (some 52) (v := ?v6s0) rfl rfl (by kernel_rfl) (fun _ _ _ h => h) rfl (fun w' => ?y6s0) ?_   
      case y6s0 => go_simp; try with_reducible rfl
      try simp only [Act.put, List.setIfInBounds_toArray, List.set_cons_zero, List.set_cons_succ]
      refine At.call 4 (pend' := []) rfl (by kernel_rfl) rfl (by kernel_rfl) (fun K hK => ?_)   
      go_simp
      refine (HT5.out.drew.flush HR1.out (by omega)).mono ?_
      rintro e w17 ⟨A6, n6, c6, rfl, hown6, hl6⟩
      refine hK _ _ all_nil ?_
      clear hK K
      try simp only [Act.put, List.setIfInBounds_toArray, List.set_cons_zero, List.set_cons_succ]
      refine At.read 5 (some 51) (fun w' => Rd w' A6 n6 ((flushM (flushE s.1)).map (Value.int .u8))) (v := ?v5s0) rfl rfl (by kernel_rfl) (fun _ _ _ h => h) rfl (Rd.of_own hown6) (fun w' hw' => ?y5s0) ?_   
      case y5s0 => have cv := CV.out w' A6 n6 c6 _ hw'; go_simp; try with_reducible rfl
      try simp only [Act.put, List.setIfInBounds_toArray, List.set_cons_zero, List.set_cons_succ]
      refine At.call 7 (pend' := [(5, (fun w' => Rd w' A6 n6 ((flushM (flushE s.1)).map (Value.int .u8))))]) rfl (by kernel_rfl) rfl (by kernel_rfl) (fun K hK => ?_)   
      go_simp
      refine (hl6.flush HR1.out (by omega)).mono ?_
      rintro e w18 ⟨A7, n7, c7, rfl, hown7, hx7, hy7, hk7, hkw⟩
      refine hK _ _ (all_cons (Rd.keep_own hown6 hk7 (fun _ h => h)) all_nil) ?_
      clear hK K
      try simp only [Act.put, List.setIfInBounds_toArray, List.set_cons_zero, List.set_cons_succ]
      refine At.read 8 (some 54) (fun w' => Rd w' A7 n7 ((flushM (flushE s.1)).map (Value.int .u8))) (v := ?v8s0) rfl rfl (by kernel_rfl) (fun _ _ _ h => h) rfl (Rd.of_own hown7) (fun w' hw' => ?y8s0) ?_   
      case y8s0 => have cv := CV.out w' A7 n7 c7 _ hw'; go_simp; try with_reducible rfl
      try simp only [Act.put, List.setIfInBounds_toArray, List.set_cons_zero, List.set_cons_succ]
      refine At.pure 9 (some 55) (v := ?v9s0) rfl rfl (by kernel_rfl) (fun _ _ _ h => h) rfl (fun w' => ?y9s0) ?_   
      case y9s0 => go_simp; try with_reducible rfl
      try simp only [Act.put, List.setIfInBounds_toArray, List.set_cons_zero, List.set_cons_succ]
      refine At.pure 10 (some 56) (v := ?v10s0) rfl rfl (by kernel_rfl) (fun _ _ _ h => h) rfl (fun w' => ?y10s0) ?_   
      case y10s0 => go_simp; try with_reducible rfl
      try simp only [Act.put, List.setIfInBounds_toArray, List.set_cons_zero, List.set_cons_succ]
      refine At.pure 11 (some 57) (v := ?v11s0) rfl rfl (by kernel_rfl) (fun _ _ _ h => h) rfl (fun w' => ?y11s0) ?_   
      case y11s0 => go_simp; try with_reducible rfl
      try simp only [Act.put, List.setIfInBounds_toArray, List.set_cons_zero, List.set_cons_succ]
      refine At.read 12 (some 58) (fun w' => Blk w' X 30 (cxCells s.2)) (v := (.agg (cxCells s.2))) rfl rfl (by kernel_rfl) (fun _ _ _ h => h) rfl hx7 (fun w' hw' => ?y12s0) ?_   
      case y12s0 => exact exec_load_row 30 _ rfl X rfl 30 (cxCells s.2) (0, 0) _ hw' Try.underlying30 rfl (by rw [cx_size _ hsl]; exact ctx_info)
      try simp only [Act.put, List.setIfInBounds_toArray, List.set_cons_zero, List.set_cons_succ]
      refine At.read 13 (some 59) (fun w' => Blk w' (X + 1) 30 (cxCells s.2)) (v := (.agg (cxCells s.2))) rfl rfl (by kernel_rfl) (fun _ _ _ h => h) rfl hy7 (fun w' hw' => ?y13s0) ?_   
      case y13s0 => exact exec_load_row 30 _ rfl (X + 1) rfl 30 (cxCells s.2) (0, 0) _ hw' Try.underlying30 rfl (by rw [cx_size _ hsl]; exact ctx_info)
      try simp only [Act.put, List.setIfInBounds_toArray, List.set_cons_zero, List.set_cons_succ]
      refine At.read 14 (some 60) (fun _ => True) (v := (.bool true)) rfl rfl (by kernel_rfl) (fun _ _ _ h => h) rfl trivial (fun w' hw' => ?y14s0) ?_   
      case y14s0 => have eq := EQ.out w'; go_simp; try with_reducible rfl
      try simp only [Act.put, List.setIfInBounds_toArray, List.set_cons_zero, List.set_cons_succ]
      refine At.pure 15 (some 61) (v := ?v15s0) rfl rfl (by kernel_rfl) (fun _ _ _ h => h) rfl (fun w' => ?y15s0) ?_   
      case y15s0 => go_simp; try with_reducible rfl
      try simp only [Act.put, List.setIfInBounds_toArray, List.set_cons_zero, List.set_cons_succ]
      refine At.pure 16 (some 6) (v := ?v16s0) rfl rfl (by kernel_rfl) (fun _ _ _ h => h) rfl (fun w' => ?y16s0) ?_   
      case y16s0 => go_simp; try with_reducible rfl
      try simp only [Act.put, List.setIfInBounds_toArray, List.set_cons_zero, List.set_cons_succ]
      refine At.done (by kernel_rfl) ?_
      go_wp2_with fail
      go_ret
      exact ⟨ret_bool (by simp), (HKW.out.trans hkw (fun j hj h => by omega)).below (Nat.le_refl _) (fun _ h => h.elim)⟩
    · by_cases hk0 : 0 ≤ x
      · have hk9 : ¬ x < 19 := by omega
        have hnx : x < 0 ∨ 18 < x := by omega
        clear hk
        go_enter Try.func11, Try.ntmps11
        go_wp2_with fail
        refine (known_any w).mono ?_
        rintro e w1 ⟨rfl, hk1⟩
        have HK1 := hid hk1
        clear hk1
        go_wp2_with fail
        refine (fresh_any w1).mono ?_
        rintro e w6 ⟨rfl, hkf⟩
        have HG1 := hid hkf
        clear hkf
        go_wp2_with fail
        refine (fresh_any w6).mono ?_
        rintro e w7 ⟨rfl, hkf⟩
        have HG2 := hid (HG1.out.trans hkf (fun _ _ h => h))
        clear hkf HG1
        go_wp2_with (first
          | (refine wpList_store_blk (g := w7.heap.size) (Blk.alloc (Blk.new w7 30 (cxCells zeros19)) _) rfl 30 _ _ rfl rfl (cxCells begL) rfl rfl ctx_info rfl (cx_one _) ?_; intro w8 hb8 hk8)
          | (refine wpList_store_blk (g := w7.heap.size + 1) (zs := cxCells zeros19) (t := 30) (Blk.keep (by have := Blk.new (w7.alloc (.cells (cxCells zeros19) 30)) 30 (cxCells zeros19); rw [World.size_alloc] at this; exact this) hk8 (by omega)) rfl 30 _ _ rfl rfl (cxCells begL) rfl rfl ctx_info rfl (cx_one _) ?_; intro w9 hb9 hk9))
        have HC1 := hid (Blk.keep hb8 hk9 (by omega))
        have HC2 := hid hb9
        have HG := hid (HG2.out.trans ((((Keep.refl (fun _ => False) w7).alloc _).alloc _).trans ((show Keep (fun j => w7.heap.size ≤ j) _ w8 from hk8.mono (fun _ _ h => by omega)).trans hk9 (fun j hj h => by omega)) (fun j hj h => by omega)) (fun _ _ h => h))
        clear hb8 hk8 hb9 hk9
        have hK5 : w1.heap.size ≤ w7.heap.size := HG2.out.size
        have hK2 : w7.heap.size + 1 < w9.heap.size := HC2.out.lt
        have HKW := hid (HK1.out.trans HG.out (fun _ _ h => h))
        have hw1 : w.heap.size ≤ w1.heap.size := HK1.out.size
        clear HG2
        refine (newe_any w9).mono ?_
        rintro e w10 ⟨E1, A1, n1, c1, rfl, hE1, hen1, hk10⟩
        have HE1 := hid hen1
        have HK10 := hid hk10
        clear hen1 hk10
        go_wp2_with fail
        refine (newe_any w10).mono ?_
        rintro e w11 ⟨E2, A2, n2, c2, rfl, hE2, hen2, hk11⟩
        have HT0 : Hid (TwoE w9 E1 w7.heap.size E2 (w7.heap.size + 1) (newM, begL) (newM, begL) w11) := hid (by
          have h12 := HK10.out.trans hk11 (fun _ _ h => h)
          have hlt := HE1.out.blk.lt
          have hs := HK10.out.size
          exact ⟨A1, n1, c1, A2, n2, c2, HE1.out.keep hk11 (fun h => h) (fun _ _ h => h), ⟨hen2.blk, own_mono hen2.own hs⟩,
            fun ad bd e1 e2 => by have := (own_foot_lt HE1.out.own ad e1).2; have := (own_foot_lt hen2.own bd e2).1; omega,
            Blk.keep HC1.out h12 (fun h => h), Blk.keep HC2.out h12 (fun h => h), by omega, by omega, hE1, Nat.le_trans hs hE2, h12.mono (fun _ _ h => h.elim)⟩)
        clear HE1 HK10 hen2 hk11 hE1 hE2 HC1 HC2 HG
        generalize w7.heap.size = X at *
        go_wp2_with fail
        refine (enc_none w11 E1 X x y hnx).mono ?_
        rintro e w12 ⟨rfl, hk12⟩
        have HT1 := hid (HT0.out.more (hk12.mono (fun _ _ h => h.elim)))
        clear hk12 HT0
        go_wp2_with fail
        refine (HT1.out.enc Run.new (by decide) 5 (by decide) y).mono ?_
        rintro e w13 ⟨rfl, ht13⟩
        have HT2 := hid ht13
        obtain ⟨hr1, hl1⟩ := Run.new.step (k := 5) (by decide) y
        have hl1' : (encR (newM, begL) 5 y).1.b.length ≤ 17 := hl1
        have HR1 := hid hr1
        clear ht13 HT1 hr1 hl1
        go_wp2_with fail
        refine (HT2.out.swap.enc Run.new (by decide) 5 (by decide) (y % 2)).mono ?_
        rintro e w14 ⟨rfl, ht14⟩
        have HT3 : Hid (TwoE w9 E1 X E2 (X + 1) (encR (newM, begL) 5 y) (encR (newM, begL) 5 y) w14) := hid (by
          have := ht14.swap
          rwa [show encR (newM, begL) 5 (y % 2) = encR (newM, begL) 5 y by unfold encR; rw [Int.emod_emod]] at this)
        clear ht14 HT2
        have HRA := hid (h.rd.keep (HKW.out.trans HT3.out.keep (fun j hj h => by omega)) (fun _ _ h => h))
        go_wp2_with fail
        refine (newd_any w14 A n c l HRA.out HBY.out (by omega)).mono ?_
        rintro e w15 ⟨D, A5, c5, rfl, hD, hde, hk15⟩
        have HT4 := hid (HT3.out.more (hk15.mono (fun _ _ h => h.elim)))
        clear hde hk15 HT3 HRA
        go_wp2_with fail
        refine (dec_none w15 D X x hnx).mono ?_
        rintro e w16 ⟨rfl, hk16⟩
        have HT5 := hid (HT4.out.more (hk16.mono (fun _ _ h => h.elim)))
        clear hk16 HT4
        generalize encR (newM, begL) 5 y = s at *
        have hsl := HR1.out.cx.len
        go_wp2_with fail
        have CV := hid (fun (w : World) (A : Option Addr) (n c : Nat) (zs : List Int) (h : Rd w A n (zs.map (Value.int .u8))) => (run_string_rd _ _ _ Try.underlying22 Try.underlying5 Try.underlying9 h c : (convert 22 9 (.slice A n c)).run Try.prog w = .ok (.string (strOfNums zs)) w))
        have EQ := hid (fun w => cx_eql w hsl)
        -- region 14: 17 operations
        refine At.start (L := #[false, false, false, false, false, false, false, false, false, false, false, false, false, false, false, false, false]) (by kernel_rfl) rfl ?_
        refine At.pure 0 (some 46) (v := ?v0s1) rfl rfl (by kernel_rfl) (fun _ _ _ h => h) rfl (fun w' => ?y0s1) ?_   
        case y0s1 => go_simp; try with_reducible rfl
        try simp only [Act.put, List.setIfInBounds_toArray, List.set_cons_zero, List.set_cons_succ]
        refine At.pure 1 (some 47) (v := ?v1s1) rfl rfl (by kernel_rfl) (fun _ _ _ h => h) rfl (fun w' => ?y1s1) ?_   
        case y1s1 => go_simp; try with_reducible rfl
        try simp only [Act.put, List.setIfInBounds_toArray, List.set_cons_zero, List.set_cons_succ]
        refine At.pure 2 (some 48) (v := ?v2s1) rfl rfl (by kernel_rfl) (fun _ _ _ h => h) rfl (fun w' => ?y2s1) ?_   
        case y2s1 => go_simp; try with_reducible rfl
        try simp only [Act.put, List.setIfInBounds_toArray, List.set_cons_zero, List.set_cons_succ]
        refine At.pure 3 (some 49) (v := ?v3s1) rfl rfl (by kernel_rfl) (fun _ _ _ h => h) rfl (fun w' => ?y3s1) ?_   
        case y3s1 => go_simp; try with_reducible rfl
        try simp only [Act.put, List.setIfInBounds_toArray, List.set_cons_zero, List.set_cons_succ]
        refine At.pure 6 (some 52) (v := ?v6s1) rfl rfl (by kernel_rfl) (fun _ _ _ h => h) rfl (fun w' => ?y6s1) ?_   
        case y6s1 => go_simp; try with_reducible rfl
        try simp only [Act.put, List.setIfInBounds_toArray, List.set_cons_zero, List.set_cons_succ]
        refine At.call 4 (pend' := []) rfl (by kernel_rfl) rfl (by kernel_rfl) (fun K hK => ?_)   
        go_simp
        refine (HT5.out.drew.flush HR1.out (by omega)).mono ?_
        rintro e w17 ⟨A6, n6, c6, rfl, hown6, hl6⟩
        refine hK _ _ all_nil ?_
        clear hK K
        try simp only [Act.put, List.setIfInBounds_toArray, List.set_cons_zero, List.set_cons_succ]
        refine At.read 5 (some 51) (fun w' => Rd w' A6 n6 ((flushM (flushE s.1)).map (Value.int .u8))) (v := ?v5s1) rfl rfl (by kernel_rfl) (fun _ _ _ h => h) rfl (Rd.of_own hown6) (fun w' hw' => ?y5s1) ?_   
        case y5s1 => have cv := CV.out w' A6 n6 c6 _ hw'; go_simp; try with_reducible rfl
        try simp only [Act.put, List.setIfInBounds_toArray, List.set_cons_zero, List.set_cons_succ]
        refine At.call 7 (pend' := [(5, (fun w' => Rd w' A6 n6 ((flushM (flushE s.1)).map (Value.int .u8))))]) rfl (by kernel_rfl) rfl (by kernel_rfl) (fun K hK => ?_)   
        go_simp
        refine (hl6.flush HR1.out (by omega)).mono ?_
        rintro e w18 ⟨A7, n7, c7, rfl, hown7, hx7, hy7, hk7, hkw⟩
        refine hK _ _ (all_cons (Rd.keep_own hown6 hk7 (fun _ h => h)) all_nil) ?_
        clear hK K
        try simp only [Act.put, List.setIfInBounds_toArray, List.set_cons_zero, List.set_cons_succ]
        refine At.read 8 (some 54) (fun w' => Rd w' A7 n7 ((flushM (flushE s.1)).map (Value.int .u8))) (v := ?v8s1) rfl rfl (by kernel_rfl) (fun _ _ _ h => h) rfl (Rd.of_own hown7) (fun w' hw' => ?y8s1) ?_   
        case y8s1 => have cv := CV.out w' A7 n7 c7 _ hw'; go_simp; try with_reducible rfl
        try simp only [Act.put, List.setIfInBounds_toArray, List.set_cons_zero, List.set_cons_succ]
        refine At.pure 9 (some 55) (v := ?v9s1) rfl rfl (by kernel_rfl) (fun _ _ _ h => h) rfl (fun w' => ?y9s1) ?_   
        case y9s1 => go_simp; try with_reducible rfl
        try simp only [Act.put, List.setIfInBounds_toArray, List.set_cons_zero, List.set_cons_succ]
        refine At.pure 10 (some 56) (v := ?v10s1) rfl rfl (by kernel_rfl) (fun _ _ _ h => h) rfl (fun w' => ?y10s1) ?_   
        case y10s1 => go_simp; try with_reducible rfl
        try simp only [Act.put, List.setIfInBounds_toArray, List.set_cons_zero, List.set_cons_succ]
        refine At.pure 11 (some 57) (v := ?v11s1) rfl rfl (by kernel_rfl) (fun _ _ _ h => h) rfl (fun w' => ?y11s1) ?_   
        case y11s1 => go_simp; try with_reducible rfl
        try simp only [Act.put, List.setIfInBounds_toArray, List.set_cons_zero, List.set_cons_succ]
        refine At.read 12 (some 58) (fun w' => Blk w' X 30 (cxCells s.2)) (v := (.agg (cxCells s.2))) rfl rfl (by kernel_rfl) (fun _ _ _ h => h) rfl hx7 (fun w' hw' => ?y12s1) ?_   
        case y12s1 => exact exec_load_row 30 _ rfl X rfl 30 (cxCells s.2) (0, 0) _ hw' Try.underlying30 rfl (by rw [cx_size _ hsl]; exact ctx_info)
        try simp only [Act.put, List.setIfInBounds_toArray, List.set_cons_zero, List.set_cons_succ]
        refine At.read 13 (some 59) (fun w' => Blk w' (X + 1) 30 (cxCells s.2)) (v := (.agg (cxCells s.2))) rfl rfl (by kernel_rfl) (fun _ _ _ h => h) rfl hy7 (fun w' hw' => ?y13s1) ?_   
        case y13s1 => exact exec_load_row 30 _ rfl (X + 1) rfl 30 (cxCells s.2) (0, 0) _ hw' Try.underlying30 rfl (by rw [cx_size _ hsl]; exact ctx_info)
        try simp only [Act.put, List.setIfInBounds_toArray, List.set_cons_zero, List.set_cons_succ]
        refine At.read 14 (some 60) (fun _ => True) (v := (.bool true)) rfl rfl (by kernel_rfl) (fun _ _ _ h => h) rfl trivial (fun w' hw' => ?y14s1) ?_   
        case y14s1 => have eq := EQ.out w'; go_simp; try with_reducible rfl
        try simp only [Act.put, List.setIfInBounds_toArray, List.set_cons_zero, List.set_cons_succ]
        refine At.pure 15 (some 61) (v := ?v15s1) rfl rfl (by kernel_rfl) (fun _ _ _ h => h) rfl (fun w' => ?y15s1) ?_   
        case y15s1 => go_simp; try with_reducible rfl
        try simp only [Act.put, List.setIfInBounds_toArray, List.set_cons_zero, List.set_cons_succ]
        refine At.pure 16 (some 6) (v := ?v16s1) rfl rfl (by kernel_rfl) (fun _ _ _ h => h) rfl (fun w' => ?y16s1) ?_   
        case y16s1 => go_simp; try with_reducible rfl
        try simp only [Act.put, List.setIfInBounds_toArray, List.set_cons_zero, List.set_cons_succ]
        refine At.done (by kernel_rfl) ?_
        go_wp2_with fail
        go_ret
        exact ⟨ret_bool (by simp), (HKW.out.trans hkw (fun j hj h => by omega)).below (Nat.le_refl _) (fun _ h => h.elim)⟩
      · have hnx : x < 0 ∨ 18 < x := by omega
        clear hk
        go_enter Try.func11, Try.ntmps11
        go_wp2_with fail
        refine (known_any w).mono ?_
        rintro e w1 ⟨rfl, hk1⟩
        have HK1 := hid hk1
        clear hk1
        go_wp2_with fail
        refine (fresh_any w1).mono ?_
        rintro e w6 ⟨rfl, hkf⟩
        have HG1 := hid hkf
        clear hkf
        go_wp2_with fail
        refine (fresh_any w6).mono ?_
        rintro e w7 ⟨rfl, hkf⟩
        have HG2 := hid (HG1.out.trans hkf (fun _ _ h => h))
        clear hkf HG1
        go_wp2_with (first
          | (refine wpList_store_blk (g := w7.heap.size) (Blk.alloc (Blk.new w7 30 (cxCells zeros19)) _) rfl 30 _ _ rfl rfl (cxCells begL) rfl rfl ctx_info rfl (cx_one _) ?_; intro w8 hb8 hk8)
          | (refine wpList_store_blk (g := w7.heap.size + 1) (zs := cxCells zeros19) (t := 30) (Blk.keep (by have := Blk.new (w7.alloc (.cells (cxCells zeros19) 30)) 30 (cxCells zeros19); rw [World.size_alloc] at this; exact this) hk8 (by omega)) rfl 30 _ _ rfl rfl (cxCells begL) rfl rfl ctx_info rfl (cx_one _) ?_; intro w9 hb9 hk9))
        have HC1 := hid (Blk.keep hb8 hk9 (by omega))
        have HC2 := hid hb9
        have HG := hid (HG2.out.trans ((((Keep.refl (fun _ => False) w7).alloc _).alloc _).trans ((show Keep (fun j => w7.heap.size ≤ j) _ w8 from hk8.mono (fun _ _ h => by omega)).trans hk9 (fun j hj h => by omega)) (fun j hj h => by omega)) (fun _ _ h => h))
        clear hb8 hk8 hb9 hk9
        have hK5 : w1.heap.size ≤ w7.heap.size := HG2.out.size
        have hK2 : w7.heap.size + 1 < w9.heap.size := HC2.out.lt
        have HKW := hid (HK1.out.trans HG.out (fun _ _ h => h))
        have hw1 : w.heap.size ≤ w1.heap.size := HK1.out.size
        clear HG2
        refine (newe_any w9).mono ?_
        rintro e w10 ⟨E1, A1, n1, c1, rfl, hE1, hen1, hk10⟩
        have HE1 := hid hen1
        have HK10 := hid hk10
        clear hen1 hk10
        go_wp2_with fail
        refine (newe_any w10).mono ?_
        rintro e w11 ⟨E2, A2, n2, c2, rfl, hE2, hen2, hk11⟩
        have HT0 : Hid (TwoE w9 E1 w7.heap.size E2 (w7.heap.size + 1) (newM, begL) (newM, begL) w11) := hid (by
          have h12 := HK10.out.trans hk11 (fun _ _ h => h)
          have hlt := HE1.out.blk.lt
          have hs := HK10.out.size
          exact ⟨A1, n1, c1, A2, n2, c2, HE1.out.keep hk11 (fun h => h) (fun _ _ h => h), ⟨hen2.blk, own_mono hen2.own hs⟩,
            fun ad bd e1 e2 => by have := (own_foot_lt HE1.out.own ad e1).2; have := (own_foot_lt hen2.own bd e2).1; omega,
            Blk.keep HC1.out h12 (fun h => h), Blk.keep HC2.out h12 (fun h => h), by omega, by omega, hE1, Nat.le_trans hs hE2, h12.mono (fun _ _ h => h.elim)⟩)
        clear HE1 HK10 hen2 hk11 hE1 hE2 HC1 HC2 HG
        generalize w7.heap.size = X at *
        go_wp2_with fail
        refine (enc_none w11 E1 X x y hnx).mono ?_
        rintro e w12 ⟨rfl, hk12⟩
        have HT1 := hid (HT0.out.more (hk12.mono (fun _ _ h => h.elim)))
        clear hk12 HT0
        go_wp2_with fail
        refine (HT1.out.enc Run.new (by decide) 5 (by decide) y).mono ?_
        rintro e w13 ⟨rfl, ht13⟩
        have HT2 := hid ht13
        obtain ⟨hr1, hl1⟩ := Run.new.step (k := 5) (by decide) y
        have hl1' : (encR (newM, begL) 5 y).1.b.length ≤ 17 := hl1
        have HR1 := hid hr1
        clear ht13 HT1 hr1 hl1
        go_wp2_with fail
        refine (HT2.out.swap.enc Run.new (by decide) 5 (by decide) (y % 2)).mono ?_
        rintro e w14 ⟨rfl, ht14⟩
        have HT3 : Hid (TwoE w9 E1 X E2 (X + 1) (encR (newM, begL) 5 y) (encR (newM, begL) 5 y) w14) := hid (by
          have := ht14.swap
          rwa [show encR (newM, begL) 5 (y % 2) = encR (newM, begL) 5 y by unfold encR; rw [Int.emod_emod]] at this)
        clear ht14 HT2
        have HRA := hid (h.rd.keep (HKW.out.trans HT3.out.keep (fun j hj h => by omega)) (fun _ _ h => h))
        go_wp2_with fail
        refine (newd_any w14 A n c l HRA.out HBY.out (by omega)).mono ?_
        rintro e w15 ⟨D, A5, c5, rfl, hD, hde, hk15⟩
        have HT4 := hid (HT3.out.more (hk15.mono (fun _ _ h => h.elim)))
        clear hde hk15 HT3 HRA
        go_wp2_with fail
        refine (dec_none w15 D X x hnx).mono ?_
        rintro e w16 ⟨rfl, hk16⟩
        have HT5 := hid (HT4.out.more (hk16.mono (fun _ _ h => h.elim)))
        clear hk16 HT4
        generalize encR (newM, begL) 5 y = s at *
        have hsl := HR1.out.cx.len
        go_wp2_with fail
        have CV := hid (fun (w : World) (A : Option Addr) (n c : Nat) (zs : List Int) (h : Rd w A n (zs.map (Value.int .u8))) => (run_string_rd _ _ _ Try.underlying22 Try.underlying5 Try.underlying9 h c : (convert 22 9 (.slice A n c)).run Try.prog w = .ok (.string (strOfNums zs)) w))
        have EQ := hid (fun w => cx_eql w hsl)
        -- region 14: 17 operations
        refine At.start (L := #[false, false, false, false, false, false, false, false, false, false, false, false, false, false, false, false, false]) (by kernel_rfl) rfl ?_
        refine At.pure 0 (some 46) (v := ?v0s2) rfl rfl (by kernel_rfl) (fun _ _ _ h => h) rfl (fun w' => ?y0s2) ?_   
        case y0s2 => go_simp; try with_reducible rfl
        try simp only [Act.put, List.setIfInBounds_toArray, List.set_cons_zero, List.set_cons_succ]
        refine At.pure 1 (some 47) (v := ?v1s2) rfl rfl (by kernel_rfl) (fun _ _ _ h => h) rfl (fun w' => ?y1s2) ?_   
        case y1s2 => go_simp; try with_reducible rfl
        try simp only [Act.put, List.setIfInBounds_toArray, List.set_cons_zero, List.set_cons_succ]
        refine At.pure 2 (some 48) (v := ?v2s2) rfl rfl (by kernel_rfl) (fun _ _ _ h => h) rfl (fun w' => ?y2s2) ?_   
        case y2s2 => go_simp; try with_reducible rfl
        try simp only [Act.put, List.setIfInBounds_toArray, List.set_cons_zero, List.set_cons_succ]
        refine At.pure 3 (some 49) (v := ?v3s2) rfl rfl (by kernel_rfl) (fun _ _ _ h => h) rfl (fun w' => ?y3s2) ?_   
        case y3s2 => go_simp; try with_reducible rfl
        try simp only [Act.put, List.setIfInBounds_toArray, List.set_cons_zero, List.set_cons_succ]
        refine At.pure 6 (some 52) (v := ?v6s2) rfl rfl (by kernel_rfl) (fun _ _ _ h => h) rfl (fun w' => ?y6s2) ?_   
        case y6s2 => go_simp; try with_reducible rfl
        try simp only [Act.put, List.setIfInBounds_toArray, List.set_cons_zero, List.set_cons_succ]
        refine At.call 4 (pend' := []) rfl (by kernel_rfl) rfl (by kernel_rfl) (fun K hK => ?_)   
        go_simp
        refine (HT5.out.drew.flush HR1.out (by omega)).mono ?_
        rintro e w17 ⟨A6, n6, c6, rfl, hown6, hl6⟩
        refine hK _ _ all_nil ?_
        clear hK K
        try simp only [Act.put, List.setIfInBounds_toArray, List.set_cons_zero, List.set_cons_succ]
        refine At.read 5 (some 51) (fun w' => Rd w' A6 n6 ((flushM (flushE s.1)).map (Value.int .u8))) (v := ?v5s2) rfl rfl (by kernel_rfl) (fun _ _ _ h => h) rfl (Rd.of_own hown6) (fun w' hw' => ?y5s2) ?_   
        case y5s2 => have cv := CV.out w' A6 n6 c6 _ hw'; go_simp; try with_reducible rfl
        try simp only [Act.put, List.setIfInBounds_toArray, List.set_cons_zero, List.set_cons_succ]
        refine At.call 7 (pend' := [(5, (fun w' => Rd w' A6 n6 ((flushM (flushE s.1)).map (Value.int .u8))))]) rfl (by kernel_rfl) rfl (by kernel_rfl) (fun K hK => ?_)   
        go_simp
        refine (hl6.flush HR1.out (by omega)).mono ?_
        rintro e w18 ⟨A7, n7, c7, rfl, hown7, hx7, hy7, hk7, hkw⟩
        refine hK _ _ (all_cons (Rd.keep_own hown6 hk7 (fun _ h => h)) all_nil) ?_
        clear hK K
        try simp only [Act.put, List.setIfInBounds_toArray, List.set_cons_zero, List.set_cons_succ]
        refine At.read 8 (some 54) (fun w' => Rd w' A7 n7 ((flushM (flushE s.1)).map (Value.int .u8))) (v := ?v8s2) rfl rfl (by kernel_rfl) (fun _ _ _ h => h) rfl (Rd.of_own hown7) (fun w' hw' => ?y8s2) ?_   
        case y8s2 => have cv := CV.out w' A7 n7 c7 _ hw'; go_simp; try with_reducible rfl
        try simp only [Act.put, List.setIfInBounds_toArray, List.set_cons_zero, List.set_cons_succ]
        refine At.pure 9 (some 55) (v := ?v9s2) rfl rfl (by kernel_rfl) (fun _ _ _ h => h) rfl (fun w' => ?y9s2) ?_   
        case y9s2 => go_simp; try with_reducible rfl
        try simp only [Act.put, List.setIfInBounds_toArray, List.set_cons_zero, List.set_cons_succ]
        refine At.pure 10 (some 56) (v := ?v10s2) rfl rfl (by kernel_rfl) (fun _ _ _ h => h) rfl (fun w' => ?y10s2) ?_   
        case y10s2 => go_simp; try with_reducible rfl
        try simp only [Act.put, List.setIfInBounds_toArray, List.set_cons_zero, List.set_cons_succ]
        refine At.pure 11 (some 57) (v := ?v11s2) rfl rfl (by kernel_rfl) (fun _ _ _ h => h) rfl (fun w' => ?y11s2) ?_   
        case y11s2 => go_simp; try with_reducible rfl
        try simp only [Act.put, List.setIfInBounds_toArray, List.set_cons_zero, List.set_cons_succ]
        refine At.read 12 (some 58) (fun w' => Blk w' X 30 (cxCells s.2)) (v := (.agg (cxCells s.2))) rfl rfl (by kernel_rfl) (fun _ _ _ h => h) rfl hx7 (fun w' hw' => ?y12s2) ?_   
        case y12s2 => exact exec_load_row 30 _ rfl X rfl 30 (cxCells s.2) (0, 0) _ hw' Try.underlying30 rfl (by rw [cx_size _ hsl]; exact ctx_info)
        try simp only [Act.put, List.setIfInBounds_toArray, List.set_cons_zero, List.set_cons_succ]
        refine At.read 13 (some 59) (fun w' => Blk w' (X + 1) 30 (cxCells s.2)) (v := (.agg (cxCells s.2))) rfl rfl (by kernel_rfl) (fun _ _ _ h => h) rfl hy7 (fun w' hw' => ?y13s2) ?_   
        case y13s2 => exact exec_load_row 30 _ rfl (X + 1) rfl 30 (cxCells s.2) (0, 0) _ hw' Try.underlying30 rfl (by rw [cx_size _ hsl]; exact ctx_info)
        try simp only [Act.put, List.setIfInBounds_toArray, List.set_cons_zero, List.set_cons_succ]
        refine At.read 14 (some 60) (fun _ => True) (v := (.bool true)) rfl rfl (by kernel_rfl) (fun _ _ _ h => h) rfl trivial (fun w' hw' => ?y14s2) ?_   
        case y14s2 => have eq := EQ.out w'; go_simp; try with_reducible rfl
        try simp only [Act.put, List.setIfInBounds_toArray, List.set_cons_zero, List.set_cons_succ]
        refine At.pure 15 (some 61) (v := ?v15s2) rfl rfl (by kernel_rfl) (fun _ _ _ h => h) rfl (fun w' => ?y15s2) ?_   
        case y15s2 => go_simp; try with_reducible rfl
        try simp only [Act.put, List.setIfInBounds_toArray, List.set_cons_zero, List.set_cons_succ]
        refine At.pure 16 (some 6) (v := ?v16s2) rfl rfl (by kernel_rfl) (fun _ _ _ h => h) rfl (fun w' => ?y16s2) ?_   
        case y16s2 => go_simp; try with_reducible rfl
        try simp only [Act.put, List.setIfInBounds_toArray, List.set_cons_zero, List.set_cons_succ]
        refine At.done (by kernel_rfl) ?_
        go_wp2_with fail
        go_ret
        exact ⟨ret_bool (by simp), (HKW.out.trans hkw (fun j hj h => by omega)).below (Nat.le_refl _) (fun _ h => h.elim)⟩
  · go_enter Try.func11, Try.ntmps11
    go_wp2_with fail
    refine (known_any w).mono ?_
    rintro e w1 ⟨rfl, hk1⟩
    have HK1 := hid hk1
    clear hk1
    go_wp2_with fail
    go_ret
    exact ⟨rfl, HK1.out.below (Nat.le_refl _) (fun _ h => h.elim)⟩
end Go.Proofs.Ytcieeoobobafmaa
