/-
  MqEncodes: the walk. Conditions: none.
-/
import Derived.Test.YtcieeoobobafmaaMqMix
namespace Go.Proofs.Ytcieeoobobafmaa
open Go.RowKit

set_option maxRecDepth 20000 in
set_option maxHeartbeats 8000000 in
theorem mqEncodes_walk (A : Option Addr) (n c : Nat) (zs : List Int) (y : Int) (w : World) (h : Arg .i64 8 w A n c zs) (hy : (Lit.int .i64 y).wf = true) :
    Calls Try.prog 9 #[.slice A n c, .int .i64 y] w fun e w' => e = .returned (.bool true) ∧ Below w.heap.size w w' := by
  go_enter Try.func9, Try.ntmps9
  go_wp2_with fail
  refine (known_any w).mono ?_
  rintro e w1 ⟨rfl, hk1⟩
  have HK1 := hid hk1
  clear hk1
  go_wp2_with fail
  refine (lists_rd w1 A n c zs (h.rd.keep HK1.out (fun _ _ h => h)) h.ints).mono ?_
  rintro e w2 ⟨A1, c1, A2, c2, m, rfl, hm, hr1, hr2, hk2⟩
  have HK2 := hid (HK1.out.trans hk2 (fun _ _ h => h))
  have HL1 := hid hr1
  have HL2 := hid hr2
  clear hk2 hr1 hr2
  go_wp2_with fail
  refine (fresh_any w2).mono ?_
  rintro e w6 ⟨rfl, hkf⟩
  have HG1 := hid hkf
  clear hkf
  go_wp2_with fail
  refine (rfresh_any w6).mono ?_
  rintro e w7 ⟨rfl, hkf⟩
  have HG2 := hid (HG1.out.trans hkf (fun _ _ h => h))
  clear hkf HG1
  go_wp2_with (first
    | (refine wpList_store_blk (g := w7.heap.size) (Blk.alloc (Blk.new w7 30 (cxCells zeros19)) _) rfl 30 _ _ rfl rfl (cxCells begL) rfl rfl ctx_info rfl (cx_one _) ?_; intro w8 hb8 hk8)
    | (refine wpList_store_blk (g := w7.heap.size + 1) (zs := cxCells zeros19) (t := 50) (Blk.keep (by have := Blk.new (w7.alloc (.cells (cxCells zeros19) 30)) 50 (cxCells zeros19); rw [World.size_alloc] at this; exact this) hk8 (by omega)) rfl 50 _ _ rfl rfl (cxCells begL) rfl rfl rctx_info rfl (cx_one _) ?_; intro w9 hb9 hk9))
  have HC1 := hid (Blk.keep hb8 hk9 (by omega))
  have HC2 := hid hb9
  have HG := hid (HG2.out.trans ((((Keep.refl (fun _ => False) w7).alloc _).alloc _).trans ((show Keep (fun j => w7.heap.size ≤ j) _ w8 from hk8.mono (fun _ _ h => by omega)).trans hk9 (fun j hj h => by omega)) (fun j hj h => by omega)) (fun _ _ h => h))
  clear hb8 hk8 hb9 hk9
  have hK2 : w2.heap.size ≤ w7.heap.size := HG2.out.size
  have hK4 : w7.heap.size + 1 < w9.heap.size := HC2.out.lt
  have hK0 : w.heap.size ≤ w2.heap.size := HK2.out.size
  have HKW := hid (HK2.out.trans HG.out (fun _ _ h => h))
  clear HG2 hy
  generalize w7.heap.size = X at *
  refine (newe_any w9).mono ?_
  rintro e w10 ⟨E, A3, n3, c3, rfl, hE, hen, hk10⟩
  have HEN := hid hen
  have HK10 := hid hk10
  clear hen hk10
  go_wp2_with fail
  refine (rnewe_any w10).mono ?_
  rintro e w11 ⟨F, A4, n4, c4, rfl, hF, her, hk11⟩
  have HM0 : Hid (Mix w9 E X F (X + 1) (newM, begL) (newM, begL) w11) := hid (by
    have h12 := HK10.out.trans hk11 (fun _ _ h => h)
    have hs := HK10.out.size
    exact ⟨A3, n3, c3, A4, n4, c4, HEN.out.keep hk11 (fun h => h) (fun _ _ h => h), ⟨her.blk, own_mono her.own hs⟩,
      fun ad bd e1 e2 => by have := (own_foot_lt HEN.out.own ad e1).2; have := (own_foot_lt her.own bd e2).1; omega,
      Blk.keep HC1.out h12 (fun h => h), Blk.keep HC2.out h12 (fun h => h), hE, Nat.le_trans hs hF, h12.mono (fun _ _ h => h.elim)⟩)
  clear HEN HK10 her hk11 hE hF HC1 HC2
  go_wp2_with fail
  go_loopw [11] (fun v wr => ∃ (i : Nat) (s : ES × List (Nat × Nat)), i ≤ m ∧ v = .int .i64 i ∧ Hid (Mix w9 E X F (X + 1) s s wr) ∧ Hid (Run s) ∧ s.1.b.length ≤ 1 + 16 * i) (fun v _ => m - (intOf v).toNat)
  case atStart => exact ⟨0, _, by omega, rfl, HM0, hid Run.new, Nat.le_refl 1⟩
  case round =>
    obtain ⟨i, s, hi, rfl, HM, HRS, hlen⟩ := hrel
    clear HM0
    by_cases him : i < m
    · obtain ⟨b1, o1, rfl, hy1⟩ := HL1.out.int_ix him
      have hb1 := HL1.out.lt (by omega) _ rfl
      obtain ⟨b2, o2, rfl, hy2⟩ := HL2.out.int_ix him
      have hb2 := HL2.out.lt (by omega) _ rfl
      simp only at hb1 hb2
      have z1 := HM.out.keep.cell (HG.out.cell hy1 (fun h => h)) (fun h : b1 = X ∨ b1 = X + 1 => by omega)
      have z2 := HM.out.keep.cell (HG.out.cell hy2 (fun h => h)) (fun h : b2 = X ∨ b2 = X + 1 => by omega)
      obtain ⟨hk0, hk19⟩ := kL_at zs i
      clear hy1 hy2
      generalize (kL zs).getD i 0 = kk at *
      generalize (bL zs).getD i 0 = bit at *
      go_wp2_with fail
      -- region 9: 10 operations
      refine At.start (L := #[false, false, false, false, false, false, false, false, false, false]) (by kernel_rfl) rfl ?_
      refine At.pure 0 (some 31) (v := ?v0) rfl rfl (by kernel_rfl) (fun _ _ _ h => h) rfl (fun w' => ?y0) ?_   
      case y0 => go_simp; try with_reducible rfl
      try simp only [Act.put, List.setIfInBounds_toArray, List.set_cons_zero, List.set_cons_succ]
      refine At.pure 1 (some 32) (v := ?v1) rfl rfl (by kernel_rfl) (fun _ _ _ h => h) rfl (fun w' => ?y1) ?_   
      case y1 => go_simp; try with_reducible rfl
      try simp only [Act.put, List.setIfInBounds_toArray, List.set_cons_zero, List.set_cons_succ]
      refine At.pure 2 (some 33) (v := ?v2) rfl rfl (by kernel_rfl) (fun _ _ _ h => h) rfl (fun w' => ?y2) ?_   
      case y2 => go_simp; try with_reducible rfl
      try simp only [Act.put, List.setIfInBounds_toArray, List.set_cons_zero, List.set_cons_succ]
      refine At.read 3 (some 34) (fun w' => w'.cell? ⟨b1, o1 + i, none⟩ = some (.int .i64 kk)) (v := ?v3) rfl rfl (by kernel_rfl) (fun _ _ _ h => h) rfl z1 (fun w' hw' => ?y3) ?_   
      case y3 => skip; go_simp; try with_reducible rfl
      try simp only [Act.put, List.setIfInBounds_toArray, List.set_cons_zero, List.set_cons_succ]
      refine At.pure 4 (some 35) (v := ?v4) rfl rfl (by kernel_rfl) (fun _ _ _ h => h) rfl (fun w' => ?y4) ?_   
      case y4 => go_simp; try with_reducible rfl
      try simp only [Act.put, List.setIfInBounds_toArray, List.set_cons_zero, List.set_cons_succ]
      refine At.pure 5 (some 36) (v := ?v5) rfl rfl (by kernel_rfl) (fun _ _ _ h => h) rfl (fun w' => ?y5) ?_   
      case y5 => go_simp; try with_reducible rfl
      try simp only [Act.put, List.setIfInBounds_toArray, List.set_cons_zero, List.set_cons_succ]
      refine At.pure 6 (some 37) (v := ?v6) rfl rfl (by kernel_rfl) (fun _ _ _ h => h) rfl (fun w' => ?y6) ?_   
      case y6 => go_simp; try with_reducible rfl
      try simp only [Act.put, List.setIfInBounds_toArray, List.set_cons_zero, List.set_cons_succ]
      refine At.read 7 (some 38) (fun w' => w'.cell? ⟨b2, o2 + i, none⟩ = some (.int .i64 bit)) (v := ?v7) rfl rfl (by kernel_rfl) (fun _ _ _ h => h) rfl z2 (fun w' hw' => ?y7) ?_   
      case y7 => skip; go_simp; try with_reducible rfl
      try simp only [Act.put, List.setIfInBounds_toArray, List.set_cons_zero, List.set_cons_succ]
      refine At.pure 8 (some 12) (v := ?v8) rfl rfl (by kernel_rfl) (fun _ _ _ h => h) rfl (fun w' => ?y8) ?_   
      case y8 => go_simp; try with_reducible rfl
      try simp only [Act.put, List.setIfInBounds_toArray, List.set_cons_zero, List.set_cons_succ]
      refine At.pure 9 (some 13) (v := ?v9) rfl rfl (by kernel_rfl) (fun _ _ _ h => h) rfl (fun w' => ?y9) ?_   
      case y9 => go_simp; try with_reducible rfl
      try simp only [Act.put, List.setIfInBounds_toArray, List.set_cons_zero, List.set_cons_succ]
      refine At.done (by kernel_rfl) ?_
      obtain ⟨k, rfl⟩ : ∃ k : Nat, kk = k := ⟨_, (Int.toNat_of_nonneg hk0).symm⟩
      rw [Int.toNat_natCast] at hk19
      have HM1 := hid HM.out.drew
      clear HM z1 z2 hk0
      by_cases h49 : ((i : Int) % 50 == 49) = true
      · by_cases hin : 0 ≤ y ∧ y < 19
        · obtain ⟨k', rfl⟩ : ∃ k' : Nat, y = k' := ⟨y.toNat, by omega⟩
          have hk' : k' < 19 := by omega
          go_wp2_with fail
          obtain ⟨hrn, hln⟩ := HRS.out.step hk' bit
          refine (HM1.out.enc HRS.out (by omega) k' hk' bit).mono ?_
          rintro e w12 ⟨rfl, hm12⟩
          have HM2 := hid hm12
          clear hm12 HM1
          go_wp2_with fail
          refine (HM2.out.renc HRS.out (by omega) k' hk' bit).mono ?_
          rintro e w13 ⟨rfl, hm13⟩
          obtain ⟨s', HM, HRS, hlen⟩ : ∃ s' : ES × List (Nat × Nat), Hid (Mix w9 E X F (X + 1) s' s' w13) ∧ Hid (Run s') ∧ s'.1.b.length ≤ 1 + 16 * (i + 1) := ⟨_, hid hm13, hid hrn, by omega⟩
          clear hm13 HM2 hrn hln
          have hsl := HRS.out.cx.len
          have hinf : (Try.prog.info? 30).map (·.size) = some (cxCells s'.2).size := by rw [cx_size _ hsl]; exact ctx_info
          have hrinf : (Try.prog.info? 50).map (·.size) = some (cxCells s'.2).size := by rw [cx_size _ hsl]; exact rctx_info
          go_wp2_with fail
          refine (HM.out.out HRS.out (by omega)).mono ?_
          rintro e w14 ⟨rfl, rfl⟩
          go_wp2_with fail
          refine (HM.out.rout HRS.out (by omega)).mono ?_
          rintro e w14 ⟨rfl, rfl⟩
          obtain ⟨hx, hy⟩ := HM.out.ctx
          go_wp2_with (first
            | refine wpList_load_row_g rfl 30 _ rfl X rfl 30 (cxCells s'.2) (0, 0) _ hx Try.underlying30 rfl hinf ?_
            | refine wpList_load_row_g rfl 50 _ rfl (X + 1) rfl 50 (cxCells s'.2) (0, 0) _ hy Try.underlying50 rfl hrinf ?_)
          refine (csame_any w13 s'.2 hsl).mono ?_
          rintro e w15 ⟨rfl, hk15⟩
          have HM5 := hid (HM.out.more (hk15.mono (fun _ _ h => h.elim)))
          clear hk15 hx hy HM hinf hrinf
          go_wp2_with fail
          exact ⟨⟨i + 1, s', by omega, by go_num, HM5, HRS, hlen⟩, by simp [intOf]; omega⟩
        · have hno : y < 0 ∨ 18 < y := by omega
          go_wp2_with fail
          refine (enc_none _ E X y bit hno).mono ?_
          rintro e w12 ⟨rfl, hk12⟩
          have HM2 := hid (HM1.out.more (hk12.mono (fun _ _ h => h.elim)))
          clear hk12 HM1
          go_wp2_with fail
          refine (renc_none w12 F (X + 1) y bit hno).mono ?_
          rintro e w13 ⟨rfl, hw13⟩
          obtain ⟨s', HM, HRS, hlen⟩ : ∃ s' : ES × List (Nat × Nat), Hid (Mix w9 E X F (X + 1) s' s' w13) ∧ Hid (Run s') ∧ s'.1.b.length ≤ 1 + 16 * (i + 1) := ⟨s, by rw [← hw13]; exact HM2, HRS, by omega⟩
          clear HM2 hw13
          have hsl := HRS.out.cx.len
          have hinf : (Try.prog.info? 30).map (·.size) = some (cxCells s'.2).size := by rw [cx_size _ hsl]; exact ctx_info
          have hrinf : (Try.prog.info? 50).map (·.size) = some (cxCells s'.2).size := by rw [cx_size _ hsl]; exact rctx_info
          go_wp2_with fail
          refine (HM.out.out HRS.out (by omega)).mono ?_
          rintro e w14 ⟨rfl, rfl⟩
          go_wp2_with fail
          refine (HM.out.rout HRS.out (by omega)).mono ?_
          rintro e w14 ⟨rfl, rfl⟩
          obtain ⟨hx, hy⟩ := HM.out.ctx
          go_wp2_with (first
            | refine wpList_load_row_g rfl 30 _ rfl X rfl 30 (cxCells s'.2) (0, 0) _ hx Try.underlying30 rfl hinf ?_
            | refine wpList_load_row_g rfl 50 _ rfl (X + 1) rfl 50 (cxCells s'.2) (0, 0) _ hy Try.underlying50 rfl hrinf ?_)
          refine (csame_any w13 s'.2 hsl).mono ?_
          rintro e w15 ⟨rfl, hk15⟩
          have HM5 := hid (HM.out.more (hk15.mono (fun _ _ h => h.elim)))
          clear hk15 hx hy HM hinf hrinf
          go_wp2_with fail
          exact ⟨⟨i + 1, s', by omega, by go_num, HM5, HRS, hlen⟩, by simp [intOf]; omega⟩
      · have h49' : ((i : Int) % 50 == 49) = false := by simpa using h49
        go_wp2_with fail
        obtain ⟨hrn, hln⟩ := HRS.out.step hk19 bit
        refine (HM1.out.enc HRS.out (by omega) k hk19 bit).mono ?_
        rintro e w12 ⟨rfl, hm12⟩
        have HM2 := hid hm12
        clear hm12 HM1
        go_wp2_with fail
        refine (HM2.out.renc HRS.out (by omega) k hk19 bit).mono ?_
        rintro e w13 ⟨rfl, hm13⟩
        obtain ⟨s', HM, HRS, hlen⟩ : ∃ s' : ES × List (Nat × Nat), Hid (Mix w9 E X F (X + 1) s' s' w13) ∧ Hid (Run s') ∧ s'.1.b.length ≤ 1 + 16 * (i + 1) := ⟨_, hid hm13, hid hrn, by omega⟩
        clear hm13 HM2 hrn hln
        have hsl := HRS.out.cx.len
        have hinf : (Try.prog.info? 30).map (·.size) = some (cxCells s'.2).size := by rw [cx_size _ hsl]; exact ctx_info
        have hrinf : (Try.prog.info? 50).map (·.size) = some (cxCells s'.2).size := by rw [cx_size _ hsl]; exact rctx_info
        go_wp2_with fail
        refine (HM.out.out HRS.out (by omega)).mono ?_
        rintro e w14 ⟨rfl, rfl⟩
        go_wp2_with fail
        refine (HM.out.rout HRS.out (by omega)).mono ?_
        rintro e w14 ⟨rfl, rfl⟩
        obtain ⟨hx, hy⟩ := HM.out.ctx
        go_wp2_with (first
          | refine wpList_load_row_g rfl 30 _ rfl X rfl 30 (cxCells s'.2) (0, 0) _ hx Try.underlying30 rfl hinf ?_
          | refine wpList_load_row_g rfl 50 _ rfl (X + 1) rfl 50 (cxCells s'.2) (0, 0) _ hy Try.underlying50 rfl hrinf ?_)
        refine (csame_any w13 s'.2 hsl).mono ?_
        rintro e w15 ⟨rfl, hk15⟩
        have HM5 := hid (HM.out.more (hk15.mono (fun _ _ h => h.elim)))
        clear hk15 hx hy HM hinf hrinf
        go_wp2_with fail
        exact ⟨⟨i + 1, s', by omega, by go_num, HM5, HRS, hlen⟩, by simp [intOf]; omega⟩
    · obtain rfl : m = i := by omega
      go_wp2_with fail
      have CV := hid (fun (w : World) (A : Option Addr) (n c : Nat) (zs : List Int) (h : Rd w A n (zs.map (Value.int .u8))) => (run_string_rd _ _ _ Try.underlying22 Try.underlying5 Try.underlying9 h c : (convert 22 9 (.slice A n c)).run Try.prog w = .ok (.string (strOfNums zs)) w))
      -- region 16: 8 operations
      refine At.start (L := #[false, false, false, false, false, false, false, false]) (by kernel_rfl) rfl ?_
      refine At.pure 0 (some 62) (v := ?v0z) rfl rfl (by kernel_rfl) (fun _ _ _ h => h) rfl (fun w' => ?y0z) ?_   
      case y0z => go_simp; try with_reducible rfl
      try simp only [Act.put, List.setIfInBounds_toArray, List.set_cons_zero, List.set_cons_succ]
      refine At.pure 3 (some 65) (v := ?v3z) rfl rfl (by kernel_rfl) (fun _ _ _ h => h) rfl (fun w' => ?y3z) ?_   
      case y3z => go_simp; try with_reducible rfl
      try simp only [Act.put, List.setIfInBounds_toArray, List.set_cons_zero, List.set_cons_succ]
      refine At.call 1 (pend' := []) rfl (by kernel_rfl) rfl (by kernel_rfl) (fun K hK => ?_)   
      go_simp
      refine (HM.out.drew.flush HRS.out HRS.out (by omega) (by omega)).mono ?_
      rintro e w6 ⟨A6, n6, c6, rfl, hr6, hcall⟩
      refine hK _ _ all_nil ?_
      clear hK K
      try simp only [Act.put, List.setIfInBounds_toArray, List.set_cons_zero, List.set_cons_succ]
      refine At.read 2 (some 64) (fun w' => Rd w' A6 n6 ((flushM (flushE s.1)).map (Value.int .u8))) (v := ?v2z) rfl rfl (by kernel_rfl) (fun _ _ _ h => h) rfl hr6 (fun w' hw' => ?y2z) ?_   
      case y2z => have cv := CV.out w' A6 n6 c6 _ hw'; go_simp; try with_reducible rfl
      try simp only [Act.put, List.setIfInBounds_toArray, List.set_cons_zero, List.set_cons_succ]
      refine At.call 4 (pend' := [(2, (fun w' => Rd w' A6 n6 ((flushM (flushE s.1)).map (Value.int .u8))))]) rfl (by kernel_rfl) rfl (by kernel_rfl) (fun K hK => ?_)   
      go_simp
      refine hcall.mono ?_
      rintro e w7' ⟨B7, m7, d7, rfl, hr7, hr67, hk7⟩
      refine hK _ _ (all_cons hr67 all_nil) ?_
      clear hK K
      try simp only [Act.put, List.setIfInBounds_toArray, List.set_cons_zero, List.set_cons_succ]
      refine At.read 5 (some 67) (fun w' => Rd w' B7 m7 ((flushM (flushE s.1)).map (Value.int .u8))) (v := ?v5z) rfl rfl (by kernel_rfl) (fun _ _ _ h => h) rfl hr7 (fun w' hw' => ?y5z) ?_   
      case y5z => have cv := CV.out w' B7 m7 d7 _ hw'; go_simp; try with_reducible rfl
      try simp only [Act.put, List.setIfInBounds_toArray, List.set_cons_zero, List.set_cons_succ]
      refine At.pure 6 (some 68) (v := ?v6z) rfl rfl (by kernel_rfl) (fun _ _ _ h => h) rfl (fun w' => ?y6z) ?_   
      case y6z => go_simp; try with_reducible rfl
      try simp only [Act.put, List.setIfInBounds_toArray, List.set_cons_zero, List.set_cons_succ]
      refine At.pure 7 (some 4) (v := ?v7z) rfl rfl (by kernel_rfl) (fun _ _ _ h => h) rfl (fun w' => ?y7z) ?_   
      case y7z => go_simp; try with_reducible rfl
      try simp only [Act.put, List.setIfInBounds_toArray, List.set_cons_zero, List.set_cons_succ]
      refine At.done (by kernel_rfl) ?_
      go_wp2_with fail
      go_ret
      exact ⟨ret_bool (by simp), (HKW.out.trans hk7 (fun j hj h => by omega)).below (Nat.le_refl _) (fun _ h => h.elim)⟩
end Go.Proofs.Ytcieeoobobafmaa
