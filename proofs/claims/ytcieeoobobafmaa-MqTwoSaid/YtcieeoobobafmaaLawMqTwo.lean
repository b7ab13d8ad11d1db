/-
  MqTwo: the walk. Conditions: none.
-/
import Derived.Test.YtcieeoobobafmaaMqFour
namespace Go.Proofs.Ytcieeoobobafmaa
open Go.RowKit

theorem upd_run {st : Nat → ES × List (Nat × Nat)} (h : ∀ j, Run (st j)) {i : Nat} {s : ES × List (Nat × Nat)} (hs : Run s) : ∀ j, Run (upd st i s j) := fun j => by
  unfold upd
  split
  · exact hs
  · exact h j
theorem upd_len {st : Nat → ES × List (Nat × Nat)} {N M : Nat} (h : ∀ j, (st j).1.b.length ≤ N) {i : Nat} {s : ES × List (Nat × Nat)} (hs : s.1.b.length ≤ M) (hNM : N ≤ M) : ∀ j, (upd st i s j).1.b.length ≤ M := fun j => by
  unfold upd
  split
  · exact hs
  · exact Nat.le_trans (h j) hNM
/-- Both coders of a pair have taken the same bit. -/
theorem pair_step {st : Nat → ES × List (Nat × Nat)} {N : Nat} (he : st 0 = st 1 ∧ st 2 = st 3) (hr : ∀ j, Run (st j)) (hl : ∀ j, (st j).1.b.length ≤ N) {I J : Nat} (hIJ : I = 0 ∧ J = 1 ∨ I = 2 ∧ J = 3) {k : Nat} (hk : k < 19) (bit : Int) :
    let st2 := upd (upd st I (encR (st I) k bit)) J (encR (upd st I (encR (st I) k bit) J) k bit)
    (st2 0 = st2 1 ∧ st2 2 = st2 3) ∧ (∀ j, Run (st2 j)) ∧ (∀ j, (st2 j).1.b.length ≤ N + 16) := by
  have hne : J ≠ I := by omega
  have e1 : upd st I (encR (st I) k bit) J = st J := upd_other _ _ hne
  obtain ⟨r1, l1⟩ := (hr I).step hk bit
  obtain ⟨r2, l2⟩ := (hr J).step hk bit
  have hlI := hl I
  have hlJ := hl J
  simp only [e1]
  refine ⟨?_, upd_run (upd_run hr r1) r2, upd_len (upd_len (M := N + 16) hl (by omega) (by omega)) (by omega) (Nat.le_refl _)⟩
  rcases hIJ with ⟨rfl, rfl⟩ | ⟨rfl, rfl⟩
  · exact ⟨by simp [upd, he.1], by simp [upd, he.2]⟩
  · exact ⟨by simp [upd, he.1], by simp [upd, he.2]⟩
/-- What is known of the coders' names. -/
structure Names (p r : Nat → Bool) : Prop where
  p0 : p 0 = true
  p1 : p 1 = true
  p2 : p 2 = true
  p3 : p 3 = true
  r0 : r 0 = false
  r1 : r 1 = true
  r2 : r 2 = false
  r3 : r 3 = true
set_option maxRecDepth 20000 in
set_option maxHeartbeats 8000000 in
theorem mqTwo_walk (A : Option Addr) (n c : Nat) (zs : List Int) (B : Option Addr) (n' c' : Nat) (ys : List Int) (w : World) (h : Arg .i64 8 w A n c zs) (h' : Arg .i64 8 w B n' c' ys) :
    Calls Try.prog 8 #[.slice A n c, .slice B n' c'] w fun e w' => e = .returned (.bool true) ∧ Below w.heap.size w w' := by
  go_enter Try.func8, Try.ntmps8
  go_wp2_with fail
  refine (known_any w).mono ?_
  rintro e w1 ⟨rfl, hk1⟩
  have HK1 := hid hk1
  clear hk1
  go_wp2_with fail
  refine (lists_rd w1 A n c zs (h.rd.keep HK1.out (fun _ _ h => h)) h.ints).mono ?_
  rintro e w2 ⟨A1, c1, A2, c2, m, rfl, hm, hr1, hr2, hk2⟩
  have HK2 := hid (HK1.out.trans hk2 (fun _ _ h => h))
  have HL1 := hid hr1
  have HL2 := hid hr2
  clear hk2 hr1 hr2
  go_wp2_with fail
  refine (lists_rd w2 B n' c' ys (h'.rd.keep HK2.out (fun _ _ h => h)) h'.ints).mono ?_
  rintro e w3 ⟨A3, c3, A4, c4, m2, rfl, hm2, hr1, hr2, hk2⟩
  have HK3 := hid (HK2.out.trans hk2 (fun _ _ h => h))
  have HJ1 := hid hr1
  have HJ2 := hid hr2
  have HL1 := hid (HL1.out.keep hk2 (fun _ _ h => h))
  have HL2 := hid (HL2.out.keep hk2 (fun _ _ h => h))
  clear hk2 hr1 hr2 h h'
  go_wp2_with fail
  refine (fresh_any w3).mono ?_
  rintro e w6 ⟨rfl, hkf⟩
  have HG1 := hid hkf
  clear hkf
  go_wp2_with fail
  refine (fresh_any w6).mono ?_
  rintro e w7 ⟨rfl, hkf⟩
  have HG2 := hid (HG1.out.trans hkf (fun _ _ h => h))
  clear hkf HG1
  go_wp2_with (first
    | (refine wpList_store_blk (g := w7.heap.size) (Blk.alloc (Blk.new w7 30 (cxCells zeros19)) _) rfl 30 _ _ rfl rfl (cxCells begL) rfl rfl ctx_info rfl (cx_one _) ?_; intro w8 hb8 hk8)
    | (refine wpList_store_blk (g := w7.heap.size + 1) (zs := cxCells zeros19) (t := 30) (Blk.keep (by have := Blk.new (w7.alloc (.cells (cxCells zeros19) 30)) 30 (cxCells zeros19); rw [World.size_alloc] at this; exact this) hk8 (by omega)) rfl 30 _ _ rfl rfl (cxCells begL) rfl rfl ctx_info rfl (cx_one _) ?_; intro w9 hb9 hk9))
  have HC1 := hid (Blk.keep hb8 hk9 (by omega))
  have HC2 := hid hb9
  have HG := hid (HG2.out.trans ((((Keep.refl (fun _ => False) w7).alloc _).alloc _).trans ((show Keep (fun j => w7.heap.size ≤ j) _ w8 from hk8.mono (fun _ _ h => by omega)).trans hk9 (fun j hj h => by omega)) (fun j hj h => by omega)) (fun _ _ h => h))
  clear hb8 hk8 hb9 hk9
  have hX1 : w3.heap.size ≤ w7.heap.size := HG2.out.size
  have hX2 : w7.heap.size + 1 < w9.heap.size := HC2.out.lt
  clear HG2
  go_wp2_with fail
  refine (rfresh_any w9).mono ?_
  rintro e u6 ⟨rfl, hkf⟩
  have HG1 := hid hkf
  clear hkf
  go_wp2_with fail
  refine (rfresh_any u6).mono ?_
  rintro e u7 ⟨rfl, hkf⟩
  have HU2 := hid (HG1.out.trans hkf (fun _ _ h => h))
  clear hkf HG1
  go_wp2_with (first
    | (refine wpList_store_blk (g := u7.heap.size) (Blk.alloc (Blk.new u7 50 (cxCells zeros19)) _) rfl 50 _ _ rfl rfl (cxCells begL) rfl rfl rctx_info rfl (cx_one _) ?_; intro u8 hb8 hk8)
    | (refine wpList_store_blk (g := u7.heap.size + 1) (zs := cxCells zeros19) (t := 50) (Blk.keep (by have := Blk.new (u7.alloc (.cells (cxCells zeros19) 50)) 50 (cxCells zeros19); rw [World.size_alloc] at this; exact this) hk8 (by omega)) rfl 50 _ _ rfl rfl (cxCells begL) rfl rfl rctx_info rfl (cx_one _) ?_; intro u9 hb9 hk9))
  have HD1 := hid (Blk.keep hb8 hk9 (by omega))
  have HD2 := hid hb9
  have HU := hid (HU2.out.trans ((((Keep.refl (fun _ => False) u7).alloc _).alloc _).trans ((show Keep (fun j => u7.heap.size ≤ j) _ u8 from hk8.mono (fun _ _ h => by omega)).trans hk9 (fun j hj h => by omega)) (fun j hj h => by omega)) (fun _ _ h => h))
  clear hb8 hk8 hb9 hk9
  have hY1 : w9.heap.size ≤ u7.heap.size := HU2.out.size
  have hY2 : u7.heap.size + 1 < u9.heap.size := HD2.out.lt
  have HC1 := hid (Blk.keep HC1.out HU.out (fun h => h))
  have HC2 := hid (Blk.keep HC2.out HU.out (fun h => h))
  have HB0 := hid (show Begun u9 (fun _ => false) (fun _ => false) (fun _ => 0) (fun _ => u9.heap.size) (fun _ => none) (fun _ => (newM, begL)) w3 u9 from ⟨(Many.none w3 _ _ _ _ _).more (HG.out.trans HU.out (fun _ _ h => h)), fun j h => (by cases h), Nat.le_refl _⟩)
  clear HG HU HU2
  generalize w7.heap.size = X at *
  generalize u7.heap.size = Y at *
  generalize hX' : X + 1 = X' at *
  generalize hY' : Y + 1 = Y' at *
  refine (newe_any u9).mono ?_
  rintro e w10 ⟨E0, A10, n10, c10, rfl, hE, hen, hk10⟩
  have HB1 := hid (HB0.out.add0 (i := 0) rfl HC1.out hX1 (by omega) (fun j => by show u9.heap.size ≠ X; omega) hE hen hk10)
  have HC2 := hid (Blk.keep HC2.out hk10 (fun h => h))
  have HD1 := hid (Blk.keep HD1.out hk10 (fun h => h))
  have HD2 := hid (Blk.keep HD2.out hk10 (fun h => h))
  clear HB0 HC1 hE hen hk10
  go_wp2_with fail
  refine (newe_any w10).mono ?_
  rintro e w11 ⟨E2, A11, n11, c11, rfl, hE, hen, hk10⟩
  have HB2 := hid (HB1.out.add0 (i := 2) rfl HC2.out (by omega) (by omega) (fun j => by simp only [upd]; (repeat' split) <;> omega) hE hen hk10)
  have HD1 := hid (Blk.keep HD1.out hk10 (fun h => h))
  have HD2 := hid (Blk.keep HD2.out hk10 (fun h => h))
  clear HB1 HC2 hE hen hk10
  go_wp2_with fail
  refine (rnewe_any w11).mono ?_
  rintro e w12 ⟨E1, A12, n12, c12, rfl, hE, hen, hk10⟩
  have HB3 := hid (HB2.out.add1 (i := 1) rfl HD1.out (by omega) (by omega) (fun j => by simp only [upd]; (repeat' split) <;> omega) hE hen hk10)
  have HD2 := hid (Blk.keep HD2.out hk10 (fun h => h))
  clear HB2 HD1 hE hen hk10
  go_wp2_with fail
  refine (rnewe_any w12).mono ?_
  rintro e w13 ⟨E3, A13, n13, c13, rfl, hE, hen, hk10⟩
  have HB4 := hid (HB3.out.add1 (i := 3) rfl HD2.out (by omega) (by omega) (fun j => by simp only [upd]; (repeat' split) <;> omega) hE hen hk10)
  clear HB3 HD2 hE hen hk10
  obtain ⟨p, r, E, K, A, st, HM0, HP, hst, e0, e1, e2, e3, k0, k1, k2, k3⟩ : ∃ (p r : Nat → Bool) (E K : Nat → Nat) (A : Nat → Option Addr) (st : Nat → ES × List (Nat × Nat)), Hid (Many p r E K A st w3 w13) ∧ Hid (Names p r) ∧ (∀ j, st j = (newM, begL)) ∧ E 0 = E0 ∧ E 1 = E1 ∧ E 2 = E2 ∧ E 3 = E3 ∧ K 0 = X ∧ K 1 = Y ∧ K 2 = X' ∧ K 3 = Y' :=
    ⟨_, _, _, _, _, _, hid HB4.out.1, hid ⟨rfl, rfl, rfl, rfl, rfl, rfl, rfl, rfl⟩, (fun j => by simp only [upd]; (repeat' split) <;> rfl), rfl, rfl, rfl, rfl, rfl, rfl, rfl, rfl⟩
  subst e0 e1 e2 e3
  clear HB4 hX1 hX2 hY1 hY2 hX' hY'
  subst k0 k1 k2 k3
  have HEQ0 : Hid (st 0 = st 1 ∧ st 2 = st 3) := hid ⟨by rw [hst, hst], by rw [hst, hst]⟩
  have HRU0 : Hid (∀ j, Run (st j)) := hid (fun j => by rw [hst]; exact Run.new)
  have HLN0 : Hid (∀ j, (st j).1.b.length ≤ 1 + 32 * 0) := hid (fun j => by rw [hst]; exact Nat.le_refl 1)
  clear hst
  go_wp2_with fail
  go_loopw [17] (fun v wr => ∃ (i : Nat) (A : Nat → Option Addr) (st : Nat → ES × List (Nat × Nat)), i ≤ m + m2 ∧ v = .int .i64 i ∧ Hid (Many p r E K A st w3 wr) ∧ Hid (st 0 = st 1 ∧ st 2 = st 3) ∧ Hid (∀ j, Run (st j)) ∧ Hid (∀ j, (st j).1.b.length ≤ 1 + 32 * i)) (fun v _ => m + m2 - (intOf v).toNat)
  case atStart => exact ⟨0, A, st, by omega, rfl, HM0, HEQ0, HRU0, HLN0⟩
  case round =>
    clear HM0 HEQ0 HRU0 HLN0
    clear A st
    obtain ⟨i, A, st, hi, rfl, HM, HEQ, HRU, HLN⟩ := hrel
    by_cases him : i < m
    · by_cases hjm : i < m2
      · go_wp2_with fail
        obtain ⟨b1, o1, rfl, hy1⟩ := HL1.out.int_ix him
        obtain ⟨b2, o2, rfl, hy2⟩ := HL2.out.int_ix him
        have z1 := HM.out.kp.cell hy1 (fun h => h)
        have z2 := HM.out.kp.cell hy2 (fun h => h)
        obtain ⟨hk0, hk19⟩ := kL_at zs i
        obtain ⟨k, hk⟩ : ∃ k : Nat, (kL zs).getD i 0 = k := ⟨_, (Int.toNat_of_nonneg hk0).symm⟩
        rw [hk, Int.toNat_natCast] at hk19
        rw [hk] at hy1 z1
        have HY1 := hid hy1
        have HY2 := hid hy2
        clear hk0 hk hy1 hy2
        generalize (bL zs).getD i 0 = bit at *
        have HPS := hid (pair_step HEQ.out HRU.out HLN.out (I := 0) (J := 1) (by decide) hk19 bit)
        have hlI := HLN.out 0
        have hlJ := HLN.out 1
        -- region 13: 10 operations
        refine At.start (L := #[false, false, false, false, false, false, false, false, false, false]) (by kernel_rfl) rfl ?_
        refine At.pure 0 (some 54) (v := ?v0aa) rfl rfl (by kernel_rfl) (fun _ _ _ h => h) rfl (fun w' => ?y0aa) ?_   
        case y0aa => go_simp; try with_reducible rfl
        try simp only [Act.put, List.setIfInBounds_toArray, List.set_cons_zero, List.set_cons_succ]
        refine At.pure 1 (some 55) (v := ?v1aa) rfl rfl (by kernel_rfl) (fun _ _ _ h => h) rfl (fun w' => ?y1aa) ?_   
        case y1aa => go_simp; try with_reducible rfl
        try simp only [Act.put, List.setIfInBounds_toArray, List.set_cons_zero, List.set_cons_succ]
        refine At.pure 2 (some 56) (v := ?v2aa) rfl rfl (by kernel_rfl) (fun _ _ _ h => h) rfl (fun w' => ?y2aa) ?_   
        case y2aa => go_simp; try with_reducible rfl
        try simp only [Act.put, List.setIfInBounds_toArray, List.set_cons_zero, List.set_cons_succ]
        refine At.pure 3 (some 57) (v := ?v3aa) rfl rfl (by kernel_rfl) (fun _ _ _ h => h) rfl (fun w' => ?y3aa) ?_   
        case y3aa => go_simp; try with_reducible rfl
        try simp only [Act.put, List.setIfInBounds_toArray, List.set_cons_zero, List.set_cons_succ]
        refine At.read 4 (some 58) (fun w' => w'.cell? ⟨b1, o1 + i, none⟩ = some (.int .i64 k)) (v := ?v4aa) rfl rfl (by kernel_rfl) (fun _ _ _ h => h) rfl z1 (fun w' hw' => ?y4aa) ?_   
        case y4aa => skip; go_simp; try with_reducible rfl
        try simp only [Act.put, List.setIfInBounds_toArray, List.set_cons_zero, List.set_cons_succ]
        refine At.pure 5 (some 59) (v := ?v5aa) rfl rfl (by kernel_rfl) (fun _ _ _ h => h) rfl (fun w' => ?y5aa) ?_   
        case y5aa => go_simp; try with_reducible rfl
        try simp only [Act.put, List.setIfInBounds_toArray, List.set_cons_zero, List.set_cons_succ]
        refine At.pure 6 (some 60) (v := ?v6aa) rfl rfl (by kernel_rfl) (fun _ _ _ h => h) rfl (fun w' => ?y6aa) ?_   
        case y6aa => go_simp; try with_reducible rfl
        try simp only [Act.put, List.setIfInBounds_toArray, List.set_cons_zero, List.set_cons_succ]
        refine At.pure 7 (some 61) (v := ?v7aa) rfl rfl (by kernel_rfl) (fun _ _ _ h => h) rfl (fun w' => ?y7aa) ?_   
        case y7aa => go_simp; try with_reducible rfl
        try simp only [Act.put, List.setIfInBounds_toArray, List.set_cons_zero, List.set_cons_succ]
        refine At.read 8 (some 62) (fun w' => w'.cell? ⟨b2, o2 + i, none⟩ = some (.int .i64 bit)) (v := ?v8aa) rfl rfl (by kernel_rfl) (fun _ _ _ h => h) rfl z2 (fun w' hw' => ?y8aa) ?_   
        case y8aa => skip; go_simp; try with_reducible rfl
        try simp only [Act.put, List.setIfInBounds_toArray, List.set_cons_zero, List.set_cons_succ]
        refine At.call 9 (pend' := []) rfl (by kernel_rfl) rfl (by kernel_rfl) (fun K hK => ?_)   
        go_simp
        refine (HM.out.drew.enc0 0 HP.out.p0 HP.out.r0 (HRU.out 0) (by omega) k hk19 bit).mono ?_
        rintro e wa ⟨rfl, Aa, hma⟩
        have HMa := hid hma
        have z1 := hma.kp.cell HY1.out (fun h => h)
        have z2 := hma.kp.cell HY2.out (fun h => h)
        clear hma
        refine hK _ _ all_nil ?_
        clear hK K
        try simp only [Act.put, List.setIfInBounds_toArray, List.set_cons_zero, List.set_cons_succ]
        refine At.done (by kernel_rfl) ?_
        go_wp2_with fail
        -- region 14: 10 operations
        refine At.start (L := #[false, false, false, false, false, false, false, false, false, false]) (by kernel_rfl) rfl ?_
        refine At.pure 0 (some 64) (v := ?v0ab) rfl rfl (by kernel_rfl) (fun _ _ _ h => h) rfl (fun w' => ?y0ab) ?_   
        case y0ab => go_simp; try with_reducible rfl
        try simp only [Act.put, List.setIfInBounds_toArray, List.set_cons_zero, List.set_cons_succ]
        refine At.pure 1 (some 65) (v := ?v1ab) rfl rfl (by kernel_rfl) (fun _ _ _ h => h) rfl (fun w' => ?y1ab) ?_   
        case y1ab => go_simp; try with_reducible rfl
        try simp only [Act.put, List.setIfInBounds_toArray, List.set_cons_zero, List.set_cons_succ]
        refine At.pure 2 (some 66) (v := ?v2ab) rfl rfl (by kernel_rfl) (fun _ _ _ h => h) rfl (fun w' => ?y2ab) ?_   
        case y2ab => go_simp; try with_reducible rfl
        try simp only [Act.put, List.setIfInBounds_toArray, List.set_cons_zero, List.set_cons_succ]
        refine At.pure 3 (some 67) (v := ?v3ab) rfl rfl (by kernel_rfl) (fun _ _ _ h => h) rfl (fun w' => ?y3ab) ?_   
        case y3ab => go_simp; try with_reducible rfl
        try simp only [Act.put, List.setIfInBounds_toArray, List.set_cons_zero, List.set_cons_succ]
        refine At.read 4 (some 68) (fun w' => w'.cell? ⟨b1, o1 + i, none⟩ = some (.int .i64 k)) (v := ?v4ab) rfl rfl (by kernel_rfl) (fun _ _ _ h => h) rfl z1 (fun w' hw' => ?y4ab) ?_   
        case y4ab => skip; go_simp; try with_reducible rfl
        try simp only [Act.put, List.setIfInBounds_toArray, List.set_cons_zero, List.set_cons_succ]
        refine At.pure 5 (some 69) (v := ?v5ab) rfl rfl (by kernel_rfl) (fun _ _ _ h => h) rfl (fun w' => ?y5ab) ?_   
        case y5ab => go_simp; try with_reducible rfl
        try simp only [Act.put, List.setIfInBounds_toArray, List.set_cons_zero, List.set_cons_succ]
        refine At.pure 6 (some 70) (v := ?v6ab) rfl rfl (by kernel_rfl) (fun _ _ _ h => h) rfl (fun w' => ?y6ab) ?_   
        case y6ab => go_simp; try with_reducible rfl
        try simp only [Act.put, List.setIfInBounds_toArray, List.set_cons_zero, List.set_cons_succ]
        refine At.pure 7 (some 71) (v := ?v7ab) rfl rfl (by kernel_rfl) (fun _ _ _ h => h) rfl (fun w' => ?y7ab) ?_   
        case y7ab => go_simp; try with_reducible rfl
        try simp only [Act.put, List.setIfInBounds_toArray, List.set_cons_zero, List.set_cons_succ]
        refine At.read 8 (some 72) (fun w' => w'.cell? ⟨b2, o2 + i, none⟩ = some (.int .i64 bit)) (v := ?v8ab) rfl rfl (by kernel_rfl) (fun _ _ _ h => h) rfl z2 (fun w' hw' => ?y8ab) ?_   
        case y8ab => skip; go_simp; try with_reducible rfl
        try simp only [Act.put, List.setIfInBounds_toArray, List.set_cons_zero, List.set_cons_succ]
        refine At.call 9 (pend' := []) rfl (by kernel_rfl) rfl (by kernel_rfl) (fun K hK => ?_)   
        go_simp
        refine (HMa.out.drew.enc1 1 HP.out.p1 HP.out.r1 (by rw [upd_other _ _ (by decide)]; exact HRU.out 1) (by rw [upd_other _ _ (by decide)]; omega) k hk19 bit).mono ?_
        rintro e wb ⟨rfl, Ab, hmb⟩
        have HMb := hid hmb
        clear hmb HMa HY1 HY2 HM
        refine hK _ _ all_nil ?_
        clear hK K
        try simp only [Act.put, List.setIfInBounds_toArray, List.set_cons_zero, List.set_cons_succ]
        refine At.done (by kernel_rfl) ?_
        obtain ⟨A, st, HM, HEQ, HRU, HLN⟩ : ∃ (A : Nat → Option Addr) (st : Nat → ES × List (Nat × Nat)), Hid (Many p r E K A st w3 wb) ∧ Hid (st 0 = st 1 ∧ st 2 = st 3) ∧ Hid (∀ j, Run (st j)) ∧ Hid (∀ j, (st j).1.b.length ≤ (1 + 32 * i + 16)) := ⟨Ab, _, HMb, hid HPS.out.1, hid HPS.out.2.1, hid (fun j => Nat.le_trans (HPS.out.2.2 j) (by omega))⟩
        clear HPS HMb hlI hlJ
        go_wp2_with fail
        obtain ⟨b1, o1, rfl, hy1⟩ := HJ1.out.int_ix hjm
        obtain ⟨b2, o2, rfl, hy2⟩ := HJ2.out.int_ix hjm
        have z1 := HM.out.kp.cell hy1 (fun h => h)
        have z2 := HM.out.kp.cell hy2 (fun h => h)
        obtain ⟨hk0, hk19⟩ := kL_at ys i
        obtain ⟨k, hk⟩ : ∃ k : Nat, (kL ys).getD i 0 = k := ⟨_, (Int.toNat_of_nonneg hk0).symm⟩
        rw [hk, Int.toNat_natCast] at hk19
        rw [hk] at hy1 z1
        have HY1 := hid hy1
        have HY2 := hid hy2
        clear hk0 hk hy1 hy2
        generalize (bL ys).getD i 0 = bit at *
        have HPS := hid (pair_step HEQ.out HRU.out HLN.out (I := 2) (J := 3) (by decide) hk19 bit)
        have hlI := HLN.out 2
        have hlJ := HLN.out 3
        -- region 16: 10 operations
        refine At.start (L := #[false, false, false, false, false, false, false, false, false, false]) (by kernel_rfl) rfl ?_
        refine At.pure 0 (some 78) (v := ?v0ba) rfl rfl (by kernel_rfl) (fun _ _ _ h => h) rfl (fun w' => ?y0ba) ?_   
        case y0ba => go_simp; try with_reducible rfl
        try simp only [Act.put, List.setIfInBounds_toArray, List.set_cons_zero, List.set_cons_succ]
        refine At.pure 1 (some 79) (v := ?v1ba) rfl rfl (by kernel_rfl) (fun _ _ _ h => h) rfl (fun w' => ?y1ba) ?_   
        case y1ba => go_simp; try with_reducible rfl
        try simp only [Act.put, List.setIfInBounds_toArray, List.set_cons_zero, List.set_cons_succ]
        refine At.pure 2 (some 80) (v := ?v2ba) rfl rfl (by kernel_rfl) (fun _ _ _ h => h) rfl (fun w' => ?y2ba) ?_   
        case y2ba => go_simp; try with_reducible rfl
        try simp only [Act.put, List.setIfInBounds_toArray, List.set_cons_zero, List.set_cons_succ]
        refine At.pure 3 (some 81) (v := ?v3ba) rfl rfl (by kernel_rfl) (fun _ _ _ h => h) rfl (fun w' => ?y3ba) ?_   
        case y3ba => go_simp; try with_reducible rfl
        try simp only [Act.put, List.setIfInBounds_toArray, List.set_cons_zero, List.set_cons_succ]
        refine At.read 4 (some 82) (fun w' => w'.cell? ⟨b1, o1 + i, none⟩ = some (.int .i64 k)) (v := ?v4ba) rfl rfl (by kernel_rfl) (fun _ _ _ h => h) rfl z1 (fun w' hw' => ?y4ba) ?_   
        case y4ba => skip; go_simp; try with_reducible rfl
        try simp only [Act.put, List.setIfInBounds_toArray, List.set_cons_zero, List.set_cons_succ]
        refine At.pure 5 (some 83) (v := ?v5ba) rfl rfl (by kernel_rfl) (fun _ _ _ h => h) rfl (fun w' => ?y5ba) ?_   
        case y5ba => go_simp; try with_reducible rfl
        try simp only [Act.put, List.setIfInBounds_toArray, List.set_cons_zero, List.set_cons_succ]
        refine At.pure 6 (some 84) (v := ?v6ba) rfl rfl (by kernel_rfl) (fun _ _ _ h => h) rfl (fun w' => ?y6ba) ?_   
        case y6ba => go_simp; try with_reducible rfl
        try simp only [Act.put, List.setIfInBounds_toArray, List.set_cons_zero, List.set_cons_succ]
        refine At.pure 7 (some 85) (v := ?v7ba) rfl rfl (by kernel_rfl) (fun _ _ _ h => h) rfl (fun w' => ?y7ba) ?_   
        case y7ba => go_simp; try with_reducible rfl
        try simp only [Act.put, List.setIfInBounds_toArray, List.set_cons_zero, List.set_cons_succ]
        refine At.read 8 (some 86) (fun w' => w'.cell? ⟨b2, o2 + i, none⟩ = some (.int .i64 bit)) (v := ?v8ba) rfl rfl (by kernel_rfl) (fun _ _ _ h => h) rfl z2 (fun w' hw' => ?y8ba) ?_   
        case y8ba => skip; go_simp; try with_reducible rfl
        try simp only [Act.put, List.setIfInBounds_toArray, List.set_cons_zero, List.set_cons_succ]
        refine At.call 9 (pend' := []) rfl (by kernel_rfl) rfl (by kernel_rfl) (fun K hK => ?_)   
        go_simp
        refine (HM.out.drew.enc0 2 HP.out.p2 HP.out.r2 (HRU.out 2) (by omega) k hk19 bit).mono ?_
        rintro e wa ⟨rfl, Aa, hma⟩
        have HMa := hid hma
        have z1 := hma.kp.cell HY1.out (fun h => h)
        have z2 := hma.kp.cell HY2.out (fun h => h)
        clear hma
        refine hK _ _ all_nil ?_
        clear hK K
        try simp only [Act.put, List.setIfInBounds_toArray, List.set_cons_zero, List.set_cons_succ]
        refine At.done (by kernel_rfl) ?_
        go_wp2_with fail
        -- region 17: 10 operations
        refine At.start (L := #[false, false, false, false, false, false, false, false, false, false]) (by kernel_rfl) rfl ?_
        refine At.pure 0 (some 88) (v := ?v0bb) rfl rfl (by kernel_rfl) (fun _ _ _ h => h) rfl (fun w' => ?y0bb) ?_   
        case y0bb => go_simp; try with_reducible rfl
        try simp only [Act.put, List.setIfInBounds_toArray, List.set_cons_zero, List.set_cons_succ]
        refine At.pure 1 (some 89) (v := ?v1bb) rfl rfl (by kernel_rfl) (fun _ _ _ h => h) rfl (fun w' => ?y1bb) ?_   
        case y1bb => go_simp; try with_reducible rfl
        try simp only [Act.put, List.setIfInBounds_toArray, List.set_cons_zero, List.set_cons_succ]
        refine At.pure 2 (some 90) (v := ?v2bb) rfl rfl (by kernel_rfl) (fun _ _ _ h => h) rfl (fun w' => ?y2bb) ?_   
        case y2bb => go_simp; try with_reducible rfl
        try simp only [Act.put, List.setIfInBounds_toArray, List.set_cons_zero, List.set_cons_succ]
        refine At.pure 3 (some 91) (v := ?v3bb) rfl rfl (by kernel_rfl) (fun _ _ _ h => h) rfl (fun w' => ?y3bb) ?_   
        case y3bb => go_simp; try with_reducible rfl
        try simp only [Act.put, List.setIfInBounds_toArray, List.set_cons_zero, List.set_cons_succ]
        refine At.read 4 (some 92) (fun w' => w'.cell? ⟨b1, o1 + i, none⟩ = some (.int .i64 k)) (v := ?v4bb) rfl rfl (by kernel_rfl) (fun _ _ _ h => h) rfl z1 (fun w' hw' => ?y4bb) ?_   
        case y4bb => skip; go_simp; try with_reducible rfl
        try simp only [Act.put, List.setIfInBounds_toArray, List.set_cons_zero, List.set_cons_succ]
        refine At.pure 5 (some 93) (v := ?v5bb) rfl rfl (by kernel_rfl) (fun _ _ _ h => h) rfl (fun w' => ?y5bb) ?_   
        case y5bb => go_simp; try with_reducible rfl
        try simp only [Act.put, List.setIfInBounds_toArray, List.set_cons_zero, List.set_cons_succ]
        refine At.pure 6 (some 94) (v := ?v6bb) rfl rfl (by kernel_rfl) (fun _ _ _ h => h) rfl (fun w' => ?y6bb) ?_   
        case y6bb => go_simp; try with_reducible rfl
        try simp only [Act.put, List.setIfInBounds_toArray, List.set_cons_zero, List.set_cons_succ]
        refine At.pure 7 (some 95) (v := ?v7bb) rfl rfl (by kernel_rfl) (fun _ _ _ h => h) rfl (fun w' => ?y7bb) ?_   
        case y7bb => go_simp; try with_reducible rfl
        try simp only [Act.put, List.setIfInBounds_toArray, List.set_cons_zero, List.set_cons_succ]
        refine At.read 8 (some 96) (fun w' => w'.cell? ⟨b2, o2 + i, none⟩ = some (.int .i64 bit)) (v := ?v8bb) rfl rfl (by kernel_rfl) (fun _ _ _ h => h) rfl z2 (fun w' hw' => ?y8bb) ?_   
        case y8bb => skip; go_simp; try with_reducible rfl
        try simp only [Act.put, List.setIfInBounds_toArray, List.set_cons_zero, List.set_cons_succ]
        refine At.call 9 (pend' := []) rfl (by kernel_rfl) rfl (by kernel_rfl) (fun K hK => ?_)   
        go_simp
        refine (HMa.out.drew.enc1 3 HP.out.p3 HP.out.r3 (by rw [upd_other _ _ (by decide)]; exact HRU.out 3) (by rw [upd_other _ _ (by decide)]; omega) k hk19 bit).mono ?_
        rintro e wb ⟨rfl, Ab, hmb⟩
        have HMb := hid hmb
        clear hmb HMa HY1 HY2 HM
        refine hK _ _ all_nil ?_
        clear hK K
        try simp only [Act.put, List.setIfInBounds_toArray, List.set_cons_zero, List.set_cons_succ]
        refine At.done (by kernel_rfl) ?_
        obtain ⟨A, st, HM, HEQ, HRU, HLN⟩ : ∃ (A : Nat → Option Addr) (st : Nat → ES × List (Nat × Nat)), Hid (Many p r E K A st w3 wb) ∧ Hid (st 0 = st 1 ∧ st 2 = st 3) ∧ Hid (∀ j, Run (st j)) ∧ Hid (∀ j, (st j).1.b.length ≤ (1 + 32 * (i + 1))) := ⟨Ab, _, HMb, hid HPS.out.1, hid HPS.out.2.1, hid (fun j => Nat.le_trans (HPS.out.2.2 j) (by omega))⟩
        clear HPS HMb hlI hlJ
        go_wp2_with fail
        exact ⟨⟨i + 1, A, st, by omega, by go_num, HM, HEQ, HRU, HLN⟩, by simp [intOf]; omega⟩
      · go_wp2_with fail
        obtain ⟨b1, o1, rfl, hy1⟩ := HL1.out.int_ix him
        obtain ⟨b2, o2, rfl, hy2⟩ := HL2.out.int_ix him
        have z1 := HM.out.kp.cell hy1 (fun h => h)
        have z2 := HM.out.kp.cell hy2 (fun h => h)
        obtain ⟨hk0, hk19⟩ := kL_at zs i
        obtain ⟨k, hk⟩ : ∃ k : Nat, (kL zs).getD i 0 = k := ⟨_, (Int.toNat_of_nonneg hk0).symm⟩
        rw [hk, Int.toNat_natCast] at hk19
        rw [hk] at hy1 z1
        have HY1 := hid hy1
        have HY2 := hid hy2
        clear hk0 hk hy1 hy2
        generalize (bL zs).getD i 0 = bit at *
        have HPS := hid (pair_step HEQ.out HRU.out HLN.out (I := 0) (J := 1) (by decide) hk19 bit)
        have hlI := HLN.out 0
        have hlJ := HLN.out 1
        -- region 13: 10 operations
        refine At.start (L := #[false, false, false, false, false, false, false, false, false, false]) (by kernel_rfl) rfl ?_
        refine At.pure 0 (some 54) (v := ?v0ca) rfl rfl (by kernel_rfl) (fun _ _ _ h => h) rfl (fun w' => ?y0ca) ?_   
        case y0ca => go_simp; try with_reducible rfl
        try simp only [Act.put, List.setIfInBounds_toArray, List.set_cons_zero, List.set_cons_succ]
        refine At.pure 1 (some 55) (v := ?v1ca) rfl rfl (by kernel_rfl) (fun _ _ _ h => h) rfl (fun w' => ?y1ca) ?_   
        case y1ca => go_simp; try with_reducible rfl
        try simp only [Act.put, List.setIfInBounds_toArray, List.set_cons_zero, List.set_cons_succ]
        refine At.pure 2 (some 56) (v := ?v2ca) rfl rfl (by kernel_rfl) (fun _ _ _ h => h) rfl (fun w' => ?y2ca) ?_   
        case y2ca => go_simp; try with_reducible rfl
        try simp only [Act.put, List.setIfInBounds_toArray, List.set_cons_zero, List.set_cons_succ]
        refine At.pure 3 (some 57) (v := ?v3ca) rfl rfl (by kernel_rfl) (fun _ _ _ h => h) rfl (fun w' => ?y3ca) ?_   
        case y3ca => go_simp; try with_reducible rfl
        try simp only [Act.put, List.setIfInBounds_toArray, List.set_cons_zero, List.set_cons_succ]
        refine At.read 4 (some 58) (fun w' => w'.cell? ⟨b1, o1 + i, none⟩ = some (.int .i64 k)) (v := ?v4ca) rfl rfl (by kernel_rfl) (fun _ _ _ h => h) rfl z1 (fun w' hw' => ?y4ca) ?_   
        case y4ca => skip; go_simp; try with_reducible rfl
        try simp only [Act.put, List.setIfInBounds_toArray, List.set_cons_zero, List.set_cons_succ]
        refine At.pure 5 (some 59) (v := ?v5ca) rfl rfl (by kernel_rfl) (fun _ _ _ h => h) rfl (fun w' => ?y5ca) ?_   
        case y5ca => go_simp; try with_reducible rfl
        try simp only [Act.put, List.setIfInBounds_toArray, List.set_cons_zero, List.set_cons_succ]
        refine At.pure 6 (some 60) (v := ?v6ca) rfl rfl (by kernel_rfl) (fun _ _ _ h => h) rfl (fun w' => ?y6ca) ?_   
        case y6ca => go_simp; try with_reducible rfl
        try simp only [Act.put, List.setIfInBounds_toArray, List.set_cons_zero, List.set_cons_succ]
        refine At.pure 7 (some 61) (v := ?v7ca) rfl rfl (by kernel_rfl) (fun _ _ _ h => h) rfl (fun w' => ?y7ca) ?_   
        case y7ca => go_simp; try with_reducible rfl
        try simp only [Act.put, List.setIfInBounds_toArray, List.set_cons_zero, List.set_cons_succ]
        refine At.read 8 (some 62) (fun w' => w'.cell? ⟨b2, o2 + i, none⟩ = some (.int .i64 bit)) (v := ?v8ca) rfl rfl (by kernel_rfl) (fun _ _ _ h => h) rfl z2 (fun w' hw' => ?y8ca) ?_   
        case y8ca => skip; go_simp; try with_reducible rfl
        try simp only [Act.put, List.setIfInBounds_toArray, List.set_cons_zero, List.set_cons_succ]
        refine At.call 9 (pend' := []) rfl (by kernel_rfl) rfl (by kernel_rfl) (fun K hK => ?_)   
        go_simp
        refine (HM.out.drew.enc0 0 HP.out.p0 HP.out.r0 (HRU.out 0) (by omega) k hk19 bit).mono ?_
        rintro e wa ⟨rfl, Aa, hma⟩
        have HMa := hid hma
        have z1 := hma.kp.cell HY1.out (fun h => h)
        have z2 := hma.kp.cell HY2.out (fun h => h)
        clear hma
        refine hK _ _ all_nil ?_
        clear hK K
        try simp only [Act.put, List.setIfInBounds_toArray, List.set_cons_zero, List.set_cons_succ]
        refine At.done (by kernel_rfl) ?_
        go_wp2_with fail
        -- region 14: 10 operations
        refine At.start (L := #[false, false, false, false, false, false, false, false, false, false]) (by kernel_rfl) rfl ?_
        refine At.pure 0 (some 64) (v := ?v0cb) rfl rfl (by kernel_rfl) (fun _ _ _ h => h) rfl (fun w' => ?y0cb) ?_   
        case y0cb => go_simp; try with_reducible rfl
        try simp only [Act.put, List.setIfInBounds_toArray, List.set_cons_zero, List.set_cons_succ]
        refine At.pure 1 (some 65) (v := ?v1cb) rfl rfl (by kernel_rfl) (fun _ _ _ h => h) rfl (fun w' => ?y1cb) ?_   
        case y1cb => go_simp; try with_reducible rfl
        try simp only [Act.put, List.setIfInBounds_toArray, List.set_cons_zero, List.set_cons_succ]
        refine At.pure 2 (some 66) (v := ?v2cb) rfl rfl (by kernel_rfl) (fun _ _ _ h => h) rfl (fun w' => ?y2cb) ?_   
        case y2cb => go_simp; try with_reducible rfl
        try simp only [Act.put, List.setIfInBounds_toArray, List.set_cons_zero, List.set_cons_succ]
        refine At.pure 3 (some 67) (v := ?v3cb) rfl rfl (by kernel_rfl) (fun _ _ _ h => h) rfl (fun w' => ?y3cb) ?_   
        case y3cb => go_simp; try with_reducible rfl
        try simp only [Act.put, List.setIfInBounds_toArray, List.set_cons_zero, List.set_cons_succ]
        refine At.read 4 (some 68) (fun w' => w'.cell? ⟨b1, o1 + i, none⟩ = some (.int .i64 k)) (v := ?v4cb) rfl rfl (by kernel_rfl) (fun _ _ _ h => h) rfl z1 (fun w' hw' => ?y4cb) ?_   
        case y4cb => skip; go_simp; try with_reducible rfl
        try simp only [Act.put, List.setIfInBounds_toArray, List.set_cons_zero, List.set_cons_succ]
        refine At.pure 5 (some 69) (v := ?v5cb) rfl rfl (by kernel_rfl) (fun _ _ _ h => h) rfl (fun w' => ?y5cb) ?_   
        case y5cb => go_simp; try with_reducible rfl
        try simp only [Act.put, List.setIfInBounds_toArray, List.set_cons_zero, List.set_cons_succ]
        refine At.pure 6 (some 70) (v := ?v6cb) rfl rfl (by kernel_rfl) (fun _ _ _ h => h) rfl (fun w' => ?y6cb) ?_   
        case y6cb => go_simp; try with_reducible rfl
        try simp only [Act.put, List.setIfInBounds_toArray, List.set_cons_zero, List.set_cons_succ]
        refine At.pure 7 (some 71) (v := ?v7cb) rfl rfl (by kernel_rfl) (fun _ _ _ h => h) rfl (fun w' => ?y7cb) ?_   
        case y7cb => go_simp; try with_reducible rfl
        try simp only [Act.put, List.setIfInBounds_toArray, List.set_cons_zero, List.set_cons_succ]
        refine At.read 8 (some 72) (fun w' => w'.cell? ⟨b2, o2 + i, none⟩ = some (.int .i64 bit)) (v := ?v8cb) rfl rfl (by kernel_rfl) (fun _ _ _ h => h) rfl z2 (fun w' hw' => ?y8cb) ?_   
        case y8cb => skip; go_simp; try with_reducible rfl
        try simp only [Act.put, List.setIfInBounds_toArray, List.set_cons_zero, List.set_cons_succ]
        refine At.call 9 (pend' := []) rfl (by kernel_rfl) rfl (by kernel_rfl) (fun K hK => ?_)   
        go_simp
        refine (HMa.out.drew.enc1 1 HP.out.p1 HP.out.r1 (by rw [upd_other _ _ (by decide)]; exact HRU.out 1) (by rw [upd_other _ _ (by decide)]; omega) k hk19 bit).mono ?_
        rintro e wb ⟨rfl, Ab, hmb⟩
        have HMb := hid hmb
        clear hmb HMa HY1 HY2 HM
        refine hK _ _ all_nil ?_
        clear hK K
        try simp only [Act.put, List.setIfInBounds_toArray, List.set_cons_zero, List.set_cons_succ]
        refine At.done (by kernel_rfl) ?_
        obtain ⟨A, st, HM, HEQ, HRU, HLN⟩ : ∃ (A : Nat → Option Addr) (st : Nat → ES × List (Nat × Nat)), Hid (Many p r E K A st w3 wb) ∧ Hid (st 0 = st 1 ∧ st 2 = st 3) ∧ Hid (∀ j, Run (st j)) ∧ Hid (∀ j, (st j).1.b.length ≤ (1 + 32 * (i + 1))) := ⟨Ab, _, HMb, hid HPS.out.1, hid HPS.out.2.1, hid (fun j => Nat.le_trans (HPS.out.2.2 j) (by omega))⟩
        clear HPS HMb hlI hlJ
        go_wp2_with fail
        exact ⟨⟨i + 1, A, st, by omega, by go_num, HM, HEQ, HRU, HLN⟩, by simp [intOf]; omega⟩
    · by_cases hjm : i < m2
      · go_wp2_with fail
        obtain ⟨b1, o1, rfl, hy1⟩ := HJ1.out.int_ix hjm
        obtain ⟨b2, o2, rfl, hy2⟩ := HJ2.out.int_ix hjm
        have z1 := HM.out.kp.cell hy1 (fun h => h)
        have z2 := HM.out.kp.cell hy2 (fun h => h)
        obtain ⟨hk0, hk19⟩ := kL_at ys i
        obtain ⟨k, hk⟩ : ∃ k : Nat, (kL ys).getD i 0 = k := ⟨_, (Int.toNat_of_nonneg hk0).symm⟩
        rw [hk, Int.toNat_natCast] at hk19
        rw [hk] at hy1 z1
        have HY1 := hid hy1
        have HY2 := hid hy2
        clear hk0 hk hy1 hy2
        generalize (bL ys).getD i 0 = bit at *
        have HPS := hid (pair_step HEQ.out HRU.out HLN.out (I := 2) (J := 3) (by decide) hk19 bit)
        have hlI := HLN.out 2
        have hlJ := HLN.out 3
        -- region 16: 10 operations
        refine At.start (L := #[false, false, false, false, false, false, false, false, false, false]) (by kernel_rfl) rfl ?_
        refine At.pure 0 (some 78) (v := ?v0da) rfl rfl (by kernel_rfl) (fun _ _ _ h => h) rfl (fun w' => ?y0da) ?_   
        case y0da => go_simp; try with_reducible rfl
        try simp only [Act.put, List.setIfInBounds_toArray, List.set_cons_zero, List.set_cons_succ]
        refine At.pure 1 (some 79) (v := ?v1da) rfl rfl (by kernel_rfl) (fun _ _ _ h => h) rfl (fun w' => ?y1da) ?_   
        case y1da => go_simp; try with_reducible rfl
        try simp only [Act.put, List.setIfInBounds_toArray, List.set_cons_zero, List.set_cons_succ]
        refine At.pure 2 (some 80) (v := ?v2da) rfl rfl (by kernel_rfl) (fun _ _ _ h => h) rfl (fun w' => ?y2da) ?_   
        case y2da => go_simp; try with_reducible rfl
        try simp only [Act.put, List.setIfInBounds_toArray, List.set_cons_zero, List.set_cons_succ]
        refine At.pure 3 (some 81) (v := ?v3da) rfl rfl (by kernel_rfl) (fun _ _ _ h => h) rfl (fun w' => ?y3da) ?_   
        case y3da => go_simp; try with_reducible rfl
        try simp only [Act.put, List.setIfInBounds_toArray, List.set_cons_zero, List.set_cons_succ]
        refine At.read 4 (some 82) (fun w' => w'.cell? ⟨b1, o1 + i, none⟩ = some (.int .i64 k)) (v := ?v4da) rfl rfl (by kernel_rfl) (fun _ _ _ h => h) rfl z1 (fun w' hw' => ?y4da) ?_   
        case y4da => skip; go_simp; try with_reducible rfl
        try simp only [Act.put, List.setIfInBounds_toArray, List.set_cons_zero, List.set_cons_succ]
        refine At.pure 5 (some 83) (v := ?v5da) rfl rfl (by kernel_rfl) (fun _ _ _ h => h) rfl (fun w' => ?y5da) ?_   
        case y5da => go_simp; try with_reducible rfl
        try simp only [Act.put, List.setIfInBounds_toArray, List.set_cons_zero, List.set_cons_succ]
        refine At.pure 6 (some 84) (v := ?v6da) rfl rfl (by kernel_rfl) (fun _ _ _ h => h) rfl (fun w' => ?y6da) ?_   
        case y6da => go_simp; try with_reducible rfl
        try simp only [Act.put, List.setIfInBounds_toArray, List.set_cons_zero, List.set_cons_succ]
        refine At.pure 7 (some 85) (v := ?v7da) rfl rfl (by kernel_rfl) (fun _ _ _ h => h) rfl (fun w' => ?y7da) ?_   
        case y7da => go_simp; try with_reducible rfl
        try simp only [Act.put, List.setIfInBounds_toArray, List.set_cons_zero, List.set_cons_succ]
        refine At.read 8 (some 86) (fun w' => w'.cell? ⟨b2, o2 + i, none⟩ = some (.int .i64 bit)) (v := ?v8da) rfl rfl (by kernel_rfl) (fun _ _ _ h => h) rfl z2 (fun w' hw' => ?y8da) ?_   
        case y8da => skip; go_simp; try with_reducible rfl
        try simp only [Act.put, List.setIfInBounds_toArray, List.set_cons_zero, List.set_cons_succ]
        refine At.call 9 (pend' := []) rfl (by kernel_rfl) rfl (by kernel_rfl) (fun K hK => ?_)   
        go_simp
        refine (HM.out.drew.enc0 2 HP.out.p2 HP.out.r2 (HRU.out 2) (by omega) k hk19 bit).mono ?_
        rintro e wa ⟨rfl, Aa, hma⟩
        have HMa := hid hma
        have z1 := hma.kp.cell HY1.out (fun h => h)
        have z2 := hma.kp.cell HY2.out (fun h => h)
        clear hma
        refine hK _ _ all_nil ?_
        clear hK K
        try simp only [Act.put, List.setIfInBounds_toArray, List.set_cons_zero, List.set_cons_succ]
        refine At.done (by kernel_rfl) ?_
        go_wp2_with fail
        -- region 17: 10 operations
        refine At.start (L := #[false, false, false, false, false, false, false, false, false, false]) (by kernel_rfl) rfl ?_
        refine At.pure 0 (some 88) (v := ?v0db) rfl rfl (by kernel_rfl) (fun _ _ _ h => h) rfl (fun w' => ?y0db) ?_   
        case y0db => go_simp; try with_reducible rfl
        try simp only [Act.put, List.setIfInBounds_toArray, List.set_cons_zero, List.set_cons_succ]
        refine At.pure 1 (some 89) (v := ?v1db) rfl rfl (by kernel_rfl) (fun _ _ _ h => h) rfl (fun w' => ?y1db) ?_   
        case y1db => go_simp; try with_reducible rfl
        try simp only [Act.put, List.setIfInBounds_toArray, List.set_cons_zero, List.set_cons_succ]
        refine At.pure 2 (some 90) (v := ?v2db) rfl rfl (by kernel_rfl) (fun _ _ _ h => h) rfl (fun w' => ?y2db) ?_   
        case y2db => go_simp; try with_reducible rfl
        try simp only [Act.put, List.setIfInBounds_toArray, List.set_cons_zero, List.set_cons_succ]
        refine At.pure 3 (some 91) (v := ?v3db) rfl rfl (by kernel_rfl) (fun _ _ _ h => h) rfl (fun w' => ?y3db) ?_   
        case y3db => go_simp; try with_reducible rfl
        try simp only [Act.put, List.setIfInBounds_toArray, List.set_cons_zero, List.set_cons_succ]
        refine At.read 4 (some 92) (fun w' => w'.cell? ⟨b1, o1 + i, none⟩ = some (.int .i64 k)) (v := ?v4db) rfl rfl (by kernel_rfl) (fun _ _ _ h => h) rfl z1 (fun w' hw' => ?y4db) ?_   
        case y4db => skip; go_simp; try with_reducible rfl
        try simp only [Act.put, List.setIfInBounds_toArray, List.set_cons_zero, List.set_cons_succ]
        refine At.pure 5 (some 93) (v := ?v5db) rfl rfl (by kernel_rfl) (fun _ _ _ h => h) rfl (fun w' => ?y5db) ?_   
        case y5db => go_simp; try with_reducible rfl
        try simp only [Act.put, List.setIfInBounds_toArray, List.set_cons_zero, List.set_cons_succ]
        refine At.pure 6 (some 94) (v := ?v6db) rfl rfl (by kernel_rfl) (fun _ _ _ h => h) rfl (fun w' => ?y6db) ?_   
        case y6db => go_simp; try with_reducible rfl
        try simp only [Act.put, List.setIfInBounds_toArray, List.set_cons_zero, List.set_cons_succ]
        refine At.pure 7 (some 95) (v := ?v7db) rfl rfl (by kernel_rfl) (fun _ _ _ h => h) rfl (fun w' => ?y7db) ?_   
        case y7db => go_simp; try with_reducible rfl
        try simp only [Act.put, List.setIfInBounds_toArray, List.set_cons_zero, List.set_cons_succ]
        refine At.read 8 (some 96) (fun w' => w'.cell? ⟨b2, o2 + i, none⟩ = some (.int .i64 bit)) (v := ?v8db) rfl rfl (by kernel_rfl) (fun _ _ _ h => h) rfl z2 (fun w' hw' => ?y8db) ?_   
        case y8db => skip; go_simp; try with_reducible rfl
        try simp only [Act.put, List.setIfInBounds_toArray, List.set_cons_zero, List.set_cons_succ]
        refine At.call 9 (pend' := []) rfl (by kernel_rfl) rfl (by kernel_rfl) (fun K hK => ?_)   
        go_simp
        refine (HMa.out.drew.enc1 3 HP.out.p3 HP.out.r3 (by rw [upd_other _ _ (by decide)]; exact HRU.out 3) (by rw [upd_other _ _ (by decide)]; omega) k hk19 bit).mono ?_
        rintro e wb ⟨rfl, Ab, hmb⟩
        have HMb := hid hmb
        clear hmb HMa HY1 HY2 HM
        refine hK _ _ all_nil ?_
        clear hK K
        try simp only [Act.put, List.setIfInBounds_toArray, List.set_cons_zero, List.set_cons_succ]
        refine At.done (by kernel_rfl) ?_
        obtain ⟨A, st, HM, HEQ, HRU, HLN⟩ : ∃ (A : Nat → Option Addr) (st : Nat → ES × List (Nat × Nat)), Hid (Many p r E K A st w3 wb) ∧ Hid (st 0 = st 1 ∧ st 2 = st 3) ∧ Hid (∀ j, Run (st j)) ∧ Hid (∀ j, (st j).1.b.length ≤ (1 + 32 * (i + 1))) := ⟨Ab, _, HMb, hid HPS.out.1, hid HPS.out.2.1, hid (fun j => Nat.le_trans (HPS.out.2.2 j) (by omega))⟩
        clear HPS HMb hlI hlJ
        go_wp2_with fail
        exact ⟨⟨i + 1, A, st, by omega, by go_num, HM, HEQ, HRU, HLN⟩, by simp [intOf]; omega⟩
      · have l1 := (HM.out.cd 1 HP.out.p1).lt
        have l3 := (HM.out.cd 3 HP.out.p3).lt
        have hn0 := HLN.out 0
        have hn1 := HLN.out 1
        have hn2 := HLN.out 2
        have hn3 := HLN.out 3
        go_wp2_with fail
        have CV := hid (fun (w : World) (A : Option Addr) (n c : Nat) (zs : List Int) (h : Rd w A n (zs.map (Value.int .u8))) => (run_string_rd _ _ _ Try.underlying22 Try.underlying5 Try.underlying9 h c : (convert 22 9 (.slice A n c)).run Try.prog w = .ok (.string (strOfNums zs)) w))
        -- region 18: 17 operations
        refine At.start (L := #[false, false, false, false, false, false, false, false, false, false, false, false, false, false, false, false, false]) (by kernel_rfl) rfl ?_
        refine At.pure 0 (some 98) (v := ?v0z) rfl rfl (by kernel_rfl) (fun _ _ _ h => h) rfl (fun w' => ?y0z) ?_   
        case y0z => go_simp; try with_reducible rfl
        try simp only [Act.put, List.setIfInBounds_toArray, List.set_cons_zero, List.set_cons_succ]
        refine At.pure 3 (some 101) (v := ?v3z) rfl rfl (by kernel_rfl) (fun _ _ _ h => h) rfl (fun w' => ?y3z) ?_   
        case y3z => go_simp; try with_reducible rfl
        try simp only [Act.put, List.setIfInBounds_toArray, List.set_cons_zero, List.set_cons_succ]
        refine At.call 1 (pend' := []) rfl (by kernel_rfl) rfl (by kernel_rfl) (fun K hK => ?_)   
        go_simp
        refine (HM.out.drew.flush0 0 HP.out.p0 HP.out.r0 (HRU.out 0) (by omega)).mono ?_
        rintro e wA ⟨A6, n6, c6, rfl, hr6, new6, hmA, hkA⟩
        have sA := hkA.size
        refine hK _ _ all_nil ?_
        clear hK K
        try simp only [Act.put, List.setIfInBounds_toArray, List.set_cons_zero, List.set_cons_succ]
        refine At.read 2 (some 100) (fun w' => Rd w' A6 n6 ((flushM (flushE (st 0).1)).map (Value.int .u8))) (v := ?v2z) rfl rfl (by kernel_rfl) (fun _ _ _ h => h) rfl hr6 (fun w' hw' => ?y2z) ?_   
        case y2z => have cv := CV.out w' A6 n6 c6 _ hw'; go_simp; try with_reducible rfl
        try simp only [Act.put, List.setIfInBounds_toArray, List.set_cons_zero, List.set_cons_succ]
        refine At.call 4 (pend' := [(2, (fun w' => Rd w' A6 n6 ((flushM (flushE (st 0).1)).map (Value.int .u8))))]) rfl (by kernel_rfl) rfl (by kernel_rfl) (fun K hK => ?_)   
        go_simp
        refine (hmA.flush1 1 (by rw [upd_other _ _ (by decide)]; exact HP.out.p1) HP.out.r1 (HRU.out 1) (by omega)).mono ?_
        rintro e wB ⟨A7, n7, c7, rfl, hr7, new7, hmB, hkB⟩
        have sB := hkB.size
        rw [← HEQ.out.1] at hr7
        refine hK _ _ (all_cons (hr6.keep hkB (fun ad e hf => by have := new6 ad e; have := l1 _ hf; simp only [World.size_drew] at *; omega)) all_nil) ?_
        clear hK K
        try simp only [Act.put, List.setIfInBounds_toArray, List.set_cons_zero, List.set_cons_succ]
        refine At.read 5 (some 103) (fun w' => Rd w' A7 n7 ((flushM (flushE (st 0).1)).map (Value.int .u8))) (v := ?v5z) rfl rfl (by kernel_rfl) (fun _ _ _ h => h) rfl hr7 (fun w' hw' => ?y5z) ?_   
        case y5z => have cv := CV.out w' A7 n7 c7 _ hw'; go_simp; try with_reducible rfl
        try simp only [Act.put, List.setIfInBounds_toArray, List.set_cons_zero, List.set_cons_succ]
        refine At.pure 6 (some 104) (v := ?v6z) rfl rfl (by kernel_rfl) (fun _ _ _ h => h) rfl (fun w' => ?y6z) ?_   
        case y6z => go_simp; try with_reducible rfl
        try simp only [Act.put, List.setIfInBounds_toArray, List.set_cons_zero, List.set_cons_succ]
        refine At.pure 7 (some 105) (v := ?v7z) rfl rfl (by kernel_rfl) (fun _ _ _ h => h) rfl (fun w' => ?y7z) ?_   
        case y7z => go_simp; try with_reducible rfl
        try simp only [Act.put, List.setIfInBounds_toArray, List.set_cons_zero, List.set_cons_succ]
        refine At.pure 8 (some 106) (v := ?v8z) rfl rfl (by kernel_rfl) (fun _ _ _ h => h) rfl (fun w' => ?y8z) ?_   
        case y8z => go_simp; try with_reducible rfl
        try simp only [Act.put, List.setIfInBounds_toArray, List.set_cons_zero, List.set_cons_succ]
        refine At.pure 11 (some 109) (v := ?v11z) rfl rfl (by kernel_rfl) (fun _ _ _ h => h) rfl (fun w' => ?y11z) ?_   
        case y11z => go_simp; try with_reducible rfl
        try simp only [Act.put, List.setIfInBounds_toArray, List.set_cons_zero, List.set_cons_succ]
        refine At.call 9 (pend' := []) rfl (by kernel_rfl) rfl (by kernel_rfl) (fun K hK => ?_)   
        go_simp
        refine (hmB.flush0 2 (by rw [upd_other _ _ (by decide), upd_other _ _ (by decide)]; exact HP.out.p2) HP.out.r2 (HRU.out 2) (by omega)).mono ?_
        rintro e wC ⟨A8, n8, c8, rfl, hr8, new8, hmC, hkC⟩
        refine hK _ _ all_nil ?_
        clear hK K
        try simp only [Act.put, List.setIfInBounds_toArray, List.set_cons_zero, List.set_cons_succ]
        refine At.read 10 (some 108) (fun w' => Rd w' A8 n8 ((flushM (flushE (st 2).1)).map (Value.int .u8))) (v := ?v10z) rfl rfl (by kernel_rfl) (fun _ _ _ h => h) rfl hr8 (fun w' hw' => ?y10z) ?_   
        case y10z => have cv := CV.out w' A8 n8 c8 _ hw'; go_simp; try with_reducible rfl
        try simp only [Act.put, List.setIfInBounds_toArray, List.set_cons_zero, List.set_cons_succ]
        refine At.call 12 (pend' := [(10, (fun w' => Rd w' A8 n8 ((flushM (flushE (st 2).1)).map (Value.int .u8))))]) rfl (by kernel_rfl) rfl (by kernel_rfl) (fun K hK => ?_)   
        go_simp
        refine (hmC.flush1 3 (by rw [upd_other _ _ (by decide), upd_other _ _ (by decide), upd_other _ _ (by decide)]; exact HP.out.p3) HP.out.r3 (HRU.out 3) (by omega)).mono ?_
        rintro e wD ⟨A9, n9, c9, rfl, hr9, new9, hmD, hkD⟩
        rw [← HEQ.out.2] at hr9
        refine hK _ _ (all_cons (hr8.keep hkD (fun ad e hf => by have := new8 ad e; have := l3 _ hf; simp only [World.size_drew] at *; omega)) all_nil) ?_
        clear hK K
        try simp only [Act.put, List.setIfInBounds_toArray, List.set_cons_zero, List.set_cons_succ]
        refine At.read 13 (some 111) (fun w' => Rd w' A9 n9 ((flushM (flushE (st 2).1)).map (Value.int .u8))) (v := ?v13z) rfl rfl (by kernel_rfl) (fun _ _ _ h => h) rfl hr9 (fun w' hw' => ?y13z) ?_   
        case y13z => have cv := CV.out w' A9 n9 c9 _ hw'; go_simp; try with_reducible rfl
        try simp only [Act.put, List.setIfInBounds_toArray, List.set_cons_zero, List.set_cons_succ]
        refine At.pure 14 (some 112) (v := ?v14z) rfl rfl (by kernel_rfl) (fun _ _ _ h => h) rfl (fun w' => ?y14z) ?_   
        case y14z => go_simp; try with_reducible rfl
        try simp only [Act.put, List.setIfInBounds_toArray, List.set_cons_zero, List.set_cons_succ]
        refine At.pure 15 (some 113) (v := ?v15z) rfl rfl (by kernel_rfl) (fun _ _ _ h => h) rfl (fun w' => ?y15z) ?_   
        case y15z => go_simp; try with_reducible rfl
        try simp only [Act.put, List.setIfInBounds_toArray, List.set_cons_zero, List.set_cons_succ]
        refine At.pure 16 (some 4) (v := ?v16z) rfl rfl (by kernel_rfl) (fun _ _ _ h => h) rfl (fun w' => ?y16z) ?_   
        case y16z => go_simp; try with_reducible rfl
        try simp only [Act.put, List.setIfInBounds_toArray, List.set_cons_zero, List.set_cons_succ]
        refine At.done (by kernel_rfl) ?_
        go_wp2_with fail
        go_ret
        exact ⟨ret_bool (by simp), (HK3.out.trans hmD.kp (fun _ _ h => h)).below (Nat.le_refl _) (fun _ h => h.elim)⟩
end Go.Proofs.Ytcieeoobobafmaa
