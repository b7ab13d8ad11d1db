/-
  MqStates: the walk. Conditions: none.
-/
import Derived.Test.YtcieeoobobafmaaMqRun2
namespace Go.Proofs.Ytcieeoobobafmaa
open Go.RowKit

theorem bool_ix {w : World} {A : Option Addr} {n k : Nat} {zs : List Bool} (h : Rd w A n (zs.map Value.bool)) (hk : k < n) :
    ∃ b o, A = some ⟨b, o, none⟩ ∧ b < w.heap.size ∧ w.cell? ⟨b, o + k, none⟩ = some (.bool (zs.getD k false)) := by
  obtain ⟨ad, e, hc⟩ := h.2 (by omega)
  have hl : k < zs.length := by have := h.1; simp at this; omega
  have hck := hc k (.bool (zs.getD k false)) (by simp [hl])
  have hc0 := hc 0 (.bool (zs.getD 0 false)) (by have : 0 < zs.length := by omega
                                                 simp [this])
  have hs : ad.spot = none := World.cell?_spot hc0
  obtain ⟨b, o, s⟩ := ad
  simp only at hs
  subst hs
  rw [add_lit'] at hck
  exact ⟨b, o, e, h.lt (by omega) _ e, hck⟩
theorem Keep.far {S : Nat → Prop} {a w : World} (h : Keep S a w) : Keep (fun j => S j ∨ a.heap.size ≤ j) a w := h.mono (fun _ _ h => .inl h)
set_option maxRecDepth 20000 in
set_option maxHeartbeats 8000000 in
theorem mqStates_walk (x : Int) (mps : Bool) (A : Option Addr) (n c : Nat) (zs : List Bool) (w : World) (hx : (Lit.int .i64 x).wf = true) (h : ArgB w A n c zs) :
    Calls Try.prog 4 #[.int .i64 x, .bool mps, .slice A n c] w fun e w' => e = .returned (.bool true) ∧ Below w.heap.size w w' := by
  obtain ⟨hx0, hx1⟩ := wf_i64 hx
  have HA := hid h.rd
  have hcn : n ≤ 9223372036854775807 := by have := h.cap; have := h.reach; omega
  clear h hx
  go_enter Try.func4, Try.ntmps4
  go_wp2_with fail
  refine (known_any w).mono ?_
  rintro e w1 ⟨rfl, hk1⟩
  have HK1 := hid hk1
  clear hk1
  go_wp2_with fail
  refine (fresh_any w1).mono ?_
  rintro e w3 ⟨rfl, hkf⟩
  have HF1 := hid hkf
  clear hkf
  go_wp2_with (refine wpList_store_new rfl 30 _ _ rfl rfl (cxCells begL) rfl rfl ctx_info rfl (cx_one _) ?_; intro w4 hbf hkf)
  have HC := hid hbf
  have HF2 := hid (HF1.out.trans hkf (fun _ _ h => h))
  clear hbf hkf
  have HF1 := hid (HK1.out.trans HF1.out (fun _ _ h => h))
  have HKW := hid (HK1.out.trans HF2.out (fun _ _ h => h))
  refine (within_any w4 x 47 hx0 hx1 (by decide) (by decide)).mono ?_
  rintro e w5 ⟨rfl, rfl⟩
  obtain ⟨k, hk, hk1⟩ : ∃ k : Nat, x % 47 = k ∧ k < 47 := ⟨(x % 47).toNat, by omega, by omega⟩
  rw [hk]
  clear hk hx0 hx1
  have hK0 : w.heap.size ≤ w3.heap.size := HF1.out.size
  have hK4 : w3.heap.size < w4.heap.size := HC.out.lt
  have f14 := HC.out.frozen 14
  have f15 := HC.out.frozen 15
  have d14 : w4.cell? ⟨w3.heap.size, 14, none⟩ = some (.int .i64 0) := HC.out.cell 14
  have d15 : w4.cell? ⟨w3.heap.size, 15, none⟩ = some (.int .i64 0) := HC.out.cell 15
  clear HF1
  generalize w3.heap.size = X at *
  cases mps with
  | false =>
    have e0 : ((cxCells begL).setIfInBounds 14 (.int .i64 (k : Int))).setIfInBounds 15 (.int .i64 0) = cxCells (begL.set 7 (k, 0)) := by
      have h1 := cx_setI (l := begL) (k := 7) (by decide) k
      have h2 := cx_setM (l := begL.set 7 (k, (cxAt begL 7).2)) (k := 7) (by rw [List.length_set]; decide) 0
      rw [← h1] at h2
      exact h2
    go_wp2_with fail
    apply with_blk (w2 := w4) (E := X) (t := 30) (cs' := cxCells (begL.set 7 (k, 0)))
    · with_reducible (repeat (first | refine Keep.setR ?_ _ _ | exact Keep.refl _ _))
    · with_reducible (repeat (first | apply Blk.set_ | exact HC.out))
    · exact e0
    clear e0 f14 f15 d14 d15
    intro w5 hk5 hc5
    have HK5 := hid (HKW.out.trans hk5 (fun j hj h => by omega))
    have hs5 := hk5.size
    have HC5 := hid (show Ctx w5 X (begL.set 7 (k, 0)) from hc5)
    clear hk5 hc5 HKW HF2 HC
    refine (newe_any w5).mono ?_
    rintro e w6 ⟨E, A3, n3, c3, rfl, hEb, hen, hk6⟩
    have HR0 := hid (RunW.new2 HC5.out hen hEb hk6)
    have HN0 := hid (show Run (newM, begL.set 7 (k, 0)) from ⟨newM_inv, by show (32768 : Int) ≤ 32768; decide, by show (32768 : Int) < 65536; decide, begL_ok.set (by decide) hk1 (show 0 < 2 from by decide)⟩)
    clear hen hk6 HC5
    go_wp2_with fail
    go_loopw [9] (fun v wr => ∃ (j : Nat) (s : ES × List (Nat × Nat)), j ≤ 100 ∧ v = .int .i64 j ∧ Hid (RunW w5 E X s wr) ∧ Hid (Run s) ∧ s.1.b.length ≤ 1 + 16 * j ∧ Hid (cxAt s.2 8 = (0, 0))) (fun v _ => 100 - (intOf v).toNat)
    case atStart => exact ⟨0, _, by omega, rfl, HR0, HN0, Nat.le_refl 1, hid rfl⟩
    case round =>
      obtain ⟨j, s, hj, rfl, HR, HN, hlen, H8⟩ := hrel
      clear HR0 HN0
      by_cases hjn : j < n
      · by_cases hj1 : j < 100
        · obtain ⟨hI, hM⟩ := HR.out.cxI HN.out (k := 7) (by decide)
          have hI' : wr.cell? ⟨X, 14, none⟩ = some (.int .i64 (cxAt s.2 7).1) := hI
          have hM' : wr.cell? ⟨X, 15, none⟩ = some (.int .i64 (cxAt s.2 7).2) := hM
          have HV := hid (valM_tab _ (HN.out.cx.st 7))
          have hz : ∃ b o, A = some ⟨b, o, none⟩ ∧ b < w.heap.size ∧ w.cell? ⟨b, o + j, none⟩ = some (.bool (zs.getD j false)) := bool_ix HA.out hjn
          obtain ⟨b, o, rfl, hb, hz0⟩ := hz
          have HZ0 := hid hz0
          obtain ⟨q, mm, lp, sw, ht⟩ : ∃ q mm lp sw, tabAt (cxAt s.2 7).1 = (q, mm, lp, sw) := ⟨_, _, _, _, rfl⟩
          have hv := HV.out.trans ht
          have hsg := HN.out.cx.sg 7
          have hX : cxAt s.2 7 = ((cxAt s.2 7).1, (cxAt s.2 7).2) := rfl
          have HE : Hid (∀ bit : Int, ((bit % 2 == ((cxAt s.2 7).2 : Int)) = true → (cxAt (encR s 7 bit).2 7 = ((cxAt s.2 7).1, (cxAt s.2 7).2) ∨ cxAt (encR s 7 bit).2 7 = (mm, (cxAt s.2 7).2))) ∧
              ((bit % 2 == ((cxAt s.2 7).2 : Int)) = false → cxAt (encR s 7 bit).2 7 = (lp, if sw = true then 1 - (cxAt s.2 7).2 else (cxAt s.2 7).2))) := hid (fun bit => by
            have e : cxAt (encR s 7 bit).2 7 = encC s.1.a (cxAt s.2 7) (tabAt (cxAt s.2 7).1) (bit % 2 == ((cxAt s.2 7).2 : Int)) := cxAt_set (by rw [HN.out.cx.len]; decide) _
            rw [e, ht]
            refine ⟨fun h => ?_, fun h => ?_⟩
            · rw [h]
              unfold encC
              rw [if_pos rfl]
              split
              · exact .inl rfl
              · exact .inr rfl
            · rw [h]; rfl)
          clear hI hM hz0 hX ht
          have hiI : (cxAt s.2 7).1 < 47 := HN.out.cx.st 7
          generalize (cxAt s.2 7).1 = I at *
          generalize (cxAt s.2 7).2 = M at *
          go_wp2_with fail
          refine (rat_all _ q mm lp sw _ hv).mono ?_
          rintro e w7 ⟨rfl, hk7⟩
          have hkA : Keep (fun j => wr.heap.size ≤ j) wr w7 := (((Keep.refl (fun _ => False) wr).alloc (.cells #[.int .i64 I, .int .i64 M] 28)).trans hk7 (fun _ _ h => h)).mono (fun _ _ h => h.elim)
          have HB10 := hid (Blk.keep (Blk.new wr 28 #[.int .i64 I, .int .i64 M]) hk7 (fun h => h))
          have HR7 := hid (HR.out.more hkA)
          have hS1 := HB10.out.lt
          clear hk7 hkA hv HV
          generalize wr.heap.size = S1 at *
          have hb5 : b ≠ X := by omega
          have z7 : w7.cell? ⟨b, o + j, none⟩ = some (.bool (zs.getD j false)) := HR7.out.keep.cell (HK5.out.cell HZ0.out (fun h => h)) hb5
          have z8 : (w7.alloc (.cells #[.int .i64 q, .int .i64 mm, .int .i64 lp, .bool sw] 41)).cell? ⟨b, o + j, none⟩ = some (.bool (zs.getD j false)) := ((Keep.refl (fun _ => False) w7).alloc _).cell z7 (fun h => h)
          have HB11 := hid (Blk.new w7 41 #[.int .i64 q, .int .i64 mm, .int .i64 lp, .bool sw])
          have HB10' := hid (Blk.alloc HB10.out (.cells #[.int .i64 q, .int .i64 mm, .int .i64 lp, .bool sw] 41))
          have HR8 := hid (HR7.out.more (((Keep.refl (fun _ => False) w7).alloc (.cells #[.int .i64 q, .int .i64 mm, .int .i64 lp, .bool sw] 41)).mono (fun _ _ h => h.elim)))
          clear z7 HB10 HR7 HZ0
          by_cases hbit : zs.getD j false = true
          · rw [hbit] at z8
            go_wp2_with fail
            refine (HR8.out.enc2 HN.out (by omega) 7 (by decide) 1).mono ?_
            rintro e w9 ⟨rfl, hr9, hkeep⟩
            have b10 := hkeep S1 _ _ HB10'.out (by decide) (by decide) (by decide)
            have b11 := hkeep w7.heap.size _ _ HB11.out (by decide) (by decide) (by decide)
            obtain ⟨hrn, hln⟩ := HN.out.step (k := 7) (by decide) 1
            obtain ⟨hI9, hM9⟩ := hr9.cxI hrn (k := 7) (by decide)
            have H89 := hid (show cxAt (encR s 7 1).2 8 = (0, 0) from (cxAt_other (l := s.2) (k := 7) (j := 8) (by decide) _).trans H8.out)
            have HEc := HE.out 1
            have HN9 := hid hrn
            clear hkeep hrn HR8 HB10' HB11 HE HR HN H8 z8
            generalize w7.heap.size = S2 at *
            generalize encR s 7 1 = s9 at *
            rcases (show M = 1 ∨ M = 0 by omega) with rfl | rfl
            · rcases HEc.1 (by decide) with hcx | hcx
              · clear HEc
                have hI9' : w9.cell? ⟨X, 14, none⟩ = some (.int .i64 (I : Nat)) := by rw [hcx] at hI9; exact hI9
                have hM9' : w9.cell? ⟨X, 15, none⟩ = some (.int .i64 1) := by rw [hcx] at hM9; exact hM9
                have W10 := (Keep.refl (fun _ => False) w9).alloc (.cells #[.int .i64 (I : Nat), .int .i64 1] 28)
                have a0 := W10.cell (b10.cell 0) (fun h => h)
                have a1 := W10.cell (b10.cell 1) (fun h => h)
                have a4 := W10.cell (b11.cell 1) (fun h => h)
                have a5 := W10.cell (b11.cell 2) (fun h => h)
                have a6 := W10.cell (b11.cell 3) (fun h => h)
                have HR10 := hid (hr9.more (W10.mono (fun _ _ h => h.elim)))
                clear hI9 hM9 hcx hr9 W10 b10 b11
                go_wp2_with fail
                exact ⟨⟨j + 1, s9, by omega, by go_num, HR10, HN9, by omega, H89⟩, by simp [intOf]; omega⟩
              · clear HEc
                by_cases hmi : mm = I
                · subst hmi
                  have hI9' : w9.cell? ⟨X, 14, none⟩ = some (.int .i64 (mm : Nat)) := by rw [hcx] at hI9; exact hI9
                  have hM9' : w9.cell? ⟨X, 15, none⟩ = some (.int .i64 1) := by rw [hcx] at hM9; exact hM9
                  have W10 := (Keep.refl (fun _ => False) w9).alloc (.cells #[.int .i64 (mm : Nat), .int .i64 1] 28)
                  have a0 := W10.cell (b10.cell 0) (fun h => h)
                  have a1 := W10.cell (b10.cell 1) (fun h => h)
                  have a4 := W10.cell (b11.cell 1) (fun h => h)
                  have a5 := W10.cell (b11.cell 2) (fun h => h)
                  have a6 := W10.cell (b11.cell 3) (fun h => h)
                  have HR10 := hid (hr9.more (W10.mono (fun _ _ h => h.elim)))
                  clear hI9 hM9 hcx hr9 W10 b10 b11
                  go_wp2_with fail
                  exact ⟨⟨j + 1, s9, by omega, by go_num, HR10, HN9, by omega, H89⟩, by simp [intOf]; omega⟩
                · have hmi' : ((mm : Int) == (I : Int)) = false := by simp; omega
                  have hI9' : w9.cell? ⟨X, 14, none⟩ = some (.int .i64 (mm : Nat)) := by rw [hcx] at hI9; exact hI9
                  have hM9' : w9.cell? ⟨X, 15, none⟩ = some (.int .i64 1) := by rw [hcx] at hM9; exact hM9
                  have W10 := (Keep.refl (fun _ => False) w9).alloc (.cells #[.int .i64 (mm : Nat), .int .i64 1] 28)
                  have a0 := W10.cell (b10.cell 0) (fun h => h)
                  have a1 := W10.cell (b10.cell 1) (fun h => h)
                  have a4 := W10.cell (b11.cell 1) (fun h => h)
                  have a5 := W10.cell (b11.cell 2) (fun h => h)
                  have a6 := W10.cell (b11.cell 3) (fun h => h)
                  have HR10 := hid (hr9.more (W10.mono (fun _ _ h => h.elim)))
                  clear hI9 hM9 hcx hr9 W10 b10 b11
                  go_wp2_with fail
                  exact ⟨⟨j + 1, s9, by omega, by go_num, HR10, HN9, by omega, H89⟩, by simp [intOf]; omega⟩
            · have hcx := HEc.2 (by decide)
              clear HEc
              cases sw with
              | true =>
                have hI9' : w9.cell? ⟨X, 14, none⟩ = some (.int .i64 (lp : Nat)) := by rw [hcx] at hI9; exact hI9
                have hM9' : w9.cell? ⟨X, 15, none⟩ = some (.int .i64 1) := by rw [hcx] at hM9; exact hM9
                have W10 := (Keep.refl (fun _ => False) w9).alloc (.cells #[.int .i64 (lp : Nat), .int .i64 1] 28)
                have a0 := W10.cell (b10.cell 0) (fun h => h)
                have a1 := W10.cell (b10.cell 1) (fun h => h)
                have a4 := W10.cell (b11.cell 1) (fun h => h)
                have a5 := W10.cell (b11.cell 2) (fun h => h)
                have a6 := W10.cell (b11.cell 3) (fun h => h)
                have HR10 := hid (hr9.more (W10.mono (fun _ _ h => h.elim)))
                clear hI9 hM9 hcx hr9 W10 b10 b11
                go_wp2_with fail
                exact ⟨⟨j + 1, s9, by omega, by go_num, HR10, HN9, by omega, H89⟩, by simp [intOf]; omega⟩
              | false =>
                by_cases hmi : lp = I
                · subst hmi
                  have hI9' : w9.cell? ⟨X, 14, none⟩ = some (.int .i64 (lp : Nat)) := by rw [hcx] at hI9; exact hI9
                  have hM9' : w9.cell? ⟨X, 15, none⟩ = some (.int .i64 0) := by rw [hcx] at hM9; exact hM9
                  have W10 := (Keep.refl (fun _ => False) w9).alloc (.cells #[.int .i64 (lp : Nat), .int .i64 0] 28)
                  have a0 := W10.cell (b10.cell 0) (fun h => h)
                  have a1 := W10.cell (b10.cell 1) (fun h => h)
                  have a4 := W10.cell (b11.cell 1) (fun h => h)
                  have a5 := W10.cell (b11.cell 2) (fun h => h)
                  have a6 := W10.cell (b11.cell 3) (fun h => h)
                  have HR10 := hid (hr9.more (W10.mono (fun _ _ h => h.elim)))
                  clear hI9 hM9 hcx hr9 W10 b10 b11
                  go_wp2_with fail
                  exact ⟨⟨j + 1, s9, by omega, by go_num, HR10, HN9, by omega, H89⟩, by simp [intOf]; omega⟩
                · have hmi' : ((lp : Int) == (I : Int)) = false := by simp; omega
                  have hI9' : w9.cell? ⟨X, 14, none⟩ = some (.int .i64 (lp : Nat)) := by rw [hcx] at hI9; exact hI9
                  have hM9' : w9.cell? ⟨X, 15, none⟩ = some (.int .i64 0) := by rw [hcx] at hM9; exact hM9
                  have W10 := (Keep.refl (fun _ => False) w9).alloc (.cells #[.int .i64 (lp : Nat), .int .i64 0] 28)
                  have a0 := W10.cell (b10.cell 0) (fun h => h)
                  have a1 := W10.cell (b10.cell 1) (fun h => h)
                  have a4 := W10.cell (b11.cell 1) (fun h => h)
                  have a5 := W10.cell (b11.cell 2) (fun h => h)
                  have a6 := W10.cell (b11.cell 3) (fun h => h)
                  have HR10 := hid (hr9.more (W10.mono (fun _ _ h => h.elim)))
                  clear hI9 hM9 hcx hr9 W10 b10 b11
                  go_wp2_with fail
                  exact ⟨⟨j + 1, s9, by omega, by go_num, HR10, HN9, by omega, H89⟩, by simp [intOf]; omega⟩
          · have hbit' : zs.getD j false = false := by simpa using hbit
            rw [hbit'] at z8
            go_wp2_with fail
            refine (HR8.out.enc2 HN.out (by omega) 7 (by decide) 0).mono ?_
            rintro e w9 ⟨rfl, hr9, hkeep⟩
            have b10 := hkeep S1 _ _ HB10'.out (by decide) (by decide) (by decide)
            have b11 := hkeep w7.heap.size _ _ HB11.out (by decide) (by decide) (by decide)
            obtain ⟨hrn, hln⟩ := HN.out.step (k := 7) (by decide) 0
            obtain ⟨hI9, hM9⟩ := hr9.cxI hrn (k := 7) (by decide)
            have H89 := hid (show cxAt (encR s 7 0).2 8 = (0, 0) from (cxAt_other (l := s.2) (k := 7) (j := 8) (by decide) _).trans H8.out)
            have HEc := HE.out 0
            have HN9 := hid hrn
            clear hkeep hrn HR8 HB10' HB11 HE HR HN H8 z8
            generalize w7.heap.size = S2 at *
            generalize encR s 7 0 = s9 at *
            rcases (show M = 0 ∨ M = 1 by omega) with rfl | rfl
            · rcases HEc.1 (by decide) with hcx | hcx
              · clear HEc
                have hI9' : w9.cell? ⟨X, 14, none⟩ = some (.int .i64 (I : Nat)) := by rw [hcx] at hI9; exact hI9
                have hM9' : w9.cell? ⟨X, 15, none⟩ = some (.int .i64 0) := by rw [hcx] at hM9; exact hM9
                have W10 := (Keep.refl (fun _ => False) w9).alloc (.cells #[.int .i64 (I : Nat), .int .i64 0] 28)
                have a0 := W10.cell (b10.cell 0) (fun h => h)
                have a1 := W10.cell (b10.cell 1) (fun h => h)
                have a4 := W10.cell (b11.cell 1) (fun h => h)
                have a5 := W10.cell (b11.cell 2) (fun h => h)
                have a6 := W10.cell (b11.cell 3) (fun h => h)
                have HR10 := hid (hr9.more (W10.mono (fun _ _ h => h.elim)))
                clear hI9 hM9 hcx hr9 W10 b10 b11
                go_wp2_with fail
                exact ⟨⟨j + 1, s9, by omega, by go_num, HR10, HN9, by omega, H89⟩, by simp [intOf]; omega⟩
              · clear HEc
                by_cases hmi : mm = I
                · subst hmi
                  have hI9' : w9.cell? ⟨X, 14, none⟩ = some (.int .i64 (mm : Nat)) := by rw [hcx] at hI9; exact hI9
                  have hM9' : w9.cell? ⟨X, 15, none⟩ = some (.int .i64 0) := by rw [hcx] at hM9; exact hM9
                  have W10 := (Keep.refl (fun _ => False) w9).alloc (.cells #[.int .i64 (mm : Nat), .int .i64 0] 28)
                  have a0 := W10.cell (b10.cell 0) (fun h => h)
                  have a1 := W10.cell (b10.cell 1) (fun h => h)
                  have a4 := W10.cell (b11.cell 1) (fun h => h)
                  have a5 := W10.cell (b11.cell 2) (fun h => h)
                  have a6 := W10.cell (b11.cell 3) (fun h => h)
                  have HR10 := hid (hr9.more (W10.mono (fun _ _ h => h.elim)))
                  clear hI9 hM9 hcx hr9 W10 b10 b11
                  go_wp2_with fail
                  exact ⟨⟨j + 1, s9, by omega, by go_num, HR10, HN9, by omega, H89⟩, by simp [intOf]; omega⟩
                · have hmi' : ((mm : Int) == (I : Int)) = false := by simp; omega
                  have hI9' : w9.cell? ⟨X, 14, none⟩ = some (.int .i64 (mm : Nat)) := by rw [hcx] at hI9; exact hI9
                  have hM9' : w9.cell? ⟨X, 15, none⟩ = some (.int .i64 0) := by rw [hcx] at hM9; exact hM9
                  have W10 := (Keep.refl (fun _ => False) w9).alloc (.cells #[.int .i64 (mm : Nat), .int .i64 0] 28)
                  have a0 := W10.cell (b10.cell 0) (fun h => h)
                  have a1 := W10.cell (b10.cell 1) (fun h => h)
                  have a4 := W10.cell (b11.cell 1) (fun h => h)
                  have a5 := W10.cell (b11.cell 2) (fun h => h)
                  have a6 := W10.cell (b11.cell 3) (fun h => h)
                  have HR10 := hid (hr9.more (W10.mono (fun _ _ h => h.elim)))
                  clear hI9 hM9 hcx hr9 W10 b10 b11
                  go_wp2_with fail
                  exact ⟨⟨j + 1, s9, by omega, by go_num, HR10, HN9, by omega, H89⟩, by simp [intOf]; omega⟩
            · have hcx := HEc.2 (by decide)
              clear HEc
              cases sw with
              | true =>
                have hI9' : w9.cell? ⟨X, 14, none⟩ = some (.int .i64 (lp : Nat)) := by rw [hcx] at hI9; exact hI9
                have hM9' : w9.cell? ⟨X, 15, none⟩ = some (.int .i64 0) := by rw [hcx] at hM9; exact hM9
                have W10 := (Keep.refl (fun _ => False) w9).alloc (.cells #[.int .i64 (lp : Nat), .int .i64 0] 28)
                have a0 := W10.cell (b10.cell 0) (fun h => h)
                have a1 := W10.cell (b10.cell 1) (fun h => h)
                have a4 := W10.cell (b11.cell 1) (fun h => h)
                have a5 := W10.cell (b11.cell 2) (fun h => h)
                have a6 := W10.cell (b11.cell 3) (fun h => h)
                have HR10 := hid (hr9.more (W10.mono (fun _ _ h => h.elim)))
                clear hI9 hM9 hcx hr9 W10 b10 b11
                go_wp2_with fail
                exact ⟨⟨j + 1, s9, by omega, by go_num, HR10, HN9, by omega, H89⟩, by simp [intOf]; omega⟩
              | false =>
                by_cases hmi : lp = I
                · subst hmi
                  have hI9' : w9.cell? ⟨X, 14, none⟩ = some (.int .i64 (lp : Nat)) := by rw [hcx] at hI9; exact hI9
                  have hM9' : w9.cell? ⟨X, 15, none⟩ = some (.int .i64 1) := by rw [hcx] at hM9; exact hM9
                  have W10 := (Keep.refl (fun _ => False) w9).alloc (.cells #[.int .i64 (lp : Nat), .int .i64 1] 28)
                  have a0 := W10.cell (b10.cell 0) (fun h => h)
                  have a1 := W10.cell (b10.cell 1) (fun h => h)
                  have a4 := W10.cell (b11.cell 1) (fun h => h)
                  have a5 := W10.cell (b11.cell 2) (fun h => h)
                  have a6 := W10.cell (b11.cell 3) (fun h => h)
                  have HR10 := hid (hr9.more (W10.mono (fun _ _ h => h.elim)))
                  clear hI9 hM9 hcx hr9 W10 b10 b11
                  go_wp2_with fail
                  exact ⟨⟨j + 1, s9, by omega, by go_num, HR10, HN9, by omega, H89⟩, by simp [intOf]; omega⟩
                · have hmi' : ((lp : Int) == (I : Int)) = false := by simp; omega
                  have hI9' : w9.cell? ⟨X, 14, none⟩ = some (.int .i64 (lp : Nat)) := by rw [hcx] at hI9; exact hI9
                  have hM9' : w9.cell? ⟨X, 15, none⟩ = some (.int .i64 1) := by rw [hcx] at hM9; exact hM9
                  have W10 := (Keep.refl (fun _ => False) w9).alloc (.cells #[.int .i64 (lp : Nat), .int .i64 1] 28)
                  have a0 := W10.cell (b10.cell 0) (fun h => h)
                  have a1 := W10.cell (b10.cell 1) (fun h => h)
                  have a4 := W10.cell (b11.cell 1) (fun h => h)
                  have a5 := W10.cell (b11.cell 2) (fun h => h)
                  have a6 := W10.cell (b11.cell 3) (fun h => h)
                  have HR10 := hid (hr9.more (W10.mono (fun _ _ h => h.elim)))
                  clear hI9 hM9 hcx hr9 W10 b10 b11
                  go_wp2_with fail
                  exact ⟨⟨j + 1, s9, by omega, by go_num, HR10, HN9, by omega, H89⟩, by simp [intOf]; omega⟩
        · obtain rfl : j = 100 := by omega
          obtain ⟨hI, hM⟩ := HR.out.cxI HN.out (k := 8) (by decide)
          rw [H8.out] at hI hM
          have hI' : wr.cell? ⟨X, 16, none⟩ = some (.int .i64 0) := hI
          have hM' : wr.cell? ⟨X, 17, none⟩ = some (.int .i64 0) := hM
          go_wp2_with fail
          go_ret
          exact ⟨rfl, (HK5.out.trans HR.out.keep (fun j hj h => by omega)).below (Nat.le_refl _) (fun _ h => h.elim)⟩
      · skip
        obtain ⟨hI, hM⟩ := HR.out.cxI HN.out (k := 8) (by decide)
        rw [H8.out] at hI hM
        have hI' : wr.cell? ⟨X, 16, none⟩ = some (.int .i64 0) := hI
        have hM' : wr.cell? ⟨X, 17, none⟩ = some (.int .i64 0) := hM
        go_wp2_with fail
        go_ret
        exact ⟨rfl, (HK5.out.trans HR.out.keep (fun j hj h => by omega)).below (Nat.le_refl _) (fun _ h => h.elim)⟩
  | true =>
    have e0 : (((cxCells begL).setIfInBounds 14 (.int .i64 (k : Int))).setIfInBounds 15 (.int .i64 0)).setIfInBounds 15 (.int .i64 1) = cxCells (begL.set 7 (k, 1)) := by
      have h1 := cx_setI (l := begL) (k := 7) (by decide) k
      have h2 := cx_setM (l := begL.set 7 (k, (cxAt begL 7).2)) (k := 7) (by rw [List.length_set]; decide) 0
      have h3 := cx_setM (l := begL.set 7 (k, 0)) (k := 7) (by rw [List.length_set]; decide) 1
      rw [← h1] at h2
      have h4 : ((cxCells begL).setIfInBounds 14 (.int .i64 (k : Int))).setIfInBounds 15 (.int .i64 0) = cxCells (begL.set 7 (k, 0)) := h2
      rw [h4]
      exact h3
    go_wp2_with fail
    apply with_blk (w2 := w4) (E := X) (t := 30) (cs' := cxCells (begL.set 7 (k, 1)))
    · with_reducible (repeat (first | refine Keep.setR ?_ _ _ | exact Keep.refl _ _))
    · with_reducible (repeat (first | apply Blk.set_ | exact HC.out))
    · exact e0
    clear e0 f14 f15 d14 d15
    intro w5 hk5 hc5
    have HK5 := hid (HKW.out.trans hk5 (fun j hj h => by omega))
    have hs5 := hk5.size
    have HC5 := hid (show Ctx w5 X (begL.set 7 (k, 1)) from hc5)
    clear hk5 hc5 HKW HF2 HC
    refine (newe_any w5).mono ?_
    rintro e w6 ⟨E, A3, n3, c3, rfl, hEb, hen, hk6⟩
    have HR0 := hid (RunW.new2 HC5.out hen hEb hk6)
    have HN0 := hid (show Run (newM, begL.set 7 (k, 1)) from ⟨newM_inv, by show (32768 : Int) ≤ 32768; decide, by show (32768 : Int) < 65536; decide, begL_ok.set (by decide) hk1 (show 1 < 2 from by decide)⟩)
    clear hen hk6 HC5
    go_wp2_with fail
    go_loopw [9] (fun v wr => ∃ (j : Nat) (s : ES × List (Nat × Nat)), j ≤ 100 ∧ v = .int .i64 j ∧ Hid (RunW w5 E X s wr) ∧ Hid (Run s) ∧ s.1.b.length ≤ 1 + 16 * j ∧ Hid (cxAt s.2 8 = (0, 0))) (fun v _ => 100 - (intOf v).toNat)
    case atStart => exact ⟨0, _, by omega, rfl, HR0, HN0, Nat.le_refl 1, hid rfl⟩
    case round =>
      obtain ⟨j, s, hj, rfl, HR, HN, hlen, H8⟩ := hrel
      clear HR0 HN0
      by_cases hjn : j < n
      · by_cases hj1 : j < 100
        · obtain ⟨hI, hM⟩ := HR.out.cxI HN.out (k := 7) (by decide)
          have hI' : wr.cell? ⟨X, 14, none⟩ = some (.int .i64 (cxAt s.2 7).1) := hI
          have hM' : wr.cell? ⟨X, 15, none⟩ = some (.int .i64 (cxAt s.2 7).2) := hM
          have HV := hid (valM_tab _ (HN.out.cx.st 7))
          have hz : ∃ b o, A = some ⟨b, o, none⟩ ∧ b < w.heap.size ∧ w.cell? ⟨b, o + j, none⟩ = some (.bool (zs.getD j false)) := bool_ix HA.out hjn
          obtain ⟨b, o, rfl, hb, hz0⟩ := hz
          have HZ0 := hid hz0
          obtain ⟨q, mm, lp, sw, ht⟩ : ∃ q mm lp sw, tabAt (cxAt s.2 7).1 = (q, mm, lp, sw) := ⟨_, _, _, _, rfl⟩
          have hv := HV.out.trans ht
          have hsg := HN.out.cx.sg 7
          have hX : cxAt s.2 7 = ((cxAt s.2 7).1, (cxAt s.2 7).2) := rfl
          have HE : Hid (∀ bit : Int, ((bit % 2 == ((cxAt s.2 7).2 : Int)) = true → (cxAt (encR s 7 bit).2 7 = ((cxAt s.2 7).1, (cxAt s.2 7).2) ∨ cxAt (encR s 7 bit).2 7 = (mm, (cxAt s.2 7).2))) ∧
              ((bit % 2 == ((cxAt s.2 7).2 : Int)) = false → cxAt (encR s 7 bit).2 7 = (lp, if sw = true then 1 - (cxAt s.2 7).2 else (cxAt s.2 7).2))) := hid (fun bit => by
            have e : cxAt (encR s 7 bit).2 7 = encC s.1.a (cxAt s.2 7) (tabAt (cxAt s.2 7).1) (bit % 2 == ((cxAt s.2 7).2 : Int)) := cxAt_set (by rw [HN.out.cx.len]; decide) _
            rw [e, ht]
            refine ⟨fun h => ?_, fun h => ?_⟩
            · rw [h]
              unfold encC
              rw [if_pos rfl]
              split
              · exact .inl rfl
              · exact .inr rfl
            · rw [h]; rfl)
          clear hI hM hz0 hX ht
          have hiI : (cxAt s.2 7).1 < 47 := HN.out.cx.st 7
          generalize (cxAt s.2 7).1 = I at *
          generalize (cxAt s.2 7).2 = M at *
          go_wp2_with fail
          refine (rat_all _ q mm lp sw _ hv).mono ?_
          rintro e w7 ⟨rfl, hk7⟩
          have hkA : Keep (fun j => wr.heap.size ≤ j) wr w7 := (((Keep.refl (fun _ => False) wr).alloc (.cells #[.int .i64 I, .int .i64 M] 28)).trans hk7 (fun _ _ h => h)).mono (fun _ _ h => h.elim)
          have HB10 := hid (Blk.keep (Blk.new wr 28 #[.int .i64 I, .int .i64 M]) hk7 (fun h => h))
          have HR7 := hid (HR.out.more hkA)
          have hS1 := HB10.out.lt
          clear hk7 hkA hv HV
          generalize wr.heap.size = S1 at *
          have hb5 : b ≠ X := by omega
          have z7 : w7.cell? ⟨b, o + j, none⟩ = some (.bool (zs.getD j false)) := HR7.out.keep.cell (HK5.out.cell HZ0.out (fun h => h)) hb5
          have z8 : (w7.alloc (.cells #[.int .i64 q, .int .i64 mm, .int .i64 lp, .bool sw] 41)).cell? ⟨b, o + j, none⟩ = some (.bool (zs.getD j false)) := ((Keep.refl (fun _ => False) w7).alloc _).cell z7 (fun h => h)
          have HB11 := hid (Blk.new w7 41 #[.int .i64 q, .int .i64 mm, .int .i64 lp, .bool sw])
          have HB10' := hid (Blk.alloc HB10.out (.cells #[.int .i64 q, .int .i64 mm, .int .i64 lp, .bool sw] 41))
          have HR8 := hid (HR7.out.more (((Keep.refl (fun _ => False) w7).alloc (.cells #[.int .i64 q, .int .i64 mm, .int .i64 lp, .bool sw] 41)).mono (fun _ _ h => h.elim)))
          clear z7 HB10 HR7 HZ0
          by_cases hbit : zs.getD j false = true
          · rw [hbit] at z8
            go_wp2_with fail
            refine (HR8.out.enc2 HN.out (by omega) 7 (by decide) 1).mono ?_
            rintro e w9 ⟨rfl, hr9, hkeep⟩
            have b10 := hkeep S1 _ _ HB10'.out (by decide) (by decide) (by decide)
            have b11 := hkeep w7.heap.size _ _ HB11.out (by decide) (by decide) (by decide)
            obtain ⟨hrn, hln⟩ := HN.out.step (k := 7) (by decide) 1
            obtain ⟨hI9, hM9⟩ := hr9.cxI hrn (k := 7) (by decide)
            have H89 := hid (show cxAt (encR s 7 1).2 8 = (0, 0) from (cxAt_other (l := s.2) (k := 7) (j := 8) (by decide) _).trans H8.out)
            have HEc := HE.out 1
            have HN9 := hid hrn
            clear hkeep hrn HR8 HB10' HB11 HE HR HN H8 z8
            generalize w7.heap.size = S2 at *
            generalize encR s 7 1 = s9 at *
            rcases (show M = 1 ∨ M = 0 by omega) with rfl | rfl
            · rcases HEc.1 (by decide) with hcx | hcx
              · clear HEc
                have hI9' : w9.cell? ⟨X, 14, none⟩ = some (.int .i64 (I : Nat)) := by rw [hcx] at hI9; exact hI9
                have hM9' : w9.cell? ⟨X, 15, none⟩ = some (.int .i64 1) := by rw [hcx] at hM9; exact hM9
                have W10 := (Keep.refl (fun _ => False) w9).alloc (.cells #[.int .i64 (I : Nat), .int .i64 1] 28)
                have a0 := W10.cell (b10.cell 0) (fun h => h)
                have a1 := W10.cell (b10.cell 1) (fun h => h)
                have a4 := W10.cell (b11.cell 1) (fun h => h)
                have a5 := W10.cell (b11.cell 2) (fun h => h)
                have a6 := W10.cell (b11.cell 3) (fun h => h)
                have HR10 := hid (hr9.more (W10.mono (fun _ _ h => h.elim)))
                clear hI9 hM9 hcx hr9 W10 b10 b11
                go_wp2_with fail
                exact ⟨⟨j + 1, s9, by omega, by go_num, HR10, HN9, by omega, H89⟩, by simp [intOf]; omega⟩
              · clear HEc
                by_cases hmi : mm = I
                · subst hmi
                  have hI9' : w9.cell? ⟨X, 14, none⟩ = some (.int .i64 (mm : Nat)) := by rw [hcx] at hI9; exact hI9
                  have hM9' : w9.cell? ⟨X, 15, none⟩ = some (.int .i64 1) := by rw [hcx] at hM9; exact hM9
                  have W10 := (Keep.refl (fun _ => False) w9).alloc (.cells #[.int .i64 (mm : Nat), .int .i64 1] 28)
                  have a0 := W10.cell (b10.cell 0) (fun h => h)
                  have a1 := W10.cell (b10.cell 1) (fun h => h)
                  have a4 := W10.cell (b11.cell 1) (fun h => h)
                  have a5 := W10.cell (b11.cell 2) (fun h => h)
                  have a6 := W10.cell (b11.cell 3) (fun h => h)
                  have HR10 := hid (hr9.more (W10.mono (fun _ _ h => h.elim)))
                  clear hI9 hM9 hcx hr9 W10 b10 b11
                  go_wp2_with fail
                  exact ⟨⟨j + 1, s9, by omega, by go_num, HR10, HN9, by omega, H89⟩, by simp [intOf]; omega⟩
                · have hmi' : ((mm : Int) == (I : Int)) = false := by simp; omega
                  have hI9' : w9.cell? ⟨X, 14, none⟩ = some (.int .i64 (mm : Nat)) := by rw [hcx] at hI9; exact hI9
                  have hM9' : w9.cell? ⟨X, 15, none⟩ = some (.int .i64 1) := by rw [hcx] at hM9; exact hM9
                  have W10 := (Keep.refl (fun _ => False) w9).alloc (.cells #[.int .i64 (mm : Nat), .int .i64 1] 28)
                  have a0 := W10.cell (b10.cell 0) (fun h => h)
                  have a1 := W10.cell (b10.cell 1) (fun h => h)
                  have a4 := W10.cell (b11.cell 1) (fun h => h)
                  have a5 := W10.cell (b11.cell 2) (fun h => h)
                  have a6 := W10.cell (b11.cell 3) (fun h => h)
                  have HR10 := hid (hr9.more (W10.mono (fun _ _ h => h.elim)))
                  clear hI9 hM9 hcx hr9 W10 b10 b11
                  go_wp2_with fail
                  exact ⟨⟨j + 1, s9, by omega, by go_num, HR10, HN9, by omega, H89⟩, by simp [intOf]; omega⟩
            · have hcx := HEc.2 (by decide)
              clear HEc
              cases sw with
              | true =>
                have hI9' : w9.cell? ⟨X, 14, none⟩ = some (.int .i64 (lp : Nat)) := by rw [hcx] at hI9; exact hI9
                have hM9' : w9.cell? ⟨X, 15, none⟩ = some (.int .i64 1) := by rw [hcx] at hM9; exact hM9
                have W10 := (Keep.refl (fun _ => False) w9).alloc (.cells #[.int .i64 (lp : Nat), .int .i64 1] 28)
                have a0 := W10.cell (b10.cell 0) (fun h => h)
                have a1 := W10.cell (b10.cell 1) (fun h => h)
                have a4 := W10.cell (b11.cell 1) (fun h => h)
                have a5 := W10.cell (b11.cell 2) (fun h => h)
                have a6 := W10.cell (b11.cell 3) (fun h => h)
                have HR10 := hid (hr9.more (W10.mono (fun _ _ h => h.elim)))
                clear hI9 hM9 hcx hr9 W10 b10 b11
                go_wp2_with fail
                exact ⟨⟨j + 1, s9, by omega, by go_num, HR10, HN9, by omega, H89⟩, by simp [intOf]; omega⟩
              | false =>
                by_cases hmi : lp = I
                · subst hmi
                  have hI9' : w9.cell? ⟨X, 14, none⟩ = some (.int .i64 (lp : Nat)) := by rw [hcx] at hI9; exact hI9
                  have hM9' : w9.cell? ⟨X, 15, none⟩ = some (.int .i64 0) := by rw [hcx] at hM9; exact hM9
                  have W10 := (Keep.refl (fun _ => False) w9).alloc (.cells #[.int .i64 (lp : Nat), .int .i64 0] 28)
                  have a0 := W10.cell (b10.cell 0) (fun h => h)
                  have a1 := W10.cell (b10.cell 1) (fun h => h)
                  have a4 := W10.cell (b11.cell 1) (fun h => h)
                  have a5 := W10.cell (b11.cell 2) (fun h => h)
                  have a6 := W10.cell (b11.cell 3) (fun h => h)
                  have HR10 := hid (hr9.more (W10.mono (fun _ _ h => h.elim)))
                  clear hI9 hM9 hcx hr9 W10 b10 b11
                  go_wp2_with fail
                  exact ⟨⟨j + 1, s9, by omega, by go_num, HR10, HN9, by omega, H89⟩, by simp [intOf]; omega⟩
                · have hmi' : ((lp : Int) == (I : Int)) = false := by simp; omega
                  have hI9' : w9.cell? ⟨X, 14, none⟩ = some (.int .i64 (lp : Nat)) := by rw [hcx] at hI9; exact hI9
                  have hM9' : w9.cell? ⟨X, 15, none⟩ = some (.int .i64 0) := by rw [hcx] at hM9; exact hM9
                  have W10 := (Keep.refl (fun _ => False) w9).alloc (.cells #[.int .i64 (lp : Nat), .int .i64 0] 28)
                  have a0 := W10.cell (b10.cell 0) (fun h => h)
                  have a1 := W10.cell (b10.cell 1) (fun h => h)
                  have a4 := W10.cell (b11.cell 1) (fun h => h)
                  have a5 := W10.cell (b11.cell 2) (fun h => h)
                  have a6 := W10.cell (b11.cell 3) (fun h => h)
                  have HR10 := hid (hr9.more (W10.mono (fun _ _ h => h.elim)))
                  clear hI9 hM9 hcx hr9 W10 b10 b11
                  go_wp2_with fail
                  exact ⟨⟨j + 1, s9, by omega, by go_num, HR10, HN9, by omega, H89⟩, by simp [intOf]; omega⟩
          · have hbit' : zs.getD j false = false := by simpa using hbit
            rw [hbit'] at z8
            go_wp2_with fail
            refine (HR8.out.enc2 HN.out (by omega) 7 (by decide) 0).mono ?_
            rintro e w9 ⟨rfl, hr9, hkeep⟩
            have b10 := hkeep S1 _ _ HB10'.out (by decide) (by decide) (by decide)
            have b11 := hkeep w7.heap.size _ _ HB11.out (by decide) (by decide) (by decide)
            obtain ⟨hrn, hln⟩ := HN.out.step (k := 7) (by decide) 0
            obtain ⟨hI9, hM9⟩ := hr9.cxI hrn (k := 7) (by decide)
            have H89 := hid (show cxAt (encR s 7 0).2 8 = (0, 0) from (cxAt_other (l := s.2) (k := 7) (j := 8) (by decide) _).trans H8.out)
            have HEc := HE.out 0
            have HN9 := hid hrn
            clear hkeep hrn HR8 HB10' HB11 HE HR HN H8 z8
            generalize w7.heap.size = S2 at *
            generalize encR s 7 0 = s9 at *
            rcases (show M = 0 ∨ M = 1 by omega) with rfl | rfl
            · rcases HEc.1 (by decide) with hcx | hcx
              · clear HEc
                have hI9' : w9.cell? ⟨X, 14, none⟩ = some (.int .i64 (I : Nat)) := by rw [hcx] at hI9; exact hI9
                have hM9' : w9.cell? ⟨X, 15, none⟩ = some (.int .i64 0) := by rw [hcx] at hM9; exact hM9
                have W10 := (Keep.refl (fun _ => False) w9).alloc (.cells #[.int .i64 (I : Nat), .int .i64 0] 28)
                have a0 := W10.cell (b10.cell 0) (fun h => h)
                have a1 := W10.cell (b10.cell 1) (fun h => h)
                have a4 := W10.cell (b11.cell 1) (fun h => h)
                have a5 := W10.cell (b11.cell 2) (fun h => h)
                have a6 := W10.cell (b11.cell 3) (fun h => h)
                have HR10 := hid (hr9.more (W10.mono (fun _ _ h => h.elim)))
                clear hI9 hM9 hcx hr9 W10 b10 b11
                go_wp2_with fail
                exact ⟨⟨j + 1, s9, by omega, by go_num, HR10, HN9, by omega, H89⟩, by simp [intOf]; omega⟩
              · clear HEc
                by_cases hmi : mm = I
                · subst hmi
                  have hI9' : w9.cell? ⟨X, 14, none⟩ = some (.int .i64 (mm : Nat)) := by rw [hcx] at hI9; exact hI9
                  have hM9' : w9.cell? ⟨X, 15, none⟩ = some (.int .i64 0) := by rw [hcx] at hM9; exact hM9
                  have W10 := (Keep.refl (fun _ => False) w9).alloc (.cells #[.int .i64 (mm : Nat), .int .i64 0] 28)
                  have a0 := W10.cell (b10.cell 0) (fun h => h)
                  have a1 := W10.cell (b10.cell 1) (fun h => h)
                  have a4 := W10.cell (b11.cell 1) (fun h => h)
                  have a5 := W10.cell (b11.cell 2) (fun h => h)
                  have a6 := W10.cell (b11.cell 3) (fun h => h)
                  have HR10 := hid (hr9.more (W10.mono (fun _ _ h => h.elim)))
                  clear hI9 hM9 hcx hr9 W10 b10 b11
                  go_wp2_with fail
                  exact ⟨⟨j + 1, s9, by omega, by go_num, HR10, HN9, by omega, H89⟩, by simp [intOf]; omega⟩
                · have hmi' : ((mm : Int) == (I : Int)) = false := by simp; omega
                  have hI9' : w9.cell? ⟨X, 14, none⟩ = some (.int .i64 (mm : Nat)) := by rw [hcx] at hI9; exact hI9
                  have hM9' : w9.cell? ⟨X, 15, none⟩ = some (.int .i64 0) := by rw [hcx] at hM9; exact hM9
                  have W10 := (Keep.refl (fun _ => False) w9).alloc (.cells #[.int .i64 (mm : Nat), .int .i64 0] 28)
                  have a0 := W10.cell (b10.cell 0) (fun h => h)
                  have a1 := W10.cell (b10.cell 1) (fun h => h)
                  have a4 := W10.cell (b11.cell 1) (fun h => h)
                  have a5 := W10.cell (b11.cell 2) (fun h => h)
                  have a6 := W10.cell (b11.cell 3) (fun h => h)
                  have HR10 := hid (hr9.more (W10.mono (fun _ _ h => h.elim)))
                  clear hI9 hM9 hcx hr9 W10 b10 b11
                  go_wp2_with fail
                  exact ⟨⟨j + 1, s9, by omega, by go_num, HR10, HN9, by omega, H89⟩, by simp [intOf]; omega⟩
            · have hcx := HEc.2 (by decide)
              clear HEc
              cases sw with
              | true =>
                have hI9' : w9.cell? ⟨X, 14, none⟩ = some (.int .i64 (lp : Nat)) := by rw [hcx] at hI9; exact hI9
                have hM9' : w9.cell? ⟨X, 15, none⟩ = some (.int .i64 0) := by rw [hcx] at hM9; exact hM9
                have W10 := (Keep.refl (fun _ => False) w9).alloc (.cells #[.int .i64 (lp : Nat), .int .i64 0] 28)
                have a0 := W10.cell (b10.cell 0) (fun h => h)
                have a1 := W10.cell (b10.cell 1) (fun h => h)
                have a4 := W10.cell (b11.cell 1) (fun h => h)
                have a5 := W10.cell (b11.cell 2) (fun h => h)
                have a6 := W10.cell (b11.cell 3) (fun h => h)
                have HR10 := hid (hr9.more (W10.mono (fun _ _ h => h.elim)))
                clear hI9 hM9 hcx hr9 W10 b10 b11
                go_wp2_with fail
                exact ⟨⟨j + 1, s9, by omega, by go_num, HR10, HN9, by omega, H89⟩, by simp [intOf]; omega⟩
              | false =>
                by_cases hmi : lp = I
                · subst hmi
                  have hI9' : w9.cell? ⟨X, 14, none⟩ = some (.int .i64 (lp : Nat)) := by rw [hcx] at hI9; exact hI9
                  have hM9' : w9.cell? ⟨X, 15, none⟩ = some (.int .i64 1) := by rw [hcx] at hM9; exact hM9
                  have W10 := (Keep.refl (fun _ => False) w9).alloc (.cells #[.int .i64 (lp : Nat), .int .i64 1] 28)
                  have a0 := W10.cell (b10.cell 0) (fun h => h)
                  have a1 := W10.cell (b10.cell 1) (fun h => h)
                  have a4 := W10.cell (b11.cell 1) (fun h => h)
                  have a5 := W10.cell (b11.cell 2) (fun h => h)
                  have a6 := W10.cell (b11.cell 3) (fun h => h)
                  have HR10 := hid (hr9.more (W10.mono (fun _ _ h => h.elim)))
                  clear hI9 hM9 hcx hr9 W10 b10 b11
                  go_wp2_with fail
                  exact ⟨⟨j + 1, s9, by omega, by go_num, HR10, HN9, by omega, H89⟩, by simp [intOf]; omega⟩
                · have hmi' : ((lp : Int) == (I : Int)) = false := by simp; omega
                  have hI9' : w9.cell? ⟨X, 14, none⟩ = some (.int .i64 (lp : Nat)) := by rw [hcx] at hI9; exact hI9
                  have hM9' : w9.cell? ⟨X, 15, none⟩ = some (.int .i64 1) := by rw [hcx] at hM9; exact hM9
                  have W10 := (Keep.refl (fun _ => False) w9).alloc (.cells #[.int .i64 (lp : Nat), .int .i64 1] 28)
                  have a0 := W10.cell (b10.cell 0) (fun h => h)
                  have a1 := W10.cell (b10.cell 1) (fun h => h)
                  have a4 := W10.cell (b11.cell 1) (fun h => h)
                  have a5 := W10.cell (b11.cell 2) (fun h => h)
                  have a6 := W10.cell (b11.cell 3) (fun h => h)
                  have HR10 := hid (hr9.more (W10.mono (fun _ _ h => h.elim)))
                  clear hI9 hM9 hcx hr9 W10 b10 b11
                  go_wp2_with fail
                  exact ⟨⟨j + 1, s9, by omega, by go_num, HR10, HN9, by omega, H89⟩, by simp [intOf]; omega⟩
        · obtain rfl : j = 100 := by omega
          obtain ⟨hI, hM⟩ := HR.out.cxI HN.out (k := 8) (by decide)
          rw [H8.out] at hI hM
          have hI' : wr.cell? ⟨X, 16, none⟩ = some (.int .i64 0) := hI
          have hM' : wr.cell? ⟨X, 17, none⟩ = some (.int .i64 0) := hM
          go_wp2_with fail
          go_ret
          exact ⟨rfl, (HK5.out.trans HR.out.keep (fun j hj h => by omega)).below (Nat.le_refl _) (fun _ h => h.elim)⟩
      · skip
        obtain ⟨hI, hM⟩ := HR.out.cxI HN.out (k := 8) (by decide)
        rw [H8.out] at hI hM
        have hI' : wr.cell? ⟨X, 16, none⟩ = some (.int .i64 0) := hI
        have hM' : wr.cell? ⟨X, 17, none⟩ = some (.int .i64 0) := hM
        go_wp2_with fail
        go_ret
        exact ⟨rfl, (HK5.out.trans HR.out.keep (fun j hj h => by omega)).below (Nat.le_refl _) (fun _ h => h.elim)⟩
end Go.Proofs.Ytcieeoobobafmaa
