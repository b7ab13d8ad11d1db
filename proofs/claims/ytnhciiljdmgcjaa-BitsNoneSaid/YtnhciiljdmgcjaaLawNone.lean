/-
  BitsNone: the walk. Conditions: none.
-/
import Derived.Test.YtnhciiljdmgcjaaLawRead
namespace Go.Proofs.Ytnhciiljdmgcjaa
open Go.RowKit

set_option maxHeartbeats 4000000 in
theorem bitsNone_walk (x s : Int) (w : World) (_h : (Lit.int .i64 x).wf = true) (hs : (Lit.int .i64 s).wf = true) :
    Calls Try.prog 9 #[.int .i64 x, .int .i64 s] w fun e w' => e = .returned (.bool true) ∧ Below w.heap.size w w' := by
  have hs' := wf_i64 hs
  clear hs
  go_enter Try.func9, Try.ntmps9
  go_wp2_with fail
  refine (known_any w).mono ?_
  rintro e w1 ⟨rfl, hk1⟩
  by_cases h1 : s < 1
  · go_wp2_with fail
    refine (neww_any w1).mono ?_
    rintro e w2 ⟨W, rfl, hW, hw2, hk2⟩
    have hk12 := hk1.trans hk2 (fun _ _ h => h)
    have hs1 := hk1.size
    have hnum : numB x (s) = [] := by unfold numB; rw [if_neg (by omega)]
    have HNUM := hid hnum
    clear hnum hk1 hk2
    go_wp2_with fail
    refine (bits_any w2 w.heap.size W none 0 0 [] 0 x (s) ⟨hw2.blk, own_mono hw2.own hs1⟩ BInv.nil hk12.size (by omega)).mono ?_
    rintro e w3 ⟨A3, n3, c3, rfl, h3, hg3, hk3⟩
    rw [HNUM.out] at h3
    have h3 : Wr w3 w.heap.size W A3 n3 c3 [] 0 := h3
    have hk13 : Keep (fun _ => False) w w3 := hk12.new hk3 (fun k hf => by
      rcases hf with hf | ⟨_, h, _⟩
      · omega
      · cases h)
    have H3 := hid h3
    have HK13 := hid hk13
    clear h3 hk3 hg3 hk12 hk13 hw2
    go_wp2_with fail
    have hrd : Rd (w3.alloc (.cells #[.int .u8 170] 5)) (some ⟨w3.heap.size, 0, none⟩) 1 ([170].map (Value.int .u8)) := by
      refine ⟨rfl, fun _ => ⟨_, rfl, fun j u hu => ?_⟩⟩
      match j, hu with
      | 0, hu => simp at hu; subst hu; simp [Addr.add]
    refine (newr_any _ _ 1 _ [170] hrd (by omega)).mono ?_
    rintro e w4 ⟨R, A4, c4, rfl, hR, hr4, hk4⟩
    have hk34 := ((Keep.refl (fun _ => False) w3).alloc (.cells #[.int .u8 170] 5)).trans hk4 (fun _ _ h => h)
    have hb : Bytes [170] := fun z hz => by simp at hz; omega
    have H4 := hid hr4
    have HK4 := hid hk34
    have HB := hid hb
    have HR := hid hR
    clear hr4 hk4 hk34 hrd hb hR
    have HN2 := hid (show rdNum [170] (s) (0, 0, false) = (0, (0, 0, false)) by unfold rdNum; rw [if_neg (by omega)])
    go_wp2_with fail
    refine (rdbits_any w4 _ R A4 1 c4 [170] (0, 0, false) (s) H4.out HB.out (by decide) (by decide)).mono ?_
    rintro e w5 ⟨rfl, h5, hk5⟩
    rw [HN2.out] at h5 ⊢
    have H5 := hid h5
    have HK5 := hid hk5
    clear h5 hk5
    go_wp2_with fail
    refine (end_any w5 _ R A4 1 c4 [170] 0 0 false H5.out (by omega)).mono ?_
    rintro e w6 ⟨rfl, h6, hk6⟩
    have e6 : endM [170] 0 false = (0, 0) := by decide +kernel
    rw [e6]
    have H6 := hid h6
    have HK6 := hid hk6
    have HRs := hid (show w3.heap.size < R by have := HR.out; simp at this; omega)
    have hall : Keep (fun k => k = R) w3 w6 := (((HK4.out.mono (T := fun k => k = R) (fun _ _ h => h.elim))).trans HK5.out (fun _ _ h => h)).trans HK6.out (fun _ _ h => h.elim)
    have H7 := hid (H3.out.keep hall (fun e => by have := H3.out.blk.lt; have := HRs.out; omega) (fun ad e hx => by have := (own_foot_lt H3.out.own ad e).2; have := HRs.out; omega))
    have HKA := hid hall
    clear h6 hk6 e6 hall
    go_wp2_with fail
    refine (bytes_any w6 _ W A3 n3 c3 [] 0 H7.out (by have := H7.out.len; simp at this; omega)).mono ?_
    rintro e w7 ⟨A7, n7, c7, rfl, hown7, hk7⟩
    have hn7 : n7 = 0 := by have := hown7.1; simpa [outB, lastM] using this.symm
    subst hn7
    have H8 := hid (Rr.aside H6.out hk7)
    have HK7 := hid hk7
    clear hown7 hk7
    go_wp2_with fail
    refine (rdbits_any w7 _ R A4 1 c4 [170] (0, 0, false) 8 H8.out HB.out (by decide) (by decide)).mono ?_
    rintro e w8 ⟨rfl, h8, hk8⟩
    have e8 : (rdNum [170] 8 (0, 0, false)).1 = 170 := by decide +kernel
    rw [e8]
    clear h8 e8
    go_wp2_with fail
    go_ret
    have hfin : Keep (fun _ => False) w w8 := ((HK13.out.new HKA.out (fun k e => by have := HRs.out; have := HK13.out.size; omega)).trans HK7.out (fun _ _ h => h)).new hk8 (fun k e => by have := HRs.out; have := HK13.out.size; omega)
    exact ⟨rfl, hfin.below (Nat.le_refl _) (fun _ h => h.elim)⟩
  · by_cases h2 : 32 < s
    · go_wp2_with fail
      refine (neww_any w1).mono ?_
      rintro e w2 ⟨W, rfl, hW, hw2, hk2⟩
      have hk12 := hk1.trans hk2 (fun _ _ h => h)
      have hs1 := hk1.size
      have hnum : numB x (s) = [] := by unfold numB; rw [if_neg (by omega)]
      have HNUM := hid hnum
      clear hnum hk1 hk2
      go_wp2_with fail
      refine (bits_any w2 w.heap.size W none 0 0 [] 0 x (s) ⟨hw2.blk, own_mono hw2.own hs1⟩ BInv.nil hk12.size (by omega)).mono ?_
      rintro e w3 ⟨A3, n3, c3, rfl, h3, hg3, hk3⟩
      rw [HNUM.out] at h3
      have h3 : Wr w3 w.heap.size W A3 n3 c3 [] 0 := h3
      have hk13 : Keep (fun _ => False) w w3 := hk12.new hk3 (fun k hf => by
        rcases hf with hf | ⟨_, h, _⟩
        · omega
        · cases h)
      have H3 := hid h3
      have HK13 := hid hk13
      clear h3 hk3 hg3 hk12 hk13 hw2
      go_wp2_with fail
      have hrd : Rd (w3.alloc (.cells #[.int .u8 170] 5)) (some ⟨w3.heap.size, 0, none⟩) 1 ([170].map (Value.int .u8)) := by
        refine ⟨rfl, fun _ => ⟨_, rfl, fun j u hu => ?_⟩⟩
        match j, hu with
        | 0, hu => simp at hu; subst hu; simp [Addr.add]
      refine (newr_any _ _ 1 _ [170] hrd (by omega)).mono ?_
      rintro e w4 ⟨R, A4, c4, rfl, hR, hr4, hk4⟩
      have hk34 := ((Keep.refl (fun _ => False) w3).alloc (.cells #[.int .u8 170] 5)).trans hk4 (fun _ _ h => h)
      have hb : Bytes [170] := fun z hz => by simp at hz; omega
      have H4 := hid hr4
      have HK4 := hid hk34
      have HB := hid hb
      have HR := hid hR
      clear hr4 hk4 hk34 hrd hb hR
      have HN2 := hid (show rdNum [170] (s) (0, 0, false) = (0, (0, 0, false)) by unfold rdNum; rw [if_neg (by omega)])
      go_wp2_with fail
      refine (rdbits_any w4 _ R A4 1 c4 [170] (0, 0, false) (s) H4.out HB.out (by decide) (by decide)).mono ?_
      rintro e w5 ⟨rfl, h5, hk5⟩
      rw [HN2.out] at h5 ⊢
      have H5 := hid h5
      have HK5 := hid hk5
      clear h5 hk5
      go_wp2_with fail
      refine (end_any w5 _ R A4 1 c4 [170] 0 0 false H5.out (by omega)).mono ?_
      rintro e w6 ⟨rfl, h6, hk6⟩
      have e6 : endM [170] 0 false = (0, 0) := by decide +kernel
      rw [e6]
      have H6 := hid h6
      have HK6 := hid hk6
      have HRs := hid (show w3.heap.size < R by have := HR.out; simp at this; omega)
      have hall : Keep (fun k => k = R) w3 w6 := (((HK4.out.mono (T := fun k => k = R) (fun _ _ h => h.elim))).trans HK5.out (fun _ _ h => h)).trans HK6.out (fun _ _ h => h.elim)
      have H7 := hid (H3.out.keep hall (fun e => by have := H3.out.blk.lt; have := HRs.out; omega) (fun ad e hx => by have := (own_foot_lt H3.out.own ad e).2; have := HRs.out; omega))
      have HKA := hid hall
      clear h6 hk6 e6 hall
      go_wp2_with fail
      refine (bytes_any w6 _ W A3 n3 c3 [] 0 H7.out (by have := H7.out.len; simp at this; omega)).mono ?_
      rintro e w7 ⟨A7, n7, c7, rfl, hown7, hk7⟩
      have hn7 : n7 = 0 := by have := hown7.1; simpa [outB, lastM] using this.symm
      subst hn7
      have H8 := hid (Rr.aside H6.out hk7)
      have HK7 := hid hk7
      clear hown7 hk7
      go_wp2_with fail
      refine (rdbits_any w7 _ R A4 1 c4 [170] (0, 0, false) 8 H8.out HB.out (by decide) (by decide)).mono ?_
      rintro e w8 ⟨rfl, h8, hk8⟩
      have e8 : (rdNum [170] 8 (0, 0, false)).1 = 170 := by decide +kernel
      rw [e8]
      clear h8 e8
      go_wp2_with fail
      go_ret
      have hfin : Keep (fun _ => False) w w8 := ((HK13.out.new HKA.out (fun k e => by have := HRs.out; have := HK13.out.size; omega)).trans HK7.out (fun _ _ h => h)).new hk8 (fun k e => by have := HRs.out; have := HK13.out.size; omega)
      exact ⟨rfl, hfin.below (Nat.le_refl _) (fun _ h => h.elim)⟩
    · go_wp2_with fail
      refine (neww_any w1).mono ?_
      rintro e w2 ⟨W, rfl, hW, hw2, hk2⟩
      have hk12 := hk1.trans hk2 (fun _ _ h => h)
      have hs1 := hk1.size
      have hnum : numB x ((s + 32)) = [] := by unfold numB; rw [if_neg (by omega)]
      have HNUM := hid hnum
      clear hnum hk1 hk2
      go_wp2_with fail
      refine (bits_any w2 w.heap.size W none 0 0 [] 0 x ((s + 32)) ⟨hw2.blk, own_mono hw2.own hs1⟩ BInv.nil hk12.size (by omega)).mono ?_
      rintro e w3 ⟨A3, n3, c3, rfl, h3, hg3, hk3⟩
      rw [HNUM.out] at h3
      have h3 : Wr w3 w.heap.size W A3 n3 c3 [] 0 := h3
      have hk13 : Keep (fun _ => False) w w3 := hk12.new hk3 (fun k hf => by
        rcases hf with hf | ⟨_, h, _⟩
        · omega
        · cases h)
      have H3 := hid h3
      have HK13 := hid hk13
      clear h3 hk3 hg3 hk12 hk13 hw2
      go_wp2_with fail
      have hrd : Rd (w3.alloc (.cells #[.int .u8 170] 5)) (some ⟨w3.heap.size, 0, none⟩) 1 ([170].map (Value.int .u8)) := by
        refine ⟨rfl, fun _ => ⟨_, rfl, fun j u hu => ?_⟩⟩
        match j, hu with
        | 0, hu => simp at hu; subst hu; simp [Addr.add]
      refine (newr_any _ _ 1 _ [170] hrd (by omega)).mono ?_
      rintro e w4 ⟨R, A4, c4, rfl, hR, hr4, hk4⟩
      have hk34 := ((Keep.refl (fun _ => False) w3).alloc (.cells #[.int .u8 170] 5)).trans hk4 (fun _ _ h => h)
      have hb : Bytes [170] := fun z hz => by simp at hz; omega
      have H4 := hid hr4
      have HK4 := hid hk34
      have HB := hid hb
      have HR := hid hR
      clear hr4 hk4 hk34 hrd hb hR
      have HN2 := hid (show rdNum [170] ((s + 32)) (0, 0, false) = (0, (0, 0, false)) by unfold rdNum; rw [if_neg (by omega)])
      go_wp2_with fail
      refine (rdbits_any w4 _ R A4 1 c4 [170] (0, 0, false) ((s + 32)) H4.out HB.out (by decide) (by decide)).mono ?_
      rintro e w5 ⟨rfl, h5, hk5⟩
      rw [HN2.out] at h5 ⊢
      have H5 := hid h5
      have HK5 := hid hk5
      clear h5 hk5
      go_wp2_with fail
      refine (end_any w5 _ R A4 1 c4 [170] 0 0 false H5.out (by omega)).mono ?_
      rintro e w6 ⟨rfl, h6, hk6⟩
      have e6 : endM [170] 0 false = (0, 0) := by decide +kernel
      rw [e6]
      have H6 := hid h6
      have HK6 := hid hk6
      have HRs := hid (show w3.heap.size < R by have := HR.out; simp at this; omega)
      have hall : Keep (fun k => k = R) w3 w6 := (((HK4.out.mono (T := fun k => k = R) (fun _ _ h => h.elim))).trans HK5.out (fun _ _ h => h)).trans HK6.out (fun _ _ h => h.elim)
      have H7 := hid (H3.out.keep hall (fun e => by have := H3.out.blk.lt; have := HRs.out; omega) (fun ad e hx => by have := (own_foot_lt H3.out.own ad e).2; have := HRs.out; omega))
      have HKA := hid hall
      clear h6 hk6 e6 hall
      go_wp2_with fail
      refine (bytes_any w6 _ W A3 n3 c3 [] 0 H7.out (by have := H7.out.len; simp at this; omega)).mono ?_
      rintro e w7 ⟨A7, n7, c7, rfl, hown7, hk7⟩
      have hn7 : n7 = 0 := by have := hown7.1; simpa [outB, lastM] using this.symm
      subst hn7
      have H8 := hid (Rr.aside H6.out hk7)
      have HK7 := hid hk7
      clear hown7 hk7
      go_wp2_with fail
      refine (rdbits_any w7 _ R A4 1 c4 [170] (0, 0, false) 8 H8.out HB.out (by decide) (by decide)).mono ?_
      rintro e w8 ⟨rfl, h8, hk8⟩
      have e8 : (rdNum [170] 8 (0, 0, false)).1 = 170 := by decide +kernel
      rw [e8]
      clear h8 e8
      go_wp2_with fail
      go_ret
      have hfin : Keep (fun _ => False) w w8 := ((HK13.out.new HKA.out (fun k e => by have := HRs.out; have := HK13.out.size; omega)).trans HK7.out (fun _ _ h => h)).new hk8 (fun k e => by have := HRs.out; have := HK13.out.size; omega)
      exact ⟨rfl, hfin.below (Nat.le_refl _) (fun _ h => h.elim)⟩
end Go.Proofs.Ytnhciiljdmgcjaa
