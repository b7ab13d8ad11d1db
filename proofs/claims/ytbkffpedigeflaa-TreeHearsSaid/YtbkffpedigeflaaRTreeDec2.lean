/-
  The reference's Decode, of a leaf. Conditions: bounds up to 1000.
-/
import Derived.Test.YtbkffpedigeflaaRTreeDec
namespace Go.Proofs.Ytbkffpedigeflaa
open Go.RowKit

set_option maxHeartbeats 8000000 in
theorem rdec_any (w : World) (T g tot cap L W H X : Nat) (N : Nat → Nat → Nd) (A : Option Addr) (n c : Nat) (l : List Int) (t : RS) (k : Nat) (b : Int)
    (h : RT w T g tot cap L W H N) (hr : Xr w X A n c l t) (hok : RSok t) (hl : Bytes l) (hk : k < W * H) (hb0 : -1000 ≤ b ∧ b ≤ 1000) (hp : t.1 ≤ 536870912) (hfar : 0 < n → ∀ ad, A = some ad → ad.block ≠ g) :
    Calls Try.prog 21 #[.pointer (some ⟨T, 0, none⟩), .pointer (some ⟨X, 0, none⟩), .int .i64 k, .int .i64 b] w fun e w' =>
      e = .returned (.bool (((decI l W L k b N t L).2.1 0 k).said && decide (((decI l W L k b N t L).2.1 0 k).n < b))) ∧
      RT w' T g tot cap L W H (decI l W L k b N t L).2.1 ∧ Xr w' X A n c l (decI l W L k b N t L).2.2 ∧ Keep (fun j => j = g ∨ j = X) w w' := by
  have hL := h.lev.pos
  have hL7 := h.lev.le
  have HLev := hid h.lev
  have H0 := hid h
  have HR0 := hid hr
  have HL0 := hid hl
  have HK := hid hk
  have hcap := h.hcap
  have HTOT := hid h.htot
  have p0 : w.cell? ⟨T, 0, none⟩ = some (.slice (some ⟨g, 0, none⟩) tot cap) := h.blk.cell 0
  have p1 : w.cell? ⟨T, 1, none⟩ = some (.int .i64 ((W * H : Nat) : Int)) := h.blk.cell 1
  have e1 : decide (W * H ≤ k) = false := by simp only [decide_eq_false_iff_not]; omega
  have hTl := h.blk.lt
  have hgl : g < w.heap.size := by obtain ⟨cs, hg⟩ := h.row; exact hg.lt
  have hXl := (Xc.blk hr).lt
  have hAl : 0 < n → ∀ ad, A = some ad → ad.block < w.heap.size := fun hn ad e => (Xc.rd hr).lt hn ad e
  have HAX := hid (Xc.far hr)
  clear h hr hl
  obtain ⟨m, hm⟩ : ∃ m, W * H = m := ⟨_, rfl⟩
  have HM := hid hm
  rw [hm] at p1 e1 hk
  clear hm
  go_enter Try.func21, Try.ntmps21
  go_wp2_with fail
  refine (rway_in w T g tot cap L W H N k H0.out HK.out).mono ?_
  rintro e w1 ⟨V, cV, rfl, hV, hVn, hk1⟩
  have hVl := hV.lt hL
  have HVN := hid hVn
  have HM0 : Hid (RM w T g tot cap L W H k V X A n c l (decI l W L k b N t 0).2.1 (decI l W L k b N t 0).2.2 w1) := hid
    ⟨H0.out.aside hk1, hV, Xc.keep HR0.out hk1 (fun h => h) (fun _ _ _ h => h), hok, hk1.mono (fun _ _ h => h.elim)⟩
  have hs1 : w.heap.size ≤ w1.heap.size := hk1.size
  have HVL := hid hVl
  have HAL := hid hAl
  have HFAR := hid hfar
  clear hV hVn hk1 H0 HR0 hVl hAl hfar
  go_wp2_with fail
  go_loopw [10, 11] (fun u v wr => ∃ r : Nat, r ≤ L ∧ u = .int .i64 (decI l W L k b N t r).1 ∧ v = .int .i64 r ∧ Hid (RM w T g tot cap L W H k V X A n c l (decI l W L k b N t r).2.1 (decI l W L k b N t r).2.2 wr) ∧ Hid (w1.heap.size ≤ wr.heap.size)) (fun _ v _ => L - (intOf v).toNat)
  case atStart => exact ⟨0, by omega, rfl, rfl, HM0, hid (Nat.le_refl _)⟩
  case round =>
    obtain ⟨r, hr, rfl, rfl, HMr, HS⟩ := hrel
    clear HM0
    by_cases hrL : r < L
    · obtain ⟨i, hi, hiL⟩ : ∃ i, L - 1 - r = i ∧ i < L := ⟨_, rfl, by omega⟩
      have hlow0 := decI_low l W L k b N t r
      have hrs0 := (decI_rs l W L k b N t hok hb0.2 r).2
      have HJ := hid (idx_lt HLev.out HK.out i)
      have HE := hid (decI_next (l := l) (t := t) (W := W) (L := L) (k := k) (b := b) (N := N) hi rfl)
      have hc := HMr.out.tr.cells HK.out hiL
      have hfl := off_lt HLev.out HK.out hiL
      rw [← HTOT.out] at hfl
      obtain ⟨bV, oV, hVe, hcV⟩ := HMr.out.way.int_ix hrL
      rw [rflat_at W H k L r hrL, hi] at hcV
      have HWC := hid (show ∀ wz : World, Rd wz (some ⟨bV, oV, none⟩) L ((rflat W H k L).map (Value.int .i64)) → wz.cell? ⟨bV, oV + r, none⟩ = some (.int .i64 (flat W H k i : Int)) from fun wz hz => by
        obtain ⟨b2, o2, e2, h2⟩ := hz.int_ix hrL
        injection e2 with e2
        injection e2 with e3 e4
        subst e3 e4
        rw [rflat_at W H k L r hrL, hi] at h2
        exact h2)
      have q0 : wr.cell? ⟨T, 0, none⟩ = some (.slice (some ⟨g, 0, none⟩) tot cap) := HMr.out.tr.blk.cell 0
      have HUPX := hid (flat_up HLev.out HK.out hiL)
      have HFL := hid (show flat W H k i = off W H i + idx W i k from rfl)
      generalize hP : decI l W L k b N t r = P1 at *
      obtain ⟨low, N1, t1⟩ := P1
      dsimp only at *
      subst hVe
      rw [← HUPX.out] at hc
      generalize hup : upIx W H i (idx W i k) = up at *
      generalize hj : idx W i k = j at *
      have HUJ := hid hup
      clear hup
      generalize flat W H k i = fl at *
      obtain ⟨c0, c1, c2, c3⟩ := hc
      rw [Nat.mul_comm 4 fl] at c0 c1 c2 c3
      have HJE := hid hj
      clear hj hP
      have HKD := hid (((Keep.refl (fun _ => False) wr).alloc (.cells #[.int .i64 0, .int .i64 0, .bool false, .int .i64 0] 81)).drew)
      go_wp2_with fail
      -- region 8: 12 operations
      refine At.start (L := #[false, false, false, false, false, false, false, false, false, false, false, false]) (by kernel_rfl) rfl ?_
      refine At.pure 0 (some 32) (v := ?v0) rfl rfl (by kernel_rfl) (fun _ _ _ h => h) rfl (fun w' => ?y0) ?_   
      case y0 => go_simp; try with_reducible rfl
      try simp only [Act.put, List.setIfInBounds_toArray, List.set_cons_zero, List.set_cons_succ]
      refine At.pure 1 (some 33) (v := ?v1) rfl rfl (by kernel_rfl) (fun _ _ _ h => h) rfl (fun w' => ?y1) ?_   
      case y1 => go_simp; try with_reducible rfl
      try simp only [Act.put, List.setIfInBounds_toArray, List.set_cons_zero, List.set_cons_succ]
      refine At.pure 2 (some 34) (v := ?v2) rfl rfl (by kernel_rfl) (fun _ _ _ h => h) rfl (fun w' => ?y2) ?_   
      case y2 => go_simp; try with_reducible rfl
      try simp only [Act.put, List.setIfInBounds_toArray, List.set_cons_zero, List.set_cons_succ]
      refine At.read 3 (some 35) (fun w' => w'.cell? ⟨T, 0, none⟩ = some (.slice (some ⟨g, 0, none⟩) tot cap)) (v := ?v3) rfl rfl (by kernel_rfl) (fun _ _ _ h => h) rfl q0 (fun w' hw' => ?y3) ?_   
      case y3 => skip; go_simp; try with_reducible rfl
      try simp only [Act.put, List.setIfInBounds_toArray, List.set_cons_zero, List.set_cons_succ]
      refine At.pure 4 (some 36) (v := ?v4) rfl rfl (by kernel_rfl) (fun _ _ _ h => h) rfl (fun w' => ?y4) ?_   
      case y4 => go_simp; try with_reducible rfl
      try simp only [Act.put, List.setIfInBounds_toArray, List.set_cons_zero, List.set_cons_succ]
      refine At.pure 5 (some 37) (v := ?v5) rfl rfl (by kernel_rfl) (fun _ _ _ h => h) rfl (fun w' => ?y5) ?_   
      case y5 => go_simp; try with_reducible rfl
      try simp only [Act.put, List.setIfInBounds_toArray, List.set_cons_zero, List.set_cons_succ]
      refine At.pure 6 (some 38) (v := ?v6) rfl rfl (by kernel_rfl) (fun _ _ _ h => h) rfl (fun w' => ?y6) ?_   
      case y6 => go_simp; try with_reducible rfl
      try simp only [Act.put, List.setIfInBounds_toArray, List.set_cons_zero, List.set_cons_succ]
      refine At.read 7 (some 39) (fun w' => w'.cell? ⟨bV, oV + r, none⟩ = some (.int .i64 fl)) (v := ?v7) rfl rfl (by kernel_rfl) (fun _ _ _ h => h) rfl hcV (fun w' hw' => ?y7) ?_   
      case y7 => skip; go_simp; try with_reducible rfl
      try simp only [Act.put, List.setIfInBounds_toArray, List.set_cons_zero, List.set_cons_succ]
      refine At.pure 8 (some 40) (v := ?v8) rfl rfl (by kernel_rfl) (fun _ _ _ h => h) rfl (fun w' => ?y8) ?_   
      case y8 => go_simp; try with_reducible rfl
      try simp only [Act.put, List.setIfInBounds_toArray, List.set_cons_zero, List.set_cons_succ]
      refine At.read 9 (some 41) (fun w' => w'.cell? ⟨g, fl * 4, none⟩ = some (.int .i64 (N1 i j).n) ∧ w'.cell? ⟨g, fl * 4 + 1, none⟩ = some (.int .i64 (N1 i j).low) ∧ w'.cell? ⟨g, fl * 4 + 2, none⟩ = some (.bool (N1 i j).said) ∧ w'.cell? ⟨g, fl * 4 + 3, none⟩ = some (.int .i64 up)) (v := (.agg #[.int .i64 (N1 i j).n, .int .i64 (N1 i j).low, .bool (N1 i j).said, .int .i64 up])) rfl rfl (by kernel_rfl) (fun _ _ _ h => h) rfl ⟨c0, c1, c2, c3⟩ (fun w' hw' => ?y9) ?_   
      case y9 => obtain ⟨h1, h2, h3, h4⟩ := hw'; go_simp; try with_reducible rfl
      try simp only [Act.put, List.setIfInBounds_toArray, List.set_cons_zero, List.set_cons_succ]
      refine At.call 10 (pend' := [(9, (fun w' => w'.cell? ⟨g, fl * 4, none⟩ = some (.int .i64 (N1 i j).n) ∧ w'.cell? ⟨g, fl * 4 + 1, none⟩ = some (.int .i64 (N1 i j).low) ∧ w'.cell? ⟨g, fl * 4 + 2, none⟩ = some (.bool (N1 i j).said) ∧ w'.cell? ⟨g, fl * 4 + 3, none⟩ = some (.int .i64 up))), (7, (fun w' => w'.cell? ⟨bV, oV + r, none⟩ = some (.int .i64 fl))), (3, (fun w' => w'.cell? ⟨T, 0, none⟩ = some (.slice (some ⟨g, 0, none⟩) tot cap)))]) rfl (by kernel_rfl) rfl (by kernel_rfl) (fun K hK => ?_)   
      go_simp
      refine hK _ _ (all_cons ⟨HKD.out.cell c0 (fun h => h), HKD.out.cell c1 (fun h => h), HKD.out.cell c2 (fun h => h), HKD.out.cell c3 (fun h => h)⟩ (all_cons (HKD.out.cell hcV (fun h => h)) (all_cons (HKD.out.cell q0 (fun h => h)) all_nil))) ?_
      clear hK K
      try simp only [Act.put, List.setIfInBounds_toArray, List.set_cons_zero, List.set_cons_succ]
      refine At.call 11 (pend' := []) rfl (by kernel_rfl) rfl (by kernel_rfl) (fun K hK => ?_)   
      go_simp
      refine hK _ _ all_nil ?_
      clear hK K
      try simp only [Act.put, List.setIfInBounds_toArray, List.set_cons_zero, List.set_cons_succ]
      refine At.done (by kernel_rfl) ?_
      have hXBw : w.heap.size ≤ wr.heap.size := Nat.le_trans hs1 HS.out
      have HKB := hid (((Keep.refl (fun _ => False) wr).alloc (.cells #[.int .i64 (N1 i j).n, .int .i64 (N1 i j).low, .bool (N1 i j).said, .int .i64 up] 81)).drew)
      have HBB := hid ((Blk.new wr 81 #[.int .i64 (N1 i j).n, .int .i64 (N1 i j).low, .bool (N1 i j).said, .int .i64 up]).drew)
      have HMB := hid (HMr.out.aside HKB.out)
      have HSB : Hid (wr.heap.size + 1 ≤ ((wr.alloc (.cells #[.int .i64 (N1 i j).n, .int .i64 (N1 i j).low, .bool (N1 i j).said, .int .i64 up] 81)).drew).heap.size) := hid (by rw [World.size_drew, World.size_alloc]; omega)
      have HOFF : Hid (Off1 L (some ⟨bV, oV, none⟩) A n wr.heap.size) := hid ⟨fun ad e => by have h1 := HVL.out ad e; have h2 := HS.out; omega, fun hn ad e => by have h1 := HAL.out hn ad e; omega⟩
      have HXW := hid hXBw
      have HS2 := HS
      clear HKB HKD HMr q0 hcV c0 c1 c2 c3 HS
      generalize (wr.alloc (.cells #[.int .i64 (N1 i j).n, .int .i64 (N1 i j).low, .bool (N1 i j).said, .int .i64 up] 81)).drew = wb at *
      generalize wr.heap.size = XB at *
      have b0 : wb.cell? ⟨XB, 0, none⟩ = some (.int .i64 (N1 i j).n) := HBB.out.cell 0
      have b1 : wb.cell? ⟨XB, 1, none⟩ = some (.int .i64 (N1 i j).low) := HBB.out.cell 1
      have b2 : wb.cell? ⟨XB, 2, none⟩ = some (.bool (N1 i j).said) := HBB.out.cell 2
      have f1 := HBB.out.frozen 1
      have HZ : Hid (∀ (x : Nd) (t2 : RS), decN l b ⟨(N1 i j).n, max (N1 i j).low low, (N1 i j).said⟩ t1 = (x, t2) → decI l W L k b N t (r + 1) = (x.low, updT N1 i j x, t2)) := hid (fun x t2 h2 => by
        rw [HE.out, h2])
      clear HE
      go_wp2_with fail
      case inl =>
        have hlt := h
        clear h
        have hm : max (N1 i j).low low = low := by omega
        rw [hm] at HZ
        have hM0 : 0 ≤ low := by omega
        have hks : Keep (fun a => a = XB) wb (wb.setCell ⟨XB, 1, none⟩ (.int .i64 (low))) := Keep.set1 wb XB 1 _
        have HM1 := hid (HMB.out.xb HXW.out hTl hgl hXl HOFF.out hks (cs := #[]))
        have HB1 : Hid (Blk (wb.setCell ⟨XB, 1, none⟩ (.int .i64 (low))) XB 81 #[.int .i64 (N1 i j).n, .int .i64 (low), .bool (N1 i j).said, .int .i64 up]) := hid (HBB.out.set_ 1 _)
        have HS1 : Hid (XB + 1 ≤ (wb.setCell ⟨XB, 1, none⟩ (.int .i64 (low))).heap.size) := hid (by rw [World.size_setCell]; exact HSB.out)
        clear HMB HBB HSB b0 b1 b2 f1 hm hlt hks
        generalize wb.setCell ⟨XB, 1, none⟩ (.int .i64 (low)) = w3 at *
        generalize hx0 : (⟨(N1 i j).n, low, (N1 i j).said⟩ : Nd) = x0 at *
        have hx0l : 0 ≤ x0.low := by rw [← hx0]; exact hM0
        have HB1 : Hid (Blk w3 XB 81 #[.int .i64 x0.n, .int .i64 x0.low, .bool x0.said, .int .i64 up]) := hid (by rw [← hx0]; exact HB1.out)
        clear hx0 hM0
        go_loopw [] (fun wr => ∃ (x : Nd) (t2 : RS), Hid (RM w T g tot cap L W H k (some ⟨bV, oV, none⟩) X A n c l N1 t2 wr) ∧ Hid (Blk wr XB 81 #[.int .i64 x.n, .int .i64 x.low, .bool x.said, .int .i64 up]) ∧ Hid (decN l b x t2 = decN l b x0 t1 ∧ 0 ≤ x.low ∧ t2.1 + (if x.said then 0 else (b - x.low).toNat) ≤ t1.1 + (b - x0.low).toNat)) (fun wr => farX b XB wr)
        case atStart => exact ⟨x0, t1, HM1, HB1, hid ⟨rfl, hx0l, by split <;> omega⟩⟩
        case round =>
          obtain ⟨x, t2, HN, HB, HQ⟩ := hrel
          clear HM1 HB1
          obtain ⟨n1, l1, sd⟩ := x
          have b0 : wr.cell? ⟨XB, 0, none⟩ = some (.int .i64 n1) := HB.out.cell 0
          have b1 : wr.cell? ⟨XB, 1, none⟩ = some (.int .i64 l1) := HB.out.cell 1
          have b2 : wr.cell? ⟨XB, 2, none⟩ = some (.bool sd) := HB.out.cell 2
          have hl0 : 0 ≤ l1 := HQ.out.2.1
          have hfar : farX b XB wr = (b - l1).toNat + (if sd then 0 else 1) := by unfold farX; rw [b1, b2]; rfl
          by_cases hlb : l1 < b
          · cases sd
            · go_wp2_with fail
              have hq3 : t2.1 + (b - l1).toNat ≤ t1.1 + (b - x0.low).toNat := HQ.out.2.2
              refine (HN.out.bit HL0.out (by omega) (fun ad e => by injection e with e; subst e; have := HVN.out _ rfl; simp only at this ⊢; omega)).mono ?_
              rintro e w4 ⟨rfl, hN4, hB4⟩
              have hB5 := hB4 XB _ HB.out
              have d0 : w4.cell? ⟨XB, 0, none⟩ = some (.int .i64 n1) := hB5.cell 0
              have d1 : w4.cell? ⟨XB, 1, none⟩ = some (.int .i64 l1) := hB5.cell 1
              have d2 : w4.cell? ⟨XB, 2, none⟩ = some (.bool false) := hB5.cell 2
              have g0 := hB5.frozen 0
              have g1 := hB5.frozen 1
              have g2 := hB5.frozen 2
              have hRP : (rdS l t2).1 ≤ t2.1 + 1 := rdP_le t2.1 t2.2.1
              have HN4 := hid hN4
              have HB5 := hid hB5
              clear hN4 hB4 hB5 HN HB
              by_cases hv : rdV l t2 = 1
              · have HO := hid (decN_one l b n1 l1 t2 hlb hv)
                rw [hv]
                have hks : Keep (fun a => a = XB) w4 ((w4.setCell ⟨XB, 2, none⟩ (.bool true)).setCell ⟨XB, 0, none⟩ (.int .i64 l1)) := (Keep.set1 w4 XB 2 _).setR 0 _
                have HN5 := hid (HN4.out.xb HXW.out hTl hgl hXl HOFF.out hks (cs := #[]))
                have HB6 : Hid (Blk ((w4.setCell ⟨XB, 2, none⟩ (.bool true)).setCell ⟨XB, 0, none⟩ (.int .i64 l1)) XB 81 #[.int .i64 l1, .int .i64 l1, .bool true, .int .i64 up]) := hid ((HB5.out.set_ 2 _).set_ 0 _)
                have HFAR := hid (show farX b XB ((w4.setCell ⟨XB, 2, none⟩ (.bool true)).setCell ⟨XB, 0, none⟩ (.int .i64 l1)) < farX b XB wr by
                  have e1 : ((w4.setCell ⟨XB, 2, none⟩ (.bool true)).setCell ⟨XB, 0, none⟩ (.int .i64 l1)).cell? ⟨XB, 1, none⟩ = some (.int .i64 l1) := HB6.out.cell 1
                  have e2 : ((w4.setCell ⟨XB, 2, none⟩ (.bool true)).setCell ⟨XB, 0, none⟩ (.int .i64 l1)).cell? ⟨XB, 2, none⟩ = some (.bool true) := HB6.out.cell 2
                  rw [hfar]
                  unfold farX
                  rw [e1, e2]
                  show (b - l1).toNat + 0 < (b - l1).toNat + 1
                  omega)
                have hQ := HQ.out
                rw [HO.out] at hQ
                have HQ2 : Hid (decN l b ⟨l1, l1, true⟩ (rdS l t2) = decN l b x0 t1 ∧ 0 ≤ l1 ∧ (rdS l t2).1 + (if true then 0 else (b - l1).toNat) ≤ t1.1 + (b - x0.low).toNat) := hid ⟨by rw [decN_done l b ⟨l1, l1, true⟩ _ (.inl rfl)]; exact hQ.1, hl0, by
                  rw [if_pos rfl]; omega⟩
                clear hv hQ HQ HO HN4 HB5 b0 b1 b2 hfar hks
                go_wp2_with fail
                exact ⟨⟨⟨l1, l1, true⟩, rdS l t2, HN5, HB6, HQ2⟩, HFAR.out⟩
              · have HO := hid (decN_zero l b n1 l1 t2 hlb hv)
                have hv' : (rdV l t2 == 1) = false := by simpa using hv
                have hks : Keep (fun a => a = XB) w4 (w4.setCell ⟨XB, 1, none⟩ (.int .i64 (l1 + 1))) := Keep.set1 w4 XB 1 _
                have HN5 := hid (HN4.out.xb HXW.out hTl hgl hXl HOFF.out hks (cs := #[]))
                have HB6 : Hid (Blk (w4.setCell ⟨XB, 1, none⟩ (.int .i64 (l1 + 1))) XB 81 #[.int .i64 n1, .int .i64 (l1 + 1), .bool false, .int .i64 up]) := hid (HB5.out.set_ 1 _)
                have HFAR := hid (show farX b XB (w4.setCell ⟨XB, 1, none⟩ (.int .i64 (l1 + 1))) < farX b XB wr by
                  have e1 : (w4.setCell ⟨XB, 1, none⟩ (.int .i64 (l1 + 1))).cell? ⟨XB, 1, none⟩ = some (.int .i64 (l1 + 1)) := HB6.out.cell 1
                  have e2 : (w4.setCell ⟨XB, 1, none⟩ (.int .i64 (l1 + 1))).cell? ⟨XB, 2, none⟩ = some (.bool false) := HB6.out.cell 2
                  rw [hfar]
                  unfold farX
                  rw [e1, e2]
                  show (b - (l1 + 1)).toNat + 1 < (b - l1).toNat + 1
                  omega)
                have hQ := HQ.out
                rw [HO.out] at hQ
                have HQ2 : Hid (decN l b ⟨n1, l1 + 1, false⟩ (rdS l t2) = decN l b x0 t1 ∧ 0 ≤ l1 + 1 ∧ (rdS l t2).1 + (if false then 0 else (b - (l1 + 1)).toNat) ≤ t1.1 + (b - x0.low).toNat) := hid ⟨hQ.1, by omega, by rw [if_neg (by decide)]; omega⟩
                clear hv hQ HQ HO HN4 HB5 b0 b1 b2 hfar hks
                generalize rdV l t2 = bit at *
                go_wp2_with fail
                exact ⟨⟨⟨n1, l1 + 1, false⟩, rdS l t2, HN5, HB6, HQ2⟩, HFAR.out⟩
            · have HO := hid (decN_done l b ⟨n1, l1, true⟩ t2 (.inl rfl))
              have hz := HZ.out ⟨n1, l1, true⟩ t2 (by rw [← HQ.out.1, HO.out])
              have HZ2 := hid hz
              clear hz HQ HO HZ hfar
              have b3 : wr.cell? ⟨XB, 3, none⟩ = some (.int .i64 up) := HB.out.cell 3
              have q0 : wr.cell? ⟨T, 0, none⟩ = some (.slice (some ⟨g, 0, none⟩) tot cap) := HN.out.tr.blk.cell 0
              have hcV := HWC.out wr HN.out.way
              have hcg := HN.out.tr.cell i j hiL HJ.out
              rw [← HFL.out, Nat.mul_comm 4 fl, HUJ.out] at hcg
              have c0 : wr.cell? ⟨g, fl * 4, none⟩ = some (.int .i64 (N1 i j).n) := hcg 0 _ rfl
              have c1 : wr.cell? ⟨g, fl * 4 + 1, none⟩ = some (.int .i64 (N1 i j).low) := hcg 1 _ rfl
              have c2 : wr.cell? ⟨g, fl * 4 + 2, none⟩ = some (.bool (N1 i j).said) := hcg 2 _ rfl
              have c3 : wr.cell? ⟨g, fl * 4 + 3, none⟩ = some (.int .i64 up) := hcg 3 _ rfl
              have hfz := HN.out.tr.frozen
              have z0 := hfz (fl * 4)
              have z1 := hfz (fl * 4 + 1)
              have z2 := hfz (fl * 4 + 2)
              have z3 := hfz (fl * 4 + 3)
              have hput := HN.out.tr.put (x := ⟨n1, l1, true⟩) hiL HJ.out
              rw [← HFL.out, Nat.mul_comm 4 fl, HUJ.out] at hput
              have HP := hid hput
              have HGK := hid (show Keep (fun a => a = g) wr ((((wr.setCell ⟨g, fl * 4, none⟩ (.int .i64 n1)).setCell ⟨g, fl * 4 + 1, none⟩ (.int .i64 l1)).setCell ⟨g, fl * 4 + 2, none⟩ (.bool true)).setCell ⟨g, fl * 4 + 3, none⟩ (.int .i64 up)).drew from ((((Keep.refl _ wr).setR (R := g) _ _).setR _ _).setR _ _).setR _ _ |>.drew)
              have HRT := hid (show RT ((((wr.setCell ⟨g, fl * 4, none⟩ (.int .i64 n1)).setCell ⟨g, fl * 4 + 1, none⟩ (.int .i64 l1)).setCell ⟨g, fl * 4 + 2, none⟩ (.bool true)).setCell ⟨g, fl * 4 + 3, none⟩ (.int .i64 up)).drew T g tot cap L W H (updT N1 i j ⟨n1, l1, true⟩) from RT.aside HP.out.2.1 ((Keep.refl (fun _ => False) _).drew))
              have hgt := HN.out.tr.row
              have HRM : Hid (RM w T g tot cap L W H k (some ⟨bV, oV, none⟩) X A n c l (updT N1 i j ⟨n1, l1, true⟩) t2 ((((wr.setCell ⟨g, fl * 4, none⟩ (.int .i64 n1)).setCell ⟨g, fl * 4 + 1, none⟩ (.int .i64 l1)).setCell ⟨g, fl * 4 + 2, none⟩ (.bool true)).setCell ⟨g, fl * 4 + 3, none⟩ (.int .i64 up)).drew) := hid
                ⟨HRT.out, HN.out.way.keep HGK.out (fun ad e => by have h1 := HVN.out ad e; omega), Xc.keep HN.out.rd HGK.out (by obtain ⟨cs, hg⟩ := hgt; exact Blk.ne_ (Xc.blk HN.out.rd) hg (by decide)) (fun hn ad e => HFAR.out hn ad e), HN.out.ok, HN.out.keep.trans HGK.out (fun _ _ e => .inl e)⟩
              have HE9 := hid (HGK.out.cell b1 (show ¬ XB = g by omega))
              have HS9 : Hid (w1.heap.size ≤ (((((wr.setCell ⟨g, fl * 4, none⟩ (.int .i64 n1)).setCell ⟨g, fl * 4 + 1, none⟩ (.int .i64 l1)).setCell ⟨g, fl * 4 + 2, none⟩ (.bool true)).setCell ⟨g, fl * 4 + 3, none⟩ (.int .i64 up)).drew).heap.size) := hid (by have h1 := HS2.out; have h2 := HB.out.lt; have h3 := HGK.out.size; omega)
              clear hcg hfz hput hgt
              go_wp2_with fail
              -- region 15: 11 operations
              refine At.start (L := #[false, false, false, false, false, false, false, false, false, false, false]) (by kernel_rfl) rfl ?_
              refine At.pure 0 (some 67) (v := ?v0pu) rfl rfl (by kernel_rfl) (fun _ _ _ h => h) rfl (fun w' => ?y0pu) ?_   
              case y0pu => go_simp; try with_reducible rfl
              try simp only [Act.put, List.setIfInBounds_toArray, List.set_cons_zero, List.set_cons_succ]
              refine At.pure 1 (some 68) (v := ?v1pu) rfl rfl (by kernel_rfl) (fun _ _ _ h => h) rfl (fun w' => ?y1pu) ?_   
              case y1pu => go_simp; try with_reducible rfl
              try simp only [Act.put, List.setIfInBounds_toArray, List.set_cons_zero, List.set_cons_succ]
              refine At.pure 2 (some 69) (v := ?v2pu) rfl rfl (by kernel_rfl) (fun _ _ _ h => h) rfl (fun w' => ?y2pu) ?_   
              case y2pu => go_simp; try with_reducible rfl
              try simp only [Act.put, List.setIfInBounds_toArray, List.set_cons_zero, List.set_cons_succ]
              refine At.read 3 (some 70) (fun w' => w'.cell? ⟨T, 0, none⟩ = some (.slice (some ⟨g, 0, none⟩) tot cap)) (v := ?v3pu) rfl rfl (by kernel_rfl) (fun _ _ _ h => h) rfl q0 (fun w' hw' => ?y3pu) ?_   
              case y3pu => skip; go_simp; try with_reducible rfl
              try simp only [Act.put, List.setIfInBounds_toArray, List.set_cons_zero, List.set_cons_succ]
              refine At.pure 4 (some 71) (v := ?v4pu) rfl rfl (by kernel_rfl) (fun _ _ _ h => h) rfl (fun w' => ?y4pu) ?_   
              case y4pu => go_simp; try with_reducible rfl
              try simp only [Act.put, List.setIfInBounds_toArray, List.set_cons_zero, List.set_cons_succ]
              refine At.pure 5 (some 72) (v := ?v5pu) rfl rfl (by kernel_rfl) (fun _ _ _ h => h) rfl (fun w' => ?y5pu) ?_   
              case y5pu => go_simp; try with_reducible rfl
              try simp only [Act.put, List.setIfInBounds_toArray, List.set_cons_zero, List.set_cons_succ]
              refine At.pure 6 (some 73) (v := ?v6pu) rfl rfl (by kernel_rfl) (fun _ _ _ h => h) rfl (fun w' => ?y6pu) ?_   
              case y6pu => go_simp; try with_reducible rfl
              try simp only [Act.put, List.setIfInBounds_toArray, List.set_cons_zero, List.set_cons_succ]
              refine At.read 7 (some 74) (fun w' => w'.cell? ⟨bV, oV + r, none⟩ = some (.int .i64 fl)) (v := ?v7pu) rfl rfl (by kernel_rfl) (fun _ _ _ h => h) rfl hcV (fun w' hw' => ?y7pu) ?_   
              case y7pu => skip; go_simp; try with_reducible rfl
              try simp only [Act.put, List.setIfInBounds_toArray, List.set_cons_zero, List.set_cons_succ]
              refine At.read 8 (some 75) (fun w' => w'.cell? ⟨XB, 0, none⟩ = some (.int .i64 n1) ∧ w'.cell? ⟨XB, 1, none⟩ = some (.int .i64 l1) ∧ w'.cell? ⟨XB, 2, none⟩ = some (.bool true) ∧ w'.cell? ⟨XB, 3, none⟩ = some (.int .i64 up)) (v := (.agg #[.int .i64 n1, .int .i64 l1, .bool true, .int .i64 up])) rfl rfl (by kernel_rfl) (fun _ _ _ h => h) rfl ⟨b0, b1, b2, b3⟩ (fun w' hw' => ?y8pu) ?_   
              case y8pu => obtain ⟨h1, h2, h3, h4⟩ := hw'; go_simp; try with_reducible rfl
              try simp only [Act.put, List.setIfInBounds_toArray, List.set_cons_zero, List.set_cons_succ]
              refine At.pure 9 (some 76) (v := ?v9pu) rfl rfl (by kernel_rfl) (fun _ _ _ h => h) rfl (fun w' => ?y9pu) ?_   
              case y9pu => go_simp; try with_reducible rfl
              try simp only [Act.put, List.setIfInBounds_toArray, List.set_cons_zero, List.set_cons_succ]
              refine At.call 10 (pend' := []) rfl (by kernel_rfl) rfl (by kernel_rfl) (fun K hK => ?_)   
              go_simp
              refine hK _ _ all_nil ?_
              clear hK K
              try simp only [Act.put, List.setIfInBounds_toArray, List.set_cons_zero, List.set_cons_succ]
              refine At.done (by kernel_rfl) ?_
              clear HP HGK HRT HN HB b0 b1 b2 b3 q0 hcV c0 c1 c2 c3 z0 z1 z2 z3
              generalize ((((wr.setCell ⟨g, fl * 4, none⟩ (.int .i64 n1)).setCell ⟨g, fl * 4 + 1, none⟩ (.int .i64 l1)).setCell ⟨g, fl * 4 + 2, none⟩ (.bool true)).setCell ⟨g, fl * 4 + 3, none⟩ (.int .i64 up)).drew = w9 at *
              have e9 := HE9.out
              have HL9 := hid (show l1 = (decI l W L k b N t (r + 1)).1 by rw [HZ2.out])
              have HM9 : Hid (RM w T g tot cap L W H k (some ⟨bV, oV, none⟩) X A n c l (decI l W L k b N t (r + 1)).2.1 (decI l W L k b N t (r + 1)).2.2 w9) := hid (by rw [HZ2.out]; exact HRM.out)
              clear HRM HZ2 HE9
              go_wp2_with fail
              go_roundw
              case rel =>
                first
                | exact ⟨r + 1, by omega, by rw [← HL9.out], by go_num, HM9, HS9⟩
                | ((repeat apply Exists.intro); refine ⟨?_, rfl⟩; exact ⟨r + 1, by omega, by rw [← HL9.out], by go_num, HM9, HS9⟩)
              case measure => simp [intOf]; omega
          · have hlb : b ≤ l1 := by omega
            have HO := hid (decN_done l b ⟨n1, l1, sd⟩ t2 (.inr hlb))
            have hz := HZ.out ⟨n1, l1, sd⟩ t2 (by rw [← HQ.out.1, HO.out])
            have HZ2 := hid hz
            clear hz HQ HO HZ hfar
            have b3 : wr.cell? ⟨XB, 3, none⟩ = some (.int .i64 up) := HB.out.cell 3
            have q0 : wr.cell? ⟨T, 0, none⟩ = some (.slice (some ⟨g, 0, none⟩) tot cap) := HN.out.tr.blk.cell 0
            have hcV := HWC.out wr HN.out.way
            have hcg := HN.out.tr.cell i j hiL HJ.out
            rw [← HFL.out, Nat.mul_comm 4 fl, HUJ.out] at hcg
            have c0 : wr.cell? ⟨g, fl * 4, none⟩ = some (.int .i64 (N1 i j).n) := hcg 0 _ rfl
            have c1 : wr.cell? ⟨g, fl * 4 + 1, none⟩ = some (.int .i64 (N1 i j).low) := hcg 1 _ rfl
            have c2 : wr.cell? ⟨g, fl * 4 + 2, none⟩ = some (.bool (N1 i j).said) := hcg 2 _ rfl
            have c3 : wr.cell? ⟨g, fl * 4 + 3, none⟩ = some (.int .i64 up) := hcg 3 _ rfl
            have hfz := HN.out.tr.frozen
            have z0 := hfz (fl * 4)
            have z1 := hfz (fl * 4 + 1)
            have z2 := hfz (fl * 4 + 2)
            have z3 := hfz (fl * 4 + 3)
            have hput := HN.out.tr.put (x := ⟨n1, l1, sd⟩) hiL HJ.out
            rw [← HFL.out, Nat.mul_comm 4 fl, HUJ.out] at hput
            have HP := hid hput
            have HGK := hid (show Keep (fun a => a = g) wr ((((wr.setCell ⟨g, fl * 4, none⟩ (.int .i64 n1)).setCell ⟨g, fl * 4 + 1, none⟩ (.int .i64 l1)).setCell ⟨g, fl * 4 + 2, none⟩ (.bool sd)).setCell ⟨g, fl * 4 + 3, none⟩ (.int .i64 up)).drew from ((((Keep.refl _ wr).setR (R := g) _ _).setR _ _).setR _ _).setR _ _ |>.drew)
            have HRT := hid (show RT ((((wr.setCell ⟨g, fl * 4, none⟩ (.int .i64 n1)).setCell ⟨g, fl * 4 + 1, none⟩ (.int .i64 l1)).setCell ⟨g, fl * 4 + 2, none⟩ (.bool sd)).setCell ⟨g, fl * 4 + 3, none⟩ (.int .i64 up)).drew T g tot cap L W H (updT N1 i j ⟨n1, l1, sd⟩) from RT.aside HP.out.2.1 ((Keep.refl (fun _ => False) _).drew))
            have hgt := HN.out.tr.row
            have HRM : Hid (RM w T g tot cap L W H k (some ⟨bV, oV, none⟩) X A n c l (updT N1 i j ⟨n1, l1, sd⟩) t2 ((((wr.setCell ⟨g, fl * 4, none⟩ (.int .i64 n1)).setCell ⟨g, fl * 4 + 1, none⟩ (.int .i64 l1)).setCell ⟨g, fl * 4 + 2, none⟩ (.bool sd)).setCell ⟨g, fl * 4 + 3, none⟩ (.int .i64 up)).drew) := hid
              ⟨HRT.out, HN.out.way.keep HGK.out (fun ad e => by have h1 := HVN.out ad e; omega), Xc.keep HN.out.rd HGK.out (by obtain ⟨cs, hg⟩ := hgt; exact Blk.ne_ (Xc.blk HN.out.rd) hg (by decide)) (fun hn ad e => HFAR.out hn ad e), HN.out.ok, HN.out.keep.trans HGK.out (fun _ _ e => .inl e)⟩
            have HE9 := hid (HGK.out.cell b1 (show ¬ XB = g by omega))
            have HS9 : Hid (w1.heap.size ≤ (((((wr.setCell ⟨g, fl * 4, none⟩ (.int .i64 n1)).setCell ⟨g, fl * 4 + 1, none⟩ (.int .i64 l1)).setCell ⟨g, fl * 4 + 2, none⟩ (.bool sd)).setCell ⟨g, fl * 4 + 3, none⟩ (.int .i64 up)).drew).heap.size) := hid (by have h1 := HS2.out; have h2 := HB.out.lt; have h3 := HGK.out.size; omega)
            clear hcg hfz hput hgt
            go_wp2_with fail
            -- region 15: 11 operations
            refine At.start (L := #[false, false, false, false, false, false, false, false, false, false, false]) (by kernel_rfl) rfl ?_
            refine At.pure 0 (some 67) (v := ?v0pv) rfl rfl (by kernel_rfl) (fun _ _ _ h => h) rfl (fun w' => ?y0pv) ?_   
            case y0pv => go_simp; try with_reducible rfl
            try simp only [Act.put, List.setIfInBounds_toArray, List.set_cons_zero, List.set_cons_succ]
            refine At.pure 1 (some 68) (v := ?v1pv) rfl rfl (by kernel_rfl) (fun _ _ _ h => h) rfl (fun w' => ?y1pv) ?_   
            case y1pv => go_simp; try with_reducible rfl
            try simp only [Act.put, List.setIfInBounds_toArray, List.set_cons_zero, List.set_cons_succ]
            refine At.pure 2 (some 69) (v := ?v2pv) rfl rfl (by kernel_rfl) (fun _ _ _ h => h) rfl (fun w' => ?y2pv) ?_   
            case y2pv => go_simp; try with_reducible rfl
            try simp only [Act.put, List.setIfInBounds_toArray, List.set_cons_zero, List.set_cons_succ]
            refine At.read 3 (some 70) (fun w' => w'.cell? ⟨T, 0, none⟩ = some (.slice (some ⟨g, 0, none⟩) tot cap)) (v := ?v3pv) rfl rfl (by kernel_rfl) (fun _ _ _ h => h) rfl q0 (fun w' hw' => ?y3pv) ?_   
            case y3pv => skip; go_simp; try with_reducible rfl
            try simp only [Act.put, List.setIfInBounds_toArray, List.set_cons_zero, List.set_cons_succ]
            refine At.pure 4 (some 71) (v := ?v4pv) rfl rfl (by kernel_rfl) (fun _ _ _ h => h) rfl (fun w' => ?y4pv) ?_   
            case y4pv => go_simp; try with_reducible rfl
            try simp only [Act.put, List.setIfInBounds_toArray, List.set_cons_zero, List.set_cons_succ]
            refine At.pure 5 (some 72) (v := ?v5pv) rfl rfl (by kernel_rfl) (fun _ _ _ h => h) rfl (fun w' => ?y5pv) ?_   
            case y5pv => go_simp; try with_reducible rfl
            try simp only [Act.put, List.setIfInBounds_toArray, List.set_cons_zero, List.set_cons_succ]
            refine At.pure 6 (some 73) (v := ?v6pv) rfl rfl (by kernel_rfl) (fun _ _ _ h => h) rfl (fun w' => ?y6pv) ?_   
            case y6pv => go_simp; try with_reducible rfl
            try simp only [Act.put, List.setIfInBounds_toArray, List.set_cons_zero, List.set_cons_succ]
            refine At.read 7 (some 74) (fun w' => w'.cell? ⟨bV, oV + r, none⟩ = some (.int .i64 fl)) (v := ?v7pv) rfl rfl (by kernel_rfl) (fun _ _ _ h => h) rfl hcV (fun w' hw' => ?y7pv) ?_   
            case y7pv => skip; go_simp; try with_reducible rfl
            try simp only [Act.put, List.setIfInBounds_toArray, List.set_cons_zero, List.set_cons_succ]
            refine At.read 8 (some 75) (fun w' => w'.cell? ⟨XB, 0, none⟩ = some (.int .i64 n1) ∧ w'.cell? ⟨XB, 1, none⟩ = some (.int .i64 l1) ∧ w'.cell? ⟨XB, 2, none⟩ = some (.bool sd) ∧ w'.cell? ⟨XB, 3, none⟩ = some (.int .i64 up)) (v := (.agg #[.int .i64 n1, .int .i64 l1, .bool sd, .int .i64 up])) rfl rfl (by kernel_rfl) (fun _ _ _ h => h) rfl ⟨b0, b1, b2, b3⟩ (fun w' hw' => ?y8pv) ?_   
            case y8pv => obtain ⟨h1, h2, h3, h4⟩ := hw'; go_simp; try with_reducible rfl
            try simp only [Act.put, List.setIfInBounds_toArray, List.set_cons_zero, List.set_cons_succ]
            refine At.pure 9 (some 76) (v := ?v9pv) rfl rfl (by kernel_rfl) (fun _ _ _ h => h) rfl (fun w' => ?y9pv) ?_   
            case y9pv => go_simp; try with_reducible rfl
            try simp only [Act.put, List.setIfInBounds_toArray, List.set_cons_zero, List.set_cons_succ]
            refine At.call 10 (pend' := []) rfl (by kernel_rfl) rfl (by kernel_rfl) (fun K hK => ?_)   
            go_simp
            refine hK _ _ all_nil ?_
            clear hK K
            try simp only [Act.put, List.setIfInBounds_toArray, List.set_cons_zero, List.set_cons_succ]
            refine At.done (by kernel_rfl) ?_
            clear HP HGK HRT HN HB b0 b1 b2 b3 q0 hcV c0 c1 c2 c3 z0 z1 z2 z3
            generalize ((((wr.setCell ⟨g, fl * 4, none⟩ (.int .i64 n1)).setCell ⟨g, fl * 4 + 1, none⟩ (.int .i64 l1)).setCell ⟨g, fl * 4 + 2, none⟩ (.bool sd)).setCell ⟨g, fl * 4 + 3, none⟩ (.int .i64 up)).drew = w9 at *
            have e9 := HE9.out
            have HL9 := hid (show l1 = (decI l W L k b N t (r + 1)).1 by rw [HZ2.out])
            have HM9 : Hid (RM w T g tot cap L W H k (some ⟨bV, oV, none⟩) X A n c l (decI l W L k b N t (r + 1)).2.1 (decI l W L k b N t (r + 1)).2.2 w9) := hid (by rw [HZ2.out]; exact HRM.out)
            clear HRM HZ2 HE9
            go_wp2_with fail
            go_roundw
            case rel =>
              first
              | exact ⟨r + 1, by omega, by rw [← HL9.out], by go_num, HM9, HS9⟩
              | ((repeat apply Exists.intro); refine ⟨?_, rfl⟩; exact ⟨r + 1, by omega, by rw [← HL9.out], by go_num, HM9, HS9⟩)
            case measure => simp [intOf]; omega
      case inr =>
        have hlt := h
        clear h
        have hm : max (N1 i j).low low = (N1 i j).low := by omega
        rw [hm] at HZ
        have hM0 : 0 ≤ (N1 i j).low := by omega
        have hks : Keep (fun a => a = XB) wb (wb.setCell ⟨XB, 1, none⟩ (.int .i64 ((N1 i j).low))) := Keep.set1 wb XB 1 _
        have HM1 := hid (HMB.out.xb HXW.out hTl hgl hXl HOFF.out hks (cs := #[]))
        have HB1 : Hid (Blk (wb.setCell ⟨XB, 1, none⟩ (.int .i64 ((N1 i j).low))) XB 81 #[.int .i64 (N1 i j).n, .int .i64 ((N1 i j).low), .bool (N1 i j).said, .int .i64 up]) := hid (HBB.out.set_ 1 _)
        have HS1 : Hid (XB + 1 ≤ (wb.setCell ⟨XB, 1, none⟩ (.int .i64 ((N1 i j).low))).heap.size) := hid (by rw [World.size_setCell]; exact HSB.out)
        clear HMB HBB HSB b0 b1 b2 f1 hm hlt hks
        generalize wb.setCell ⟨XB, 1, none⟩ (.int .i64 ((N1 i j).low)) = w3 at *
        generalize hx0 : (⟨(N1 i j).n, (N1 i j).low, (N1 i j).said⟩ : Nd) = x0 at *
        have hx0l : 0 ≤ x0.low := by rw [← hx0]; exact hM0
        have HB1 : Hid (Blk w3 XB 81 #[.int .i64 x0.n, .int .i64 x0.low, .bool x0.said, .int .i64 up]) := hid (by rw [← hx0]; exact HB1.out)
        clear hx0 hM0
        go_loopw [] (fun wr => ∃ (x : Nd) (t2 : RS), Hid (RM w T g tot cap L W H k (some ⟨bV, oV, none⟩) X A n c l N1 t2 wr) ∧ Hid (Blk wr XB 81 #[.int .i64 x.n, .int .i64 x.low, .bool x.said, .int .i64 up]) ∧ Hid (decN l b x t2 = decN l b x0 t1 ∧ 0 ≤ x.low ∧ t2.1 + (if x.said then 0 else (b - x.low).toNat) ≤ t1.1 + (b - x0.low).toNat)) (fun wr => farX b XB wr)
        case atStart => exact ⟨x0, t1, HM1, HB1, hid ⟨rfl, hx0l, by split <;> omega⟩⟩
        case round =>
          obtain ⟨x, t2, HN, HB, HQ⟩ := hrel
          clear HM1 HB1
          obtain ⟨n1, l1, sd⟩ := x
          have b0 : wr.cell? ⟨XB, 0, none⟩ = some (.int .i64 n1) := HB.out.cell 0
          have b1 : wr.cell? ⟨XB, 1, none⟩ = some (.int .i64 l1) := HB.out.cell 1
          have b2 : wr.cell? ⟨XB, 2, none⟩ = some (.bool sd) := HB.out.cell 2
          have hl0 : 0 ≤ l1 := HQ.out.2.1
          have hfar : farX b XB wr = (b - l1).toNat + (if sd then 0 else 1) := by unfold farX; rw [b1, b2]; rfl
          by_cases hlb : l1 < b
          · cases sd
            · go_wp2_with fail
              have hq3 : t2.1 + (b - l1).toNat ≤ t1.1 + (b - x0.low).toNat := HQ.out.2.2
              refine (HN.out.bit HL0.out (by omega) (fun ad e => by injection e with e; subst e; have := HVN.out _ rfl; simp only at this ⊢; omega)).mono ?_
              rintro e w4 ⟨rfl, hN4, hB4⟩
              have hB5 := hB4 XB _ HB.out
              have d0 : w4.cell? ⟨XB, 0, none⟩ = some (.int .i64 n1) := hB5.cell 0
              have d1 : w4.cell? ⟨XB, 1, none⟩ = some (.int .i64 l1) := hB5.cell 1
              have d2 : w4.cell? ⟨XB, 2, none⟩ = some (.bool false) := hB5.cell 2
              have g0 := hB5.frozen 0
              have g1 := hB5.frozen 1
              have g2 := hB5.frozen 2
              have hRP : (rdS l t2).1 ≤ t2.1 + 1 := rdP_le t2.1 t2.2.1
              have HN4 := hid hN4
              have HB5 := hid hB5
              clear hN4 hB4 hB5 HN HB
              by_cases hv : rdV l t2 = 1
              · have HO := hid (decN_one l b n1 l1 t2 hlb hv)
                rw [hv]
                have hks : Keep (fun a => a = XB) w4 ((w4.setCell ⟨XB, 2, none⟩ (.bool true)).setCell ⟨XB, 0, none⟩ (.int .i64 l1)) := (Keep.set1 w4 XB 2 _).setR 0 _
                have HN5 := hid (HN4.out.xb HXW.out hTl hgl hXl HOFF.out hks (cs := #[]))
                have HB6 : Hid (Blk ((w4.setCell ⟨XB, 2, none⟩ (.bool true)).setCell ⟨XB, 0, none⟩ (.int .i64 l1)) XB 81 #[.int .i64 l1, .int .i64 l1, .bool true, .int .i64 up]) := hid ((HB5.out.set_ 2 _).set_ 0 _)
                have HFAR := hid (show farX b XB ((w4.setCell ⟨XB, 2, none⟩ (.bool true)).setCell ⟨XB, 0, none⟩ (.int .i64 l1)) < farX b XB wr by
                  have e1 : ((w4.setCell ⟨XB, 2, none⟩ (.bool true)).setCell ⟨XB, 0, none⟩ (.int .i64 l1)).cell? ⟨XB, 1, none⟩ = some (.int .i64 l1) := HB6.out.cell 1
                  have e2 : ((w4.setCell ⟨XB, 2, none⟩ (.bool true)).setCell ⟨XB, 0, none⟩ (.int .i64 l1)).cell? ⟨XB, 2, none⟩ = some (.bool true) := HB6.out.cell 2
                  rw [hfar]
                  unfold farX
                  rw [e1, e2]
                  show (b - l1).toNat + 0 < (b - l1).toNat + 1
                  omega)
                have hQ := HQ.out
                rw [HO.out] at hQ
                have HQ2 : Hid (decN l b ⟨l1, l1, true⟩ (rdS l t2) = decN l b x0 t1 ∧ 0 ≤ l1 ∧ (rdS l t2).1 + (if true then 0 else (b - l1).toNat) ≤ t1.1 + (b - x0.low).toNat) := hid ⟨by rw [decN_done l b ⟨l1, l1, true⟩ _ (.inl rfl)]; exact hQ.1, hl0, by
                  rw [if_pos rfl]; omega⟩
                clear hv hQ HQ HO HN4 HB5 b0 b1 b2 hfar hks
                go_wp2_with fail
                exact ⟨⟨⟨l1, l1, true⟩, rdS l t2, HN5, HB6, HQ2⟩, HFAR.out⟩
              · have HO := hid (decN_zero l b n1 l1 t2 hlb hv)
                have hv' : (rdV l t2 == 1) = false := by simpa using hv
                have hks : Keep (fun a => a = XB) w4 (w4.setCell ⟨XB, 1, none⟩ (.int .i64 (l1 + 1))) := Keep.set1 w4 XB 1 _
                have HN5 := hid (HN4.out.xb HXW.out hTl hgl hXl HOFF.out hks (cs := #[]))
                have HB6 : Hid (Blk (w4.setCell ⟨XB, 1, none⟩ (.int .i64 (l1 + 1))) XB 81 #[.int .i64 n1, .int .i64 (l1 + 1), .bool false, .int .i64 up]) := hid (HB5.out.set_ 1 _)
                have HFAR := hid (show farX b XB (w4.setCell ⟨XB, 1, none⟩ (.int .i64 (l1 + 1))) < farX b XB wr by
                  have e1 : (w4.setCell ⟨XB, 1, none⟩ (.int .i64 (l1 + 1))).cell? ⟨XB, 1, none⟩ = some (.int .i64 (l1 + 1)) := HB6.out.cell 1
                  have e2 : (w4.setCell ⟨XB, 1, none⟩ (.int .i64 (l1 + 1))).cell? ⟨XB, 2, none⟩ = some (.bool false) := HB6.out.cell 2
                  rw [hfar]
                  unfold farX
                  rw [e1, e2]
                  show (b - (l1 + 1)).toNat + 1 < (b - l1).toNat + 1
                  omega)
                have hQ := HQ.out
                rw [HO.out] at hQ
                have HQ2 : Hid (decN l b ⟨n1, l1 + 1, false⟩ (rdS l t2) = decN l b x0 t1 ∧ 0 ≤ l1 + 1 ∧ (rdS l t2).1 + (if false then 0 else (b - (l1 + 1)).toNat) ≤ t1.1 + (b - x0.low).toNat) := hid ⟨hQ.1, by omega, by rw [if_neg (by decide)]; omega⟩
                clear hv hQ HQ HO HN4 HB5 b0 b1 b2 hfar hks
                generalize rdV l t2 = bit at *
                go_wp2_with fail
                exact ⟨⟨⟨n1, l1 + 1, false⟩, rdS l t2, HN5, HB6, HQ2⟩, HFAR.out⟩
            · have HO := hid (decN_done l b ⟨n1, l1, true⟩ t2 (.inl rfl))
              have hz := HZ.out ⟨n1, l1, true⟩ t2 (by rw [← HQ.out.1, HO.out])
              have HZ2 := hid hz
              clear hz HQ HO HZ hfar
              have b3 : wr.cell? ⟨XB, 3, none⟩ = some (.int .i64 up) := HB.out.cell 3
              have q0 : wr.cell? ⟨T, 0, none⟩ = some (.slice (some ⟨g, 0, none⟩) tot cap) := HN.out.tr.blk.cell 0
              have hcV := HWC.out wr HN.out.way
              have hcg := HN.out.tr.cell i j hiL HJ.out
              rw [← HFL.out, Nat.mul_comm 4 fl, HUJ.out] at hcg
              have c0 : wr.cell? ⟨g, fl * 4, none⟩ = some (.int .i64 (N1 i j).n) := hcg 0 _ rfl
              have c1 : wr.cell? ⟨g, fl * 4 + 1, none⟩ = some (.int .i64 (N1 i j).low) := hcg 1 _ rfl
              have c2 : wr.cell? ⟨g, fl * 4 + 2, none⟩ = some (.bool (N1 i j).said) := hcg 2 _ rfl
              have c3 : wr.cell? ⟨g, fl * 4 + 3, none⟩ = some (.int .i64 up) := hcg 3 _ rfl
              have hfz := HN.out.tr.frozen
              have z0 := hfz (fl * 4)
              have z1 := hfz (fl * 4 + 1)
              have z2 := hfz (fl * 4 + 2)
              have z3 := hfz (fl * 4 + 3)
              have hput := HN.out.tr.put (x := ⟨n1, l1, true⟩) hiL HJ.out
              rw [← HFL.out, Nat.mul_comm 4 fl, HUJ.out] at hput
              have HP := hid hput
              have HGK := hid (show Keep (fun a => a = g) wr ((((wr.setCell ⟨g, fl * 4, none⟩ (.int .i64 n1)).setCell ⟨g, fl * 4 + 1, none⟩ (.int .i64 l1)).setCell ⟨g, fl * 4 + 2, none⟩ (.bool true)).setCell ⟨g, fl * 4 + 3, none⟩ (.int .i64 up)).drew from ((((Keep.refl _ wr).setR (R := g) _ _).setR _ _).setR _ _).setR _ _ |>.drew)
              have HRT := hid (show RT ((((wr.setCell ⟨g, fl * 4, none⟩ (.int .i64 n1)).setCell ⟨g, fl * 4 + 1, none⟩ (.int .i64 l1)).setCell ⟨g, fl * 4 + 2, none⟩ (.bool true)).setCell ⟨g, fl * 4 + 3, none⟩ (.int .i64 up)).drew T g tot cap L W H (updT N1 i j ⟨n1, l1, true⟩) from RT.aside HP.out.2.1 ((Keep.refl (fun _ => False) _).drew))
              have hgt := HN.out.tr.row
              have HRM : Hid (RM w T g tot cap L W H k (some ⟨bV, oV, none⟩) X A n c l (updT N1 i j ⟨n1, l1, true⟩) t2 ((((wr.setCell ⟨g, fl * 4, none⟩ (.int .i64 n1)).setCell ⟨g, fl * 4 + 1, none⟩ (.int .i64 l1)).setCell ⟨g, fl * 4 + 2, none⟩ (.bool true)).setCell ⟨g, fl * 4 + 3, none⟩ (.int .i64 up)).drew) := hid
                ⟨HRT.out, HN.out.way.keep HGK.out (fun ad e => by have h1 := HVN.out ad e; omega), Xc.keep HN.out.rd HGK.out (by obtain ⟨cs, hg⟩ := hgt; exact Blk.ne_ (Xc.blk HN.out.rd) hg (by decide)) (fun hn ad e => HFAR.out hn ad e), HN.out.ok, HN.out.keep.trans HGK.out (fun _ _ e => .inl e)⟩
              have HE9 := hid (HGK.out.cell b1 (show ¬ XB = g by omega))
              have HS9 : Hid (w1.heap.size ≤ (((((wr.setCell ⟨g, fl * 4, none⟩ (.int .i64 n1)).setCell ⟨g, fl * 4 + 1, none⟩ (.int .i64 l1)).setCell ⟨g, fl * 4 + 2, none⟩ (.bool true)).setCell ⟨g, fl * 4 + 3, none⟩ (.int .i64 up)).drew).heap.size) := hid (by have h1 := HS2.out; have h2 := HB.out.lt; have h3 := HGK.out.size; omega)
              clear hcg hfz hput hgt
              go_wp2_with fail
              -- region 15: 11 operations
              refine At.start (L := #[false, false, false, false, false, false, false, false, false, false, false]) (by kernel_rfl) rfl ?_
              refine At.pure 0 (some 67) (v := ?v0qu) rfl rfl (by kernel_rfl) (fun _ _ _ h => h) rfl (fun w' => ?y0qu) ?_   
              case y0qu => go_simp; try with_reducible rfl
              try simp only [Act.put, List.setIfInBounds_toArray, List.set_cons_zero, List.set_cons_succ]
              refine At.pure 1 (some 68) (v := ?v1qu) rfl rfl (by kernel_rfl) (fun _ _ _ h => h) rfl (fun w' => ?y1qu) ?_   
              case y1qu => go_simp; try with_reducible rfl
              try simp only [Act.put, List.setIfInBounds_toArray, List.set_cons_zero, List.set_cons_succ]
              refine At.pure 2 (some 69) (v := ?v2qu) rfl rfl (by kernel_rfl) (fun _ _ _ h => h) rfl (fun w' => ?y2qu) ?_   
              case y2qu => go_simp; try with_reducible rfl
              try simp only [Act.put, List.setIfInBounds_toArray, List.set_cons_zero, List.set_cons_succ]
              refine At.read 3 (some 70) (fun w' => w'.cell? ⟨T, 0, none⟩ = some (.slice (some ⟨g, 0, none⟩) tot cap)) (v := ?v3qu) rfl rfl (by kernel_rfl) (fun _ _ _ h => h) rfl q0 (fun w' hw' => ?y3qu) ?_   
              case y3qu => skip; go_simp; try with_reducible rfl
              try simp only [Act.put, List.setIfInBounds_toArray, List.set_cons_zero, List.set_cons_succ]
              refine At.pure 4 (some 71) (v := ?v4qu) rfl rfl (by kernel_rfl) (fun _ _ _ h => h) rfl (fun w' => ?y4qu) ?_   
              case y4qu => go_simp; try with_reducible rfl
              try simp only [Act.put, List.setIfInBounds_toArray, List.set_cons_zero, List.set_cons_succ]
              refine At.pure 5 (some 72) (v := ?v5qu) rfl rfl (by kernel_rfl) (fun _ _ _ h => h) rfl (fun w' => ?y5qu) ?_   
              case y5qu => go_simp; try with_reducible rfl
              try simp only [Act.put, List.setIfInBounds_toArray, List.set_cons_zero, List.set_cons_succ]
              refine At.pure 6 (some 73) (v := ?v6qu) rfl rfl (by kernel_rfl) (fun _ _ _ h => h) rfl (fun w' => ?y6qu) ?_   
              case y6qu => go_simp; try with_reducible rfl
              try simp only [Act.put, List.setIfInBounds_toArray, List.set_cons_zero, List.set_cons_succ]
              refine At.read 7 (some 74) (fun w' => w'.cell? ⟨bV, oV + r, none⟩ = some (.int .i64 fl)) (v := ?v7qu) rfl rfl (by kernel_rfl) (fun _ _ _ h => h) rfl hcV (fun w' hw' => ?y7qu) ?_   
              case y7qu => skip; go_simp; try with_reducible rfl
              try simp only [Act.put, List.setIfInBounds_toArray, List.set_cons_zero, List.set_cons_succ]
              refine At.read 8 (some 75) (fun w' => w'.cell? ⟨XB, 0, none⟩ = some (.int .i64 n1) ∧ w'.cell? ⟨XB, 1, none⟩ = some (.int .i64 l1) ∧ w'.cell? ⟨XB, 2, none⟩ = some (.bool true) ∧ w'.cell? ⟨XB, 3, none⟩ = some (.int .i64 up)) (v := (.agg #[.int .i64 n1, .int .i64 l1, .bool true, .int .i64 up])) rfl rfl (by kernel_rfl) (fun _ _ _ h => h) rfl ⟨b0, b1, b2, b3⟩ (fun w' hw' => ?y8qu) ?_   
              case y8qu => obtain ⟨h1, h2, h3, h4⟩ := hw'; go_simp; try with_reducible rfl
              try simp only [Act.put, List.setIfInBounds_toArray, List.set_cons_zero, List.set_cons_succ]
              refine At.pure 9 (some 76) (v := ?v9qu) rfl rfl (by kernel_rfl) (fun _ _ _ h => h) rfl (fun w' => ?y9qu) ?_   
              case y9qu => go_simp; try with_reducible rfl
              try simp only [Act.put, List.setIfInBounds_toArray, List.set_cons_zero, List.set_cons_succ]
              refine At.call 10 (pend' := []) rfl (by kernel_rfl) rfl (by kernel_rfl) (fun K hK => ?_)   
              go_simp
              refine hK _ _ all_nil ?_
              clear hK K
              try simp only [Act.put, List.setIfInBounds_toArray, List.set_cons_zero, List.set_cons_succ]
              refine At.done (by kernel_rfl) ?_
              clear HP HGK HRT HN HB b0 b1 b2 b3 q0 hcV c0 c1 c2 c3 z0 z1 z2 z3
              generalize ((((wr.setCell ⟨g, fl * 4, none⟩ (.int .i64 n1)).setCell ⟨g, fl * 4 + 1, none⟩ (.int .i64 l1)).setCell ⟨g, fl * 4 + 2, none⟩ (.bool true)).setCell ⟨g, fl * 4 + 3, none⟩ (.int .i64 up)).drew = w9 at *
              have e9 := HE9.out
              have HL9 := hid (show l1 = (decI l W L k b N t (r + 1)).1 by rw [HZ2.out])
              have HM9 : Hid (RM w T g tot cap L W H k (some ⟨bV, oV, none⟩) X A n c l (decI l W L k b N t (r + 1)).2.1 (decI l W L k b N t (r + 1)).2.2 w9) := hid (by rw [HZ2.out]; exact HRM.out)
              clear HRM HZ2 HE9
              go_wp2_with fail
              go_roundw
              case rel =>
                first
                | exact ⟨r + 1, by omega, by rw [← HL9.out], by go_num, HM9, HS9⟩
                | ((repeat apply Exists.intro); refine ⟨?_, rfl⟩; exact ⟨r + 1, by omega, by rw [← HL9.out], by go_num, HM9, HS9⟩)
              case measure => simp [intOf]; omega
          · have hlb : b ≤ l1 := by omega
            have HO := hid (decN_done l b ⟨n1, l1, sd⟩ t2 (.inr hlb))
            have hz := HZ.out ⟨n1, l1, sd⟩ t2 (by rw [← HQ.out.1, HO.out])
            have HZ2 := hid hz
            clear hz HQ HO HZ hfar
            have b3 : wr.cell? ⟨XB, 3, none⟩ = some (.int .i64 up) := HB.out.cell 3
            have q0 : wr.cell? ⟨T, 0, none⟩ = some (.slice (some ⟨g, 0, none⟩) tot cap) := HN.out.tr.blk.cell 0
            have hcV := HWC.out wr HN.out.way
            have hcg := HN.out.tr.cell i j hiL HJ.out
            rw [← HFL.out, Nat.mul_comm 4 fl, HUJ.out] at hcg
            have c0 : wr.cell? ⟨g, fl * 4, none⟩ = some (.int .i64 (N1 i j).n) := hcg 0 _ rfl
            have c1 : wr.cell? ⟨g, fl * 4 + 1, none⟩ = some (.int .i64 (N1 i j).low) := hcg 1 _ rfl
            have c2 : wr.cell? ⟨g, fl * 4 + 2, none⟩ = some (.bool (N1 i j).said) := hcg 2 _ rfl
            have c3 : wr.cell? ⟨g, fl * 4 + 3, none⟩ = some (.int .i64 up) := hcg 3 _ rfl
            have hfz := HN.out.tr.frozen
            have z0 := hfz (fl * 4)
            have z1 := hfz (fl * 4 + 1)
            have z2 := hfz (fl * 4 + 2)
            have z3 := hfz (fl * 4 + 3)
            have hput := HN.out.tr.put (x := ⟨n1, l1, sd⟩) hiL HJ.out
            rw [← HFL.out, Nat.mul_comm 4 fl, HUJ.out] at hput
            have HP := hid hput
            have HGK := hid (show Keep (fun a => a = g) wr ((((wr.setCell ⟨g, fl * 4, none⟩ (.int .i64 n1)).setCell ⟨g, fl * 4 + 1, none⟩ (.int .i64 l1)).setCell ⟨g, fl * 4 + 2, none⟩ (.bool sd)).setCell ⟨g, fl * 4 + 3, none⟩ (.int .i64 up)).drew from ((((Keep.refl _ wr).setR (R := g) _ _).setR _ _).setR _ _).setR _ _ |>.drew)
            have HRT := hid (show RT ((((wr.setCell ⟨g, fl * 4, none⟩ (.int .i64 n1)).setCell ⟨g, fl * 4 + 1, none⟩ (.int .i64 l1)).setCell ⟨g, fl * 4 + 2, none⟩ (.bool sd)).setCell ⟨g, fl * 4 + 3, none⟩ (.int .i64 up)).drew T g tot cap L W H (updT N1 i j ⟨n1, l1, sd⟩) from RT.aside HP.out.2.1 ((Keep.refl (fun _ => False) _).drew))
            have hgt := HN.out.tr.row
            have HRM : Hid (RM w T g tot cap L W H k (some ⟨bV, oV, none⟩) X A n c l (updT N1 i j ⟨n1, l1, sd⟩) t2 ((((wr.setCell ⟨g, fl * 4, none⟩ (.int .i64 n1)).setCell ⟨g, fl * 4 + 1, none⟩ (.int .i64 l1)).setCell ⟨g, fl * 4 + 2, none⟩ (.bool sd)).setCell ⟨g, fl * 4 + 3, none⟩ (.int .i64 up)).drew) := hid
              ⟨HRT.out, HN.out.way.keep HGK.out (fun ad e => by have h1 := HVN.out ad e; omega), Xc.keep HN.out.rd HGK.out (by obtain ⟨cs, hg⟩ := hgt; exact Blk.ne_ (Xc.blk HN.out.rd) hg (by decide)) (fun hn ad e => HFAR.out hn ad e), HN.out.ok, HN.out.keep.trans HGK.out (fun _ _ e => .inl e)⟩
            have HE9 := hid (HGK.out.cell b1 (show ¬ XB = g by omega))
            have HS9 : Hid (w1.heap.size ≤ (((((wr.setCell ⟨g, fl * 4, none⟩ (.int .i64 n1)).setCell ⟨g, fl * 4 + 1, none⟩ (.int .i64 l1)).setCell ⟨g, fl * 4 + 2, none⟩ (.bool sd)).setCell ⟨g, fl * 4 + 3, none⟩ (.int .i64 up)).drew).heap.size) := hid (by have h1 := HS2.out; have h2 := HB.out.lt; have h3 := HGK.out.size; omega)
            clear hcg hfz hput hgt
            go_wp2_with fail
            -- region 15: 11 operations
            refine At.start (L := #[false, false, false, false, false, false, false, false, false, false, false]) (by kernel_rfl) rfl ?_
            refine At.pure 0 (some 67) (v := ?v0qv) rfl rfl (by kernel_rfl) (fun _ _ _ h => h) rfl (fun w' => ?y0qv) ?_   
            case y0qv => go_simp; try with_reducible rfl
            try simp only [Act.put, List.setIfInBounds_toArray, List.set_cons_zero, List.set_cons_succ]
            refine At.pure 1 (some 68) (v := ?v1qv) rfl rfl (by kernel_rfl) (fun _ _ _ h => h) rfl (fun w' => ?y1qv) ?_   
            case y1qv => go_simp; try with_reducible rfl
            try simp only [Act.put, List.setIfInBounds_toArray, List.set_cons_zero, List.set_cons_succ]
            refine At.pure 2 (some 69) (v := ?v2qv) rfl rfl (by kernel_rfl) (fun _ _ _ h => h) rfl (fun w' => ?y2qv) ?_   
            case y2qv => go_simp; try with_reducible rfl
            try simp only [Act.put, List.setIfInBounds_toArray, List.set_cons_zero, List.set_cons_succ]
            refine At.read 3 (some 70) (fun w' => w'.cell? ⟨T, 0, none⟩ = some (.slice (some ⟨g, 0, none⟩) tot cap)) (v := ?v3qv) rfl rfl (by kernel_rfl) (fun _ _ _ h => h) rfl q0 (fun w' hw' => ?y3qv) ?_   
            case y3qv => skip; go_simp; try with_reducible rfl
            try simp only [Act.put, List.setIfInBounds_toArray, List.set_cons_zero, List.set_cons_succ]
            refine At.pure 4 (some 71) (v := ?v4qv) rfl rfl (by kernel_rfl) (fun _ _ _ h => h) rfl (fun w' => ?y4qv) ?_   
            case y4qv => go_simp; try with_reducible rfl
            try simp only [Act.put, List.setIfInBounds_toArray, List.set_cons_zero, List.set_cons_succ]
            refine At.pure 5 (some 72) (v := ?v5qv) rfl rfl (by kernel_rfl) (fun _ _ _ h => h) rfl (fun w' => ?y5qv) ?_   
            case y5qv => go_simp; try with_reducible rfl
            try simp only [Act.put, List.setIfInBounds_toArray, List.set_cons_zero, List.set_cons_succ]
            refine At.pure 6 (some 73) (v := ?v6qv) rfl rfl (by kernel_rfl) (fun _ _ _ h => h) rfl (fun w' => ?y6qv) ?_   
            case y6qv => go_simp; try with_reducible rfl
            try simp only [Act.put, List.setIfInBounds_toArray, List.set_cons_zero, List.set_cons_succ]
            refine At.read 7 (some 74) (fun w' => w'.cell? ⟨bV, oV + r, none⟩ = some (.int .i64 fl)) (v := ?v7qv) rfl rfl (by kernel_rfl) (fun _ _ _ h => h) rfl hcV (fun w' hw' => ?y7qv) ?_   
            case y7qv => skip; go_simp; try with_reducible rfl
            try simp only [Act.put, List.setIfInBounds_toArray, List.set_cons_zero, List.set_cons_succ]
            refine At.read 8 (some 75) (fun w' => w'.cell? ⟨XB, 0, none⟩ = some (.int .i64 n1) ∧ w'.cell? ⟨XB, 1, none⟩ = some (.int .i64 l1) ∧ w'.cell? ⟨XB, 2, none⟩ = some (.bool sd) ∧ w'.cell? ⟨XB, 3, none⟩ = some (.int .i64 up)) (v := (.agg #[.int .i64 n1, .int .i64 l1, .bool sd, .int .i64 up])) rfl rfl (by kernel_rfl) (fun _ _ _ h => h) rfl ⟨b0, b1, b2, b3⟩ (fun w' hw' => ?y8qv) ?_   
            case y8qv => obtain ⟨h1, h2, h3, h4⟩ := hw'; go_simp; try with_reducible rfl
            try simp only [Act.put, List.setIfInBounds_toArray, List.set_cons_zero, List.set_cons_succ]
            refine At.pure 9 (some 76) (v := ?v9qv) rfl rfl (by kernel_rfl) (fun _ _ _ h => h) rfl (fun w' => ?y9qv) ?_   
            case y9qv => go_simp; try with_reducible rfl
            try simp only [Act.put, List.setIfInBounds_toArray, List.set_cons_zero, List.set_cons_succ]
            refine At.call 10 (pend' := []) rfl (by kernel_rfl) rfl (by kernel_rfl) (fun K hK => ?_)   
            go_simp
            refine hK _ _ all_nil ?_
            clear hK K
            try simp only [Act.put, List.setIfInBounds_toArray, List.set_cons_zero, List.set_cons_succ]
            refine At.done (by kernel_rfl) ?_
            clear HP HGK HRT HN HB b0 b1 b2 b3 q0 hcV c0 c1 c2 c3 z0 z1 z2 z3
            generalize ((((wr.setCell ⟨g, fl * 4, none⟩ (.int .i64 n1)).setCell ⟨g, fl * 4 + 1, none⟩ (.int .i64 l1)).setCell ⟨g, fl * 4 + 2, none⟩ (.bool sd)).setCell ⟨g, fl * 4 + 3, none⟩ (.int .i64 up)).drew = w9 at *
            have e9 := HE9.out
            have HL9 := hid (show l1 = (decI l W L k b N t (r + 1)).1 by rw [HZ2.out])
            have HM9 : Hid (RM w T g tot cap L W H k (some ⟨bV, oV, none⟩) X A n c l (decI l W L k b N t (r + 1)).2.1 (decI l W L k b N t (r + 1)).2.2 w9) := hid (by rw [HZ2.out]; exact HRM.out)
            clear HRM HZ2 HE9
            go_wp2_with fail
            go_roundw
            case rel =>
              first
              | exact ⟨r + 1, by omega, by rw [← HL9.out], by go_num, HM9, HS9⟩
              | ((repeat apply Exists.intro); refine ⟨?_, rfl⟩; exact ⟨r + 1, by omega, by rw [← HL9.out], by go_num, HM9, HS9⟩)
            case measure => simp [intOf]; omega
    · obtain rfl : r = L := by omega
      have hc := HMr.out.tr.cells HK.out hL
      have hf : flat W H k 0 = k := by unfold flat; rw [idx0]; show 0 + k = k; omega
      have hft := off_lt HLev.out HK.out hL
      rw [← HTOT.out] at hft
      rw [hf, idx0, Nat.mul_comm 4 k] at hc
      rw [hf] at hft
      obtain ⟨x, hx⟩ : ∃ x, (decI l W r k b N t r).2.1 0 k = x := ⟨_, rfl⟩
      rw [hx] at hc
      have HX := hid hx
      clear hx hf
      obtain ⟨n1, l1, sd⟩ := x
      have c0 := hc.1
      have c2 := hc.2.2.1
      have q0 : wr.cell? ⟨T, 0, none⟩ = some (.slice (some ⟨g, 0, none⟩) tot cap) := HMr.out.tr.blk.cell 0
      dsimp only at c0 c2
      clear hc
      cases sd
      · go_wp2_with fail
        go_ret
        exact ⟨by rw [HX.out]; rfl, HMr.out.tr, HMr.out.rd, HMr.out.keep⟩
      · go_wp2_with fail
        go_ret
        exact ⟨by rw [HX.out]; rfl, HMr.out.tr, HMr.out.rd, HMr.out.keep⟩
end Go.Proofs.Ytbkffpedigeflaa
