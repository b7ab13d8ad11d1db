/-
  The reference's encoder ends. Conditions: at most 2^30 bytes.
-/
import Derived.Test.YtcieeoobobafmaaRefEnc
namespace Go.Proofs.Ytcieeoobobafmaa
open Go.RowKit

set_option maxRecDepth 20000 in
set_option maxHeartbeats 4000000 in
theorem rflush_any (w : World) (base E : Nat) (A : Option Addr) (n c : Nat) (s : ES) (h : Er w base E A n c s) (hi : EInv s) (ha : 32768 ≤ s.a) (ha2 : s.a < 65536) (hb : base ≤ w.heap.size) (hn : n ≤ 1073741000) :
    Calls Try.prog 26 #[.pointer (some ⟨E, 0, none⟩)] w fun e w' => ∃ A' n' c', e = .returned (.slice A' n' c') ∧
      Rd w' A' n' ((flushM (flushE s)).map (Value.int .u8)) ∧ (∀ ad, A' = some ad → w.heap.size ≤ ad.block) ∧ Keep (foot E A) w w' := by
  obtain ⟨i0, hi0, hz0, hz1, hz2⟩ := info_parts info_u8
  have HE := hid h
  have HI := hid (hi.fl ha)
  have hC0 := hi.c0
  have hC1 : s.c < 301989888 := by
    have h1 := hi.top
    have : (2 : Int) ^ (24 - s.ct).toNat ≤ 2 ^ 24 := by
      have h1 := hi.ct1
      have : (2 : Nat) ^ (24 - s.ct).toNat ≤ 2 ^ 24 := Nat.pow_le_pow_right (by omega) (by omega)
      exact_mod_cast this
    omega
  have hor := or_ffff s.c hC0 (by omega)
  have HFL := hid (show flushE s = (flN 2 ⟨s.a, endC s.c s.a, s.ct, s.b⟩).b.tail from rfl)
  have HEC := hid (show endC s.c s.a = if s.c + s.a ≤ s.c / 65536 * 65536 + 65535 then s.c / 65536 * 65536 + 65535 - 32768 else s.c / 65536 * 65536 + 65535 from rfl)
  clear h hi
  obtain ⟨a, C, ct, b⟩ := s
  simp only at ha ha2 hC0 hC1 hor HEC
  have hq0 : 0 ≤ C / 65536 * 65536 + 65535 := by omega
  have hq1 : C / 65536 * 65536 + 65535 < 302055424 := by omega
  generalize hQ : C / 65536 * 65536 + 65535 = Q at *
  have HQ := hid hQ
  clear hQ
  have e1 : w.cell? ⟨E, 0, none⟩ = some (.int .i64 a) := HE.out.blk.cell 0
  have e2 : w.cell? ⟨E, 1, none⟩ = some (.int .i64 C) := HE.out.blk.cell 1
  have f2 := HE.out.blk.frozen 1
  go_enter Try.func26, Try.ntmps26
  have HX : Hid (∀ w3 cs, Keep (fun j => j = E) w w3 → Blk w3 E 78 cs → cs = #[.int .i64 a, .int .i64 (endC C a), .int .i64 ct, .slice A n c] → Er w3 base E A n c ⟨a, endC C a, ct, b⟩ ∧ Keep (fun j => j = E) w w3) := hid (fun w3 cs hk hb e => by
    subst e
    exact ⟨⟨hb, own_keep HE.out.own hk (fun k e hk => own_ne HE.out.own HE.out.blk (by decide) (by rw [e, hk]))⟩, hk⟩)
  have HB := hid HE.out.blk
  go_wp2_with fail
  go_region
  go_upto_if 28 with fail
  go_cut [] (fun wx => Hid (Er wx base E A n c ⟨a, endC C a, ct, b⟩ ∧ Keep (fun j => j = E) w wx))
  case first =>
    go_wp2_with fail
    all_goals go_meet
    all_goals refine hid ?_
    all_goals apply HX.out
    · with_reducible (repeat (first | refine Keep.drew ?_ | refine Keep.setR ?_ _ _ | exact Keep.refl _ _))
    · with_reducible (repeat (first | apply Blk.drew | apply Blk.set_ | exact HB.out))
    · rw [HEC.out, if_pos (by omega)]; first | rfl | simp
    · with_reducible (repeat (first | refine Keep.drew ?_ | refine Keep.setR ?_ _ _ | exact Keep.refl _ _))
    · with_reducible (repeat (first | apply Blk.drew | apply Blk.set_ | exact HB.out))
    · rw [HEC.out, if_neg (by omega)]; first | rfl | simp
  case rest =>
    have hb3 : base ≤ wc.heap.size := Nat.le_trans hb hcut.out.2.size
    clear HX HB e1 e2 f2 hor HEC hq0 hq1 HQ
    go_wp2_with fail
    go_loopw [4] (fun v wr => ∃ (j : Nat) (t : ES) (A1 : Option Addr) (c1 : Nat), j ≤ 2 ∧ v = .int .i64 j ∧ Hid (Er wr base E A1 (n + j) c1 t) ∧ Hid (FInv t) ∧ Hid (flN (2 - j) t = flN 2 ⟨a, endC C a, ct, b⟩) ∧ Hid (Grew w A A1) ∧ Hid (Keep (foot E A) w wr)) (fun v _ => 2 - (intOf v).toNat)
    case atStart => exact ⟨0, ⟨a, endC C a, ct, b⟩, A, c, by omega, rfl, hid hcut.out.1, HI, hid rfl, hid (Grew.refl w A), hid (hcut.out.2.mono (fun _ _ h => .inl h))⟩
    case round =>
      obtain ⟨j, t, A1, c1, hj, rfl, HE1, HI1, HF1, HG1, HK1⟩ := hrel
      by_cases hj2 : j < 2
      · have hl1 := HE1.out.len
        have hsome := HI1.out.some_
        have HBY := hid HI1.out.bytes
        have HFI := hid HI1.out.fl
        have HFE := hid (show flM t = outM ⟨t.a, t.c * 2 ^ t.ct.toNat, t.ct, t.b⟩ from rfl)
        obtain ⟨a1, C1, t1, b1⟩ := t
        have hc0 : 0 ≤ C1 := HI1.out.c0
        have ht0 : 0 ≤ t1 := HI1.out.ct0
        have ht12 : t1 ≤ 12 := HI1.out.ct12
        have htop : C1 * 2 ^ t1.toNat < 268435456 := HI1.out.top
        simp only at hl1 hsome
        have hp : (0 : Int) < 2 ^ t1.toNat := Int.pow_pos (by decide)
        have hc1 : 0 ≤ C1 * 2 ^ t1.toNat := Int.mul_nonneg hc0 (by omega)
        have g2 : wr.cell? ⟨E, 1, none⟩ = some (.int .i64 C1) := HE1.out.blk.cell 1
        have g3 : wr.cell? ⟨E, 2, none⟩ = some (.int .i64 t1) := HE1.out.blk.cell 2
        have k2 := HE1.out.blk.frozen 1
        have hw : IntKind.i64.wrap (C1 * 2 ^ t1.toNat) = C1 * 2 ^ t1.toNat := IntWalk.i64_in _ (by omega)
        go_wp2_with fail
        go_region
        go_wp2_with fail
        have HT := hid (show Er (wr.setCell ⟨E, 1, none⟩ (.int .i64 (C1 * 2 ^ t1.toNat))).drew base E A1 (n + j) c1 ⟨a1, C1 * 2 ^ t1.toNat, t1, b1⟩ from
          ⟨(HE1.out.blk.set_ 1 (.int .i64 (C1 * 2 ^ t1.toNat))).drew, own_keep HE1.out.own ((Keep.refl (fun k => k = E) wr).setR 1 _).drew (fun k e hk => own_ne HE1.out.own HE1.out.blk (by decide) (by rw [e, hk]))⟩)
        have hk5 : Keep (foot E A1) wr (wr.setCell ⟨E, 1, none⟩ (.int .i64 (C1 * 2 ^ t1.toNat))).drew := ((Keep.refl (fun k => k = E) wr).setR 1 _).drew.mono (fun _ _ h => .inl h)
        refine (rout_any _ base E A1 (n + j) c1 _ HT.out (Nat.le_trans hb (Nat.le_trans HK1.out.size hk5.size)) (by omega) (by omega) HBY.out hc1 htop).mono ?_
        rintro e w6 ⟨A6, n6, c6, rfl, h6, g6, k6⟩
        have hgn := grew_next (Grew.refl wr A1) hk5 g6 k6
        have hgn2 := grew_next HG1.out HK1.out hgn.1 hgn.2
        have hn6 : n6 = n + (j + 1) := by
          have h1 := h6.len
          rw [outM_len] at h1
          simp only at h1
          omega
        subst hn6
        have HR := hid (show ∃ (j' : Nat) (t : ES) (A1 : Option Addr) (c1 : Nat), j' ≤ 2 ∧ Value.int .i64 ((j : Int) + 1) = .int .i64 j' ∧ Hid (Er w6 base E A1 (n + j') c1 t) ∧ Hid (FInv t) ∧ Hid (flN (2 - j') t = flN 2 ⟨a, endC C a, ct, b⟩) ∧ Hid (Grew w A A1) ∧ Hid (Keep (foot E A) w w6) from
          ⟨j + 1, _, A6, c6, by omega, rfl, hid h6, HFI, hid (by
            have := HF1.out
            rw [show 2 - j = (2 - (j + 1)) + 1 by omega] at this
            exact this), hid hgn2.1, hid hgn2.2⟩)
        clear HT hk5 hgn hgn2 h6 g6 k6
        go_wp2_with fail
        exact ⟨HR.out, by simp [intOf]; omega⟩
      · obtain rfl : j = 2 := by omega
        have HT := hid (show flushE ⟨a, C, ct, b⟩ = t.b.tail from by rw [HFL.out, ← HF1.out]; rfl)
        have hlen := HE1.out.len
        obtain ⟨g, rfl, hgc, hgb, hgl, hgf⟩ := own_at HE1.out.own (by omega)
        have g0 : wr.cell? ⟨E, 3, none⟩ = some (.slice (some ⟨g, 0, none⟩) (n + 2) c1) := HE1.out.blk.cell 3
        have g1 : wr.cell? ⟨g, 1 + n, none⟩ = some (.int .u8 (lastM t.b)) := by
          rw [Nat.add_comm 1 n]
          have := hgl (n + 1) _ (map_at _ _ (n + 1) (by rw [hlen]; omega))
          unfold lastM
          rw [hlen]
          exact this
        have hRd : Rd wr (some ⟨g, 1, none⟩) (n + 1) (t.b.tail.map (Value.int .u8)) := by
          have := (Rd.of_own HE1.out.own).drop (k := 1) (cap := c1) (by omega) (by omega)
          rw [if_neg (by omega), ← List.map_drop, List.drop_one] at this
          exact this
        have hlt : lastM t.b.tail = lastM t.b := by
          unfold lastM
          rw [List.length_tail, List.getD_eq_getElem?_getD, List.getD_eq_getElem?_getD, List.getElem?_tail]
          congr 3
          omega
        have g0a : (wr.alloc (.cells #[] 5)).cell? ⟨E, 3, none⟩ = some (.slice (some ⟨g, 0, none⟩) (n + 2) c1) := ((Keep.refl (fun _ => False) wr).alloc _).cell g0 (fun h => h)
        have HRD := hid hRd
        have HLT := hid hlt
        have HLN := hid hlen
        have htl : t.b.tail.getD n 0 = lastM t.b := by
          rw [← HLT.out]
          unfold lastM
          rw [List.length_tail, HLN.out, show n + 2 - 1 - 1 = n by omega]
        have hcm : (n : Int) + 2 ≤ c1 := by omega
        by_cases hz : lastM t.b = 255
        · have HF := hid (show flushM t.b.tail = t.b.tail.dropLast from if_pos (by rw [hlt]; exact hz))
          have HTL := hid (htl.trans hz)
          clear hz htl hlt hRd hgl hgf g1 hlen
          go_wp2_with (
            at_builtin
            refine wpList_append_src _ rfl (.tmp 56) (.tmp 61) _ rfl wr.heap.size 5 i0 _ 1 Try.underlying22 hi0 hz0 hz1 hz2 rfl
              (World.ownsRow_made wr #[] 0 (Nat.le_refl _) (by simp [maxLen]) rfl) rfl (HRD.out.alloc _) rfl (oneCell_ints _ _) (by simp only [maxLen]; omega) (by omega) (by simp) ?_
            intro v4 w4 hown4 hg4 hat4 _hold
            simp only [Nat.zero_add, List.nil_append] at hown4
            obtain ⟨A4, c4, rfl⟩ := own_form hown4
            obtain ⟨g4, rfl, hgc4, hgb4, hgl4, hgf4⟩ := own_at hown4 (by omega)
            have z4 : w4.cell? ⟨g4, n, none⟩ = some (.int .u8 (t.b.tail.getD n 0)) := hgl4 n _ (map_at _ _ n (by rw [List.length_tail, HLN.out]; omega))
            rw [HTL.out] at z4
            have HO4 := hid hown4
            have HK6 := hid ((HK1.out.trans (((Keep.refl (fun _ => False) wr).alloc _).grown hg4 (fun k hk => by simp [Value.ownBlock] at hk; omega)) (fun _ _ h => h.elim)))
            have hb4 : w.heap.size ≤ g4 := Nat.le_trans HK1.out.size hgb4
            clear hown4 hg4 hat4 _hold hgl4 hgf4 hgb4)
          have HR6 : Hid (Rd w4 (some ⟨g4, 0, none⟩) n ((flushM (flushE ⟨a, C, ct, b⟩)).map (Value.int .u8))) := hid (by
            rw [HT.out, HF.out]
            have := (Rd.of_own HO4.out).take (k := n) (by omega)
            rw [← List.map_take] at this
            have e : t.b.tail.take n = t.b.tail.dropLast := by rw [List.dropLast_eq_take, List.length_tail, HLN.out]; rfl
            rwa [e] at this)
          clear HO4
          go_ret
          exact ⟨some ⟨g4, 0, none⟩, n, c4, rfl, HR6.out, fun ad e => by injection e with e; subst e; exact hb4, HK6.out⟩
        · have HF := hid (show flushM t.b.tail = t.b.tail from if_neg (by rw [hlt]; exact hz))
          have hz' : (lastM t.b == 255) = false := by simpa using hz
          have HTL := hid htl
          clear hz hlt hRd hgl hgf g1 hlen htl
          go_wp2_with (
            at_builtin
            refine wpList_append_src _ rfl (.tmp 56) (.tmp 61) _ rfl wr.heap.size 5 i0 _ 1 Try.underlying22 hi0 hz0 hz1 hz2 rfl
              (World.ownsRow_made wr #[] 0 (Nat.le_refl _) (by simp [maxLen]) rfl) rfl (HRD.out.alloc _) rfl (oneCell_ints _ _) (by simp only [maxLen]; omega) (by omega) (by simp) ?_
            intro v4 w4 hown4 hg4 hat4 _hold
            simp only [Nat.zero_add, List.nil_append] at hown4
            obtain ⟨A4, c4, rfl⟩ := own_form hown4
            obtain ⟨g4, rfl, hgc4, hgb4, hgl4, hgf4⟩ := own_at hown4 (by omega)
            have z4 : w4.cell? ⟨g4, n, none⟩ = some (.int .u8 (t.b.tail.getD n 0)) := hgl4 n _ (map_at _ _ n (by rw [List.length_tail, HLN.out]; omega))
            rw [HTL.out] at z4
            have HO4 := hid hown4
            have HK6 := hid ((HK1.out.trans (((Keep.refl (fun _ => False) wr).alloc _).grown hg4 (fun k hk => by simp [Value.ownBlock] at hk; omega)) (fun _ _ h => h.elim)))
            have hb4 : w.heap.size ≤ g4 := Nat.le_trans HK1.out.size hgb4
            clear hown4 hg4 hat4 _hold hgl4 hgf4 hgb4)
          have HR6 : Hid (Rd w4 (some ⟨g4, 0, none⟩) (n + 1) ((flushM (flushE ⟨a, C, ct, b⟩)).map (Value.int .u8))) := hid (by
            rw [HT.out, HF.out]
            exact Rd.of_own HO4.out)
          clear HO4
          go_ret
          exact ⟨some ⟨g4, 0, none⟩, n + 1, c4, rfl, HR6.out, fun ad e => by injection e with e; subst e; exact hb4, HK6.out⟩
end Go.Proofs.Ytcieeoobobafmaa
