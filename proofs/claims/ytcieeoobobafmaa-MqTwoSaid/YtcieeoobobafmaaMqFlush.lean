/-
  The program's encoder ends. Conditions: at most 2^30 bytes.
-/
import Derived.Test.YtcieeoobobafmaaMqNew
namespace Go.Proofs.Ytcieeoobobafmaa
open Go.RowKit

/-- What stands in C at the end. -/
def endC (c a : Int) : Int := if c + a ≤ c / 65536 * 65536 + 65535 then c / 65536 * 65536 + 65535 - 32768 else c / 65536 * 65536 + 65535
def flM (s : ES) : ES := outM ⟨s.a, s.c * 2 ^ s.ct.toNat, s.ct, s.b⟩
def flushE (s : ES) : List Int := (flM (flM ⟨s.a, endC s.c s.a, s.ct, s.b⟩)).b.tail
def flushM (l : List Int) : List Int := if lastM l = 255 then l.dropLast else l
structure FInv (s : ES) : Prop where
  bytes : Bytes s.b
  some_ : 0 < s.b.length
  c0 : 0 ≤ s.c
  ct0 : 0 ≤ s.ct
  ct12 : s.ct ≤ 12
  top : s.c * 2 ^ s.ct.toNat < 268435456
theorem FInv.fl {s : ES} (h : FInv s) : FInv (flM s) := by
  have h0 := h.c0
  have hp : (0 : Int) < 2 ^ s.ct.toNat := Int.pow_pos (by decide)
  have hc : 0 ≤ s.c * 2 ^ s.ct.toNat := Int.mul_nonneg h0 (by omega)
  have hr := outM_c ⟨s.a, s.c * 2 ^ s.ct.toNat, s.ct, s.b⟩
  refine ⟨outM_bytes _ h.bytes hc h.top, by rw [flM, outM_len]; omega, outM_c0 _, ?_, ?_, ?_⟩
  · unfold flM; rcases hr with hr | hr <;> omega
  · unfold flM; rcases hr with hr | hr <;> omega
  · unfold flM
    rcases hr with ⟨h1, h2⟩ | ⟨h1, h2⟩
    · rw [h2]
      have : (2 : Int) ^ (8 : Int).toNat = 256 := by decide
      rw [this]; omega
    · rw [h2]
      have : (2 : Int) ^ (7 : Int).toNat = 128 := by decide
      rw [this]; omega
theorem endC_lt (c a : Int) (ha : 32768 ≤ a) (hc : 0 ≤ c) : 0 ≤ endC c a ∧ endC c a < c + a := by
  unfold endC
  split <;> omega
theorem EInv.fl {s : ES} (h : EInv s) (ha : 32768 ≤ s.a) : FInv ⟨s.a, endC s.c s.a, s.ct, s.b⟩ := by
  have h1 := h.ct1
  have h12 := h.ct12
  have hc := endC_lt s.c s.a ha h.c0
  refine ⟨h.bytes, h.some_, hc.1, by show 0 ≤ s.ct; omega, h12, ?_⟩
  show endC s.c s.a * 2 ^ s.ct.toNat < 268435456
  have ht := h.top
  obtain ⟨k, hk⟩ : ∃ k : Nat, s.ct = k := ⟨s.ct.toNat, by omega⟩
  rw [hk] at ht ⊢
  have e1 : (24 - (k : Int)).toNat = 24 - k := by omega
  have e2 : ((k : Int)).toNat = k := by omega
  rw [e1] at ht
  rw [e2]
  have e3 : (2 : Int) ^ (24 - k) * 2 ^ k = 16777216 := by
    rw [← Int.pow_add, Nat.sub_add_cancel (by omega)]; decide
  have hp : (0 : Int) < 2 ^ k := Int.pow_pos (by decide)
  have h5 : endC s.c s.a * 2 ^ k ≤ 9 * 2 ^ (24 - k) * 2 ^ k := Int.mul_le_mul_of_nonneg_right (by omega) (by omega)
  rw [Int.mul_assoc, e3] at h5
  omega
def flN : Nat → ES → ES
  | 0, s => s
  | k + 1, s => flN k (flM s)
set_option maxRecDepth 20000 in
set_option maxHeartbeats 4000000 in
theorem flush_any (w : World) (base E : Nat) (A : Option Addr) (n c : Nat) (s : ES) (h : En w base E A n c s) (hi : EInv s) (ha : 32768 ≤ s.a) (ha2 : s.a < 65536) (hb : base ≤ w.heap.size) (hn : n ≤ 1073741000) :
    Calls Try.prog 22 #[.pointer (some ⟨E, 0, none⟩)] w fun e w' => ∃ A' n' c', e = .returned (.slice A' n' c') ∧
      w'.ownsRow w.heap.size 5 1 (.slice A' n' c') n' ((flushM (flushE s)).map (Value.int .u8)) ∧ Keep (foot E A) w w' := by
  have HE := hid h
  have HI := hid (hi.fl ha)
  have hC0 := hi.c0
  have hC1 : s.c < 301989888 := by
    have h1 := hi.top
    have : (2 : Int) ^ (24 - s.ct).toNat ≤ 2 ^ 24 := by
      have h1 := hi.ct1
      have : (2 : Nat) ^ (24 - s.ct).toNat ≤ 2 ^ 24 := Nat.pow_le_pow_right (by omega) (by omega)
      exact_mod_cast this
    omega
  have hor := or_ffff s.c hC0 (by omega)
  have HFL := hid (show flushE s = (flN 2 ⟨s.a, endC s.c s.a, s.ct, s.b⟩).b.tail from rfl)
  have HEC := hid (show endC s.c s.a = if s.c + s.a ≤ s.c / 65536 * 65536 + 65535 then s.c / 65536 * 65536 + 65535 - 32768 else s.c / 65536 * 65536 + 65535 from rfl)
  clear h hi
  obtain ⟨a, C, ct, b⟩ := s
  simp only at ha ha2 hC0 hC1 hor HEC
  have hq0 : 0 ≤ C / 65536 * 65536 + 65535 := by omega
  have hq1 : C / 65536 * 65536 + 65535 < 302055424 := by omega
  generalize hQ : C / 65536 * 65536 + 65535 = Q at *
  have HQ := hid hQ
  clear hQ
  have e1 : w.cell? ⟨E, 1, none⟩ = some (.int .i64 a) := HE.out.blk.cell 1
  have e2 : w.cell? ⟨E, 2, none⟩ = some (.int .i64 C) := HE.out.blk.cell 2
  have f2 := HE.out.blk.frozen 2
  go_enter Try.func22, Try.ntmps22
  have HX : Hid (∀ w3 cs, Keep (fun j => j = E) w w3 → Blk w3 E 73 cs → cs = #[.slice A n c, .int .i64 a, .int .i64 (endC C a), .int .i64 ct] → En w3 base E A n c ⟨a, endC C a, ct, b⟩ ∧ Keep (fun j => j = E) w w3) := hid (fun w3 cs hk hb e => by
    subst e
    exact ⟨⟨hb, own_keep HE.out.own hk (fun k e hk => own_ne HE.out.own HE.out.blk (by decide) (by rw [e, hk]))⟩, hk⟩)
  have HB := hid HE.out.blk
  go_wp2_with fail
  go_region
  go_upto_if 31 with fail
  go_cut [] (fun wx => Hid (En wx base E A n c ⟨a, endC C a, ct, b⟩ ∧ Keep (fun j => j = E) w wx))
  case first =>
    go_wp2_with fail
    all_goals go_meet
    all_goals refine hid ?_
    all_goals apply HX.out
    · with_reducible (repeat (first | refine Keep.drew ?_ | refine Keep.setR ?_ _ _ | exact Keep.refl _ _))
    · with_reducible (repeat (first | apply Blk.drew | apply Blk.set_ | exact HB.out))
    · rw [HEC.out, if_pos (by omega)]; first | rfl | simp
    · with_reducible (repeat (first | refine Keep.drew ?_ | refine Keep.setR ?_ _ _ | exact Keep.refl _ _))
    · with_reducible (repeat (first | apply Blk.drew | apply Blk.set_ | exact HB.out))
    · rw [HEC.out, if_neg (by omega)]; first | rfl | simp
  case rest =>
    have hb3 : base ≤ wc.heap.size := Nat.le_trans hb hcut.out.2.size
    clear HX HB e1 e2 f2 hor HEC hq0 hq1 HQ
    go_wp2_with fail
    go_loopw [41] (fun v wr => ∃ (j : Nat) (t : ES) (A1 : Option Addr) (c1 : Nat), j ≤ 2 ∧ v = .int .i64 j ∧ Hid (En wr base E A1 (n + j) c1 t) ∧ Hid (FInv t) ∧ Hid (flN (2 - j) t = flN 2 ⟨a, endC C a, ct, b⟩) ∧ Hid (Grew w A A1) ∧ Hid (Keep (foot E A) w wr)) (fun v _ => 2 - (intOf v).toNat)
    case atStart => exact ⟨0, ⟨a, endC C a, ct, b⟩, A, c, by omega, rfl, hid hcut.out.1, HI, hid rfl, hid (Grew.refl w A), hid (hcut.out.2.mono (fun _ _ h => .inl h))⟩
    case round =>
      obtain ⟨j, t, A1, c1, hj, rfl, HE1, HI1, HF1, HG1, HK1⟩ := hrel
      by_cases hj2 : j < 2
      · have hl1 := HE1.out.len
        have hsome := HI1.out.some_
        have HBY := hid HI1.out.bytes
        have HFI := hid HI1.out.fl
        have HFE := hid (show flM t = outM ⟨t.a, t.c * 2 ^ t.ct.toNat, t.ct, t.b⟩ from rfl)
        obtain ⟨a1, C1, t1, b1⟩ := t
        have hc0 : 0 ≤ C1 := HI1.out.c0
        have ht0 : 0 ≤ t1 := HI1.out.ct0
        have ht12 : t1 ≤ 12 := HI1.out.ct12
        have htop : C1 * 2 ^ t1.toNat < 268435456 := HI1.out.top
        simp only at hl1 hsome
        have hp : (0 : Int) < 2 ^ t1.toNat := Int.pow_pos (by decide)
        have hc1 : 0 ≤ C1 * 2 ^ t1.toNat := Int.mul_nonneg hc0 (by omega)
        have g2 : wr.cell? ⟨E, 2, none⟩ = some (.int .i64 C1) := HE1.out.blk.cell 2
        have g3 : wr.cell? ⟨E, 3, none⟩ = some (.int .i64 t1) := HE1.out.blk.cell 3
        have k2 := HE1.out.blk.frozen 2
        have hw : IntKind.i64.wrap (C1 * 2 ^ t1.toNat) = C1 * 2 ^ t1.toNat := IntWalk.i64_in _ (by omega)
        go_wp2_with fail
        go_region
        go_wp2_with fail
        have HT := hid (show En (wr.setCell ⟨E, 2, none⟩ (.int .i64 (C1 * 2 ^ t1.toNat))).drew base E A1 (n + j) c1 ⟨a1, C1 * 2 ^ t1.toNat, t1, b1⟩ from
          ⟨(HE1.out.blk.set_ 2 (.int .i64 (C1 * 2 ^ t1.toNat))).drew, own_keep HE1.out.own ((Keep.refl (fun k => k = E) wr).setR 2 _).drew (fun k e hk => own_ne HE1.out.own HE1.out.blk (by decide) (by rw [e, hk]))⟩)
        have hk5 : Keep (foot E A1) wr (wr.setCell ⟨E, 2, none⟩ (.int .i64 (C1 * 2 ^ t1.toNat))).drew := ((Keep.refl (fun k => k = E) wr).setR 2 _).drew.mono (fun _ _ h => .inl h)
        refine (out_any _ base E A1 (n + j) c1 _ HT.out (Nat.le_trans hb (Nat.le_trans HK1.out.size hk5.size)) (by omega) (by omega) HBY.out hc1 htop).mono ?_
        rintro e w6 ⟨A6, n6, c6, rfl, h6, g6, k6⟩
        have hgn := grew_next (Grew.refl wr A1) hk5 g6 k6
        have hgn2 := grew_next HG1.out HK1.out hgn.1 hgn.2
        have hn6 : n6 = n + (j + 1) := by
          have h1 := h6.len
          rw [outM_len] at h1
          simp only at h1
          omega
        subst hn6
        have HR := hid (show ∃ (j' : Nat) (t : ES) (A1 : Option Addr) (c1 : Nat), j' ≤ 2 ∧ Value.int .i64 ((j : Int) + 1) = .int .i64 j' ∧ Hid (En w6 base E A1 (n + j') c1 t) ∧ Hid (FInv t) ∧ Hid (flN (2 - j') t = flN 2 ⟨a, endC C a, ct, b⟩) ∧ Hid (Grew w A A1) ∧ Hid (Keep (foot E A) w w6) from
          ⟨j + 1, _, A6, c6, by omega, rfl, hid h6, HFI, hid (by
            have := HF1.out
            rw [show 2 - j = (2 - (j + 1)) + 1 by omega] at this
            exact this), hid hgn2.1, hid hgn2.2⟩)
        clear HT hk5 hgn hgn2 h6 g6 k6
        go_wp2_with fail
        exact ⟨HR.out, by simp [intOf]; omega⟩
      · obtain rfl : j = 2 := by omega
        have HT := hid (show flushE ⟨a, C, ct, b⟩ = t.b.tail from by rw [HFL.out, ← HF1.out]; rfl)
        have hlen := HE1.out.len
        obtain ⟨g, rfl, hgc, hgb, hgl, hgf⟩ := own_at HE1.out.own (by omega)
        have g0 : wr.cell? ⟨E, 0, none⟩ = some (.slice (some ⟨g, 0, none⟩) (n + 2) c1) := HE1.out.blk.cell 0
        have g1 : wr.cell? ⟨g, 1 + n, none⟩ = some (.int .u8 (lastM t.b)) := by
          rw [Nat.add_comm 1 n]
          have := hgl (n + 1) _ (map_at _ _ (n + 1) (by rw [hlen]; omega))
          unfold lastM
          rw [hlen]
          exact this
        have hRd : Rd wr (some ⟨g, 1, none⟩) (n + 1) (t.b.tail.map (Value.int .u8)) := by
          have := (Rd.of_own HE1.out.own).drop (k := 1) (cap := c1) (by omega) (by omega)
          rw [if_neg (by omega), ← List.map_drop, List.drop_one] at this
          exact this
        have hlt : lastM t.b.tail = lastM t.b := by
          unfold lastM
          rw [List.length_tail, List.getD_eq_getElem?_getD, List.getD_eq_getElem?_getD, List.getElem?_tail]
          congr 3
          omega
        have HRD := hid hRd
        have hcm : (n : Int) + 2 ≤ c1 := by omega
        by_cases hz : lastM t.b = 255
        · have HF := hid (show flushM t.b.tail = t.b.tail.dropLast from if_pos (by rw [hlt]; exact hz))
          rw [hz] at g1
          have HL := hid HE1.out.len
          clear hz hlt hRd hgl hgf
          go_wp2_with fail
          refine (clone_any (some ⟨g, 1, none⟩) n _ t.b.tail.dropLast wr ?_ (by omega)).mono ?_
          · have := HRD.out.take (k := n) (by omega)
            rw [← List.map_take] at this
            have e : t.b.tail.take n = t.b.tail.dropLast := by rw [List.dropLast_eq_take, List.length_tail, HL.out]; rfl
            rwa [e] at this
          rintro e w4 ⟨v4, rfl, hown4, hk4⟩
          obtain ⟨A4, c4, rfl⟩ := own_form hown4
          have HO := hid hown4
          have HK4 := hid hk4
          clear hown4 hk4
          go_wp2_with fail
          go_ret
          exact ⟨A4, n, c4, rfl, by rw [HT.out, HF.out]; exact own_mono HO.out HK1.out.size, HK1.out.trans HK4.out (fun _ _ h => h.elim)⟩
        · have HF := hid (show flushM t.b.tail = t.b.tail from if_neg (by rw [hlt]; exact hz))
          have hz' : (lastM t.b == 255) = false := by simpa using hz
          clear hz hlt hRd hgl hgf
          generalize lastM t.b = z at *
          go_wp2_with fail
          refine (clone_any (some ⟨g, 1, none⟩) (n + 1) _ t.b.tail wr HRD.out (by omega)).mono ?_
          rintro e w4 ⟨v4, rfl, hown4, hk4⟩
          obtain ⟨A4, c4, rfl⟩ := own_form hown4
          have HO := hid hown4
          have HK4 := hid hk4
          clear hown4 hk4
          go_wp2_with fail
          go_ret
          exact ⟨A4, n + 1, c4, rfl, by rw [HT.out, HF.out]; exact own_mono HO.out HK1.out.size, HK1.out.trans HK4.out (fun _ _ h => h.elim)⟩
end Go.Proofs.Ytcieeoobobafmaa
