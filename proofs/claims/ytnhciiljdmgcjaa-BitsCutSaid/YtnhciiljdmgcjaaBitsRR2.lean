/-
  The reference's reader of bits: a bit, a number, the end, a new one. Conditions: at most 2^40 bytes are read.
-/
import Derived.Test.YtnhciiljdmgcjaaBitsRR
namespace Go.Proofs.Ytnhciiljdmgcjaa
open Go.RowKit

theorem xbit_at (z r : Int) (hz : 0 ≤ z ∧ z ≤ 255) (hr : 0 < r) : bits BinOp.and IntKind.i64 (z / 2 ^ (r - 1).toNat) 1 = z / 2 ^ (r - 1).toNat % 2 := and_one _

theorem xbit_ret (z r : Int) (hr : 0 < r) : bits BinOp.and IntKind.i64 (z / 2 ^ (r.toNat - 1)) 1 = z / 2 ^ (r - 1).toNat % 2 := by
  have e : r.toNat - 1 = (r - 1).toNat := by omega
  rw [e, and_one]
set_option maxHeartbeats 800000 in
theorem xbit_more (w : World) (X : Nat) (A : Option Addr) (n c : Nat) (l : List Int) (p : Nat) (z r : Int) (cut bad : Bool) (h : Xc w X A n c l p z r cut bad) (hz : 0 ≤ z ∧ z ≤ 255) (hr : 0 < r) (hr8 : r ≤ 8) :
    Calls Try.prog 23 #[.pointer (some ⟨X, 0, none⟩)] w fun e w' => e = .returned (.int .i64 (z / 2 ^ (r - 1).toNat % 2)) ∧ Xc w' X A n c l p z (r - 1) cut bad ∧ Keep (fun k => k = X) w w' := by
  have h2 : w.cell? ⟨X, 2, none⟩ = some (.int .i64 z) := h.blk.cell 2
  have h3 : w.cell? ⟨X, 3, none⟩ = some (.int .i64 r) := h.blk.cell 3
  have f3 := h.blk.frozen 3
  have hr0 : (r == 0) = false := by simp; omega
  have H := hid h
  have HBL := hid h.blk
  clear h
  go_enter Try.func23, Try.ntmps23
  go_wp2_with fail
  go_region
  go_wp2_with fail
  go_ret
  refine ⟨ret_i64 (xbit_ret z r hr), ?_⟩
  apply Xc.fin H.out
  · with_reducible (repeat (first | refine Keep.drew ?_ | refine Keep.setR ?_ _ _ | exact Keep.refl _ _))
  · with_reducible (repeat (first | apply Blk.drew | apply Blk.set_ | exact HBL.out))
  · first | rfl | simp
set_option maxHeartbeats 800000 in
theorem xbit_0 (w : World) (X : Nat) (A : Option Addr) (n c : Nat) (l : List Int) (p : Nat) (cut bad : Bool) (h : Xc w X A n c l p (atM l ((p : Int) - 1)) 0 cut bad) (hb : Bytes l) (hp : p ≤ 1099511627776) :
    Calls Try.prog 23 #[.pointer (some ⟨X, 0, none⟩)] w fun e w' => e = .returned (.int .i64 (atM l p / 2 ^ (roomM (atM l ((p : Int) - 1)) - 1).toNat % 2)) ∧
      Xc w' X A n c l (p + 1) (atM l p) (roomM (atM l ((p : Int) - 1)) - 1) (cut || decide (n ≤ p)) (bad || decide (atM l ((p : Int) - 1) = 255 ∧ 128 ≤ atM l p)) ∧ Keep (fun k => k = X) w w' := by
  have h3 : w.cell? ⟨X, 3, none⟩ = some (.int .i64 0) := h.blk.cell 3
  have HN := hid (next_any w X A n c l p 0 cut bad h hb hp)
  have hz := atM_byte hb p
  have ht := room_le (atM l ((p : Int) - 1))
  clear h
  generalize roomM (atM l ((p : Int) - 1)) = t at *
  generalize (cut || decide (n ≤ p)) = cut' at *
  generalize (bad || decide (atM l ((p : Int) - 1) = 255 ∧ 128 ≤ atM l p)) = bad' at *
  generalize atM l p = z at *
  go_enter Try.func23, Try.ntmps23
  go_wp2_with fail
  refine HN.out.mono ?_
  rintro e w2 ⟨rfl, h, hk⟩
  have g2 : w2.cell? ⟨X, 2, none⟩ = some (.int .i64 z) := h.blk.cell 2
  have g3 : w2.cell? ⟨X, 3, none⟩ = some (.int .i64 t) := h.blk.cell 3
  have f3 := h.blk.frozen 3
  have H := hid h
  have HBL := hid h.blk
  have HK := hid hk
  clear h hk
  go_wp2_with fail
  go_region
  go_wp2_with fail
  go_ret
  refine ⟨ret_i64 (xbit_ret z t (by omega)), ?_⟩
  have hh : ∀ w', Xc w' X A n c l (p + 1) z (t - 1) cut' bad' ∧ Keep (fun k => k = X) w2 w' → Xc w' X A n c l (p + 1) z (t - 1) cut' bad' ∧ Keep (fun k => k = X) w w' := fun w' h => ⟨h.1, HK.out.trans h.2 (fun _ _ h => h)⟩
  apply hh
  apply Xc.fin H.out
  · with_reducible (repeat (first | refine Keep.drew ?_ | refine Keep.setR ?_ _ _ | exact Keep.refl _ _))
  · with_reducible (repeat (first | apply Blk.drew | apply Blk.set_ | exact HBL.out))
  · first | rfl | simp

theorem xrd_any (w : World) (X : Nat) (A : Option Addr) (n c : Nat) (l : List Int) (s : RS) (h : Xr w X A n c l s) (hb : Bytes l) (hr : 0 ≤ s.2.1 ∧ s.2.1 ≤ 8) (hp : s.1 ≤ 1099511627776) :
    Calls Try.prog 23 #[.pointer (some ⟨X, 0, none⟩)] w fun e w' => e = .returned (.int .i64 (rdV l s)) ∧ Xr w' X A n c l (rdS l s) ∧ Keep (fun k => k = X) w w' := by
  obtain ⟨p, r, bad⟩ := s
  simp only at hr hp
  unfold Xr at h ⊢
  simp only at h
  unfold rdV rdS rdB
  simp only
  by_cases h0 : r = 0
  · subst h0
    have e2 : rdP p 0 = p + 1 := if_pos rfl
    have e3 : ((p + 1 : Nat) : Int) - 1 = p := by omega
    have e1 : rdL l p 0 = roomM (atM l ((p : Int) - 1)) - 1 := by unfold rdL; rw [if_pos rfl]
    have e4 : badM l p 0 bad = (bad || decide (atM l ((p : Int) - 1) = 255 ∧ 128 ≤ atM l p)) := by simp [badM]
    have e5 : decide (n < p + 1) = (decide (n < p) || decide (n ≤ p)) := by
      rw [Bool.eq_iff_iff]; simp; omega
    rw [e2, e3, e1, e4, e5]
    exact xbit_0 w X A n c l p _ bad h hb hp
  · have e1 : rdL l p r = r - 1 := by unfold rdL; rw [if_neg h0]
    have e2 : rdP p r = p := if_neg h0
    have e4 : badM l p r bad = bad := by simp [badM, h0]
    rw [e1, e2, e4]
    exact xbit_more w X A n c l p _ r _ bad h (atM_byte hb _) (by omega) hr.2

set_option maxHeartbeats 800000 in
theorem xbits_any (w : World) (X : Nat) (A : Option Addr) (n c : Nat) (l : List Int) (s : RS) (size : Int) (h : Xr w X A n c l s) (hb : Bytes l) (hr : 0 ≤ s.2.1 ∧ s.2.1 ≤ 8) (hp : s.1 ≤ 1073741824) :
    Calls Try.prog 25 #[.pointer (some ⟨X, 0, none⟩), .int .i64 size] w fun e w' => e = .returned (.int .i64 (rdNum l size s).1) ∧ Xr w' X A n c l (rdNum l size s).2 ∧ Keep (fun k => k = X) w w' := by
  by_cases hs : 1 ≤ size ∧ size ≤ 32
  · obtain ⟨z, rfl⟩ := Int.eq_ofNat_of_zero_le (show 0 ≤ size by omega)
    have e0 : rdNum l z s = rdRun l z 0 s := by unfold rdNum; rw [if_pos hs]; simp
    rw [e0]
    have H0 := hid h
    clear e0 h
    go_enter Try.func25, Try.ntmps25
    go_wp2_with fail
    go_loopw [5, 6] (fun u v wr => ∃ (i : Nat) (a : Int) (t : RS), i ≤ z ∧ u = .int .i64 a ∧ v = .int .i64 i ∧ 0 ≤ a ∧ a ≤ 4294967295 ∧ Hid (a < 2 ^ i) ∧ Hid (Xr wr X A n c l t) ∧ Hid (0 ≤ t.2.1 ∧ t.2.1 ≤ 8) ∧ Hid (t.1 ≤ s.1 + i) ∧ Hid (rdRun l (z - i) a t = rdRun l z 0 s) ∧ Hid (Keep (fun k => k = X) w wr)) (fun _ v _ => z - (intOf v).toNat)
    case atStart => exact ⟨0, 0, s, by omega, rfl, rfl, by omega, by omega, hid (by simp), H0, hid hr, hid (by omega), hid rfl, hid (Keep.refl _ _)⟩
    case round =>
      obtain ⟨i, a, t, hi, rfl, rfl, ha0, ha1, HA, HR, HI, HP, HE, HK⟩ := hrel
      by_cases hlt : i < z
      · have ha2 : a ≤ 2147483647 := by
          have h1 := HA.out
          have h2 : ∀ i : Nat, i < 32 → (2 : Int) ^ i ≤ 2147483648 := by decide
          have := h2 i (by omega)
          omega
        have hv := rdV_bit l t
        have hor := or_bit a (rdV l t) ha0 ha2 hv
        have HO := hid hor
        have hc := xrd_any wr X A n c l t HR.out hb HI.out (by have := HP.out; omega)
        have HN := hid (show rdRun l (z - (i + 1)) (a * 2 + rdV l t) (rdS l t) = rdRun l z 0 s by
          rw [← HE.out]
          have : z - i = z - (i + 1) + 1 := by omega
          rw [this]; rfl)
        have HP2 := hid (show (rdS l t).1 ≤ s.1 + (i + 1) by have := rdP_le t.1 t.2.1; have := HP.out; show rdP _ _ ≤ _; omega)
        have HI2 := hid (show 0 ≤ (rdS l t).2.1 ∧ (rdS l t).2.1 ≤ 8 from rdL_le l t.1 t.2.1 HI.out.1 HI.out.2)
        have HA2 := hid (show a * 2 + rdV l t < 2 ^ (i + 1) by have := HA.out; rw [Int.pow_succ]; omega)
        clear hor
        generalize rdV l t = b at *
        generalize rdS l t = t2 at *
        go_wp2_with fail
        refine hc.mono ?_
        rintro e w4 ⟨rfl, h4, hk4⟩
        have H4 := hid h4
        have HK4 := hid (HK.out.trans hk4 (fun _ _ h => h))
        clear h4 hk4 hc
        go_wp2_with fail
        go_roundw
        case rel => exact ⟨i + 1, a * 2 + b, t2, by omega, by rw [HO.out], by go_num, by omega, by omega, HA2, H4, HI2, HP2, HN, HK4⟩
        case measure => simp [intOf]; omega
      · have hiz : i = z := by omega
        subst hiz
        have hE := HE.out
        rw [Nat.sub_self] at hE
        have HE2 := hid (show rdRun l i 0 s = (a, t) from hE.symm)
        clear hE
        go_wp2_with fail
        go_ret
        rw [HE2.out]
        exact ⟨rfl, HR.out, HK.out⟩
  · have e0 : rdNum l size s = (0, s) := by unfold rdNum; rw [if_neg hs]
    rw [e0]
    have H0 := hid h
    clear e0 h
    by_cases h1 : size < 1
    · go_enter Try.func25, Try.ntmps25
      go_wp2_with fail
      go_ret
      exact ⟨rfl, H0.out, Keep.refl _ _⟩
    · have h2 : 32 < size := by omega
      go_enter Try.func25, Try.ntmps25
      go_wp2_with fail
      go_ret
      exact ⟨rfl, H0.out, Keep.refl _ _⟩

set_option maxHeartbeats 400000 in
theorem newxr_any (w : World) (A : Option Addr) (n c : Nat) (l : List Int) (h : Rd w A n (l.map (Value.int .u8))) :
    Calls Try.prog 21 #[.slice A n c] w fun e w' => e = .returned (.pointer (some ⟨w.heap.size, 0, none⟩)) ∧ Xr w' w.heap.size A n c l (0, 0, false) ∧ Keep (fun _ => False) w w' := by
  go_enter Try.func21, Try.ntmps21
  go_wp2_with fail
  go_ret
  exact ⟨rfl, ⟨Blk.new _ _ _, h.alloc _, fun hn ad e => by have := h.lt hn ad e; omega⟩, (Keep.refl _ w).alloc _⟩

set_option maxHeartbeats 1600000 in
theorem xend_any (w : World) (X : Nat) (A : Option Addr) (n c : Nat) (l : List Int) (s : RS) (h : Xr w X A n c l s) (hb : Bytes l) (hp : s.1 ≤ 1073741824) :
    Calls Try.prog 27 #[.pointer (some ⟨X, 0, none⟩)] w fun e w' => e = .returned (.tuple #[.int .i64 (endM l s.1 s.2.2).1, .int .i64 (endM l s.1 s.2.2).2]) ∧ Keep (fun _ => False) w w' := by
  obtain ⟨p, r, bad⟩ := s
  simp only at hp
  unfold Xr at h
  simp only at h ⊢
  have h0 : w.cell? ⟨X, 0, none⟩ = some (.slice A n c) := h.blk.cell 0
  have h1 : w.cell? ⟨X, 1, none⟩ = some (.int .i64 p) := h.blk.cell 1
  have h2 : w.cell? ⟨X, 2, none⟩ = some (.int .i64 (atM l ((p : Int) - 1))) := h.blk.cell 2
  have h3 : w.cell? ⟨X, 3, none⟩ = some (.int .i64 r) := h.blk.cell 3
  have h4 : w.cell? ⟨X, 4, none⟩ = some (.bool (decide (n < p))) := h.blk.cell 4
  have h5 : w.cell? ⟨X, 5, none⟩ = some (.bool bad) := h.blk.cell 5
  have H := hid h
  have HL := hid h.len
  have HRD := hid h.rd
  clear h
  by_cases hz : atM l ((p : Int) - 1) = 255
  · have hp1 : 0 < p := by
      rcases Nat.eq_zero_or_pos p with h0 | h0
      · subst h0; exact absurd hz (by show ¬ (0 : Int) = 255; decide)
      · exact h0
    have HZ := hid hz
    rw [hz] at h2
    clear hz
    generalize hcut : decide (n < p) = cut at *
    have HCUT := hid hcut
    clear hcut
    go_enter Try.func27, Try.ntmps27
    go_wp2_with fail
    have HX : Xc (w.alloc (Obj.cells #[.slice A n c, .int .i64 p, .int .i64 255, .int .i64 r, .bool cut, .bool bad] 64)) w.heap.size A n c l p (atM l ((p : Int) - 1)) r cut bad := by
      rw [HZ.out]
      exact ⟨Blk.new _ _ _, HRD.out.alloc _, fun hn ad e => by have := HRD.out.lt hn ad e; omega⟩
    refine (next_any _ w.heap.size A n c l p r cut bad HX hb (by omega)).mono ?_
    rintro e w2 ⟨rfl, h, hk⟩
    have hE : endM l p bad = (if (cut || decide (n ≤ p)) = true then (0, 8) else if (bad || decide (atM l ((p : Int) - 1) = 255 ∧ 128 ≤ atM l p)) = true then (0, 10) else (((p + 1 : Nat) : Int), (0 : Int))) := by
      have e5 : ((cut || decide (n ≤ p)) = true) = (n < p + 1) := by
        rw [← HCUT.out]; simp; omega
      have e6 : ((bad || decide (atM l ((p : Int) - 1) = 255 ∧ 128 ≤ atM l p)) = true) = (bad = true ∨ (atM l ((p : Int) - 1) = 255 ∧ 128 ≤ atM l p)) := by simp
      simp only [e5, e6]
      unfold endM
      rw [if_pos HZ.out, HL.out]
    have HE := hid hE
    have hk2 : Keep (fun _ => False) w w2 := ((Keep.refl _ w).alloc _).new hk (fun i hi => by omega)
    have HK := hid hk2
    clear hE hk hk2 HX h0 h1 h2 h3 h4 h5
    generalize (cut || decide (n ≤ p)) = c2 at *
    generalize (bad || decide (atM l ((p : Int) - 1) = 255 ∧ 128 ≤ atM l p)) = b2 at *
    have g1 : w2.cell? ⟨w.heap.size, 1, none⟩ = some (.int .i64 ((p : Int) + 1)) := h.blk.cell 1
    have g4 : w2.cell? ⟨w.heap.size, 4, none⟩ = some (.bool c2) := h.blk.cell 4
    have g5 : w2.cell? ⟨w.heap.size, 5, none⟩ = some (.bool b2) := h.blk.cell 5
    clear h
    cases c2 with
    | true =>
      go_wp2_with fail
      go_ret2
      exact ⟨by rw [HE.out]; rfl, HK.out⟩
    | false =>
      cases b2 with
      | true =>
        go_wp2_with fail
        go_ret2
        exact ⟨by rw [HE.out]; rfl, HK.out⟩
      | false =>
        go_wp2_with fail
        go_ret2
        exact ⟨by rw [HE.out]; rfl, HK.out⟩
  · have hE : endM l p bad = (if decide (n < p) = true then (0, 8) else if bad = true then (0, 10) else ((p : Int), (0 : Int))) := by
      unfold endM
      rw [if_neg hz, HL.out]
      simp [hz]
    have HE := hid hE
    have hzf : (atM l ((p : Int) - 1) == 255) = false := by simpa using hz
    clear hE hz
    generalize atM l ((p : Int) - 1) = z at *
    generalize decide (n < p) = cut at *
    by_cases hp1 : p < 1
    · cases cut with
      | true =>
        go_enter Try.func27, Try.ntmps27
        go_wp2_with fail
        go_ret2
        exact ⟨by rw [HE.out]; rfl, (Keep.refl _ w).alloc _⟩
      | false =>
        cases bad with
        | true =>
          go_enter Try.func27, Try.ntmps27
          go_wp2_with fail
          go_ret2
          exact ⟨by rw [HE.out]; rfl, (Keep.refl _ w).alloc _⟩
        | false =>
          go_enter Try.func27, Try.ntmps27
          go_wp2_with fail
          go_ret2
          exact ⟨by rw [HE.out]; rfl, (Keep.refl _ w).alloc _⟩
    · have hp1 : 0 < p := by omega
      cases cut with
      | true =>
        go_enter Try.func27, Try.ntmps27
        go_wp2_with fail
        go_ret2
        exact ⟨by rw [HE.out]; rfl, (Keep.refl _ w).alloc _⟩
      | false =>
        cases bad with
        | true =>
          go_enter Try.func27, Try.ntmps27
          go_wp2_with fail
          go_ret2
          exact ⟨by rw [HE.out]; rfl, (Keep.refl _ w).alloc _⟩
        | false =>
          go_enter Try.func27, Try.ntmps27
          go_wp2_with fail
          go_ret2
          exact ⟨by rw [HE.out]; rfl, (Keep.refl _ w).alloc _⟩
end Go.Proofs.Ytnhciiljdmgcjaa
