/-
  The reference's reader of bits: a bit, a number, the end, a new one. Conditions: at most 2^40 bytes are read.
-/
import Derived.Test.YtbkffpedigeflaaBitsRR
namespace Go.Proofs.Ytbkffpedigeflaa
open Go.RowKit

theorem xbit_at (z r : Int) (hz : 0 ≤ z ∧ z ≤ 255) (hr : 0 < r) : bits BinOp.and IntKind.i64 (z / 2 ^ (r - 1).toNat) 1 = z / 2 ^ (r - 1).toNat % 2 := and_one _

theorem xbit_ret (z r : Int) (hr : 0 < r) : bits BinOp.and IntKind.i64 (z / 2 ^ (r.toNat - 1)) 1 = z / 2 ^ (r - 1).toNat % 2 := by
  have e : r.toNat - 1 = (r - 1).toNat := by omega
  rw [e, and_one]
set_option maxHeartbeats 800000 in
theorem xbit_more (w : World) (X : Nat) (A : Option Addr) (n c : Nat) (l : List Int) (p : Nat) (z r : Int) (cut bad : Bool) (h : Xc w X A n c l p z r cut bad) (hz : 0 ≤ z ∧ z ≤ 255) (hr : 0 < r) (hr8 : r ≤ 8) :
    Calls Try.prog 34 #[.pointer (some ⟨X, 0, none⟩)] w fun e w' => e = .returned (.int .i64 (z / 2 ^ (r - 1).toNat % 2)) ∧ Xc w' X A n c l p z (r - 1) cut bad ∧ Keep (fun k => k = X) w w' := by
  have h2 : w.cell? ⟨X, 2, none⟩ = some (.int .i64 z) := h.blk.cell 2
  have h3 : w.cell? ⟨X, 3, none⟩ = some (.int .i64 r) := h.blk.cell 3
  have f3 := h.blk.frozen 3
  have hr0 : (r == 0) = false := by simp; omega
  have H := hid h
  have HBL := hid h.blk
  clear h
  go_enter Try.func34, Try.ntmps34
  go_wp2_with fail
  go_region
  go_wp2_with fail
  go_ret
  refine ⟨ret_i64 (xbit_ret z r hr), ?_⟩
  apply Xc.fin H.out
  · with_reducible (repeat (first | refine Keep.drew ?_ | refine Keep.setR ?_ _ _ | exact Keep.refl _ _))
  · with_reducible (repeat (first | apply Blk.drew | apply Blk.set_ | exact HBL.out))
  · first | rfl | simp
set_option maxHeartbeats 800000 in
theorem xbit_0 (w : World) (X : Nat) (A : Option Addr) (n c : Nat) (l : List Int) (p : Nat) (cut bad : Bool) (h : Xc w X A n c l p (atM l ((p : Int) - 1)) 0 cut bad) (hb : Bytes l) (hp : p ≤ 1099511627776) :
    Calls Try.prog 34 #[.pointer (some ⟨X, 0, none⟩)] w fun e w' => e = .returned (.int .i64 (atM l p / 2 ^ (roomM (atM l ((p : Int) - 1)) - 1).toNat % 2)) ∧
      Xc w' X A n c l (p + 1) (atM l p) (roomM (atM l ((p : Int) - 1)) - 1) (cut || decide (n ≤ p)) (bad || decide (atM l ((p : Int) - 1) = 255 ∧ 128 ≤ atM l p)) ∧ Keep (fun k => k = X) w w' := by
  have h3 : w.cell? ⟨X, 3, none⟩ = some (.int .i64 0) := h.blk.cell 3
  have HN := hid (next_any w X A n c l p 0 cut bad h hb hp)
  have hz := atM_byte hb p
  have ht := room_le (atM l ((p : Int) - 1))
  clear h
  generalize roomM (atM l ((p : Int) - 1)) = t at *
  generalize (cut || decide (n ≤ p)) = cut' at *
  generalize (bad || decide (atM l ((p : Int) - 1) = 255 ∧ 128 ≤ atM l p)) = bad' at *
  generalize atM l p = z at *
  go_enter Try.func34, Try.ntmps34
  go_wp2_with fail
  refine HN.out.mono ?_
  rintro e w2 ⟨rfl, h, hk⟩
  have g2 : w2.cell? ⟨X, 2, none⟩ = some (.int .i64 z) := h.blk.cell 2
  have g3 : w2.cell? ⟨X, 3, none⟩ = some (.int .i64 t) := h.blk.cell 3
  have f3 := h.blk.frozen 3
  have H := hid h
  have HBL := hid h.blk
  have HK := hid hk
  clear h hk
  go_wp2_with fail
  go_region
  go_wp2_with fail
  go_ret
  refine ⟨ret_i64 (xbit_ret z t (by omega)), ?_⟩
  have hh : ∀ w', Xc w' X A n c l (p + 1) z (t - 1) cut' bad' ∧ Keep (fun k => k = X) w2 w' → Xc w' X A n c l (p + 1) z (t - 1) cut' bad' ∧ Keep (fun k => k = X) w w' := fun w' h => ⟨h.1, HK.out.trans h.2 (fun _ _ h => h)⟩
  apply hh
  apply Xc.fin H.out
  · with_reducible (repeat (first | refine Keep.drew ?_ | refine Keep.setR ?_ _ _ | exact Keep.refl _ _))
  · with_reducible (repeat (first | apply Blk.drew | apply Blk.set_ | exact HBL.out))
  · first | rfl | simp

theorem xrd_any (w : World) (X : Nat) (A : Option Addr) (n c : Nat) (l : List Int) (s : RS) (h : Xr w X A n c l s) (hb : Bytes l) (hr : 0 ≤ s.2.1 ∧ s.2.1 ≤ 8) (hp : s.1 ≤ 1099511627776) :
    Calls Try.prog 34 #[.pointer (some ⟨X, 0, none⟩)] w fun e w' => e = .returned (.int .i64 (rdV l s)) ∧ Xr w' X A n c l (rdS l s) ∧ Keep (fun k => k = X) w w' := by
  obtain ⟨p, r, bad⟩ := s
  simp only at hr hp
  unfold Xr at h ⊢
  simp only at h
  unfold rdV rdS rdB
  simp only
  by_cases h0 : r = 0
  · subst h0
    have e2 : rdP p 0 = p + 1 := if_pos rfl
    have e3 : ((p + 1 : Nat) : Int) - 1 = p := by omega
    have e1 : rdL l p 0 = roomM (atM l ((p : Int) - 1)) - 1 := by unfold rdL; rw [if_pos rfl]
    have e4 : badM l p 0 bad = (bad || decide (atM l ((p : Int) - 1) = 255 ∧ 128 ≤ atM l p)) := by simp [badM]
    have e5 : decide (n < p + 1) = (decide (n < p) || decide (n ≤ p)) := by
      rw [Bool.eq_iff_iff]; simp; omega
    rw [e2, e3, e1, e4, e5]
    exact xbit_0 w X A n c l p _ bad h hb hp
  · have e1 : rdL l p r = r - 1 := by unfold rdL; rw [if_neg h0]
    have e2 : rdP p r = p := if_neg h0
    have e4 : badM l p r bad = bad := by simp [badM, h0]
    rw [e1, e2, e4]
    exact xbit_more w X A n c l p _ r _ bad h (atM_byte hb _) (by omega) hr.2

set_option maxHeartbeats 400000 in
theorem newxr_any (w : World) (A : Option Addr) (n c : Nat) (l : List Int) (h : Rd w A n (l.map (Value.int .u8))) :
    Calls Try.prog 19 #[.slice A n c] w fun e w' => e = .returned (.pointer (some ⟨w.heap.size, 0, none⟩)) ∧ Xr w' w.heap.size A n c l (0, 0, false) ∧ Keep (fun _ => False) w w' := by
  go_enter Try.func19, Try.ntmps19
  go_wp2_with fail
  go_ret
  exact ⟨rfl, ⟨Blk.new _ _ _, h.alloc _, fun hn ad e => by have := h.lt hn ad e; omega⟩, (Keep.refl _ w).alloc _⟩

set_option maxHeartbeats 1600000 in
theorem xend_any (w : World) (X : Nat) (A : Option Addr) (n c : Nat) (l : List Int) (s : RS) (h : Xr w X A n c l s) (hb : Bytes l) (hp : s.1 ≤ 1073741824) :
    Calls Try.prog 24 #[.pointer (some ⟨X, 0, none⟩)] w fun e w' => e = .returned (.tuple #[.int .i64 (endM l s.1 s.2.2).1, .int .i64 (endM l s.1 s.2.2).2]) ∧ Keep (fun _ => False) w w' := by
  obtain ⟨p, r, bad⟩ := s
  simp only at hp
  unfold Xr at h
  simp only at h ⊢
  have h0 : w.cell? ⟨X, 0, none⟩ = some (.slice A n c) := h.blk.cell 0
  have h1 : w.cell? ⟨X, 1, none⟩ = some (.int .i64 p) := h.blk.cell 1
  have h2 : w.cell? ⟨X, 2, none⟩ = some (.int .i64 (atM l ((p : Int) - 1))) := h.blk.cell 2
  have h3 : w.cell? ⟨X, 3, none⟩ = some (.int .i64 r) := h.blk.cell 3
  have h4 : w.cell? ⟨X, 4, none⟩ = some (.bool (decide (n < p))) := h.blk.cell 4
  have h5 : w.cell? ⟨X, 5, none⟩ = some (.bool bad) := h.blk.cell 5
  have H := hid h
  have HL := hid h.len
  have HRD := hid h.rd
  clear h
  by_cases hz : atM l ((p : Int) - 1) = 255
  · have hp1 : 0 < p := by
      rcases Nat.eq_zero_or_pos p with h0 | h0
      · subst h0; exact absurd hz (by show ¬ (0 : Int) = 255; decide)
      · exact h0
    have HZ := hid hz
    rw [hz] at h2
    clear hz
    generalize hcut : decide (n < p) = cut at *
    have HCUT := hid hcut
    clear hcut
    go_enter Try.func24, Try.ntmps24
    go_wp2_with fail
    have HX : Xc (w.alloc (Obj.cells #[.slice A n c, .int .i64 p, .int .i64 255, .int .i64 r, .bool cut, .bool bad] 83)) w.heap.size A n c l p (atM l ((p : Int) - 1)) r cut bad := by
      rw [HZ.out]
      exact ⟨Blk.new _ _ _, HRD.out.alloc _, fun hn ad e => by have := HRD.out.lt hn ad e; omega⟩
    refine (next_any _ w.heap.size A n c l p r cut bad HX hb (by omega)).mono ?_
    rintro e w2 ⟨rfl, h, hk⟩
    have hE : endM l p bad = (if (cut || decide (n ≤ p)) = true then (0, 8) else if (bad || decide (atM l ((p : Int) - 1) = 255 ∧ 128 ≤ atM l p)) = true then (0, 10) else (((p + 1 : Nat) : Int), (0 : Int))) := by
      have e5 : ((cut || decide (n ≤ p)) = true) = (n < p + 1) := by
        rw [← HCUT.out]; simp; omega
      have e6 : ((bad || decide (atM l ((p : Int) - 1) = 255 ∧ 128 ≤ atM l p)) = true) = (bad = true ∨ (atM l ((p : Int) - 1) = 255 ∧ 128 ≤ atM l p)) := by simp
      simp only [e5, e6]
      unfold endM
      rw [if_pos HZ.out, HL.out]
    have HE := hid hE
    have hk2 : Keep (fun _ => False) w w2 := ((Keep.refl _ w).alloc _).new hk (fun i hi => by omega)
    have HK := hid hk2
    clear hE hk hk2 HX h0 h1 h2 h3 h4 h5
    generalize (cut || decide (n ≤ p)) = c2 at *
    generalize (bad || decide (atM l ((p : Int) - 1) = 255 ∧ 128 ≤ atM l p)) = b2 at *
    have g1 : w2.cell? ⟨w.heap.size, 1, none⟩ = some (.int .i64 ((p : Int) + 1)) := h.blk.cell 1
    have g4 : w2.cell? ⟨w.heap.size, 4, none⟩ = some (.bool c2) := h.blk.cell 4
    have g5 : w2.cell? ⟨w.heap.size, 5, none⟩ = some (.bool b2) := h.blk.cell 5
    clear h
    cases c2 with
    | true =>
      go_wp2_with fail
      go_ret2
      exact ⟨by rw [HE.out]; rfl, HK.out⟩
    | false =>
      cases b2 with
      | true =>
        go_wp2_with fail
        go_ret2
        exact ⟨by rw [HE.out]; rfl, HK.out⟩
      | false =>
        go_wp2_with fail
        go_ret2
        exact ⟨by rw [HE.out]; rfl, HK.out⟩
  · have hE : endM l p bad = (if decide (n < p) = true then (0, 8) else if bad = true then (0, 10) else ((p : Int), (0 : Int))) := by
      unfold endM
      rw [if_neg hz, HL.out]
      simp [hz]
    have HE := hid hE
    have hzf : (atM l ((p : Int) - 1) == 255) = false := by simpa using hz
    clear hE hz
    generalize atM l ((p : Int) - 1) = z at *
    generalize decide (n < p) = cut at *
    by_cases hp1 : p < 1
    · cases cut with
      | true =>
        go_enter Try.func24, Try.ntmps24
        go_wp2_with fail
        go_ret2
        exact ⟨by rw [HE.out]; rfl, (Keep.refl _ w).alloc _⟩
      | false =>
        cases bad with
        | true =>
          go_enter Try.func24, Try.ntmps24
          go_wp2_with fail
          go_ret2
          exact ⟨by rw [HE.out]; rfl, (Keep.refl _ w).alloc _⟩
        | false =>
          go_enter Try.func24, Try.ntmps24
          go_wp2_with fail
          go_ret2
          exact ⟨by rw [HE.out]; rfl, (Keep.refl _ w).alloc _⟩
    · have hp1 : 0 < p := by omega
      cases cut with
      | true =>
        go_enter Try.func24, Try.ntmps24
        go_wp2_with fail
        go_ret2
        exact ⟨by rw [HE.out]; rfl, (Keep.refl _ w).alloc _⟩
      | false =>
        cases bad with
        | true =>
          go_enter Try.func24, Try.ntmps24
          go_wp2_with fail
          go_ret2
          exact ⟨by rw [HE.out]; rfl, (Keep.refl _ w).alloc _⟩
        | false =>
          go_enter Try.func24, Try.ntmps24
          go_wp2_with fail
          go_ret2
          exact ⟨by rw [HE.out]; rfl, (Keep.refl _ w).alloc _⟩
end Go.Proofs.Ytbkffpedigeflaa
