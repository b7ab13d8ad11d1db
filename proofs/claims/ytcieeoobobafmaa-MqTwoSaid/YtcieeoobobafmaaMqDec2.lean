/-
  The program's decoder: doubling. Conditions: at most 2^30 bytes.
-/
import Derived.Test.YtcieeoobobafmaaMqDec
namespace Go.Proofs.Ytcieeoobobafmaa
open Go.RowKit

def inD (l : List Int) (s : DS) : DS := if s.ct = 0 then inM l s else s
def dblD (l : List Int) (s : DS) : DS := ⟨(inD l s).a * 2, wrap64 ((inD l s).c * 2), (inD l s).ct - 1, (inD l s).p⟩
def renD (l : List Int) : Nat → DS → DS
  | 0, s => s
  | k + 1, s => if 32768 ≤ (dblD l s).a then dblD l s else renD l k (dblD l s)
theorem inM_a (l : List Int) (s : DS) : (inM l s).a = s.a := by
  unfold inM
  split
  · split <;> rfl
  · rfl
theorem inM_ct (l : List Int) (s : DS) : (inM l s).ct = 7 ∨ (inM l s).ct = 8 := by
  unfold inM
  split
  · split
    · exact .inr rfl
    · exact .inl rfl
  · exact .inr rfl
/-- What holds of a decoder. -/
structure DInv (l : List Int) (s : DS) : Prop where
  a0 : 0 < s.a
  ct0 : 0 ≤ s.ct
  ct8 : s.ct ≤ 8
  p : s.p ≤ l.length
theorem DInv.in_ {l : List Int} {s : DS} (h : DInv l s) : DInv l (inD l s) ∧ (inD l s).a = s.a ∧ 1 ≤ (inD l s).ct := by
  unfold inD
  by_cases hc : s.ct = 0
  · rw [if_pos hc]
    have := inM_ct l s
    exact ⟨⟨by rw [inM_a]; exact h.a0, by omega, by omega, inM_p h.p⟩, inM_a l s, by omega⟩
  · rw [if_neg hc]
    have := h.ct0
    exact ⟨h, rfl, by omega⟩
theorem DInv.dbl {l : List Int} {s : DS} (h : DInv l s) : DInv l (dblD l s) ∧ (dblD l s).a = s.a * 2 := by
  obtain ⟨h1, h2, h3⟩ := h.in_
  have h0 := h.a0
  have h8 := h1.ct8
  refine ⟨⟨by show 0 < (inD l s).a * 2; omega, by show 0 ≤ (inD l s).ct - 1; omega, by show (inD l s).ct - 1 ≤ 8; omega, h1.p⟩, by show (inD l s).a * 2 = _; rw [h2]⟩
/-- What a round of the doubling starts from. -/
def RenD (w : World) (base D : Nat) (A : Option Addr) (n c : Nat) (l : List Int) (s : DS) (wr : World) : Prop :=
  ∃ (k : Nat) (t : DS), k ≤ 16 ∧ t.a < 32768 ∧ Hid (32768 ≤ t.a * 2 ^ k) ∧ Hid (De wr base D A n c l t) ∧ Hid (DInv l t) ∧ Hid (renD l k t = renD l 16 s) ∧ Hid (Keep (fun j => j = D) w wr)
theorem farA_de {w : World} {base D : Nat} {A : Option Addr} {n c : Nat} {l : List Int} {s : DS} (h : De w base D A n c l s) : farA D w = (32768 - s.a).toNat := by
  unfold farA
  rw [show w.cell? ⟨D, 1, none⟩ = some (.int .i64 s.a) from h.blk.cell 1]
theorem rend_round {w wr : World} {base D : Nat} {A : Option Addr} {n c k : Nat} {l : List Int} {s t : DS} (hk : k ≤ 16) (hta : t.a < 32768) (HTA : 32768 ≤ t.a * 2 ^ k) (HE : De wr base D A n c l t) (HI : DInv l t) (HR : renD l k t = renD l 16 s)
    {w6 : World} (h6 : De w6 base D A n c l (dblD l t)) (k6 : Keep (fun j => j = D) w w6) :
    (32768 ≤ t.a * 2 → De w6 base D A n c l (renD l 16 s) ∧ Keep (fun j => j = D) w w6) ∧ (t.a * 2 < 32768 → RenD w base D A n c l s w6 ∧ farA D w6 < farA D wr) := by
  have ha0 := HI.a0
  obtain ⟨hd1, hd2⟩ := HI.dbl
  obtain ⟨k', rfl⟩ : ∃ k', k = k' + 1 := by
    cases k with
    | zero => simp at HTA; omega
    | succ k => exact ⟨k, rfl⟩
  have e : renD l (k' + 1) t = if 32768 ≤ t.a * 2 then dblD l t else renD l k' (dblD l t) := by
    show (if 32768 ≤ (dblD l t).a then _ else _) = _
    rw [hd2]
  rw [e] at HR
  refine ⟨fun h => ?_, fun h => ⟨⟨k', dblD l t, by omega, by rw [hd2]; omega, hid ?_, hid h6, hid hd1, hid ?_, hid k6⟩, ?_⟩⟩
  · rw [if_pos h] at HR
    rw [← HR]
    exact ⟨h6, k6⟩
  · rw [hd2]
    have : (2 : Int) ^ (k' + 1) = 2 * 2 ^ k' := by rw [Int.pow_succ, Int.mul_comm]
    rw [this, ← Int.mul_assoc] at HTA
    exact HTA
  · rw [if_neg (by omega)] at HR
    exact HR
  · rw [farA_de h6, farA_de HE, hd2]
    omega
set_option maxRecDepth 20000 in
set_option maxHeartbeats 4000000 in
theorem rend_any (w : World) (base D : Nat) (A : Option Addr) (n c : Nat) (l : List Int) (s : DS) (h : De w base D A n c l s) (hi : DInv l s) (hby : Bytes l) (hn : n ≤ 1073741000) (ha : s.a < 32768) :
    Calls Try.prog 37 #[.pointer (some ⟨D, 0, none⟩)] w fun e w' => e = .returned (.tuple #[]) ∧ De w' base D A n c l (renD l 16 s) ∧ Keep (fun j => j = D) w w' := by
  have HE0 := hid h
  have HI0 := hid hi
  have HBY := hid hby
  have ha0 := hi.a0
  have h16 : 32768 ≤ s.a * 2 ^ 16 := by
    have : (2 : Int) ^ 16 = 65536 := by decide
    omega
  have H16 := hid h16
  have hlen := h.len
  clear h hi h16 hby
  go_enter Try.func37, Try.ntmps37
  go_wp2_with fail
  go_loopw [] (fun wr => RenD w base D A n c l s wr) (fun wr => farA D wr)
  case atStart => exact ⟨16, s, by omega, ha, H16, HE0, HI0, hid rfl, hid (Keep.refl _ _)⟩
  case round =>
    obtain ⟨k, t, hk, hta, HTA, HE, HI, HR, HK⟩ := hrel
    have HF := hid (fun (w6 : World) => rend_round (w := w) (w6 := w6) hk hta HTA.out HE.out HI.out HR.out)
    have hp := HI.out.p
    have hct0 := HI.out.ct0
    have ha1 := HI.out.a0
    obtain ⟨hi1, hia, hict⟩ := HI.out.in_
    have hict8 := hi1.ct8
    clear hi1
    have g3 : wr.cell? ⟨D, 3, none⟩ = some (.int .i64 t.ct) := HE.out.blk.cell 3
    by_cases hc : t.ct = 0
    · have hIN : inD l t = inM l t := if_pos hc
      have HIN := hid hIN
      clear hIN
      rw [hc] at g3
      clear hc
      go_wp2_with fail
      refine (in_any wr base D A n c l t HE.out HBY.out (by omega) hn).mono ?_
      rintro e w2 ⟨rfl, hE1, hK1⟩
      rw [← HIN.out] at hE1
      have HE1 := hid hE1
      have HK1 := hid hK1
      clear hE1 hK1 g3
      generalize hs : inD l t = s1 at *
      have HS := hid hs
      clear hs
      have HD := hid (show dblD l t = ⟨s1.a * 2, wrap64 (s1.c * 2), s1.ct - 1, s1.p⟩ from by rw [← HS.out]; rfl)
      obtain ⟨a1, c1, t1, p1⟩ := s1
      simp only at hia hict hict8
      subst hia
      have g1 : w2.cell? ⟨D, 1, none⟩ = some (.int .i64 t.a) := HE1.out.blk.cell 1
      have g2 : w2.cell? ⟨D, 2, none⟩ = some (.int .i64 c1) := HE1.out.blk.cell 2
      have g3 : w2.cell? ⟨D, 3, none⟩ = some (.int .i64 t1) := HE1.out.blk.cell 3
      have f1 := HE1.out.blk.frozen 1
      have f2 := HE1.out.blk.frozen 2
      have f3 := HE1.out.blk.frozen 3
      have ht := HE1.out.fin (s' := dblD l t) (((((Keep.refl (fun k => k = D) w2).setR 1 (.int .i64 (t.a * 2))).setR 2 (.int .i64 (wrap64 (c1 * 2)))).setR 3 (.int .i64 (t1 - 1))).drew) ((((HE1.out.blk.set_ 1 (.int .i64 (t.a * 2))).set_ 2 (.int .i64 (wrap64 (c1 * 2)))).set_ 3 (.int .i64 (t1 - 1))).drew) (by rw [HD.out]; first | rfl | simp)
      have HF2 := hid (HF.out _ ht.1 ((HK.out.trans HK1.out (fun _ _ h => h)).trans ht.2 (fun _ _ h => h)))
      clear ht
      have hand : bits .and .i64 (t.a * 2) 32768 = if 32768 ≤ t.a * 2 then 32768 else 0 := and_half (t.a * 2) (by omega) (by omega)
      by_cases h32 : 32768 ≤ t.a * 2
      · rw [if_pos h32] at hand
        have HF3 := hid (HF2.out.1 (by omega))
        go_wp2_with fail
        go_region
        go_wp2_with fail
        refine bodyPost_ret (results_none rfl _ _ _) rfl ?_
        exact ⟨rfl, HF3.out⟩
      · rw [if_neg h32] at hand
        have HF3 := hid (HF2.out.2 (by omega))
        go_wp2_with fail
        go_region
        go_wp2_with fail
        exact HF3.out
    · have hIN : inD l t = t := if_neg hc
      have hc' : (t.ct == 0) = false := by simpa using hc
      have HE1 : Hid (De wr base D A n c l (inD l t)) := hid (by rw [hIN]; exact HE.out)
      have HK1 := hid (Keep.refl (fun k => k = D) wr)
      have h3 : t.ct = (inD l t).ct := by rw [hIN]
      rw [h3] at g3 hc'
      clear hIN hc h3 g3
      generalize hs : inD l t = s1 at *
      have HS := hid hs
      clear hs
      have HD := hid (show dblD l t = ⟨s1.a * 2, wrap64 (s1.c * 2), s1.ct - 1, s1.p⟩ from by rw [← HS.out]; rfl)
      obtain ⟨a1, c1, t1, p1⟩ := s1
      simp only at hia hict hict8
      subst hia
      have g1 : wr.cell? ⟨D, 1, none⟩ = some (.int .i64 t.a) := HE1.out.blk.cell 1
      have g2 : wr.cell? ⟨D, 2, none⟩ = some (.int .i64 c1) := HE1.out.blk.cell 2
      have g3 : wr.cell? ⟨D, 3, none⟩ = some (.int .i64 t1) := HE1.out.blk.cell 3
      have f1 := HE1.out.blk.frozen 1
      have f2 := HE1.out.blk.frozen 2
      have f3 := HE1.out.blk.frozen 3
      have ht := HE1.out.fin (s' := dblD l t) (((((Keep.refl (fun k => k = D) wr).setR 1 (.int .i64 (t.a * 2))).setR 2 (.int .i64 (wrap64 (c1 * 2)))).setR 3 (.int .i64 (t1 - 1))).drew) ((((HE1.out.blk.set_ 1 (.int .i64 (t.a * 2))).set_ 2 (.int .i64 (wrap64 (c1 * 2)))).set_ 3 (.int .i64 (t1 - 1))).drew) (by rw [HD.out]; first | rfl | simp)
      have HF2 := hid (HF.out _ ht.1 ((HK.out.trans HK1.out (fun _ _ h => h)).trans ht.2 (fun _ _ h => h)))
      clear ht
      have hand : bits .and .i64 (t.a * 2) 32768 = if 32768 ≤ t.a * 2 then 32768 else 0 := and_half (t.a * 2) (by omega) (by omega)
      by_cases h32 : 32768 ≤ t.a * 2
      · rw [if_pos h32] at hand
        have HF3 := hid (HF2.out.1 (by omega))
        go_wp2_with fail
        go_region
        go_wp2_with fail
        refine bodyPost_ret (results_none rfl _ _ _) rfl ?_
        exact ⟨rfl, HF3.out⟩
      · rw [if_neg h32] at hand
        have HF3 := hid (HF2.out.2 (by omega))
        go_wp2_with fail
        go_region
        go_wp2_with fail
        exact HF3.out
end Go.Proofs.Ytcieeoobobafmaa
