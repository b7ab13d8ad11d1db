/-
  The program's encoder: doubling. Conditions: at most 2^30 bytes.
-/
import Derived.Test.YtcieeoobobafmaaMqE
namespace Go.Proofs.Ytcieeoobobafmaa
open Go.RowKit

/-- What holds of an encoder between two steps. -/
structure EInv (s : ES) : Prop where
  bytes : Bytes s.b
  some_ : 0 < s.b.length
  c0 : 0 ≤ s.c
  a0 : 0 < s.a
  ct1 : 1 ≤ s.ct
  ct12 : s.ct ≤ 12
  top : s.c + s.a ≤ 9 * 2 ^ (24 - s.ct).toNat
/-- One doubling. -/
def dblM (s : ES) : ES := if s.ct - 1 = 0 then outM ⟨s.a * 2, s.c * 2, s.ct - 1, s.b⟩ else ⟨s.a * 2, s.c * 2, s.ct - 1, s.b⟩
def renM : Nat → ES → ES
  | 0, s => s
  | k + 1, s => if 32768 ≤ (dblM s).a then dblM s else renM k (dblM s)
theorem dblM_a (s : ES) : (dblM s).a = s.a * 2 := by unfold dblM; split; · rw [outM_a]
                                                     · rfl
theorem dblM_len (s : ES) : (dblM s).b.length ≤ s.b.length + 1 := by unfold dblM; split; · rw [outM_len]; exact Nat.le_refl _
                                                                     · exact Nat.le_succ _
theorem outM_c (s : ES) : (outM s).c < 524288 ∧ (outM s).ct = 8 ∨ (outM s).c < 1048576 ∧ (outM s).ct = 7 := by
  unfold outM
  split
  · right; exact ⟨by show s.c % 1048576 < _; omega, rfl⟩
  · split
    · split
      · right; exact ⟨by show (s.c - 134217728) % 1048576 < _; omega, rfl⟩
      · left; exact ⟨by show (s.c - 134217728) % 524288 < _; omega, rfl⟩
    · left; exact ⟨by show s.c % 524288 < _; omega, rfl⟩
theorem outM_c0 (s : ES) : 0 ≤ (outM s).c := by
  unfold outM
  split
  · show 0 ≤ s.c % 1048576; omega
  · split
    · split
      · show 0 ≤ (s.c - 134217728) % 1048576; omega
      · show 0 ≤ (s.c - 134217728) % 524288; omega
    · show 0 ≤ s.c % 524288; omega
theorem EInv.dbl {s : ES} (h : EInv s) (ha : s.a < 32768) : EInv (dblM s) := by
  have h1 := h.ct1
  have h12 := h.ct12
  have h0 := h.c0
  have ha0 := h.a0
  have ht := h.top
  obtain ⟨k, hk⟩ : ∃ k : Nat, (24 - s.ct).toNat = k := ⟨_, rfl⟩
  rw [hk] at ht
  have e2 : (24 - (s.ct - 1)).toNat = k + 1 := by omega
  have e3 : (9 : Int) * 2 ^ (k + 1) = 9 * 2 ^ k * 2 := by rw [Int.pow_succ, Int.mul_assoc]
  unfold dblM
  by_cases hc : s.ct - 1 = 0
  · rw [if_pos hc]
    have hk23 : k = 23 := by omega
    subst hk23
    have hc28 : s.c * 2 < 268435456 := by
      have : (9 : Int) * 2 ^ 23 = 75497472 := by decide
      omega
    refine ⟨outM_bytes ⟨s.a * 2, s.c * 2, s.ct - 1, s.b⟩ h.bytes (by show 0 ≤ s.c * 2; omega) hc28, by rw [outM_len]; omega, outM_c0 _, by rw [outM_a]; show 0 < s.a * 2; omega, ?_, ?_, ?_⟩
    · rcases outM_c ⟨s.a * 2, s.c * 2, s.ct - 1, s.b⟩ with h | h <;> omega
    · rcases outM_c ⟨s.a * 2, s.c * 2, s.ct - 1, s.b⟩ with h | h <;> omega
    · rw [outM_a]
      show _ + s.a * 2 ≤ _
      rcases outM_c ⟨s.a * 2, s.c * 2, s.ct - 1, s.b⟩ with ⟨h1, h2⟩ | ⟨h1, h2⟩
      · rw [h2]
        have : (9 : Int) * 2 ^ (24 - 8 : Int).toNat = 589824 := by decide
        omega
      · rw [h2]
        have : (9 : Int) * 2 ^ (24 - 7 : Int).toNat = 1179648 := by decide
        omega
  · rw [if_neg hc]
    refine ⟨h.bytes, h.some_, by show 0 ≤ s.c * 2; omega, by show 0 < s.a * 2; omega, by show 1 ≤ s.ct - 1; omega, by show s.ct - 1 ≤ 12; omega, ?_⟩
    show s.c * 2 + s.a * 2 ≤ 9 * 2 ^ (24 - (s.ct - 1)).toNat
    rw [e2, e3]
    omega
theorem EInv.c28 {s : ES} (h : EInv s) (hc : s.ct - 1 = 0) : s.c * 2 < 268435456 := by
  have ht := h.top
  have h0 := h.a0
  have e : (24 - s.ct).toNat = 23 := by omega
  rw [e] at ht
  have : (9 : Int) * 2 ^ 23 = 75497472 := by decide
  omega

/-- How far A is from its bit. -/
def farA (E : Nat) (w : World) : Nat := match w.cell? ⟨E, 1, none⟩ with
  | some (.int _ a) => (32768 - a).toNat
  | _ => 0
/-- What a round of the doubling starts from. -/
def RenR (w : World) (base E : Nat) (A : Option Addr) (n : Nat) (s : ES) (wr : World) : Prop :=
  ∃ (k : Nat) (t : ES) (A1 : Option Addr) (n1 c1 : Nat), k ≤ 16 ∧ t.a < 32768 ∧ Hid (32768 ≤ t.a * 2 ^ k) ∧ Hid (En wr base E A1 n1 c1 t) ∧ Hid (EInv t) ∧ Hid (renM k t = renM 16 s) ∧ n1 + k ≤ n + 16 ∧ Hid (Grew w A A1) ∧ Hid (Keep (foot E A) w wr)
theorem farA_en {w : World} {base E : Nat} {A : Option Addr} {n c : Nat} {s : ES} (h : En w base E A n c s) : farA E w = (32768 - s.a).toNat := by
  unfold farA
  rw [show w.cell? ⟨E, 1, none⟩ = some (.int .i64 s.a) from h.blk.cell 1]
theorem ren_round {w wr : World} {base E : Nat} {A A1 : Option Addr} {n n1 c1 k : Nat} {s t : ES} (hk : k ≤ 16) (hta : t.a < 32768) (HTA : 32768 ≤ t.a * 2 ^ k) (HE : En wr base E A1 n1 c1 t) (HI : EInv t) (HR : renM k t = renM 16 s) (hn1 : n1 + k ≤ n + 16)
    {w6 : World} {A6 : Option Addr} {n6 c6 : Nat} (h6 : En w6 base E A6 n6 c6 (dblM t)) (g6 : Grew w A A6) (k6 : Keep (foot E A) w w6) :
    (32768 ≤ t.a * 2 → EnP w base E A (renM 16 s) (.returned (.tuple #[])) w6) ∧ (t.a * 2 < 32768 → RenR w base E A n s w6 ∧ farA E w6 < farA E wr) := by
  have ha0 := HI.a0
  obtain ⟨k', rfl⟩ : ∃ k', k = k' + 1 := by
    cases k with
    | zero => simp at HTA; omega
    | succ k => exact ⟨k, rfl⟩
  have hl1 := HE.len
  have hl6 := h6.len
  have hl := dblM_len t
  have e : renM (k' + 1) t = if 32768 ≤ t.a * 2 then dblM t else renM k' (dblM t) := by
    show (if 32768 ≤ (dblM t).a then _ else _) = _
    rw [dblM_a]
  rw [e] at HR
  refine ⟨fun h => ?_, fun h => ⟨⟨k', dblM t, A6, n6, c6, by omega, by rw [dblM_a]; omega, hid ?_, hid h6, hid (HI.dbl hta), hid ?_, by omega, hid g6, hid k6⟩, ?_⟩⟩
  · rw [if_pos h] at HR
    rw [← HR]
    exact ⟨A6, n6, c6, rfl, h6, g6, k6⟩
  · rw [dblM_a]
    have : (2 : Int) ^ (k' + 1) = 2 * 2 ^ k' := by rw [Int.pow_succ, Int.mul_comm]
    rw [this, ← Int.mul_assoc] at HTA
    exact HTA
  · rw [if_neg (by omega)] at HR
    exact HR
  · rw [farA_en h6, farA_en HE, dblM_a]
    omega
theorem En.trip {w : World} {base E : Nat} {A : Option Addr} {n c : Nat} {a C ct : Int} {l : List Int} (h : En w base E A n c ⟨a, C, ct, l⟩) (a' C' ct' : Int) :
    En (((w.setCell ⟨E, 1, none⟩ (.int .i64 a')).setCell ⟨E, 2, none⟩ (.int .i64 C')).setCell ⟨E, 3, none⟩ (.int .i64 ct')).drew base E A n c ⟨a', C', ct', l⟩ := by
  refine ⟨(((h.blk.set_ 1 (.int .i64 a')).set_ 2 (.int .i64 C')).set_ 3 (.int .i64 ct')).drew, ?_⟩
  exact own_keep h.own (((((Keep.refl (fun k => k = E) w).setR 1 _).setR 2 _).setR 3 _).drew) (fun k e hk => own_ne h.own h.blk (by decide) (by rw [e, hk]))
set_option maxHeartbeats 4000000 in
theorem ren_any (w : World) (base E : Nat) (A : Option Addr) (n c : Nat) (s : ES) (h : En w base E A n c s) (hi : EInv s) (hb : base ≤ w.heap.size) (hn : n ≤ 1073741000) (ha : s.a < 32768) :
    Calls Try.prog 39 #[.pointer (some ⟨E, 0, none⟩)] w (EnP w base E A (renM 16 s)) := by
  have hlen := h.len
  have HE0 := hid h
  have HI0 := hid hi
  have ha0 := hi.a0
  have h16 : 32768 ≤ s.a * 2 ^ 16 := by
    have : (2 : Int) ^ 16 = 65536 := by decide
    omega
  have H16 := hid h16
  clear h hi h16
  go_enter Try.func39, Try.ntmps39
  go_wp2_with fail
  go_loopw [] (fun wr => RenR w base E A n s wr) (fun wr => farA E wr)
  case atStart => exact ⟨16, s, A, n, c, by omega, ha, H16, HE0, HI0, hid rfl, by omega, hid (Grew.refl w A), hid (Keep.refl _ _)⟩
  case round =>
    obtain ⟨k, t, A1, n1, c1, hk, hta, HTA, HE, HI, HR, hn1, HG, HK⟩ := hrel
    have HF := hid (fun (w6 : World) (A6 : Option Addr) (n6 c6 : Nat) => ren_round (w := w) (w6 := w6) (A := A) (A6 := A6) (n6 := n6) (c6 := c6) hk hta HTA.out HE.out HI.out HR.out hn1)
    have hl1 := HE.out.len
    have HBY := hid HI.out.bytes
    have hsome := HI.out.some_
    have H28 := hid (fun h => HI.out.c28 h)
    have HDB := hid (show dblM t = if t.ct - 1 = 0 then outM ⟨t.a * 2, t.c * 2, t.ct - 1, t.b⟩ else ⟨t.a * 2, t.c * 2, t.ct - 1, t.b⟩ from rfl)
    obtain ⟨a, C, ct, l⟩ := t
    have hct1 : 1 ≤ ct := HI.out.ct1
    have hct12 : ct ≤ 12 := HI.out.ct12
    have ha1 : 0 < a := HI.out.a0
    have hC0 : 0 ≤ C := HI.out.c0
    have hC1 : C < 4611686018427387904 := by
      have h1 := HI.out.top
      have : (2 : Int) ^ (24 - ct).toNat ≤ 2 ^ 24 := by
        have : (2 : Nat) ^ (24 - ct).toNat ≤ 2 ^ 24 := Nat.pow_le_pow_right (by omega) (by omega)
        exact_mod_cast this
      simp only at h1
      omega
    simp only at hta hl1 hsome
    have g1 : wr.cell? ⟨E, 1, none⟩ = some (.int .i64 a) := HE.out.blk.cell 1
    have g2 : wr.cell? ⟨E, 2, none⟩ = some (.int .i64 C) := HE.out.blk.cell 2
    have g3 : wr.cell? ⟨E, 3, none⟩ = some (.int .i64 ct) := HE.out.blk.cell 3
    have f1 := HE.out.blk.frozen 1
    have f2 := HE.out.blk.frozen 2
    have f3 := HE.out.blk.frozen 3
    have HT := hid (HE.out.trip (a * 2) (C * 2) (ct - 1))
    have HK5 := hid (show Keep (foot E A1) wr (((wr.setCell ⟨E, 1, none⟩ (.int .i64 (a * 2))).setCell ⟨E, 2, none⟩ (.int .i64 (C * 2))).setCell ⟨E, 3, none⟩ (.int .i64 (ct - 1))).drew from
      ((((Keep.refl (foot E A1) wr).setCell (p := ⟨E, 1, none⟩) (.inl (show foot E A1 E from .inl rfl)) _).setCell (p := ⟨E, 2, none⟩) (.inl (show foot E A1 E from .inl rfl)) _).setCell (p := ⟨E, 3, none⟩) (.inl (show foot E A1 E from .inl rfl)) _).drew)
    have hand : bits .and .i64 (a * 2) 32768 = if 32768 ≤ a * 2 then 32768 else 0 := and_half (a * 2) (by omega) (by omega)
    by_cases hc : ct - 1 = 0
    · have H28' := H28.out hc
      have HDB' := hid (HDB.out.trans (if_pos hc))
      have hc' : (ct - 1 == 0) = true := by simpa using hc
      have HC := hid hc
      clear hc
      rw [HDB'.out] at HF
      have hb5 : base ≤ wr.heap.size := Nat.le_trans hb HK.out.size
      clear HDB HDB'
      go_wp2_with fail
      go_region
      go_wp2_with fail
      refine (out_any _ base E A1 n1 c1 _ HT.out (by simpa using hb5) (by omega) (by omega) HBY.out (by simp only; omega) H28').mono ?_
      rintro e w6 ⟨A6, n6, c6, rfl, h6, g6, k6⟩
      have hgn := grew_next (Grew.refl wr A1) HK5.out g6 k6
      have hgn2 := grew_next HG.out HK.out hgn.1 hgn.2
      have HF2 := hid (HF.out w6 A6 n6 c6 h6 hgn2.1 hgn2.2)
      have e1 : w6.cell? ⟨E, 1, none⟩ = some (.int .i64 (a * 2)) := by
        have := h6.blk.cell 1
        rw [outM_a] at this
        exact this
      clear HF HT HK5 hgn hgn2 h6 g6 k6
      by_cases h32 : 32768 ≤ a * 2
      · rw [if_pos h32] at hand
        have HF3 := hid (HF2.out.1 h32)
        go_wp2_with fail
        refine bodyPost_ret (results_none rfl _ _ _) rfl ?_
        exact HF3.out
      · rw [if_neg h32] at hand
        have HF3 := hid (HF2.out.2 (by show a * 2 < 32768; omega))
        go_wp2_with fail
        exact HF3.out
    · have HDB' := hid (HDB.out.trans (if_neg hc))
      have hc' : (ct - 1 == 0) = false := by simpa using hc
      clear hc
      rw [HDB'.out] at HF
      have HF' := HF.out _ _ _ _ HT.out HG.out (grew_next HG.out HK.out (Grew.refl _ _) HK5.out).2
      have HF2 := hid HF'
      clear HF' HF HDB HDB' HT HK5
      by_cases h32 : 32768 ≤ a * 2
      · rw [if_pos h32] at hand
        have HF3 := hid (HF2.out.1 h32)
        go_wp2_with fail
        go_region
        go_wp2_with fail
        refine bodyPost_ret (results_none rfl _ _ _) rfl ?_
        exact HF3.out
      · rw [if_neg h32] at hand
        have HF3 := hid (HF2.out.2 (by show a * 2 < 32768; omega))
        go_wp2_with fail
        go_region
        go_wp2_with fail
        exact HF3.out
end Go.Proofs.Ytcieeoobobafmaa
