/-
  The reference's reader of bits. Conditions: at most 2^40 bytes are read.
-/
import Derived.Test.YtbkffpedigeflaaBitsR2
namespace Go.Proofs.Ytbkffpedigeflaa
open Go.RowKit

theorem Blk.to {w : World} {g : Nat} {t : TypeId} {cs cs' : Array Value} (h : Blk w g t cs) (e : cs = cs') : Blk w g t cs' := e ▸ h
theorem Rd.keepN {w w' : World} {n : Nat} {A : Option Addr} {xs : List Value} {S : Nat → Prop} (h : Rd w A n xs) (hk : Keep S w w') (hS : 0 < n → ∀ ad, A = some ad → ¬ S ad.block) : Rd w' A n xs :=
  ⟨h.1, fun hn => by
    obtain ⟨ad, e, hc⟩ := h.2 hn
    exact ⟨ad, e, fun j u hu => hk.cell (hc j u hu) (by rw [block_add]; exact hS hn ad e)⟩⟩
/-- The reader at block X: its cells; its bytes l lie at A, elsewhere. -/
structure Xc (w : World) (X : Nat) (A : Option Addr) (n c : Nat) (l : List Int) (p : Nat) (cur r : Int) (cut bad : Bool) : Prop where
  blk : Blk w X 83 #[.slice A n c, .int .i64 p, .int .i64 cur, .int .i64 r, .bool cut, .bool bad]
  rd : Rd w A n (l.map (Value.int .u8))
  far : 0 < n → ∀ ad, A = some ad → ad.block ≠ X
theorem Xc.len {w : World} {X : Nat} {A : Option Addr} {n c : Nat} {l : List Int} {p : Nat} {cur r : Int} {cut bad : Bool} (h : Xc w X A n c l p cur r cut bad) : l.length = n := h.rd.len
theorem Xc.keep {w w' : World} {X : Nat} {A : Option Addr} {n c : Nat} {l : List Int} {p : Nat} {cur r : Int} {cut bad : Bool} (h : Xc w X A n c l p cur r cut bad) {S : Nat → Prop} (hk : Keep S w w') (hW : ¬ S X) (hA : 0 < n → ∀ ad, A = some ad → ¬ S ad.block) : Xc w' X A n c l p cur r cut bad :=
  ⟨h.blk.keep hk hW, h.rd.keepN hk hA, h.far⟩
theorem Xc.set {w w' : World} {X : Nat} {A : Option Addr} {n c : Nat} {l : List Int} {p p' : Nat} {cur cur' r r' : Int} {cut cut' bad bad' : Bool} (h : Xc w X A n c l p cur r cut bad) (hk : Keep (fun k => k = X) w w')
    (hb : Blk w' X 83 #[.slice A n c, .int .i64 p', .int .i64 cur', .int .i64 r', .bool cut', .bool bad']) : Xc w' X A n c l p' cur' r' cut' bad' :=
  ⟨hb, h.rd.keepN hk h.far, h.far⟩
theorem Xc.fin {w w' : World} {X : Nat} {A : Option Addr} {n c : Nat} {l : List Int} {p p' : Nat} {cur cur' r r' : Int} {cut cut' bad bad' : Bool} {cs : Array Value} (h : Xc w X A n c l p cur r cut bad) (hk : Keep (fun k => k = X) w w')
    (hb : Blk w' X 83 cs) (e : cs = #[.slice A n c, .int .i64 p', .int .i64 cur', .int .i64 r', .bool cut', .bool bad']) : Xc w' X A n c l p' cur' r' cut' bad' ∧ Keep (fun k => k = X) w w' :=
  ⟨h.set hk (e ▸ hb), hk⟩
/-- The reader at state s. -/
def Xr (w : World) (X : Nat) (A : Option Addr) (n c : Nat) (l : List Int) (s : RS) : Prop := Xc w X A n c l s.1 (atM l ((s.1 : Int) - 1)) s.2.1 (decide (n < s.1)) s.2.2

set_option maxHeartbeats 1600000 in
theorem next_any (w : World) (X : Nat) (A : Option Addr) (n c : Nat) (l : List Int) (p : Nat) (r : Int) (cut bad : Bool) (h : Xc w X A n c l p (atM l ((p : Int) - 1)) r cut bad) (hb : Bytes l) (hp : p ≤ 1099511627776) :
    Calls Try.prog 35 #[.pointer (some ⟨X, 0, none⟩)] w fun e w' => e = .returned (.tuple #[]) ∧
      Xc w' X A n c l (p + 1) (atM l p) (roomM (atM l ((p : Int) - 1))) (cut || decide (n ≤ p)) (bad || decide (atM l ((p : Int) - 1) = 255 ∧ 128 ≤ atM l p)) ∧ Keep (fun k => k = X) w w' := by
  have h0 : w.cell? ⟨X, 0, none⟩ = some (.slice A n c) := h.blk.cell 0
  have h1 : w.cell? ⟨X, 1, none⟩ = some (.int .i64 p) := h.blk.cell 1
  have h2 : w.cell? ⟨X, 2, none⟩ = some (.int .i64 (atM l ((p : Int) - 1))) := h.blk.cell 2
  have h3 : w.cell? ⟨X, 3, none⟩ = some (.int .i64 r) := h.blk.cell 3
  have h4 : w.cell? ⟨X, 4, none⟩ = some (.bool cut) := h.blk.cell 4
  have h5 : w.cell? ⟨X, 5, none⟩ = some (.bool bad) := h.blk.cell 5
  have f1 := h.blk.frozen 1
  have f2 := h.blk.frozen 2
  have f3 := h.blk.frozen 3
  have f4 := h.blk.frozen 4
  have f5 := h.blk.frozen 5
  have H := hid h
  have HBL := hid h.blk
  by_cases hz : atM l ((p : Int) - 1) = 255
  · have hp1 : 0 < p := by
      rcases Nat.eq_zero_or_pos p with h0 | h0
      · subst h0; exact absurd hz (by show ¬ (0 : Int) = 255; decide)
      · exact h0
    have HR := hid (show roomM (atM l ((p : Int) - 1)) = 7 from if_pos hz)
    have HB := hid (show (bad || decide (atM l ((p : Int) - 1) = 255 ∧ 128 ≤ atM l p)) = (bad || decide (128 ≤ atM l p)) by simp [hz])
    rw [HR.out, HB.out]
    clear HR HB
    rw [hz] at h2 H h HBL
    clear hz
    cases bad with
    | true =>
      by_cases hpn : p < n
      · obtain ⟨b, o, rfl, hcell⟩ := h.rd.int_ix hpn
        have hm : l.getD p 0 = atM l p := by unfold atM; rw [if_neg (by omega)]; rfl
        rw [hm] at hcell
        have HC := hid (show (cut || decide (n ≤ p)) = cut by simp; omega)
        rw [HC.out]
        have hbx : b ≠ X := h.far (by omega) _ rfl
        have hyb := atM_byte hb p
        clear h hm HC
        skip
        generalize atM l p = y at *
        go_enter Try.func35, Try.ntmps35
        go_wp2_with fail
        go_region
        go_wp2_with fail
        go_region
        go_wp2_with fail
        go_end0
        refine ⟨rfl, ?_⟩
        apply Xc.fin H.out
        · with_reducible (repeat (first | refine Keep.drew ?_ | refine Keep.setR ?_ _ _ | exact Keep.refl _ _))
        · with_reducible (repeat (first | apply Blk.drew | apply Blk.set_ | exact HBL.out))
        · first | rfl | simp
      · have hy : atM l p = 0 := by unfold atM; rw [if_neg (by omega), List.getD_eq_getElem?_getD, List.getElem?_eq_none (by rw [h.len]; omega)]; rfl
        have HC := hid (show (cut || decide (n ≤ p)) = true by simp; omega)
        rw [HC.out, hy]
        clear h hy HC
        skip
        go_enter Try.func35, Try.ntmps35
        go_wp2_with fail
        go_region
        go_wp2_with fail
        go_end0
        refine ⟨rfl, ?_⟩
        apply Xc.fin H.out
        · with_reducible (repeat (first | refine Keep.drew ?_ | refine Keep.setR ?_ _ _ | exact Keep.refl _ _))
        · with_reducible (repeat (first | apply Blk.drew | apply Blk.set_ | exact HBL.out))
        · first | rfl | simp
    | false =>
      by_cases hpn : p < n
      · obtain ⟨b, o, rfl, hcell⟩ := h.rd.int_ix hpn
        have hm : l.getD p 0 = atM l p := by unfold atM; rw [if_neg (by omega)]; rfl
        rw [hm] at hcell
        have HC := hid (show (cut || decide (n ≤ p)) = cut by simp; omega)
        rw [HC.out]
        have hbx : b ≠ X := h.far (by omega) _ rfl
        have hyb := atM_byte hb p
        clear h hm HC
        skip
        generalize atM l p = y at *
        go_enter Try.func35, Try.ntmps35
        go_wp2_with fail
        go_region
        go_wp2_with fail
        go_region
        go_wp2_with fail
        go_end0
        refine ⟨rfl, ?_⟩
        apply Xc.fin H.out
        · with_reducible (repeat (first | refine Keep.drew ?_ | refine Keep.setR ?_ _ _ | exact Keep.refl _ _))
        · with_reducible (repeat (first | apply Blk.drew | apply Blk.set_ | exact HBL.out))
        · first | rfl | simp
      · have hy : atM l p = 0 := by unfold atM; rw [if_neg (by omega), List.getD_eq_getElem?_getD, List.getElem?_eq_none (by rw [h.len]; omega)]; rfl
        have HC := hid (show (cut || decide (n ≤ p)) = true by simp; omega)
        rw [HC.out, hy]
        clear h hy HC
        skip
        go_enter Try.func35, Try.ntmps35
        go_wp2_with fail
        go_region
        go_wp2_with fail
        go_end0
        refine ⟨rfl, ?_⟩
        apply Xc.fin H.out
        · with_reducible (repeat (first | refine Keep.drew ?_ | refine Keep.setR ?_ _ _ | exact Keep.refl _ _))
        · with_reducible (repeat (first | apply Blk.drew | apply Blk.set_ | exact HBL.out))
        · first | rfl | simp
  · have HR := hid (show roomM (atM l ((p : Int) - 1)) = 8 from if_neg hz)
    have HB := hid (show (bad || decide (atM l ((p : Int) - 1) = 255 ∧ 128 ≤ atM l p)) = bad by simp [hz])
    have hzf : (atM l ((p : Int) - 1) == 255) = false := by simpa using hz
    rw [HR.out, HB.out]
    clear HR HB hz
    generalize atM l ((p : Int) - 1) = z at *
    by_cases hp1 : p < 1
    ·
      by_cases hpn : p < n
      · obtain ⟨b, o, rfl, hcell⟩ := h.rd.int_ix hpn
        have hm : l.getD p 0 = atM l p := by unfold atM; rw [if_neg (by omega)]; rfl
        rw [hm] at hcell
        have HC := hid (show (cut || decide (n ≤ p)) = cut by simp; omega)
        rw [HC.out]
        have hbx : b ≠ X := h.far (by omega) _ rfl
        have hyb := atM_byte hb p
        clear h hm HC
        skip
        generalize atM l p = y at *
        go_enter Try.func35, Try.ntmps35
        go_wp2_with fail
        go_region
        go_wp2_with fail
        go_region
        go_wp2_with fail
        go_end0
        refine ⟨rfl, ?_⟩
        apply Xc.fin H.out
        · with_reducible (repeat (first | refine Keep.drew ?_ | refine Keep.setR ?_ _ _ | exact Keep.refl _ _))
        · with_reducible (repeat (first | apply Blk.drew | apply Blk.set_ | exact HBL.out))
        · first | rfl | simp
      · have hy : atM l p = 0 := by unfold atM; rw [if_neg (by omega), List.getD_eq_getElem?_getD, List.getElem?_eq_none (by rw [h.len]; omega)]; rfl
        have HC := hid (show (cut || decide (n ≤ p)) = true by simp; omega)
        rw [HC.out, hy]
        clear h hy HC
        skip
        go_enter Try.func35, Try.ntmps35
        go_wp2_with fail
        go_region
        go_wp2_with fail
        go_end0
        refine ⟨rfl, ?_⟩
        apply Xc.fin H.out
        · with_reducible (repeat (first | refine Keep.drew ?_ | refine Keep.setR ?_ _ _ | exact Keep.refl _ _))
        · with_reducible (repeat (first | apply Blk.drew | apply Blk.set_ | exact HBL.out))
        · first | rfl | simp
    ·
      have hp1 : 0 < p := by omega
      by_cases hpn : p < n
      · obtain ⟨b, o, rfl, hcell⟩ := h.rd.int_ix hpn
        have hm : l.getD p 0 = atM l p := by unfold atM; rw [if_neg (by omega)]; rfl
        rw [hm] at hcell
        have HC := hid (show (cut || decide (n ≤ p)) = cut by simp; omega)
        rw [HC.out]
        have hbx : b ≠ X := h.far (by omega) _ rfl
        have hyb := atM_byte hb p
        clear h hm HC
        skip
        generalize atM l p = y at *
        go_enter Try.func35, Try.ntmps35
        go_wp2_with fail
        go_region
        go_wp2_with fail
        go_region
        go_wp2_with fail
        go_end0
        refine ⟨rfl, ?_⟩
        apply Xc.fin H.out
        · with_reducible (repeat (first | refine Keep.drew ?_ | refine Keep.setR ?_ _ _ | exact Keep.refl _ _))
        · with_reducible (repeat (first | apply Blk.drew | apply Blk.set_ | exact HBL.out))
        · first | rfl | simp
      · have hy : atM l p = 0 := by unfold atM; rw [if_neg (by omega), List.getD_eq_getElem?_getD, List.getElem?_eq_none (by rw [h.len]; omega)]; rfl
        have HC := hid (show (cut || decide (n ≤ p)) = true by simp; omega)
        rw [HC.out, hy]
        clear h hy HC
        skip
        go_enter Try.func35, Try.ntmps35
        go_wp2_with fail
        go_region
        go_wp2_with fail
        go_end0
        refine ⟨rfl, ?_⟩
        apply Xc.fin H.out
        · with_reducible (repeat (first | refine Keep.drew ?_ | refine Keep.setR ?_ _ _ | exact Keep.refl _ _))
        · with_reducible (repeat (first | apply Blk.drew | apply Blk.set_ | exact HBL.out))
        · first | rfl | simp
end Go.Proofs.Ytbkffpedigeflaa
