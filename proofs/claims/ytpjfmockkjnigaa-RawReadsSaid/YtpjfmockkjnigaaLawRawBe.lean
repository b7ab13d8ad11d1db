/-
  RawBehind: the walk. Conditions: none.
-/
import Derived.Test.YtpjfmockkjnigaaRawR
import Derived.Test.YtpjfmockkjnigaaArg
namespace Go.Proofs.Ytpjfmockkjnigaa
open Go.RowKit

/-- The reader stands behind the end. -/
def behind (l : List Int) (r : Int) (p : Nat) : Prop := p = l.length + 1 ∨ (p = l.length ∧ r = 0)
theorem rdL_in (l : List Int) (r : Int) (p : Nat) (h0 : 0 ≤ r) (h8 : r ≤ 8) : 0 ≤ rdL l r p ∧ rdL l r p ≤ 7 := by
  have := room_le (byteM l ((p : Int) - 1))
  unfold rdL
  split <;> omega
theorem rdP_in (l : List Int) (r : Int) (p : Nat) (hp : p ≤ l.length + 1) : rdP l r p ≤ l.length + 1 := by unfold rdP; split <;> omega
theorem ones_at (t : Int) (h0 : 0 ≤ t) (h7 : t ≤ 7) : (255 : Int) / 2 ^ t.toNat % 2 = 1 := by
  have : ∀ k : Nat, k < 8 → (255 : Int) / 2 ^ k % 2 = 1 := by decide
  exact this _ (by omega)
theorem behind_read (l : List Int) (r : Int) (p : Nat) (h : behind l r p) (h0 : 0 ≤ r) (h8 : r ≤ 8) : rdB l r p = 1 ∧ behind l (rdL l r p) (rdP l r p) := by
  have hp : rdP l r p = l.length + 1 := by
    unfold rdP
    rcases h with h | ⟨h, hr⟩
    · split <;> omega
    · rw [if_pos hr]; omega
  have hl := rdL_in l r p h0 h8
  refine ⟨?_, .inl hp⟩
  unfold rdB
  rw [hp]
  have e : byteM l (((l.length + 1 : Nat) : Int) - 1) = 255 := by
    unfold byteM
    rw [if_neg (by omega), if_pos (by omega)]
  rw [e]
  exact ones_at _ hl.1 hl.2
/-- How many bits were read at most. -/
def counted (l : List Int) (r : Int) (p j : Nat) : Prop := p = l.length + 1 ∨ (j : Int) ≤ 8 * p - r
theorem counted_next (l : List Int) (r : Int) (p j : Nat) (h : counted l r p j) (hp : p ≤ l.length + 1) (h0 : 0 ≤ r) (h8 : r ≤ 8) : counted l (rdL l r p) (rdP l r p) (j + 1) := by
  have ht := room_le (byteM l ((p : Int) - 1))
  unfold counted at *
  unfold rdL rdP
  by_cases hr : r = 0
  · rw [if_pos hr, if_pos hr]
    rcases h with h | h
    · left; omega
    · by_cases hp2 : p = l.length + 1
      · left; omega
      · right
        have : min (p + 1) (l.length + 1) = p + 1 := by omega
        rw [this]
        omega
  · rw [if_neg hr, if_neg hr]
    rcases h with h | h
    · exact .inl h
    · right; omega
theorem counted_all (l : List Int) (r : Int) (p j : Nat) (h : counted l r p j) (hp : p ≤ l.length + 1) (h0 : 0 ≤ r) (hj : 8 * l.length ≤ j) : behind l r p := by
  unfold counted at h
  unfold behind
  rcases h with h | h
  · exact .inl h
  · by_cases hp2 : p = l.length + 1
    · exact .inl hp2
    · right; omega

set_option linter.unusedSimpArgs false in
set_option maxHeartbeats 4000000 in
theorem rawBehind_short (A : Option Addr) (n c : Nat) (zs : List Int) (x : Int) (w : World) (h : Arg .u8 1 w A n c zs) (_hx : (Lit.int .i64 x).wf = true) (hn : n ≤ 50) :
    Calls Try.prog 9 #[.slice A n c, .int .i64 x] w fun e w' => e = .returned (.bool true) ∧ Below w.heap.size w w' := by
  have HB := hid h.bytes
  have HL := hid h.len
  go_enter Try.func9, Try.ntmps9
  go_wp2_with fail
  refine (known_any w).mono ?_
  rintro e w1 ⟨rfl, hk1⟩
  go_wp2_with fail
  refine (newr_any w1 A n c zs (h.rd.keep hk1 (fun _ _ h => h)) (by omega)).mono ?_
  rintro e w2 ⟨R, A2, c2, rfl, hR, hr2, hk2⟩
  have hs1 := hk1.size
  have hRw : w.heap.size ≤ R := by omega
  have HR0 := hid (show Rr w2 w.heap.size R A2 n c2 zs 0 0 from ⟨hr2.blk, own_mono hr2.own hs1⟩)
  have HK0 := hid (hk1.trans hk2 (fun _ _ h => h))
  clear hr2 hk1 hk2 h hR hs1
  go_wp2_with fail
  go_loopw [6] (fun v wr => ∃ (j : Nat) (r : Int) (p : Nat), j ≤ 8 * n ∧ v = .int .i64 j ∧ Hid (Rr wr w.heap.size R A2 n c2 zs r p) ∧ Hid (0 ≤ r ∧ r ≤ 8 ∧ p ≤ zs.length + 1) ∧ Hid (counted zs r p j) ∧ Hid (Keep (fun _ => False) w wr)) (fun v _ => 8 * n - (intOf v).toNat)
  case atStart => exact ⟨0, 0, 0, by omega, rfl, HR0, hid ⟨by omega, by omega, by omega⟩, hid (.inr (by omega)), HK0⟩
  case round =>
    obtain ⟨j, r, p, hj, rfl, HRR, HI, HC, HK⟩ := hrel
    clear HR0 HK0
    have HCC := hid (fun (w' : World) (h' : Rr w' w.heap.size R A2 n c2 zs r p) => rd_any w' w.heap.size R A2 n c2 zs r p h' (by omega) HB.out HI.out.1 HI.out.2.1 (by have := HI.out.2.2; rw [HL.out] at this; exact this))
    by_cases hlt : j < 8 * n
    · have HN := hid (counted_next zs r p j HC.out HI.out.2.2 HI.out.1 HI.out.2.1)
      have hlt' : (j : Int) < 8 * (n : Int) := by omega
      go_wp2_with fail
      refine (HCC.out _ HRR.out).mono ?_
      rintro e w5 ⟨rfl, h5, hk5⟩
      have H5 := hid h5
      have HK5 := hid (HK.out.new hk5 (fun k e => by omega))
      clear h5 hk5
      go_wp2_with fail
      go_roundw
      case rel => exact ⟨j + 1, _, _, by omega, by go_num, H5, hid ⟨rdL_in zs r p HI.out.1 HI.out.2.1 |>.1, by have := (rdL_in zs r p HI.out.1 HI.out.2.1).2; omega, rdP_in zs r p HI.out.2.2⟩, HN, HK5⟩
      case measure => simp [intOf]; omega
    · have HBE := hid (counted_all zs r p j HC.out HI.out.2.2 HI.out.1 (by rw [HL.out]; omega))
      have hlt' : ¬ (j : Int) < 8 * (n : Int) := by omega
      have HRR0 := HRR
      have HI0 := HI
      have HK0 := HK
      clear HC HCC
      go_wp2_with fail
      go_loopw [7] (fun v wr => ∃ (j : Nat) (r : Int) (p : Nat), j ≤ 100 ∧ v = .int .i64 j ∧ Hid (Rr wr w.heap.size R A2 n c2 zs r p) ∧ Hid (0 ≤ r ∧ r ≤ 8 ∧ p ≤ zs.length + 1) ∧ Hid (behind zs r p) ∧ Hid (Keep (fun _ => False) w wr)) (fun v _ => 100 - (intOf v).toNat)
      case atStart => exact ⟨0, r, p, by omega, rfl, HRR0, HI0, HBE, HK0⟩
      case round =>
        clear HRR0 HI0 HK0 HBE HRR HI HK hlt hlt' hj
        obtain ⟨j, r, p, hj, rfl, HRR, HI, HBE, HK⟩ := hrel
        have hcc := fun (w' : World) (h' : Rr w' w.heap.size R A2 n c2 zs r p) => rd_any w' w.heap.size R A2 n c2 zs r p h' (by omega) HB.out HI.out.1 HI.out.2.1 (by have := HI.out.2.2; rw [HL.out] at this; exact this)
        have hbr := behind_read zs r p HBE.out HI.out.1 HI.out.2.1
        rw [hbr.1] at hcc
        have HCC := hid hcc
        have HBN := hid hbr.2
        clear hcc hbr
        by_cases hx1 : x ≤ 0
        · by_cases hx0 : x < 0
          ·
            go_wp2_with fail
            go_ret
            exact ⟨rfl, HK.out.below (Nat.le_refl _) (fun _ h => h.elim)⟩
          ·
            go_wp2_with fail
            go_ret
            exact ⟨rfl, HK.out.below (Nat.le_refl _) (fun _ h => h.elim)⟩
        · have hx2 : ¬ x < 0 := by omega
          by_cases hx3 : x ≤ 100
          · by_cases hjx : (j : Int) < x
            ·
              go_wp2_with fail
              refine (HCC.out _ HRR.out).mono ?_
              rintro e w5 ⟨rfl, h5, hk5⟩
              have H5 := hid h5
              have HK5 := hid (HK.out.new hk5 (fun k e => by omega))
              clear h5 hk5
              go_wp2_with fail
              go_roundw
              case rel => exact ⟨j + 1, _, _, by omega, by go_num, H5, hid ⟨rdL_in zs r p HI.out.1 HI.out.2.1 |>.1, by have := (rdL_in zs r p HI.out.1 HI.out.2.1).2; omega, rdP_in zs r p HI.out.2.2⟩, HBN, HK5⟩
              case measure => simp [intOf]; omega
            ·
              go_wp2_with fail
              go_ret
              exact ⟨rfl, HK.out.below (Nat.le_refl _) (fun _ h => h.elim)⟩
          · have hx4 : ¬ x < 100 := by omega
            by_cases hjx : j < 100
            ·
              go_wp2_with fail
              refine (HCC.out _ HRR.out).mono ?_
              rintro e w5 ⟨rfl, h5, hk5⟩
              have H5 := hid h5
              have HK5 := hid (HK.out.new hk5 (fun k e => by omega))
              clear h5 hk5
              go_wp2_with fail
              go_roundw
              case rel => exact ⟨j + 1, _, _, by omega, by go_num, H5, hid ⟨rdL_in zs r p HI.out.1 HI.out.2.1 |>.1, by have := (rdL_in zs r p HI.out.1 HI.out.2.1).2; omega, rdP_in zs r p HI.out.2.2⟩, HBN, HK5⟩
              case measure => simp [intOf]; omega
            ·
              go_wp2_with fail
              go_ret
              exact ⟨rfl, HK.out.below (Nat.le_refl _) (fun _ h => h.elim)⟩

set_option maxHeartbeats 400000 in
theorem rawBehind_walk (A : Option Addr) (n c : Nat) (zs : List Int) (x : Int) (w : World) (h : Arg .u8 1 w A n c zs) (hx : (Lit.int .i64 x).wf = true) :
    Calls Try.prog 9 #[.slice A n c, .int .i64 x] w fun e w' => e = .returned (.bool true) ∧ Below w.heap.size w w' := by
  by_cases hn : n ≤ 50
  · exact rawBehind_short A n c zs x w h hx hn
  · have hn' : ¬ (n : Int) ≤ 50 := by omega
    go_enter Try.func9, Try.ntmps9
    go_wp2_with fail
    refine (known_any w).mono ?_
    rintro e w1 ⟨rfl, hk1⟩
    go_wp2_with fail
    go_ret
    exact ⟨rfl, hk1.below (Nat.le_refl _) (fun _ h => h.elim)⟩
end Go.Proofs.Ytpjfmockkjnigaa
