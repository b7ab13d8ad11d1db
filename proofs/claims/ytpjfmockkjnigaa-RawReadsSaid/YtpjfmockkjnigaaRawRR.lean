/-
  The reference's reader of raw bits; RawReads: the walk. Conditions: none.
-/
import Derived.Test.YtpjfmockkjnigaaLawRawBe
namespace Go.Proofs.Ytpjfmockkjnigaa
open Go.RowKit

structure RX (w : World) (base X : Nat) (A : Option Addr) (n c : Nat) (l : List Int) (p : Nat) (cur r : Int) : Prop where
  blk : Blk w X 54 #[.slice A n c, .int .i64 p, .int .i64 cur, .int .i64 r]
  own : w.ownsRow base 5 1 (.slice A n c) n (l.map (Value.int .u8))
section
variable {w w' : World} {base X : Nat} {A : Option Addr} {n c : Nat} {l : List Int} {p p' : Nat} {cur cur' r r' : Int}
theorem RX.len (h : RX w base X A n c l p cur r) : l.length = n := by have := h.own.1; simpa using this
theorem RX.keep (h : RX w base X A n c l p cur r) {S : Nat → Prop} (hk : Keep S w w') (hW : ¬ S X) (hA : ∀ ad, A = some ad → ¬ S ad.block) : RX w' base X A n c l p cur r :=
  ⟨h.blk.keep hk hW, own_keep h.own hk (fun k e hs => by
    obtain ⟨ad, rfl, rfl⟩ := own_foot e
    exact hA ad rfl hs)⟩
theorem RX.fin {cs : Array Value} (h : RX w base X A n c l p cur r) (hk : Keep (fun k => k = X) w w') (hb : Blk w' X 54 cs) (e : cs = #[.slice A n c, .int .i64 p', .int .i64 cur', .int .i64 r']) :
    RX w' base X A n c l p' cur' r' ∧ Keep (fun k => k = X) w w' :=
  ⟨⟨e ▸ hb, own_keep h.own hk (fun k e hs => own_ne h.own h.blk (by decide) (by rw [e, hs]))⟩, hk⟩
end
theorem xbit_ret (z r : Int) (hr : 0 < r) : bits BinOp.and IntKind.i64 (z / 2 ^ (r.toNat - 1)) 1 = z / 2 ^ (r - 1).toNat % 2 := by
  have e : r.toNat - 1 = (r - 1).toNat := by omega
  rw [e, and_one]
set_option maxHeartbeats 800000 in
theorem x_more (w : World) (base X : Nat) (A : Option Addr) (n c : Nat) (l : List Int) (p : Nat) (z r : Int) (h : RX w base X A n c l p z r) (hz : 0 ≤ z ∧ z ≤ 255) (hr : 0 < r) (hr8 : r ≤ 8) :
    Calls Try.prog 22 #[.pointer (some ⟨X, 0, none⟩)] w fun e w' => e = .returned (.int .i64 (z / 2 ^ (r - 1).toNat % 2)) ∧ RX w' base X A n c l p z (r - 1) ∧ Keep (fun k => k = X) w w' := by
  have h0 : w.cell? ⟨X, 0, none⟩ = some (.slice A n c) := h.blk.cell 0
  have h1 : w.cell? ⟨X, 1, none⟩ = some (.int .i64 p) := h.blk.cell 1
  have h2 : w.cell? ⟨X, 2, none⟩ = some (.int .i64 z) := h.blk.cell 2
  have f1 := h.blk.frozen 1
  have f2 := h.blk.frozen 2
  have f3 := h.blk.frozen 3
  have H := hid h
  have HBL := hid h.blk
  have h3 : w.cell? ⟨X, 3, none⟩ = some (.int .i64 r) := h.blk.cell 3
  have hr0 : (r == 0) = false := by simp; omega
  clear h
  go_enter Try.func22, Try.ntmps22
  go_wp2_with fail
  go_region
  go_wp2_with fail
  go_ret
  refine ⟨ret_i64 (xbit_ret z r hr), ?_⟩
  apply RX.fin H.out
  · with_reducible (repeat (first | refine Keep.drew ?_ | refine Keep.setR ?_ _ _ | exact Keep.refl _ _))
  · with_reducible (repeat (first | apply Blk.drew | apply Blk.set_ | exact HBL.out))
  · first | rfl | simp
set_option maxHeartbeats 800000 in
theorem x_end (w : World) (base X : Nat) (A : Option Addr) (n c : Nat) (l : List Int) (p : Nat) (z : Int) (h : RX w base X A n c l p z 0) (hp : n ≤ p) :
    Calls Try.prog 22 #[.pointer (some ⟨X, 0, none⟩)] w fun e w' => e = .returned (.int .i64 1) ∧ RX w' base X A n c l p z 0 ∧ Keep (fun k => k = X) w w' := by
  have h0 : w.cell? ⟨X, 0, none⟩ = some (.slice A n c) := h.blk.cell 0
  have h1 : w.cell? ⟨X, 1, none⟩ = some (.int .i64 p) := h.blk.cell 1
  have h2 : w.cell? ⟨X, 2, none⟩ = some (.int .i64 z) := h.blk.cell 2
  have f1 := h.blk.frozen 1
  have f2 := h.blk.frozen 2
  have f3 := h.blk.frozen 3
  have H := hid h
  have HBL := hid h.blk
  have h3 : w.cell? ⟨X, 3, none⟩ = some (.int .i64 0) := h.blk.cell 3
  clear h
  go_enter Try.func22, Try.ntmps22
  go_wp2_with fail
  go_region
  go_wp2_with fail
  go_ret
  refine ⟨rfl, ?_⟩
  apply RX.fin H.out
  · with_reducible (repeat (first | refine Keep.drew ?_ | refine Keep.setR ?_ _ _ | exact Keep.refl _ _))
  · with_reducible (repeat (first | apply Blk.drew | apply Blk.set_ | exact HBL.out))
  · first | rfl | simp
set_option maxHeartbeats 1600000 in
theorem x_next (w : World) (base X : Nat) (A : Option Addr) (n c : Nat) (l : List Int) (p : Nat) (z : Int) (h : RX w base X A n c l p z 0) (hp : p < n) (hz : z = byteM l ((p : Int) - 1)) (hb : Bytes l) (hn : n ≤ 1099511627776) :
    Calls Try.prog 22 #[.pointer (some ⟨X, 0, none⟩)] w fun e w' => e = .returned (.int .i64 (byteM l p / 2 ^ (roomM z - 1).toNat % 2)) ∧ RX w' base X A n c l (p + 1) (byteM l p) (roomM z - 1) ∧ Keep (fun k => k = X) w w' := by
  have h0 : w.cell? ⟨X, 0, none⟩ = some (.slice A n c) := h.blk.cell 0
  have h1 : w.cell? ⟨X, 1, none⟩ = some (.int .i64 p) := h.blk.cell 1
  have h2 : w.cell? ⟨X, 2, none⟩ = some (.int .i64 z) := h.blk.cell 2
  have f1 := h.blk.frozen 1
  have f2 := h.blk.frozen 2
  have f3 := h.blk.frozen 3
  have H := hid h
  have HBL := hid h.blk
  have h3 : w.cell? ⟨X, 3, none⟩ = some (.int .i64 0) := h.blk.cell 3
  obtain ⟨g, rfl, hgc, hgb, hgl, _⟩ := own_at h.own (by omega)
  have hm : l.getD p 0 = byteM l p := by unfold byteM; rw [if_neg (by omega), if_neg (by rw [h.len]; omega)]; rfl
  have g0 : w.cell? ⟨g, p, none⟩ = some (.int .u8 (byteM l p)) := by
    have := hgl p _ (map_at _ _ p (by rw [h.len]; omega))
    rw [hm] at this
    exact this
  have hgx : g ≠ X := fun e => own_ne h.own h.blk (by decide) (by rw [e]; rfl)
  have hy := byteM_byte hb p
  have hz0 : z = 255 → 0 < p := by
    intro h255
    rcases Nat.eq_zero_or_pos p with h0 | h0
    · subst h0; rw [h255] at hz; exact absurd hz (by show ¬ (255 : Int) = 0; decide)
    · exact h0
  have HZ0 := hid hz0
  clear h hgl hm hz hz0
  generalize byteM l p = y at *
  by_cases hz : z = 255
  · have hp1 := HZ0.out hz
    have HR := hid (show roomM z = 7 from if_pos hz)
    subst hz
    rw [HR.out]
    have hb9 : Blk ((((((w.setCell ⟨X, 3, none⟩ (.int .i64 8)).setCell ⟨X, 3, none⟩ (.int .i64 7)).setCell ⟨X, 2, none⟩ (.int .i64 y)).setCell ⟨X, 1, none⟩ (.int .i64 ((p : Int) + 1))).setCell ⟨X, 3, none⟩ (.int .i64 6)).drew.drew) X 54 #[.slice (some ⟨g, 0, none⟩) n c, .int .i64 ((p + 1 : Nat) : Int), .int .i64 y, .int .i64 6] := by
      have := (((((HBL.out.set_ 3 (.int .i64 8)).set_ 3 (.int .i64 7)).set_ 2 (.int .i64 y)).set_ 1 (.int .i64 ((p : Int) + 1))).set_ 3 (.int .i64 6)).drew.drew
      exact this
    have hk9 : Keep (fun k => k = X) w ((((((w.setCell ⟨X, 3, none⟩ (.int .i64 8)).setCell ⟨X, 3, none⟩ (.int .i64 7)).setCell ⟨X, 2, none⟩ (.int .i64 y)).setCell ⟨X, 1, none⟩ (.int .i64 ((p : Int) + 1))).setCell ⟨X, 3, none⟩ (.int .i64 6)).drew.drew) := ((((((Keep.refl _ w).setR 3 _).setR 3 _).setR 2 _).setR 1 _).setR 3 _).drew.drew
    have HF9 := hid (RX.fin (p' := p + 1) (cur' := y) (r' := 6) H.out hk9 hb9 rfl)
    clear hb9 hk9
    go_enter Try.func22, Try.ntmps22
    go_wp2_with fail
    go_region
    go_wp2_with fail
    go_region
    go_wp2_with fail
    generalize hw9 : (((((w.setCell ⟨X, 3, none⟩ (.int .i64 8)).setCell ⟨X, 3, none⟩ (.int .i64 7)).setCell ⟨X, 2, none⟩ (.int .i64 y)).setCell ⟨X, 1, none⟩ (.int .i64 ((p : Int) + 1))).setCell ⟨X, 3, none⟩ (.int .i64 6)).drew.drew = w9 at *
    clear hw9 h0 h1 h2 h3 g0
    have k2 : w9.cell? ⟨X, 2, none⟩ = some (.int .i64 y) := HF9.out.1.blk.cell 2
    have k3 : w9.cell? ⟨X, 3, none⟩ = some (.int .i64 6) := HF9.out.1.blk.cell 3
    go_region
    go_wp2_with fail
    go_ret
    refine ⟨ret_i64 (xbit_ret y 7 (by omega)), ?_⟩
    exact ⟨HF9.out.1.keep (Keep.refl (fun _ => False) w9).drew (fun h => h) (fun _ _ h => h), HF9.out.2.drew⟩
  · have HR := hid (show roomM z = 8 from if_neg hz)
    have hz' : (z == 255) = false := by simpa using hz
    rw [HR.out]
    clear hz HZ0
    by_cases hp1 : p < 1
    ·
      go_enter Try.func22, Try.ntmps22
      go_wp2_with fail
      go_region
      go_wp2_with fail
      go_region
      go_wp2_with fail
      go_region
      go_wp2_with fail
      go_ret
      refine ⟨ret_i64 (xbit_ret y 8 (by omega)), ?_⟩
      apply RX.fin H.out
      · with_reducible (repeat (first | refine Keep.drew ?_ | refine Keep.setR ?_ _ _ | exact Keep.refl _ _))
      · with_reducible (repeat (first | apply Blk.drew | apply Blk.set_ | exact HBL.out))
      · first | rfl | simp
    · have hp1 : 0 < p := by omega
      go_enter Try.func22, Try.ntmps22
      go_wp2_with fail
      go_region
      go_wp2_with fail
      go_region
      go_wp2_with fail
      go_region
      go_wp2_with fail
      go_ret
      refine ⟨ret_i64 (xbit_ret y 8 (by omega)), ?_⟩
      apply RX.fin H.out
      · with_reducible (repeat (first | refine Keep.drew ?_ | refine Keep.setR ?_ _ _ | exact Keep.refl _ _))
      · with_reducible (repeat (first | apply Blk.drew | apply Blk.set_ | exact HBL.out))
      · first | rfl | simp

/-- The reference's reader where the program's stands at (r, p). -/
def RxS (w : World) (base X : Nat) (A : Option Addr) (n c : Nat) (l : List Int) (r : Int) (p : Nat) : Prop :=
  if p = n + 1 then RX w base X A n c l n (byteM l ((n : Int) - 1)) 0 else RX w base X A n c l p (byteM l ((p : Int) - 1)) r
theorem xrd_any (w : World) (base X : Nat) (A : Option Addr) (n c : Nat) (l : List Int) (r : Int) (p : Nat) (hl : l.length = n) (h : RxS w base X A n c l r p) (hn : n ≤ 1099511627776) (hb : Bytes l) (hr : 0 ≤ r) (hr8 : r ≤ 8) (hp : p ≤ n + 1) :
    Calls Try.prog 22 #[.pointer (some ⟨X, 0, none⟩)] w fun e w' => e = .returned (.int .i64 (rdB l r p)) ∧ RxS w' base X A n c l (rdL l r p) (rdP l r p) ∧ Keep (fun k => k = X) w w' := by
  unfold RxS at h
  by_cases hbe : behind l r p
  · obtain ⟨e1, e2⟩ := behind_read l r p hbe hr hr8
    have e3 : rdP l r p = n + 1 := by
      unfold rdP
      rcases hbe with h0 | ⟨h0, h1⟩
      · split <;> omega
      · rw [if_pos h1]; omega
    rw [e1, e3]
    by_cases hp1 : p = n + 1
    · rw [if_pos hp1] at h
      refine (x_end w base X A n c l n _ h (Nat.le_refl _)).mono ?_
      rintro e w' ⟨rfl, hx, hk⟩
      refine ⟨rfl, ?_, hk⟩
      unfold RxS
      rw [if_pos rfl]
      exact hx
    · rw [if_neg hp1] at h
      rcases hbe with h0 | ⟨h0, h1⟩
      · omega
      · subst h1
        obtain rfl : n = p := by omega
        refine (x_end w base X A n c l n _ h (Nat.le_refl _)).mono ?_
        rintro e w' ⟨rfl, hx, hk⟩
        refine ⟨rfl, ?_, hk⟩
        unfold RxS
        rw [if_pos rfl]
        exact hx
  · have hp1 : ¬ p = n + 1 := fun e => hbe (.inl (by omega))
    rw [if_neg hp1] at h
    by_cases h0 : r = 0
    · subst h0
      have hpn : p < n := by
        have : ¬ p = n := fun e => hbe (.inr ⟨by omega, rfl⟩)
        omega
      have e1 : rdL l 0 p = roomM (byteM l ((p : Int) - 1)) - 1 := by unfold rdL; rw [if_pos rfl]
      have e2 : rdP l 0 p = p + 1 := by unfold rdP; rw [if_pos rfl]; omega
      have e3 : ((p + 1 : Nat) : Int) - 1 = p := by omega
      unfold rdB
      rw [e1, e2, e3]
      refine (x_next w base X A n c l p _ h hpn rfl hb hn).mono ?_
      rintro e w' ⟨rfl, hx, hk⟩
      refine ⟨rfl, ?_, hk⟩
      unfold RxS
      rw [if_neg (by omega), e3]
      exact hx
    · have e1 : rdL l r p = r - 1 := by unfold rdL; rw [if_neg h0]
      have e2 : rdP l r p = p := if_neg h0
      unfold rdB
      rw [e1, e2]
      refine (x_more w base X A n c l p _ r h (byteM_byte hb _) (by omega) hr8).mono ?_
      rintro e w' ⟨rfl, hx, hk⟩
      refine ⟨rfl, ?_, hk⟩
      unfold RxS
      rw [if_neg hp1]
      exact hx
theorem RxS.keep {w w' : World} {base X : Nat} {A : Option Addr} {n c : Nat} {l : List Int} {r : Int} {p : Nat} (h : RxS w base X A n c l r p) {S : Nat → Prop} (hk : Keep S w w') (hW : ¬ S X) (hA : ∀ ad, A = some ad → ¬ S ad.block) : RxS w' base X A n c l r p := by
  unfold RxS at *
  split
  · rename_i h0; rw [if_pos h0] at h; exact RX.keep h hk hW hA
  · rename_i h0; rw [if_neg h0] at h; exact RX.keep h hk hW hA

set_option maxHeartbeats 400000 in
theorem newxr_any (w : World) (A : Option Addr) (n c : Nat) (l : List Int) (h : Rd w A n (l.map (Value.int .u8))) (hn : n ≤ 1099511627776) :
    Calls Try.prog 20 #[.slice A n c] w fun e w' => ∃ X A' c', e = .returned (.pointer (some ⟨X, 0, none⟩)) ∧ w.heap.size ≤ X ∧ RX w' w.heap.size X A' n c' l 0 0 0 ∧ Keep (fun _ => False) w w' := by
  obtain ⟨i0, hi0, hz0, hz1, hz2⟩ := info_parts info_u8
  go_enter Try.func20, Try.ntmps20
  go_wp2_with (
    at_builtin
    refine wpList_append_src _ rfl (.tmp 3) (.tmp 4) _ rfl w.heap.size 5 i0 _ 1 Try.underlying30 hi0 hz0 hz1 hz2 rfl
      (World.ownsRow_made w #[] 0 (Nat.le_refl _) (by simp [maxLen]) rfl) rfl (h.alloc _) rfl (oneCell_ints _ _) (by simp only [maxLen]; omega) (by omega) (by simp) ?_
    intro v1 w1 hown hg hat _hold
    simp only [Nat.zero_add, List.nil_append] at hown
    obtain ⟨A1, c1, rfl⟩ := own_form hown)
  go_ret
  have hk : Keep (fun _ => False) w w1 := ((Keep.refl _ w).alloc _).grown hg (fun k hk => by simp [Value.ownBlock] at hk; omega)
  exact ⟨w1.heap.size, A1, c1, rfl, hk.size, ⟨Blk.new _ _ _, hown.alloc _⟩, hk.alloc _⟩

/-- Both readers at one state; all they hold is new. -/
structure RwTwo (w0 : World) (R X : Nat) (A B : Option Addr) (n c d : Nat) (l : List Int) (r : Int) (p : Nat) (mid : Nat) (w : World) : Prop where
  rr : Rr w w0.heap.size R A n c l r p
  rx : RxS w mid X B n d l r p
  hR : w0.heap.size ≤ R
  low : R < mid
  lowA : ∀ ad, A = some ad → ad.block < mid
  hX : mid ≤ X
  lowB : ∀ ad, B = some ad → mid ≤ ad.block
  keep : Keep (fun _ => False) w0 w
section
variable {w0 w w1 w2 : World} {R X : Nat} {A B : Option Addr} {n c d : Nat} {l : List Int} {r r' : Int} {p p' mid : Nat}
theorem RwTwo.ref1 (h : RwTwo w0 R X A B n c d l r p mid w) (hk : Keep (fun k => k = R) w w1) : RxS w1 mid X B n d l r p :=
  h.rx.keep hk (fun e => by have := h.low; have := h.hX; omega) (fun ad e hx => by have := h.lowB ad e; have := h.low; omega)
theorem RwTwo.next (h : RwTwo w0 R X A B n c d l r p mid w) (h1 : Rr w1 w0.heap.size R A n c l r' p') (k1 : Keep (fun k => k = R) w w1) (h2 : RxS w2 mid X B n d l r' p') (k2 : Keep (fun k => k = X) w1 w2) : RwTwo w0 R X A B n c d l r' p' mid w2 :=
  ⟨h1.keep k2 (fun e => by have := h.low; have := h.hX; omega) (fun ad e hx => by have := h.lowA ad e; have := h.hX; omega), h2, h.hR, h.low, h.lowA, h.hX, h.lowB,
   (h.keep.new k1 (fun i hi => by rw [hi]; exact h.hR)).new k2 (fun i hi => by have := h.hR; have := h.low; have := h.hX; omega)⟩
end
set_option linter.unusedSimpArgs false in
set_option maxHeartbeats 2000000 in
theorem rawReads_short (A : Option Addr) (n c : Nat) (zs : List Int) (w : World) (h : Arg .u8 1 w A n c zs) (hn : n ≤ 100) :
    Calls Try.prog 4 #[.slice A n c] w fun e w' => e = .returned (.bool true) ∧ Below w.heap.size w w' := by
  obtain ⟨i0, hi0, hz0, hz1, hz2⟩ := info_parts info_u8
  have HB := hid h.bytes
  have HL := hid h.len
  go_enter Try.func4, Try.ntmps4
  go_wp2_with fail
  refine (known_any w).mono ?_
  rintro e w1 ⟨rfl, hk1⟩
  have hrd1 := h.rd.keep hk1 (fun _ _ h => h)
  have hs1 := hk1.size
  go_wp2_with (
    at_builtin
    refine wpList_append_src _ rfl (.tmp 11) (.tmp 12) _ rfl w1.heap.size 5 i0 _ 1 Try.underlying30 hi0 hz0 hz1 hz2 rfl
      (World.ownsRow_made w1 #[] 0 (Nat.le_refl _) (by simp [maxLen]) rfl) rfl (hrd1.alloc _) rfl (oneCell_ints _ _) (by simp only [maxLen]; omega) (by omega) (by simp) ?_
    intro v2 w2 hown2 hg2 hat2 _hold
    simp only [Nat.zero_add, List.nil_append] at hown2
    obtain ⟨A2, c2, rfl⟩ := own_form hown2)
  have hk2 : Keep (fun _ => False) w1 w2 := ((Keep.refl _ w1).alloc _).grown hg2 (fun k hk => by simp [Value.ownBlock] at hk; omega)
  refine (newr_any w2 A2 n c2 zs (Rd.of_own hown2) (by omega)).mono ?_
  rintro e w3 ⟨R, A3, c3, rfl, hR, hr3, hk3⟩
  have hk13 := (hk1.trans hk2 (fun _ _ h => h)).trans hk3 (fun _ _ h => h)
  have hlow1 : R < w3.heap.size := hr3.blk.lt
  have hlowA := fun ad (e : A3 = some ad) => (hr3.own.lt ad.block (by rw [e]; rfl)).2
  go_wp2_with fail
  refine (newxr_any w3 A n c zs (h.rd.keep hk13 (fun _ _ h => h)) (by omega)).mono ?_
  rintro e w4 ⟨X, A4, c4, rfl, hX, hx4, hk4⟩
  have hs2 := hk2.size
  have hs3 := hk3.size
  have hT : RwTwo w R X A3 A4 n c3 c4 zs 0 0 w3.heap.size w4 := by
    refine ⟨Rr.keep (show Rr w3 w.heap.size R A3 n c3 zs 0 0 from ⟨hr3.blk, own_mono hr3.own (by omega)⟩) hk4 (fun h => h) (fun _ _ h => h), ?_, by omega, hlow1, hlowA, hX, fun ad e => (hx4.own.lt ad.block (by rw [e]; rfl)).1, hk13.trans hk4 (fun _ _ h => h)⟩
    unfold RxS
    rw [if_neg (by omega)]
    exact hx4
  have HT0 := hid hT
  generalize w3.heap.size = mid at *
  clear hT hx4 hk4 hk13 hk3 hr3 hR hk2 hown2 hg2 hat2 hk1 hrd1 h hs1 hs2 hs3 hlow1 hlowA hX
  go_wp2_with fail
  go_loopw [5] (fun v wr => ∃ (j : Nat) (r : Int) (p : Nat), j ≤ 8 * n + 10 ∧ v = .int .i64 j ∧ Hid (RwTwo w R X A3 A4 n c3 c4 zs r p mid wr) ∧ Hid (0 ≤ r ∧ r ≤ 8 ∧ p ≤ zs.length + 1)) (fun v _ => 8 * n + 10 - (intOf v).toNat)
  case atStart => exact ⟨0, 0, 0, by omega, rfl, HT0, hid ⟨by omega, by omega, by omega⟩⟩
  case round =>
    obtain ⟨j, r, p, hj, rfl, HT, HI⟩ := hrel
    clear HT0
    have hpn : p ≤ n + 1 := by have := HI.out.2.2; rw [HL.out] at this; exact this
    by_cases hlt : j < 8 * n + 10
    · have hlt' : (j : Int) < 8 * (n : Int) + 10 := by omega
      have hI2 := hid (show 0 ≤ rdL zs r p ∧ rdL zs r p ≤ 8 ∧ rdP zs r p ≤ zs.length + 1 from ⟨(rdL_in zs r p HI.out.1 HI.out.2.1).1, by have := (rdL_in zs r p HI.out.1 HI.out.2.1).2; omega, rdP_in zs r p HI.out.2.2⟩)
      go_wp2_with fail
      refine (rd_any wr w.heap.size R A3 n c3 zs r p HT.out.rr (by omega) HB.out HI.out.1 HI.out.2.1 hpn).mono ?_
      rintro e w5 ⟨rfl, h5, hk5⟩
      have HX5 := hid (xrd_any w5 mid X A4 n c4 zs r p HL.out (HT.out.ref1 hk5) (by omega) HB.out HI.out.1 HI.out.2.1 hpn)
      have H1 := hid (And.intro h5 hk5)
      clear h5 hk5
      generalize rdB zs r p = v at *
      generalize rdL zs r p = r2 at *
      generalize rdP zs r p = p2 at *
      go_wp2_with fail
      refine HX5.out.mono ?_
      rintro e w6 ⟨rfl, h6, hk6⟩
      have H6 := hid (HT.out.next H1.out.1 H1.out.2 h6 hk6)
      clear h6 hk6 HX5
      go_wp2_with fail
      go_roundw
      case rel => exact ⟨j + 1, r2, p2, by omega, by go_num, H6, hI2⟩
      case measure => simp [intOf]; omega
    · have hlt' : ¬ (j : Int) < 8 * (n : Int) + 10 := by omega
      have hk := HT.out.keep
      go_wp2_with fail
      go_ret
      exact ⟨rfl, hk.below (Nat.le_refl _) (fun _ h => h.elim)⟩

set_option maxHeartbeats 400000 in
theorem rawReads_walk (A : Option Addr) (n c : Nat) (zs : List Int) (w : World) (h : Arg .u8 1 w A n c zs) :
    Calls Try.prog 4 #[.slice A n c] w fun e w' => e = .returned (.bool true) ∧ Below w.heap.size w w' := by
  by_cases hn : n ≤ 100
  · exact rawReads_short A n c zs w h hn
  · have hn' : ¬ (n : Int) ≤ 100 := by omega
    go_enter Try.func4, Try.ntmps4
    go_wp2_with fail
    refine (known_any w).mono ?_
    rintro e w1 ⟨rfl, hk1⟩
    go_wp2_with fail
    go_ret
    exact ⟨rfl, hk1.below (Nat.le_refl _) (fun _ h => h.elim)⟩
end Go.Proofs.Ytpjfmockkjnigaa
