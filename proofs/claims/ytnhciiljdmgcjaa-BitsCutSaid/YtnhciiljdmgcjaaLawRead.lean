/-
  BitsRead: the walk. Conditions: none.
-/
import Derived.Test.YtnhciiljdmgcjaaBitsRR2
import Derived.Test.YtnhciiljdmgcjaaLawStuffed
namespace Go.Proofs.Ytnhciiljdmgcjaa
open Go.RowKit

/-- Both readers, at one state, over the same bytes; all they hold is new. -/
structure RdTwo (w0 : World) (R X : Nat) (A B : Option Addr) (n c d : Nat) (l : List Int) (s : RS) (w : World) : Prop where
  rr : RrS w w0.heap.size R A n c l s
  xr : Xr w X B n d l s
  hR : w0.heap.size ≤ R
  hX : w0.heap.size ≤ X
  low : 0 < n → ∀ ad, B = some ad → ad.block < w0.heap.size
  keep : Keep (fun _ => False) w0 w
  lo : 0 ≤ s.2.1 ∧ s.2.1 ≤ 8
section
variable {w0 w w1 w2 : World} {R X : Nat} {A B : Option Addr} {n c d : Nat} {l : List Int} {s s' : RS}
theorem RdTwo.apart (h : RdTwo w0 R X A B n c d l s w) : X ≠ R := Blk.ne_ h.xr.blk h.rr.blk (by decide)
theorem RdTwo.ref1 (h : RdTwo w0 R X A B n c d l s w) (hk : Keep (fun k => k = R) w w1) : Xr w1 X B n d l s :=
  Xc.keep h.xr hk h.apart (fun hn ad e => by have := h.low hn ad e; have := h.hR; omega)
theorem RdTwo.next (h : RdTwo w0 R X A B n c d l s w) (h1 : RrS w1 w0.heap.size R A n c l s') (k1 : Keep (fun k => k = R) w w1) (h2 : Xr w2 X B n d l s') (k2 : Keep (fun k => k = X) w1 w2) (hl : 0 ≤ s'.2.1 ∧ s'.2.1 ≤ 8) : RdTwo w0 R X A B n c d l s' w2 := by
  refine ⟨Rr.keep h1 k2 (fun e => h.apart e.symm) (fun ad e hx => ?_), h2, h.hR, h.hX, h.low, (h.keep.new k1 (fun i hi => by rw [hi]; exact h.hR)).new k2 (fun i hi => by rw [hi]; exact h.hX), hl⟩
  have h3 : Blk w1 X _ _ := (h.ref1 k1).blk
  exact own_ne h1.own h3 (by decide) (by rw [e, ← hx]; rfl)
theorem RdTwo.aside (h : RdTwo w0 R X A B n c d l s w) (hk : Keep (fun _ => False) w w1) : RdTwo w0 R X A B n c d l s w1 :=
  ⟨Rr.aside h.rr hk, Xc.keep h.xr hk (fun h => h) (fun _ _ _ h => h), h.hR, h.hX, h.low, h.keep.trans hk (fun _ _ h => h), h.lo⟩
end

set_option linter.unusedSimpArgs false in
set_option maxHeartbeats 4000000 in
theorem bitsRead_short (A : Option Addr) (n c : Nat) (zs : List Int) (A' : Option Addr) (n' c' : Nat) (ss : List Int) (w : World) (h : Arg .u8 1 w A n c zs) (h' : Arg .i64 8 w A' n' c' ss) (hn : n ≤ 200) :
    Calls Try.prog 6 #[.slice A n c, .slice A' n' c'] w fun e w' => e = .returned (.bool true) ∧ Below w.heap.size w w' := by
  obtain ⟨i0, hi0, hz0, hz1, hz2⟩ := info_parts info_u8
  have HB := hid h.bytes
  go_enter Try.func6, Try.ntmps6
  go_wp2_with fail
  refine (known_any w).mono ?_
  rintro e w1 ⟨rfl, hk1⟩
  have hrd1 := h.rd.keep hk1 (fun _ _ h => h)
  have hs1 := hk1.size
  go_wp2_with (
    at_builtin
    refine wpList_append_src _ rfl (.tmp 18) (.tmp 19) _ rfl w1.heap.size 5 i0 _ 1 Try.underlying31 hi0 hz0 hz1 hz2 rfl
      (World.ownsRow_made w1 #[] 0 (Nat.le_refl _) (by simp [maxLen]) rfl) rfl (hrd1.alloc _) rfl (oneCell_ints _ _) (by simp only [maxLen]; omega) (by omega) (by simp) ?_
    intro v2 w2 hown2 hg2 hat2 _hold
    simp only [Nat.zero_add, List.nil_append] at hown2
    obtain ⟨A2, c2, rfl⟩ := own_form hown2)
  have hk2 : Keep (fun _ => False) w1 w2 := ((Keep.refl _ w1).alloc _).grown hg2 (fun k hk => by simp [Value.ownBlock] at hk; omega)
  refine (newr_any w2 A2 n c2 zs (Rd.of_own hown2) (by omega)).mono ?_
  rintro e w3 ⟨R, A1, c1, rfl, hR, hr3, hk3⟩
  have hk13 := (hk1.trans hk2 (fun _ _ h => h)).trans hk3 (fun _ _ h => h)
  go_wp2_with fail
  refine (newxr_any w3 A n c zs (h.rd.keep hk13 (fun _ _ h => h))).mono ?_
  rintro e w4 ⟨rfl, hx4, hk4⟩
  have hs2 := hk2.size
  have hs3 := hk3.size
  have hT : RdTwo w R w3.heap.size A1 A n c1 c zs (0, 0, false) w4 :=
    ⟨Rr.aside (show RrS w3 w.heap.size R A1 n c1 zs (0, 0, false) from ⟨hr3.blk, own_mono hr3.own (by omega)⟩) hk4, hx4, by omega, by omega, fun hn ad e => h.rd.lt hn ad e, hk13.trans hk4 (fun _ _ h => h), by simp⟩
  have HT0 := hid hT
  generalize w3.heap.size = X at *
  have hcn' : n' ≤ 9223372036854775807 := by have := h'.cap; have := h'.reach; omega
  have H' := hid h'
  clear hT hx4 hk4 hk13 hk3 hr3 hR hk2 hown2 hg2 hat2 hk1 hrd1 h h' hs1 hs2 hs3
  go_wp2_with fail
  go_loopw [7] (fun v wr => ∃ i : Nat, i ≤ 40 ∧ v = .int .i64 i ∧ ∃ s : RS, Hid (RdTwo w R X A1 A n c1 c zs s wr) ∧ Hid (s.1 ≤ 32 * i)) (fun v _ => 40 - (intOf v).toNat)
  case atStart => exact ⟨0, by omega, rfl, _, HT0, hid (by simp)⟩
  case round =>
    obtain ⟨i, hi, rfl, s, HT, HL⟩ := hrel
    clear HT0
    have hlr := HL.out
    by_cases hlt : i < n' ∧ i < 40
    · obtain ⟨h2, h3⟩ := hlt
      obtain ⟨b2, o2, rfl, hc2⟩ := (H'.out.rd.keep HT.out.keep (fun _ _ h => h)).int_ix h2
      generalize ss.getD i 0 = x at *
      by_cases hs : 0 < x.tmod 7
      · go_wp2_with fail
        refine (within_any x 12 wr (by omega) (by omega)).mono ?_
        rintro e w9 ⟨rfl, rfl⟩
        have q1 : 0 ≤ x % 12 := by omega
        have q2 : x % 12 < 12 := by omega
        clear hs
        generalize x % 12 = q at *
        by_cases hq : q = 0
        · subst hq
          go_wp2_with fail
          refine (rdS_any wr w.heap.size R A1 n c1 zs s HT.out.rr HB.out HT.out.lo (by omega)).mono ?_
          rintro e w4 ⟨rfl, h4, hk4⟩
          have HX4 := hid (xrd_any w4 X A n c zs s (HT.out.ref1 hk4) HB.out HT.out.lo (by omega))
          have H1 := hid (And.intro h4 hk4)
          have HI := hid (show 0 ≤ (rdS zs s).2.1 ∧ (rdS zs s).2.1 ≤ 8 from rdL_le zs s.1 s.2.1 HT.out.lo.1 HT.out.lo.2)
          have HP5 := hid (show (rdS zs s).1 ≤ 32 * i + 32 by have := rdP_le s.1 s.2.1; show rdP _ _ ≤ _; omega)
          clear h4 hk4
          generalize rdV zs s = v at *
          generalize rdS zs s = s2 at *
          go_wp2_with fail
          refine HX4.out.mono ?_
          rintro e w5 ⟨rfl, h5, hk5⟩
          have H2 := hid (And.intro h5 hk5)
          clear h5 hk5 HX4
          go_wp2_with fail
          have H5 := hid (HT.out.next H1.out.1 H1.out.2 H2.out.1 H2.out.2 HI.out)
          have hp5 := HP5.out
          clear H1 H2 HI HP5
          go_wp2_with fail
          refine (end_any w5 w.heap.size R A1 n c1 zs s2.1 s2.2.1 s2.2.2 H5.out.rr (by omega)).mono ?_
          rintro e w6 ⟨rfl, _, hk6⟩
          have H6 := hid (H5.out.aside hk6)
          have HX := hid (xend_any w6 X A n c zs s2 H6.out.xr HB.out (by omega))
          clear hk6 H5
          generalize (endM zs s2.1 s2.2.2).1 = e1 at *
          generalize (endM zs s2.1 s2.2.2).2 = e2 at *
          go_wp2_with fail
          refine HX.out.mono ?_
          rintro e w7 ⟨rfl, hk7⟩
          have H7 := hid (H6.out.aside hk7)
          clear hk7 H6 HX
          go_wp2_with fail
          go_roundw
          case rel => exact ⟨i + 1, by omega, by go_num, s2, H7, hid (by omega)⟩
          case measure => simp [intOf]; omega
        · have hq' : (1 + q == 1) = false := by simp; omega
          have hq2 : (1 + q != 1) = true := by simp; omega
          clear hq
          go_wp2_with fail
          refine (rdbits_any wr w.heap.size R A1 n c1 zs s (1 + q) HT.out.rr HB.out HT.out.lo (by omega)).mono ?_
          rintro e w4 ⟨rfl, h4, hk4⟩
          have HX4 := hid (xbits_any w4 X A n c zs s (1 + q) (HT.out.ref1 hk4) HB.out HT.out.lo (by omega))
          have H1 := hid (And.intro h4 hk4)
          have HI := hid (rdNum_inv zs (1 + q) s HT.out.lo).1
          have HP5 := hid (show (rdNum zs (1 + q) s).2.1 ≤ 32 * i + 32 by have := (rdNum_inv zs (1 + q) s HT.out.lo).2; omega)
          clear h4 hk4
          generalize (rdNum zs (1 + q) s).1 = v at *
          generalize (rdNum zs (1 + q) s).2 = s2 at *
          go_wp2_with fail
          refine HX4.out.mono ?_
          rintro e w5 ⟨rfl, h5, hk5⟩
          have H2 := hid (And.intro h5 hk5)
          clear h5 hk5 HX4
          go_wp2_with fail
          have H5 := hid (HT.out.next H1.out.1 H1.out.2 H2.out.1 H2.out.2 HI.out)
          have hp5 := HP5.out
          clear H1 H2 HI HP5
          go_wp2_with fail
          refine (end_any w5 w.heap.size R A1 n c1 zs s2.1 s2.2.1 s2.2.2 H5.out.rr (by omega)).mono ?_
          rintro e w6 ⟨rfl, _, hk6⟩
          have H6 := hid (H5.out.aside hk6)
          have HX := hid (xend_any w6 X A n c zs s2 H6.out.xr HB.out (by omega))
          clear hk6 H5
          generalize (endM zs s2.1 s2.2.2).1 = e1 at *
          generalize (endM zs s2.1 s2.2.2).2 = e2 at *
          go_wp2_with fail
          refine HX.out.mono ?_
          rintro e w7 ⟨rfl, hk7⟩
          have H7 := hid (H6.out.aside hk7)
          clear hk7 H6 HX
          go_wp2_with fail
          go_roundw
          case rel => exact ⟨i + 1, by omega, by go_num, s2, H7, hid (by omega)⟩
          case measure => simp [intOf]; omega
      · have hq' : (x == 1) = false := by
          simp
          intro h
          subst h
          exact hs (by decide)
        have hq2 : (x != 1) = true := by
          simp
          intro h
          subst h
          exact hs (by decide)
        go_wp2_with fail
        refine (rdbits_any wr w.heap.size R A1 n c1 zs s x HT.out.rr HB.out HT.out.lo (by omega)).mono ?_
        rintro e w4 ⟨rfl, h4, hk4⟩
        have HX4 := hid (xbits_any w4 X A n c zs s x (HT.out.ref1 hk4) HB.out HT.out.lo (by omega))
        have H1 := hid (And.intro h4 hk4)
        have HI := hid (rdNum_inv zs x s HT.out.lo).1
        have HP5 := hid (show (rdNum zs x s).2.1 ≤ 32 * i + 32 by have := (rdNum_inv zs x s HT.out.lo).2; omega)
        clear h4 hk4
        generalize (rdNum zs x s).1 = v at *
        generalize (rdNum zs x s).2 = s2 at *
        go_wp2_with fail
        refine HX4.out.mono ?_
        rintro e w5 ⟨rfl, h5, hk5⟩
        have H2 := hid (And.intro h5 hk5)
        clear h5 hk5 HX4
        go_wp2_with fail
        have H5 := hid (HT.out.next H1.out.1 H1.out.2 H2.out.1 H2.out.2 HI.out)
        have hp5 := HP5.out
        clear H1 H2 HI HP5
        go_wp2_with fail
        refine (end_any w5 w.heap.size R A1 n c1 zs s2.1 s2.2.1 s2.2.2 H5.out.rr (by omega)).mono ?_
        rintro e w6 ⟨rfl, _, hk6⟩
        have H6 := hid (H5.out.aside hk6)
        have HX := hid (xend_any w6 X A n c zs s2 H6.out.xr HB.out (by omega))
        clear hk6 H5
        generalize (endM zs s2.1 s2.2.2).1 = e1 at *
        generalize (endM zs s2.1 s2.2.2).2 = e2 at *
        go_wp2_with fail
        refine HX.out.mono ?_
        rintro e w7 ⟨rfl, hk7⟩
        have H7 := hid (H6.out.aside hk7)
        clear hk7 H6 HX
        go_wp2_with fail
        go_roundw
        case rel => exact ⟨i + 1, by omega, by go_num, s2, H7, hid (by omega)⟩
        case measure => simp [intOf]; omega
    · have hk := HT.out.keep
      by_cases h2 : i < n'
      · have h3 : ¬ i < 40 := fun h3 => hlt ⟨h2, h3⟩
        go_wp2_with fail
        go_ret
        exact ⟨rfl, hk.below (Nat.le_refl _) (fun _ h => h.elim)⟩
      · go_wp2_with fail
        go_ret
        exact ⟨rfl, hk.below (Nat.le_refl _) (fun _ h => h.elim)⟩

set_option maxHeartbeats 400000 in
theorem bitsRead_walk (A : Option Addr) (n c : Nat) (zs : List Int) (A' : Option Addr) (n' c' : Nat) (ss : List Int) (w : World) (h : Arg .u8 1 w A n c zs) (h' : Arg .i64 8 w A' n' c' ss) :
    Calls Try.prog 6 #[.slice A n c, .slice A' n' c'] w fun e w' => e = .returned (.bool true) ∧ Below w.heap.size w w' := by
  by_cases hn : n ≤ 200
  · exact bitsRead_short A n c zs A' n' c' ss w h h' hn
  · have hn' : ¬ (n : Int) ≤ 200 := by omega
    go_enter Try.func6, Try.ntmps6
    go_wp2_with fail
    refine (known_any w).mono ?_
    rintro e w1 ⟨rfl, hk1⟩
    go_wp2_with fail
    go_ret
    exact ⟨rfl, hk1.below (Nat.le_refl _) (fun _ h => h.elim)⟩
end Go.Proofs.Ytnhciiljdmgcjaa
