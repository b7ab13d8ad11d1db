/-
  TreeHears: the walk. Conditions: none.
-/
import Derived.Test.YtbkffpedigeflaaHear
import Derived.Test.YtbkffpedigeflaaTreeKn
import Derived.Test.YtbkffpedigeflaaArg
namespace Go.Proofs.Ytbkffpedigeflaa
open Go.RowKit

theorem RS0 : RSok ((0, 0, false) : RS) := ⟨Int.le_refl _, by decide⟩
/-- Both trees and both readers, new. -/
theorem new_both (w0 w : World) (A : Option Addr) (n c : Nat) (l : List Int) (W H : Nat) (hW : W < 8) (hH : H < 8) (hk : Keep (fun _ => False) w0 w) : ∃ L : Nat, L ≤ 7 ∧ ∃ Mid : Nat → World → Prop,
    (Calls Try.prog 9 #[.int .i64 W, .int .i64 H] w fun e w' => ∃ p, e = .returned (.pointer (some ⟨p, 0, none⟩)) ∧ Mid p w') ∧
    (∀ p w1, Mid p w1 → Calls Try.prog 18 #[.int .i64 W, .int .i64 H] w1 fun e w' => ∃ T, e = .returned (.pointer (some ⟨T, 0, none⟩)) ∧ Keep (fun _ => False) w0 w' ∧
      ((∃ G c B, TrG w' p G c L W H B (fun _ _ => nd0) ∧ ∀ k, TF p G L B k → w0.heap.size ≤ k) ∨ (TrN w' p ∧ W * H = 0)) ∧
      ((∃ g tot cap, RT w' T g tot cap L W H (fun _ _ => nd0) ∧ w0.heap.size ≤ g) ∨ (Blk w' T 79 #[.slice none 0 0, .int .i64 0, .bool false] ∧ W * H = 0))) := by
  by_cases h0 : W = 0 ∨ H = 0
  · have hz : W * H = 0 := by rcases h0 with h | h <;> subst h <;> simp
    refine ⟨0, by omega, fun p w1 => TrN w1 p ∧ Keep (fun _ => False) w0 w1, ?_, fun p w1 ⟨h1, h2⟩ => ?_⟩
    · refine (new_none w W H (by omega)).mono ?_
      rintro e w' ⟨p, rfl, h1, _, h2⟩
      exact ⟨p, rfl, h1, hk.trans h2 (fun _ _ h => h)⟩
    · refine (rnew_none w1 W H h0).mono ?_
      rintro e w' ⟨T, rfl, h3, _, h4⟩
      exact ⟨T, rfl, h2.trans h4 (fun _ _ h => h), .inr ⟨Blk.keep h1 h4 (fun h => h), hz⟩, .inr ⟨h3, hz⟩⟩
  · have hW0 : 0 < W := by omega
    have hH0 : 0 < H := by omega
    obtain ⟨L, hL⟩ : ∃ L, Lev W H L := by
      have : ∀ W, W < 8 → ∀ H, H < 8 → 0 < W → 0 < H → ∃ L, L ≤ 4 ∧ 0 < L ∧ upN (L - 1) W = 1 ∧ upN (L - 1) H = 1 ∧ ∀ i, i < L → i + 1 < L → ¬ (upN i W = 1 ∧ upN i H = 1) := by
        intro W hW H hH h1 h2
        have : ∀ m : Nat, (∃ L, L ≤ m ∧ 0 < L ∧ upN (L - 1) W = 1 ∧ upN (L - 1) H = 1) → ∃ L, L ≤ m ∧ 0 < L ∧ upN (L - 1) W = 1 ∧ upN (L - 1) H = 1 ∧ ∀ i, i < L → i + 1 < L → ¬ (upN i W = 1 ∧ upN i H = 1) := by
          intro m
          induction m with
          | zero => rintro ⟨L, h, h', _⟩; omega
          | succ m ih =>
            rintro ⟨L, h, h', ha, hb⟩
            by_cases hex : ∃ L, L ≤ m ∧ 0 < L ∧ upN (L - 1) W = 1 ∧ upN (L - 1) H = 1
            · obtain ⟨L', x1, x2⟩ := ih hex
              exact ⟨L', by omega, x2⟩
            · refine ⟨L, h, h', ha, hb, fun i hi hi1 hn => hex ⟨i + 1, by omega, by omega, ?_, ?_⟩⟩
              · rw [Nat.add_sub_cancel]; exact hn.1
              · rw [Nat.add_sub_cancel]; exact hn.2
        refine this 4 ⟨4, by omega, by omega, ?_, ?_⟩
        · show (((W + 1) / 2 + 1) / 2 + 1) / 2 = 1; omega
        · show (((H + 1) / 2 + 1) / 2 + 1) / 2 = 1; omega
      obtain ⟨L, h4, hp, ha, hb, hl⟩ := this W hW H hH hW0 hH0
      exact ⟨L, hW0, hH0, by omega, by omega, hp, by omega, ha, hb, fun i hi => hl i (by omega) hi⟩
    refine ⟨L, hL.le, fun p w1 => (∃ G c B, TrG w1 p G c L W H B (fun _ _ => nd0) ∧ ∀ k, TF p G L B k → w0.heap.size ≤ k) ∧ Keep (fun _ => False) w0 w1, ?_, fun p w1 ⟨⟨G, c1, B, h1, hn⟩, h2⟩ => ?_⟩
    · refine (new_any w W H hW0 hH0 (by omega) (by omega)).mono ?_
      rintro e w' ⟨p, G, c1, L', B, rfl, h1, hn, h2⟩
      obtain rfl : L = L' := hL.same h1.lev
      exact ⟨p, rfl, ⟨G, c1, B, h1, fun k hk' => Nat.le_trans hk.size (hn k hk')⟩, hk.trans h2 (fun _ _ h => h)⟩
    · refine (rnew_any w1 W H hW0 hH0 (by omega) (by omega)).mono ?_
      rintro e w' ⟨T, g, tot, cap, L', rfl, h3, _, hg, h4⟩
      obtain rfl : L = L' := hL.same h3.lev
      exact ⟨T, rfl, h2.trans h4 (fun _ _ h => h), .inl ⟨G, c1, B, h1.aside h4, hn⟩, .inl ⟨g, tot, cap, h3, Nat.le_trans h2.size hg⟩⟩
/-- How many bytes were read, and the error: the same. -/
theorem HearS.ends {w0 w : World} {p T R X n c W H L : Nat} {A : Option Addr} {l : List Int} {N1 N2 : Nat → Nat → Nd} {t1 t2 : RS} (h : HearS w0 p T R X A n c l W H L N1 t1 N2 t2 w) (hp : t1.1 ≤ 1073741824) :
    Calls Try.prog 23 #[.pointer (some ⟨R, 0, none⟩)] w fun e w' => e = .returned (.tuple #[.int .i64 (endM l t1.1 t1.2.2).1, .int .i64 (endM l t1.1 t1.2.2).2]) ∧ HearS w0 p T R X A n c l W H L N1 t1 N2 t2 w' := by
  obtain ⟨A', c', hr⟩ := h.rd
  refine (end_any w w0.heap.size R A' n c' l t1.1 t1.2.1 t1.2.2 hr (by omega)).mono ?_
  rintro e w' ⟨rfl, _, hk⟩
  exact ⟨rfl, h.aside hk⟩
theorem HearS.rends {w0 w : World} {p T R X n c W H L : Nat} {A : Option Addr} {l : List Int} {N1 N2 : Nat → Nat → Nd} {t1 t2 : RS} (h : HearS w0 p T R X A n c l W H L N1 t1 N2 t2 w) (hp : t2.1 ≤ 1073741824) :
    Calls Try.prog 24 #[.pointer (some ⟨X, 0, none⟩)] w fun e w' => e = .returned (.tuple #[.int .i64 (endM l t2.1 t2.2.2).1, .int .i64 (endM l t2.1 t2.2.2).2]) ∧ Keep (fun _ => False) w w' :=
  xend_any w X A n c l t2 h.rx h.by_ hp
set_option maxRecDepth 100000 in
set_option maxHeartbeats 16000000 in
theorem treeHears_walk (x y : Int) (A : Option Addr) (n c : Nat) (l : List Int) (A1 : Option Addr) (n1 c1 : Nat) (ks : List Int) (A2 : Option Addr) (n2 c2 : Nat) (bds : List Int) (w : World)
    (hx : (Lit.int .i64 x).wf = true) (hy : (Lit.int .i64 y).wf = true) (h0 : Arg .u8 1 w A n c l) (h1 : Arg .i64 8 w A1 n1 c1 ks) (h2 : Arg .i64 8 w A2 n2 c2 bds) :
    Calls Try.prog 5 #[.int .i64 x, .int .i64 y, .slice A n c, .slice A1 n1 c1, .slice A2 n2 c2] w fun e w' => e = .returned (.bool true) ∧ Below w.heap.size w w' := by
  have hx := wf_i64 hx
  have hy := wf_i64 hy
  have HR0 := hid h0.rd
  have HBY := hid h0.bytes
  have HR1 := hid h1.rd
  have HI1 := hid h1.ints
  have HR2 := hid h2.rd
  have HI2 := hid h2.ints
  clear h0 h1 h2
  by_cases hn : 100 < n
  · go_enter Try.func5, Try.ntmps5
    go_wp2_with fail
    refine (known_ok w).mono ?_
    rintro e w1 ⟨rfl, hk1⟩
    go_wp2_with fail
    go_ret
    exact ⟨rfl, hk1.below (Nat.le_refl _) (fun _ h => h.elim)⟩
  · go_enter Try.func5, Try.ntmps5
    go_wp2_with fail
    refine (known_ok w).mono ?_
    rintro e w1 ⟨rfl, hk1⟩
    have HK1 := hid hk1
    clear hk1
    go_wp2_with fail
    refine (within_any w1 x 8 hx.1 hx.2 (by omega) (by omega)).mono ?_
    rintro e w1' ⟨rfl, rfl⟩
    have q1 : 0 ≤ x % 8 := by omega
    have q2 : x % 8 < 8 := by omega
    obtain ⟨W, hW0⟩ := Int.eq_ofNat_of_zero_le q1
    rw [hW0] at q2 ⊢
    have hW8 : W < 8 := by omega
    clear q1 q2 hW0 hx
    go_wp2_with fail
    refine (within_any w1 y 8 hy.1 hy.2 (by omega) (by omega)).mono ?_
    rintro e w1' ⟨rfl, rfl⟩
    have q1 : 0 ≤ y % 8 := by omega
    have q2 : y % 8 < 8 := by omega
    obtain ⟨H, hH0⟩ := Int.eq_ofNat_of_zero_le q1
    rw [hH0] at q2 ⊢
    have hH8 : H < 8 := by omega
    clear q1 q2 hH0 hy
    obtain ⟨L, hL7, Mid, hc1, hc2⟩ := new_both w w1 A n c l W H hW8 hH8 HK1.out
    have HC2 := hid hc2
    clear hc2
    go_wp2_with fail
    refine hc1.mono ?_
    rintro e w2 ⟨p, rfl, hmid⟩
    have HC3 := hid (HC2.out p w2 hmid)
    clear hmid HC2 hc1
    go_wp2_with fail
    refine HC3.out.mono ?_
    rintro e w3 ⟨T, rfl, hk3, htr, hrt⟩
    have HK3 := hid hk3
    have HTR := hid htr
    have HRT := hid hrt
    clear hk3 htr hrt HC3 HK1
    go_wp2_with fail
    refine (newr_any w3 A n c l (HR0.out.keep HK3.out (fun _ _ h => h)) (by omega)).mono ?_
    rintro e w4 ⟨R, A', c', rfl, hR4, hr4, hk4⟩
    have HR4 := hid hr4
    have HK4 := hid hk4
    clear hr4 hk4
    go_wp2_with fail
    refine (newxr_any w4 A n c l ((HR0.out.keep HK3.out (fun _ _ h => h)).keep HK4.out (fun _ _ h => h))).mono ?_
    rintro e w5 ⟨rfl, hx5, hk5⟩
    have HT0 : Hid (HearS w p T R w4.heap.size A n c l W H L (fun _ _ => nd0) (0, 0, false) (fun _ _ => nd0) (0, 0, false) w5) := hid (by
      have hk45 := HK4.out.trans hk5 (fun _ _ h => h)
      refine ⟨?_, ?_, ⟨A', c', ?_⟩, hx5, Nat.le_trans HK3.out.size hR4, Nat.le_trans HK3.out.size HK4.out.size, RS0, RS0, HBY.out, fun hn0 ad e => HR0.out.lt hn0 ad e, hL7, HK3.out.trans hk45 (fun _ _ h => h)⟩
      · exact HTR.out.imp (fun ⟨G, c, B, h1, h2⟩ => ⟨G, c, B, h1.aside hk45, h2⟩) (fun ⟨h1, h2⟩ => ⟨Blk.keep h1 hk45 (fun h => h), h2⟩)
      · exact HRT.out.imp (fun ⟨g, tot, cap, h1, h2⟩ => ⟨g, tot, cap, h1.aside hk45, h2⟩) (fun ⟨h1, h2⟩ => ⟨h1.keep hk45 (fun h => h), h2⟩)
      · exact Rr.aside ⟨Rr.blk HR4.out, own_mono (Rr.own HR4.out) HK3.out.size⟩ hk5)
    clear HTR HRT HR4 HK4 hx5 hk5 hR4 HK3
    generalize w4.heap.size = X at *
    obtain ⟨m, hm⟩ : ∃ m, W * H = m := ⟨_, rfl⟩
    have hm49 : m ≤ 49 := by rw [← hm]; exact Nat.mul_le_mul (show W ≤ 7 by omega) (show H ≤ 7 by omega)
    have eM : IntKind.i64.wrap ((W : Int) * (H : Int)) = (m : Int) := by rw [← hm, ← Int.natCast_mul, IntWalk.i64_in _ (by rw [hm]; omega)]
    clear hm
    go_wp2_with fail
    go_loopw [15, 16, 17] (fun v _ _ wr => ∃ (i : Nat) (N : Nat → Nat → Nd) (t : RS), i ≤ 60 ∧ i ≤ n1 ∧ t.1 ≤ 7000 * i ∧ v = .int .i64 i ∧ Hid (HearS w p T R X A n c l W H L N t N t wr)) (fun v _ _ _ => 60 - (intOf v).toNat)
    case atStart => exact ⟨0, _, _, by omega, by omega, Nat.le_refl _, rfl, HT0⟩
    case round =>
      obtain ⟨i, N, t, hi, hi1, ht, rfl, HT⟩ := hrel
      clear HT0
      by_cases hlt : i < n1 ∧ i < n2 ∧ i < 60
      · obtain ⟨hi1, hi2, hi60⟩ := hlt
        have hz1 := (HI1.out (ks.getD i 0)) (by
          have hl : i < ks.length := by rw [HR1.out.len]; omega
          rw [List.getD_eq_getElem?_getD, List.getElem?_eq_getElem hl]
          exact List.getElem_mem hl)
        have hz2 := (HI2.out (bds.getD i 0)) (by
          have hl : i < bds.length := by rw [HR2.out.len]; omega
          rw [List.getD_eq_getElem?_getD, List.getElem?_eq_getElem hl]
          exact List.getElem_mem hl)
        obtain ⟨b1, o1, rfl, hc1⟩ := HR1.out.int_ix hi1
        obtain ⟨b2, o2, rfl, hc2⟩ := HR2.out.int_ix hi2
        have HZ1 := hid hz1
        have HZ2 := hid hz2
        clear hz1 hz2
        generalize ks.getD i 0 = z1 at *
        generalize bds.getD i 0 = z2 at *
        have d1 := HT.out.keep.cell hc1 (fun h => h)
        have d2 := HT.out.keep.cell hc2 (fun h => h)
        clear hc1 hc2
        by_cases hz9 : 0 < z1.tmod 9
        · go_wp2_with fail
          refine (within_any _ z1 _ HZ1.out.1 HZ1.out.2 (by omega) (by omega)).mono ?_
          rintro e w6 ⟨rfl, rfl⟩
          generalize z1 % _ = z3 at *
          clear hz9 d1
          go_wp2_with fail
          refine (within_any _ z2 12 HZ2.out.1 HZ2.out.2 (by decide) (by decide)).mono ?_
          rintro e w6 ⟨rfl, rfl⟩
          have hb0 : 0 ≤ z2 % 12 ∧ z2 % 12 < 12 := by omega
          have HOK := hid HT.out.ok1
          clear d2
          generalize z2 % 12 = bv at *
          go_wp2_with fail
          refine (HT.out.dec (z3) (bv - 1) (by omega) (by omega)).mono ?_
          rintro e w7 ⟨rfl, h7⟩
          have HT7 := hid h7
          clear h7 HT
          go_wp2_with fail
          refine (HT7.out.rdec (z3) (bv - 1) (by omega) (by omega)).mono ?_
          rintro e w8 ⟨rfl, h8⟩
          have HT8 := hid h8
          have HRS := hid (hear_rs l W H L (z3) (bv - 1) N t HOK.out (by omega) hL7)
          clear h8 HT7
          generalize hearD l W H L (z3) (bv - 1) N t = D at *
          obtain ⟨res, N', t'⟩ := D
          dsimp only at *
          go_wp2_with fail
          refine (HT8.out.known (z3)).mono ?_
          rintro e w9 ⟨rfl, hk9⟩
          have HT9 := hid (HT8.out.aside hk9)
          clear hk9 HT8
          go_wp2_with fail
          refine (HT9.out.rknown (z3)).mono ?_
          rintro e w10 ⟨rfl, hk10⟩
          have HT10 := hid (HT9.out.aside hk10)
          clear hk10 HT9
          generalize hearK W H (z3) N' = kn at *
          go_wp2_with fail
          go_roundw
          case rel =>
            first
            | exact ⟨i + 1, N', t', by omega, by omega, by have := HRS.out; omega, by go_num, HT10⟩
            | ((repeat apply Exists.intro); refine ⟨?_, rfl⟩; exact ⟨i + 1, N', t', by omega, by omega, by have := HRS.out; omega, by go_num, HT10⟩)
          case measure => simp [intOf]; omega
        · have hz9' : decide (z1.tmod 9 > 0) = false := by simp; omega
          clear hz9
          go_wp2_with fail
          refine (within_any _ z2 12 HZ2.out.1 HZ2.out.2 (by decide) (by decide)).mono ?_
          rintro e w6 ⟨rfl, rfl⟩
          have hb0 : 0 ≤ z2 % 12 ∧ z2 % 12 < 12 := by omega
          have HOK := hid HT.out.ok1
          clear d2
          generalize z2 % 12 = bv at *
          go_wp2_with fail
          refine (HT.out.dec (z1) (bv - 1) (by omega) (by omega)).mono ?_
          rintro e w7 ⟨rfl, h7⟩
          have HT7 := hid h7
          clear h7 HT
          go_wp2_with fail
          refine (HT7.out.rdec (z1) (bv - 1) (by omega) (by omega)).mono ?_
          rintro e w8 ⟨rfl, h8⟩
          have HT8 := hid h8
          have HRS := hid (hear_rs l W H L (z1) (bv - 1) N t HOK.out (by omega) hL7)
          clear h8 HT7
          generalize hearD l W H L (z1) (bv - 1) N t = D at *
          obtain ⟨res, N', t'⟩ := D
          dsimp only at *
          go_wp2_with fail
          refine (HT8.out.known (z1)).mono ?_
          rintro e w9 ⟨rfl, hk9⟩
          have HT9 := hid (HT8.out.aside hk9)
          clear hk9 HT8
          go_wp2_with fail
          refine (HT9.out.rknown (z1)).mono ?_
          rintro e w10 ⟨rfl, hk10⟩
          have HT10 := hid (HT9.out.aside hk10)
          clear hk10 HT9
          generalize hearK W H (z1) N' = kn at *
          go_wp2_with fail
          go_roundw
          case rel =>
            first
            | exact ⟨i + 1, N', t', by omega, by omega, by have := HRS.out; omega, by go_num, HT10⟩
            | ((repeat apply Exists.intro); refine ⟨?_, rfl⟩; exact ⟨i + 1, N', t', by omega, by omega, by have := HRS.out; omega, by go_num, HT10⟩)
          case measure => simp [intOf]; omega
      · have hp : t.1 ≤ 1073741824 := by omega
        by_cases hi1' : i < n1
        · by_cases hi2' : i < n2
          · have hi60 : ¬ i < 60 := by omega
            clear hlt
            go_wp2_with fail
            refine (HT.out.ends hp).mono ?_
            rintro e w6 ⟨rfl, h6⟩
            have HT6 := hid h6
            clear h6 HT
            go_wp2_with fail
            refine (HT6.out.rends hp).mono ?_
            rintro e w7 ⟨rfl, hk7⟩
            have HK7 := hid (HT6.out.keep.trans hk7 (fun _ _ h => h))
            clear hk7 HT6
            generalize endM l t.1 t.2.2 = E at *
            go_wp2_with fail
            go_ret
            exact ⟨ret_bool (by simp), HK7.out.below (Nat.le_refl _) (fun _ h => h.elim)⟩
          · clear hlt
            go_wp2_with fail
            refine (HT.out.ends hp).mono ?_
            rintro e w6 ⟨rfl, h6⟩
            have HT6 := hid h6
            clear h6 HT
            go_wp2_with fail
            refine (HT6.out.rends hp).mono ?_
            rintro e w7 ⟨rfl, hk7⟩
            have HK7 := hid (HT6.out.keep.trans hk7 (fun _ _ h => h))
            clear hk7 HT6
            generalize endM l t.1 t.2.2 = E at *
            go_wp2_with fail
            go_ret
            exact ⟨ret_bool (by simp), HK7.out.below (Nat.le_refl _) (fun _ h => h.elim)⟩
        · clear hlt
          go_wp2_with fail
          refine (HT.out.ends hp).mono ?_
          rintro e w6 ⟨rfl, h6⟩
          have HT6 := hid h6
          clear h6 HT
          go_wp2_with fail
          refine (HT6.out.rends hp).mono ?_
          rintro e w7 ⟨rfl, hk7⟩
          have HK7 := hid (HT6.out.keep.trans hk7 (fun _ _ h => h))
          clear hk7 HT6
          generalize endM l t.1 t.2.2 = E at *
          go_wp2_with fail
          go_ret
          exact ⟨ret_bool (by simp), HK7.out.below (Nat.le_refl _) (fun _ h => h.elim)⟩
end Go.Proofs.Ytbkffpedigeflaa
