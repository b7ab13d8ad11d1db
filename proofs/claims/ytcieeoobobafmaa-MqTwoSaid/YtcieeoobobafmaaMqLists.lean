/-
  Bits: raw numbers' contexts and bits. Conditions: none.
-/
import Derived.Test.YtcieeoobobafmaaKnown4
import Derived.Test.YtcieeoobobafmaaRegion
import Derived.Test.YtcieeoobobafmaaArg
namespace Go.Proofs.Ytcieeoobobafmaa
open Go.RowKit

theorem info_int : (Try.prog.info? 3).map (fun i => (i.zero, i.size, i.bytes)) = some (some (.int .i64 0), 1, 8) := by kernel_rfl
def mqK (z : Int) : Int := z % 19
def mqQ (z : Int) : Int := (z.tdiv 19 % 8).tdiv 7
def mqB (z : Int) : Int := if z.tdiv 152 % 3 = 0 then z.tdiv 19 % 2 else mqQ z
theorem tdiv_range (z n : Int) (h0 : -9223372036854775808 ≤ z) (h1 : z ≤ 9223372036854775807) (hn : 2 ≤ n) : -4611686018427387904 ≤ z.tdiv n ∧ z.tdiv n ≤ 4611686018427387904 := by
  have key : ∀ y : Int, 0 ≤ y → y ≤ 9223372036854775808 → 0 ≤ y.tdiv n ∧ y.tdiv n ≤ 4611686018427387904 := fun y hy0 hy1 => by
    rw [Int.tdiv_eq_ediv_of_nonneg hy0]
    refine ⟨Int.ediv_nonneg hy0 (by omega), ?_⟩
    have h := Int.ediv_mul_le y (show n ≠ 0 by omega)
    have h3 : 0 ≤ y / n := Int.ediv_nonneg hy0 (by omega)
    have h4 : (y / n) * 2 ≤ (y / n) * n := Int.mul_le_mul_of_nonneg_left hn h3
    omega
  by_cases h : z < 0
  · have := key (-z) (by omega) (by omega)
    rw [Int.neg_tdiv] at this
    omega
  · have := key z (by omega) (by omega)
    omega
theorem mqQ_range (z : Int) : 0 ≤ mqQ z ∧ mqQ z ≤ 1 := by
  have h0 : 0 ≤ z.tdiv 19 % 8 := Int.emod_nonneg _ (by decide)
  have h1 : z.tdiv 19 % 8 < 8 := Int.emod_lt_of_pos _ (by decide)
  unfold mqQ
  rw [Int.tdiv_eq_ediv_of_nonneg h0]
  omega
theorem mqB_range (z : Int) : 0 ≤ mqB z ∧ mqB z ≤ 1 := by
  unfold mqB
  split
  · omega
  · exact mqQ_range z
def valK (z : Int) : Value := .int .i64 (mqK z)
def valB (z : Int) : Value := .int .i64 (mqB z)
/-- What is made of the first i numbers. -/
def BitsI (w0 : World) (zs : List Int) (i : Nat) (A1 : Option Addr) (c1 : Nat) (A2 : Option Addr) (c2 : Nat) (w : World) : Prop :=
  w.ownsRow w0.heap.size 3 1 (.slice A1 i c1) i ((zs.take i).map valK) ∧ w.ownsRow w0.heap.size 3 1 (.slice A2 i c2) i ((zs.take i).map valB) ∧
    (∀ j, (Value.slice A1 i c1).ownBlock = some j → (Value.slice A2 i c2).ownBlock ≠ some j) ∧ Keep (fun _ => False) w0 w
theorem take_one {zs : List Int} {i : Nat} (h : i < zs.length) (f : Int → Value) : (zs.take i).map f ++ [f (zs.getD i 0)] = (zs.take (i + 1)).map f := by
  rw [List.take_add_one, List.map_append, List.getD_eq_getElem?_getD, List.getElem?_eq_getElem h]
  rfl
set_option maxRecDepth 20000 in
set_option maxHeartbeats 8000000 in
theorem lists_any (w : World) (A : Option Addr) (n c : Nat) (zs : List Int) (h : Rd w A n (zs.map (Value.int .i64))) (hz : ∀ z ∈ zs, -9223372036854775808 ≤ z ∧ z ≤ 9223372036854775807) :
    Calls Try.prog 15 #[.slice A n c] w fun e w' => ∃ A1 c1 A2 c2, e = .returned (.tuple #[.slice A1 (min n 400) c1, .slice A2 (min n 400) c2]) ∧ BitsI w zs (min n 400) A1 c1 A2 c2 w' := by
  obtain ⟨i0, hi0, hj0, hj1, hj2⟩ := info_parts info_int
  have H := hid h
  have HZ := hid hz
  have hlen := h.len
  clear h hz
  go_enter Try.func15, Try.ntmps15
  go_wp2_with fail
  go_loopw [4, 5, 6] (fun u v x wr => ∃ (i : Nat) (A1 : Option Addr) (c1 : Nat) (A2 : Option Addr) (c2 : Nat), i ≤ min n 400 ∧ u = .slice A1 i c1 ∧ v = .slice A2 i c2 ∧ x = .int .i64 i ∧ Hid (BitsI w zs i A1 c1 A2 c2 wr)) (fun _ _ x _ => 400 - (intOf x).toNat)
  case atStart => 
    have h0 : w.ownsRow w.heap.size 3 1 (.slice none 0 0) 0 [] := ⟨rfl, .inl ⟨rfl, rfl⟩⟩
    exact ⟨0, none, 0, none, 0, by omega, rfl, rfl, rfl, hid ⟨h0, h0, (fun j h => by simp [Value.ownBlock] at h), Keep.refl _ w⟩⟩
  case round =>
    obtain ⟨i, A1, c1, A2, c2, hi, rfl, rfl, rfl, HB⟩ := hrel
    by_cases hin : i < n
    · by_cases hi4 : i < 400
      · have hmem : zs.getD i 0 ∈ zs := by
          rw [List.getD_eq_getElem?_getD, List.getElem?_eq_getElem (by omega)]
          exact List.getElem_mem _
        have hzl := (HZ.out _ hmem).1
        have hzh := (HZ.out _ hmem).2
        have ht1 := take_one (f := valK) (show i < zs.length by omega)
        have ht2 := take_one (f := valB) (show i < zs.length by omega)
        obtain ⟨o1, o2, hdj, hk⟩ := HB.out
        obtain ⟨b, o, rfl, hz0⟩ := (H.out.keep hk (fun _ _ h => h)).int_ix hin
        generalize zs.getD i 0 = z at *
        have hq := tdiv_range z 19 hzl hzh (by decide)
        have hq2 := tdiv_range z 152 hzl hzh (by decide)
        have hw19 : IntKind.i64.wrap (z.tdiv 19) = z.tdiv 19 := IntWalk.i64_in _ (by omega)
        have hw152 : IntKind.i64.wrap (z.tdiv 152) = z.tdiv 152 := IntWalk.i64_in _ (by omega)
        have hqr := mqQ_range z
        have hwq : IntKind.i64.wrap ((z.tdiv 19 % 8).tdiv 7) = mqQ z := IntWalk.i64_in _ (show _ ≤ mqQ z ∧ mqQ z ≤ _ by omega)
        have hbl : b < w.heap.size := H.out.lt (by omega) _ rfl
        have hnb : ∀ k, (∃ ad, A1 = some ad ∧ ad.block = k) → k ≠ b := fun k ⟨ad, e1, e2⟩ => by have := own_foot_lt o1 ad e1; omega
        have hnb2 : ∀ k, (∃ ad, A2 = some ad ∧ ad.block = k) → k ≠ b := fun k ⟨ad, e1, e2⟩ => by have := own_foot_lt o2 ad e1; omega
        have HT1 := hid ht1
        have HT2 := hid ht2
        have O2 := hid o2
        have hsz := hk.size
        have hb1 := (own_foot_lt o1)
        have hb2 := (own_foot_lt o2)
        clear ht1 ht2 hmem
        go_wp2_with fail
        -- region 5: 20 operations
        refine At.start (L := #[false, false, false, false, false, false, false, false, false, false, false, false, false, false, false, false, false, false, false, false]) (by kernel_rfl) rfl ?_
        refine At.pure 0 (some 17) (v := ?v0) rfl rfl (by kernel_rfl) (fun _ _ _ h => h) rfl (fun w' => ?y0) ?_   
        case y0 => go_simp; try with_reducible rfl
        try simp only [Act.put, List.setIfInBounds_toArray, List.set_cons_zero, List.set_cons_succ]
        refine At.pure 1 (some 18) (v := ?v1) rfl rfl (by kernel_rfl) (fun _ _ _ h => h) rfl (fun w' => ?y1) ?_   
        case y1 => go_simp; try with_reducible rfl
        try simp only [Act.put, List.setIfInBounds_toArray, List.set_cons_zero, List.set_cons_succ]
        refine At.pure 2 (some 19) (v := ?v2) rfl rfl (by kernel_rfl) (fun _ _ _ h => h) rfl (fun w' => ?y2) ?_   
        case y2 => go_simp; try with_reducible rfl
        try simp only [Act.put, List.setIfInBounds_toArray, List.set_cons_zero, List.set_cons_succ]
        refine At.pure 3 (some 20) (v := ?v3) rfl rfl (by kernel_rfl) (fun _ _ _ h => h) rfl (fun w' => ?y3) ?_   
        case y3 => go_simp; try with_reducible rfl
        try simp only [Act.put, List.setIfInBounds_toArray, List.set_cons_zero, List.set_cons_succ]
        refine At.read 4 (some 21) (fun w' => w'.cell? ⟨b, o + i, none⟩ = some (.int .i64 z)) (v := ?v4) rfl rfl (by kernel_rfl) (fun _ _ _ h => h) rfl hz0 (fun w' hw' => ?y4) ?_   
        case y4 => skip; go_simp; try with_reducible rfl
        try simp only [Act.put, List.setIfInBounds_toArray, List.set_cons_zero, List.set_cons_succ]
        refine At.pure 8 (some 25) (v := ?v8) rfl rfl (by kernel_rfl) (fun _ _ _ h => h) rfl (fun w' => ?y8) ?_   
        case y8 => go_simp; try with_reducible rfl
        try simp only [Act.put, List.setIfInBounds_toArray, List.set_cons_zero, List.set_cons_succ]
        refine At.pure 9 (some 26) (v := ?v9) rfl rfl (by kernel_rfl) (fun _ _ _ h => h) rfl (fun w' => ?y9) ?_   
        case y9 => go_simp; try with_reducible rfl
        try simp only [Act.put, List.setIfInBounds_toArray, List.set_cons_zero, List.set_cons_succ]
        refine At.pure 10 (some 27) (v := ?v10) rfl rfl (by kernel_rfl) (fun _ _ _ h => h) rfl (fun w' => ?y10) ?_   
        case y10 => go_simp; try with_reducible rfl
        try simp only [Act.put, List.setIfInBounds_toArray, List.set_cons_zero, List.set_cons_succ]
        refine At.pure 11 (some 28) (v := ?v11) rfl rfl (by kernel_rfl) (fun _ _ _ h => h) rfl (fun w' => ?y11) ?_   
        case y11 => go_simp; try with_reducible rfl
        try simp only [Act.put, List.setIfInBounds_toArray, List.set_cons_zero, List.set_cons_succ]
        refine At.read 12 (some 29) (fun w' => w'.cell? ⟨b, o + i, none⟩ = some (.int .i64 z)) (v := ?v12) rfl rfl (by kernel_rfl) (fun _ _ _ h => h) rfl hz0 (fun w' hw' => ?y12) ?_   
        case y12 => skip; go_simp; try with_reducible rfl
        try simp only [Act.put, List.setIfInBounds_toArray, List.set_cons_zero, List.set_cons_succ]
        refine At.pure 13 (some 30) (v := ?v13) rfl rfl (by kernel_rfl) (fun _ _ _ h => h) rfl (fun w' => ?y13) ?_   
        case y13 => go_simp; try with_reducible rfl
        try simp only [Act.put, List.setIfInBounds_toArray, List.set_cons_zero, List.set_cons_succ]
        refine At.call 5 (pend' := [(12, (fun w' => w'.cell? ⟨b, o + i, none⟩ = some (.int .i64 z)))]) rfl (by kernel_rfl) rfl (by kernel_rfl) (fun K hK => ?_)   
        go_simp
        refine (within_any _ z 19 hzl hzh (by decide) (by decide)).mono ?_
        rintro e w2 ⟨rfl, rfl⟩
        refine hK _ _ (all_cons hz0 all_nil) ?_
        clear hK K
        try simp only [Act.put, List.setIfInBounds_toArray, List.set_cons_zero, List.set_cons_succ]
        refine At.call 6 (pend' := [(12, (fun w' => w'.cell? ⟨b, o + i, none⟩ = some (.int .i64 z)))]) rfl (by kernel_rfl) rfl (by kernel_rfl) (fun K hK => ?_)   
        go_simp
        skip
        refine hK _ _ (all_cons (((Keep.refl (fun _ => False) _).alloc _).cell hz0 (fun h => h)) all_nil) ?_
        clear hK K
        try simp only [Act.put, List.setIfInBounds_toArray, List.set_cons_zero, List.set_cons_succ]
        refine At.call 7 (pend' := [(12, (fun w' => w'.cell? ⟨b, o + i, none⟩ = some (.int .i64 z)))]) rfl (by kernel_rfl) rfl (by kernel_rfl) (fun K hK => ?_)   
        refine wp_append_one wr.drew (.tmp 17) (.tmp 23) _ rfl w.heap.size 3 i0 _ 8 Try.underlying23 hi0 hj0 hj1 hj2 rfl o1.drew rfl _ rfl rfl (by simp only [maxLen]; omega) (by omega) hsz ?_
        intro v3 w3 hown3 hg3 hat3 _hold3
        have k3 : Keep (fun k => (Value.slice A1 i c1).ownBlock = some k) wr w3 := (((Keep.refl _ wr).drew).alloc _).grown hg3 (fun k hk => .inl hk)
        have z3 : w3.cell? ⟨b, o + i, none⟩ = some (.int .i64 z) := k3.cell hz0 (fun h => hnb b (own_foot h) rfl)
        have o2' : Hid (w3.ownsRow w.heap.size 3 1 (.slice A2 i c2) i ((zs.take i).map valB)) := hid (own_keep o2 k3 (fun k e hk => hdj k hk e))
        have O3 := hid hown3
        have HAT3 := hid hat3
        have K3 := hid k3
        have hs3 := k3.size
        obtain ⟨A3, c3, rfl⟩ := own_form hown3
        clear hown3 hg3 hat3 _hold3 k3
        refine hK _ _ (all_cons z3 all_nil) ?_
        clear hK K
        try simp only [Act.put, List.setIfInBounds_toArray, List.set_cons_zero, List.set_cons_succ]
        refine At.call 14 (pend' := []) rfl (by kernel_rfl) rfl (by kernel_rfl) (fun K hK => ?_)   
        go_simp
        refine (within_any _ (z.tdiv 19) 8 (by omega) (by omega) (by decide) (by decide)).mono ?_
        rintro e w4 ⟨rfl, rfl⟩
        refine hK _ _ all_nil ?_
        clear hK K
        try simp only [Act.put, List.setIfInBounds_toArray, List.set_cons_zero, List.set_cons_succ]
        refine At.pure 15 (some 32) (v := ?v15) rfl rfl (by kernel_rfl) (fun _ _ _ h => h) rfl (fun w' => ?y15) ?_   
        case y15 => go_simp; try with_reducible rfl
        try simp only [Act.put, List.setIfInBounds_toArray, List.set_cons_zero, List.set_cons_succ]
        refine At.call 16 (pend' := []) rfl (by kernel_rfl) rfl (by kernel_rfl) (fun K hK => ?_)   
        go_simp
        skip
        refine hK _ _ all_nil ?_
        clear hK K
        try simp only [Act.put, List.setIfInBounds_toArray, List.set_cons_zero, List.set_cons_succ]
        refine At.call 17 (pend' := []) rfl (by kernel_rfl) rfl (by kernel_rfl) (fun K hK => ?_)   
        refine wp_append_one w3 (.tmp 25) (.tmp 33) _ rfl w.heap.size 3 i0 _ 8 Try.underlying23 hi0 hj0 hj1 hj2 rfl o2'.out rfl _ rfl rfl (by simp only [maxLen]; omega) (by omega) (by omega) ?_
        intro v5 w5 hown5 hg5 hat5 _hold5
        have k5 : Keep (fun k => (Value.slice A2 i c2).ownBlock = some k) w3 w5 := ((Keep.refl _ w3).alloc _).grown hg5 (fun k hk => .inl hk)
        obtain ⟨A5, c5, rfl⟩ := own_form hown5
        obtain ⟨g, rfl, hgc, hgb, hgl, hgf⟩ := own_at hown5 (by omega)
        have z5 : w5.cell? ⟨b, o + i, none⟩ = some (.int .i64 z) := k5.cell z3 (fun h => hnb2 b (own_foot h) rfl)
        have hd35 : ∀ k, (Value.slice A3 (i + 1) c3).ownBlock = some k → (Value.slice A2 i c2).ownBlock ≠ some k := fun k e hk => by
          rcases HAT3.out with h | h
          · rw [h] at e; exact hdj k e hk
          · rw [h] at e
            obtain ⟨ad, e1, e2⟩ := own_foot hk
            have := hb2 ad e1
            injection e with e
            simp at e
            omega
        have HO3 := hid (show w5.ownsRow w.heap.size 3 1 (.slice A3 (i + 1) c3) (i + 1) ((zs.take (i + 1)).map valK) by
          rw [← HT1.out]; exact own_keep O3.out k5 (fun k e hk => hd35 k e hk))
        have HD := hid (show ∀ k, (Value.slice A3 (i + 1) c3).ownBlock = some k → (Value.slice (some ⟨g, 0, none⟩) (i + 1) c5).ownBlock ≠ some k from fun k e hk => by
          rcases hat5 with h | h
          · rw [h] at hk; exact hd35 k e hk
          · rw [h] at hk
            obtain ⟨ad, e1, e2⟩ := own_foot e
            have := own_foot_lt O3.out ad e1
            injection hk with hk
            omega)
        have HK5 := hid (show Keep (fun _ => False) w w5 from (hk.trans K3.out (fun k hk h => by
          obtain ⟨ad, e1, e2⟩ := own_foot h
          have := own_foot_lt o1 ad e1
          omega)).trans k5 (fun k hk h => by
          obtain ⟨ad, e1, e2⟩ := own_foot h
          have := own_foot_lt o2 ad e1
          omega))
        have HO5 := hid hown5
        have g5 : w5.cell? ⟨g, i, none⟩ = some (.int .i64 (mqQ z)) := hgl i _ (by
          have hl : ((zs.take i).map valB).length = i := by rw [List.length_map, List.length_take]; omega
          rw [List.getElem?_append_right (by omega), hl, Nat.sub_self]; rfl)
        clear hown5 hg5 hat5 _hold5 hgl k5 hd35 O3 HAT3 K3 o2' O2 z3 hz0 o1 o2 hb1 hb2
        refine hK _ _ all_nil ?_
        clear hK K
        try simp only [Act.put, List.setIfInBounds_toArray, List.set_cons_zero, List.set_cons_succ]
        refine At.pure 18 (some 4) (v := ?v18) rfl rfl (by kernel_rfl) (fun _ _ _ h => h) rfl (fun w' => ?y18) ?_   
        case y18 => go_simp; try with_reducible rfl
        try simp only [Act.put, List.setIfInBounds_toArray, List.set_cons_zero, List.set_cons_succ]
        refine At.pure 19 (some 5) (v := ?v19) rfl rfl (by kernel_rfl) (fun _ _ _ h => h) rfl (fun w' => ?y19) ?_   
        case y19 => go_simp; try with_reducible rfl
        try simp only [Act.put, List.setIfInBounds_toArray, List.set_cons_zero, List.set_cons_succ]
        refine At.done (by kernel_rfl) ?_
        by_cases hc : z.tdiv 152 % 3 = 0
        · have HV := hid (show valB z = .int .i64 (z.tdiv 19 % 2) by unfold valB mqB; rw [if_pos hc])
          go_wp2_with fail
          refine (within_any _ (z.tdiv 152) 3 (by omega) (by omega) (by decide) (by decide)).mono ?_
          rintro e w6 ⟨rfl, rfl⟩
          go_wp2_with fail
          refine (within_any _ (z.tdiv 19) 2 (by omega) (by omega) (by decide) (by decide)).mono ?_
          rintro e w7 ⟨rfl, rfl⟩
          have fg := hgf i
          have HO7 := hid (World.ownsRow.stored HO5.out i (.int .i64 (z.tdiv 19 % 2))).1
          have HR : Hid (BitsI w zs (i + 1) A3 c3 (some ⟨g, 0, none⟩) c5 (w5.setCell ⟨g, i, none⟩ (.int .i64 (z.tdiv 19 % 2)))) := hid (by
            have ho := HO7.out
            have hl : ((zs.take i).map valB).length = i := by rw [List.length_map, List.length_take]; omega
            have e1 : ((zs.take i).map valB ++ [Value.int .i64 (mqQ z)]).set i (.int .i64 (z.tdiv 19 % 2)) = (zs.take i).map valB ++ [.int .i64 (z.tdiv 19 % 2)] := by
              rw [List.set_append_right _ _ (by omega), hl, Nat.sub_self]; rfl
            rw [e1, show (zs.take i).map valB ++ [Value.int .i64 (z.tdiv 19 % 2)] = (zs.take (i + 1)).map valB by rw [← HT2.out, HV.out]] at ho
            exact ⟨own_keep HO3.out (Keep.set1 w5 g i _) (fun k e hk => HD.out k e (by rw [hk]; rfl)), ho, HD.out, HK5.out.setCell (p := ⟨g, i, none⟩) (.inr hgb) _⟩)
          clear HO7 HO3 HO5 HD HK5
          go_wp2_with fail
          go_roundw
          case rel => exact ⟨i + 1, A3, c3, some ⟨g, 0, none⟩, c5, by omega, rfl, rfl, by go_num, HR⟩
          case measure => simp [intOf]; omega
        · have HV := hid (show valB z = .int .i64 (mqQ z) by unfold valB mqB; rw [if_neg hc])
          go_wp2_with fail
          refine (within_any _ (z.tdiv 152) 3 (by omega) (by omega) (by decide) (by decide)).mono ?_
          rintro e w6 ⟨rfl, rfl⟩
          go_wp2_with fail
          have HR := hid (show BitsI w zs (i + 1) A3 c3 (some ⟨g, 0, none⟩) c5 w5 from ⟨HO3.out, by rw [← HT2.out, HV.out]; exact HO5.out, HD.out, HK5.out⟩)
          go_roundw
          case rel => exact ⟨i + 1, A3, c3, some ⟨g, 0, none⟩, c5, by omega, rfl, rfl, by go_num, HR⟩
          case measure => simp [intOf]; omega
      · obtain rfl : i = 400 := by omega
        have HB' := HB.out
        rw [← show min n 400 = 400 by omega] at HB'
        go_wp2_with fail
        exact bodyPost_ret (v := .tuple #[.slice A1 400 c1, .slice A2 400 c2]) (by simp [results, Try.results15, go_sem]) rfl ⟨A1, c1, A2, c2, by rw [show min n 400 = 400 by omega], HB'⟩
    · obtain rfl : i = n := by omega
      have HB' := HB.out
      rw [← show min i 400 = i by omega] at HB'
      go_wp2_with fail
      exact bodyPost_ret (v := .tuple #[.slice A1 i c1, .slice A2 i c2]) (by simp [results, Try.results15, go_sem]) rfl ⟨A1, c1, A2, c2, by rw [show min i 400 = i by omega], HB'⟩
end Go.Proofs.Ytcieeoobobafmaa
