/-
  BytesTakes: the walk. Conditions: none.
-/
import Derived.Test.YtaoikgopadladaaReader
namespace Go.Proofs.Ytaoikgopadladaa
open Go.RowKit

/-- What stands at the head of each round: at bytes are taken, nothing that was there has turned. -/
def TakesR (w : World) (R : Nat) (n : Nat) (zs : List Int) (at_ : Nat) (wr : World) : Prop :=
  ∃ A c, at_ ≤ n ∧ Rdr wr R A (n - at_) c (zs.drop at_) 0 ∧ Keep (fun _ => False) w wr ∧ w.heap.size ≤ R ∧ ∀ ad, A = some ad → w.heap.size ≤ ad.block

theorem takes_next {w wr w5 : World} {R n at_ m c3 : Nat} {A3 A5 : Option Addr} {zs : List Int} (_hr : Rdr wr R A3 (n - at_) c3 (zs.drop at_) 0) (hat : at_ ≤ n) (hm : m ≤ n - at_) (hA3 : ∀ ad, A3 = some ad → w.heap.size ≤ ad.block)
    (hA5 : ∀ ad, A5 = some ad → ∃ ad', A3 = some ad' ∧ ad.block = ad'.block) (hR : w.heap.size ≤ R) (hk : Keep (fun _ => False) w w5) (hr5 : Rdr w5 R A5 (n - at_ - m) (c3 - m) ((zs.drop at_).drop m) 0) : TakesR w R n zs (at_ + m) w5 := by
  refine ⟨A5, c3 - m, by omega, ?_, hk, hR, fun ad e => ?_⟩
  · rw [show n - (at_ + m) = n - at_ - m from by omega, ← List.drop_drop]
    exact hr5
  · obtain ⟨a, ha, hb⟩ := hA5 ad e
    rw [hb]
    exact hA3 a ha

set_option linter.unusedSimpArgs false in
set_option maxHeartbeats 2000000 in
theorem bytesTakes_short (A : Option Addr) (n c : Nat) (zs : List Int) (A2 : Option Addr) (n2 c2 : Nat) (cs : List Int) (w : World) (h : Arg .u8 1 w A n c zs) (h2 : Arg .i64 8 w A2 n2 c2 cs) (hn : n ≤ 200) :
    Calls Try.prog 5 #[.slice A n c, .slice A2 n2 c2] w fun e w' => e = .returned (.bool true) ∧ Below w.heap.size w w' := by
  go_enter Try.func5, Try.ntmps5
  go_wp2_with fail
  refine (known_any w).mono ?_
  rintro e w1 ⟨rfl, hk1⟩
  go_wp2_with fail
  refine (new_any A n c zs w1 (h.rd.keep hk1 (fun _ _ h => h)) (by omega)).mono ?_
  rintro e w2 ⟨R, A', c', rfl, hR, hA', hr, hk2⟩
  have hs1 := hk1.size
  have h0 : TakesR w R n zs 0 w2 := ⟨A', c', Nat.zero_le _, by simpa using hr, hk1.trans hk2 (fun _ _ h => h), by omega, fun ad e => by have := hA' ad e; omega⟩
  have H0 := hid h0
  clear h0 hr hk2 hA' hR
  have hc2 : n2 ≤ 9223372036854775807 := by have := h2.cap; have := h2.reach; omega
  go_wp2_with fail
  go_loopw [6, 7] (fun a i wr => ∃ at_ j : Nat, j ≤ n2 ∧ TakesR w R n zs at_ wr ∧ a = .int .i64 at_ ∧ i = .int .i64 j) (fun _ i _ => n2 - (intOf i).toNat)
  case atStart => exact ⟨0, 0, Nat.zero_le _, H0.out, rfl, rfl⟩
  case round =>
    obtain ⟨at_, j, hj, ht, rfl, rfl⟩ := hrel
    have HT := hid ht
    obtain ⟨A3, c3, hat, hr3, hk3, hR3, hA3⟩ := ht
    have HR := hid hr3
    have HA3 := hid hA3
    clear hr3 hA3
    by_cases hlt : j < n2 ∧ j < 20
    · obtain ⟨hl1, hl2⟩ := hlt
      obtain ⟨b2, o2, rfl, hcj⟩ := (h2.rd.keep hk3 (fun _ _ h => h)).int_ix hl1
      have hwf := wf_i64 (h2.elem hl1)
      generalize cs.getD j 0 = q at *
      go_wp2_with fail
      refine (within_any q _ wr (by omega) (by omega)).mono ?_
      rintro e w3 ⟨rfl, rfl⟩
      have b1 : 0 ≤ q % ((n : Int) - at_ + 1) := Int.emod_nonneg _ (by omega)
      have b2' : q % ((n : Int) - at_ + 1) < (n : Int) - at_ + 1 := Int.emod_lt_of_pos _ (by omega)
      generalize q % ((n : Int) - at_ + 1) = m' at *
      obtain ⟨m, rfl⟩ := Int.eq_ofNat_of_zero_le b1
      clear b1
      go_wp2_with fail
      have hm : m ≤ n - at_ := by omega
      refine (take_yes wr R A3 (n - at_) c3 (zs.drop at_) m HR.out hm (by omega)).mono ?_
      rintro e w4 ⟨A4, c4, A5, rfl, hown4, hr4, hA5, hk4⟩
      have HO := hid hown4
      have HQ := hid hr4
      have HA := hid hA5
      clear hown4 hr4 hA5
      go_wp2_with fail
      have cv : ∀ (w : World) (A : Option Addr) (n c : Nat) (zs : List Int), Rd w A n (zs.map (Value.int .u8)) → (convert 22 9 (.slice A n c)).run Try.prog w = .ok (.string (strOfNums zs)) w := fun w A n c zs h => run_string_rd _ _ _ Try.underlying22 Try.underlying5 Try.underlying9 h c
      have CV := hid cv
      clear cv
      have w1' : IntKind.i64.wrap ((at_ : Int) + (m : Int)) = (at_ : Int) + (m : Int) := IntWalk.i64_in _ (by omega)
      have w2' : ((at_ : Int) + (m : Int)).toNat = at_ + m := by omega
      have w3' : (0 : Int) ≤ (at_ : Int) + (m : Int) := by omega
      have w4' : (at_ : Int) + (m : Int) ≤ (c : Int) := by have := h.cap; omega
      have hks : Keep (fun _ => False) w w4 := hk3.trans hk4 (fun i hi hR => by omega)
      have hb4 : Rd w4 (if c = at_ then A else A.map (fun y => Addr.add y at_)) m (((zs.drop at_).take m).map (Value.int .u8)) := by
        have := ((h.rd.drop hat h.cap).take hm).keep hks (fun _ _ h => h)
        rw [← List.map_drop, ← List.map_take] at this
        exact this
      have hlf : leftM ((zs.drop at_).drop m) 0 = (n : Int) - (at_ : Int) - (m : Int) := by
        unfold leftM
        rw [if_pos rfl, List.length_drop, List.length_drop, h.len]
        omega
      have HLF := hid hlf
      clear hlf
      have w5' : (0 : Int) ≤ (n : Int) - (at_ : Int) - (m : Int) := by omega
      have w6' : IntKind.i64.wrap ((n : Int) - (at_ : Int)) = (n : Int) - (at_ : Int) := IntWalk.i64_in _ (by omega)
      have w7' : IntKind.i64.wrap ((n : Int) - (at_ : Int) - (m : Int)) = (n : Int) - (at_ : Int) - (m : Int) := IntWalk.i64_in _ (by omega)
      -- region 12: 21 operations
      refine At.start (L := #[false, false, false, false, false, false, false, false, false, false, false, false, false, false, false, false, false, false, false, false, false]) (by kernel_rfl) rfl ?_
      refine At.pure 0 (some 41) (v := ?v0) rfl rfl (by kernel_rfl) (fun _ _ _ h => h) rfl (fun w' => ?y0) ?_   
      case y0 => go_simp; try with_reducible rfl
      try simp only [Act.put, List.setIfInBounds_toArray, List.set_cons_zero, List.set_cons_succ]
      refine At.read 1 (some 42) (fun w' => Rd w' A4 m (((zs.drop at_).take m).map (Value.int .u8))) (v := ?v1) rfl rfl (by kernel_rfl) (fun _ _ _ h => h) rfl (Rd.of_own HO.out) (fun w' hw' => ?y1) ?_   
      case y1 => have cv := CV.out w' A4 m c4 _ hw'; go_simp; try with_reducible rfl
      try simp only [Act.put, List.setIfInBounds_toArray, List.set_cons_zero, List.set_cons_succ]
      refine At.pure 2 (some 43) (v := ?v2) rfl rfl (by kernel_rfl) (fun _ _ _ h => h) rfl (fun w' => ?y2) ?_   
      case y2 => go_simp; try with_reducible rfl
      try simp only [Act.put, List.setIfInBounds_toArray, List.set_cons_zero, List.set_cons_succ]
      refine At.pure 3 (some 44) (v := ?v3) rfl rfl (by kernel_rfl) (fun _ _ _ h => h) rfl (fun w' => ?y3) ?_   
      case y3 => go_simp; try with_reducible rfl
      try simp only [Act.put, List.setIfInBounds_toArray, List.set_cons_zero, List.set_cons_succ]
      refine At.pure 4 (some 45) (v := ?v4) rfl rfl (by kernel_rfl) (fun _ _ _ h => h) rfl (fun w' => ?y4) ?_   
      case y4 => go_simp; try with_reducible rfl
      try simp only [Act.put, List.setIfInBounds_toArray, List.set_cons_zero, List.set_cons_succ]
      refine At.pure 5 (some 46) (v := ?v5) rfl rfl (by kernel_rfl) (fun _ _ _ h => h) rfl (fun w' => ?y5) ?_   
      case y5 => go_simp; try with_reducible rfl
      try simp only [Act.put, List.setIfInBounds_toArray, List.set_cons_zero, List.set_cons_succ]
      refine At.pure 6 (some 47) (v := ?v6) rfl rfl (by kernel_rfl) (fun _ _ _ h => h) rfl (fun w' => ?y6) ?_   
      case y6 => go_simp; try with_reducible rfl
      try simp only [Act.put, List.setIfInBounds_toArray, List.set_cons_zero, List.set_cons_succ]
      refine At.pure 7 (some 48) (v := ?v7) rfl rfl (by kernel_rfl) (fun _ _ _ h => h) rfl (fun w' => ?y7) ?_   
      case y7 => go_simp; try with_reducible rfl
      try simp only [Act.put, List.setIfInBounds_toArray, List.set_cons_zero, List.set_cons_succ]
      refine At.read 8 (some 49) (fun w' => Rd w' (if c = at_ then A else A.map (fun y => Addr.add y at_)) m (((zs.drop at_).take m).map (Value.int .u8))) (v := ?v8) rfl rfl (by kernel_rfl) (fun _ _ _ h => h) rfl hb4 (fun w' hw' => ?y8) ?_   
      case y8 => have cv := CV.out w' (if c = at_ then A else A.map (fun y => Addr.add y at_)) m (c - at_) _ hw'; go_simp; try with_reducible rfl
      try simp only [Act.put, List.setIfInBounds_toArray, List.set_cons_zero, List.set_cons_succ]
      refine At.pure 9 (some 50) (v := ?v9) rfl rfl (by kernel_rfl) (fun _ _ _ h => h) rfl (fun w' => ?y9) ?_   
      case y9 => go_simp; try with_reducible rfl
      try simp only [Act.put, List.setIfInBounds_toArray, List.set_cons_zero, List.set_cons_succ]
      refine At.pure 10 (some 51) (v := ?v10) rfl rfl (by kernel_rfl) (fun _ _ _ h => h) rfl (fun w' => ?y10) ?_   
      case y10 => go_simp; try with_reducible rfl
      try simp only [Act.put, List.setIfInBounds_toArray, List.set_cons_zero, List.set_cons_succ]
      refine At.pure 11 (some 52) (v := ?v11) rfl rfl (by kernel_rfl) (fun _ _ _ h => h) rfl (fun w' => ?y11) ?_   
      case y11 => go_simp; try with_reducible rfl
      try simp only [Act.put, List.setIfInBounds_toArray, List.set_cons_zero, List.set_cons_succ]
      refine At.pure 13 (some 54) (v := ?v13) rfl rfl (by kernel_rfl) (fun _ _ _ h => h) rfl (fun w' => ?y13) ?_   
      case y13 => go_simp; try with_reducible rfl
      try simp only [Act.put, List.setIfInBounds_toArray, List.set_cons_zero, List.set_cons_succ]
      refine At.pure 14 (some 55) (v := ?v14) rfl rfl (by kernel_rfl) (fun _ _ _ h => h) rfl (fun w' => ?y14) ?_   
      case y14 => go_simp; try with_reducible rfl
      try simp only [Act.put, List.setIfInBounds_toArray, List.set_cons_zero, List.set_cons_succ]
      refine At.pure 15 (some 56) (v := ?v15) rfl rfl (by kernel_rfl) (fun _ _ _ h => h) rfl (fun w' => ?y15) ?_   
      case y15 => go_simp; try with_reducible rfl
      try simp only [Act.put, List.setIfInBounds_toArray, List.set_cons_zero, List.set_cons_succ]
      refine At.pure 16 (some 57) (v := ?v16) rfl rfl (by kernel_rfl) (fun _ _ _ h => h) rfl (fun w' => ?y16) ?_   
      case y16 => go_simp; try with_reducible rfl
      try simp only [Act.put, List.setIfInBounds_toArray, List.set_cons_zero, List.set_cons_succ]
      refine At.pure 17 (some 58) (v := ?v17) rfl rfl (by kernel_rfl) (fun _ _ _ h => h) rfl (fun w' => ?y17) ?_   
      case y17 => go_simp; try with_reducible rfl
      try simp only [Act.put, List.setIfInBounds_toArray, List.set_cons_zero, List.set_cons_succ]
      refine At.pure 18 (some 59) (v := ?v18) rfl rfl (by kernel_rfl) (fun _ _ _ h => h) rfl (fun w' => ?y18) ?_   
      case y18 => go_simp; try with_reducible rfl
      try simp only [Act.put, List.setIfInBounds_toArray, List.set_cons_zero, List.set_cons_succ]
      refine At.call 12 (pend' := []) rfl (by kernel_rfl) rfl (by kernel_rfl) (fun K hK => ?_)   
      go_simp
      refine (left_any _ R A5 (n - at_ - m) (c3 - m) ((zs.drop at_).drop m) 0 HQ.out.drew).mono ?_
      rintro e w5 ⟨rfl, rfl⟩
      rw [HLF.out]
      refine hK _ _ all_nil ?_
      clear hK K
      try simp only [Act.put, List.setIfInBounds_toArray, List.set_cons_zero, List.set_cons_succ]
      refine At.pure 19 (some 60) (v := ?v19) rfl rfl (by kernel_rfl) (fun _ _ _ h => h) rfl (fun w' => ?y19) ?_   
      case y19 => go_simp; try with_reducible rfl
      try simp only [Act.put, List.setIfInBounds_toArray, List.set_cons_zero, List.set_cons_succ]
      refine At.pure 20 (some 61) (v := ?v20) rfl rfl (by kernel_rfl) (fun _ _ _ h => h) rfl (fun w' => ?y20) ?_   
      case y20 => go_simp; try with_reducible rfl
      try simp only [Act.put, List.setIfInBounds_toArray, List.set_cons_zero, List.set_cons_succ]
      refine At.done (by kernel_rfl) ?_
      clear hb4 w1' w2' w3' w4' w5' w6' w7'
      have hRlt : R < wr.heap.size := HR.out.blk.lt
      by_cases hm0 : 0 < m
      · obtain ⟨g, rfl, hgc, hgb, hgl, hgf⟩ := own_at HO.out hm0
        have g0 : w4.cell? ⟨g, 0, none⟩ = some (.int .u8 (((zs.drop at_).take m).getD 0 0)) := hgl 0 _ (map_at _ _ 0 (by simp [h.len]; omega))
        have f0 := hgf 0
        clear hgl hgf
        generalize ((zs.drop at_).take m).getD 0 0 = z0 at *
        have hnot : ¬ (m = 0) := by omega
        go_wp2_with fail
        go_roundw
        case rel =>
          refine ⟨at_ + m, j + 1, by omega, ?_, by go_num, by go_num⟩
          refine takes_next HR.out hat hm HA3.out HA.out hR3 ?_ ?_
          · exact (Keep.setCell (S := fun _ => False) hks (p := ⟨g, 0, none⟩) (.inr (by show w.heap.size ≤ g; have := hk3.size; omega)) _).drew
          · refine (HQ.out.keep (Keep.set1 w4 g 0 _) (fun e => by omega) (fun ad e hb => ?_)).drew
            obtain ⟨a, ha, hb'⟩ := HA.out ad e
            have := HR.out.low a ha
            omega
        case measure => simp [intOf]; omega
      · have hm1 : m = 0 := by omega
        subst hm1
        go_wp2_with fail
        go_roundw
        case rel =>
          refine ⟨at_ + 0, j + 1, by omega, ?_, by go_num, by go_num⟩
          exact takes_next HR.out hat hm HA3.out HA.out hR3 hks.drew HQ.out.drew
        case measure => simp [intOf]; omega
    · have hge : n2 ≤ j ∨ 20 ≤ j := by omega
      have hzl := h.len
      by_cases hx : at_ = n
      · have he : endM (zs.drop at_) 0 = 0 := by
          unfold endM
          rw [if_neg]
          intro hh
          exact hh.2 (List.eq_nil_of_length_eq_zero (by rw [List.length_drop]; omega))
        have HE := hid he
        clear he hlt
        have hxx : ((at_ : Int) == (n : Int)) = true := by simp [hx]
        have HX := hid hx
        clear hx
        go_wp2_with fail
        all_goals refine (end_any _ R A3 _ c3 _ 0 HR.out).mono ?_
        all_goals rintro e w5 ⟨rfl, rfl⟩
        all_goals rw [HE.out]
        all_goals go_wp2_with fail
        all_goals go_ret
        all_goals exact ⟨rfl, hk3.below (Nat.le_refl _) (fun _ h => h.elim)⟩
      · have he : endM (zs.drop at_) 0 = 9 := by
          unfold endM
          rw [if_pos]
          refine ⟨rfl, fun hh => ?_⟩
          have := congrArg List.length hh
          rw [List.length_drop] at this
          simp at this
          omega
        have HE := hid he
        clear he hlt
        have hxx : ((at_ : Int) == (n : Int)) = false := by rw [beq_eq_false_iff_ne]; omega
        have HX := hid hx
        clear hx
        go_wp2_with fail
        all_goals refine (end_any _ R A3 _ c3 _ 0 HR.out).mono ?_
        all_goals rintro e w5 ⟨rfl, rfl⟩
        all_goals rw [HE.out]
        all_goals go_wp2_with fail
        all_goals go_ret
        all_goals exact ⟨rfl, hk3.below (Nat.le_refl _) (fun _ h => h.elim)⟩

set_option maxHeartbeats 400000 in
theorem bytesTakes_walk (A : Option Addr) (n c : Nat) (zs : List Int) (A2 : Option Addr) (n2 c2 : Nat) (cs : List Int) (w : World) (h : Arg .u8 1 w A n c zs) (h2 : Arg .i64 8 w A2 n2 c2 cs) :
    Calls Try.prog 5 #[.slice A n c, .slice A2 n2 c2] w fun e w' => e = .returned (.bool true) ∧ Below w.heap.size w w' := by
  by_cases hn : n ≤ 200
  · exact bytesTakes_short A n c zs A2 n2 c2 cs w h h2 hn
  · have hn' : ¬ (n : Int) ≤ 200 := by omega
    go_enter Try.func5, Try.ntmps5
    go_wp2_with fail
    refine (known_any w).mono ?_
    rintro e w1 ⟨rfl, hk1⟩
    go_wp2_with fail
    go_ret
    exact ⟨rfl, hk1.below (Nat.le_refl _) (fun _ h => h.elim)⟩
end Go.Proofs.Ytaoikgopadladaa
