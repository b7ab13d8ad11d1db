/-
  StatesAll, StatesNone: the walks. Conditions: none.
-/
import Derived.Test.YtneococklhkjpaaStates2
import Derived.Test.YtneococklhkjpaaLawStates
namespace Go.Proofs.Ytneococklhkjpaa
open Go.RowKit

set_option maxHeartbeats 2000000 in
theorem statesAll_walk (x y : Int) (w : World) (_hx : (Lit.int .i64 x).wf = true) (_hy : (Lit.int .i64 y).wf = true) :
    Calls Try.prog 5 #[.int .i64 x, .int .i64 y] w fun e w' => e = .returned (.bool true) ∧ Below w.heap.size w w' := by
  go_enter Try.func5, Try.ntmps5
  go_wp2_with fail
  refine (known_any w).mono ?_
  rintro e w1 ⟨rfl, hk1⟩
  have HK0 := hid hk1
  clear hk1
  go_wp2_with fail
  go_loopw [5] (fun v wr => ∃ j : Nat, j ≤ 50 ∧ v = .int .i64 ((j : Int) - 1) ∧ Hid (Keep (fun _ => False) w wr)) (fun v _ => 50 - (intOf v + 1).toNat)
  case atStart => exact ⟨0, by omega, rfl, HK0⟩
  case round =>
    obtain ⟨j, hj, rfl, HK⟩ := hrel
    clear HK0
    by_cases hlt : j < 50
    · have hlt' : (j : Int) - 1 < 49 := by omega
      have hu : (j : Int) - 1 + 1 = j := by omega
      obtain ⟨q, m, l, s, hv⟩ : ∃ q m l s, valM ((j : Int) - 1) = (q, m, l, s) := ⟨_, _, _, _, rfl⟩
      have HV := hid hv
      have hb1 := fun w => begin_any ((j : Int) - 1) w
      have hb2 := fun w => rbegin_any ((j : Int) - 1) w
      generalize begM ((j : Int) - 1) = b at hb1 hb2
      have HB1 := hid hb1
      have HB2 := hid hb2
      clear hv hb1 hb2
      go_wp2_with fail
      refine (at_all _ q m l s wr HV.out).mono ?_
      rintro e w2 ⟨rfl, hk2⟩
      go_wp2_with fail
      refine (rat_all _ q m l s w2 HV.out).mono ?_
      rintro e w3 ⟨rfl, hk3⟩
      go_wp2_with fail
      refine (same_any q m l s w3).mono ?_
      rintro e w4 ⟨rfl, hk4⟩
      go_wp2_with fail
      refine (HB1.out w4).mono ?_
      rintro e w5 ⟨rfl, hk5⟩
      go_wp2_with fail
      refine (HB2.out w5).mono ?_
      rintro e w6 ⟨rfl, rfl⟩
      have HK5 := hid ((((HK.out.trans hk2 (fun _ _ h => h)).trans hk3 (fun _ _ h => h)).trans hk4 (fun _ _ h => h)).trans hk5 (fun _ _ h => h))
      clear hk2 hk3 hk4 hk5
      go_wp2_with fail
      go_roundw
      case rel => exact ⟨j + 1, by omega, by go_num, HK5⟩
      case measure => simp [intOf]; omega
    · have hlt' : ¬ (j : Int) - 1 < 49 := by omega
      obtain ⟨q, m, l, s, hv⟩ : ∃ q m l s, valM x = (q, m, l, s) := ⟨_, _, _, _, rfl⟩
      have HV := hid hv
      have hb1 := fun w => begin_any y w
      have hb2 := fun w => rbegin_any y w
      generalize begM y = b at hb1 hb2
      have HB1 := hid hb1
      have HB2 := hid hb2
      clear hv hb1 hb2
      go_wp2_with fail
      refine (at_all _ q m l s wr HV.out).mono ?_
      rintro e w2 ⟨rfl, hk2⟩
      go_wp2_with fail
      refine (rat_all _ q m l s w2 HV.out).mono ?_
      rintro e w3 ⟨rfl, hk3⟩
      go_wp2_with fail
      refine (same_any q m l s w3).mono ?_
      rintro e w4 ⟨rfl, hk4⟩
      go_wp2_with fail
      refine (HB1.out w4).mono ?_
      rintro e w5 ⟨rfl, hk5⟩
      go_wp2_with fail
      refine (HB2.out w5).mono ?_
      rintro e w6 ⟨rfl, rfl⟩
      have HK5 := hid ((((HK.out.trans hk2 (fun _ _ h => h)).trans hk3 (fun _ _ h => h)).trans hk4 (fun _ _ h => h)).trans hk5 (fun _ _ h => h))
      clear hk2 hk3 hk4 hk5
      go_wp2_with fail
      go_ret
      exact ⟨rfl, HK5.out.below (Nat.le_refl _) (fun _ h => h.elim)⟩

set_option maxHeartbeats 4000000 in
theorem statesNone_walk (x y : Int) (w : World) (hx : (Lit.int .i64 x).wf = true) (hy : (Lit.int .i64 y).wf = true) :
    Calls Try.prog 6 #[.int .i64 x, .int .i64 y] w fun e w' => e = .returned (.bool true) ∧ Below w.heap.size w w' := by
  have hx' := wf_i64 hx
  have hy' := wf_i64 hy
  clear hx hy
  go_enter Try.func6, Try.ntmps6
  go_wp2_with fail
  refine (known_any w).mono ?_
  rintro e w1 ⟨rfl, hk1⟩
  by_cases h1 : x < 0
  ·
    by_cases y0 : y = 0
    · subst y0
      go_wp2_with fail
      refine (at_none (x) w1 (by omega)).mono ?_
      rintro e w2 ⟨rfl, hk2⟩
      have HK := hid (hk1.trans hk2 (fun _ _ h => h))
      clear hk1 hk2
      have he : ∀ w, (binOp .eql 25 (.agg #[.int .i64 0, .int .i64 0, .int .i64 0, .bool false]) (.agg #[.int .i64 0, .int .i64 0, .int .i64 0, .bool false])).run Try.prog w = .ok (.bool true) w := fun w => by kernel_rfl
      go_wp2_with fail
      have hb0 := begin_any (1) w2
      rw [show begM (1) = 0 by unfold begM; rw [if_neg (by omega), if_neg (by omega), if_neg (by omega)]] at hb0
      refine hb0.mono ?_
      rintro e w2' ⟨rfl, hk2'⟩
      have HK := hid (HK.out.trans hk2' (fun _ _ h => h))
      clear hb0 hk2'
      go_wp2_with fail
      refine (begin_any 17 w2').mono ?_
      rintro e w3 ⟨rfl, hk3⟩
      have e17 : begM 17 = 3 := by decide +kernel
      rw [e17]
      have HK3 := hid (HK.out.trans hk3 (fun _ _ h => h))
      clear hk3 e17
      go_wp2_with fail
      go_ret
      exact ⟨rfl, HK3.out.below (Nat.le_refl _) (fun _ h => h.elim)⟩
    · by_cases y17 : y = 17
      · subst y17
        go_wp2_with fail
        refine (at_none (x) w1 (by omega)).mono ?_
        rintro e w2 ⟨rfl, hk2⟩
        have HK := hid (hk1.trans hk2 (fun _ _ h => h))
        clear hk1 hk2
        have he : ∀ w, (binOp .eql 25 (.agg #[.int .i64 0, .int .i64 0, .int .i64 0, .bool false]) (.agg #[.int .i64 0, .int .i64 0, .int .i64 0, .bool false])).run Try.prog w = .ok (.bool true) w := fun w => by kernel_rfl
        go_wp2_with fail
        refine (begin_any 17 w2).mono ?_
        rintro e w3 ⟨rfl, hk3⟩
        have e17 : begM 17 = 3 := by decide +kernel
        rw [e17]
        have HK3 := hid (HK.out.trans hk3 (fun _ _ h => h))
        clear hk3 e17
        go_wp2_with fail
        go_ret
        exact ⟨rfl, HK3.out.below (Nat.le_refl _) (fun _ h => h.elim)⟩
      · by_cases y18 : y = 18
        · subst y18
          go_wp2_with fail
          refine (at_none (x) w1 (by omega)).mono ?_
          rintro e w2 ⟨rfl, hk2⟩
          have HK := hid (hk1.trans hk2 (fun _ _ h => h))
          clear hk1 hk2
          have he : ∀ w, (binOp .eql 25 (.agg #[.int .i64 0, .int .i64 0, .int .i64 0, .bool false]) (.agg #[.int .i64 0, .int .i64 0, .int .i64 0, .bool false])).run Try.prog w = .ok (.bool true) w := fun w => by kernel_rfl
          go_wp2_with fail
          have hb0 := begin_any (19) w2
          rw [show begM (19) = 0 by unfold begM; rw [if_neg (by omega), if_neg (by omega), if_neg (by omega)]] at hb0
          refine hb0.mono ?_
          rintro e w2' ⟨rfl, hk2'⟩
          have HK := hid (HK.out.trans hk2' (fun _ _ h => h))
          clear hb0 hk2'
          go_wp2_with fail
          refine (begin_any 17 w2').mono ?_
          rintro e w3 ⟨rfl, hk3⟩
          have e17 : begM 17 = 3 := by decide +kernel
          rw [e17]
          have HK3 := hid (HK.out.trans hk3 (fun _ _ h => h))
          clear hk3 e17
          go_wp2_with fail
          go_ret
          exact ⟨rfl, HK3.out.below (Nat.le_refl _) (fun _ h => h.elim)⟩
        · have a0 : (y == 0) = false := by simpa using y0
          have a1 : (y == 17) = false := by simpa using y17
          have a2 : (y == 18) = false := by simpa using y18
          go_wp2_with fail
          refine (at_none (x) w1 (by omega)).mono ?_
          rintro e w2 ⟨rfl, hk2⟩
          have HK := hid (hk1.trans hk2 (fun _ _ h => h))
          clear hk1 hk2
          have he : ∀ w, (binOp .eql 25 (.agg #[.int .i64 0, .int .i64 0, .int .i64 0, .bool false]) (.agg #[.int .i64 0, .int .i64 0, .int .i64 0, .bool false])).run Try.prog w = .ok (.bool true) w := fun w => by kernel_rfl
          go_wp2_with fail
          have hb0 := begin_any (y) w2
          rw [show begM (y) = 0 by unfold begM; rw [if_neg (by omega), if_neg (by omega), if_neg (by omega)]] at hb0
          refine hb0.mono ?_
          rintro e w2' ⟨rfl, hk2'⟩
          have HK := hid (HK.out.trans hk2' (fun _ _ h => h))
          clear hb0 hk2'
          go_wp2_with fail
          refine (begin_any 17 w2').mono ?_
          rintro e w3 ⟨rfl, hk3⟩
          have e17 : begM 17 = 3 := by decide +kernel
          rw [e17]
          have HK3 := hid (HK.out.trans hk3 (fun _ _ h => h))
          clear hk3 e17
          go_wp2_with fail
          go_ret
          exact ⟨rfl, HK3.out.below (Nat.le_refl _) (fun _ h => h.elim)⟩
  · by_cases h2 : 46 < x
    ·
      by_cases y0 : y = 0
      · subst y0
        go_wp2_with fail
        refine (at_none (x) w1 (by omega)).mono ?_
        rintro e w2 ⟨rfl, hk2⟩
        have HK := hid (hk1.trans hk2 (fun _ _ h => h))
        clear hk1 hk2
        have he : ∀ w, (binOp .eql 25 (.agg #[.int .i64 0, .int .i64 0, .int .i64 0, .bool false]) (.agg #[.int .i64 0, .int .i64 0, .int .i64 0, .bool false])).run Try.prog w = .ok (.bool true) w := fun w => by kernel_rfl
        go_wp2_with fail
        have hb0 := begin_any (1) w2
        rw [show begM (1) = 0 by unfold begM; rw [if_neg (by omega), if_neg (by omega), if_neg (by omega)]] at hb0
        refine hb0.mono ?_
        rintro e w2' ⟨rfl, hk2'⟩
        have HK := hid (HK.out.trans hk2' (fun _ _ h => h))
        clear hb0 hk2'
        go_wp2_with fail
        refine (begin_any 17 w2').mono ?_
        rintro e w3 ⟨rfl, hk3⟩
        have e17 : begM 17 = 3 := by decide +kernel
        rw [e17]
        have HK3 := hid (HK.out.trans hk3 (fun _ _ h => h))
        clear hk3 e17
        go_wp2_with fail
        go_ret
        exact ⟨rfl, HK3.out.below (Nat.le_refl _) (fun _ h => h.elim)⟩
      · by_cases y17 : y = 17
        · subst y17
          go_wp2_with fail
          refine (at_none (x) w1 (by omega)).mono ?_
          rintro e w2 ⟨rfl, hk2⟩
          have HK := hid (hk1.trans hk2 (fun _ _ h => h))
          clear hk1 hk2
          have he : ∀ w, (binOp .eql 25 (.agg #[.int .i64 0, .int .i64 0, .int .i64 0, .bool false]) (.agg #[.int .i64 0, .int .i64 0, .int .i64 0, .bool false])).run Try.prog w = .ok (.bool true) w := fun w => by kernel_rfl
          go_wp2_with fail
          refine (begin_any 17 w2).mono ?_
          rintro e w3 ⟨rfl, hk3⟩
          have e17 : begM 17 = 3 := by decide +kernel
          rw [e17]
          have HK3 := hid (HK.out.trans hk3 (fun _ _ h => h))
          clear hk3 e17
          go_wp2_with fail
          go_ret
          exact ⟨rfl, HK3.out.below (Nat.le_refl _) (fun _ h => h.elim)⟩
        · by_cases y18 : y = 18
          · subst y18
            go_wp2_with fail
            refine (at_none (x) w1 (by omega)).mono ?_
            rintro e w2 ⟨rfl, hk2⟩
            have HK := hid (hk1.trans hk2 (fun _ _ h => h))
            clear hk1 hk2
            have he : ∀ w, (binOp .eql 25 (.agg #[.int .i64 0, .int .i64 0, .int .i64 0, .bool false]) (.agg #[.int .i64 0, .int .i64 0, .int .i64 0, .bool false])).run Try.prog w = .ok (.bool true) w := fun w => by kernel_rfl
            go_wp2_with fail
            have hb0 := begin_any (19) w2
            rw [show begM (19) = 0 by unfold begM; rw [if_neg (by omega), if_neg (by omega), if_neg (by omega)]] at hb0
            refine hb0.mono ?_
            rintro e w2' ⟨rfl, hk2'⟩
            have HK := hid (HK.out.trans hk2' (fun _ _ h => h))
            clear hb0 hk2'
            go_wp2_with fail
            refine (begin_any 17 w2').mono ?_
            rintro e w3 ⟨rfl, hk3⟩
            have e17 : begM 17 = 3 := by decide +kernel
            rw [e17]
            have HK3 := hid (HK.out.trans hk3 (fun _ _ h => h))
            clear hk3 e17
            go_wp2_with fail
            go_ret
            exact ⟨rfl, HK3.out.below (Nat.le_refl _) (fun _ h => h.elim)⟩
          · have a0 : (y == 0) = false := by simpa using y0
            have a1 : (y == 17) = false := by simpa using y17
            have a2 : (y == 18) = false := by simpa using y18
            go_wp2_with fail
            refine (at_none (x) w1 (by omega)).mono ?_
            rintro e w2 ⟨rfl, hk2⟩
            have HK := hid (hk1.trans hk2 (fun _ _ h => h))
            clear hk1 hk2
            have he : ∀ w, (binOp .eql 25 (.agg #[.int .i64 0, .int .i64 0, .int .i64 0, .bool false]) (.agg #[.int .i64 0, .int .i64 0, .int .i64 0, .bool false])).run Try.prog w = .ok (.bool true) w := fun w => by kernel_rfl
            go_wp2_with fail
            have hb0 := begin_any (y) w2
            rw [show begM (y) = 0 by unfold begM; rw [if_neg (by omega), if_neg (by omega), if_neg (by omega)]] at hb0
            refine hb0.mono ?_
            rintro e w2' ⟨rfl, hk2'⟩
            have HK := hid (HK.out.trans hk2' (fun _ _ h => h))
            clear hb0 hk2'
            go_wp2_with fail
            refine (begin_any 17 w2').mono ?_
            rintro e w3 ⟨rfl, hk3⟩
            have e17 : begM 17 = 3 := by decide +kernel
            rw [e17]
            have HK3 := hid (HK.out.trans hk3 (fun _ _ h => h))
            clear hk3 e17
            go_wp2_with fail
            go_ret
            exact ⟨rfl, HK3.out.below (Nat.le_refl _) (fun _ h => h.elim)⟩
    ·
      by_cases y0 : y = 0
      · subst y0
        go_wp2_with fail
        refine (at_none ((x + 47)) w1 (by omega)).mono ?_
        rintro e w2 ⟨rfl, hk2⟩
        have HK := hid (hk1.trans hk2 (fun _ _ h => h))
        clear hk1 hk2
        have he : ∀ w, (binOp .eql 25 (.agg #[.int .i64 0, .int .i64 0, .int .i64 0, .bool false]) (.agg #[.int .i64 0, .int .i64 0, .int .i64 0, .bool false])).run Try.prog w = .ok (.bool true) w := fun w => by kernel_rfl
        go_wp2_with fail
        have hb0 := begin_any (1) w2
        rw [show begM (1) = 0 by unfold begM; rw [if_neg (by omega), if_neg (by omega), if_neg (by omega)]] at hb0
        refine hb0.mono ?_
        rintro e w2' ⟨rfl, hk2'⟩
        have HK := hid (HK.out.trans hk2' (fun _ _ h => h))
        clear hb0 hk2'
        go_wp2_with fail
        refine (begin_any 17 w2').mono ?_
        rintro e w3 ⟨rfl, hk3⟩
        have e17 : begM 17 = 3 := by decide +kernel
        rw [e17]
        have HK3 := hid (HK.out.trans hk3 (fun _ _ h => h))
        clear hk3 e17
        go_wp2_with fail
        go_ret
        exact ⟨rfl, HK3.out.below (Nat.le_refl _) (fun _ h => h.elim)⟩
      · by_cases y17 : y = 17
        · subst y17
          go_wp2_with fail
          refine (at_none ((x + 47)) w1 (by omega)).mono ?_
          rintro e w2 ⟨rfl, hk2⟩
          have HK := hid (hk1.trans hk2 (fun _ _ h => h))
          clear hk1 hk2
          have he : ∀ w, (binOp .eql 25 (.agg #[.int .i64 0, .int .i64 0, .int .i64 0, .bool false]) (.agg #[.int .i64 0, .int .i64 0, .int .i64 0, .bool false])).run Try.prog w = .ok (.bool true) w := fun w => by kernel_rfl
          go_wp2_with fail
          refine (begin_any 17 w2).mono ?_
          rintro e w3 ⟨rfl, hk3⟩
          have e17 : begM 17 = 3 := by decide +kernel
          rw [e17]
          have HK3 := hid (HK.out.trans hk3 (fun _ _ h => h))
          clear hk3 e17
          go_wp2_with fail
          go_ret
          exact ⟨rfl, HK3.out.below (Nat.le_refl _) (fun _ h => h.elim)⟩
        · by_cases y18 : y = 18
          · subst y18
            go_wp2_with fail
            refine (at_none ((x + 47)) w1 (by omega)).mono ?_
            rintro e w2 ⟨rfl, hk2⟩
            have HK := hid (hk1.trans hk2 (fun _ _ h => h))
            clear hk1 hk2
            have he : ∀ w, (binOp .eql 25 (.agg #[.int .i64 0, .int .i64 0, .int .i64 0, .bool false]) (.agg #[.int .i64 0, .int .i64 0, .int .i64 0, .bool false])).run Try.prog w = .ok (.bool true) w := fun w => by kernel_rfl
            go_wp2_with fail
            have hb0 := begin_any (19) w2
            rw [show begM (19) = 0 by unfold begM; rw [if_neg (by omega), if_neg (by omega), if_neg (by omega)]] at hb0
            refine hb0.mono ?_
            rintro e w2' ⟨rfl, hk2'⟩
            have HK := hid (HK.out.trans hk2' (fun _ _ h => h))
            clear hb0 hk2'
            go_wp2_with fail
            refine (begin_any 17 w2').mono ?_
            rintro e w3 ⟨rfl, hk3⟩
            have e17 : begM 17 = 3 := by decide +kernel
            rw [e17]
            have HK3 := hid (HK.out.trans hk3 (fun _ _ h => h))
            clear hk3 e17
            go_wp2_with fail
            go_ret
            exact ⟨rfl, HK3.out.below (Nat.le_refl _) (fun _ h => h.elim)⟩
          · have a0 : (y == 0) = false := by simpa using y0
            have a1 : (y == 17) = false := by simpa using y17
            have a2 : (y == 18) = false := by simpa using y18
            go_wp2_with fail
            refine (at_none ((x + 47)) w1 (by omega)).mono ?_
            rintro e w2 ⟨rfl, hk2⟩
            have HK := hid (hk1.trans hk2 (fun _ _ h => h))
            clear hk1 hk2
            have he : ∀ w, (binOp .eql 25 (.agg #[.int .i64 0, .int .i64 0, .int .i64 0, .bool false]) (.agg #[.int .i64 0, .int .i64 0, .int .i64 0, .bool false])).run Try.prog w = .ok (.bool true) w := fun w => by kernel_rfl
            go_wp2_with fail
            have hb0 := begin_any (y) w2
            rw [show begM (y) = 0 by unfold begM; rw [if_neg (by omega), if_neg (by omega), if_neg (by omega)]] at hb0
            refine hb0.mono ?_
            rintro e w2' ⟨rfl, hk2'⟩
            have HK := hid (HK.out.trans hk2' (fun _ _ h => h))
            clear hb0 hk2'
            go_wp2_with fail
            refine (begin_any 17 w2').mono ?_
            rintro e w3 ⟨rfl, hk3⟩
            have e17 : begM 17 = 3 := by decide +kernel
            rw [e17]
            have HK3 := hid (HK.out.trans hk3 (fun _ _ h => h))
            clear hk3 e17
            go_wp2_with fail
            go_ret
            exact ⟨rfl, HK3.out.below (Nat.le_refl _) (fun _ h => h.elim)⟩
end Go.Proofs.Ytneococklhkjpaa
