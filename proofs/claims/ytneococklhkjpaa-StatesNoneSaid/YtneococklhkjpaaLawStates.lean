/-
  The states' laws: the walks of StatesFall, StatesWays. Conditions: none.
-/
import Derived.Test.YtneococklhkjpaaStates
import Derived.Test.YtneococklhkjpaaArg
import Derived.WalkLawsBesides
namespace Go.Proofs.Ytneococklhkjpaa
open Go.RowKit

theorem at_get (x : Int) (q m l : Nat) (s : Bool) (w : World) (h0 : 0 ≤ x) (h1 : x < 47) (ht : tabAt x.toNat = (q, m, l, s)) :
    Calls Try.prog 8 #[.int .i64 x] w fun e w' => e = .returned (.agg #[.int .i64 q, .int .i64 m, .int .i64 l, .bool s]) ∧ Keep (fun _ => False) w w' := by
  obtain ⟨i, rfl⟩ := Int.eq_ofNat_of_zero_le h0
  rw [Int.toNat_natCast] at ht
  refine (at_any i w (by omega)).mono ?_
  rintro e w' ⟨rfl, hk⟩
  rw [ht]
  exact ⟨rfl, hk⟩

set_option maxHeartbeats 400000 in
theorem known_any (w : World) : Calls Try.prog 7 #[] w fun e w' => e = .returned (.bool true) ∧ Keep (fun _ => False) w w' := by
  go_enter Try.func7, Try.ntmps7
  go_wp2_with fail
  refine (at_get 0 22017 1 1 true w (by omega) (by omega) (by decide +kernel)).mono ?_
  rintro e w1 ⟨rfl, hk1⟩
  have he : ∀ w, (binOp .eql 25 (.agg #[.int .i64 22017, .int .i64 1, .int .i64 1, .bool true]) (.agg #[.int .i64 22017, .int .i64 1, .int .i64 1, .bool true])).run Try.prog w = .ok (.bool true) w := fun w => by kernel_rfl
  go_wp2_with fail
  go_ret
  exact ⟨rfl, hk1⟩

theorem field1 (a b c : Int) (s : Bool) (w : World) : (Instr.field 25 (.agg #[.int .i64 a, .int .i64 b, .int .i64 c, .bool s]) 1).run Try.prog w = .ok (.int .i64 b) w := by kernel_rfl

theorem fall_fact : ∀ k, k < 31 → (tabAt (14 + k)).2.1 = 15 + k ∧ (tabAt (15 + k)).1 < (tabAt (14 + k)).1 := by decide +kernel

set_option maxHeartbeats 1000000 in
theorem statesFall_walk (i : Int) (w : World) (hi : (Lit.int .i64 i).wf = true) :
    Calls Try.prog 4 #[.int .i64 i] w fun e w' => e = .returned (.bool true) ∧ Below w.heap.size w w' := by
  have hb := wf_i64 hi
  have b1 := (tmod_fix i 31 (by omega)).2.2.1
  have b2 := (tmod_fix i 31 (by omega)).2.2.2
  obtain ⟨k, hk, hk2⟩ : ∃ k : Nat, k < 31 ∧ ((0 ≤ (k : Int) ∧ i.tmod 31 = k) ∨ (1 ≤ (k : Int) ∧ i.tmod 31 = -k)) := ⟨(i.tmod 31).natAbs, by omega, by omega⟩
  obtain ⟨f1, f2⟩ := fall_fact k hk
  obtain ⟨q, m, l, s, ht⟩ : ∃ q m l s, tabAt (14 + k) = (q, m, l, s) := ⟨_, _, _, _, rfl⟩
  obtain ⟨q2, m2, l2, s2, ht2⟩ : ∃ q m l s, tabAt (15 + k) = (q, m, l, s) := ⟨_, _, _, _, rfl⟩
  rw [ht] at f1 f2
  rw [ht2] at f2
  obtain rfl : m = 15 + k := f1
  have f2' : (q2 : Int) < (q : Int) := by have : q2 < q := f2; omega
  have f3 : (((15 + k : Nat) : Int) == (15 : Int) + (k : Int)) = true := by simp
  have HT := hid ht
  have HT2 := hid ht2
  clear ht ht2 f2
  have hbound : (k : Int) < 31 := by omega
  clear hk
  rcases hk2 with ⟨c1, c2⟩ | ⟨c1, c2⟩
  all_goals
    clear b1 b2
    have hf1 := field1
    go_enter Try.func4, Try.ntmps4
    go_wp2_with fail
    refine (known_any w).mono ?_
    rintro e w1 ⟨rfl, hk1⟩
    go_wp2_with fail
    refine (at_get ((14 : Int) + k) q (15 + k) l s w1 (by omega) (by omega) (by rw [show ((14 : Int) + k).toNat = 14 + k from by omega]; exact HT.out)).mono ?_
    rintro e w2 ⟨rfl, hk2⟩
    go_wp2_with fail
    refine (at_get ((14 : Int) + k) q (15 + k) l s w2 (by omega) (by omega) (by rw [show ((14 : Int) + k).toNat = 14 + k from by omega]; exact HT.out)).mono ?_
    rintro e w3 ⟨rfl, hk3⟩
    go_wp2_with fail
    refine (at_get ((15 : Int) + k) q2 m2 l2 s2 w3 (by omega) (by omega) (by rw [show ((15 : Int) + k).toNat = 15 + k from by omega]; exact HT2.out)).mono ?_
    rintro e w4 ⟨rfl, hk4⟩
    go_wp2_with fail
    go_ret
    refine ⟨rfl, Keep.below (S := fun _ => False) ?_ (Nat.le_refl _) (fun _ h => h.elim)⟩
    exact ((((hk1.trans hk2 (fun _ _ h => h)).trans hk3 (fun _ _ h => h)).trans hk4 (fun _ _ h => h)).alloc _).alloc _

theorem ways_fact : ∀ k, k < 47 → 1 ≤ (tabAt k).1 ∧ (tabAt k).1 ≤ 22017 ∧ ((tabAt k).2.2.2 = true → (tabAt k).1 = 22017) ∧ (tabAt k).2.1 ≤ 46 ∧ (tabAt k).2.2.1 ≤ 46 := by decide +kernel

set_option maxRecDepth 100000 in
set_option maxHeartbeats 2000000 in
theorem statesWays_walk (i : Int) (A : Option Addr) (n c : Nat) (ts : List Bool) (w : World) (hi : (Lit.int .i64 i).wf = true) (h : ArgB w A n c ts) :
    Calls Try.prog 3 #[.int .i64 i, .slice A n c] w fun e w' => e = .returned (.bool true) ∧ Below w.heap.size w w' := by
  have hb := wf_i64 hi
  have hn : n ≤ 9223372036854775807 := by have := h.cap; have := h.reach; omega
  have b1 := (tmod_fix i 47 (by omega)).2.2.1
  have b2 := (tmod_fix i 47 (by omega)).2.2.2
  obtain ⟨k, hk, hk2⟩ : ∃ k : Nat, k < 47 ∧ ((0 ≤ (k : Int) ∧ i.tmod 47 = k) ∨ (1 ≤ (k : Int) ∧ i.tmod 47 = -k)) := ⟨(i.tmod 47).natAbs, by omega, by omega⟩
  have hbound : (k : Int) < 47 := by omega
  rcases hk2 with ⟨c1, c2⟩ | ⟨c1, c2⟩
  all_goals
    clear b1 b2
    go_enter Try.func3, Try.ntmps3
    go_wp2_with fail
    refine (known_any w).mono ?_
    rintro e w1 ⟨rfl, hk1⟩
    go_wp2_with fail
    go_loopw [5, 6] (fun x y wr => ∃ k j : Nat, k < 47 ∧ j ≤ n ∧ Keep (fun _ => False) w wr ∧ x = .int .i64 k ∧ y = .int .i64 j) (fun _ y _ => n - (intOf y).toNat)
    case atStart => exact ⟨k, 0, hk, by omega, hk1, rfl, rfl⟩
    case round =>
      obtain ⟨p, j, hp, hj, hkp, rfl, rfl⟩ := hrel
      by_cases hlt : j < n ∧ j < 200
      · obtain ⟨l1, l2⟩ := hlt
        obtain ⟨ad, rfl, hc⟩ := (h.rd.keep hkp (fun _ _ h => h)).at_ l1
        have hjl : j < ts.length := by have := h.rd.1; simp at this; omega
        have hbx : (ts.map Value.bool).getD j undef = .bool (ts.getD j false) := by simp [hjl]
        rw [hbx] at hc
        obtain ⟨ad0, e0, hc0⟩ := (h.rd.keep hkp (fun _ _ h => h)).at_ (k := 0) (by omega)
        injection e0 with e0
        subst e0
        have hs0 : ad.spot = none := World.cell?_spot hc0
        obtain ⟨ab, ao, as_⟩ := ad
        simp only at hs0
        subst hs0
        rw [add_lit'] at hc
        clear hc0
        generalize ts.getD j false = tb at *
        obtain ⟨g1, g2, g3, g4, g5⟩ := ways_fact p hp
        obtain ⟨q, m, l, s, ht⟩ : ∃ q m l s, tabAt p = (q, m, l, s) := ⟨_, _, _, _, rfl⟩
        rw [ht] at g1 g2 g3 g4 g5
        simp only at g1 g2 g3 g4 g5
        have g6 : (1 : Int) ≤ (q : Int) := by omega
        have g7 : (q : Int) ≤ 22017 := by omega
        have HT := hid ht
        clear ht hbx hjl
        cases s with
        | false =>
          clear g3
          go_wp2_with fail
          refine (at_get (p : Int) q m l false wr (by omega) (by omega) (by rw [Int.toNat_natCast]; exact HT.out)).mono ?_
          rintro e w3 ⟨rfl, hk3⟩
          have hcw := hk3.cell hc (fun h => h)
          have hsz := hk3.size
          have hbl := World.block_lt_of_cell? _ _ hcw
          cases tb
          all_goals
            go_wp2_with fail
            go_roundw
            case rel =>
              refine ⟨_, j + 1, ?_, by omega, (hkp.trans hk3 (fun _ _ h => h)).alloc _, rfl, by go_num⟩
              omega
            case measure => simp [intOf]; omega
        | true =>
          have hq := g3 rfl
          subst hq
          clear g3
          go_wp2_with fail
          refine (at_get (p : Int) 22017 m l true wr (by omega) (by omega) (by rw [Int.toNat_natCast]; exact HT.out)).mono ?_
          rintro e w3 ⟨rfl, hk3⟩
          have hcw := hk3.cell hc (fun h => h)
          have hsz := hk3.size
          have hbl := World.block_lt_of_cell? _ _ hcw
          cases tb
          all_goals
            go_wp2_with fail
            go_roundw
            case rel =>
              refine ⟨_, j + 1, ?_, by omega, (hkp.trans hk3 (fun _ _ h => h)).alloc _, rfl, by go_num⟩
              omega
            case measure => simp [intOf]; omega
      · have hge : n ≤ j ∨ 200 ≤ j := by omega
        go_wp2_with fail
        all_goals go_ret
        all_goals exact ⟨rfl, hkp.below (Nat.le_refl _) (fun _ h => h.elim)⟩
end Go.Proofs.Ytneococklhkjpaa
