/-
  BytesHigh: the walk. Conditions: none.
-/
import Derived.Test.YtaoikgopadladaaLawPut
namespace Go.Proofs.Ytaoikgopadladaa
open Go.RowKit

theorem putB_at (x : Int) : ∀ (s i : Nat), i < s → (putB x s)[s - 1 - i]? = some (IntKind.u64.wrap x / 2 ^ (8 * i) % 256)
  | 0, i, h => by omega
  | s + 1, i, h => by
    by_cases he : i = s
    · subst he
      simp [putB]
    · have e : s + 1 - 1 - i = (s - 1 - i) + 1 := by omega
      rw [e, putB, List.getElem?_cons_succ]
      exact putB_at x s i (by omega)

set_option maxHeartbeats 400000 in
theorem bytesHigh_walk (x size : Int) (w : World) (_hx : (Lit.int .i64 x).wf = true) (_hs : (Lit.int .i64 size).wf = true) :
    Calls Try.prog 4 #[.int .i64 x, .int .i64 size] w fun e w' => e = .returned (.bool true) ∧ Below w.heap.size w w' := by
  go_enter Try.func4, Try.ntmps4
  go_wp2_with fail
  refine (known_any w).mono ?_
  rintro e w1 ⟨rfl, hk1⟩
  go_wp2_with fail
  refine (within_any size 8 w1 (by omega) (by omega)).mono ?_
  rintro e w2 ⟨rfl, rfl⟩
  have b1 : 0 ≤ size % 8 := by omega
  have b2 : size % 8 < 8 := by omega
  generalize size % 8 = m at *
  obtain ⟨k, rfl⟩ := Int.eq_ofNat_of_zero_le b1
  go_wp2_with fail
  have hf : fitsB (1 + (k : Int)) = true := by simp [fitsB]; omega
  refine (put_any none 0 0 [] (1 + (k : Int)) x w1 (Rd.nil _) (by omega) hf).mono ?_
  clear hf
  rintro e w2 ⟨v, rfl, hown, hk2⟩
  have e1 : (1 + (k : Int)).toNat = k + 1 := by omega
  rw [e1, Nat.zero_add, List.nil_append] at hown
  obtain ⟨A, c, rfl⟩ := own_form hown
  obtain ⟨g, rfl, hgc, hgb, hc, _⟩ := own_at hown (by omega)
  have HC : Hid (∀ i, i < k + 1 → w2.cell? ⟨g, k - i, none⟩ = some (.int .u8 (IntKind.u64.wrap x / 2 ^ (8 * i) % 256))) := by
    intro i hi
    have := putB_at x (k + 1) i hi
    rw [show k + 1 - 1 - i = k - i from by omega] at this
    exact hc (k - i) _ (by rw [List.getElem?_map, this]; rfl)
  clear hc hown
  have hne : (((k + 1 : Nat) : Int) != 1 + (k : Int)) = false := by simp; omega
  go_wp2_with fail
  go_loop [6] (fun i => ∃ j : Nat, j ≤ k + 1 ∧ i = .int .i64 j) (fun i => k + 1 - (intOf i).toNat)
  case atStart => exact ⟨0, by omega, rfl⟩
  case round =>
    obtain ⟨j, hj, rfl⟩ := hrel
    by_cases hlt : j < k + 1
    · have hcj := HC.out j hlt
      have ix : ((k : Int) - (j : Int)).toNat = k - j := by omega
      have h1 : (0 : Int) ≤ (k : Int) - (j : Int) := by omega
      have h2 : (k : Int) - (j : Int) < ((k + 1 : Nat) : Int) := by omega
      go_wp2
      go_round
      case rel => exact ⟨j + 1, by omega, by go_num⟩
      case measure => simp [intOf]; omega
    · go_wp2
      go_ret
      exact ⟨rfl, (hk1.trans hk2 (fun _ _ h => h)).below (Nat.le_refl _) (fun _ h => h.elim)⟩
end Go.Proofs.Ytaoikgopadladaa
