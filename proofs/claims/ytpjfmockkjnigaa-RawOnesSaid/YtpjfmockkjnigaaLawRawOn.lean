/-
  RawOnes, RawBits: the walks. Conditions: none.
-/
import Derived.Test.YtpjfmockkjnigaaLawRawBack
import Derived.Deep.DeepCutAuto
namespace Go.Proofs.Ytpjfmockkjnigaa
open Go.RowKit

def onesM (n : Nat) : List Int × Int := runM ([], 0) (List.replicate n 1)
theorem onesM_succ (n : Nat) : onesM (n + 1) = stepM (onesM n) 1 := by unfold onesM; rw [List.replicate_succ', runM_append]; rfl
theorem onesM_inv (n : Nat) : BInv (onesM n).1 (onesM n).2 := runM_inv _ ([], 0) BInv.nil
theorem onesM_length (n : Nat) : (onesM n).1.length ≤ n := by
  have := runM_length (List.replicate n 1) ([], 0)
  simp at this
  unfold onesM
  omega
/-- How many bytes n ones make. -/
def wantM (n : Nat) : Nat := 2 * (n / 15) + if 8 < n % 15 then 2 else if 0 < n % 15 ∧ n % 15 < 8 then 1 else 0
def onesOk (n : Nat) : Bool := decide ((flushM (onesM n).1).length = wantM n) && (List.range (2 * (n / 15))).all fun i => decide ((flushM (onesM n).1).length ≤ i) || decide ((flushM (onesM n).1).getD i 0 = 255 - (i % 2 : Nat) * 128)
theorem ones_all : ∀ n : Nat, n < 200 → onesOk n = true := by decide +kernel
theorem ones_len (n : Nat) (h : n < 200) : (flushM (onesM n).1).length = wantM n := by
  have := ones_all n h
  unfold onesOk at this
  simp only [Bool.and_eq_true, decide_eq_true_eq] at this
  exact this.1
theorem ones_at_ (n : Nat) (h : n < 200) (i : Nat) (hi : i < 2 * (n / 15)) (hl : i < (flushM (onesM n).1).length) : (flushM (onesM n).1).getD i 0 = 255 - (i % 2 : Nat) * 128 := by
  have := ones_all n h
  unfold onesOk at this
  simp only [Bool.and_eq_true, decide_eq_true_eq, List.all_eq_true, List.mem_range, Bool.or_eq_true] at this
  have := this.2 i hi
  omega

set_option maxRecDepth 100000 in
set_option maxHeartbeats 4000000 in
theorem rawOnes_walk (x : Int) (w : World) (_h : (Lit.int .i64 x).wf = true) :
    Calls Try.prog 7 #[.int .i64 x] w fun e w' => e = .returned (.bool true) ∧ Below w.heap.size w w' := by
  have ht1 := Int.tmod_lt_of_pos x (show (0 : Int) < 200 by omega)
  have ht2 : -200 < x.tmod 200 := by
    have := Int.tmod_lt_of_pos (-x) (show (0 : Int) < 200 by omega)
    rw [Int.neg_tmod] at this
    omega
  have hwr : wrap64 (-x.tmod 200) = -x.tmod 200 := IntWalk.wrap64_in _ (by omega)
  go_enter Try.func7, Try.ntmps7
  go_wp2_with fail
  refine (known_any w).mono ?_
  rintro e w1 ⟨rfl, hk1⟩
  go_upto_region 3 with fail
  go_cut [0] (fun v wx => ∃ N : Nat, v = .int .i64 N ∧ N < 200 ∧ wx = w1)
  case first =>
    go_wp2_with fail
    all_goals go_meet
    all_goals first
      | exact ⟨199, rfl, by omega, rfl⟩
      | exact ⟨(-x.tmod 200).toNat, by congr 1; omega, by omega, rfl⟩
      | exact ⟨(x.tmod 200).toNat, by congr 1; omega, by omega, rfl⟩
  case rest =>
    obtain ⟨N, rfl, hN, hw⟩ := hcut
    obtain rfl : w1 = wc := hw.symm
    clear hw
    go_wp2_with fail
    refine (neww_any w1).mono ?_
    rintro e w2 ⟨W, rfl, hW, hw2, hk2⟩
    have hT : OneS w W (onesM 0) w2 := by
      have hs1 := hk1.size
      exact ⟨none, 0, 0, ⟨hw2.blk, own_mono hw2.own hs1⟩, by omega, hk1.trans hk2 (fun _ _ h => h)⟩
    have HT0 := hid hT
    clear hT hw2 hk1 hk2 hW
    go_wp2_with fail
    go_loopw [4] (fun v wr => ∃ i : Nat, i ≤ N ∧ v = .int .i64 i ∧ Hid (OneS w W (onesM i) wr)) (fun v _ => N - (intOf v).toNat)
    case atStart => exact ⟨0, by omega, rfl, HT0⟩
    case round =>
      obtain ⟨i, hi, rfl, HTS⟩ := hrel
      clear HT0
      obtain ⟨A1, n1, c1, ht⟩ := HTS.out
      have HT := hid ht
      have hl := onesM_length i
      by_cases hlt : i < N
      · clear ht HTS
        go_wp2_with fail
        refine (bit_any wr w.heap.size W A1 n1 c1 _ _ 1 HT.out.wr (onesM_inv i) HT.out.keep.size (by have := HT.out.wr.len; omega)).mono ?_
        rintro e w4 ⟨rfl, A2, ⟨n2, c2, h4⟩, hg4, hk4⟩
        have HO := hid (HT.out.next h4 hk4)
        clear h4 hk4 hg4
        go_wp2_with fail
        go_roundw
        case rel => exact ⟨i + 1, by omega, by go_num, hid ⟨A2, n2, c2, by rw [onesM_succ]; exact HO.out⟩⟩
        case measure => simp [intOf]; omega
      · obtain rfl : N = i := by omega
        clear ht HTS
        go_wp2_with fail
        refine (flush_any wr w.heap.size W A1 n1 c1 _ _ HT.out.wr (by have := HT.out.wr.len; omega)).mono ?_
        rintro e w3 ⟨A3, n3, c3, rfl, hown3, hk3⟩
        have HK := hid (HT.out.keep.trans hk3 (fun _ _ h => h))
        have hn3 : (flushM (onesM N).1).length = n3 := by have := hown3.1; simpa using this
        have hlen := ones_len N hN
        rw [hn3] at hlen
        have HAT := hid (ones_at_ N hN)
        have HO := hid hown3
        have hl3 : n3 ≤ 300 := by rw [← hn3]; have := flushM_le (onesM N).1; omega
        clear hown3 hk3 HT
        generalize flushM (onesM N).1 = b at *
        have HN := hid hn3
        have HLEN := hid hlen
        clear hn3 hlen hl
        by_cases hc1 : 8 < N % 15
        · have hc1' : (8 : Int) < (N : Int) % 15 := by omega
          have HW := hid (show n3 = 2 * (N / 15) + 2 by have := HLEN.out; unfold wantM at this; rw [if_pos hc1] at this; exact this)
          go_wp2_with fail
          go_loop [9] (fun v => ∃ j : Nat, j ≤ 400 ∧ v = .int .i64 j) (fun v => 400 - (intOf v).toNat)
          case atStart => exact ⟨0, by omega, rfl⟩
          case round =>
            obtain ⟨j, hj, rfl⟩ := hrel
            by_cases hj1 : j < 2 * (N / 15)
            · have hj1' : (j : Int) < 2 * ((N : Int) / 15) := by omega
              by_cases hj2 : j < n3
              · obtain ⟨g, rfl, hgc, hgb, hgl, _⟩ := own_at HO.out (by omega)
                have hat := HAT.out j hj1 (by rw [HN.out]; exact hj2)
                have g0 : w3.cell? ⟨g, j, none⟩ = some (.int .u8 (b.getD j 0)) := hgl j _ (map_at _ _ j (by rw [HN.out]; omega))
                rw [hat] at g0
                have hw : ((j % 2 : Nat) : Int) = (j : Int) % 2 := by omega
                rw [hw] at g0
                have hr1 : 0 ≤ (255 : Int) - (j : Int) % 2 * 128 := by omega
                have hr2 : (255 : Int) - (j : Int) % 2 * 128 ≤ 255 := by omega
                clear hgl hat hw
                go_wp2_with fail
                go_round
                case rel => exact ⟨j + 1, by omega, by go_num⟩
                case measure => simp [intOf]; omega
              · go_wp2_with fail
                go_ret
                exact ⟨ret_bool (by have := HW.out; simp; omega), HK.out.below (Nat.le_refl _) (fun _ h => h.elim)⟩
            · have hj1' : ¬ (j : Int) < 2 * ((N : Int) / 15) := by omega
              go_wp2_with fail
              go_ret
              exact ⟨ret_bool (by have := HW.out; simp; omega), HK.out.below (Nat.le_refl _) (fun _ h => h.elim)⟩
        · have hc1' : ¬ (8 : Int) < (N : Int) % 15 := by omega
          by_cases hc2 : 0 < N % 15 ∧ N % 15 < 8
          · have HW := hid (show n3 = 2 * (N / 15) + 1 by have := HLEN.out; unfold wantM at this; rw [if_neg hc1, if_pos hc2] at this; exact this)
            have hc2' : (0 : Int) < (N : Int) % 15 := by omega
            have hc3' : (N : Int) % 15 < 8 := by omega
            go_wp2_with fail
            go_loop [9] (fun v => ∃ j : Nat, j ≤ 400 ∧ v = .int .i64 j) (fun v => 400 - (intOf v).toNat)
            case atStart => exact ⟨0, by omega, rfl⟩
            case round =>
              obtain ⟨j, hj, rfl⟩ := hrel
              by_cases hj1 : j < 2 * (N / 15)
              · have hj1' : (j : Int) < 2 * ((N : Int) / 15) := by omega
                by_cases hj2 : j < n3
                · obtain ⟨g, rfl, hgc, hgb, hgl, _⟩ := own_at HO.out (by omega)
                  have hat := HAT.out j hj1 (by rw [HN.out]; exact hj2)
                  have g0 : w3.cell? ⟨g, j, none⟩ = some (.int .u8 (b.getD j 0)) := hgl j _ (map_at _ _ j (by rw [HN.out]; omega))
                  rw [hat] at g0
                  have hw : ((j % 2 : Nat) : Int) = (j : Int) % 2 := by omega
                  rw [hw] at g0
                  have hr1 : 0 ≤ (255 : Int) - (j : Int) % 2 * 128 := by omega
                  have hr2 : (255 : Int) - (j : Int) % 2 * 128 ≤ 255 := by omega
                  clear hgl hat hw
                  go_wp2_with fail
                  go_round
                  case rel => exact ⟨j + 1, by omega, by go_num⟩
                  case measure => simp [intOf]; omega
                · go_wp2_with fail
                  go_ret
                  exact ⟨ret_bool (by have := HW.out; simp; omega), HK.out.below (Nat.le_refl _) (fun _ h => h.elim)⟩
              · have hj1' : ¬ (j : Int) < 2 * ((N : Int) / 15) := by omega
                go_wp2_with fail
                go_ret
                exact ⟨ret_bool (by have := HW.out; simp; omega), HK.out.below (Nat.le_refl _) (fun _ h => h.elim)⟩
          · have HW := hid (show n3 = 2 * (N / 15) by have := HLEN.out; unfold wantM at this; rw [if_neg hc1, if_neg hc2] at this; exact this)
            by_cases hc3 : 0 < N % 15
            · have hc2' : (0 : Int) < (N : Int) % 15 := by omega
              have hc3' : ¬ (N : Int) % 15 < 8 := by omega
              go_wp2_with fail
              go_loop [9] (fun v => ∃ j : Nat, j ≤ 400 ∧ v = .int .i64 j) (fun v => 400 - (intOf v).toNat)
              case atStart => exact ⟨0, by omega, rfl⟩
              case round =>
                obtain ⟨j, hj, rfl⟩ := hrel
                by_cases hj1 : j < 2 * (N / 15)
                · have hj1' : (j : Int) < 2 * ((N : Int) / 15) := by omega
                  by_cases hj2 : j < n3
                  · obtain ⟨g, rfl, hgc, hgb, hgl, _⟩ := own_at HO.out (by omega)
                    have hat := HAT.out j hj1 (by rw [HN.out]; exact hj2)
                    have g0 : w3.cell? ⟨g, j, none⟩ = some (.int .u8 (b.getD j 0)) := hgl j _ (map_at _ _ j (by rw [HN.out]; omega))
                    rw [hat] at g0
                    have hw : ((j % 2 : Nat) : Int) = (j : Int) % 2 := by omega
                    rw [hw] at g0
                    have hr1 : 0 ≤ (255 : Int) - (j : Int) % 2 * 128 := by omega
                    have hr2 : (255 : Int) - (j : Int) % 2 * 128 ≤ 255 := by omega
                    clear hgl hat hw
                    go_wp2_with fail
                    go_round
                    case rel => exact ⟨j + 1, by omega, by go_num⟩
                    case measure => simp [intOf]; omega
                  · go_wp2_with fail
                    go_ret
                    exact ⟨ret_bool (by have := HW.out; simp; omega), HK.out.below (Nat.le_refl _) (fun _ h => h.elim)⟩
                · have hj1' : ¬ (j : Int) < 2 * ((N : Int) / 15) := by omega
                  go_wp2_with fail
                  go_ret
                  exact ⟨ret_bool (by have := HW.out; simp; omega), HK.out.below (Nat.le_refl _) (fun _ h => h.elim)⟩
            · have hc2' : ¬ (0 : Int) < (N : Int) % 15 := by omega
              go_wp2_with fail
              go_loop [9] (fun v => ∃ j : Nat, j ≤ 400 ∧ v = .int .i64 j) (fun v => 400 - (intOf v).toNat)
              case atStart => exact ⟨0, by omega, rfl⟩
              case round =>
                obtain ⟨j, hj, rfl⟩ := hrel
                by_cases hj1 : j < 2 * (N / 15)
                · have hj1' : (j : Int) < 2 * ((N : Int) / 15) := by omega
                  by_cases hj2 : j < n3
                  · obtain ⟨g, rfl, hgc, hgb, hgl, _⟩ := own_at HO.out (by omega)
                    have hat := HAT.out j hj1 (by rw [HN.out]; exact hj2)
                    have g0 : w3.cell? ⟨g, j, none⟩ = some (.int .u8 (b.getD j 0)) := hgl j _ (map_at _ _ j (by rw [HN.out]; omega))
                    rw [hat] at g0
                    have hw : ((j % 2 : Nat) : Int) = (j : Int) % 2 := by omega
                    rw [hw] at g0
                    have hr1 : 0 ≤ (255 : Int) - (j : Int) % 2 * 128 := by omega
                    have hr2 : (255 : Int) - (j : Int) % 2 * 128 ≤ 255 := by omega
                    clear hgl hat hw
                    go_wp2_with fail
                    go_round
                    case rel => exact ⟨j + 1, by omega, by go_num⟩
                    case measure => simp [intOf]; omega
                  · go_wp2_with fail
                    go_ret
                    exact ⟨ret_bool (by have := HW.out; simp; omega), HK.out.below (Nat.le_refl _) (fun _ h => h.elim)⟩
                · have hj1' : ¬ (j : Int) < 2 * ((N : Int) / 15) := by omega
                  go_wp2_with fail
                  go_ret
                  exact ⟨ret_bool (by have := HW.out; simp; omega), HK.out.below (Nat.le_refl _) (fun _ h => h.elim)⟩
end Go.Proofs.Ytpjfmockkjnigaa
