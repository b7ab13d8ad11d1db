/-
  MqShort, MqUniform: the walks. Conditions: none.
-/
import Derived.Test.YtcieeoobobafmaaMqShort
import Derived.Test.YtcieeoobobafmaaMqUni
namespace Go.Proofs.Ytcieeoobobafmaa
open Go.RowKit

set_option maxRecDepth 20000 in
set_option maxHeartbeats 4000000 in
theorem mqShort_walk (x y : Int) (w : World) (hx : (Lit.int .i64 x).wf = true) (hy : (Lit.int .i64 y).wf = true) :
    Calls Try.prog 6 #[.int .i64 x, .int .i64 y] w fun e w' => e = .returned (.bool true) ∧ Below w.heap.size w w' := by
  obtain ⟨hx0, hx1⟩ := wf_i64 hx
  obtain ⟨hy0, hy1⟩ := wf_i64 hy
  clear hx hy
  go_enter Try.func6, Try.ntmps6
  go_wp2_with fail
  refine (known_any w).mono ?_
  rintro e w1 ⟨rfl, hk1⟩
  have HK1 := hid hk1
  clear hk1
  go_wp2_with fail
  refine (within_any w1 x 1001 hx0 hx1 (by decide) (by decide)).mono ?_
  rintro e w2 ⟨rfl, rfl⟩
  go_wp2_with fail
  refine (within_any w1 y 18 hy0 hy1 (by decide) (by decide)).mono ?_
  rintro e w2 ⟨rfl, rfl⟩
  obtain ⟨N, hN, hN1⟩ : ∃ N : Nat, x % 1001 = N ∧ N ≤ 1000 := ⟨(x % 1001).toNat, by omega, by omega⟩
  obtain ⟨k, hk, hk1⟩ : ∃ k : Nat, y % 18 = k ∧ k < 18 := ⟨(y % 18).toNat, by omega, by omega⟩
  rw [hN, hk]
  clear hN hk hx0 hx1 hy0 hy1
  go_wp2_with fail
  refine (fresh_any w1).mono ?_
  rintro e w3 ⟨rfl, hkf⟩
  have HF1 := hid hkf
  clear hkf
  go_wp2_with (refine wpList_store_new rfl 30 _ _ rfl rfl (cxCells begL) rfl rfl ctx_info rfl (cx_one _) ?_; intro w4 hbf hkf)
  have HC := hid hbf
  have HF2 := hid (HF1.out.trans hkf (fun _ _ h => h))
  clear hbf hkf
  have HF1 := hid (HK1.out.trans HF1.out (fun _ _ h => h))
  have HKW := hid (HK1.out.trans HF2.out (fun _ _ h => h))
  go_wp2_with fail
  refine (newe_any w4).mono ?_
  rintro e w5 ⟨E, A3, n3, c3, rfl, hEb, hen, hk5⟩
  have HR0 := hid (RunW.new HC.out hen hEb hk5)
  have hK0 : w.heap.size ≤ w3.heap.size := HF1.out.size
  have hK4 : w3.heap.size < w4.heap.size := HC.out.lt
  clear hen hk5 HF1 HC
  generalize w3.heap.size = X at *
  go_wp2_with fail
  go_loopw [7] (fun v wr => ∃ i : Nat, i ≤ N ∧ v = .int .i64 i ∧ Hid (RunW w4 E X (runZ k i) wr)) (fun v _ => N - (intOf v).toNat)
  case atStart => exact ⟨0, by omega, rfl, HR0⟩
  case round =>
    obtain ⟨i, hi, rfl, HR⟩ := hrel
    clear HR0
    by_cases him : i < N
    · obtain ⟨hrn, hlen⟩ := runZ_ok (k := k) (by omega) i
      have HRN := hid hrn
      clear hrn
      go_wp2_with fail
      refine (HR.out.enc HRN.out (by omega) k (by omega) 0).mono ?_
      rintro e w6 ⟨rfl, hr6⟩
      have HR6 := hid (show RunW w4 E X (runZ k (i + 1)) w6 from hr6)
      clear hr6
      go_wp2_with fail
      exact ⟨⟨i + 1, by omega, by go_num, HR6⟩, by simp [intOf]; omega⟩
    · obtain rfl : N = i := by omega
      obtain ⟨hrn, hlen⟩ := runZ_ok (k := k) (by omega) N
      have hsh := runZ_short hk1 hN1
      have hM := (runZ_eq hk1 N).2.2
      go_wp2_with fail
      refine (HR.out.flush hrn (by omega)).mono ?_
      rintro e w6 ⟨A6, n6, c6, rfl, hO, hC6, hk6⟩
      have HW := hid (HKW.out.trans hk6 (fun j hj h => by omega))
      have HB : Hid (Below w.heap.size w w6) := hid (HW.out.below (Nat.le_refl _) (fun _ h => h.elim))
      have hn6 : (flushM (flushE (runZ k N).1)).length = n6 := by have := hO.1; simpa using this
      rw [hn6] at hsh
      have z6 : w6.cell? ⟨X, k * 2 + 1, none⟩ = some (.int .i64 (cxAt (runZ k N).2 k).2) := (Blk.cell hC6 (k * 2 + 1)).trans (cx_M (by rw [hrn.cx.len]; omega))
      rw [hM] at z6
      clear hO hk6 hrn hlen hn6 hC6 hM HW HR
      go_wp2_with fail
      go_ret
      exact ⟨rfl, HB.out⟩
set_option maxRecDepth 20000 in
set_option maxHeartbeats 4000000 in
theorem mqUniform_walk (A : Option Addr) (n c : Nat) (zs : List Int) (w : World) (h : Arg .i64 8 w A n c zs) :
    Calls Try.prog 7 #[.slice A n c] w fun e w' => e = .returned (.bool true) ∧ Below w.heap.size w w' := by
  go_enter Try.func7, Try.ntmps7
  go_wp2_with fail
  refine (known_any w).mono ?_
  rintro e w1 ⟨rfl, hk1⟩
  have HK1 := hid hk1
  clear hk1
  go_wp2_with fail
  refine (fresh_any w1).mono ?_
  rintro e w3 ⟨rfl, hkf⟩
  have HF1 := hid hkf
  clear hkf
  go_wp2_with (refine wpList_store_new rfl 30 _ _ rfl rfl (cxCells begL) rfl rfl ctx_info rfl (cx_one _) ?_; intro w4 hbf hkf)
  have HC := hid hbf
  have HF2 := hid (HF1.out.trans hkf (fun _ _ h => h))
  clear hbf hkf
  have HF1 := hid (HK1.out.trans HF1.out (fun _ _ h => h))
  have HKW := hid (HK1.out.trans HF2.out (fun _ _ h => h))
  go_wp2_with fail
  refine (newe_any w4).mono ?_
  rintro e w5 ⟨E, A3, n3, c3, rfl, hEb, hen, hk5⟩
  have HR0 := hid (RunW.new HC.out hen hEb hk5)
  have hK0 : w.heap.size ≤ w3.heap.size := HF1.out.size
  have hK4 : w3.heap.size < w4.heap.size := HC.out.lt
  clear hen hk5 HF1 HC
  generalize w3.heap.size = X at *
  have HA := hid h.rd
  clear h
  obtain ⟨m, hm, hm2⟩ : ∃ m : Nat, min n 400 = m ∧ m ≤ 400 := ⟨_, rfl, Nat.min_le_right _ _⟩
  have hmi : (if (400 : Int) < n then (400 : Int) else n) = (m : Int) := by split <;> omega
  go_wp2_with fail
  have hmn : m ≤ n := by omega
  go_loopw [6] (fun v wr => ∃ i : Nat, i ≤ m ∧ v = .int .i64 i ∧ Hid (RunW w4 E X (runU zs i) wr)) (fun v _ => m - (intOf v).toNat)
  case atStart => exact ⟨0, by omega, rfl, HR0⟩
  case round =>
    obtain ⟨i, hi, rfl, HR⟩ := hrel
    clear HR0 hmi
    by_cases him : i < m
    · obtain ⟨hrn, hlen, _, _⟩ := runU_ok zs i
      have HRN := hid hrn
      obtain ⟨b1, o1, rfl, hy1⟩ := HA.out.int_ix (show i < n by omega)
      have hb1 := HA.out.lt (by omega) _ rfl
      have z1 := HR.out.keep.cell (HKW.out.cell hy1 (fun h => h)) (fun h : b1 = X => by simp only at hb1; omega)
      have HS := hid (show runU zs (i + 1) = encR (runU zs i) 18 (zs.getD i 0) from rfl)
      have hin : i < n := by omega
      clear hrn hy1
      generalize zs.getD i 0 = bit at *
      go_wp2_with fail
      refine (HR.out.enc HRN.out (by omega) 18 (by decide) bit).mono ?_
      rintro e w6 ⟨rfl, hr6⟩
      have HR6 := hid (show RunW w4 E X (runU zs (i + 1)) w6 by rw [HS.out]; exact hr6)
      clear hr6
      go_wp2_with fail
      exact ⟨⟨i + 1, by omega, by go_num, HR6⟩, by simp [intOf]; omega⟩
    · obtain rfl : m = i := by omega
      obtain ⟨hrn, hlen, hM, _⟩ := runU_ok zs m
      have hsh := runU_short zs m
      go_wp2_with fail
      refine (HR.out.flush hrn (by omega)).mono ?_
      rintro e w6 ⟨A6, n6, c6, rfl, hO, hC6, hk6⟩
      have HW := hid (HKW.out.trans hk6 (fun j hj h => by omega))
      have HB : Hid (Below w.heap.size w w6) := hid (HW.out.below (Nat.le_refl _) (fun _ h => h.elim))
      have hn6 : (flushM (flushE (runU zs m).1)).length = n6 := by have := hO.1; simpa using this
      rw [hn6] at hsh
      have z6 : w6.cell? ⟨X, 36, none⟩ = some (.int .i64 (cxAt (runU zs m).2 18).1) := (Blk.cell hC6 (18 * 2)).trans (cx_I (by rw [hrn.cx.len]; omega))
      rw [hM] at z6
      have hq : (m : Int).tdiv 3 = (m / 3 : Nat) := by rw [Int.tdiv_eq_ediv_of_nonneg (by omega)]; omega
      clear hO hk6 hrn hlen hn6 hC6 hM HW HR
      go_wp2_with fail
      go_ret
      exact ⟨rfl, HB.out⟩
end Go.Proofs.Ytcieeoobobafmaa
