/-
  BitsOnes: the walk. Conditions: none.
-/
import Derived.Test.YtnhciiljdmgcjaaLawStuffed
import Derived.WalkLawsBesides
namespace Go.Proofs.Ytnhciiljdmgcjaa
open Go.RowKit

/-- What the statement's loop asks of the bytes b. -/
def onesOk (b : List Int) : Nat → Nat → Nat → Nat → Bool
  | 0, _, _, _ => false
  | f + 1, left, room, i =>
    if left = 0 then (if 0 < i ∧ b.getD (i - 1) 0 = 255 then decide (b.length = i + 1 ∧ b.getD i 0 = 0) else decide (b.length = i))
    else decide (i < b.length) && decide (b.getD i 0 = (2 ^ (min left room) - 1) * 2 ^ (room - min left room)) && onesOk b f (left - min left room) (if b.getD i 0 = 255 then 7 else 8) (i + 1)
def onesM (n : Nat) : List Int × Int := runM ([], 0) (List.replicate n 1)
theorem ones_all : ∀ n : Nat, n < 200 → onesOk (outB (onesM n).1) 40 n 8 0 = true := by decide +kernel
theorem onesM_succ (n : Nat) : onesM (n + 1) = stepM (onesM n) 1 := by unfold onesM; rw [List.replicate_succ', runM_append]; rfl
theorem onesM_inv (n : Nat) : BInv (onesM n).1 (onesM n).2 := runM_inv _ ([], 0) BInv.nil
theorem onesM_length (n : Nat) : (onesM n).1.length ≤ n := by
  have := runM_length (List.replicate n 1) ([], 0)
  simp at this
  unfold onesM
  omega

theorem ones_cmp (left room : Nat) (z : Int) (hroom : room = 7 ∨ room = 8) (h : z = (2 ^ min left room - 1) * 2 ^ (room - min left room)) (hz : 0 ≤ z ∧ z ≤ 255) :
    (wrap64 z != wrap64 (wrap64 (wrap64 (2 ^ (if room < left then (room : Int) else (left : Int)).toNat) - 1) * 2 ^ ((room : Int) - if room < left then (room : Int) else (left : Int)).toNat)) = false := by
  have e : (if room < left then (room : Int) else (left : Int)) = ((min left room : Nat) : Int) := by split <;> omega
  rw [e]
  have e1 : ((min left room : Nat) : Int).toNat = min left room := by omega
  have e2 : ((room : Int) - ((min left room : Nat) : Int)).toNat = room - min left room := by omega
  rw [e1, e2]
  have hk : min left room ≤ 8 := by omega
  have hp : ∀ t : Nat, t ≤ 8 → (1 : Int) ≤ 2 ^ t ∧ (2 : Int) ^ t ≤ 256 := by decide
  have := hp _ hk
  rw [IntWalk.wrap64_in (2 ^ min left room) (by omega), IntWalk.wrap64_in (2 ^ min left room - 1) (by omega), ← h]
  simp

theorem bool_no (b : Bool) (h : b = true) (h' : b = false) : False := by rw [h] at h'; cases h'
set_option maxRecDepth 100000 in
set_option maxHeartbeats 4000000 in
theorem bitsOnes_walk (x : Int) (w : World) (_h : (Lit.int .i64 x).wf = true) :
    Calls Try.prog 5 #[.int .i64 x] w fun e w' => e = .returned (.bool true) ∧ Below w.heap.size w w' := by
  go_enter Try.func5, Try.ntmps5
  go_wp2_with fail
  refine (known_any w).mono ?_
  rintro e w1 ⟨rfl, hk1⟩
  go_wp2_with fail
  refine (within_any x 200 w1 (by omega) (by omega)).mono ?_
  rintro e w1' ⟨rfl, rfl⟩
  have q1 : 0 ≤ x % 200 := by omega
  have q2 : x % 200 < 200 := by omega
  obtain ⟨n, hn⟩ := Int.eq_ofNat_of_zero_le q1
  rw [hn] at q2 ⊢
  clear q1 hn
  go_wp2_with fail
  refine (neww_any w1).mono ?_
  rintro e w2 ⟨W, rfl, hW, hw2, hk2⟩
  have hT : OneS w W (onesM 0).1 (onesM 0).2 w2 := by
    have hs1 := hk1.size
    exact ⟨none, 0, 0, ⟨hw2.blk, own_mono hw2.own hs1⟩, by omega, hk1.trans hk2 (fun _ _ h => h), BInv.nil⟩
  have HT := hid hT
  clear hT hw2 hk1 hk2 hW
  go_wp2_with fail
  go_loopw [4] (fun v wr => ∃ i : Nat, i ≤ n ∧ v = .int .i64 i ∧ Hid (OneS w W (onesM i).1 (onesM i).2 wr)) (fun v _ => n - (intOf v).toNat)
  case atStart => exact ⟨0, by omega, rfl, HT⟩
  case round =>
    obtain ⟨i, hi, rfl, HTS⟩ := hrel
    clear HT
    obtain ⟨A1, n1, c1, ht⟩ := HTS.out
    have HT := hid ht
    have hl := onesM_length i
    by_cases hlt : i < n
    · clear ht HTS
      go_wp2_with fail
      refine (bit_any wr w.heap.size W A1 n1 c1 _ _ 1 HT.out.wr HT.out.inv HT.out.keep.size (by have := HT.out.wr.len; omega)).mono ?_
      rintro e w4 ⟨A2, n2, c2, rfl, h4, hg4, hk4⟩
      have HO := hid (HT.out.next h4 hk4 (HT.out.inv.step 1))
      clear h4 hk4 hg4
      go_wp2_with fail
      go_roundw
      case rel => exact ⟨i + 1, by omega, by go_num, hid ⟨A2, n2, c2, by rw [onesM_succ]; exact HO.out⟩⟩
      case measure => simp [intOf]; omega
    · have hin : i = n := by omega
      subst hin
      clear ht HTS
      go_wp2_with fail
      refine (bytes_any wr w.heap.size W A1 n1 c1 _ _ HT.out.wr (by have := HT.out.wr.len; omega)).mono ?_
      rintro e w3 ⟨A3, n3, c3, rfl, hown3, hk3⟩
      have hok := ones_all i (by omega)
      have hb3 := outB_bytes HT.out.inv.bytes
      have HK := hid (HT.out.keep.trans hk3 (fun _ _ h => h))
      have HO := hid hown3
      have hn3 : (outB (onesM i).1).length = n3 := by have := hown3.1; simpa using this
      have hl3 : n3 ≤ 300 := by have := outB_le (onesM i).1; omega
      have HOK := hid hok
      have HBB := hid hb3
      have HN := hid hn3
      clear hok hown3 hk3 hb3 HT hn3
      generalize outB (onesM i).1 = b at *
      go_wp2_with fail
      go_loop [6, 7, 8, 9, 10] (fun u v x _ _ => ∃ f left room j : Nat, left ≤ 200 ∧ (room = 7 ∨ room = 8) ∧ j ≤ 400 ∧ Hid (onesOk b f left room j = true) ∧ u = .int .i64 left ∧ v = .int .i64 room ∧ x = .int .i64 j ∧ f ≤ 40 ∧ Hid (j + f ≤ 40)) (fun u _ _ _ _ => (intOf u).toNat)
      case atStart => exact ⟨40, i, 8, 0, by omega, by omega, by omega, HOK, rfl, rfl, rfl, by omega, hid (by omega)⟩
      case round =>
        obtain ⟨f, left, room, j, hl2, hroom, hj, HF, rfl, rfl, rfl, hf, HJ⟩ := hrel
        have hF := HF.out
        clear HOK
        cases f with
        | zero => exact absurd hF (by simp [onesOk])
        | succ f =>
          unfold onesOk at hF
          by_cases h0 : left = 0
          · rw [if_pos h0] at hF
            subst h0
            by_cases hj0 : 0 < j ∧ b.getD (j - 1) 0 = 255
            · rw [if_pos hj0] at hF
              simp only [decide_eq_true_eq] at hF
              obtain ⟨m, rfl⟩ : ∃ m, j = m + 1 := ⟨j - 1, by omega⟩
              obtain ⟨hl9, hb9⟩ := hF
              rw [HN.out] at hl9
              obtain ⟨g, rfl, hgc, hgb, hgl, _⟩ := own_at HO.out (by omega)
              have g0 : w3.cell? ⟨g, m, none⟩ = some (.int .u8 255) := by
                have := hgl m _ (map_at _ _ m (by rw [HN.out]; omega))
                rw [show b.getD m 0 = 255 from hj0.2] at this
                exact this
              have g1 : w3.cell? ⟨g, m + 1, none⟩ = some (.int .u8 0) := by
                have := hgl (m + 1) _ (map_at _ _ (m + 1) (by rw [HN.out]; omega))
                rw [hb9] at this
                exact this
              have wm : IntKind.i64.wrap (((m + 1 : Nat) : Int) - 1) = (m : Int) := by rw [IntWalk.i64_in _ (by omega)]; omega
              clear hgl hb9 hj0
              subst hl9
              go_wp2_with fail
              go_ret
              exact ⟨rfl, HK.out.below (Nat.le_refl _) (fun _ h => h.elim)⟩
            · rw [if_neg hj0] at hF
              simp only [decide_eq_true_eq] at hF
              rw [HN.out] at hF
              subst hF
              cases n3 with
              | zero =>
                go_wp2_with fail
                go_ret
                exact ⟨rfl, HK.out.below (Nat.le_refl _) (fun _ h => h.elim)⟩
              | succ m =>
                have hz : ¬ b.getD m 0 = 255 := fun hz => hj0 ⟨by omega, hz⟩
                obtain ⟨g, rfl, hgc, hgb, hgl, _⟩ := own_at HO.out (by omega)
                have g0 : w3.cell? ⟨g, m, none⟩ = some (.int .u8 (b.getD m 0)) := hgl m _ (map_at _ _ m (by rw [HN.out]; omega))
                have hz' : (b.getD m 0 == 255) = false := by simpa using hz
                have wm : IntKind.i64.wrap (((m + 1 : Nat) : Int) - 1) = (m : Int) := by rw [IntWalk.i64_in _ (by omega)]; omega
                clear hgl hj0 hz
                generalize b.getD m 0 = z at *
                go_wp2_with fail
                go_ret
                exact ⟨rfl, HK.out.below (Nat.le_refl _) (fun _ h => h.elim)⟩
          · rw [if_neg h0] at hF
            simp only [Bool.and_eq_true, decide_eq_true_eq] at hF
            obtain ⟨⟨hjl, hbj⟩, hrest⟩ := hF
            rw [HN.out] at hjl
            obtain ⟨g, rfl, hgc, hgb, hgl, _⟩ := own_at HO.out (by omega)
            have g0 : w3.cell? ⟨g, j, none⟩ = some (.int .u8 (b.getD j 0)) := hgl j _ (map_at _ _ j (by rw [HN.out]; omega))
            have hzb : 0 ≤ b.getD j 0 ∧ b.getD j 0 ≤ 255 := HBB.out _ (by
              have hjb : j < b.length := by rw [HN.out]; exact hjl
              rw [List.getD_eq_getElem?_getD, List.getElem?_eq_getElem hjb]
              exact List.getElem_mem hjb)
            have hcmp := ones_cmp left room _ hroom hbj hzb
            have HR := hid hrest
            have hJ := HJ.out
            clear hgl hrest hbj
            generalize b.getD j 0 = z at *
            rw [IntWalk.wrap64_in z (by omega)] at hcmp
            have hsub : (left : Int) - (if room < left then (room : Int) else (left : Int)) = ((left - min left room : Nat) : Int) := by split <;> omega
            have HSUB := hid hsub
            clear hsub
            have hlt3 : left - min left room < left := by omega
            by_cases hz : z = 255
            · have hR := HR.out
              rw [if_pos hz] at hR
              have HR2 := hid hR
              subst hz
              clear hR
              go_wp2_with fail
              go_round
              case rel => exact ⟨f, left - min left room, 7, j + 1, by omega, by omega, by omega, HR2, congrArg (Value.int .i64) HSUB.out, rfl, by go_num, by omega, hid (by omega)⟩
              case measure =>
                simp only [intOf]
                rw [HSUB.out, Int.toNat_natCast, Int.toNat_natCast]
                exact hlt3
            · have hR := HR.out
              rw [if_neg hz] at hR
              have HR2 := hid hR
              have hz' : (z == 255) = false := by simpa using hz
              have HCMP := hid hcmp
              clear hR hcmp
              go_wp2_with fail
              all_goals first
                | exact (bool_no _ (by assumption) HCMP.out).elim
                | (go_round
                   case rel => exact ⟨f, left - min left room, 8, j + 1, by omega, by omega, by omega, HR2, by first | exact congrArg (Value.int .i64) HSUB.out | (congr 1; omega), rfl, by go_num, by omega, hid (by omega)⟩
                   case measure =>
                     simp only [intOf]
                     omega)
end Go.Proofs.Ytnhciiljdmgcjaa
