/-
  RawBits: the walk. Conditions: none.
-/
import Derived.Test.YtpjfmockkjnigaaLawRawBack
namespace Go.Proofs.Ytpjfmockkjnigaa
open Go.RowKit

theorem stepM_0 (l : List Int) (x : Int) (h : lastM l ≠ 255) : stepM (l, 0) x = (l ++ [x % 2 * 128], 7) := by
  have e : topM l = 8 := if_neg h
  have e1 : stepL l 0 x = l ++ [x % 2 * 2 ^ ((topM l).toNat - 1)] := if_pos rfl
  have e2 : stepR l 0 = topM l - 1 := by unfold stepR; rw [if_pos rfl]
  show (stepL l 0 x, stepR l 0) = _
  rw [e1, e2, e]
  rfl
theorem stepM_s (l : List Int) (a x : Int) (r : Nat) : stepM (l ++ [a], ((r + 1 : Nat) : Int)) x = (l ++ [a + x % 2 * 2 ^ r], (r : Int)) := by
  have hr : ¬ (((r + 1 : Nat) : Int) = 0) := by omega
  unfold stepM stepL stepR
  simp only
  rw [if_neg hr, if_neg hr, set_last _ (by simp), lastM_snoc, List.dropLast_concat]
  have e1 : ((r + 1 : Nat) : Int).toNat - 1 = r := by omega
  have e2 : ((r + 1 : Nat) : Int) - 1 = r := by omega
  rw [e1, e2]
theorem mod_succ (x : Int) (k : Nat) : x % 2 ^ (k + 1) = x / 2 ^ k % 2 * 2 ^ k + x % 2 ^ k := by
  have hp : (0 : Int) < 2 ^ k := Int.pow_pos (by omega)
  have e : (2 : Int) ^ (k + 1) = 2 ^ k * 2 := Int.pow_succ ..
  rw [e]
  generalize (2 : Int) ^ k = P at *
  have h1 := Int.mul_ediv_add_emod x P
  have h2 : x / P = 2 * (x / P / 2) + x / P % 2 := by omega
  have h3 : 0 ≤ x % P := Int.emod_nonneg _ (by omega)
  have h4 : x % P < P := Int.emod_lt_of_pos _ hp
  have hb : 0 ≤ x / P % 2 ∧ x / P % 2 ≤ 1 := by omega
  generalize x / P % 2 = b at *
  generalize x / P / 2 = h at *
  generalize x % P = r at *
  have hx : x = P * 2 * h + (b * P + r) := by
    rw [h2, Int.mul_add, ← Int.mul_assoc, Int.mul_comm P b] at h1
    omega
  have hbp : 0 ≤ b * P ∧ b * P ≤ P := by
    have : b = 0 ∨ b = 1 := by omega
    rcases this with rfl | rfl <;> omega
  rw [hx, Int.mul_add_emod_self_left, Int.emod_eq_of_lt (by omega) (by omega)]
theorem runM_cons (s : List Int × Int) (b : Int) (bs : List Int) : runM s (b :: bs) = runM (stepM s b) bs := rfl
theorem bits_run (l : List Int) (z : Int) : ∀ (k : Nat) (a : Int), runM (l ++ [a], (k : Int)) (bitsOf z k) = (l ++ [a + z % 2 ^ k], 0)
  | 0, a => by
    have : z % 2 ^ 0 = 0 := by simp [Int.emod_one]
    rw [this, Int.add_zero]; rfl
  | k + 1, a => by
    show runM (stepM (l ++ [a], ((k + 1 : Nat) : Int)) (z / 2 ^ k % 2)) (bitsOf z k) = _
    rw [stepM_s, bits_run l z k, mod_succ]
    have e : z / 2 ^ k % 2 % 2 = z / 2 ^ k % 2 := by omega
    rw [e, Int.add_assoc]
theorem byte_run (l : List Int) (z : Int) (h : lastM l ≠ 255) (hz : 0 ≤ z ∧ z ≤ 255) : runM (l, 0) (bitsOf z 8) = (l ++ [z], 0) := by
  have e0 : ∀ k : Nat, bitsOf z (k + 1) = z / 2 ^ k % 2 :: bitsOf z k := fun _ => rfl
  rw [e0 7, runM_cons, stepM_0 l _ h]
  have h7 : ∀ a : Int, runM (l ++ [a], 7) (bitsOf z 7) = (l ++ [a + z % 2 ^ 7], 0) := fun a => bits_run l z 7 a
  rw [h7]
  have e : z / 2 ^ 7 % 2 % 2 * 128 + z % 2 ^ 7 = z := by omega
  rw [e]

/-- No byte is 255. -/
def noFull (zs : List Int) (i : Nat) : Prop := ∀ j, j < i → zs.getD j 0 ≠ 255
theorem take_last (zs : List Int) (i : Nat) (hi : i ≤ zs.length) (h : noFull zs i) : lastM (zs.take i) ≠ 255 := by
  unfold lastM
  rw [List.length_take, Nat.min_eq_left hi]
  rcases Nat.eq_zero_or_pos i with h0 | h0
  · subst h0; simp
  · rw [List.getD_eq_getElem?_getD, List.getElem?_take, if_pos (by omega), ← List.getD_eq_getElem?_getD]
    exact h _ (by omega)
theorem take_next (zs : List Int) (i : Nat) (hi : i < zs.length) : zs.take (i + 1) = zs.take i ++ [zs.getD i 0] := by
  rw [List.take_add_one, List.getElem?_eq_getElem hi]; simp [hi]
theorem flush_same (l : List Int) (h : lastM l ≠ 255) : flushM l = l := by unfold flushM; rw [if_neg h]

set_option maxRecDepth 100000 in
set_option linter.unusedSimpArgs false in
set_option maxHeartbeats 4000000 in
theorem rawBits_short (A : Option Addr) (n c : Nat) (zs : List Int) (w : World) (h : Arg .u8 1 w A n c zs) (hn : n ≤ 100) :
    Calls Try.prog 8 #[.slice A n c] w fun e w' => e = .returned (.bool true) ∧ Below w.heap.size w w' := by
  have HB := hid h.bytes
  have HL := hid h.len
  have H := hid h
  clear h
  go_enter Try.func8, Try.ntmps8
  go_wp2_with fail
  refine (known_any w).mono ?_
  rintro e w1 ⟨rfl, hk1⟩
  go_wp2_with fail
  refine (neww_any w1).mono ?_
  rintro e w2 ⟨W, rfl, hW, hw2, hk2⟩
  have hT : OneS w W (zs.take 0, 0) w2 := by
    have hs1 := hk1.size
    exact ⟨none, 0, 0, ⟨hw2.blk, own_mono hw2.own hs1⟩, by omega, hk1.trans hk2 (fun _ _ h => h)⟩
  have HT0 := hid hT
  clear hT hw2 hk1 hk2 hW
  go_wp2_with fail
  go_loopw [4] (fun v wr => ∃ i : Nat, i ≤ n ∧ v = .int .i64 i ∧ Hid (OneS w W (zs.take i, 0) wr) ∧ Hid (noFull zs i) ∧ Hid (BInv (zs.take i) 0)) (fun v _ => n - (intOf v).toNat)
  case atStart => exact ⟨0, by omega, rfl, HT0, hid (fun j hj => by omega), hid BInv.nil⟩
  case round =>
    obtain ⟨i, hi, rfl, HTS, HF, HI⟩ := hrel
    clear HT0
    by_cases hlt : i < n
    · obtain ⟨b1, o1, rfl, hw0⟩ := H.out.rd.int_ix hlt
      have hkp : Keep (fun _ => False) w wr := by
        obtain ⟨_, _, _, h⟩ := HTS.out
        exact h.keep
      have hc1 := hkp.cell hw0 (fun h => h)
      have hbl : b1 < w.heap.size := H.out.rd.lt (by omega) _ rfl
      have hzb : 0 ≤ zs.getD i 0 ∧ zs.getD i 0 ≤ 255 := HB.out _ (by
        have hj : i < zs.length := by rw [HL.out]; exact hlt
        rw [List.getD_eq_getElem?_getD, List.getElem?_eq_getElem hj]
        exact List.getElem_mem hj)
      by_cases hz : zs.getD i 0 = 255
      · rw [hz] at hc1
        have HK := hid hkp
        clear HTS hkp hw0
        go_wp2_with fail
        go_ret
        exact ⟨rfl, HK.out.below (Nat.le_refl _) (fun _ h => h.elim)⟩
      · have hz' : (zs.getD i 0 == 255) = false := by simpa using hz
        have HF2 := hid (show noFull zs (i + 1) from fun j hj => by
          by_cases he : j = i
          · rw [he]; exact hz
          · exact HF.out j (by omega))
        have HR := hid (show runM (zs.take i, 0) (bitsOf (zs.getD i 0) 8) = (zs.take (i + 1), 0) by
          rw [byte_run _ _ (take_last zs i (by rw [HL.out]; omega) HF.out) hzb, take_next zs i (by rw [HL.out]; exact hlt)])
        have HW0 := hid hw0
        clear hz hkp hw0
        generalize zs.getD i 0 = z at *
        have hlen : (zs.take i).length ≤ i := List.length_take_le _ _
        have HLEN := hid hlen
        clear hlen
        have HTS0 := HTS
        go_wp2_with fail
        go_loopw [5] (fun v wr => ∃ (k : Nat) (s : List Int × Int), k ≤ 8 ∧ v = .int .i64 ((k : Int) - 1) ∧ Hid (OneS w W s wr) ∧ Hid (BInv s.1 s.2) ∧ Hid (runM s (bitsOf z k) = (zs.take (i + 1), 0)) ∧ Hid (s.1.length + k ≤ i + 8)) (fun v _ => (intOf v + 1).toNat)
        case atStart => exact ⟨8, (zs.take i, 0), by omega, rfl, HTS0, HI, HR, hid (by have := HLEN.out; simp only; omega)⟩
        case round =>
          clear HTS0 HI HR hc1
          obtain ⟨k, s, hk, rfl, HTK, HIK, HRK, HLK⟩ := hrel
          obtain ⟨A1, n1, c1, ht⟩ := HTK.out
          have HT := hid ht
          have hlk := HLK.out
          cases k with
          | zero =>
            have hs : s = (zs.take (i + 1), 0) := HRK.out
            have HS := hid hs
            clear ht hs
            go_wp2_with fail
            go_roundw
            case rel => exact ⟨i + 1, by omega, by go_num, hid ⟨A1, n1, c1, by rw [← HS.out]; exact HT.out⟩, HF2, hid (by have := HIK.out; rw [HS.out] at this; exact this)⟩
            case measure => simp [intOf]; omega
          | succ k =>
            have hc1 := HT.out.keep.cell HW0.out (fun h => h)
            clear ht
            have HS := hid HRK.out
            go_wp2_with fail
            refine (bit_any wr w.heap.size W A1 n1 c1 s.1 s.2 (z / 2 ^ k) HT.out.wr HIK.out HT.out.keep.size (by have := HT.out.wr.len; omega)).mono ?_
            rintro e w4 ⟨rfl, A2, ⟨n2, c2, h4⟩, hg4, hk4⟩
            have HO := hid (HT.out.next h4 hk4)
            have HI2 := hid (HIK.out.step (z / 2 ^ k))
            have HR2 := hid (show runM (stepL s.1 s.2 (z / 2 ^ k), stepR s.1 s.2) (bitsOf z k) = (zs.take (i + 1), 0) by
              have := HS.out
              rw [← this]
              show _ = runM (stepM s (z / 2 ^ k % 2)) (bitsOf z k)
              unfold stepM
              rw [stepL_mod])
            have HL2 := hid (show (stepL s.1 s.2 (z / 2 ^ k)).length + k ≤ i + 8 by have := stepL_length s.1 s.2 (z / 2 ^ k); omega)
            clear h4 hk4 hg4
            go_wp2_with fail
            go_roundw
            case rel => exact ⟨k, (stepL s.1 s.2 (z / 2 ^ k), stepR s.1 s.2), by omega, by go_num, hid ⟨_, _, _, HO.out⟩, HI2, HR2, HL2⟩
            case measure => simp [intOf]
    · obtain rfl : n = i := by omega
      have htk : zs.take n = zs := List.take_of_length_le (by rw [HL.out]; omega)
      rw [htk] at HTS HI
      have hlast := take_last zs n (by rw [HL.out]; omega) HF.out
      rw [htk] at hlast
      have HFS := hid (flush_same zs hlast)
      clear hlast htk
      obtain ⟨A1, n1, c1, ht⟩ := HTS.out
      have HT := hid ht
      have hn1 : n1 ≤ 200 := by have := ht.wr.len; simp only at this; rw [HL.out] at this; omega
      clear ht HTS
      go_wp2_with fail
      have cv : ∀ (w : World) (A : Option Addr) (n c : Nat) (zs : List Int), Rd w A n (zs.map (Value.int .u8)) → (convert 30 9 (.slice A n c)).run Try.prog w = .ok (.string (strOfNums zs)) w := fun w A n c zs h => run_string_rd _ _ _ Try.underlying30 Try.underlying5 Try.underlying9 h c
      have CV := hid cv
      have HRD := hid (H.out.rd.keep HT.out.keep (fun _ _ h => h))
      clear cv
      -- region 15: 14 operations
      refine At.start (L := #[false, false, false, false, false, false, false, false, false, false, false, false, false, false]) (by kernel_rfl) rfl ?_
      refine At.pure 0 (some 37) (v := ?v0) rfl rfl (by kernel_rfl) (fun _ _ _ h => h) rfl (fun w' => ?y0) ?_   
      case y0 => go_simp; try with_reducible rfl
      try simp only [Act.put, List.setIfInBounds_toArray, List.set_cons_zero, List.set_cons_succ]
      refine At.pure 2 (some 39) (v := ?v2) rfl rfl (by kernel_rfl) (fun _ _ _ h => h) rfl (fun w' => ?y2) ?_   
      case y2 => go_simp; try with_reducible rfl
      try simp only [Act.put, List.setIfInBounds_toArray, List.set_cons_zero, List.set_cons_succ]
      refine At.pure 3 (some 40) (v := ?v3) rfl rfl (by kernel_rfl) (fun _ _ _ h => h) rfl (fun w' => ?y3) ?_   
      case y3 => go_simp; try with_reducible rfl
      try simp only [Act.put, List.setIfInBounds_toArray, List.set_cons_zero, List.set_cons_succ]
      refine At.call 1 (pend' := []) rfl (by kernel_rfl) rfl (by kernel_rfl) (fun K hK => ?_)   
      go_simp
      refine (out_any _ w.heap.size W A1 n1 c1 zs 0 (HT.out.wr.keep (Keep.refl (fun _ => False) wr).drew (fun h => h) (fun _ _ h => h))).mono ?_
      rintro e w5 ⟨rfl, rfl⟩
      rw [HL.out]
      refine hK _ _ all_nil ?_
      clear hK K
      try simp only [Act.put, List.setIfInBounds_toArray, List.set_cons_zero, List.set_cons_succ]
      refine At.pure 4 (some 41) (v := ?v4) rfl rfl (by kernel_rfl) (fun _ _ _ h => h) rfl (fun w' => ?y4) ?_   
      case y4 => go_simp; try with_reducible rfl
      try simp only [Act.put, List.setIfInBounds_toArray, List.set_cons_zero, List.set_cons_succ]
      refine At.pure 5 (some 42) (v := ?v5) rfl rfl (by kernel_rfl) (fun _ _ _ h => h) rfl (fun w' => ?y5) ?_   
      case y5 => go_simp; try with_reducible rfl
      try simp only [Act.put, List.setIfInBounds_toArray, List.set_cons_zero, List.set_cons_succ]
      refine At.pure 6 (some 43) (v := ?v6) rfl rfl (by kernel_rfl) (fun _ _ _ h => h) rfl (fun w' => ?y6) ?_   
      case y6 => go_simp; try with_reducible rfl
      try simp only [Act.put, List.setIfInBounds_toArray, List.set_cons_zero, List.set_cons_succ]
      refine At.pure 9 (some 46) (v := ?v9) rfl rfl (by kernel_rfl) (fun _ _ _ h => h) rfl (fun w' => ?y9) ?_   
      case y9 => go_simp; try with_reducible rfl
      try simp only [Act.put, List.setIfInBounds_toArray, List.set_cons_zero, List.set_cons_succ]
      refine At.read 10 (some 47) (fun w' => Rd w' A n (zs.map (Value.int .u8))) (v := ?v10) rfl rfl (by kernel_rfl) (fun _ _ _ h => h) rfl HRD.out (fun w' hw' => ?y10) ?_   
      case y10 => have cv := CV.out w' A n c _ hw'; go_simp; try with_reducible rfl
      try simp only [Act.put, List.setIfInBounds_toArray, List.set_cons_zero, List.set_cons_succ]
      refine At.call 7 (pend' := [(10, (fun w' => Rd w' A n (zs.map (Value.int .u8))))]) rfl (by kernel_rfl) rfl (by kernel_rfl) (fun K hK => ?_)   
      go_simp
      refine (flush_any _ w.heap.size W A1 n1 c1 zs 0 (HT.out.wr.keep (Keep.refl (fun _ => False) wr).drew (fun h => h) (fun _ _ h => h)) (by omega)).mono ?_
      rintro e w6 ⟨A6, n6, c6, rfl, hown6, hk6⟩
      rw [HFS.out] at hown6
      refine hK _ _ (all_cons (HRD.out.keep hk6.undrew (fun _ _ h => h)) all_nil) ?_
      clear hK K
      try simp only [Act.put, List.setIfInBounds_toArray, List.set_cons_zero, List.set_cons_succ]
      refine At.read 8 (some 45) (fun w' => Rd w' A6 n6 (zs.map (Value.int .u8))) (v := ?v8) rfl rfl (by kernel_rfl) (fun _ _ _ h => h) rfl (Rd.of_own hown6) (fun w' hw' => ?y8) ?_   
      case y8 => have cv := CV.out w' A6 n6 c6 _ hw'; go_simp; try with_reducible rfl
      try simp only [Act.put, List.setIfInBounds_toArray, List.set_cons_zero, List.set_cons_succ]
      refine At.pure 11 (some 48) (v := ?v11) rfl rfl (by kernel_rfl) (fun _ _ _ h => h) rfl (fun w' => ?y11) ?_   
      case y11 => go_simp; try with_reducible rfl
      try simp only [Act.put, List.setIfInBounds_toArray, List.set_cons_zero, List.set_cons_succ]
      refine At.pure 12 (some 49) (v := ?v12) rfl rfl (by kernel_rfl) (fun _ _ _ h => h) rfl (fun w' => ?y12) ?_   
      case y12 => go_simp; try with_reducible rfl
      try simp only [Act.put, List.setIfInBounds_toArray, List.set_cons_zero, List.set_cons_succ]
      refine At.pure 13 (some 2) (v := ?v13) rfl rfl (by kernel_rfl) (fun _ _ _ h => h) rfl (fun w' => ?y13) ?_   
      case y13 => go_simp; try with_reducible rfl
      try simp only [Act.put, List.setIfInBounds_toArray, List.set_cons_zero, List.set_cons_succ]
      refine At.done (by kernel_rfl) ?_
      have hk := HT.out.keep.trans hk6.undrew (fun _ _ h => h)
      go_wp2
      go_ret
      exact ⟨rfl, hk.below (Nat.le_refl _) (fun _ h => h.elim)⟩

set_option maxHeartbeats 400000 in
theorem rawBits_walk (A : Option Addr) (n c : Nat) (zs : List Int) (w : World) (h : Arg .u8 1 w A n c zs) :
    Calls Try.prog 8 #[.slice A n c] w fun e w' => e = .returned (.bool true) ∧ Below w.heap.size w w' := by
  by_cases hn : n ≤ 100
  · exact rawBits_short A n c zs w h hn
  · have hn' : ¬ (n : Int) ≤ 100 := by omega
    go_enter Try.func8, Try.ntmps8
    go_wp2_with fail
    refine (known_any w).mono ?_
    rintro e w1 ⟨rfl, hk1⟩
    go_wp2_with fail
    go_ret
    exact ⟨rfl, hk1.below (Nat.le_refl _) (fun _ h => h.elim)⟩
end Go.Proofs.Ytpjfmockkjnigaa
