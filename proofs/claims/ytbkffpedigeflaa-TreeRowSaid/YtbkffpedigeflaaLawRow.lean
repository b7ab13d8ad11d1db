/-
  TreeRow: the walk. Conditions: none.
-/
import Derived.Test.YtbkffpedigeflaaTreesR
import Derived.Test.YtbkffpedigeflaaArg
namespace Go.Proofs.Ytbkffpedigeflaa
open Go.RowKit

/-- One leaf's node, and its bits, behind bounds up to most. -/
def rowN (n most : Int) : Nd := if n < most then ⟨n, n, true⟩ else ⟨n, most, false⟩
def rowB (n most : Nat) : List Int := List.replicate (min most n) 0 ++ (if n < most then [1] else [])
theorem row_enc (n most b : Nat) : (encN (b : Int) (rowN n most)).1 = rowN n ((max most b : Nat) : Int) ∧ rowB n most ++ (encN (b : Int) (rowN n most)).2 = rowB n (max most b) := by
  unfold rowN rowB
  by_cases h : n < most
  · rw [if_pos (by omega), if_pos h, encN_done _ _ (.inl rfl), if_pos (by omega), if_pos (by omega), show min (max most b) n = min most n by omega, List.append_nil]
    exact ⟨rfl, rfl⟩
  · rw [if_neg (by omega), if_neg h]
    by_cases hb : b ≤ most
    · rw [encN_done _ _ (.inr (by simp only; omega)), if_neg (by omega), if_neg (by omega), show max most b = most by omega, List.append_nil]
      exact ⟨rfl, rfl⟩
    · unfold encN
      rw [if_neg (by simp; omega), show max most b = b by omega]
      by_cases hn : n < b
      · rw [if_pos (by simp only; omega), if_pos (by omega), if_pos hn]
        refine ⟨by rw [show max (most : Int) (n : Int) = n by omega], ?_⟩
        rw [List.append_nil, ← List.append_assoc, List.replicate_append_replicate]
        congr 2
        simp only
        omega
      · rw [if_neg (by simp only; omega), if_neg (by omega), if_neg hn]
        refine ⟨rfl, ?_⟩
        rw [List.append_nil, List.append_nil, List.replicate_append_replicate]
        congr 1
        simp only
        omega
theorem rowB_zero (n most j : Nat) (hj : j < min most n) : (rowB n most).getD j 0 = 0 := by
  unfold rowB
  rw [List.getD_eq_getElem?_getD, List.getElem?_append_left (by simpa using hj)]
  simp [List.getElem?_replicate, hj]
theorem rowB_one (n most : Nat) (h : n < most) : (rowB n most).getD n 0 = 1 := by
  unfold rowB
  rw [List.getD_eq_getElem?_getD, List.getElem?_append_right (by simp; omega), if_pos h]
  simp [show n - min most n = 0 by omega]
theorem rowB_len (n most : Nat) : (rowB n most).length = min most n + (if n < most then 1 else 0) := by
  unfold rowB
  rw [List.length_append, List.length_replicate]
  split <;> simp
theorem row_known (n most : Nat) : knownM (rowN n most) = if n < most then (n : Int) else -1 := by
  unfold rowN knownM
  by_cases h : n < most
  · rw [if_pos (by omega : (n : Int) < most), if_pos rfl, if_pos h]
  · rw [if_neg (by omega : ¬ (n : Int) < most), if_neg (by simp), if_neg h]

set_option maxHeartbeats 8000000 in
theorem treeRow_walk (x : Int) (A : Option Addr) (n c : Nat) (zs : List Int) (w : World) (hx : (Lit.int .i64 x).wf = true) (h : Arg .i64 8 w A n c zs) :
    Calls Try.prog 4 #[.int .i64 x, .slice A n c] w fun e w' => e = .returned (.bool true) ∧ Below w.heap.size w w' := by
  have HR := hid h.rd
  have HI := hid h.ints
  have hx := wf_i64 hx
  clear h
  go_enter Try.func4, Try.ntmps4
  go_wp2_with fail
  refine (known_ok w).mono ?_
  rintro e w1 ⟨rfl, hk1⟩
  have H0 := hid (TrS.start (p := fun _ => 0) (L := 1) (W := 1) (H := 1) (N := fun _ _ _ => nd0) (Q := fun _ => 0) (st := fun _ => ([], 0)) hk1)
  clear hk1
  go_wp2_with fail
  refine (within_any w1 x 20 hx.1 hx.2 (by omega) (by omega)).mono ?_
  rintro e w1' ⟨rfl, rfl⟩
  have q1 : 0 ≤ x % 20 := by omega
  have q2 : x % 20 < 20 := by omega
  obtain ⟨m, hm⟩ := Int.eq_ofNat_of_zero_le q1
  rw [hm] at q2 ⊢
  have hm20 : m < 20 := by omega
  clear q1 q2 hm hx
  go_wp2_with fail
  refine (new_any w1 1 1 (by omega) (by omega) (by omega) (by omega)).mono ?_
  rintro e w2 ⟨p, G, c0, L, B, rfl, ht, hn, hkk⟩
  obtain rfl : L = 1 := ht.lev.same lev11
  have H1 := hid (TrS.tree (m := 0) H0.out ht hn hkk (p' := fun _ => p) (N' := fun _ _ _ => nd0) (fun i hi => by omega) rfl (fun _ _ => rfl) rfl)
  clear ht hn hkk H0
  go_wp2_with fail
  refine (neww_any w2).mono ?_
  rintro e w3 ⟨Q, rfl, hQ, hw2, hkk⟩
  have H2 := hid (TrS.writer (r := 0) H1.out hw2 hQ hkk (Q' := fun _ => Q) (st' := fun _ => ([], 0)) (fun i hi => by omega) rfl (fun _ _ => rfl) rfl)
  clear hQ hw2 hkk H1
  go_wp2_with fail
  refine (TrS.set H2.out (i := 0) (by omega) 0 m (by omega)).mono ?_
  rintro e w4 ⟨rfl, h4⟩
  have HT0 := hid h4
  have HN0 : Hid (put (fun _ _ _ => nd0 : Nat → Nat → Nat → Nd) 0 (setI 1 1 0 m ((fun _ _ _ => nd0 : Nat → Nat → Nat → Nd) 0) (1 - 1)) 0 0 0 = rowN m (0 : Nat)) := hid (by
    rw [put_at]
    show updT (fun _ _ => nd0) 0 0 { nd0 with n := (m : Int) } 0 0 = _
    rw [updT_same]
    unfold rowN
    rw [if_neg (by omega)]
    rfl)
  have HS0 : Hid ((fun _ => ([], 0) : Nat → List Int × Int) 0 = runM ([], 0) (rowB m 0)) := hid (by simp [rowB, runM])
  clear h4 H2
  generalize put (fun _ _ _ => nd0 : Nat → Nat → Nat → Nd) 0 (setI 1 1 0 m ((fun _ _ _ => nd0 : Nat → Nat → Nat → Nd) 0) (1 - 1)) = N0 at *
  generalize (fun _ => ([], 0) : Nat → List Int × Int) = st0 at *
  go_wp2_with fail
  go_loopw [7, 8, 9] (fun u v y wr => ∃ (i most : Nat) (N : Nat → Nat → Nat → Nd) (st : Nat → List Int × Int), i ≤ min n 10 ∧ most ≤ 24 ∧ u = .int .i64 most ∧ v = .int .i64 i ∧ Hid (TrS w 1 1 (fun _ => p) 1 1 1 N (fun _ => Q) st wr) ∧ Hid (N 0 0 0 = rowN m most ∧ st 0 = runM ([], 0) (rowB m most))) (fun _ v _ _ => 10 - (intOf v).toNat)
  case atStart => exact ⟨0, 0, N0, st0, by omega, by omega, rfl, rfl, HT0, hid ⟨HN0.out, HS0.out⟩⟩
  case round =>
    clear HT0 HN0 HS0 N0 st0
    obtain ⟨i, most, N, st, hi, hmost, rfl, rfl, HT, HE⟩ := hrel
    by_cases hlt : i < n ∧ i < 10
    · obtain ⟨hin, hi10⟩ := hlt
      have hz := (HI.out (zs.getD i 0)) (by
        have hl : i < zs.length := by rw [HR.out.len]; exact hin
        rw [List.getD_eq_getElem?_getD, List.getElem?_eq_getElem hl]
        exact List.getElem_mem hl)
      obtain ⟨b1, o1, rfl, hc⟩ := HR.out.int_ix hin
      have d1 := HT.out.keeps.cell hc (fun h => h)
      have HZ := hid hz
      clear hz hc
      generalize zs.getD i 0 = z at *
      go_wp2_with fail
      refine (within_any _ z 25 HZ.out.1 HZ.out.2 (by omega) (by omega)).mono ?_
      rintro e w5 ⟨rfl, rfl⟩
      have q1 : 0 ≤ z % 25 := by omega
      have q2 : z % 25 < 25 := by omega
      obtain ⟨b, hb⟩ := Int.eq_ofNat_of_zero_le q1
      rw [hb] at q2 ⊢
      have hb25 : b < 25 := by omega
      clear q1 q2 hb d1
      go_wp2_with fail
      have hlen : (st 0).1.length ≤ 100 := by
        have h1 := runM_length (rowB m most) ([], 0)
        have h2 := rowB_len m most
        rw [HE.out.2]
        simp only [List.length_nil] at h1
        split at h2 <;> omega
      refine (TrS.enc HT.out (i := 0) (j := 0) (by omega) (by omega) 0 b (by omega) (by omega) (by omega)).mono ?_
      rintro e w6 ⟨rfl, h6⟩
      have HT6 := hid h6
      have HE6 : Hid (put N 0 (encI 1 1 0 b (N 0) 1).2.1 0 0 0 = rowN m ((max most b : Nat) : Int) ∧ put st 0 (runM (st 0) (encI 1 1 0 b (N 0) 1).2.2) 0 = runM ([], 0) (rowB m (max most b))) := hid (by
        rw [put_at, put_at]
        have e1 : encI 1 1 0 (b : Int) (N 0) 1 = ((encN b ⟨(N 0 0 0).n, max (N 0 0 0).low 0, (N 0 0 0).said⟩).1.low, updT (N 0) 0 0 (encN b ⟨(N 0 0 0).n, max (N 0 0 0).low 0, (N 0 0 0).said⟩).1, [] ++ (encN b ⟨(N 0 0 0).n, max (N 0 0 0).low 0, (N 0 0 0).said⟩).2) := rfl
        have e2 : (⟨(N 0 0 0).n, max (N 0 0 0).low 0, (N 0 0 0).said⟩ : Nd) = rowN m most := by
          rw [HE.out.1]
          unfold rowN
          split <;> simp <;> omega
        have hr := row_enc m most b
        rw [e1, e2, List.nil_append]
        dsimp only
        rw [updT_same, HE.out.2, ← runM_append, hr.1, hr.2]
        exact ⟨rfl, rfl⟩)
      clear h6 HT HE
      by_cases hmb : most < b
      · rw [show max most b = b by omega] at HE6
        go_wp2_with fail
        go_roundw
        case rel => exact ⟨i + 1, b, _, _, by omega, by omega, rfl, by go_num, HT6, HE6⟩
        case measure => simp [intOf]; omega
      · rw [show max most b = most by omega] at HE6
        go_wp2_with fail
        go_roundw
        case rel => exact ⟨i + 1, most, _, _, by omega, by omega, rfl, by go_num, HT6, HE6⟩
        case measure => simp [intOf]; omega
    · by_cases hin : i < n
      · have hi10 : ¬ i < 10 := by omega
        clear hlt
        by_cases hmm : m < most
        · skip
          have HB := hid HE.out.2
          have HNN := hid HE.out.1
          have HLB := hid (rowB_len m most)
          have hlen : (st 0).1.length ≤ 100 := by
            have h1 := runM_length (rowB m most) ([], 0)
            have h2 := rowB_len m most
            rw [HB.out]
            simp only [List.length_nil] at h1
            split at h2 <;> omega
          go_wp2_with fail
          refine (TrS.bytes HT.out (j := 0) (by omega) (by omega)).mono ?_
          rintro e w6 ⟨A6, n6, c6, rfl, hown, hk6⟩
          rw [HB.out] at hown
          have hn6 : n6 ≤ 101 := by
            have h1 := hown.1
            have h2 := outB_le (runM ([], 0) (rowB m most)).1
            simp only [List.length_map] at h1
            rw [← HB.out] at h1 h2
            omega
          have HT6 := hid (HT.out.aside hk6)
          clear HT HE hk6
          go_wp2_with fail
          refine (newr_any w6 A6 n6 c6 _ (Rd.of_own hown) (by omega)).mono ?_
          rintro e w7 ⟨R, A7, c7, rfl, hR7, hr7, hk7⟩
          have HT7 := hid (HT6.out.aside hk7)
          have HR7 := hid (show RrS w7 w6.heap.size R A7 n6 c7 (outB (runM ([], 0) (rowB m most)).1) (stR (rowB m most) 0) from hr7)
          have hRb : w.heap.size ≤ R := Nat.le_trans HT6.out.keeps.size hR7
          have HBY := hid (outB_bytes (runM_bytes (rowB m most)))
          clear hown hR7 hr7 hk7 HT6
          go_wp2_with fail
          go_loopw [11] (fun v wr => ∃ j : Nat, j ≤ m ∧ v = .int .i64 j ∧ Hid (TrS w 1 1 (fun _ => p) 1 1 1 N (fun _ => Q) st wr) ∧ Hid (RrS wr w6.heap.size R A7 n6 c7 (outB (runM ([], 0) (rowB m most)).1) (stR (rowB m most) j))) (fun v _ => m - (intOf v).toNat)
          case atStart => exact ⟨0, by omega, rfl, HT7, HR7⟩
          case round =>
            obtain ⟨j, hj, rfl, HT8, HR8⟩ := hrel
            clear HT7 HR7
            have hok := stR_ok (rowB m most) j
            by_cases hjk : j < m
            · have HV := hid (rd_out (rowB m most) j (by have := HLB.out; omega))
              have HV0 := hid (rowB_zero m most j (by omega))
              go_wp2_with fail
              refine (rdS_any wr w6.heap.size R A7 n6 c7 _ _ HR8.out HBY.out hok.1 (by omega)).mono ?_
              rintro e w9 ⟨rfl, hr9, hk9⟩
              rw [HV.out.2] at hr9
              rw [HV.out.1, HV0.out]
              have HT9 := hid (HT8.out.reader (Rr.blk HR8.out) hRb hk9)
              have HR9 := hid hr9
              clear hr9 hk9 HT8 HR8
              go_wp2_with fail
              go_roundw
              case rel => exact ⟨j + 1, by omega, by go_num, HT9, HR9⟩
              case measure => simp [intOf]; omega
            · obtain rfl : m = j := by omega
              have HKN := hid (row_known m most)
              have HV := hid (rd_out (rowB m most) m (by have := HLB.out; rw [if_pos hmm] at this; omega))
              have HV1 := hid (rowB_one m most hmm)
              go_wp2_with fail
              refine (rdS_any wr w6.heap.size R A7 n6 c7 _ _ HR8.out HBY.out hok.1 (by omega)).mono ?_
              rintro e w9 ⟨rfl, hr9, hk9⟩
              rw [HV.out.1, HV1.out]
              have HT9 := hid (HT8.out.reader (Rr.blk HR8.out) hRb hk9)
              clear hr9 hk9 HT8 HR8
              have hKN := HKN.out
              rw [if_pos hmm, ← HNN.out] at hKN
              have HKN := hid hKN
              clear hKN
              go_wp2_with fail
              refine (TrS.knows HT9.out (i := 0) (by omega) 0 (by omega)).mono ?_
              rintro e w10 ⟨rfl, hk10⟩
              have HT10 := hid (HT9.out.aside hk10)
              clear hk10 HT9
              rw [HKN.out]
              go_wp2_with fail
              refine (TrS.knows HT10.out (i := 0) (by omega) 0 (by omega)).mono ?_
              rintro e w11 ⟨rfl, hk11⟩
              have HT11 := hid (HT10.out.aside hk11)
              clear hk11 HT10
              rw [HKN.out]
              have hne : ((m : Int) == -1) = false := by simp
              have hle : decide ((most : Int) ≤ (m : Int)) = false := by simp; omega
              go_wp2_with fail
              go_ret
              exact ⟨ret_bool (by simp; try omega), HT11.out.keeps.below (Nat.le_refl _) (fun _ h => h.elim)⟩
        · skip
          have HB := hid HE.out.2
          have HNN := hid HE.out.1
          have HLB := hid (rowB_len m most)
          have hlen : (st 0).1.length ≤ 100 := by
            have h1 := runM_length (rowB m most) ([], 0)
            have h2 := rowB_len m most
            rw [HB.out]
            simp only [List.length_nil] at h1
            split at h2 <;> omega
          go_wp2_with fail
          refine (TrS.bytes HT.out (j := 0) (by omega) (by omega)).mono ?_
          rintro e w6 ⟨A6, n6, c6, rfl, hown, hk6⟩
          rw [HB.out] at hown
          have hn6 : n6 ≤ 101 := by
            have h1 := hown.1
            have h2 := outB_le (runM ([], 0) (rowB m most)).1
            simp only [List.length_map] at h1
            rw [← HB.out] at h1 h2
            omega
          have HT6 := hid (HT.out.aside hk6)
          clear HT HE hk6
          go_wp2_with fail
          refine (newr_any w6 A6 n6 c6 _ (Rd.of_own hown) (by omega)).mono ?_
          rintro e w7 ⟨R, A7, c7, rfl, hR7, hr7, hk7⟩
          have HT7 := hid (HT6.out.aside hk7)
          have HR7 := hid (show RrS w7 w6.heap.size R A7 n6 c7 (outB (runM ([], 0) (rowB m most)).1) (stR (rowB m most) 0) from hr7)
          have hRb : w.heap.size ≤ R := Nat.le_trans HT6.out.keeps.size hR7
          have HBY := hid (outB_bytes (runM_bytes (rowB m most)))
          clear hown hR7 hr7 hk7 HT6
          go_wp2_with fail
          go_loopw [11] (fun v wr => ∃ j : Nat, j ≤ most ∧ v = .int .i64 j ∧ Hid (TrS w 1 1 (fun _ => p) 1 1 1 N (fun _ => Q) st wr) ∧ Hid (RrS wr w6.heap.size R A7 n6 c7 (outB (runM ([], 0) (rowB m most)).1) (stR (rowB m most) j))) (fun v _ => most - (intOf v).toNat)
          case atStart => exact ⟨0, by omega, rfl, HT7, HR7⟩
          case round =>
            obtain ⟨j, hj, rfl, HT8, HR8⟩ := hrel
            clear HT7 HR7
            have hok := stR_ok (rowB m most) j
            by_cases hjk : j < most
            · have HV := hid (rd_out (rowB m most) j (by have := HLB.out; omega))
              have HV0 := hid (rowB_zero m most j (by omega))
              go_wp2_with fail
              refine (rdS_any wr w6.heap.size R A7 n6 c7 _ _ HR8.out HBY.out hok.1 (by omega)).mono ?_
              rintro e w9 ⟨rfl, hr9, hk9⟩
              rw [HV.out.2] at hr9
              rw [HV.out.1, HV0.out]
              have HT9 := hid (HT8.out.reader (Rr.blk HR8.out) hRb hk9)
              have HR9 := hid hr9
              clear hr9 hk9 HT8 HR8
              go_wp2_with fail
              go_roundw
              case rel => exact ⟨j + 1, by omega, by go_num, HT9, HR9⟩
              case measure => simp [intOf]; omega
            · obtain rfl : most = j := by omega
              have HKN := hid (row_known m most)
              have hKN := HKN.out
              rw [if_neg hmm, ← HNN.out] at hKN
              have HKN := hid hKN
              clear hKN
              go_wp2_with fail
              refine (TrS.knows HT8.out (i := 0) (by omega) 0 (by omega)).mono ?_
              rintro e w10 ⟨rfl, hk10⟩
              have HT10 := hid (HT8.out.aside hk10)
              clear hk10 HT8
              rw [HKN.out]
              have hne : ((-1 : Int) == (m : Int)) = false := by simp only [beq_eq_false_iff_ne]; omega
              have hgt : decide ((most : Int) > (m : Int)) = false := by simp; omega
              go_wp2_with fail
              refine (TrS.knows HT10.out (i := 0) (by omega) 0 (by omega)).mono ?_
              rintro e w11 ⟨rfl, hk11⟩
              have HT11 := hid (HT10.out.aside hk11)
              clear hk11 HT10
              rw [HKN.out]
              go_wp2_with fail
              go_ret
              exact ⟨ret_bool (by simp; try omega), HT11.out.keeps.below (Nat.le_refl _) (fun _ h => h.elim)⟩
      · clear hlt
        by_cases hmm : m < most
        · skip
          have HB := hid HE.out.2
          have HNN := hid HE.out.1
          have HLB := hid (rowB_len m most)
          have hlen : (st 0).1.length ≤ 100 := by
            have h1 := runM_length (rowB m most) ([], 0)
            have h2 := rowB_len m most
            rw [HB.out]
            simp only [List.length_nil] at h1
            split at h2 <;> omega
          go_wp2_with fail
          refine (TrS.bytes HT.out (j := 0) (by omega) (by omega)).mono ?_
          rintro e w6 ⟨A6, n6, c6, rfl, hown, hk6⟩
          rw [HB.out] at hown
          have hn6 : n6 ≤ 101 := by
            have h1 := hown.1
            have h2 := outB_le (runM ([], 0) (rowB m most)).1
            simp only [List.length_map] at h1
            rw [← HB.out] at h1 h2
            omega
          have HT6 := hid (HT.out.aside hk6)
          clear HT HE hk6
          go_wp2_with fail
          refine (newr_any w6 A6 n6 c6 _ (Rd.of_own hown) (by omega)).mono ?_
          rintro e w7 ⟨R, A7, c7, rfl, hR7, hr7, hk7⟩
          have HT7 := hid (HT6.out.aside hk7)
          have HR7 := hid (show RrS w7 w6.heap.size R A7 n6 c7 (outB (runM ([], 0) (rowB m most)).1) (stR (rowB m most) 0) from hr7)
          have hRb : w.heap.size ≤ R := Nat.le_trans HT6.out.keeps.size hR7
          have HBY := hid (outB_bytes (runM_bytes (rowB m most)))
          clear hown hR7 hr7 hk7 HT6
          go_wp2_with fail
          go_loopw [11] (fun v wr => ∃ j : Nat, j ≤ m ∧ v = .int .i64 j ∧ Hid (TrS w 1 1 (fun _ => p) 1 1 1 N (fun _ => Q) st wr) ∧ Hid (RrS wr w6.heap.size R A7 n6 c7 (outB (runM ([], 0) (rowB m most)).1) (stR (rowB m most) j))) (fun v _ => m - (intOf v).toNat)
          case atStart => exact ⟨0, by omega, rfl, HT7, HR7⟩
          case round =>
            obtain ⟨j, hj, rfl, HT8, HR8⟩ := hrel
            clear HT7 HR7
            have hok := stR_ok (rowB m most) j
            by_cases hjk : j < m
            · have HV := hid (rd_out (rowB m most) j (by have := HLB.out; omega))
              have HV0 := hid (rowB_zero m most j (by omega))
              go_wp2_with fail
              refine (rdS_any wr w6.heap.size R A7 n6 c7 _ _ HR8.out HBY.out hok.1 (by omega)).mono ?_
              rintro e w9 ⟨rfl, hr9, hk9⟩
              rw [HV.out.2] at hr9
              rw [HV.out.1, HV0.out]
              have HT9 := hid (HT8.out.reader (Rr.blk HR8.out) hRb hk9)
              have HR9 := hid hr9
              clear hr9 hk9 HT8 HR8
              go_wp2_with fail
              go_roundw
              case rel => exact ⟨j + 1, by omega, by go_num, HT9, HR9⟩
              case measure => simp [intOf]; omega
            · obtain rfl : m = j := by omega
              have HKN := hid (row_known m most)
              have HV := hid (rd_out (rowB m most) m (by have := HLB.out; rw [if_pos hmm] at this; omega))
              have HV1 := hid (rowB_one m most hmm)
              go_wp2_with fail
              refine (rdS_any wr w6.heap.size R A7 n6 c7 _ _ HR8.out HBY.out hok.1 (by omega)).mono ?_
              rintro e w9 ⟨rfl, hr9, hk9⟩
              rw [HV.out.1, HV1.out]
              have HT9 := hid (HT8.out.reader (Rr.blk HR8.out) hRb hk9)
              clear hr9 hk9 HT8 HR8
              have hKN := HKN.out
              rw [if_pos hmm, ← HNN.out] at hKN
              have HKN := hid hKN
              clear hKN
              go_wp2_with fail
              refine (TrS.knows HT9.out (i := 0) (by omega) 0 (by omega)).mono ?_
              rintro e w10 ⟨rfl, hk10⟩
              have HT10 := hid (HT9.out.aside hk10)
              clear hk10 HT9
              rw [HKN.out]
              go_wp2_with fail
              refine (TrS.knows HT10.out (i := 0) (by omega) 0 (by omega)).mono ?_
              rintro e w11 ⟨rfl, hk11⟩
              have HT11 := hid (HT10.out.aside hk11)
              clear hk11 HT10
              rw [HKN.out]
              have hne : ((m : Int) == -1) = false := by simp
              have hle : decide ((most : Int) ≤ (m : Int)) = false := by simp; omega
              go_wp2_with fail
              go_ret
              exact ⟨ret_bool (by simp; try omega), HT11.out.keeps.below (Nat.le_refl _) (fun _ h => h.elim)⟩
        · skip
          have HB := hid HE.out.2
          have HNN := hid HE.out.1
          have HLB := hid (rowB_len m most)
          have hlen : (st 0).1.length ≤ 100 := by
            have h1 := runM_length (rowB m most) ([], 0)
            have h2 := rowB_len m most
            rw [HB.out]
            simp only [List.length_nil] at h1
            split at h2 <;> omega
          go_wp2_with fail
          refine (TrS.bytes HT.out (j := 0) (by omega) (by omega)).mono ?_
          rintro e w6 ⟨A6, n6, c6, rfl, hown, hk6⟩
          rw [HB.out] at hown
          have hn6 : n6 ≤ 101 := by
            have h1 := hown.1
            have h2 := outB_le (runM ([], 0) (rowB m most)).1
            simp only [List.length_map] at h1
            rw [← HB.out] at h1 h2
            omega
          have HT6 := hid (HT.out.aside hk6)
          clear HT HE hk6
          go_wp2_with fail
          refine (newr_any w6 A6 n6 c6 _ (Rd.of_own hown) (by omega)).mono ?_
          rintro e w7 ⟨R, A7, c7, rfl, hR7, hr7, hk7⟩
          have HT7 := hid (HT6.out.aside hk7)
          have HR7 := hid (show RrS w7 w6.heap.size R A7 n6 c7 (outB (runM ([], 0) (rowB m most)).1) (stR (rowB m most) 0) from hr7)
          have hRb : w.heap.size ≤ R := Nat.le_trans HT6.out.keeps.size hR7
          have HBY := hid (outB_bytes (runM_bytes (rowB m most)))
          clear hown hR7 hr7 hk7 HT6
          go_wp2_with fail
          go_loopw [11] (fun v wr => ∃ j : Nat, j ≤ most ∧ v = .int .i64 j ∧ Hid (TrS w 1 1 (fun _ => p) 1 1 1 N (fun _ => Q) st wr) ∧ Hid (RrS wr w6.heap.size R A7 n6 c7 (outB (runM ([], 0) (rowB m most)).1) (stR (rowB m most) j))) (fun v _ => most - (intOf v).toNat)
          case atStart => exact ⟨0, by omega, rfl, HT7, HR7⟩
          case round =>
            obtain ⟨j, hj, rfl, HT8, HR8⟩ := hrel
            clear HT7 HR7
            have hok := stR_ok (rowB m most) j
            by_cases hjk : j < most
            · have HV := hid (rd_out (rowB m most) j (by have := HLB.out; omega))
              have HV0 := hid (rowB_zero m most j (by omega))
              go_wp2_with fail
              refine (rdS_any wr w6.heap.size R A7 n6 c7 _ _ HR8.out HBY.out hok.1 (by omega)).mono ?_
              rintro e w9 ⟨rfl, hr9, hk9⟩
              rw [HV.out.2] at hr9
              rw [HV.out.1, HV0.out]
              have HT9 := hid (HT8.out.reader (Rr.blk HR8.out) hRb hk9)
              have HR9 := hid hr9
              clear hr9 hk9 HT8 HR8
              go_wp2_with fail
              go_roundw
              case rel => exact ⟨j + 1, by omega, by go_num, HT9, HR9⟩
              case measure => simp [intOf]; omega
            · obtain rfl : most = j := by omega
              have HKN := hid (row_known m most)
              have hKN := HKN.out
              rw [if_neg hmm, ← HNN.out] at hKN
              have HKN := hid hKN
              clear hKN
              go_wp2_with fail
              refine (TrS.knows HT8.out (i := 0) (by omega) 0 (by omega)).mono ?_
              rintro e w10 ⟨rfl, hk10⟩
              have HT10 := hid (HT8.out.aside hk10)
              clear hk10 HT8
              rw [HKN.out]
              have hne : ((-1 : Int) == (m : Int)) = false := by simp only [beq_eq_false_iff_ne]; omega
              have hgt : decide ((most : Int) > (m : Int)) = false := by simp; omega
              go_wp2_with fail
              refine (TrS.knows HT10.out (i := 0) (by omega) 0 (by omega)).mono ?_
              rintro e w11 ⟨rfl, hk11⟩
              have HT11 := hid (HT10.out.aside hk11)
              clear hk11 HT10
              rw [HKN.out]
              go_wp2_with fail
              go_ret
              exact ⟨ret_bool (by simp; try omega), HT11.out.keeps.below (Nat.le_refl _) (fun _ h => h.elim)⟩
end Go.Proofs.Ytbkffpedigeflaa
