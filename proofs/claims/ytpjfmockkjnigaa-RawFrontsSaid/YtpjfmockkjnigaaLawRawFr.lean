/-
  RawFronts: the walk. Conditions: none.
-/
import Derived.Test.YtpjfmockkjnigaaLawRawBack
import Derived.Deep.DeepCutAuto
namespace Go.Proofs.Ytpjfmockkjnigaa
open Go.RowKit

set_option maxRecDepth 100000 in
set_option linter.unusedSimpArgs false in
set_option maxHeartbeats 4000000 in
theorem rawFronts_walk (A : Option Addr) (n c : Nat) (ns : List Int) (a : Int) (w : World) (h : Arg .i64 8 w A n c ns) (ha : (Lit.int .i64 a).wf = true) :
    Calls Try.prog 6 #[.slice A n c, .int .i64 a] w fun e w' => e = .returned (.bool true) ∧ Below w.heap.size w w' := by
  go_enter Try.func6, Try.ntmps6
  go_wp2_with fail
  refine (known_any w).mono ?_
  rintro e w1 ⟨rfl, hk1⟩
  have hcn : n ≤ 9223372036854775807 := by have := h.cap; have := h.reach; omega
  have H := hid h
  clear h
  go_upto_region 3 with fail
  go_cut [5] (fun v wx => ∃ N : Nat, v = .int .i64 N ∧ N ≤ n ∧ N ≤ 300 ∧ wx = w1)
  case first =>
    go_wp2_with fail
    all_goals (go_meet; first | exact ⟨300, rfl, by omega, by omega, rfl⟩ | exact ⟨n, rfl, by omega, by omega, rfl⟩)
  case rest =>
    obtain ⟨N, rfl, hN1, hN2, hw⟩ := hcut
    obtain rfl : w1 = wc := hw.symm
    clear hw
    go_upto_if 19 with fail
    go_cut [6] (fun v wx => ∃ K : Nat, v = .int .i64 K ∧ K ≤ N ∧ wx = w1)
    case first =>
      by_cases hN0 : 0 < N
      · have ht := Int.tmod_lt_of_pos a (show (0 : Int) < (N : Int) + 1 by omega)
        have hN0' : ¬ ((N : Int) + 1 = 0) := by omega
        go_wp2_with fail
        all_goals go_meet
        all_goals first
          | exact ⟨0, rfl, by omega, rfl⟩
          | exact ⟨(a.tmod ((N : Int) + 1)).toNat, by rw [Int.toNat_of_nonneg (by assumption)], by omega, rfl⟩
      · go_wp2_with fail
        go_meet
        exact ⟨0, rfl, by omega, rfl⟩
    case rest =>
      obtain ⟨K, rfl, hK, hw⟩ := hcut
      obtain rfl : w1 = wc := hw.symm
      clear hw
      go_wp2_with fail
      refine (neww_any w1).mono ?_
      rintro e w2 ⟨W, rfl, hW, hw2, hk2⟩
      have hT : OneS w W (frontM ns 0) w2 := by
        have hs1 := hk1.size
        exact ⟨none, 0, 0, ⟨hw2.blk, own_mono hw2.own hs1⟩, by omega, hk1.trans hk2 (fun _ _ h => h)⟩
      have HT0 := hid hT
      have HLN := hid (show N ≤ ns.length by rw [H.out.len]; omega)
      clear hT hw2 hk1 hk2 hW
      go_wp2_with fail
      go_loopw [8, 9] (fun u v wr => ∃ (o : Int) (i : Nat), i ≤ N ∧ u = .int .i64 o ∧ v = .int .i64 i ∧ Hid (K < i → o = (frontM ns K).1.length) ∧ Hid (OneS w W (frontM ns i) wr)) (fun _ v _ => N - (intOf v).toNat)
      case atStart => exact ⟨0, 0, by omega, rfl, rfl, hid (fun h => by omega), HT0⟩
      case round =>
        obtain ⟨o, i, hi, rfl, rfl, HO0, HTS⟩ := hrel
        clear HT0
        obtain ⟨A1, n1, c1, ht⟩ := HTS.out
        have HT := hid ht
        have hlr := frontM_length ns i
        by_cases hlt : i < N
        · have hin' : i < n := by omega
          obtain ⟨b1, o1, rfl, hc1⟩ := (H.out.rd.keep ht.keep (fun _ _ h => h)).int_ix hin'
          clear ht HTS
          have HS := hid (frontM_succ ns i (by have := HLN.out; omega))
          have HI := hid (frontM_inv ns i)
          by_cases hiK : i = K
          · subst hiK
            generalize ns.getD i 0 = x at *
            generalize hs2 : frontM ns (i + 1) = s2 at *
            have HS2 := hid hs2
            clear hs2
            generalize hs3 : frontM ns i = s at *
            have HS3 := hid hs3
            clear hs3
            go_wp2_with fail
            refine (out_any wr w.heap.size W A1 n1 c1 s.1 s.2 HT.out.wr).mono ?_
            rintro e w3 ⟨rfl, rfl⟩
            go_wp2_with fail
            refine (bit_any wr w.heap.size W A1 n1 c1 s.1 s.2 x HT.out.wr HI.out HT.out.keep.size (by have := HT.out.wr.len; omega)).mono ?_
            rintro e w4 ⟨rfl, A2, ⟨n2, c2, h4⟩, hg4, hk4⟩
            have HO := hid (HT.out.next h4 hk4)
            clear h4 hk4 hg4
            go_wp2_with fail
            go_roundw
            case rel => exact ⟨s.1.length, i + 1, by omega, rfl, by go_num, hid (fun _ => by first | rfl | rw [HS3.out]), hid ⟨_, _, _, by rw [HS2.out, HS.out]; exact HO.out⟩⟩
            case measure => simp [intOf]; omega
          · have hiK' : ((i : Int) == (K : Int)) = false := by simp; omega
            generalize ns.getD i 0 = x at *
            generalize hs2 : frontM ns (i + 1) = s2 at *
            have HS2 := hid hs2
            clear hs2
            generalize frontM ns i = s at *
            have hKi : K < i + 1 → K < i := by omega
            have HKI := hid hKi
            clear hiK hKi
            go_wp2_with fail
            refine (bit_any wr w.heap.size W A1 n1 c1 s.1 s.2 x HT.out.wr HI.out HT.out.keep.size (by have := HT.out.wr.len; omega)).mono ?_
            rintro e w4 ⟨rfl, A2, ⟨n2, c2, h4⟩, hg4, hk4⟩
            have HO := hid (HT.out.next h4 hk4)
            clear h4 hk4 hg4
            go_wp2_with fail
            go_roundw
            case rel => exact ⟨o, i + 1, by omega, rfl, by go_num, hid (fun h => HO0.out (HKI.out h)), hid ⟨_, _, _, by rw [HS2.out, HS.out]; exact HO.out⟩⟩
            case measure => simp [intOf]; omega
        · obtain rfl : N = i := by omega
          clear ht HTS
          by_cases hKN : K = N
          · subst hKN
            go_wp2_with fail
            refine (out_any wr w.heap.size W A1 n1 c1 _ _ HT.out.wr).mono ?_
            rintro e w3 ⟨rfl, rfl⟩
            go_wp2_with fail
            refine (flush_any wr w.heap.size W A1 n1 c1 _ _ HT.out.wr (by have := HT.out.wr.len; omega)).mono ?_
            rintro e w3 ⟨A3, n3, c3, rfl, hown3, hk3⟩
            have HK := hid (HT.out.keep.trans hk3 (fun _ _ h => h))
            have hn3 : (flushM (frontM ns K).1).length = n3 := by have := hown3.1; simpa using this
            have hl3 : (flushM (frontM ns K).1).length ≤ 500 := by have := flushM_le (frontM ns K).1; omega
            have HO := hid (own_mono hown3 HT.out.keep.size)
            have HB := hid (flush_bytes (frontM_inv ns K).bytes)
            have hmono := front_flush_len ns K K (by omega)
            have hc := compat_take (front_flush ns K K (by omega))
            generalize flushM (frontM ns K).1 = b at *
            rw [hn3] at hc hmono
            have HN := hid hn3
            rw [hn3] at hl3
            obtain ⟨hnc, hgx⟩ : n3 ≤ c3 ∧ True := ⟨by
              rcases hown3.2 with ⟨h0, h1⟩ | ⟨g, cap, cur, hv, _, _, hnc, _⟩
              · injection h0; omega
              · injection hv; omega, trivial⟩
            clear hk3 hown3 HT hn3 hgx
            have hlk := frontM_length ns K
            generalize hL : (frontM ns K).1.length = L at *
            have HLL := hid hL
            clear hL
            by_cases hm : L ≤ n3
            · rw [Nat.min_eq_left hm] at hc
              have HC := hid hc
              clear hc
              go_wp2_with fail
              -- b: all bytes; M of them are read
              refine (newr_any w3 A3 L c3 (b.take L) (by rw [List.map_take]; exact (Rd.of_own HO.out).take (by omega)) (by omega)).mono ?_
              rintro e w4 ⟨R, A4, c4, rfl, hR, hr4, hk4⟩
              have hks := HK.out.size
              have HR0 := hid (show Rr w4 w.heap.size R A4 L c4 (b.take L) (frontM ns 0).2 (frontM ns 0).1.length from ⟨hr4.blk, own_mono hr4.own hks⟩)
              have HK4 := hid (HK.out.trans hk4 (fun _ _ h => h))
              have hRw : w.heap.size ≤ R := by omega
              have hML : (b.take L).length = L := by rw [List.length_take, HN.out]; omega
              have HB2 := hid (show Bytes (b.take L) from fun z hz => HB.out z (List.mem_of_mem_take hz))
              have HRD := hid (fun j hj => raw_read ns (b.take L) K (by have := HLN.out; omega) HC.out (by have := HLL.out; rw [hML]; omega) j hj)
              have HLE := hid (fun j (hj : j ≤ K) => show (frontM ns j).1.length ≤ L + 1 by have := frontM_mono ns j K hj; have := HLL.out; omega)
              clear hr4 hk4 hML
              generalize b.take L = b2 at *
              go_wp2_with fail
              go_loopw [12] (fun v wr => ∃ j : Nat, j ≤ K ∧ v = .int .i64 j ∧ Hid (Rr wr w.heap.size R A4 L c4 b2 (frontM ns j).2 (frontM ns j).1.length) ∧ Hid (Keep (fun _ => False) w wr)) (fun v _ => K - (intOf v).toNat)
              case atStart => exact ⟨0, by omega, rfl, HR0, HK4⟩
              case round =>
                obtain ⟨j, hj, rfl, HR, HKJ⟩ := hrel
                clear HR0 HK4 HO HK
                by_cases hjn : j < K
                · have hjn' : j < n := by omega
                  obtain ⟨b1, o1, rfl, hc1⟩ := (H.out.rd.keep HKJ.out (fun _ _ h => h)).int_ix hjn'
                  have hbl : b1 < w.heap.size := H.out.rd.lt (by omega) _ rfl
                  have hj1 := HRD.out j hjn
                  have hle := HLE.out j hj
                  have hi := frontM_inv ns j
                  have hc := fun (w' : World) (h' : Rr w' w.heap.size R A4 L c4 b2 (frontM ns j).2 (frontM ns j).1.length) => rd_any w' w.heap.size R A4 L c4 b2 (frontM ns j).2 (frontM ns j).1.length h' (by omega) HB2.out hi.r0 (by have := hi.r7; omega) hle
                  rw [hj1.1, hj1.2.1, hj1.2.2] at hc
                  have HCC := hid hc
                  have ha := and_one (ns.getD j 0)
                  clear hc hj1 hi hle
                  generalize ns.getD j 0 = x at *
                  generalize hs2 : frontM ns (j + 1) = s2 at *
                  have HS2 := hid hs2
                  clear hs2
                  generalize frontM ns j = s at *
                  go_wp2_with fail
                  -- region 22: 8 operations
                  refine At.start (L := #[false, false, false, false, false, false, false, false]) (by kernel_rfl) rfl ?_
                  refine At.pure 0 (some 63) (v := ?v0px) rfl rfl (by kernel_rfl) (fun _ _ _ h => h) rfl (fun w' => ?y0px) ?_   
                  case y0px => go_simp; try with_reducible rfl
                  try simp only [Act.put, List.setIfInBounds_toArray, List.set_cons_zero, List.set_cons_succ]
                  refine At.pure 2 (some 65) (v := ?v2px) rfl rfl (by kernel_rfl) (fun _ _ _ h => h) rfl (fun w' => ?y2px) ?_   
                  case y2px => go_simp; try with_reducible rfl
                  try simp only [Act.put, List.setIfInBounds_toArray, List.set_cons_zero, List.set_cons_succ]
                  refine At.pure 3 (some 66) (v := ?v3px) rfl rfl (by kernel_rfl) (fun _ _ _ h => h) rfl (fun w' => ?y3px) ?_   
                  case y3px => go_simp; try with_reducible rfl
                  try simp only [Act.put, List.setIfInBounds_toArray, List.set_cons_zero, List.set_cons_succ]
                  refine At.pure 4 (some 67) (v := ?v4px) rfl rfl (by kernel_rfl) (fun _ _ _ h => h) rfl (fun w' => ?y4px) ?_   
                  case y4px => go_simp; try with_reducible rfl
                  try simp only [Act.put, List.setIfInBounds_toArray, List.set_cons_zero, List.set_cons_succ]
                  refine At.read 5 (some 68) (fun w' => w'.cell? ⟨b1, o1 + j, none⟩ = some (.int .i64 x)) (v := (.int .i64 x)) rfl rfl (by kernel_rfl) (fun _ _ _ h => h) rfl hc1 (fun w' hw' => ?y5px) ?_   
                  case y5px => skip; go_simp; try with_reducible rfl
                  try simp only [Act.put, List.setIfInBounds_toArray, List.set_cons_zero, List.set_cons_succ]
                  refine At.pure 6 (some 69) (v := ?v6px) rfl rfl (by kernel_rfl) (fun _ _ _ h => h) rfl (fun w' => ?y6px) ?_   
                  case y6px => go_simp; try with_reducible rfl
                  try simp only [Act.put, List.setIfInBounds_toArray, List.set_cons_zero, List.set_cons_succ]
                  refine At.call 1 (pend' := [(5, (fun w' => w'.cell? ⟨b1, o1 + j, none⟩ = some (.int .i64 x)))]) rfl (by kernel_rfl) rfl (by kernel_rfl) (fun K hK => ?_)   
                  go_simp
                  refine (HCC.out _ (HR.out.keep (Keep.refl (fun _ => False) wr).drew (fun h => h) (fun _ _ h => h))).mono ?_
                  rintro e w5 ⟨rfl, h5, hk5⟩
                  refine hK _ _ (all_cons (hk5.cell hc1 (fun e => by simp at e; omega)) all_nil) ?_
                  clear hK K
                  try simp only [Act.put, List.setIfInBounds_toArray, List.set_cons_zero, List.set_cons_succ]
                  refine At.pure 7 (some 70) (v := ?v7px) rfl rfl (by kernel_rfl) (fun _ _ _ h => h) rfl (fun w' => ?y7px) ?_   
                  case y7px => go_simp; try with_reducible rfl
                  try simp only [Act.put, List.setIfInBounds_toArray, List.set_cons_zero, List.set_cons_succ]
                  refine At.done (by kernel_rfl) ?_
                  have H5 := hid h5
                  have HK5 := hid (HKJ.out.new hk5.undrew (fun k e => by omega))
                  clear h5 hk5 ha
                  go_wp2_with fail
                  go_roundw
                  case rel => exact ⟨j + 1, by omega, by go_num, by rw [HS2.out]; exact H5, HK5⟩
                  case measure => simp [intOf]; omega
                · go_wp2_with fail
                  go_ret
                  exact ⟨rfl, HKJ.out.below (Nat.le_refl _) (fun _ h => h.elim)⟩
            · rw [Nat.min_eq_right (by omega)] at hc
              have HC := hid hc
              clear hc
              go_wp2_with fail
              -- b: all bytes; M of them are read
              refine (newr_any w3 A3 n3 c3 (b.take n3) (by rw [List.map_take]; exact (Rd.of_own HO.out).take (by omega)) (by omega)).mono ?_
              rintro e w4 ⟨R, A4, c4, rfl, hR, hr4, hk4⟩
              have hks := HK.out.size
              have HR0 := hid (show Rr w4 w.heap.size R A4 n3 c4 (b.take n3) (frontM ns 0).2 (frontM ns 0).1.length from ⟨hr4.blk, own_mono hr4.own hks⟩)
              have HK4 := hid (HK.out.trans hk4 (fun _ _ h => h))
              have hRw : w.heap.size ≤ R := by omega
              have hML : (b.take n3).length = n3 := by rw [List.length_take, HN.out]; omega
              have HB2 := hid (show Bytes (b.take n3) from fun z hz => HB.out z (List.mem_of_mem_take hz))
              have HRD := hid (fun j hj => raw_read ns (b.take n3) K (by have := HLN.out; omega) HC.out (by have := HLL.out; rw [hML]; omega) j hj)
              have HLE := hid (fun j (hj : j ≤ K) => show (frontM ns j).1.length ≤ n3 + 1 by have := frontM_mono ns j K hj; have := HLL.out; omega)
              clear hr4 hk4 hML
              generalize b.take n3 = b2 at *
              go_wp2_with fail
              go_loopw [12] (fun v wr => ∃ j : Nat, j ≤ K ∧ v = .int .i64 j ∧ Hid (Rr wr w.heap.size R A4 n3 c4 b2 (frontM ns j).2 (frontM ns j).1.length) ∧ Hid (Keep (fun _ => False) w wr)) (fun v _ => K - (intOf v).toNat)
              case atStart => exact ⟨0, by omega, rfl, HR0, HK4⟩
              case round =>
                obtain ⟨j, hj, rfl, HR, HKJ⟩ := hrel
                clear HR0 HK4 HO HK
                by_cases hjn : j < K
                · have hjn' : j < n := by omega
                  obtain ⟨b1, o1, rfl, hc1⟩ := (H.out.rd.keep HKJ.out (fun _ _ h => h)).int_ix hjn'
                  have hbl : b1 < w.heap.size := H.out.rd.lt (by omega) _ rfl
                  have hj1 := HRD.out j hjn
                  have hle := HLE.out j hj
                  have hi := frontM_inv ns j
                  have hc := fun (w' : World) (h' : Rr w' w.heap.size R A4 n3 c4 b2 (frontM ns j).2 (frontM ns j).1.length) => rd_any w' w.heap.size R A4 n3 c4 b2 (frontM ns j).2 (frontM ns j).1.length h' (by omega) HB2.out hi.r0 (by have := hi.r7; omega) hle
                  rw [hj1.1, hj1.2.1, hj1.2.2] at hc
                  have HCC := hid hc
                  have ha := and_one (ns.getD j 0)
                  clear hc hj1 hi hle
                  generalize ns.getD j 0 = x at *
                  generalize hs2 : frontM ns (j + 1) = s2 at *
                  have HS2 := hid hs2
                  clear hs2
                  generalize frontM ns j = s at *
                  go_wp2_with fail
                  -- region 22: 8 operations
                  refine At.start (L := #[false, false, false, false, false, false, false, false]) (by kernel_rfl) rfl ?_
                  refine At.pure 0 (some 63) (v := ?v0py) rfl rfl (by kernel_rfl) (fun _ _ _ h => h) rfl (fun w' => ?y0py) ?_   
                  case y0py => go_simp; try with_reducible rfl
                  try simp only [Act.put, List.setIfInBounds_toArray, List.set_cons_zero, List.set_cons_succ]
                  refine At.pure 2 (some 65) (v := ?v2py) rfl rfl (by kernel_rfl) (fun _ _ _ h => h) rfl (fun w' => ?y2py) ?_   
                  case y2py => go_simp; try with_reducible rfl
                  try simp only [Act.put, List.setIfInBounds_toArray, List.set_cons_zero, List.set_cons_succ]
                  refine At.pure 3 (some 66) (v := ?v3py) rfl rfl (by kernel_rfl) (fun _ _ _ h => h) rfl (fun w' => ?y3py) ?_   
                  case y3py => go_simp; try with_reducible rfl
                  try simp only [Act.put, List.setIfInBounds_toArray, List.set_cons_zero, List.set_cons_succ]
                  refine At.pure 4 (some 67) (v := ?v4py) rfl rfl (by kernel_rfl) (fun _ _ _ h => h) rfl (fun w' => ?y4py) ?_   
                  case y4py => go_simp; try with_reducible rfl
                  try simp only [Act.put, List.setIfInBounds_toArray, List.set_cons_zero, List.set_cons_succ]
                  refine At.read 5 (some 68) (fun w' => w'.cell? ⟨b1, o1 + j, none⟩ = some (.int .i64 x)) (v := (.int .i64 x)) rfl rfl (by kernel_rfl) (fun _ _ _ h => h) rfl hc1 (fun w' hw' => ?y5py) ?_   
                  case y5py => skip; go_simp; try with_reducible rfl
                  try simp only [Act.put, List.setIfInBounds_toArray, List.set_cons_zero, List.set_cons_succ]
                  refine At.pure 6 (some 69) (v := ?v6py) rfl rfl (by kernel_rfl) (fun _ _ _ h => h) rfl (fun w' => ?y6py) ?_   
                  case y6py => go_simp; try with_reducible rfl
                  try simp only [Act.put, List.setIfInBounds_toArray, List.set_cons_zero, List.set_cons_succ]
                  refine At.call 1 (pend' := [(5, (fun w' => w'.cell? ⟨b1, o1 + j, none⟩ = some (.int .i64 x)))]) rfl (by kernel_rfl) rfl (by kernel_rfl) (fun K hK => ?_)   
                  go_simp
                  refine (HCC.out _ (HR.out.keep (Keep.refl (fun _ => False) wr).drew (fun h => h) (fun _ _ h => h))).mono ?_
                  rintro e w5 ⟨rfl, h5, hk5⟩
                  refine hK _ _ (all_cons (hk5.cell hc1 (fun e => by simp at e; omega)) all_nil) ?_
                  clear hK K
                  try simp only [Act.put, List.setIfInBounds_toArray, List.set_cons_zero, List.set_cons_succ]
                  refine At.pure 7 (some 70) (v := ?v7py) rfl rfl (by kernel_rfl) (fun _ _ _ h => h) rfl (fun w' => ?y7py) ?_   
                  case y7py => go_simp; try with_reducible rfl
                  try simp only [Act.put, List.setIfInBounds_toArray, List.set_cons_zero, List.set_cons_succ]
                  refine At.done (by kernel_rfl) ?_
                  have H5 := hid h5
                  have HK5 := hid (HKJ.out.new hk5.undrew (fun k e => by omega))
                  clear h5 hk5 ha
                  go_wp2_with fail
                  go_roundw
                  case rel => exact ⟨j + 1, by omega, by go_num, by rw [HS2.out]; exact H5, HK5⟩
                  case measure => simp [intOf]; omega
                · go_wp2_with fail
                  go_ret
                  exact ⟨rfl, HKJ.out.below (Nat.le_refl _) (fun _ h => h.elim)⟩
          · have hKN' : ((K : Int) == (N : Int)) = false := by simp; omega
            have ho := HO0.out (by omega)
            subst ho
            go_wp2_with fail
            refine (flush_any wr w.heap.size W A1 n1 c1 _ _ HT.out.wr (by have := HT.out.wr.len; omega)).mono ?_
            rintro e w3 ⟨A3, n3, c3, rfl, hown3, hk3⟩
            have HK := hid (HT.out.keep.trans hk3 (fun _ _ h => h))
            have hn3 : (flushM (frontM ns N).1).length = n3 := by have := hown3.1; simpa using this
            have hl3 : (flushM (frontM ns N).1).length ≤ 500 := by have := flushM_le (frontM ns N).1; omega
            have HO := hid (own_mono hown3 HT.out.keep.size)
            have HB := hid (flush_bytes (frontM_inv ns N).bytes)
            have hmono := front_flush_len ns K N (by omega)
            have hc := compat_take (front_flush ns K N (by omega))
            generalize flushM (frontM ns N).1 = b at *
            rw [hn3] at hc hmono
            have HN := hid hn3
            rw [hn3] at hl3
            obtain ⟨hnc, hgx⟩ : n3 ≤ c3 ∧ True := ⟨by
              rcases hown3.2 with ⟨h0, h1⟩ | ⟨g, cap, cur, hv, _, _, hnc, _⟩
              · injection h0; omega
              · injection hv; omega, trivial⟩
            clear hk3 hown3 HT hn3 hgx
            have hlk := frontM_length ns K
            generalize hL : (frontM ns K).1.length = L at *
            have HLL := hid hL
            clear hL
            by_cases hm : L ≤ n3
            · rw [Nat.min_eq_left hm] at hc
              have HC := hid hc
              clear hc
              go_wp2_with fail
              -- b: all bytes; M of them are read
              refine (newr_any w3 A3 L c3 (b.take L) (by rw [List.map_take]; exact (Rd.of_own HO.out).take (by omega)) (by omega)).mono ?_
              rintro e w4 ⟨R, A4, c4, rfl, hR, hr4, hk4⟩
              have hks := HK.out.size
              have HR0 := hid (show Rr w4 w.heap.size R A4 L c4 (b.take L) (frontM ns 0).2 (frontM ns 0).1.length from ⟨hr4.blk, own_mono hr4.own hks⟩)
              have HK4 := hid (HK.out.trans hk4 (fun _ _ h => h))
              have hRw : w.heap.size ≤ R := by omega
              have hML : (b.take L).length = L := by rw [List.length_take, HN.out]; omega
              have HB2 := hid (show Bytes (b.take L) from fun z hz => HB.out z (List.mem_of_mem_take hz))
              have HRD := hid (fun j hj => raw_read ns (b.take L) K (by have := HLN.out; omega) HC.out (by have := HLL.out; rw [hML]; omega) j hj)
              have HLE := hid (fun j (hj : j ≤ K) => show (frontM ns j).1.length ≤ L + 1 by have := frontM_mono ns j K hj; have := HLL.out; omega)
              clear hr4 hk4 hML
              generalize b.take L = b2 at *
              go_wp2_with fail
              go_loopw [12] (fun v wr => ∃ j : Nat, j ≤ K ∧ v = .int .i64 j ∧ Hid (Rr wr w.heap.size R A4 L c4 b2 (frontM ns j).2 (frontM ns j).1.length) ∧ Hid (Keep (fun _ => False) w wr)) (fun v _ => K - (intOf v).toNat)
              case atStart => exact ⟨0, by omega, rfl, HR0, HK4⟩
              case round =>
                obtain ⟨j, hj, rfl, HR, HKJ⟩ := hrel
                clear HR0 HK4 HO HK
                by_cases hjn : j < K
                · have hjn' : j < n := by omega
                  obtain ⟨b1, o1, rfl, hc1⟩ := (H.out.rd.keep HKJ.out (fun _ _ h => h)).int_ix hjn'
                  have hbl : b1 < w.heap.size := H.out.rd.lt (by omega) _ rfl
                  have hj1 := HRD.out j hjn
                  have hle := HLE.out j hj
                  have hi := frontM_inv ns j
                  have hc := fun (w' : World) (h' : Rr w' w.heap.size R A4 L c4 b2 (frontM ns j).2 (frontM ns j).1.length) => rd_any w' w.heap.size R A4 L c4 b2 (frontM ns j).2 (frontM ns j).1.length h' (by omega) HB2.out hi.r0 (by have := hi.r7; omega) hle
                  rw [hj1.1, hj1.2.1, hj1.2.2] at hc
                  have HCC := hid hc
                  have ha := and_one (ns.getD j 0)
                  clear hc hj1 hi hle
                  generalize ns.getD j 0 = x at *
                  generalize hs2 : frontM ns (j + 1) = s2 at *
                  have HS2 := hid hs2
                  clear hs2
                  generalize frontM ns j = s at *
                  go_wp2_with fail
                  -- region 22: 8 operations
                  refine At.start (L := #[false, false, false, false, false, false, false, false]) (by kernel_rfl) rfl ?_
                  refine At.pure 0 (some 63) (v := ?v0qx) rfl rfl (by kernel_rfl) (fun _ _ _ h => h) rfl (fun w' => ?y0qx) ?_   
                  case y0qx => go_simp; try with_reducible rfl
                  try simp only [Act.put, List.setIfInBounds_toArray, List.set_cons_zero, List.set_cons_succ]
                  refine At.pure 2 (some 65) (v := ?v2qx) rfl rfl (by kernel_rfl) (fun _ _ _ h => h) rfl (fun w' => ?y2qx) ?_   
                  case y2qx => go_simp; try with_reducible rfl
                  try simp only [Act.put, List.setIfInBounds_toArray, List.set_cons_zero, List.set_cons_succ]
                  refine At.pure 3 (some 66) (v := ?v3qx) rfl rfl (by kernel_rfl) (fun _ _ _ h => h) rfl (fun w' => ?y3qx) ?_   
                  case y3qx => go_simp; try with_reducible rfl
                  try simp only [Act.put, List.setIfInBounds_toArray, List.set_cons_zero, List.set_cons_succ]
                  refine At.pure 4 (some 67) (v := ?v4qx) rfl rfl (by kernel_rfl) (fun _ _ _ h => h) rfl (fun w' => ?y4qx) ?_   
                  case y4qx => go_simp; try with_reducible rfl
                  try simp only [Act.put, List.setIfInBounds_toArray, List.set_cons_zero, List.set_cons_succ]
                  refine At.read 5 (some 68) (fun w' => w'.cell? ⟨b1, o1 + j, none⟩ = some (.int .i64 x)) (v := (.int .i64 x)) rfl rfl (by kernel_rfl) (fun _ _ _ h => h) rfl hc1 (fun w' hw' => ?y5qx) ?_   
                  case y5qx => skip; go_simp; try with_reducible rfl
                  try simp only [Act.put, List.setIfInBounds_toArray, List.set_cons_zero, List.set_cons_succ]
                  refine At.pure 6 (some 69) (v := ?v6qx) rfl rfl (by kernel_rfl) (fun _ _ _ h => h) rfl (fun w' => ?y6qx) ?_   
                  case y6qx => go_simp; try with_reducible rfl
                  try simp only [Act.put, List.setIfInBounds_toArray, List.set_cons_zero, List.set_cons_succ]
                  refine At.call 1 (pend' := [(5, (fun w' => w'.cell? ⟨b1, o1 + j, none⟩ = some (.int .i64 x)))]) rfl (by kernel_rfl) rfl (by kernel_rfl) (fun K hK => ?_)   
                  go_simp
                  refine (HCC.out _ (HR.out.keep (Keep.refl (fun _ => False) wr).drew (fun h => h) (fun _ _ h => h))).mono ?_
                  rintro e w5 ⟨rfl, h5, hk5⟩
                  refine hK _ _ (all_cons (hk5.cell hc1 (fun e => by simp at e; omega)) all_nil) ?_
                  clear hK K
                  try simp only [Act.put, List.setIfInBounds_toArray, List.set_cons_zero, List.set_cons_succ]
                  refine At.pure 7 (some 70) (v := ?v7qx) rfl rfl (by kernel_rfl) (fun _ _ _ h => h) rfl (fun w' => ?y7qx) ?_   
                  case y7qx => go_simp; try with_reducible rfl
                  try simp only [Act.put, List.setIfInBounds_toArray, List.set_cons_zero, List.set_cons_succ]
                  refine At.done (by kernel_rfl) ?_
                  have H5 := hid h5
                  have HK5 := hid (HKJ.out.new hk5.undrew (fun k e => by omega))
                  clear h5 hk5 ha
                  go_wp2_with fail
                  go_roundw
                  case rel => exact ⟨j + 1, by omega, by go_num, by rw [HS2.out]; exact H5, HK5⟩
                  case measure => simp [intOf]; omega
                · go_wp2_with fail
                  go_ret
                  exact ⟨rfl, HKJ.out.below (Nat.le_refl _) (fun _ h => h.elim)⟩
            · rw [Nat.min_eq_right (by omega)] at hc
              have HC := hid hc
              clear hc
              go_wp2_with fail
              -- b: all bytes; M of them are read
              refine (newr_any w3 A3 n3 c3 (b.take n3) (by rw [List.map_take]; exact (Rd.of_own HO.out).take (by omega)) (by omega)).mono ?_
              rintro e w4 ⟨R, A4, c4, rfl, hR, hr4, hk4⟩
              have hks := HK.out.size
              have HR0 := hid (show Rr w4 w.heap.size R A4 n3 c4 (b.take n3) (frontM ns 0).2 (frontM ns 0).1.length from ⟨hr4.blk, own_mono hr4.own hks⟩)
              have HK4 := hid (HK.out.trans hk4 (fun _ _ h => h))
              have hRw : w.heap.size ≤ R := by omega
              have hML : (b.take n3).length = n3 := by rw [List.length_take, HN.out]; omega
              have HB2 := hid (show Bytes (b.take n3) from fun z hz => HB.out z (List.mem_of_mem_take hz))
              have HRD := hid (fun j hj => raw_read ns (b.take n3) K (by have := HLN.out; omega) HC.out (by have := HLL.out; rw [hML]; omega) j hj)
              have HLE := hid (fun j (hj : j ≤ K) => show (frontM ns j).1.length ≤ n3 + 1 by have := frontM_mono ns j K hj; have := HLL.out; omega)
              clear hr4 hk4 hML
              generalize b.take n3 = b2 at *
              go_wp2_with fail
              go_loopw [12] (fun v wr => ∃ j : Nat, j ≤ K ∧ v = .int .i64 j ∧ Hid (Rr wr w.heap.size R A4 n3 c4 b2 (frontM ns j).2 (frontM ns j).1.length) ∧ Hid (Keep (fun _ => False) w wr)) (fun v _ => K - (intOf v).toNat)
              case atStart => exact ⟨0, by omega, rfl, HR0, HK4⟩
              case round =>
                obtain ⟨j, hj, rfl, HR, HKJ⟩ := hrel
                clear HR0 HK4 HO HK
                by_cases hjn : j < K
                · have hjn' : j < n := by omega
                  obtain ⟨b1, o1, rfl, hc1⟩ := (H.out.rd.keep HKJ.out (fun _ _ h => h)).int_ix hjn'
                  have hbl : b1 < w.heap.size := H.out.rd.lt (by omega) _ rfl
                  have hj1 := HRD.out j hjn
                  have hle := HLE.out j hj
                  have hi := frontM_inv ns j
                  have hc := fun (w' : World) (h' : Rr w' w.heap.size R A4 n3 c4 b2 (frontM ns j).2 (frontM ns j).1.length) => rd_any w' w.heap.size R A4 n3 c4 b2 (frontM ns j).2 (frontM ns j).1.length h' (by omega) HB2.out hi.r0 (by have := hi.r7; omega) hle
                  rw [hj1.1, hj1.2.1, hj1.2.2] at hc
                  have HCC := hid hc
                  have ha := and_one (ns.getD j 0)
                  clear hc hj1 hi hle
                  generalize ns.getD j 0 = x at *
                  generalize hs2 : frontM ns (j + 1) = s2 at *
                  have HS2 := hid hs2
                  clear hs2
                  generalize frontM ns j = s at *
                  go_wp2_with fail
                  -- region 22: 8 operations
                  refine At.start (L := #[false, false, false, false, false, false, false, false]) (by kernel_rfl) rfl ?_
                  refine At.pure 0 (some 63) (v := ?v0qy) rfl rfl (by kernel_rfl) (fun _ _ _ h => h) rfl (fun w' => ?y0qy) ?_   
                  case y0qy => go_simp; try with_reducible rfl
                  try simp only [Act.put, List.setIfInBounds_toArray, List.set_cons_zero, List.set_cons_succ]
                  refine At.pure 2 (some 65) (v := ?v2qy) rfl rfl (by kernel_rfl) (fun _ _ _ h => h) rfl (fun w' => ?y2qy) ?_   
                  case y2qy => go_simp; try with_reducible rfl
                  try simp only [Act.put, List.setIfInBounds_toArray, List.set_cons_zero, List.set_cons_succ]
                  refine At.pure 3 (some 66) (v := ?v3qy) rfl rfl (by kernel_rfl) (fun _ _ _ h => h) rfl (fun w' => ?y3qy) ?_   
                  case y3qy => go_simp; try with_reducible rfl
                  try simp only [Act.put, List.setIfInBounds_toArray, List.set_cons_zero, List.set_cons_succ]
                  refine At.pure 4 (some 67) (v := ?v4qy) rfl rfl (by kernel_rfl) (fun _ _ _ h => h) rfl (fun w' => ?y4qy) ?_   
                  case y4qy => go_simp; try with_reducible rfl
                  try simp only [Act.put, List.setIfInBounds_toArray, List.set_cons_zero, List.set_cons_succ]
                  refine At.read 5 (some 68) (fun w' => w'.cell? ⟨b1, o1 + j, none⟩ = some (.int .i64 x)) (v := (.int .i64 x)) rfl rfl (by kernel_rfl) (fun _ _ _ h => h) rfl hc1 (fun w' hw' => ?y5qy) ?_   
                  case y5qy => skip; go_simp; try with_reducible rfl
                  try simp only [Act.put, List.setIfInBounds_toArray, List.set_cons_zero, List.set_cons_succ]
                  refine At.pure 6 (some 69) (v := ?v6qy) rfl rfl (by kernel_rfl) (fun _ _ _ h => h) rfl (fun w' => ?y6qy) ?_   
                  case y6qy => go_simp; try with_reducible rfl
                  try simp only [Act.put, List.setIfInBounds_toArray, List.set_cons_zero, List.set_cons_succ]
                  refine At.call 1 (pend' := [(5, (fun w' => w'.cell? ⟨b1, o1 + j, none⟩ = some (.int .i64 x)))]) rfl (by kernel_rfl) rfl (by kernel_rfl) (fun K hK => ?_)   
                  go_simp
                  refine (HCC.out _ (HR.out.keep (Keep.refl (fun _ => False) wr).drew (fun h => h) (fun _ _ h => h))).mono ?_
                  rintro e w5 ⟨rfl, h5, hk5⟩
                  refine hK _ _ (all_cons (hk5.cell hc1 (fun e => by simp at e; omega)) all_nil) ?_
                  clear hK K
                  try simp only [Act.put, List.setIfInBounds_toArray, List.set_cons_zero, List.set_cons_succ]
                  refine At.pure 7 (some 70) (v := ?v7qy) rfl rfl (by kernel_rfl) (fun _ _ _ h => h) rfl (fun w' => ?y7qy) ?_   
                  case y7qy => go_simp; try with_reducible rfl
                  try simp only [Act.put, List.setIfInBounds_toArray, List.set_cons_zero, List.set_cons_succ]
                  refine At.done (by kernel_rfl) ?_
                  have H5 := hid h5
                  have HK5 := hid (HKJ.out.new hk5.undrew (fun k e => by omega))
                  clear h5 hk5 ha
                  go_wp2_with fail
                  go_roundw
                  case rel => exact ⟨j + 1, by omega, by go_num, by rw [HS2.out]; exact H5, HK5⟩
                  case measure => simp [intOf]; omega
                · go_wp2_with fail
                  go_ret
                  exact ⟨rfl, HKJ.out.below (Nat.le_refl _) (fun _ h => h.elim)⟩
end Go.Proofs.Ytpjfmockkjnigaa
