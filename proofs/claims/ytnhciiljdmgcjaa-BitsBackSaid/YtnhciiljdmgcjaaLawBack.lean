/-
  BitsBack: the walk. Conditions: none.
-/
import Derived.Test.YtnhciiljdmgcjaaLawRead
import Derived.Test.YtnhciiljdmgcjaaReadBack
import Derived.Deep.DeepCutAuto
namespace Go.Proofs.Ytnhciiljdmgcjaa
open Go.RowKit

theorem pow_32 (k : Nat) (h : k ≤ 32) : (1 : Int) ≤ 2 ^ k ∧ (2 : Int) ^ k ≤ 4294967296 := by
  have h1 : 2 ^ k ≤ 2 ^ 32 := Nat.pow_le_pow_right (by omega) h
  have h2 : 1 ≤ 2 ^ k := Nat.one_le_two_pow
  have h3 : ((2 ^ k : Nat) : Int) = (2 : Int) ^ k := by simp
  omega
theorem wrap_p (k : Nat) (h : k ≤ 32) : wrap64 (2 ^ k) = (2 : Int) ^ k := by have := pow_32 k h; exact IntWalk.wrap64_in _ (by omega)
theorem wrap_p1 (k : Nat) (h : k ≤ 32) : wrap64 (2 ^ k - 1) = (2 : Int) ^ k - 1 := by have := pow_32 k h; exact IntWalk.wrap64_in _ (by omega)
theorem mask_at (x : Int) (k : Nat) (h : k ≤ 32) : bits .and .i64 x (IntKind.i64.wrap (IntKind.i64.wrap (2 ^ min (IntKind.u64.wrap (k : Int)).toNat 64) - 1)) = x % 2 ^ k := by
  have h0 : IntKind.u64.wrap (k : Int) = k := IntWalk.u64_in _ (by omega)
  have h1 : min k 64 = k := by omega
  have h2 : IntKind.i64.wrap (2 ^ k) = (2 : Int) ^ k := by have := pow_32 k h; exact IntWalk.i64_in _ (by omega)
  have h3 : IntKind.i64.wrap (2 ^ k - 1) = (2 : Int) ^ k - 1 := by have := pow_32 k h; exact IntWalk.i64_in _ (by clear h2 h0; omega)
  rw [h0, Int.toNat_natCast, h1, h2, h3]
  exact and_mask x k h
/-- How wide the i-th number is. -/
def wide (ss : List Int) (i : Nat) : Nat := (1 + ss.getD i 0 % 32).toNat
theorem wide_eq (ss : List Int) (i : Nat) : ((wide ss i : Nat) : Int) = 1 + ss.getD i 0 % 32 := by unfold wide; omega
theorem wide_le (ss : List Int) (i : Nat) : wide ss i ≤ 32 := by unfold wide; omega
theorem numB_wide (x : Int) (k : Nat) (h1 : 1 ≤ k) (h2 : k ≤ 32) : numB x k = bitsOf x k := by unfold numB; rw [if_pos (by omega)]; simp
theorem rdNum_wide (l : List Int) (k : Nat) (s : RS) (h1 : 1 ≤ k) (h2 : k ≤ 32) : rdNum l k s = rdRun l k 0 s := by unfold rdNum; rw [if_pos (by omega)]; simp
/-- The writer's state behind i numbers. -/
def wrS (ns ss : List Int) (i : Nat) : List Int × Int := runM ([], 0) (allB (fun i => ns.getD i 0) (wide ss) i)
theorem wrS_succ (ns ss : List Int) (i : Nat) : wrS ns ss (i + 1) = runM (wrS ns ss i) (bitsOf (ns.getD i 0) (wide ss i)) := allB_next _ _ i
theorem wrS_inv (ns ss : List Int) (i : Nat) : BInv (wrS ns ss i).1 (wrS ns ss i).2 := runM_inv _ ([], 0) BInv.nil
theorem wrS_le (ns ss : List Int) (i : Nat) : (wrS ns ss i).1.length ≤ 32 * i := stN_le (fun i => ns.getD i 0) (wide ss) (wide_le ss) i
def rdN (ns ss : List Int) (i : Nat) : RS := stN (fun i => ns.getD i 0) (wide ss) i
theorem rdN_read (ns ss : List Int) (n i : Nat) (h : i < n) (t : List Int) : rdRun (outB (wrS ns ss n).1 ++ t) (wide ss i) 0 (rdN ns ss i) = (ns.getD i 0 % 2 ^ wide ss i, rdN ns ss (i + 1)) := by
  obtain ⟨u, hu⟩ := outB_app (wrS ns ss n).1
  rw [hu, List.append_assoc]
  exact rd_allB _ _ n i h (u ++ t)
theorem rdN_end (ns ss : List Int) (n : Nat) (t : List Int) : endM (outB (wrS ns ss n).1 ++ t) (rdN ns ss n).1 (rdN ns ss n).2.2 = (((outB (wrS ns ss n).1).length : Int), (0 : Int)) := end_allB _ _ n t

set_option maxRecDepth 100000 in
set_option linter.unusedSimpArgs false in
set_option maxHeartbeats 4000000 in
theorem bitsBack_short (A : Option Addr) (n c : Nat) (ns : List Int) (A' : Option Addr) (n' c' : Nat) (ss : List Int) (A2 : Option Addr) (m d : Nat) (zs : List Int) (w : World) (h : Arg .i64 8 w A n c ns) (h' : Arg .i64 8 w A' n' c' ss) (hz : Arg .u8 1 w A2 m d zs) (hm : m ≤ 50) :
    Calls Try.prog 7 #[.slice A n c, .slice A' n' c', .slice A2 m d] w fun e w' => e = .returned (.bool true) ∧ Below w.heap.size w w' := by
  obtain ⟨i0, hi0, hz0, hz1, hz2⟩ := info_parts info_u8
  have HZB := hid hz.bytes
  have HZ := hid hz
  have hcn : n ≤ 9223372036854775807 := by have := h.cap; have := h.reach; omega
  have hcn' : n' ≤ 9223372036854775807 := by have := h'.cap; have := h'.reach; omega
  have H := hid h
  have H' := hid h'
  clear h h' hz
  go_enter Try.func7, Try.ntmps7
  go_wp2_with fail
  refine (known_any w).mono ?_
  rintro e w1 ⟨rfl, hk1⟩
  go_wp2_with fail
  refine (neww_any w1).mono ?_
  rintro e w2 ⟨W, rfl, hW, hw2, hk2⟩
  have hT : OneS w W (wrS ns ss 0).1 (wrS ns ss 0).2 w2 := by
    have hs1 := hk1.size
    exact ⟨none, 0, 0, ⟨hw2.blk, own_mono hw2.own hs1⟩, by omega, hk1.trans hk2 (fun _ _ h => h), BInv.nil⟩
  have HT0 := hid hT
  clear hT hw2 hk1 hk2 hW
  go_upto_region 6 with fail
  go_cut [8] (fun v wx => ∃ N : Nat, v = .int .i64 N ∧ N ≤ n ∧ N ≤ n' ∧ N ≤ 40 ∧ wx = w2)
  case first =>
    go_wp2_with fail
    all_goals (go_meet; first | exact ⟨40, rfl, by omega, by omega, by omega, rfl⟩ | exact ⟨n, rfl, by omega, by omega, by omega, rfl⟩ | exact ⟨n', rfl, by omega, by omega, by omega, rfl⟩)
  case rest =>
    obtain ⟨N, rfl, hN1, hN2, hN3, hw⟩ := hcut
    obtain rfl : w2 = wc := hw.symm
    clear hw
    go_wp2_with fail
    go_loopw [9] (fun v wr => ∃ i : Nat, i ≤ N ∧ v = .int .i64 i ∧ Hid (OneS w W (wrS ns ss i).1 (wrS ns ss i).2 wr)) (fun v _ => N - (intOf v).toNat)
    case atStart => exact ⟨0, by omega, rfl, HT0⟩
    case round =>
      obtain ⟨i, hi, rfl, HTS⟩ := hrel
      clear HT0
      obtain ⟨A1, n1, c1, ht⟩ := HTS.out
      have HT := hid ht
      have hlr := wrS_le ns ss i
      by_cases hlt : i < N
      · have hin : i < n := by omega
        have hin' : i < n' := by omega
        obtain ⟨b1, o1, rfl, hc1⟩ := (H.out.rd.keep ht.keep (fun _ _ h => h)).int_ix hin
        obtain ⟨b2, o2, rfl, hc2⟩ := (H'.out.rd.keep ht.keep (fun _ _ h => h)).int_ix hin'
        clear ht HTS
        have hwd := wide_eq ss i
        have hw32 := wide_le ss i
        have HS := hid (wrS_succ ns ss i)
        have HNB := hid (numB_wide (ns.getD i 0) (wide ss i) (by omega) hw32)
        generalize wide ss i = k at *
        generalize ns.getD i 0 = x at *
        generalize ss.getD i 0 = s at *
        generalize hs2 : wrS ns ss (i + 1) = S2 at *
        have HS2 := hid hs2
        clear hs2
        generalize wrS ns ss i = S at *
        have HWD := hid hwd
        have hq1 : 0 ≤ s % 32 := by omega
        have hq2 : s % 32 < 32 := by omega
        have hqw : IntKind.i64.wrap (1 + s % 32) = 1 + s % 32 := IntWalk.i64_in _ (by omega)
        clear hwd
        go_wp2_with fail
        -- region 10: 12 operations
        refine At.start (L := #[false, false, false, false, false, false, false, false, false, false, false, false]) (by kernel_rfl) rfl ?_
        refine At.pure 0 (some 32) (v := ?v0) rfl rfl (by kernel_rfl) (fun _ _ _ h => h) rfl (fun w' => ?y0) ?_   
        case y0 => go_simp; try with_reducible rfl
        try simp only [Act.put, List.setIfInBounds_toArray, List.set_cons_zero, List.set_cons_succ]
        refine At.pure 1 (some 33) (v := ?v1) rfl rfl (by kernel_rfl) (fun _ _ _ h => h) rfl (fun w' => ?y1) ?_   
        case y1 => go_simp; try with_reducible rfl
        try simp only [Act.put, List.setIfInBounds_toArray, List.set_cons_zero, List.set_cons_succ]
        refine At.pure 2 (some 34) (v := ?v2) rfl rfl (by kernel_rfl) (fun _ _ _ h => h) rfl (fun w' => ?y2) ?_   
        case y2 => go_simp; try with_reducible rfl
        try simp only [Act.put, List.setIfInBounds_toArray, List.set_cons_zero, List.set_cons_succ]
        refine At.pure 3 (some 35) (v := ?v3) rfl rfl (by kernel_rfl) (fun _ _ _ h => h) rfl (fun w' => ?y3) ?_   
        case y3 => go_simp; try with_reducible rfl
        try simp only [Act.put, List.setIfInBounds_toArray, List.set_cons_zero, List.set_cons_succ]
        refine At.read 4 (some 36) (fun w' => w'.cell? ⟨b1, o1 + i, none⟩ = some (.int .i64 x)) (v := (.int .i64 x)) rfl rfl (by kernel_rfl) (fun _ _ _ h => h) rfl hc1 (fun w' hw' => ?y4) ?_   
        case y4 => skip; go_simp; try with_reducible rfl
        try simp only [Act.put, List.setIfInBounds_toArray, List.set_cons_zero, List.set_cons_succ]
        refine At.pure 5 (some 37) (v := ?v5) rfl rfl (by kernel_rfl) (fun _ _ _ h => h) rfl (fun w' => ?y5) ?_   
        case y5 => go_simp; try with_reducible rfl
        try simp only [Act.put, List.setIfInBounds_toArray, List.set_cons_zero, List.set_cons_succ]
        refine At.pure 6 (some 38) (v := ?v6) rfl rfl (by kernel_rfl) (fun _ _ _ h => h) rfl (fun w' => ?y6) ?_   
        case y6 => go_simp; try with_reducible rfl
        try simp only [Act.put, List.setIfInBounds_toArray, List.set_cons_zero, List.set_cons_succ]
        refine At.pure 7 (some 39) (v := ?v7) rfl rfl (by kernel_rfl) (fun _ _ _ h => h) rfl (fun w' => ?y7) ?_   
        case y7 => go_simp; try with_reducible rfl
        try simp only [Act.put, List.setIfInBounds_toArray, List.set_cons_zero, List.set_cons_succ]
        refine At.read 8 (some 40) (fun w' => w'.cell? ⟨b2, o2 + i, none⟩ = some (.int .i64 s)) (v := (.int .i64 s)) rfl rfl (by kernel_rfl) (fun _ _ _ h => h) rfl hc2 (fun w' hw' => ?y8) ?_   
        case y8 => skip; go_simp; try with_reducible rfl
        try simp only [Act.put, List.setIfInBounds_toArray, List.set_cons_zero, List.set_cons_succ]
        refine At.call 9 (pend' := [(4, (fun w' => w'.cell? ⟨b1, o1 + i, none⟩ = some (.int .i64 x)))]) rfl (by kernel_rfl) rfl (by kernel_rfl) (fun K hK => ?_)   
        go_simp
        refine (within_any s 32 _ (by omega) (by omega)).mono ?_
        rintro e w9 ⟨rfl, rfl⟩
        refine hK _ _ (all_cons hc1 all_nil) ?_
        clear hK K
        try simp only [Act.put, List.setIfInBounds_toArray, List.set_cons_zero, List.set_cons_succ]
        refine At.pure 10 (some 42) (v := ?v10) rfl rfl (by kernel_rfl) (fun _ _ _ h => h) rfl (fun w' => ?y10) ?_   
        case y10 => go_simp; try with_reducible rfl
        try simp only [Act.put, List.setIfInBounds_toArray, List.set_cons_zero, List.set_cons_succ]
        refine At.call 11 (pend' := []) rfl (by kernel_rfl) rfl (by kernel_rfl) (fun K hK => ?_)   
        go_simp
        refine (bits_any _ w.heap.size W A1 n1 c1 S.1 S.2 x (1 + s % 32) HT.out.drew.wr HT.out.inv HT.out.drew.keep.size (by have := HT.out.wr.len; omega)).mono ?_
        rintro e w4 ⟨A3, n3, c3, rfl, h4, hg4, hk4⟩
        refine hK _ _ all_nil ?_
        clear hK K
        try simp only [Act.put, List.setIfInBounds_toArray, List.set_cons_zero, List.set_cons_succ]
        refine At.done (by kernel_rfl) ?_
        rw [← HWD.out, HNB.out] at h4
        have hrun : runM (S.1, S.2) (bitsOf x k) = S2 := HS.out.symm
        rw [hrun] at h4
        have HI := hid (show BInv S2.1 S2.2 by rw [← HS2.out]; exact wrS_inv ns ss (i + 1))
        have HO := hid (HT.out.drew.next h4 hk4 HI.out)
        clear h4 hk4 hg4 hrun hqw
        go_wp2_with fail
        go_roundw
        case rel => exact ⟨i + 1, by omega, by go_num, hid ⟨_, _, _, by rw [HS2.out]; exact HO.out⟩⟩
        case measure => simp [intOf]; omega
      · obtain rfl : N = i := by omega
        clear ht HTS
        go_wp2_with fail
        refine (bytes_any wr w.heap.size W A1 n1 c1 _ _ HT.out.wr (by have := HT.out.wr.len; omega)).mono ?_
        rintro e w3 ⟨A3, n3, c3, rfl, hown3, hk3⟩
        have hl3 : (outB (wrS ns ss N).1).length ≤ 2000 := by have := outB_le (wrS ns ss N).1; omega
        have hk03 := HT.out.keep.trans hk3 (fun _ _ h => h)
        have hn3 : (outB (wrS ns ss N).1).length = n3 := by have := hown3.1; simpa using this
        have hb3 := outB_bytes (wrS_inv ns ss N).bytes
        have hbz : Bytes (outB (wrS ns ss N).1 ++ zs) := fun z hz => by
          rcases List.mem_append.1 hz with hz | hz
          · exact hb3 z hz
          · exact HZB.out z hz
        have HBZ := hid hbz
        have HRD := hid (fun j (hj : j < N) => rdN_read ns ss N j hj zs)
        have HEN := hid (rdN_end ns ss N zs)
        have hrd3 := Rd.of_own hown3
        have hrdz := HZ.out.rd.keep hk03 (fun _ _ h => h)
        clear hk3 hown3 HT hb3 hbz
        generalize outB (wrS ns ss N).1 = b at *
        have HN := hid hn3
        rw [hn3] at hl3
        have hs03 := hk03.size
        clear hn3
        go_wp2_with (
          at_builtin
          first
          | (refine wpList_append_src _ rfl (.tmp 46) (.tmp 47) _ rfl w3.heap.size 5 i0 _ 1 Try.underlying31 hi0 hz0 hz1 hz2 rfl
              (World.ownsRow_made w3 #[] 0 (Nat.le_refl _) (by simp [maxLen]) rfl) rfl (hrd3.alloc _) rfl (oneCell_ints _ _) (by simp only [maxLen]; omega) (by omega) (by simp) ?_
             intro v5 w5 hown5 hg5 hat5 _hold5
             simp only [Nat.zero_add, List.nil_append] at hown5
             have hk5 : Keep (fun _ => False) w3 w5 := ((Keep.refl _ w3).alloc _).grown hg5 (fun k hk => by simp [Value.ownBlock] at hk; omega)
             have hrdz5 := hrdz.keep hk5 (fun _ _ h => h))
          | (refine wpList_append_src _ rfl (.tmp 48) (.tmp 49) _ rfl w3.heap.size 5 i0 _ 1 Try.underlying31 hi0 hz0 hz1 hz2 rfl
              hown5 rfl hrdz5 rfl (oneCell_ints _ _) (by simp only [maxLen]; omega) (by omega) hk5.size ?_
             intro v6 w6 hown6 hg6 hat6 _hold6
             obtain ⟨A6, c6, rfl⟩ := own_form hown6)
          )
        have hk6 : Keep (fun _ => False) w3 w6 := hk5.new (Keep.refl (fun k => v5.ownBlock = some k) w5 |>.grown hg6 (fun k hk => .inl hk)) (fun k hk => (hown5.lt k hk).1)
        have hrd6 := Rd.of_own hown6
        rw [← List.map_append] at hrd6
        refine (newr_any w6 A6 (n3 + m) c6 (b ++ zs) hrd6 (by omega)).mono ?_
        rintro e w7 ⟨R, A7, c7, rfl, hR, hr7, hk7⟩
        have hk07 := (hk03.trans hk6 (fun _ _ h => h)).trans hk7 (fun _ _ h => h)
        have hs6 := hk6.size
        have HR0 := hid (show RrS w7 w.heap.size R A7 (n3 + m) c7 (b ++ zs) (rdN ns ss 0) from ⟨hr7.blk, own_mono hr7.own (by omega)⟩)
        have HK7 := hid hk07
        have hRw : w.heap.size ≤ R := by omega
        clear hk03 hrd3 hrdz hrdz5 hown5 hg5 hat5 hk5 hown6 hg6 hat6 hk6 hrd6 hr7 hk7 hk07 hR hs03 hs6
        generalize b ++ zs = bz at *
        go_wp2_with fail
        go_loopw [12] (fun v wr => ∃ j : Nat, j ≤ N ∧ v = .int .i64 j ∧ Hid (RrS wr w.heap.size R A7 (n3 + m) c7 bz (rdN ns ss j)) ∧ Hid (Keep (fun _ => False) w wr)) (fun v _ => N - (intOf v).toNat)
        case atStart => exact ⟨0, by omega, rfl, HR0, HK7⟩
        case round =>
          obtain ⟨j, hj, rfl, HR, HK⟩ := hrel
          clear HR0 HK7
          have hle : (rdN ns ss j).1 ≤ 32 * j := stN_le _ _ (wide_le ss) j
          have hinv : 0 ≤ (rdN ns ss j).2.1 ∧ (rdN ns ss j).2.1 ≤ 8 := stN_inv _ _ j
          by_cases hlt : j < N
          · have hin : j < n := by omega
            have hin' : j < n' := by omega
            obtain ⟨b1, o1, rfl, hc1⟩ := (H.out.rd.keep HK.out (fun _ _ h => h)).int_ix hin
            obtain ⟨b2, o2, rfl, hc2⟩ := (H'.out.rd.keep HK.out (fun _ _ h => h)).int_ix hin'
            have hbl : b1 < w.heap.size := H.out.rd.lt (by omega) _ rfl
            have hwd := wide_eq ss j
            have hw32 := wide_le ss j
            have hrj := HRD.out j hlt
            rw [← rdNum_wide _ (wide ss j) _ (by omega) hw32] at hrj
            have hc := fun (w' : World) (h' : RrS w' w.heap.size R A7 (n3 + m) c7 bz (rdN ns ss j)) => rdbits_any w' w.heap.size R A7 (n3 + m) c7 bz (rdN ns ss j) (wide ss j : Nat) h' HBZ.out hinv (by omega)
            rw [hrj] at hc
            have HC := hid hc
            have HAND := hid (mask_at (ns.getD j 0) (wide ss j) hw32)
            clear hc hrj hinv hle
            generalize wide ss j = k at *
            generalize ns.getD j 0 = x at *
            generalize ss.getD j 0 = s at *
            generalize hs2 : rdN ns ss (j + 1) = S2 at *
            have HS2 := hid hs2
            clear hs2
            generalize rdN ns ss j = S at *
            have HWD := hid hwd
            clear hwd
            go_wp2_with fail
            refine (within_any s 32 _ (by omega) (by omega)).mono ?_
            rintro e w9 ⟨rfl, rfl⟩
            go_wp2_with fail
            rw [← HWD.out]
            -- region 17: 13 operations
            refine At.start (L := #[false, false, false, false, false, false, false, false, false, false, false, false, false]) (by kernel_rfl) rfl ?_
            refine At.pure 0 (some 63) (v := ?v0b) rfl rfl (by kernel_rfl) (fun _ _ _ h => h) rfl (fun w' => ?y0b) ?_   
            case y0b => go_simp; try with_reducible rfl
            try simp only [Act.put, List.setIfInBounds_toArray, List.set_cons_zero, List.set_cons_succ]
            refine At.pure 1 (some 64) (v := ?v1b) rfl rfl (by kernel_rfl) (fun _ _ _ h => h) rfl (fun w' => ?y1b) ?_   
            case y1b => go_simp; try with_reducible rfl
            try simp only [Act.put, List.setIfInBounds_toArray, List.set_cons_zero, List.set_cons_succ]
            refine At.pure 3 (some 66) (v := ?v3b) rfl rfl (by kernel_rfl) (fun _ _ _ h => h) rfl (fun w' => ?y3b) ?_   
            case y3b => go_simp; try with_reducible rfl
            try simp only [Act.put, List.setIfInBounds_toArray, List.set_cons_zero, List.set_cons_succ]
            refine At.pure 4 (some 67) (v := ?v4b) rfl rfl (by kernel_rfl) (fun _ _ _ h => h) rfl (fun w' => ?y4b) ?_   
            case y4b => go_simp; try with_reducible rfl
            try simp only [Act.put, List.setIfInBounds_toArray, List.set_cons_zero, List.set_cons_succ]
            refine At.pure 5 (some 68) (v := ?v5b) rfl rfl (by kernel_rfl) (fun _ _ _ h => h) rfl (fun w' => ?y5b) ?_   
            case y5b => go_simp; try with_reducible rfl
            try simp only [Act.put, List.setIfInBounds_toArray, List.set_cons_zero, List.set_cons_succ]
            refine At.read 6 (some 69) (fun w' => w'.cell? ⟨b1, o1 + j, none⟩ = some (.int .i64 x)) (v := (.int .i64 x)) rfl rfl (by kernel_rfl) (fun _ _ _ h => h) rfl hc1 (fun w' hw' => ?y6b) ?_   
            case y6b => skip; go_simp; try with_reducible rfl
            try simp only [Act.put, List.setIfInBounds_toArray, List.set_cons_zero, List.set_cons_succ]
            refine At.pure 7 (some 70) (v := ?v7b) rfl rfl (by kernel_rfl) (fun _ _ _ h => h) rfl (fun w' => ?y7b) ?_   
            case y7b => go_simp; try with_reducible rfl
            try simp only [Act.put, List.setIfInBounds_toArray, List.set_cons_zero, List.set_cons_succ]
            refine At.pure 8 (some 71) (v := ?v8b) rfl rfl (by kernel_rfl) (fun _ _ _ h => h) rfl (fun w' => ?y8b) ?_   
            case y8b => go_simp; try with_reducible rfl
            try simp only [Act.put, List.setIfInBounds_toArray, List.set_cons_zero, List.set_cons_succ]
            refine At.pure 9 (some 72) (v := ?v9b) rfl rfl (by kernel_rfl) (fun _ _ _ h => h) rfl (fun w' => ?y9b) ?_   
            case y9b => go_simp; try with_reducible rfl
            try simp only [Act.put, List.setIfInBounds_toArray, List.set_cons_zero, List.set_cons_succ]
            refine At.pure 10 (some 73) (v := ?v10b) rfl rfl (by kernel_rfl) (fun _ _ _ h => h) rfl (fun w' => ?y10b) ?_   
            case y10b => go_simp; try with_reducible rfl
            try simp only [Act.put, List.setIfInBounds_toArray, List.set_cons_zero, List.set_cons_succ]
            refine At.pure 11 (some 74) (v := ?v11b) rfl rfl (by kernel_rfl) (fun _ _ _ h => h) rfl (fun w' => ?y11b) ?_   
            case y11b => go_simp; try with_reducible rfl
            try simp only [Act.put, List.setIfInBounds_toArray, List.set_cons_zero, List.set_cons_succ]
            refine At.call 2 (pend' := [(6, (fun w' => w'.cell? ⟨b1, o1 + j, none⟩ = some (.int .i64 x)))]) rfl (by kernel_rfl) rfl (by kernel_rfl) (fun K hK => ?_)   
            go_simp
            refine (HC.out _ (Rr.aside HR.out (Keep.refl (fun _ => False) wr).drew)).mono ?_
            rintro e w5 ⟨rfl, h5, hk5⟩
            refine hK _ _ (all_cons (hk5.cell hc1 (fun e => by simp at e; omega)) all_nil) ?_
            clear hK K
            try simp only [Act.put, List.setIfInBounds_toArray, List.set_cons_zero, List.set_cons_succ]
            refine At.pure 12 (some 75) (v := ?v12b) rfl rfl (by kernel_rfl) (fun _ _ _ h => h) rfl (fun w' => ?y12b) ?_   
            case y12b => go_simp; try with_reducible rfl
            try simp only [Act.put, List.setIfInBounds_toArray, List.set_cons_zero, List.set_cons_succ]
            refine At.done (by kernel_rfl) ?_
            rw [HAND.out]
            have H5 := hid h5
            have HK5 := hid (HK.out.new hk5.undrew (fun k e => by omega))
            clear h5 hk5
            go_wp2_with fail
            go_roundw
            case rel => exact ⟨j + 1, by omega, by go_num, by rw [HS2.out]; exact H5, HK5⟩
            case measure => simp [intOf]; omega
          · obtain rfl : N = j := by omega
            have HEN2 := hid HEN.out
            go_wp2_with fail
            refine (end_any wr w.heap.size R A7 (n3 + m) c7 bz (rdN ns ss N).1 (rdN ns ss N).2.1 (rdN ns ss N).2.2 HR.out (by omega)).mono ?_
            rintro e w9 ⟨rfl, _, hk9⟩
            rw [HEN2.out, HN.out]
            have HK9 := hid (HK.out.trans hk9 (fun _ _ h => h))
            clear hk9
            go_wp2_with fail
            go_ret
            exact ⟨rfl, HK9.out.below (Nat.le_refl _) (fun _ h => h.elim)⟩

set_option maxHeartbeats 400000 in
theorem bitsBack_walk (A : Option Addr) (n c : Nat) (ns : List Int) (A' : Option Addr) (n' c' : Nat) (ss : List Int) (A2 : Option Addr) (m d : Nat) (zs : List Int) (w : World) (h : Arg .i64 8 w A n c ns) (h' : Arg .i64 8 w A' n' c' ss) (hz : Arg .u8 1 w A2 m d zs) :
    Calls Try.prog 7 #[.slice A n c, .slice A' n' c', .slice A2 m d] w fun e w' => e = .returned (.bool true) ∧ Below w.heap.size w w' := by
  by_cases hn : m ≤ 50
  · exact bitsBack_short A n c ns A' n' c' ss A2 m d zs w h h' hz hn
  · have hn' : ¬ (m : Int) ≤ 50 := by omega
    go_enter Try.func7, Try.ntmps7
    go_wp2_with fail
    refine (known_any w).mono ?_
    rintro e w1 ⟨rfl, hk1⟩
    go_wp2_with fail
    go_ret
    exact ⟨rfl, hk1.below (Nat.le_refl _) (fun _ h => h.elim)⟩
end Go.Proofs.Ytnhciiljdmgcjaa
