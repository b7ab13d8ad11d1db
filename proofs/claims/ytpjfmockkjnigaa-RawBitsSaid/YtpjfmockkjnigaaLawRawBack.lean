/-
  RawBack: the walk. Conditions: none.
-/
import Derived.Test.YtpjfmockkjnigaaLawRaw
import Derived.Test.YtpjfmockkjnigaaCompat
import Derived.WalkLawsBesides
namespace Go.Proofs.Ytpjfmockkjnigaa
open Go.RowKit

/-- The program's writer; all it holds is new. -/
structure One (w0 : World) (W : Nat) (A : Option Addr) (n c : Nat) (l : List Int) (r : Int) (w : World) : Prop where
  wr : Wr w w0.heap.size W A n c l r
  hW : w0.heap.size ≤ W
  keep : Keep (fun _ => False) w0 w
theorem One.footW {w0 w : World} {W : Nat} {A : Option Addr} {n c : Nat} {l : List Int} {r : Int} (h : One w0 W A n c l r w) (k : Nat) (hk : foot W A k) : w0.heap.size ≤ k := by
  rcases hk with rfl | ⟨ad, e, rfl⟩
  · exact h.hW
  · exact (own_foot_lt h.wr.own ad e).1
theorem One.next {w0 w w1 : World} {W : Nat} {A A1 : Option Addr} {n c n1 c1 : Nat} {l l1 : List Int} {r r1 : Int} (h : One w0 W A n c l r w)
    (h1 : Wr w1 w0.heap.size W A1 n1 c1 l1 r1) (k1 : Keep (foot W A) w w1) : One w0 W A1 n1 c1 l1 r1 w1 := ⟨h1, h.hW, h.keep.new k1 h.footW⟩
def OneS (w0 : World) (W : Nat) (s : List Int × Int) (w : World) : Prop := ∃ A n c, One w0 W A n c s.1 s.2 w

/-- Behind a 255 nothing above 127; the last one is not 255. -/
def Stuffed (l : List Int) : Prop := (∀ i, i + 1 < l.length → l.getD i 0 = 255 → l.getD (i + 1) 0 ≤ 127) ∧ lastM l ≠ 255
theorem getD_front (l : List Int) (i : Nat) (h : i + 1 < l.length) : l.dropLast.getD i 0 = l.getD i 0 := by
  rw [List.getD_eq_getElem?_getD, List.getD_eq_getElem?_getD, List.getElem?_dropLast, if_pos (by omega)]
theorem BInv.flush {l : List Int} {r : Int} (h : BInv l r) : Stuffed (flushM l) := by
  unfold flushM
  by_cases hz : lastM l = 255
  · rw [if_pos hz]
    refine ⟨fun i hi he => ?_, fun he => ?_⟩
    · simp at hi
      rw [getD_front l i (by omega)] at he
      rw [getD_front l (i + 1) (by omega)]
      exact h.stuffed i (by omega) he
    · rcases Nat.lt_or_ge 1 l.length with h1 | h1
      · have e : lastM l.dropLast = l.getD (l.length - 2) 0 := by
          unfold lastM
          rw [List.length_dropLast, getD_front l _ (by omega)]
          congr 1
        rw [e] at he
        have := h.stuffed (l.length - 2) (by omega) he
        have e2 : l.length - 2 + 1 = l.length - 1 := by omega
        rw [e2] at this
        unfold lastM at hz
        omega
      · have : l.dropLast = [] := List.eq_nil_of_length_eq_zero (by simp; omega)
        rw [this] at he
        exact absurd he (by decide)
  · rw [if_neg hz]
    exact ⟨h.stuffed, hz⟩
theorem flush_bytes {l : List Int} (h : Bytes l) : Bytes (flushM l) := by
  unfold flushM
  split
  · exact fun z hz => h z ((List.dropLast_sublist l).subset hz)
  · exact h
/-- What is flushed agrees with what was written. -/
theorem compat_flush (l : List Int) (r : Int) : Compat (byteM (flushM l)) l r := by
  unfold flushM
  by_cases hz : lastM l = 255
  · rw [if_pos hz]
    refine ⟨fun i hi => ?_, fun hl => ?_⟩
    · unfold byteM
      rw [if_neg (by omega), if_neg (by simp; omega), Int.toNat_natCast, getD_front l i hi]
    · congr 1
      rw [hz]
      unfold byteM
      rw [if_neg (by omega), if_pos (by simp; omega)]
  · rw [if_neg hz]
    refine ⟨fun i hi => ?_, fun hl => ?_⟩
    · unfold byteM
      rw [if_neg (by omega), if_neg (by omega), Int.toNat_natCast]
    · congr 1
      unfold byteM lastM
      rw [if_neg (by omega), if_neg (by omega)]
      congr 1
      omega
theorem byteM_neg (l : List Int) : byteM l (-1) = 0 := if_pos (by omega)
theorem flushM_ge (l : List Int) : l.length ≤ (flushM l).length + 1 := by unfold flushM; split <;> simp <;> omega

theorem stepL_ge (l : List Int) (r x : Int) : l.length ≤ (stepL l r x).length := by unfold stepL; split <;> simp
theorem runM_ge (bs : List Int) : ∀ s, s.1.length ≤ (runM s bs).1.length := by
  induction bs with
  | nil => intro s; simp [runM]
  | cons b bs ih =>
    intro s
    have h1 := ih (stepM s b)
    have h2 := stepL_ge s.1 s.2 b
    show _ ≤ (runM (stepM s b) bs).1.length
    simp only [stepM] at *
    omega
theorem frontM_mono (bs : List Int) (j k : Nat) (hjk : j ≤ k) : (frontM bs j).1.length ≤ (frontM bs k).1.length := by
  have e : frontM bs k = runM (frontM bs j) ((bs.take k).drop j) := by
    unfold frontM
    rw [← runM_append]
    congr 1
    have := List.take_append_drop j (bs.take k)
    rw [List.take_take, Nat.min_eq_left hjk] at this
    exact this.symm
  rw [e]
  exact runM_ge _ _
/-- Bytes b that agree with the first k bits are read as these were. -/
theorem raw_read (bs b : List Int) (k : Nat) (hk : k ≤ bs.length) (hc : Compat (byteM b) (frontM bs k).1 (frontM bs k).2) (hl : (frontM bs k).1.length ≤ b.length + 1) (j : Nat) (hj : j < k) :
    rdL b (frontM bs j).2 (frontM bs j).1.length = (frontM bs (j + 1)).2 ∧ rdP b (frontM bs j).2 (frontM bs j).1.length = (frontM bs (j + 1)).1.length ∧ rdB b (frontM bs j).2 (frontM bs j).1.length = bs.getD j 0 % 2 := by
  obtain ⟨h1, h2, h3⟩ := Compat.read (byteM_neg b) bs j (by omega) (Compat.front_ (byteM_neg b) bs (j + 1) k (by omega) hc)
  have hm := frontM_mono bs (j + 1) k (by omega)
  have e1 : rdL b (frontM bs j).2 (frontM bs j).1.length = (frontM bs (j + 1)).2 := h1
  have e2 : rdP b (frontM bs j).2 (frontM bs j).1.length = (frontM bs (j + 1)).1.length := by
    rw [h3]
    unfold rdP
    split
    · rename_i h0
      rw [if_pos h0] at h3
      rw [Nat.min_eq_left (by omega)]
    · rfl
  refine ⟨e1, e2, ?_⟩
  unfold rdB
  rw [e1, e2]
  exact h2
theorem front_flush (bs : List Int) (k N : Nat) (hk : k ≤ N) : Compat (byteM (flushM (frontM bs N).1)) (frontM bs k).1 (frontM bs k).2 :=
  Compat.front_ (byteM_neg _) bs k N hk (compat_flush _ _)
theorem front_flush_len (bs : List Int) (k N : Nat) (hk : k ≤ N) : (frontM bs k).1.length ≤ (flushM (frontM bs N).1).length + 1 :=
  Nat.le_trans (frontM_mono bs k N hk) (flushM_ge _)
/-- The first bytes alone serve the first bits. -/
theorem compat_take {b l : List Int} {r : Int} (hc : Compat (byteM b) l r) : Compat (byteM (b.take (min l.length b.length))) l r := by
  have e : ∀ i : Nat, i < l.length → byteM (b.take (min l.length b.length)) i = byteM b i := by
    intro i hi
    have hlen : (b.take (min l.length b.length)).length = min l.length b.length := by rw [List.length_take]; omega
    unfold byteM
    by_cases h : i < b.length
    · rw [if_neg (by omega), if_neg (by rw [hlen]; omega), if_neg (by omega), if_neg (by omega), List.getD_eq_getElem?_getD, List.getD_eq_getElem?_getD, List.getElem?_take, if_pos (by omega)]
    · rw [if_neg (by omega), if_pos (by rw [hlen]; omega), if_neg (by omega), if_pos (by omega)]
  refine ⟨fun i hi => by rw [e i (by omega)]; exact hc.front i hi, fun h0 => ?_⟩
  have e2 : (l.length : Int) - 1 = ((l.length - 1 : Nat) : Int) := by omega
  rw [e2, e _ (by omega), ← e2]
  exact hc.last h0
theorem One.aside {w0 w w1 : World} {W : Nat} {A : Option Addr} {n c : Nat} {l : List Int} {r : Int} (h : One w0 W A n c l r w) (hk : Keep (fun _ => False) w w1) : One w0 W A n c l r w1 :=
  ⟨h.wr.keep hk (fun h => h) (fun _ _ h => h), h.hW, h.keep.trans hk (fun _ _ h => h)⟩
theorem lastM_at {w : World} {g n : Nat} {l : List Int} (h : ∀ j u, (l.map (Value.int .u8))[j]? = some u → w.cell? ⟨g, j, none⟩ = some u) (hl : l.length = n + 1) : w.cell? ⟨g, n, none⟩ = some (.int .u8 (lastM l)) := by
  have := h n _ (map_at _ _ n (by omega))
  unfold lastM
  rw [hl]
  exact this

set_option maxRecDepth 100000 in
set_option linter.unusedSimpArgs false in
set_option maxHeartbeats 4000000 in
theorem rawBack_walk (A : Option Addr) (n c : Nat) (ns : List Int) (w : World) (h : Arg .i64 8 w A n c ns) :
    Calls Try.prog 5 #[.slice A n c] w fun e w' => e = .returned (.bool true) ∧ Below w.heap.size w w' := by
  go_enter Try.func5, Try.ntmps5
  go_wp2_with fail
  refine (known_any w).mono ?_
  rintro e w1 ⟨rfl, hk1⟩
  go_wp2_with fail
  refine (neww_any w1).mono ?_
  rintro e w2 ⟨W, rfl, hW, hw2, hk2⟩
  have hT : OneS w W (frontM ns 0) w2 := by
    have hs1 := hk1.size
    exact ⟨none, 0, 0, ⟨hw2.blk, own_mono hw2.own hs1⟩, by omega, hk1.trans hk2 (fun _ _ h => h)⟩
  have HT0 := hid hT
  clear hT hw2 hk1 hk2 hW
  have hcn : n ≤ 9223372036854775807 := by have := h.cap; have := h.reach; omega
  have H := hid h
  clear h
  by_cases hn4 : n ≤ 400
  · have HLN := hid (show n ≤ ns.length by rw [H.out.len]; omega)
    go_wp2_with fail
    go_loopw [5] (fun v wr => ∃ i : Nat, i ≤ n ∧ v = .int .i64 i ∧ Hid (OneS w W (frontM ns i) wr)) (fun v _ => n - (intOf v).toNat)
    case atStart => exact ⟨0, by omega, rfl, HT0⟩
    case round =>
      obtain ⟨i, hi, rfl, HTS⟩ := hrel
      clear HT0
      obtain ⟨A1, n1, c1, ht⟩ := HTS.out
      have HT := hid ht
      have hlr := frontM_length ns i
      by_cases hlt : i < n
      · have hin' : i < n := by omega
        obtain ⟨b1, o1, rfl, hc1⟩ := (H.out.rd.keep ht.keep (fun _ _ h => h)).int_ix hin'
        clear ht HTS
        have HS := hid (frontM_succ ns i (by have := HLN.out; omega))
        have HI := hid (frontM_inv ns i)
        generalize ns.getD i 0 = x at *
        generalize hs2 : frontM ns (i + 1) = s2 at *
        have HS2 := hid hs2
        clear hs2
        generalize frontM ns i = s at *
        go_wp2_with fail
        refine (bit_any wr w.heap.size W A1 n1 c1 s.1 s.2 x HT.out.wr HI.out HT.out.keep.size (by have := HT.out.wr.len; omega)).mono ?_
        rintro e w4 ⟨rfl, A2, ⟨n2, c2, h4⟩, hg4, hk4⟩
        have HO := hid (HT.out.next h4 hk4)
        clear h4 hk4 hg4
        go_wp2_with fail
        go_roundw
        case rel => exact ⟨i + 1, by omega, by go_num, hid ⟨_, _, _, by rw [HS2.out, HS.out]; exact HO.out⟩⟩
        case measure => simp [intOf]; omega
      · obtain rfl : n = i := by omega
        clear ht HTS
        go_wp2_with fail
        refine (flush_any wr w.heap.size W A1 n1 c1 _ _ HT.out.wr (by have := HT.out.wr.len; omega)).mono ?_
        rintro e w3 ⟨A3, n3, c3, rfl, hown3, hk3⟩
        have hs := (frontM_inv ns n).flush
        have hl3 : (flushM (frontM ns n).1).length ≤ 500 := by have := flushM_le (frontM ns n).1; omega
        have HK := hid (HT.out.keep.trans hk3 (fun _ _ h => h))
        have hn3 : (flushM (frontM ns n).1).length = n3 := by have := hown3.1; simpa using this
        have HS := hid hs
        have HO := hid (own_mono hown3 HT.out.keep.size)
        have hown4 := fun (k : Nat) (e : (Value.slice A3 n3 c3).ownBlock = some k) => (hown3.lt k e).2
        have HB := hid (flush_bytes (frontM_inv ns n).bytes)
        have HRD := hid (fun j hj => raw_read ns _ n HLN.out (front_flush ns n n (Nat.le_refl _)) (front_flush_len ns n n (Nat.le_refl _)) j hj)
        have HLE := hid (fun j (hj : j ≤ n) => front_flush_len ns j n hj)
        have HOlt := hid hown4
        clear hs hk3 hown3 HT hown4
        generalize flushM (frontM ns n).1 = b at *
        have HN := hid hn3
        rw [hn3] at hl3
        clear hn3
        go_wp2_with fail
        refine (newr_any w3 A3 n3 c3 b (Rd.of_own HO.out) (by omega)).mono ?_
        rintro e w4 ⟨R, A4, c4, rfl, hR, hr4, hk4⟩
        have hks := HK.out.size
        have HR0 := hid (show Rr w4 w.heap.size R A4 n3 c4 b (frontM ns 0).2 (frontM ns 0).1.length from ⟨hr4.blk, own_mono hr4.own hks⟩)
        have HO4 := hid (own_keep HO.out hk4 (fun _ _ h => h))
        have HK4 := hid (HK.out.trans hk4 (fun _ _ h => h))
        have hRw : w.heap.size ≤ R := by omega
        clear hr4 hk4
        go_wp2_with fail
        go_loopw [8] (fun v wr => ∃ j : Nat, j ≤ n ∧ v = .int .i64 j ∧ Hid (Rr wr w.heap.size R A4 n3 c4 b (frontM ns j).2 (frontM ns j).1.length) ∧ Hid (wr.ownsRow w.heap.size 5 1 (.slice A3 n3 c3) n3 (b.map (Value.int .u8))) ∧ Hid (Keep (fun _ => False) w wr)) (fun v _ => n - (intOf v).toNat)
        case atStart => exact ⟨0, by omega, rfl, HR0, HO4, HK4⟩
        case round =>
          obtain ⟨j, hj, rfl, HR, HOJ, HKJ⟩ := hrel
          clear HR0 HO4 HK4 HO HK
          by_cases hjn : j < n
          · obtain ⟨b1, o1, rfl, hc1⟩ := (H.out.rd.keep HKJ.out (fun _ _ h => h)).int_ix (show j < n by omega)
            have hbl : b1 < w.heap.size := H.out.rd.lt (by omega) _ rfl
            have hjn' : j < n := by omega
            have hj1 := HRD.out j hjn
            have hle := HLE.out j hj
            rw [HN.out] at hle
            have hi := frontM_inv ns j
            have hc := fun (w' : World) (h' : Rr w' w.heap.size R A4 n3 c4 b (frontM ns j).2 (frontM ns j).1.length) => rd_any w' w.heap.size R A4 n3 c4 b (frontM ns j).2 (frontM ns j).1.length h' (by omega) HB.out hi.r0 (by have := hi.r7; omega) hle
            rw [hj1.1, hj1.2.1, hj1.2.2] at hc
            have HC := hid hc
            have ha := and_one (ns.getD j 0)
            clear hc hj1 hi hle
            generalize ns.getD j 0 = x at *
            generalize hs2 : frontM ns (j + 1) = s2 at *
            have HS2 := hid hs2
            clear hs2
            generalize frontM ns j = s at *
            go_wp2_with fail
            -- region 14: 8 operations
            refine At.start (L := #[false, false, false, false, false, false, false, false]) (by kernel_rfl) rfl ?_
            refine At.pure 0 (some 36) (v := ?v0n) rfl rfl (by kernel_rfl) (fun _ _ _ h => h) rfl (fun w' => ?y0n) ?_   
            case y0n => go_simp; try with_reducible rfl
            try simp only [Act.put, List.setIfInBounds_toArray, List.set_cons_zero, List.set_cons_succ]
            refine At.pure 2 (some 38) (v := ?v2n) rfl rfl (by kernel_rfl) (fun _ _ _ h => h) rfl (fun w' => ?y2n) ?_   
            case y2n => go_simp; try with_reducible rfl
            try simp only [Act.put, List.setIfInBounds_toArray, List.set_cons_zero, List.set_cons_succ]
            refine At.pure 3 (some 39) (v := ?v3n) rfl rfl (by kernel_rfl) (fun _ _ _ h => h) rfl (fun w' => ?y3n) ?_   
            case y3n => go_simp; try with_reducible rfl
            try simp only [Act.put, List.setIfInBounds_toArray, List.set_cons_zero, List.set_cons_succ]
            refine At.pure 4 (some 40) (v := ?v4n) rfl rfl (by kernel_rfl) (fun _ _ _ h => h) rfl (fun w' => ?y4n) ?_   
            case y4n => go_simp; try with_reducible rfl
            try simp only [Act.put, List.setIfInBounds_toArray, List.set_cons_zero, List.set_cons_succ]
            refine At.read 5 (some 41) (fun w' => w'.cell? ⟨b1, o1 + j, none⟩ = some (.int .i64 x)) (v := (.int .i64 x)) rfl rfl (by kernel_rfl) (fun _ _ _ h => h) rfl hc1 (fun w' hw' => ?y5n) ?_   
            case y5n => skip; go_simp; try with_reducible rfl
            try simp only [Act.put, List.setIfInBounds_toArray, List.set_cons_zero, List.set_cons_succ]
            refine At.pure 6 (some 42) (v := ?v6n) rfl rfl (by kernel_rfl) (fun _ _ _ h => h) rfl (fun w' => ?y6n) ?_   
            case y6n => go_simp; try with_reducible rfl
            try simp only [Act.put, List.setIfInBounds_toArray, List.set_cons_zero, List.set_cons_succ]
            refine At.call 1 (pend' := [(5, (fun w' => w'.cell? ⟨b1, o1 + j, none⟩ = some (.int .i64 x)))]) rfl (by kernel_rfl) rfl (by kernel_rfl) (fun K hK => ?_)   
            go_simp
            refine (HC.out _ (HR.out.keep (Keep.refl (fun _ => False) wr).drew (fun h => h) (fun _ _ h => h))).mono ?_
            rintro e w5 ⟨rfl, h5, hk5⟩
            refine hK _ _ (all_cons (hk5.cell hc1 (fun e => by simp at e; omega)) all_nil) ?_
            clear hK K
            try simp only [Act.put, List.setIfInBounds_toArray, List.set_cons_zero, List.set_cons_succ]
            refine At.pure 7 (some 43) (v := ?v7n) rfl rfl (by kernel_rfl) (fun _ _ _ h => h) rfl (fun w' => ?y7n) ?_   
            case y7n => go_simp; try with_reducible rfl
            try simp only [Act.put, List.setIfInBounds_toArray, List.set_cons_zero, List.set_cons_succ]
            refine At.done (by kernel_rfl) ?_
            have H5 := hid h5
            have hk5' := hk5.undrew
            have HO5 := hid (own_keep HOJ.out hk5' (fun k e hx => by have := HOlt.out k e; omega))
            have HK5 := hid (HKJ.out.new hk5' (fun k e => by omega))
            clear h5 hk5 hk5' ha
            go_wp2_with fail
            go_roundw
            case rel => exact ⟨j + 1, by omega, by go_num, by rw [HS2.out]; exact H5, HO5, HK5⟩
            case measure => simp [intOf]; omega
          · go_wp2_with fail
            go_loop [9] (fun v => ∃ j : Nat, j ≤ n3 ∧ v = .int .i64 j) (fun v => n3 - (intOf v).toNat)
            case atStart => exact ⟨0, by omega, rfl⟩
            case round =>
              clear hj hjn
              obtain ⟨j, hj, rfl⟩ := hrel
              by_cases hlt : j + 1 < n3
              · obtain ⟨g, rfl, hgc, hgb, hgl, _⟩ := own_at HOJ.out (by omega)
                have g0 : wr.cell? ⟨g, j, none⟩ = some (.int .u8 (b.getD j 0)) := hgl j _ (map_at _ _ j (by rw [HN.out]; omega))
                have g1 : wr.cell? ⟨g, j + 1, none⟩ = some (.int .u8 (b.getD (j + 1) 0)) := hgl (j + 1) _ (map_at _ _ (j + 1) (by rw [HN.out]; omega))
                have hst := HS.out.1 j (by rw [HN.out]; omega)
                clear hgl
                generalize b.getD j 0 = y at *
                generalize b.getD (j + 1) 0 = z at *
                by_cases hy : y = 255
                · have hz := hst hy
                  clear hst
                  subst hy
                  go_wp2_with fail
                  go_round
                  case rel => exact ⟨j + 1, by omega, by go_num⟩
                  case measure => simp [intOf]; omega
                · have hy' : (y == 255) = false := by simpa using hy
                  clear hst
                  go_wp2_with fail
                  go_round
                  case rel => exact ⟨j + 1, by omega, by go_num⟩
                  case measure => simp [intOf]; omega
              · by_cases h0 : n3 = 0
                · have h0' : (((n3 : Nat) : Int) == 0) = true := by simp [h0]
                  go_wp2_with fail
                  go_ret
                  exact ⟨rfl, HKJ.out.below (Nat.le_refl _) (fun _ h => h.elim)⟩
                · obtain ⟨m, rfl⟩ : ∃ m, n3 = m + 1 := ⟨n3 - 1, by omega⟩
                  obtain ⟨g, rfl, hgc, hgb, hgl, _⟩ := own_at HOJ.out (by omega)
                  have g0 : wr.cell? ⟨g, m, none⟩ = some (.int .u8 (lastM b)) := lastM_at hgl HN.out
                  have hz' : (lastM b != 255) = true := by simpa using HS.out.2
                  have wm : IntKind.i64.wrap (((m + 1 : Nat) : Int) - 1) = (m : Int) := by rw [IntWalk.i64_in _ (by omega)]; omega
                  clear hgl
                  generalize lastM b = z at *
                  go_wp2_with fail
                  go_ret
                  exact ⟨rfl, HKJ.out.below (Nat.le_refl _) (fun _ h => h.elim)⟩
  · have hn5 : 400 < n := by omega
    have HLN := hid (show 400 ≤ ns.length by rw [H.out.len]; omega)
    go_wp2_with fail
    go_loopw [5] (fun v wr => ∃ i : Nat, i ≤ 400 ∧ v = .int .i64 i ∧ Hid (OneS w W (frontM ns i) wr)) (fun v _ => 400 - (intOf v).toNat)
    case atStart => exact ⟨0, by omega, rfl, HT0⟩
    case round =>
      obtain ⟨i, hi, rfl, HTS⟩ := hrel
      clear HT0
      obtain ⟨A1, n1, c1, ht⟩ := HTS.out
      have HT := hid ht
      have hlr := frontM_length ns i
      by_cases hlt : i < 400
      · have hin' : i < n := by omega
        obtain ⟨b1, o1, rfl, hc1⟩ := (H.out.rd.keep ht.keep (fun _ _ h => h)).int_ix hin'
        clear ht HTS
        have HS := hid (frontM_succ ns i (by have := HLN.out; omega))
        have HI := hid (frontM_inv ns i)
        generalize ns.getD i 0 = x at *
        generalize hs2 : frontM ns (i + 1) = s2 at *
        have HS2 := hid hs2
        clear hs2
        generalize frontM ns i = s at *
        go_wp2_with fail
        refine (bit_any wr w.heap.size W A1 n1 c1 s.1 s.2 x HT.out.wr HI.out HT.out.keep.size (by have := HT.out.wr.len; omega)).mono ?_
        rintro e w4 ⟨rfl, A2, ⟨n2, c2, h4⟩, hg4, hk4⟩
        have HO := hid (HT.out.next h4 hk4)
        clear h4 hk4 hg4
        go_wp2_with fail
        go_roundw
        case rel => exact ⟨i + 1, by omega, by go_num, hid ⟨_, _, _, by rw [HS2.out, HS.out]; exact HO.out⟩⟩
        case measure => simp [intOf]; omega
      · obtain rfl : 400 = i := by omega
        clear ht HTS
        go_wp2_with fail
        refine (flush_any wr w.heap.size W A1 n1 c1 _ _ HT.out.wr (by have := HT.out.wr.len; omega)).mono ?_
        rintro e w3 ⟨A3, n3, c3, rfl, hown3, hk3⟩
        have hs := (frontM_inv ns 400).flush
        have hl3 : (flushM (frontM ns 400).1).length ≤ 500 := by have := flushM_le (frontM ns 400).1; omega
        have HK := hid (HT.out.keep.trans hk3 (fun _ _ h => h))
        have hn3 : (flushM (frontM ns 400).1).length = n3 := by have := hown3.1; simpa using this
        have HS := hid hs
        have HO := hid (own_mono hown3 HT.out.keep.size)
        have hown4 := fun (k : Nat) (e : (Value.slice A3 n3 c3).ownBlock = some k) => (hown3.lt k e).2
        have HB := hid (flush_bytes (frontM_inv ns 400).bytes)
        have HRD := hid (fun j hj => raw_read ns _ 400 HLN.out (front_flush ns 400 400 (Nat.le_refl _)) (front_flush_len ns 400 400 (Nat.le_refl _)) j hj)
        have HLE := hid (fun j (hj : j ≤ 400) => front_flush_len ns j 400 hj)
        have HOlt := hid hown4
        clear hs hk3 hown3 HT hown4
        generalize flushM (frontM ns 400).1 = b at *
        have HN := hid hn3
        rw [hn3] at hl3
        clear hn3
        go_wp2_with fail
        refine (newr_any w3 A3 n3 c3 b (Rd.of_own HO.out) (by omega)).mono ?_
        rintro e w4 ⟨R, A4, c4, rfl, hR, hr4, hk4⟩
        have hks := HK.out.size
        have HR0 := hid (show Rr w4 w.heap.size R A4 n3 c4 b (frontM ns 0).2 (frontM ns 0).1.length from ⟨hr4.blk, own_mono hr4.own hks⟩)
        have HO4 := hid (own_keep HO.out hk4 (fun _ _ h => h))
        have HK4 := hid (HK.out.trans hk4 (fun _ _ h => h))
        have hRw : w.heap.size ≤ R := by omega
        clear hr4 hk4
        go_wp2_with fail
        go_loopw [8] (fun v wr => ∃ j : Nat, j ≤ 400 ∧ v = .int .i64 j ∧ Hid (Rr wr w.heap.size R A4 n3 c4 b (frontM ns j).2 (frontM ns j).1.length) ∧ Hid (wr.ownsRow w.heap.size 5 1 (.slice A3 n3 c3) n3 (b.map (Value.int .u8))) ∧ Hid (Keep (fun _ => False) w wr)) (fun v _ => 400 - (intOf v).toNat)
        case atStart => exact ⟨0, by omega, rfl, HR0, HO4, HK4⟩
        case round =>
          obtain ⟨j, hj, rfl, HR, HOJ, HKJ⟩ := hrel
          clear HR0 HO4 HK4 HO HK
          by_cases hjn : j < 400
          · obtain ⟨b1, o1, rfl, hc1⟩ := (H.out.rd.keep HKJ.out (fun _ _ h => h)).int_ix (show j < n by omega)
            have hbl : b1 < w.heap.size := H.out.rd.lt (by omega) _ rfl
            have hjn' : j < n := by omega
            have hj1 := HRD.out j hjn
            have hle := HLE.out j hj
            rw [HN.out] at hle
            have hi := frontM_inv ns j
            have hc := fun (w' : World) (h' : Rr w' w.heap.size R A4 n3 c4 b (frontM ns j).2 (frontM ns j).1.length) => rd_any w' w.heap.size R A4 n3 c4 b (frontM ns j).2 (frontM ns j).1.length h' (by omega) HB.out hi.r0 (by have := hi.r7; omega) hle
            rw [hj1.1, hj1.2.1, hj1.2.2] at hc
            have HC := hid hc
            have ha := and_one (ns.getD j 0)
            clear hc hj1 hi hle
            generalize ns.getD j 0 = x at *
            generalize hs2 : frontM ns (j + 1) = s2 at *
            have HS2 := hid hs2
            clear hs2
            generalize frontM ns j = s at *
            go_wp2_with fail
            -- region 14: 8 operations
            refine At.start (L := #[false, false, false, false, false, false, false, false]) (by kernel_rfl) rfl ?_
            refine At.pure 0 (some 36) (v := ?v0400) rfl rfl (by kernel_rfl) (fun _ _ _ h => h) rfl (fun w' => ?y0400) ?_   
            case y0400 => go_simp; try with_reducible rfl
            try simp only [Act.put, List.setIfInBounds_toArray, List.set_cons_zero, List.set_cons_succ]
            refine At.pure 2 (some 38) (v := ?v2400) rfl rfl (by kernel_rfl) (fun _ _ _ h => h) rfl (fun w' => ?y2400) ?_   
            case y2400 => go_simp; try with_reducible rfl
            try simp only [Act.put, List.setIfInBounds_toArray, List.set_cons_zero, List.set_cons_succ]
            refine At.pure 3 (some 39) (v := ?v3400) rfl rfl (by kernel_rfl) (fun _ _ _ h => h) rfl (fun w' => ?y3400) ?_   
            case y3400 => go_simp; try with_reducible rfl
            try simp only [Act.put, List.setIfInBounds_toArray, List.set_cons_zero, List.set_cons_succ]
            refine At.pure 4 (some 40) (v := ?v4400) rfl rfl (by kernel_rfl) (fun _ _ _ h => h) rfl (fun w' => ?y4400) ?_   
            case y4400 => go_simp; try with_reducible rfl
            try simp only [Act.put, List.setIfInBounds_toArray, List.set_cons_zero, List.set_cons_succ]
            refine At.read 5 (some 41) (fun w' => w'.cell? ⟨b1, o1 + j, none⟩ = some (.int .i64 x)) (v := (.int .i64 x)) rfl rfl (by kernel_rfl) (fun _ _ _ h => h) rfl hc1 (fun w' hw' => ?y5400) ?_   
            case y5400 => skip; go_simp; try with_reducible rfl
            try simp only [Act.put, List.setIfInBounds_toArray, List.set_cons_zero, List.set_cons_succ]
            refine At.pure 6 (some 42) (v := ?v6400) rfl rfl (by kernel_rfl) (fun _ _ _ h => h) rfl (fun w' => ?y6400) ?_   
            case y6400 => go_simp; try with_reducible rfl
            try simp only [Act.put, List.setIfInBounds_toArray, List.set_cons_zero, List.set_cons_succ]
            refine At.call 1 (pend' := [(5, (fun w' => w'.cell? ⟨b1, o1 + j, none⟩ = some (.int .i64 x)))]) rfl (by kernel_rfl) rfl (by kernel_rfl) (fun K hK => ?_)   
            go_simp
            refine (HC.out _ (HR.out.keep (Keep.refl (fun _ => False) wr).drew (fun h => h) (fun _ _ h => h))).mono ?_
            rintro e w5 ⟨rfl, h5, hk5⟩
            refine hK _ _ (all_cons (hk5.cell hc1 (fun e => by simp at e; omega)) all_nil) ?_
            clear hK K
            try simp only [Act.put, List.setIfInBounds_toArray, List.set_cons_zero, List.set_cons_succ]
            refine At.pure 7 (some 43) (v := ?v7400) rfl rfl (by kernel_rfl) (fun _ _ _ h => h) rfl (fun w' => ?y7400) ?_   
            case y7400 => go_simp; try with_reducible rfl
            try simp only [Act.put, List.setIfInBounds_toArray, List.set_cons_zero, List.set_cons_succ]
            refine At.done (by kernel_rfl) ?_
            have H5 := hid h5
            have hk5' := hk5.undrew
            have HO5 := hid (own_keep HOJ.out hk5' (fun k e hx => by have := HOlt.out k e; omega))
            have HK5 := hid (HKJ.out.new hk5' (fun k e => by omega))
            clear h5 hk5 hk5' ha
            go_wp2_with fail
            go_roundw
            case rel => exact ⟨j + 1, by omega, by go_num, by rw [HS2.out]; exact H5, HO5, HK5⟩
            case measure => simp [intOf]; omega
          · go_wp2_with fail
            go_loop [9] (fun v => ∃ j : Nat, j ≤ n3 ∧ v = .int .i64 j) (fun v => n3 - (intOf v).toNat)
            case atStart => exact ⟨0, by omega, rfl⟩
            case round =>
              clear hj hjn
              obtain ⟨j, hj, rfl⟩ := hrel
              by_cases hlt : j + 1 < n3
              · obtain ⟨g, rfl, hgc, hgb, hgl, _⟩ := own_at HOJ.out (by omega)
                have g0 : wr.cell? ⟨g, j, none⟩ = some (.int .u8 (b.getD j 0)) := hgl j _ (map_at _ _ j (by rw [HN.out]; omega))
                have g1 : wr.cell? ⟨g, j + 1, none⟩ = some (.int .u8 (b.getD (j + 1) 0)) := hgl (j + 1) _ (map_at _ _ (j + 1) (by rw [HN.out]; omega))
                have hst := HS.out.1 j (by rw [HN.out]; omega)
                clear hgl
                generalize b.getD j 0 = y at *
                generalize b.getD (j + 1) 0 = z at *
                by_cases hy : y = 255
                · have hz := hst hy
                  clear hst
                  subst hy
                  go_wp2_with fail
                  go_round
                  case rel => exact ⟨j + 1, by omega, by go_num⟩
                  case measure => simp [intOf]; omega
                · have hy' : (y == 255) = false := by simpa using hy
                  clear hst
                  go_wp2_with fail
                  go_round
                  case rel => exact ⟨j + 1, by omega, by go_num⟩
                  case measure => simp [intOf]; omega
              · by_cases h0 : n3 = 0
                · have h0' : (((n3 : Nat) : Int) == 0) = true := by simp [h0]
                  go_wp2_with fail
                  go_ret
                  exact ⟨rfl, HKJ.out.below (Nat.le_refl _) (fun _ h => h.elim)⟩
                · obtain ⟨m, rfl⟩ : ∃ m, n3 = m + 1 := ⟨n3 - 1, by omega⟩
                  obtain ⟨g, rfl, hgc, hgb, hgl, _⟩ := own_at HOJ.out (by omega)
                  have g0 : wr.cell? ⟨g, m, none⟩ = some (.int .u8 (lastM b)) := lastM_at hgl HN.out
                  have hz' : (lastM b != 255) = true := by simpa using HS.out.2
                  have wm : IntKind.i64.wrap (((m + 1 : Nat) : Int) - 1) = (m : Int) := by rw [IntWalk.i64_in _ (by omega)]; omega
                  clear hgl
                  generalize lastM b = z at *
                  go_wp2_with fail
                  go_ret
                  exact ⟨rfl, HKJ.out.below (Nat.le_refl _) (fun _ h => h.elim)⟩
end Go.Proofs.Ytpjfmockkjnigaa
