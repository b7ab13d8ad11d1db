/-
  TreeShort: the walk. Conditions: none.
-/
import Derived.Test.YtbkffpedigeflaaTreeShortP
import Derived.Test.YtbkffpedigeflaaArg
namespace Go.Proofs.Ytbkffpedigeflaa
open Go.RowKit

/-- What the leaves hold ahead of the k-th Set. -/
structure SetI (W H L n : Nat) (N : Nat → Nat → Nd) (k : Nat) : Prop where
  cons : Cons W H L N
  leaf : ∀ j, j < W * H → (N 0 j).n = if j < k then (n : Int) else 0
  fresh : ∀ i j, (N i j).low = 0 ∧ (N i j).said = false
theorem SetI.next {W H L n k : Nat} {N : Nat → Nat → Nd} (hL : Lev W H L) (hk : k < W * H) (h : SetI W H L n N k) : SetI W H L n (setI W H k n N (L - 1)) (k + 1) := by
  refine ⟨h.cons.set hL.w0 hk, fun j hj => ?_, fun i j => ?_⟩
  · rw [setI_leaf, h.leaf j hj]
    by_cases e : j = k
    · rw [if_pos e, if_pos (by omega)]
    · rw [if_neg e]
      by_cases e2 : j < k
      · rw [if_pos e2, if_pos (by omega)]
      · rw [if_neg e2, if_neg (by omega)]
  · have := setI_rest (W := W) (H := H) (k := k) (z := (n : Int)) (N := N) (L - 1) i j
    rw [this.1, this.2]
    exact h.fresh i j
theorem endM_all (bs : List Int) : endM (outB (runM ([], 0) bs).1) (stR bs bs.length).1 (stR bs bs.length).2.2 = (((outB (runM ([], 0) bs).1).length : Int), (0 : Int)) := by
  have := end_ok bs []
  rw [List.append_nil, frontM_all] at this
  show endM _ (frontM bs bs.length).1.length false = _
  rw [frontM_all]
  exact this

set_option maxHeartbeats 16000000 in
theorem treeShort_walk (x y z : Int) (w : World) (hx : (Lit.int .i64 x).wf = true) (hy : (Lit.int .i64 y).wf = true) (hz : (Lit.int .i64 z).wf = true) :
    Calls Try.prog 6 #[.int .i64 x, .int .i64 y, .int .i64 z] w fun e w' => e = .returned (.bool true) ∧ Below w.heap.size w w' := by
  have hx := wf_i64 hx
  have hy := wf_i64 hy
  have hz := wf_i64 hz
  go_enter Try.func6, Try.ntmps6
  go_wp2_with fail
  refine (known_ok w).mono ?_
  rintro e w1 ⟨rfl, hk1⟩
  have HK1 := hid hk1
  clear hk1
  go_wp2_with fail
  refine (within_any w1 x 8 hx.1 hx.2 (by omega) (by omega)).mono ?_
  rintro e w1' ⟨rfl, rfl⟩
  have q1 : 0 ≤ x % 8 := by omega
  have q2 : x % 8 < 8 := by omega
  obtain ⟨W0, hW0⟩ := Int.eq_ofNat_of_zero_le q1
  rw [hW0] at q2 ⊢
  have hW8 : W0 < 8 := by omega
  clear q1 q2 hW0 hx
  go_wp2_with fail
  refine (within_any w1 y 8 hy.1 hy.2 (by omega) (by omega)).mono ?_
  rintro e w1' ⟨rfl, rfl⟩
  have q1 : 0 ≤ y % 8 := by omega
  have q2 : y % 8 < 8 := by omega
  obtain ⟨H0, hH0⟩ := Int.eq_ofNat_of_zero_le q1
  rw [hH0] at q2 ⊢
  have hH8 : H0 < 8 := by omega
  clear q1 q2 hH0 hy
  go_wp2_with fail
  refine (within_any w1 z 9 hz.1 hz.2 (by omega) (by omega)).mono ?_
  rintro e w1' ⟨rfl, rfl⟩
  have q1 : 0 ≤ z % 9 := by omega
  have q2 : z % 9 < 9 := by omega
  obtain ⟨n, hn⟩ := Int.eq_ofNat_of_zero_le q1
  rw [hn] at q2 ⊢
  have hn9 : n < 9 := by omega
  clear q1 q2 hn hz
  obtain ⟨W, hW⟩ : ∃ W, W = 1 + W0 := ⟨_, rfl⟩
  obtain ⟨H, hH⟩ : ∃ H, H = 1 + H0 := ⟨_, rfl⟩
  have eW : (1 : Int) + (W0 : Int) = (W : Int) := by omega
  have eH : (1 : Int) + (H0 : Int) = (H : Int) := by omega
  have hWb : 0 < W ∧ W ≤ 8 := by omega
  have hHb : 0 < H ∧ H ≤ 8 := by omega
  rw [eW, eH]
  clear hW hH hW8 hH8 eW eH
  go_wp2_with fail
  refine (new_any w1 W H hWb.1 hHb.1 (by omega) (by omega)).mono ?_
  rintro e w2 ⟨p, G, c0, L, B, rfl, ht, hnn, hkk⟩
  have HL := hid ht.lev
  have hL7 := ht.lev.le
  have hLp := ht.lev.pos
  have H1 := hid (TrS.tree (m := 0) (TrS.start (p := fun _ => 0) (L := L) (W := W) (H := H) (N := fun _ _ _ => nd0) (Q := fun _ => 0) (st := fun _ => ([], 0)) HK1.out) ht hnn hkk (p' := fun _ => p) (N' := fun _ _ _ => nd0) (fun i hi => by omega) rfl (fun _ _ => rfl) rfl)
  clear ht hnn hkk HK1
  go_wp2_with fail
  refine (neww_any w2).mono ?_
  rintro e w3 ⟨Q, rfl, hQ, hw2, hkk⟩
  have HT0 := hid (TrS.writer (r := 0) H1.out hw2 hQ hkk (Q' := fun _ => Q) (st' := fun _ => ([], 0)) (fun i hi => by omega) rfl (fun _ _ => rfl) rfl)
  clear hQ hw2 hkk H1
  have HS0 : Hid (SetI W H L n (fun _ _ => nd0) 0) := hid ⟨Cons.zero W H L, fun j hj => by rw [if_neg (by omega)]; rfl, fun _ _ => ⟨rfl, rfl⟩⟩
  obtain ⟨m, hm⟩ : ∃ m, W * H = m := ⟨_, rfl⟩
  have HM := hid hm
  have hm64 : m ≤ 64 := by rw [← hm]; exact Nat.mul_le_mul hWb.2 hHb.2
  have eM : IntKind.i64.wrap ((W : Int) * (H : Int)) = (m : Int) := by rw [← hm, ← Int.natCast_mul, IntWalk.i64_in _ (by rw [hm]; omega)]
  clear hm
  go_wp2_with fail
  go_loopw [9] (fun v wr => ∃ (k : Nat) (N : Nat → Nat → Nat → Nd), k ≤ m ∧ v = .int .i64 k ∧ Hid (TrS w 1 1 (fun _ => p) L W H N (fun _ => Q) (fun _ => ([], 0)) wr) ∧ Hid (SetI W H L n (N 0) k)) (fun v _ => m - (intOf v).toNat)
  case atStart => exact ⟨0, _, by omega, rfl, HT0, HS0⟩
  case round =>
    obtain ⟨k, N, hk, rfl, HT, HS⟩ := hrel
    clear HT0 HS0
    by_cases hkm : k < m
    · go_wp2_with fail
      refine (TrS.set HT.out (i := 0) (by omega) k n (by rw [HM.out]; exact hkm)).mono ?_
      rintro e w5 ⟨rfl, h5⟩
      have HT5 := hid h5
      have HS5 : Hid (SetI W H L n (put N 0 (setI W H k n (N 0) (L - 1)) 0) (k + 1)) := hid (by rw [put_at]; exact HS.out.next HL.out (by rw [HM.out]; exact hkm))
      clear h5 HT HS
      go_wp2_with fail
      go_roundw
      case rel => exact ⟨k + 1, _, by omega, by go_num, HT5, HS5⟩
      case measure => simp [intOf]; omega
    · obtain rfl : m = k := by omega
      have HI0 : Hid (∃ bs, ((fun _ => ([], 0)) : Nat → List Int × Int) 0 = runM ([], 0) bs ∧ ShI W H L n (N 0) bs (if 0 = 0 then 0 else m)) := hid ⟨[], rfl, ShI.start HL.out HS.out.cons (fun j hj => by rw [HS.out.leaf j hj, if_pos (by rw [← HM.out]; exact hj)]) HS.out.fresh⟩
      have HT1 := HT
      clear HS HT
      go_wp2_with fail
      go_loopw [10] (fun v wr => ∃ (t : Nat) (N : Nat → Nat → Nat → Nd) (st : Nat → List Int × Int), t ≤ 2 ∧ v = .int .i64 t ∧ Hid (TrS w 1 1 (fun _ => p) L W H N (fun _ => Q) st wr) ∧ Hid (∃ bs, st 0 = runM ([], 0) bs ∧ ShI W H L n (N 0) bs (if t = 0 then 0 else m))) (fun v _ => 2 - (intOf v).toNat)
      case atStart => exact ⟨0, N, _, by omega, rfl, HT1, HI0⟩
      case round =>
        clear HT1 HI0 N
        obtain ⟨t, N, st, ht, rfl, HT, HI⟩ := hrel
        by_cases ht2 : t < 2
        · have HIn : Hid (∃ bs, st 0 = runM ([], 0) bs ∧ ShI W H L n (N 0) bs (if t = 0 then 0 else m)) := HI
          have HTn := HT
          have hdt : decide ((t : Int) < 2) = true := by simp; omega
          clear HI HT
          go_wp2_with fail
          obtain ⟨wo, rfl⟩ : ∃ wo : World, wo = wr := ⟨_, rfl⟩
          go_loopw [11] (fun v wr => ∃ (k : Nat) (N : Nat → Nat → Nat → Nd) (st : Nat → List Int × Int), k ≤ m ∧ v = .int .i64 k ∧ Hid (TrS w 1 1 (fun _ => p) L W H N (fun _ => Q) st wr) ∧ Hid (∃ bs, st 0 = runM ([], 0) bs ∧ ShI W H L n (N 0) bs (if t = 0 then k else m))) (fun v _ => m - (intOf v).toNat)
          case atStart => exact ⟨0, N, st, by omega, rfl, HTn, HIn⟩
          case round =>
            clear HTn HIn N st
            obtain ⟨k, N, st, hk, rfl, HT, HI⟩ := hrel
            by_cases hkm : k < m
            · have hlen : (st 0).1.length ≤ 30000 := by
                obtain ⟨bs, e, hs⟩ := HI.out
                have h1 := hs.len HL.out (by omega)
                have h2 := runM_length bs ([], 0)
                simp only [List.length_nil] at h2
                rw [e]; omega
              go_wp2_with fail
              refine (TrS.enc HT.out (i := 0) (j := 0) (by omega) (by omega) k ((n : Int) + 1) (by rw [HM.out]; exact hkm) (by omega) (by omega)).mono ?_
              rintro e w5 ⟨rfl, h5⟩
              have HT5 := hid h5
              have HI5 : Hid (∃ bs, put st 0 (runM (st 0) (encI W L k ((n : Int) + 1) (N 0) L).2.2) 0 = runM ([], 0) bs ∧ ShI W H L n (put N 0 (encI W L k ((n : Int) + 1) (N 0) L).2.1 0) bs (if t = 0 then k + 1 else m)) := hid (by
                obtain ⟨bs, e, hs⟩ := HI.out
                have hn := hs.next HL.out (by rw [HM.out]; exact hkm)
                refine ⟨bs ++ (encI W L k ((n : Int) + 1) (N 0) L).2.2, by rw [put_at, e, runM_append], ?_⟩
                rw [put_at]
                by_cases ht0 : t = 0
                · rw [if_pos ht0] at hn ⊢
                  exact hn.2 rfl
                · rw [if_neg ht0] at hn ⊢
                  exact hn.1)
              clear h5 HT HI
              go_wp2_with fail
              go_roundw
              case rel => exact ⟨k + 1, _, _, by omega, by go_num, HT5, HI5⟩
              case measure => simp [intOf]; omega
            · obtain rfl : m = k := by omega
              have HI5 : Hid (∃ bs, st 0 = runM ([], 0) bs ∧ ShI W H L n (N 0) bs (if t + 1 = 0 then 0 else m)) := hid (by
                obtain ⟨bs, e, hs⟩ := HI.out
                rw [if_neg (by omega)]
                exact ⟨bs, e, by simpa using hs⟩)
              clear HI
              go_wp2_with fail
              go_roundw
              case rel => exact ⟨t + 1, N, st, by omega, by go_num, HT, HI5⟩
              case measure => simp [intOf]; omega
        · obtain rfl : t = 2 := by omega
          obtain ⟨bs, hst, hsh⟩ := HI.out
          rw [if_neg (by omega), ← HM.out] at hsh
          have HZ := hid (hsh.all HL.out)
          have HST := hid hst
          clear HI hst hsh
          have hbl : bs.length ≤ 30000 := by
            have h1 := HZ.out.length
            have h2 : sumTo (sz W H) L ≤ 4096 * L := sumTo_le (fun i => sz_le HL.out.w1 HL.out.h1 i) L
            omega
          have hst : (st 0).1.length ≤ 30000 := by
            have h2 := runM_length bs ([], 0)
            simp only [List.length_nil] at h2
            rw [HST.out]; omega
          have HT1 := HT
          clear HT
          go_wp2_with fail
          go_loopw [12, 13, 14] (fun a b c wr => ∃ i : Nat, i < L ∧ a = .int .i64 ((1 + sumTo (sz W H) i : Nat) : Int) ∧ b = .int .i64 (upN i W) ∧ c = .int .i64 (upN i H) ∧ Hid (TrS w 1 1 (fun _ => p) L W H N (fun _ => Q) st wr)) (fun _ b c _ => (intOf b).toNat + (intOf c).toNat)
          case atStart => exact ⟨0, by omega, rfl, rfl, rfl, HT1⟩
          case round =>
            clear HT1
            obtain ⟨i, hi, rfl, rfl, rfl, HT⟩ := hrel
            have hs4 := sz_le HL.out.w1 HL.out.h1 i
            have hsum : sumTo (sz W H) i ≤ 4096 * i := sumTo_le (fun i => sz_le HL.out.w1 HL.out.h1 i) i
            have hu1 := upN_pos hWb.1 i
            have hu2 := upN_pos hHb.1 i
            have hu3 := upN_le (W := W) i
            have hu4 := upN_le (W := H) i
            have HSZ := hid (show sz W H i = upN i W * upN i H from rfl)
            have HSM := hid (show sumTo (sz W H) (i + 1) = sumTo (sz W H) i + sz W H i from rfl)
            have hup : upN (i + 1) W = (upN i W + 1) / 2 := rfl
            have hup' : upN (i + 1) H = (upN i H + 1) / 2 := rfl
            by_cases hiL : i + 1 < L
            · have hnb := HL.out.least i hiL
              have hs2 : 2 ≤ sz W H i := by
                rw [HSZ.out]
                by_cases h2 : 2 ≤ upN i W
                · exact Nat.le_trans (by omega : 2 ≤ 2 * 1) (Nat.mul_le_mul h2 hu2)
                · exact Nat.le_trans (by omega : 2 ≤ 1 * 2) (Nat.mul_le_mul hu1 (by omega : 2 ≤ upN i H))
              have HREL : Hid (∀ a b c : Int, a = ((1 + sumTo (sz W H) (i + 1) : Nat) : Int) → b = (upN (i + 1) W : Int) → c = (upN (i + 1) H : Int) → ∃ i' : Nat, i' < L ∧ Value.int .i64 a = .int .i64 ((1 + sumTo (sz W H) i' : Nat) : Int) ∧ Value.int .i64 b = .int .i64 (upN i' W) ∧ Value.int .i64 c = .int .i64 (upN i' H)) :=
                hid (fun a b c h1 h2 h3 => ⟨i + 1, hiL, by rw [h1], by rw [h2], by rw [h3]⟩)
              rw [HSM.out, hup, hup'] at HREL
              have eS : IntKind.i64.wrap ((upN i W : Int) * (upN i H : Int)) = (sz W H i : Int) := by rw [HSZ.out, ← Int.natCast_mul, IntWalk.i64_in _ (by rw [← HSZ.out]; omega)]
              have hnb2 : upN i W ≠ 1 ∨ upN i H ≠ 1 := by omega
              clear HSZ HSM hup hup' hnb
              generalize hA : upN i W = a at *
              generalize hB : upN i H = b at *
              generalize sz W H i = s at *
              generalize sumTo (sz W H) i = sm at *
              have HA := hid hA
              have HB := hid hB
              clear hA hB
              go_wp2_with fail
              obtain ⟨i', k1, k2, k3, k4⟩ := HREL.out (1 + (sm : Int) + (s : Int)) (((a : Int) + 1) / 2) (((b : Int) + 1) / 2) (by omega) (by omega) (by omega)
              exact ⟨⟨i', k1, k2, k3, k4, HT⟩, by simp only [intOf]; omega⟩
            · obtain rfl : L = i + 1 := by omega
              have h1 := HL.out.topw
              have h2 := HL.out.toph
              rw [Nat.add_sub_cancel] at h1 h2
              have hs1 : sz W H i = 1 := by rw [HSZ.out, h1, h2]
              have hT := HSM.out
              rw [hs1] at hT
              have hlen := HZ.out.length
              have HO := hid HZ.out.one
              have HZO := HZ
              rw [h1, h2]
              clear HSZ HSM hup hup' hu1 hu2 hu3 hu4
              generalize hTT : sumTo (sz W H) (i + 1) = T at *
              have e1 : 1 + sumTo (sz W H) i = T := by omega
              rw [e1]
              clear hTT hT hs1 hsum e1
              have HBL := hid hlen
              have hTb : T ≤ 30000 := by omega
              clear hlen HZ
              go_wp2_with fail
              refine (TrS.bytes HT.out (j := 0) (by omega) (by omega)).mono ?_
              rintro e w6 ⟨A6, n6, c6, rfl, hown, hk6⟩
              rw [HST.out] at hown
              have hn6 : (outB (runM ([], 0) bs).1).length = n6 := by have := hown.1; simpa using this
              have HN6 := hid hn6
              have hn6b : n6 ≤ 30001 := by
                have h2 := outB_le (runM ([], 0) bs).1
                rw [← HST.out] at h2 hn6
                omega
              have HT6 := hid (HT.out.aside hk6)
              clear HT hk6 hn6
              go_wp2_with fail
              refine (newr_any w6 A6 n6 c6 _ (Rd.of_own hown) (by omega)).mono ?_
              rintro e w7 ⟨R, A7, c7, rfl, hR7, hr7, hk7⟩
              have HT7 := hid (HT6.out.aside hk7)
              have HR7 := hid (show RrS w7 w6.heap.size R A7 n6 c7 (outB (runM ([], 0) bs).1) (stR bs 0) from hr7)
              have hRb : w.heap.size ≤ R := Nat.le_trans HT6.out.keeps.size hR7
              have HBY := hid (outB_bytes (runM_bytes bs))
              have HBIT := hid HZO.out.take
              clear hown hR7 hr7 hk7 HT6
              go_wp2_with fail
              go_loopw [16, 17, 18] (fun u v q wr => ∃ (j o : Nat), j ≤ T + n ∧ o ≤ j ∧ u = .int .i64 ((j - o : Nat) : Int) ∧ v = .int .i64 o ∧ q = .int .i64 j ∧ Hid ((bs.take j).count 1 = o) ∧ Hid (TrS w 1 1 (fun _ => p) (i + 1) W H N (fun _ => Q) st wr) ∧ Hid (RrS wr w6.heap.size R A7 n6 c7 (outB (runM ([], 0) bs).1) (stR bs j))) (fun _ _ q _ => T + n - (intOf q).toNat)
              case atStart => exact ⟨0, 0, by omega, by omega, rfl, rfl, rfl, hid (by simp), HT7, HR7⟩
              case round =>
                obtain ⟨j, o, hj, hoj, rfl, rfl, rfl, HC, HT8, HR8⟩ := hrel
                clear HT7 HR7
                have hok := stR_ok bs j
                by_cases hjk : j < T + n
                · have HV := hid (rd_out bs j (by rw [HBL.out]; omega))
                  have HB := hid (HBIT.out j (by rw [HBL.out]; omega))
                  go_wp2_with fail
                  refine (rdS_any wr w6.heap.size R A7 n6 c7 _ _ HR8.out HBY.out hok.1 (by omega)).mono ?_
                  rintro e w9 ⟨rfl, hr9, hk9⟩
                  rw [HV.out.2] at hr9
                  rw [HV.out.1]
                  have HT9 := hid (HT8.out.reader (Rr.blk HR8.out) hRb hk9)
                  have HR9 := hid hr9
                  clear hr9 hk9 HT8 HR8 HV
                  by_cases hone : bs.getD j 0 = 1
                  · have hc := HB.out.2
                    rw [if_pos hone, HC.out] at hc
                    have HC9 := hid hc
                    rw [hone]
                    clear HB HC hc hone
                    have e1 : ((1 : Int) % 2 == 1) = true := rfl
                    go_wp2_with fail
                    go_roundw
                    case rel => exact ⟨j + 1, o + 1, by omega, by omega, by congr 1; omega, by go_num, by go_num, HC9, HT9, HR9⟩
                    case measure => simp [intOf]; omega
                  · have h0 : bs.getD j 0 = 0 := HB.out.1.resolve_right hone
                    have hc := HB.out.2
                    rw [if_neg hone, HC.out] at hc
                    have HC9 := hid hc
                    rw [h0]
                    clear HB HC hc hone h0
                    have e1 : ((0 : Int) % 2 == 1) = false := rfl
                    go_wp2_with fail
                    go_roundw
                    case rel => exact ⟨j + 1, o, by omega, by omega, by congr 1; omega, rfl, by go_num, HC9, HT9, HR9⟩
                    case measure => simp [intOf]; omega
                · have hjl : j = bs.length := by rw [HBL.out]; omega
                  have ho : o = T := by
                    have := HC.out
                    rw [hjl, List.take_length, HO.out] at this
                    exact this.symm
                  have HR9 : Hid (RrS wr w6.heap.size R A7 n6 c7 (outB (runM ([], 0) bs).1) (stR bs bs.length)) := hid (by rw [← hjl]; exact HR8.out)
                  have hp : (stR bs bs.length).1 ≤ 1099511627776 := by rw [← hjl]; omega
                  have hjT : j = T + n := by omega
                  have HEND := hid (endM_all bs)
                  clear HC HR8 hok hjl HO
                  subst ho hjT
                  rw [show o + n - o = n by omega]
                  go_wp2_with fail
                  refine (end_any wr w6.heap.size R A7 n6 c7 _ _ _ _ HR9.out hp).mono ?_
                  rintro e w10 ⟨rfl, _, hk10⟩
                  rw [HEND.out]
                  have HT10 := hid (HT8.out.aside hk10)
                  rw [HN6.out]
                  clear hk10 HT8 HR9 HEND
                  go_wp2_with fail
                  refine (TrS.bytes HT10.out (j := 0) (by omega) (by omega)).mono ?_
                  rintro e w11 ⟨A11, n11, c11, rfl, hown, hk11⟩
                  have hn11 : n11 = n6 := by
                    rw [HST.out] at hown
                    have := hown.1
                    simp only [List.length_map] at this
                    rw [HN6.out] at this
                    omega
                  have HT11 := hid (HT10.out.aside hk11)
                  clear hown hk11 HT10
                  subst hn11
                  go_wp2_with fail
                  go_ret
                  exact ⟨ret_bool (by simp), HT11.out.keeps.below (Nat.le_refl _) (fun _ h => h.elim)⟩
end Go.Proofs.Ytbkffpedigeflaa
