/-
  Set: a leaf's number, and the least ones above it. Conditions: the leaf is one.
-/
import Derived.Test.YtbkffpedigeflaaTreeWay
import Derived.WalkLawsBesides
namespace Go.Proofs.Ytbkffpedigeflaa
open Go.RowKit

/-- One of the four beneath a node, if it is there. -/
def lstep (W H : Nat) (N : Nat → Nat → Nd) (i x y dy dx : Nat) (n : Int) : Int :=
  if 2 * x + dx < upN i W ∧ 2 * y + dy < upN i H then min n (N i ((2 * y + dy) * upN i W + (2 * x + dx))).n else n
def lins (W H : Nat) (N : Nat → Nat → Nd) (i x y dy : Nat) (n : Int) : Nat → Int
  | 0 => n
  | d + 1 => lstep W H N i x y dy d (lins W H N i x y dy n d)
def lrows (W H : Nat) (N : Nat → Nat → Nd) (i x y : Nat) : Nat → Int
  | 0 => (N i (2 * y * upN i W + 2 * x)).n
  | d + 1 => lins W H N i x y d (lrows W H N i x y d) 2
/-- The least of those beneath a node of level i + 1. -/
def leastM (W H : Nat) (N : Nat → Nat → Nd) (i x y : Nat) : Int := lrows W H N i x y 2

set_option maxHeartbeats 2000000 in
theorem least_any (w : World) (p G c L W H : Nat) (B : Nat → Nat) (N : Nat → Nat → Nd) (i x y : Nat) (h : TrG w p G c L W H B N) (hi : i + 1 < L) (hx : x < upN (i + 1) W) (hy : y < upN (i + 1) H) :
    Calls Try.prog 27 #[.pointer (some ⟨p, 0, none⟩), .int .i64 ((i + 1 : Nat) : Int), .int .i64 x, .int .i64 y] w fun e w' => e = .returned (.int .i64 (leastM W H N i x y)) ∧ Keep (fun _ => False) w w' := by
  have hL7 := h.lev.le
  have hcap := h.cap
  have hx2 : 2 * x < upN i W := by have : upN (i + 1) W = (upN i W + 1) / 2 := rfl; omega
  have hy2 : 2 * y < upN i H := by have : upN (i + 1) H = (upN i H + 1) / 2 := rfl; omega
  have hWi : upN i W ≤ 64 := Nat.le_trans (upN_le i) h.lev.w1
  have hHi : upN i H ≤ 64 := Nat.le_trans (upN_le i) h.lev.h1
  have p0 : w.cell? ⟨p, 0, none⟩ = some (.slice (some ⟨G, 0, none⟩) L c) := h.blk.cell 0
  have g0 := (h.lv i (by omega)).1
  have g1 := (h.lv i (by omega)).2.1
  have g2 := (h.lv i (by omega)).2.2
  have HS := hid (sz_le h.lev.w1 h.lev.h1 i)
  have HIX := hid (show ∀ a b, a < upN i W → b < upN i H → b * upN i W + a < sz W H i from fun a b ha hb => by
    have h3 : (b + 1) * upN i W ≤ upN i H * upN i W := Nat.mul_le_mul_right _ hb
    rw [Nat.add_mul, Nat.one_mul] at h3
    unfold sz
    rw [Nat.mul_comm (upN i W)]
    omega)
  have HN := hid (fun (w' : World) (hk : Keep (fun _ => False) w w') (j : Nat) (hj : j < sz W H i) => ((h.aside hk).cells (i := i) (by omega) hj).1)
  have HST := hid (show ∀ dy d n, lstep W H N i x y dy d n = if 2 * x + d < upN i W ∧ 2 * y + dy < upN i H then min n (N i ((2 * y + dy) * upN i W + (2 * x + d))).n else n from fun _ _ _ => rfl)
  have e1 : IntKind.i64.wrap (((i + 1 : Nat) : Int) - 1) = (i : Int) := by rw [IntWalk.i64_in _ (by omega)]; omega
  clear h
  go_enter Try.func27, Try.ntmps27
  go_wp2_with fail
  have hk1 : Keep (fun _ => False) w (w.alloc (.cells #[.int .i64 (upN i W), .int .i64 (upN i H), .slice (some ⟨B i, 0, none⟩) (sz W H i) (sz W H i)] 58)) := (Keep.refl _ w).alloc _
  have hb1 := Blk.new w 58 #[.int .i64 (upN i W), .int .i64 (upN i H), .slice (some ⟨B i, 0, none⟩) (sz W H i) (sz W H i)]
  generalize w.alloc (.cells #[.int .i64 (upN i W), .int .i64 (upN i H), .slice (some ⟨B i, 0, none⟩) (sz W H i) (sz W H i)] 58) = w1 at *
  rw [show (2 : Int) * (x : Int) = ((2 * x : Nat) : Int) by omega, show (2 : Int) * (y : Int) = ((2 * y : Nat) : Int) by omega]
  refine (at_grid w1 (upN i W) (upN i H) (B i) (sz W H i) (2 * x) (2 * y) (by omega) (by omega) hWi (HIX.out _ _ hx2 hy2) HS.out).mono ?_
  rintro e w2 ⟨rfl, hk2⟩
  have HK2 := hid (hk1.trans hk2 (fun _ _ h => h))
  have HB2 := hid (hb1.keep hk2 (fun h => h))
  have d0 := HN.out w2 HK2.out (2 * y * upN i W + 2 * x) (HIX.out _ _ hx2 hy2)
  have HR0 := hid (show lrows W H N i x y 0 = (N i (2 * y * upN i W + 2 * x)).n from rfl)
  clear hk1 hk2 hb1
  generalize w.heap.size = T at *
  go_wp2_with fail
  go_loopw [10, 30] (fun u v wr => ∃ dy : Nat, dy ≤ 2 ∧ v = .int .i64 dy ∧ u = .int .i64 (lrows W H N i x y dy) ∧ Hid (Keep (fun _ => False) w wr) ∧ Hid (Blk wr T 58 #[.int .i64 (upN i W), .int .i64 (upN i H), .slice (some ⟨B i, 0, none⟩) (sz W H i) (sz W H i)])) (fun _ v _ => 2 - (intOf v).toNat)
  case atStart => exact ⟨0, by omega, rfl, by rw [HR0.out], HK2, HB2⟩
  case round =>
    obtain ⟨dy, hdy, rfl, rfl, HK, HB⟩ := hrel
    clear HK2 HB2 d0
    by_cases hdl : dy < 2
    · have HI0 := hid (show lins W H N i x y dy (lrows W H N i x y dy) 0 = lrows W H N i x y dy from rfl)
      have HIS := hid (show ∀ d, lins W H N i x y dy (lrows W H N i x y dy) (d + 1) = lstep W H N i x y dy d (lins W H N i x y dy (lrows W H N i x y dy) d) from fun _ => rfl)
      have HI2 := hid (show lins W H N i x y dy (lrows W H N i x y dy) 2 = lrows W H N i x y (dy + 1) from rfl)
      generalize lrows W H N i x y dy = n0 at *
      have hdt : decide ((dy : Int) < 2) = true := by simp; omega
      go_wp2_with fail
      obtain ⟨wo, rfl⟩ : ∃ wo : World, wo = wr := ⟨_, rfl⟩
      go_loopw [10, 33] (fun u v wr => ∃ dx : Nat, dx ≤ 2 ∧ v = .int .i64 dx ∧ u = .int .i64 (lins W H N i x y dy n0 dx) ∧ Hid (Keep (fun _ => False) w wr) ∧ Hid (Blk wr T 58 #[.int .i64 (upN i W), .int .i64 (upN i H), .slice (some ⟨B i, 0, none⟩) (sz W H i) (sz W H i)])) (fun _ v _ => 2 - (intOf v).toNat)
      case atStart => exact ⟨0, by omega, rfl, by rw [HI0.out], HK, HB⟩
      case round =>
        obtain ⟨dx, hdx, rfl, rfl, HK', HB'⟩ := hrel
        clear HK HB
        by_cases hxl : dx < 2
        · have HT := HIS.out dx
          rw [HST.out] at HT
          have HT := hid HT
          have b0 := HB'.out.cell 0
          have b1 := HB'.out.cell 1
          have b2 := HB'.out.cell 2
          generalize lins W H N i x y dy n0 dx = n1 at *
          by_cases hin : 2 * x + dx < upN i W ∧ 2 * y + dy < upN i H
          · obtain ⟨hin1, hin2⟩ := hin
            have HT2 := hid (HT.out.trans (if_pos ⟨hin1, hin2⟩))
            go_wp2_with fail
            rw [show 2 * (x : Int) + (dx : Int) = ((2 * x + dx : Nat) : Int) by omega, show 2 * (y : Int) + (dy : Int) = ((2 * y + dy : Nat) : Int) by omega]
            refine (at_grid wr (upN i W) (upN i H) (B i) (sz W H i) (2 * x + dx) (2 * y + dy) (by omega) (by omega) hWi (HIX.out _ _ hin1 hin2) HS.out).mono ?_
            rintro e w5 ⟨rfl, hk5⟩
            have HK5 := hid (HK'.out.trans hk5 (fun _ _ h => h))
            have HB5 := hid (HB'.out.keep hk5 (fun h => h))
            have d0 := HN.out w5 HK5.out ((2 * y + dy) * upN i W + (2 * x + dx)) (HIX.out _ _ hin1 hin2)
            clear hk5 HK' HB' b0 b1 b2 HT
            generalize (N i ((2 * y + dy) * upN i W + (2 * x + dx))).n = n2 at *
            have hmin : min n1 n2 = n1 ∨ min n1 n2 = n2 := by omega
            go_wp2_with fail
            · go_roundw
              case rel => exact ⟨dx + 1, by omega, by go_num, by rw [HT2.out]; simp only [Value.int.injEq, true_and]; omega, HK5, HB5⟩
              case measure => simp [intOf]; omega
          · have HT2 := hid (HT.out.trans (if_neg hin))
            by_cases hin1 : 2 * x + dx < upN i W
            · have hin2 : upN i H ≤ 2 * y + dy := by omega
              clear HT
              go_wp2_with fail
              go_roundw
              case rel => exact ⟨dx + 1, by omega, by go_num, by rw [HT2.out], HK', HB'⟩
              case measure => simp [intOf]; omega
            · have hin1 : upN i W ≤ 2 * x + dx := by omega
              clear HT
              go_wp2_with fail
              go_roundw
              case rel => exact ⟨dx + 1, by omega, by go_num, by rw [HT2.out], HK', HB'⟩
              case measure => simp [intOf]; omega
        · obtain rfl : dx = 2 := by omega
          go_wp2_with fail
          go_roundw
          case rel => exact ⟨dy + 1, by omega, by go_num, by rw [HI2.out], HK', HB'⟩
          case measure => simp [intOf]; omega
    · obtain rfl : dy = 2 := by omega
      go_wp2_with fail
      go_ret
      exact ⟨rfl, HK.out⟩

/-- Level by level: the numbers behind Set. -/
def setI (W H k : Nat) (z : Int) (N : Nat → Nat → Nd) : Nat → Nat → Nat → Nd
  | 0 => updT N 0 k { N 0 k with n := z }
  | r + 1 => updT (setI W H k z N r) (r + 1) (idx W (r + 1) k) { setI W H k z N r (r + 1) (idx W (r + 1) k) with n := leastM W H (setI W H k z N r) r (k % W / 2 ^ (r + 1)) (k / W / 2 ^ (r + 1)) }
/-- A tree's nodes. -/
def NF (L : Nat) (B : Nat → Nat) (g : Nat) : Prop := ∃ i, i < L ∧ B i = g

set_option maxHeartbeats 4000000 in
theorem set_any (w : World) (p G c L W H : Nat) (B : Nat → Nat) (N : Nat → Nat → Nd) (k : Nat) (z : Int) (h : TrG w p G c L W H B N) (hk : k < W * H) :
    Calls Try.prog 11 #[.pointer (some ⟨p, 0, none⟩), .int .i64 k, .int .i64 z] w fun e w' => e = .returned (.tuple #[]) ∧ TrG w' p G c L W H B (setI W H k z N (L - 1)) ∧ Keep (NF L B) w w' := by
  have hL := h.lev.pos
  have hL7 := h.lev.le
  have hcap := h.cap
  have hW0 := h.lev.w0
  have HLev := hid h.lev
  have HK := hid hk
  have hm : W * H ≤ 4096 := Nat.le_trans (Nat.mul_le_mul h.lev.w1 h.lev.h1) (by decide)
  have hk4 : k < 4096 := by omega
  have H0 := hid h
  have HD := hid (show ∀ a b : Nat, ((a : Int) / (b : Int)) = ((a / b : Nat) : Int) ∧ ((a : Int) % (b : Int)) = ((a % b : Nat) : Int) from fun a b => ⟨by simp, by simp⟩)
  clear h
  go_enter Try.func11, Try.ntmps11
  go_wp2_with fail
  refine (way_in w p G c L W H B N k H0.out hk).mono ?_
  rintro e w1 ⟨V, rfl, _, _, hk1⟩
  have H1 := hid (H0.out.aside hk1)
  have HK1 := hid hk1
  clear hk1 H0 hk
  have e0 : ((L : Int) == 0) = false := by simp; omega
  have p0 : w1.cell? ⟨p, 0, none⟩ = some (.slice (some ⟨G, 0, none⟩) L c) := H1.out.blk.cell 0
  have g0 : w1.cell? ⟨G, 0, none⟩ = some (.int .i64 W) := (H1.out.lv 0 (by omega)).1
  have g1 : w1.cell? ⟨G, 1, none⟩ = some (.int .i64 H) := (H1.out.lv 0 (by omega)).2.1
  have g2 : w1.cell? ⟨G, 2, none⟩ = some (.slice (some ⟨B 0, 0, none⟩) (W * H) (W * H)) := (H1.out.lv 0 (by omega)).2.2
  have HA := hid ((Keep.refl (fun _ => False) w1).alloc (.cells #[.int .i64 W, .int .i64 H, .slice (some ⟨B 0, 0, none⟩) (W * H) (W * H)] 58))
  have HT2 := hid (H1.out.aside HA.out)
  have HB2 := hid (Blk.new w1 58 #[.int .i64 W, .int .i64 H, .slice (some ⟨B 0, 0, none⟩) (W * H) (W * H)])
  have d0 := (HT2.out.cells (i := 0) (j := k) (by omega) (show k < sz W H 0 from HK.out)).1
  have f0 := HT2.out.frozen (i := 0) (by omega) (3 * k)
  rw [Nat.mul_comm 3 k] at d0 f0
  have HT3 : Hid (TrG ((w1.alloc (.cells #[.int .i64 W, .int .i64 H, .slice (some ⟨B 0, 0, none⟩) (W * H) (W * H)] 58)).setCell ⟨B 0, k * 3, none⟩ (.int .i64 z)) p G c L W H B (setI W H k z N 0)) := hid (by
    rw [Nat.mul_comm k 3]
    exact HT2.out.setN (i := 0) (j := k) (by omega) (show k < sz W H 0 from HK.out) z)
  have hne : w1.heap.size ≠ B 0 := by
    have := (H1.out.nd 0 (by omega)).lt
    omega
  have HB3 := hid (HB2.out.far (p := ⟨B 0, k * 3, none⟩) hne (.int .i64 z))
  have HK3 : Hid (Keep (NF L B) w ((w1.alloc (.cells #[.int .i64 W, .int .i64 H, .slice (some ⟨B 0, 0, none⟩) (W * H) (W * H)] 58)).setCell ⟨B 0, k * 3, none⟩ (.int .i64 z))) :=
    hid (((HK1.out.trans HA.out (fun _ _ h => h)).mono (fun _ _ h => h.elim)).setCell (p := ⟨B 0, k * 3, none⟩) (.inl (show NF L B (B 0) from ⟨0, by omega, rfl⟩)) _)
  generalize hM : W * H = m at *
  go_wp2_with fail
  clear d0 f0 HA HT2 HB2 p0 g0 g1 g2
  generalize (w1.alloc (.cells #[.int .i64 W, .int .i64 H, .slice (some ⟨B 0, 0, none⟩) m m] 58)).setCell ⟨B 0, k * 3, none⟩ (.int .i64 z) = w3 at *
  generalize w1.heap.size = T at *
  have b0 : w3.cell? ⟨T, 0, none⟩ = some (.int .i64 W) := HB3.out.cell 0
  have e3 : Hid (wrap64 ((k : Int) / (W : Int)) = ((k / W : Nat) : Int)) := hid (by
    have hd : k / W ≤ k := Nat.div_le_self _ _
    rw [← Int.natCast_ediv]
    generalize k / W = q at *
    exact IntWalk.wrap64_in _ (by omega))
  have e4 : Hid ((k : Int) % (W : Int) = ((k % W : Nat) : Int)) := hid (by simp)
  go_quiet (fail)
  have e5 := e3.out
  have e6 := e4.out
  obtain ⟨XX, hXX⟩ : ∃ XX : Nat, k % W = XX := ⟨_, rfl⟩
  obtain ⟨YY, hYY⟩ : ∃ YY : Nat, k / W = YY := ⟨_, rfl⟩
  have HXX := hid hXX
  have HYY := hid hYY
  rw [hYY] at e5
  rw [hXX] at e6
  rw [e5, e6]
  clear e3 e4 e5 e6
  have HT4 := hid (HT3.out.aside ((Keep.refl (fun _ => False) w3).drewN nq))
  have HK4 := hid (HK3.out.drewN nq)
  have HX : Hid (∀ r : Nat, ((XX / 2 ^ r : Nat) : Int) / 2 = ((XX / 2 ^ (r + 1) : Nat) : Int) ∧ ((YY / 2 ^ r : Nat) : Int) / 2 = ((YY / 2 ^ (r + 1) : Nat) : Int)) := hid (fun r => by
    rw [Nat.pow_succ, ← Nat.div_div_eq_div_mul, ← Nat.div_div_eq_div_mul]
    exact ⟨by omega, by omega⟩)
  have HX0 := hid (show XX / 2 ^ 0 = XX ∧ YY / 2 ^ 0 = YY from ⟨by simp, by simp⟩)
  have HXW := hid (fun r => div_lt_up (show XX < W by rw [← hXX]; exact Nat.mod_lt k hW0) r)
  have HYH := hid (fun r => div_lt_up (x := YY) (W := H) (by rw [← hYY, Nat.div_lt_iff_lt_mul hW0, Nat.mul_comm, hM]; exact HK.out) r)
  have HIDX := hid (fun r => idx_lt HLev.out (by rw [hM]; exact HK.out) r)
  have hX4 : XX < 4096 := by rw [← hXX]; exact Nat.lt_of_le_of_lt (Nat.mod_le _ _) hk4
  have hY4 : YY < 4096 := by rw [← hYY]; exact Nat.lt_of_le_of_lt (Nat.div_le_self _ _) hk4
  clear HT3 HK3 HB3 b0 hXX hYY
  generalize w3.drewN nq = w4 at *
  go_wp2_with fail
  go_loopw [7, 8, 9] (fun a b v wr => ∃ r : Nat, r + 1 ≤ L ∧ a = .int .i64 ((XX / 2 ^ r : Nat) : Int) ∧ b = .int .i64 ((YY / 2 ^ r : Nat) : Int) ∧ v = .int .i64 ((r + 1 : Nat) : Int) ∧ Hid (TrG wr p G c L W H B (setI W H k z N r)) ∧ Hid (Keep (NF L B) w wr)) (fun _ _ v _ => L - (intOf v).toNat)
  case atStart => exact ⟨0, by omega, by rw [HX0.out.1], by rw [HX0.out.2], rfl, HT4, HK4⟩
  case round =>
    obtain ⟨r, hr, rfl, rfl, rfl, HTr, HKr⟩ := hrel
    clear HT4 HK4
    have p0 : wr.cell? ⟨p, 0, none⟩ = some (.slice (some ⟨G, 0, none⟩) L c) := HTr.out.blk.cell 0
    by_cases hrL : r + 1 < L
    · have g0 := (HTr.out.lv (r + 1) hrL).1
      have g1 := (HTr.out.lv (r + 1) hrL).2.1
      have g2 := (HTr.out.lv (r + 1) hrL).2.2
      have hx2 := (HX.out r).1
      have hy2 := (HX.out r).2
      have hX := HXW.out (r + 1)
      have hY := HYH.out (r + 1)
      have hJ := HIDX.out (r + 1)
      have HJ2 := hid (show idx W (r + 1) k = YY / 2 ^ (r + 1) * upN (r + 1) W + XX / 2 ^ (r + 1) by rw [← HXX.out, ← HYY.out]; rfl)
      have HSI := hid (show setI W H k z N (r + 1) = updT (setI W H k z N r) (r + 1) (idx W (r + 1) k) { setI W H k z N r (r + 1) (idx W (r + 1) k) with n := leastM W H (setI W H k z N r) r (XX / 2 ^ (r + 1)) (YY / 2 ^ (r + 1)) } by rw [← HXX.out, ← HYY.out]; rfl)
      have hWi : upN (r + 1) W ≤ 64 := Nat.le_trans (upN_le _) HLev.out.w1
      have hHi : upN (r + 1) H ≤ 64 := Nat.le_trans (upN_le _) HLev.out.h1
      have HSZ := hid (sz_le HLev.out.w1 HLev.out.h1 (r + 1))
      have hX0 : XX / 2 ^ r < 4096 := Nat.lt_of_le_of_lt (Nat.div_le_self _ _) hX4
      have hY0 : YY / 2 ^ r < 4096 := Nat.lt_of_le_of_lt (Nat.div_le_self _ _) hY4
      generalize setI W H k z N r = N1 at *
      generalize hX8 : XX / 2 ^ (r + 1) = X1 at *
      generalize hY8 : YY / 2 ^ (r + 1) = Y1 at *
      generalize XX / 2 ^ r = X at *
      generalize YY / 2 ^ r = Y at *
      have hJ1 : Y1 * upN (r + 1) W + X1 < sz W H (r + 1) := by rw [← HJ2.out]; exact hJ
      go_wp2_with fail
      refine (at_grid wr (upN (r + 1) W) (upN (r + 1) H) (B (r + 1)) (sz W H (r + 1)) X1 Y1 (by omega) (by omega) hWi hJ1 HSZ.out).mono ?_
      rintro e w5 ⟨rfl, hk5⟩
      have HT5 := hid (HTr.out.aside hk5)
      have HK5 := hid (HKr.out.trans hk5 (fun _ _ h => h.elim))
      clear hk5 HTr HKr p0 g0 g1 g2
      go_wp2_with fail
      have hle := least_any w5 p G c L W H B N1 r X1 Y1 HT5.out hrL hX hY
      rw [show ((r + 1 : Nat) : Int) = (r : Int) + 1 by omega] at hle
      refine hle.mono ?_
      rintro e w6 ⟨rfl, hk6⟩
      clear hle
      have HT6 := hid (HT5.out.aside hk6)
      have HK6 := hid (HK5.out.trans hk6 (fun _ _ h => h.elim))
      clear hk6 HT5 HK5
      have d0 := (HT6.out.cells hrL hJ1).1
      have f0 := HT6.out.frozen hrL (3 * (Y1 * upN (r + 1) W + X1))
      rw [HJ2.out] at HSI
      have HT7 : Hid (TrG (w6.setCell ⟨B (r + 1), 3 * (Y1 * upN (r + 1) W + X1), none⟩ (.int .i64 (leastM W H N1 r X1 Y1))) p G c L W H B (setI W H k z N (r + 1))) := hid (by
        rw [HSI.out]
        exact HT6.out.setN hrL hJ1 _)
      have HK7 : Hid (Keep (NF L B) w (w6.setCell ⟨B (r + 1), 3 * (Y1 * upN (r + 1) W + X1), none⟩ (.int .i64 (leastM W H N1 r X1 Y1)))) :=
        hid (HK6.out.setCell (p := ⟨B (r + 1), 3 * (Y1 * upN (r + 1) W + X1), none⟩) (.inl (show NF L B (B (r + 1)) from ⟨r + 1, hrL, rfl⟩)) _)
      have HX8 := hid hX8
      have HY8 := hid hY8
      clear HK6 HT6 HSI HJ2 hX8 hY8
      generalize leastM W H N1 r X1 Y1 = lm at *
      generalize 3 * (Y1 * upN (r + 1) W + X1) = off at *
      go_wp2_with fail
      go_roundw
      case rel => exact ⟨r + 1, by omega, by rw [HX8.out], by rw [HY8.out], by go_num, HT7, HK7⟩
      case measure => simp [intOf]; omega
    · obtain rfl : L = r + 1 := by omega
      go_wp2_with fail
      go_end0
      exact ⟨rfl, HTr.out, HKr.out⟩
end Go.Proofs.Ytbkffpedigeflaa
