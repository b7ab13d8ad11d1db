/-
  The reference's tree: its nodes in one row. Conditions: none.
-/
import Derived.Test.YtbkffpedigeflaaTreeLaw
import Derived.Test.YtbkffpedigeflaaTreeNew
import Derived.WalkLawsBesides
namespace Go.Proofs.Ytbkffpedigeflaa
open Go.RowKit

/-- Where level i begins. -/
def off (W H : Nat) : Nat → Nat
  | 0 => 0
  | i + 1 => off W H i + sz W H i
/-- The node above the j-th of level i; none: -1. -/
def upIx (W H i j : Nat) : Int := if 1 < sz W H i then ((off W H (i + 1) + j / upN i W / 2 * upN (i + 1) W + j % upN i W / 2 : Nat) : Int) else -1
def rcells (x : Nd) (u : Int) : List Value := [.int .i64 x.n, .int .i64 x.low, .bool x.said, .int .i64 u]
def rlev (W H i : Nat) : Nat → List Value
  | 0 => []
  | k + 1 => rlev W H i k ++ rcells nd0 (upIx W H i k)
def rall (W H : Nat) : Nat → List Value
  | 0 => []
  | i + 1 => rall W H i ++ rlev W H i (sz W H i)
theorem rlev_len (W H i : Nat) : ∀ k, (rlev W H i k).length = k * 4
  | 0 => rfl
  | k + 1 => by show (rlev W H i k ++ rcells _ _).length = _; rw [List.length_append, rlev_len W H i k]; simp [rcells]; omega
theorem rall_len (W H : Nat) : ∀ i, (rall W H i).length = off W H i * 4
  | 0 => rfl
  | i + 1 => by show (rall W H i ++ rlev W H i _).length = _; rw [List.length_append, rall_len W H i, rlev_len]; show _ = (off W H i + sz W H i) * 4; omega
theorem rcells_one (x : Nd) (u : Int) : ∀ v ∈ rcells x u, v.oneCell' = true := by
  intro v hv
  simp [rcells] at hv
  rcases hv with rfl | rfl | rfl | rfl <;> rfl
theorem off_le {W H : Nat} (hw : W ≤ 8) (hh : H ≤ 8) : ∀ i, off W H i ≤ 64 * i
  | 0 => Nat.le_refl _
  | i + 1 => by
    have h1 := off_le hw hh i
    have h2 : sz W H i ≤ 8 * 8 := Nat.mul_le_mul (Nat.le_trans (upN_le i) hw) (Nat.le_trans (upN_le i) hh)
    show off W H i + sz W H i ≤ _
    omega
theorem rlev_at (W H i : Nat) : ∀ K k r u, k < K → (rcells nd0 (upIx W H i k))[r]? = some u → (rlev W H i K)[4 * k + r]? = some u
  | 0, k, r, u, h, _ => by omega
  | K + 1, k, r, u, h, hu => by
    have hr : r < 4 := by
      have := (List.getElem?_eq_some_iff.1 hu).1
      simpa [rcells] using this
    have hl := rlev_len W H i K
    show (rlev W H i K ++ rcells nd0 (upIx W H i K))[4 * k + r]? = some u
    by_cases e : k = K
    · subst e
      rw [List.getElem?_append_right (by omega), show 4 * k + r - (rlev W H i k).length = r by omega]
      exact hu
    · rw [List.getElem?_append_left (by omega)]
      exact rlev_at W H i K k r u (by omega) hu
theorem rall_at (W H : Nat) : ∀ L i k r u, i < L → k < sz W H i → (rcells nd0 (upIx W H i k))[r]? = some u → (rall W H L)[4 * (off W H i + k) + r]? = some u
  | 0, i, k, r, u, h, _, _ => by omega
  | L + 1, i, k, r, u, h, hk, hu => by
    have hr : r < 4 := by
      have := (List.getElem?_eq_some_iff.1 hu).1
      simpa [rcells] using this
    have hl := rall_len W H L
    show (rall W H L ++ rlev W H L (sz W H L))[4 * (off W H i + k) + r]? = some u
    by_cases e : i = L
    · subst e
      rw [List.getElem?_append_right (by omega), show 4 * (off W H i + k) + r - (rall W H i).length = 4 * k + r by omega]
      exact rlev_at W H i _ k r u hk hu
    · have hmono : ∀ a b, a ≤ b → off W H a ≤ off W H b := fun a b hab => by
        induction hab with
        | refl => exact Nat.le_refl _
        | step _ ih => exact Nat.le_trans ih (Nat.le_add_right _ _)
      have h2 := hmono (i + 1) L (by omega)
      have h3 : off W H (i + 1) = off W H i + sz W H i := rfl
      rw [List.getElem?_append_left (by omega)]
      exact rall_at W H L i k r u (by omega) hk hu
/-- The reference's tree at block T, its nodes at block g. -/
structure RT (w : World) (T g tot cap L W H : Nat) (N : Nat → Nat → Nd) : Prop where
  lev : Lev W H L
  htot : tot = off W H L
  hcap : tot ≤ cap
  blk : Blk w T 79 #[.slice (some ⟨g, 0, none⟩) tot cap, .int .i64 ((W * H : Nat) : Int), .bool false]
  row : ∃ cs, Blk w g 81 cs
  cell : ∀ i j, i < L → j < sz W H i → ∀ r u, (rcells (N i j) (upIx W H i j))[r]? = some u → w.cell? ⟨g, 4 * (off W H i + j) + r, none⟩ = some u
/-- What stands ahead of the i-th level's making. -/
structure RN (w0 : World) (T W H n : Nat) (A : Option Addr) (c : Nat) (xs : List Value) (w : World) : Prop where
  blk : Blk w T 79 #[.slice A n c, .int .i64 ((W * H : Nat) : Int), .bool false]
  own : w.ownsRow w0.heap.size 81 4 (.slice A n c) n xs
  keep : Keep (fun _ => False) w0 w
  p : w0.heap.size ≤ T
theorem info_rnode : (Try.prog.info? 81).map (fun i => (i.zero, i.size, i.bytes)) = some (some (.agg #[.int .i64 0, .int .i64 0, .bool false, .int .i64 0]), 4, 32) := by kernel_rfl

theorem up_expr (o s k a : Nat) (ho : o ≤ 500) (hs : s ≤ 64) (hk : k < 64) (ha : 0 < a) (ha8 : a ≤ 8) :
    wrap64 (wrap64 ((o : Int) + (s : Int) + wrap64 (wrap64 ((wrap64 ((k : Int) / (a : Int))).tdiv 2) * (((a : Int) + 1) / 2))) + wrap64 (((k : Int) % (a : Int)).tdiv 2)) = ((o + s + k / a / 2 * ((a + 1) / 2) + k % a / 2 : Nat) : Int) := by
  have h1 : k / a ≤ k := Nat.div_le_self _ _
  have h2 : k % a ≤ k := Nat.mod_le _ _
  have e1 : (k : Int) / (a : Int) = ((k / a : Nat) : Int) := by simp
  have e2 : (k : Int) % (a : Int) = ((k % a : Nat) : Int) := by simp
  rw [e1, e2]
  generalize k / a = q at *
  generalize k % a = r at *
  have e3 : wrap64 (q : Int) = q := IntWalk.wrap64_in _ (by omega)
  have e4 : (q : Int).tdiv 2 = ((q / 2 : Nat) : Int) := by rw [Int.tdiv_eq_ediv_of_nonneg (by omega)]; omega
  have e5 : (r : Int).tdiv 2 = ((r / 2 : Nat) : Int) := by rw [Int.tdiv_eq_ediv_of_nonneg (by omega)]; omega
  have e6 : ((a : Int) + 1) / 2 = (((a + 1) / 2 : Nat) : Int) := by omega
  rw [e3, e4, e5, e6]
  have hq : q / 2 ≤ 32 := by omega
  have ha2 : (a + 1) / 2 ≤ 4 := by omega
  have hp : q / 2 * ((a + 1) / 2) ≤ 32 * 4 := Nat.mul_le_mul hq ha2
  have e7 : wrap64 ((q / 2 : Nat) : Int) = ((q / 2 : Nat) : Int) := IntWalk.wrap64_in _ (by omega)
  rw [e7, ← Int.natCast_mul]
  generalize q / 2 * ((a + 1) / 2) = P at *
  rw [IntWalk.wrap64_in (P : Int) (by omega), IntWalk.wrap64_in ((r / 2 : Nat) : Int) (by omega), IntWalk.wrap64_in ((o : Int) + s + P) (by omega), IntWalk.wrap64_in _ (by omega)]
  omega
set_option maxHeartbeats 8000000 in
theorem rnew_any (w : World) (W H : Nat) (hW0 : 0 < W) (hH0 : 0 < H) (hW : W ≤ 8) (hH : H ≤ 8) :
    Calls Try.prog 18 #[.int .i64 W, .int .i64 H] w fun e w' => ∃ T g tot cap L,
      e = .returned (.pointer (some ⟨T, 0, none⟩)) ∧ RT w' T g tot cap L W H (fun _ _ => nd0) ∧ w.heap.size ≤ T ∧ w.heap.size ≤ g ∧ Keep (fun _ => False) w w' := by
  obtain ⟨i0, hi0, hz0, hz1, hz2⟩ := info_parts info_rnode
  have hm64 : W * H ≤ 64 := Nat.mul_le_mul hW hH
  have hm0 : 0 < W * H := Nat.mul_pos hW0 hH0
  have e1 : IntKind.i64.wrap ((W : Int) * (H : Int)) = ((W * H : Nat) : Int) := by rw [← Int.natCast_mul, IntWalk.i64_in _ (by omega)]
  have e2 : (((W * H : Nat) : Int) == 0) = false := by simp only [beq_eq_false_iff_ne]; omega
  obtain ⟨m, hm⟩ : ∃ m, W * H = m := ⟨_, rfl⟩
  have HM := hid hm
  rw [hm] at e1 e2 hm64 hm0
  clear hm
  go_enter Try.func18, Try.ntmps18
  go_wp2_with fail
  have HN0 : Hid (RN w w.heap.size W H 0 none 0 [] (w.alloc (.cells #[.slice none 0 0, .int .i64 m, .bool false] 79))) := hid
    ⟨by rw [HM.out]; exact Blk.new _ _ _, World.ownsRow_nil _ _ _ _, (Keep.refl _ w).alloc _, Nat.le_refl _⟩
  go_loopw [6, 7, 8] (fun u v a wr => ∃ (i : Nat) (A : Option Addr) (c : Nat), i ≤ 6 ∧ u = .int .i64 (upN i W) ∧ v = .int .i64 (upN i H) ∧ a = .int .i64 (off W H i) ∧ Hid (RN w w.heap.size W H (off W H i) A c (rall W H i) wr) ∧ Hid (∀ j, j < i → ¬ (upN j W = 1 ∧ upN j H = 1))) (fun u v _ _ => (intOf u).toNat + (intOf v).toNat)
  case atStart => exact ⟨0, none, 0, by omega, rfl, rfl, rfl, HN0, hid (fun _ h => by omega)⟩
  case round =>
    obtain ⟨i, A, c, hi, rfl, rfl, rfl, HN, H1⟩ := hrel
    clear HN0
    have ha0 := upN_pos hW0 i
    have hb0 := upN_pos hH0 i
    have ha1 : upN i W ≤ 8 := Nat.le_trans (upN_le i) hW
    have hb1 : upN i H ≤ 8 := Nat.le_trans (upN_le i) hH
    have hs64 : sz W H i ≤ 64 := Nat.mul_le_mul ha1 hb1
    have hs0 : 0 < sz W H i := Nat.mul_pos ha0 hb0
    have eS : IntKind.i64.wrap ((upN i W : Int) * (upN i H : Int)) = (sz W H i : Int) := by rw [← Int.natCast_mul, IntWalk.i64_in _ (by have : upN i W * upN i H = sz W H i := rfl; omega)]; rfl
    have ho := off_le hW hH i
    have HSZ := hid (show sz W H i = upN i W * upN i H from rfl)
    have HOF := hid (show off W H (i + 1) = off W H i + sz W H i from rfl)
    have HRA := hid (show rall W H (i + 1) = rall W H i ++ rlev W H i (sz W H i) from rfl)
    have HRL := hid (show ∀ k, rlev W H i (k + 1) = rlev W H i k ++ rcells nd0 (upIx W H i k) from fun _ => rfl)
    have HRL0 := hid (show rlev W H i 0 = [] from rfl)
    have HUP := hid (show ∀ k, upIx W H i k = if 1 < sz W H i then ((off W H i + sz W H i + k / upN i W / 2 * ((upN i W + 1) / 2) + k % upN i W / 2 : Nat) : Int) else -1 from fun _ => rfl)
    have hupW : upN (i + 1) W = (upN i W + 1) / 2 := rfl
    have hupH : upN (i + 1) H = (upN i H + 1) / 2 := rfl
    have HUW := hid hupW
    have HUH := hid hupH
    clear hupW hupH
    generalize hA : upN i W = a at *
    generalize hB : upN i H = b at *
    generalize hS : sz W H i = s at *
    generalize hO : off W H i = o at *
    have HA := hid hA
    have HB := hid hB
    have HS := hid hS
    have HO := hid hO
    clear hA hB hS hO
    have HNk : Hid (RN w w.heap.size W H (o + 0) A c (rall W H i ++ rlev W H i 0) wr) := hid (by rw [HRL0.out, List.append_nil]; exact HN.out)
    clear HN
    go_wp2_with fail
    obtain ⟨wo, rfl⟩ : ∃ wo : World, wo = wr := ⟨_, rfl⟩
    go_loopw [10, 11] (fun v _ wr => ∃ (k : Nat) (A : Option Addr) (c : Nat), k ≤ s ∧ v = .int .i64 k ∧ Hid (RN w w.heap.size W H (o + k) A c (rall W H i ++ rlev W H i k) wr)) (fun v _ _ => s - (intOf v).toNat)
    case atStart => exact ⟨0, A, c, by omega, rfl, HNk⟩
    case round =>
      clear HNk A c
      obtain ⟨k, A, c, hk, rfl, HN⟩ := hrel
      by_cases hks : k < s
      · have t0 : wr.cell? ⟨w.heap.size, 0, none⟩ = some (.slice A (o + k) c) := HN.out.blk.cell 0
        by_cases hs1 : 1 < s
        · have HU := hid ((HUP.out k).trans (if_pos hs1))
          have HEX := hid (up_expr o s k a (by omega) (by omega) (by omega) ha0 (by omega))
          go_wp2_with fail
          go_quiet (fail)
          rw [HEX.out, ← HU.out]
          generalize hup : upIx W H i k = up at *
          have HU := hid hup
          clear hup
          have HNq : Hid (RN w w.heap.size W H (o + k) A c (rall W H i ++ rlev W H i k) (wr.drewN nq)) := hid ⟨HN.out.blk.drewN nq, own_keep HN.out.own ((Keep.refl (fun _ => False) wr).drewN nq) (fun _ _ h => h), HN.out.keep.drewN nq, HN.out.p⟩
          clear HN HEX
          generalize wr.drewN nq = w5 at *
          have t5 : w5.cell? ⟨w.heap.size, 0, none⟩ = some (.slice A (o + k) c) := HNq.out.blk.cell 0
          have HA5 := hid ((Keep.refl (fun _ => False) w5).alloc (.cells (rcells nd0 (up)).toArray 81))
          have HO5 := hid (own_keep HNq.out.own HA5.out (fun _ _ h => h))
          have HC5 := hid (Blk.new w5 81 (rcells nd0 (up)).toArray)
          have HNW : Hid (∀ j u, (rcells nd0 (up))[j]? = some u → ((w5).alloc (.cells (rcells nd0 (up)).toArray 81)).cell? ((⟨(w5).heap.size, 0, none⟩ : Addr).add j) = some u) := hid (fun j u hj => by
            rw [add_lit', Nat.zero_add, HC5.out.cell j]
            simpa using hj)
          have HT5 := hid (HNq.out.blk.keep HA5.out (fun h => h))
          have HNE := hid (own_ne HO5.out HT5.out (by decide))
          have HLT := hid (fun k hk => (HO5.out.lt k hk).1)
          have hok : (o + k + 1) * 32 ≤ 140737488355328 := by omega
          go_wp2_with (
            at_builtin
            go_must (refine wpList_append_own_at _ rfl (.tmp 62) (.tmp 65) 77 rfl w.heap.size 81 i0 _ 4 32 Try.underlying77 hi0 hz0 hz1 hz2 rfl (by omega) (.slice A (o + k) c) (o + k) (rall W H i ++ rlev W H i k) rfl HO5.out ⟨(w5).heap.size, 0, none⟩ 1 1 (rcells nd0 (up)) rfl rfl HNW.out (rcells_one _ _) (by simp only [maxLen]; omega) hok (by rw [World.size_alloc]; have := HNq.out.keep.size; omega) ?_)
            intro v6 w6 hown6 hg6 _h6 _h7
            obtain ⟨A6, c6, rfl⟩ := own_form hown6
            have HK6 := hid ((HNq.out.keep.trans HA5.out (fun _ _ h => h)).grown hg6 (fun k hk => .inr (HLT.out k hk)))
            have b6 := HT5.out.grown hg6 (Ne.symm HNE.out)
            have t6 : w6.cell? ⟨w.heap.size, 0, none⟩ = some (.slice A (o + k) c) := b6.cell 0
            have f6 := b6.frozen 0
            have HB6 := hid b6
            have HO6 := hid hown6
            clear b6 hown6 hg6 _h6 _h7)
          have HN7 : Hid (RN w w.heap.size W H (o + (k + 1)) A6 c6 (rall W H i ++ rlev W H i (k + 1)) (w6.setCell ⟨w.heap.size, 0, none⟩ (.slice A6 (o + k + 1) c6))) := hid (by
            have hs := Keep.set1 w6 w.heap.size 0 (.slice A6 (o + k + 1) c6)
            have hne := own_ne HO6.out HB6.out (by decide)
            rw [HRL.out, HU.out, ← List.append_assoc]
            exact ⟨HB6.out.set_ 0 _, own_keep HO6.out hs (fun k e hk => hne (by rw [← hk]; exact e)), HK6.out.setCell (.inr (Nat.le_refl _)) _, Nat.le_refl _⟩)
          clear HNq HA5 HO5 HC5 HNW HT5 HNE HLT HK6 HB6 HO6 t6 f6
          go_roundw
          case rel =>
            first
            | exact ⟨k + 1, A6, c6, by omega, by go_num, HN7⟩
            | ((repeat apply Exists.intro); refine ⟨?_, rfl⟩; exact ⟨k + 1, A6, c6, by omega, by go_num, HN7⟩)
          case measure => simp [intOf]; omega
        · have HU := hid ((HUP.out k).trans (if_neg hs1))
          have HNq := HN
          clear HN
          have HA5 := hid ((Keep.refl (fun _ => False) wr).alloc (.cells (rcells nd0 ((-1))).toArray 81))
          have HO5 := hid (own_keep HNq.out.own HA5.out (fun _ _ h => h))
          have HC5 := hid (Blk.new wr 81 (rcells nd0 ((-1))).toArray)
          have HNW : Hid (∀ j u, (rcells nd0 ((-1)))[j]? = some u → ((wr).alloc (.cells (rcells nd0 ((-1))).toArray 81)).cell? ((⟨(wr).heap.size, 0, none⟩ : Addr).add j) = some u) := hid (fun j u hj => by
            rw [add_lit', Nat.zero_add, HC5.out.cell j]
            simpa using hj)
          have HT5 := hid (HNq.out.blk.keep HA5.out (fun h => h))
          have HNE := hid (own_ne HO5.out HT5.out (by decide))
          have HLT := hid (fun k hk => (HO5.out.lt k hk).1)
          have hok : (o + k + 1) * 32 ≤ 140737488355328 := by omega
          go_wp2_with (
            at_builtin
            go_must (refine wpList_append_own_at _ rfl (.tmp 62) (.tmp 65) 77 rfl w.heap.size 81 i0 _ 4 32 Try.underlying77 hi0 hz0 hz1 hz2 rfl (by omega) (.slice A (o + k) c) (o + k) (rall W H i ++ rlev W H i k) rfl HO5.out ⟨(wr).heap.size, 0, none⟩ 1 1 (rcells nd0 ((-1))) rfl rfl HNW.out (rcells_one _ _) (by simp only [maxLen]; omega) hok (by rw [World.size_alloc]; have := HNq.out.keep.size; omega) ?_)
            intro v6 w6 hown6 hg6 _h6 _h7
            obtain ⟨A6, c6, rfl⟩ := own_form hown6
            have HK6 := hid ((HNq.out.keep.trans HA5.out (fun _ _ h => h)).grown hg6 (fun k hk => .inr (HLT.out k hk)))
            have b6 := HT5.out.grown hg6 (Ne.symm HNE.out)
            have t6 : w6.cell? ⟨w.heap.size, 0, none⟩ = some (.slice A (o + k) c) := b6.cell 0
            have f6 := b6.frozen 0
            have HB6 := hid b6
            have HO6 := hid hown6
            clear b6 hown6 hg6 _h6 _h7)
          have HN7 : Hid (RN w w.heap.size W H (o + (k + 1)) A6 c6 (rall W H i ++ rlev W H i (k + 1)) (w6.setCell ⟨w.heap.size, 0, none⟩ (.slice A6 (o + k + 1) c6))) := hid (by
            have hs := Keep.set1 w6 w.heap.size 0 (.slice A6 (o + k + 1) c6)
            have hne := own_ne HO6.out HB6.out (by decide)
            rw [HRL.out, HU.out, ← List.append_assoc]
            exact ⟨HB6.out.set_ 0 _, own_keep HO6.out hs (fun k e hk => hne (by rw [← hk]; exact e)), HK6.out.setCell (.inr (Nat.le_refl _)) _, Nat.le_refl _⟩)
          clear HNq HA5 HO5 HC5 HNW HT5 HNE HLT HK6 HB6 HO6 t6 f6
          go_roundw
          case rel =>
            first
            | exact ⟨k + 1, A6, c6, by omega, by go_num, HN7⟩
            | ((repeat apply Exists.intro); refine ⟨?_, rfl⟩; exact ⟨k + 1, A6, c6, by omega, by go_num, HN7⟩)
          case measure => simp [intOf]; omega
      · obtain rfl : s = k := by omega
        have HN7 : Hid (RN w w.heap.size W H (off W H (i + 1)) A c (rall W H (i + 1)) wr) := hid (by rw [HOF.out, HRA.out]; exact HN.out)
        clear HN
        by_cases h11 : s = 1
        · subst h11
          have ha : a = 1 ∧ b = 1 := by
            have h := HSZ.out
            exact ⟨Nat.eq_one_of_mul_eq_one_right h.symm, Nat.eq_one_of_mul_eq_one_left h.symm⟩
          obtain ⟨ha, hb⟩ := ha
          have HLEV : Hid (Lev W H (i + 1)) := hid ⟨hW0, hH0, by omega, by omega, by omega, by omega, by rw [Nat.add_sub_cancel, HA.out, ha], by rw [Nat.add_sub_cancel, HB.out, hb], fun j hj => H1.out j (by omega)⟩
          have HSZ1 : Hid (off W H (i + 1) = o + 1) := HOF
          go_wp2_with fail
          go_ret
          obtain ⟨g, cap, cur, hv, hbs, hg, hnc, _⟩ : ∃ g cap cur, Value.slice A (off W H (i + 1)) c = .slice (some ⟨g, 0, none⟩) (off W H (i + 1)) cap ∧ w.heap.size ≤ g ∧ wr.heap[g]? = some (.cells cur 81 (0, 0)) ∧ off W H (i + 1) ≤ cap ∧ True := by
            rcases HN7.out.own.2 with ⟨h0, h1⟩ | ⟨g, cap, cur, hv, hb, hg, hnc, _⟩
            · have h2 := HSZ1.out; omega
            · exact ⟨g, cap, cur, hv, hb, hg, hnc, trivial⟩
          injection hv with hv1 hv2 hv3
          subst hv1 hv3
          refine ⟨w.heap.size, g, off W H (i + 1), c, i + 1, rfl, ⟨HLEV.out, rfl, hnc, HN7.out.blk, ⟨_, hg⟩, fun i' j hi' hj r u hu => ?_⟩, Nat.le_refl _, hbs, HN7.out.keep⟩
          have h3 := rall_at W H (i + 1) i' j r u hi' hj hu
          have h4 := HN7.out.own.cells (g := g) rfl _ u h3
          rw [add_lit', Nat.zero_add] at h4
          exact h4
        · have hi6 : i < 6 := by
            rcases Nat.lt_or_ge i 6 with h | h
            · exact h
            · obtain rfl : i = 6 := by omega
              have h1 := up6 hW0 (by omega)
              have h2 := up6 hH0 (by omega)
              have h3 := HSZ.out
              rw [← HA.out, ← HB.out, h1, h2] at h3
              exact absurd h3 h11
          have HNX : Hid (∀ j, j < i + 1 → ¬ (upN j W = 1 ∧ upN j H = 1)) := hid (fun j hj => by
            by_cases e : j = i
            · subst e
              rintro ⟨e1, e2⟩
              have h3 := HSZ.out
              rw [← HA.out, ← HB.out, e1, e2] at h3
              exact h11 h3
            · exact H1.out j (by omega))
          have HREL : Hid (∀ x y z : Int, x = (upN (i + 1) W : Int) → y = (upN (i + 1) H : Int) → z = (off W H (i + 1) : Int) → ∃ (i' : Nat) (A : Option Addr) (c : Nat), i' ≤ 6 ∧ Value.int .i64 x = .int .i64 (upN i' W) ∧ Value.int .i64 y = .int .i64 (upN i' H) ∧ Value.int .i64 z = .int .i64 (off W H i') ∧ Hid (RN w w.heap.size W H (off W H i') A c (rall W H i') wr) ∧ Hid (∀ j, j < i' → ¬ (upN j W = 1 ∧ upN j H = 1))) :=
            hid (fun x y z h1 h2 h3 => ⟨i + 1, A, c, by omega, by rw [h1], by rw [h2], by rw [h3], HN7, HNX⟩)
          rw [HUW.out, HUH.out, HOF.out] at HREL
          have hab : 1 < a ∨ 1 < b := by
            rcases Nat.lt_or_ge 1 a with h | h
            · exact .inl h
            · refine .inr ?_
              have h3 := HSZ.out
              rw [show a = 1 by omega, Nat.one_mul] at h3
              omega
          have hs1 : ((s : Int) == 1) = false := by simp only [beq_eq_false_iff_ne]; omega
          clear HN7 HNX HSZ HOF
          go_wp2_with fail
          exact ⟨HREL.out _ _ _ (by omega) (by omega) (by omega), by simp only [intOf]; omega⟩
end Go.Proofs.Ytbkffpedigeflaa
