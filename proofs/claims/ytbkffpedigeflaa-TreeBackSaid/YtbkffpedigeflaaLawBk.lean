/-
  TreeBack: the walk. Conditions: none.
-/
import Derived.Test.YtbkffpedigeflaaTreesD
import Derived.Test.YtbkffpedigeflaaArg
import Derived.WalkLawsBesides
import Derived.Deep.DeepCutAuto
import Derived.Test.YtbkffpedigeflaaRegion2
namespace Go.Proofs.Ytbkffpedigeflaa
open Go.RowKit

theorem endM_all (bs : List Int) : endM (outB (runM ([], 0) bs).1) (stR bs bs.length).1 (stR bs bs.length).2.2 = (((outB (runM ([], 0) bs).1).length : Int), (0 : Int)) := by
  have := end_ok bs []
  rw [List.append_nil, frontM_all] at this
  show endM _ (frontM bs bs.length).1.length false = _
  rw [frontM_all]
  exact this

/-- What stands behind the i-th Decode. -/
structure DecP (w : World) (p : Nat → Nat) (L W H Q : Nat) (st : Nat → List Int × Int) (SB m : Nat) (S : Nat → Int) (w6 : World) (R : Nat) (A7 : Option Addr) (n6 c7 : Nat) (f : Nat → Nat) (b : Nat → Int) (N0 : Nat → Nat → Nd) (K i : Nat) (kv : Int) (N : Nat → Nat → Nat → Nd) (w' : World) : Prop where
  tr : TrS w 2 1 p L W H N (fun _ => Q) st w'
  blk : Blk w' SB 3 (rowC m S)
  rd : RrS w' w6.heap.size R A7 n6 c7 (outB (runM ([], 0) (encB W L f b N0 K).2).1) (stR (encB W L f b N0 K).2 (encB W L f b N0 (i + 1)).2.length)
  sync : Sync W H L (fun i j => (N0 i j).n) (encB W L f b N0 (i + 1)).1 (N 1)
  know : knownM (N 1 0 (f i)) = kv
theorem DecP.aside {w : World} {p : Nat → Nat} {L W H Q : Nat} {st : Nat → List Int × Int} {SB m : Nat} {S : Nat → Int} {w6 : World} {R : Nat} {A7 : Option Addr} {n6 c7 : Nat} {f : Nat → Nat} {b : Nat → Int} {N0 : Nat → Nat → Nd} {K i : Nat} {kv : Int} {N : Nat → Nat → Nat → Nd} {w1 w2 : World} (h : DecP w p L W H Q st SB m S w6 R A7 n6 c7 f b N0 K i kv N w1) (hk : Keep (fun _ => False) w1 w2) : DecP w p L W H Q st SB m S w6 R A7 n6 c7 f b N0 K i kv N w2 :=
  ⟨h.tr.aside hk, h.blk.keep hk (fun h => h), Rr.aside h.rd hk, h.sync, h.know⟩
theorem i64_range (n : Int) : -9223372036854775808 ≤ IntKind.i64.wrap n ∧ IntKind.i64.wrap n ≤ 9223372036854775807 := by
  rw [IntKind.wrap_i64]
  omega
set_option maxRecDepth 100000 in
set_option maxHeartbeats 16000000 in
theorem treeBack_walk (x y : Int) (A0 : Option Addr) (n0 c0 : Nat) (zs : List Int) (A1 : Option Addr) (n1 c1 : Nat) (ks : List Int) (A2 : Option Addr) (n2 c2 : Nat) (bds : List Int) (w : World)
    (hx : (Lit.int .i64 x).wf = true) (hy : (Lit.int .i64 y).wf = true) (h0 : Arg .i64 8 w A0 n0 c0 zs) (h1 : Arg .i64 8 w A1 n1 c1 ks) (h2 : Arg .i64 8 w A2 n2 c2 bds) :
    Calls Try.prog 7 #[.int .i64 x, .int .i64 y, .slice A0 n0 c0, .slice A1 n1 c1, .slice A2 n2 c2] w fun e w' => e = .returned (.bool true) ∧ Below w.heap.size w w' := by
  obtain ⟨i0, hi0, hz0, hz1, hz2⟩ := info_parts info_int
  have hx := wf_i64 hx
  have hy := wf_i64 hy
  have HR0 := hid h0.rd
  have HI0 := hid h0.ints
  have HR1 := hid h1.rd
  have HI1 := hid h1.ints
  have HR2 := hid h2.rd
  have HI2 := hid h2.ints
  have HN0 : Hid (n0 ≤ 17592186043904) := hid (by have := h0.cap; have := h0.reach; omega)
  clear h0 h1 h2
  go_enter Try.func7, Try.ntmps7
  go_wp2_with fail
  refine (known_ok w).mono ?_
  rintro e w1 ⟨rfl, hk1⟩
  have HK1 := hid hk1
  clear hk1
  go_wp2_with fail
  refine (within_any w1 x 8 hx.1 hx.2 (by omega) (by omega)).mono ?_
  rintro e w1' ⟨rfl, rfl⟩
  have q1 : 0 ≤ x % 8 := by omega
  have q2 : x % 8 < 8 := by omega
  obtain ⟨W0, hW0⟩ := Int.eq_ofNat_of_zero_le q1
  rw [hW0] at q2 ⊢
  have hW8 : W0 < 8 := by omega
  clear q1 q2 hW0 hx
  go_wp2_with fail
  refine (within_any w1 y 8 hy.1 hy.2 (by omega) (by omega)).mono ?_
  rintro e w1' ⟨rfl, rfl⟩
  have q1 : 0 ≤ y % 8 := by omega
  have q2 : y % 8 < 8 := by omega
  obtain ⟨H0, hH0⟩ := Int.eq_ofNat_of_zero_le q1
  rw [hH0] at q2 ⊢
  have hH8 : H0 < 8 := by omega
  clear q1 q2 hH0 hy
  go_wp2_with fail
  obtain ⟨W, hW⟩ : ∃ W, W = 1 + W0 := ⟨_, rfl⟩
  obtain ⟨H, hH⟩ : ∃ H, H = 1 + H0 := ⟨_, rfl⟩
  have eW : (1 : Int) + (W0 : Int) = (W : Int) := by omega
  have eH : (1 : Int) + (H0 : Int) = (H : Int) := by omega
  have hWb : 0 < W ∧ W ≤ 8 := by omega
  have hHb : 0 < H ∧ H ≤ 8 := by omega
  rw [eW, eH]
  clear hW hH hW8 hH8 eW eH
  refine (new_any w1 W H hWb.1 hHb.1 (by omega) (by omega)).mono ?_
  rintro e w2 ⟨p0, G, c3, L, B, rfl, ht, hnn, hkk⟩
  have HL := hid ht.lev
  have hL7 := ht.lev.le
  have hLp := ht.lev.pos
  have H1 := hid (TrS.tree (m := 0) (TrS.start (p := fun _ => 0) (L := L) (W := W) (H := H) (N := fun _ _ _ => nd0) (Q := fun _ => 0) (st := fun _ => ([], 0)) HK1.out) ht hnn hkk (p' := fun _ => p0) (N' := fun _ _ _ => nd0) (fun i hi => by omega) rfl (fun _ _ => rfl) rfl)
  clear ht hnn hkk HK1
  go_wp2_with fail
  refine (new_any w2 W H hWb.1 hHb.1 (by omega) (by omega)).mono ?_
  rintro e w3 ⟨p1, G', c3', L', B', rfl, ht, hnn, hkk⟩
  obtain rfl : L = L' := HL.out.same ht.lev
  have H2 := hid (TrS.tree (m := 1) H1.out ht hnn hkk (p' := put (fun _ => p0) 1 p1) (N' := fun _ _ _ => nd0) (fun i hi => put_ne _ _ (by omega)) (put_at _ _ _) (fun _ _ => rfl) rfl)
  clear ht hnn hkk H1
  obtain ⟨p, HT0, e0, e1⟩ : ∃ p : Nat → Nat, Hid (TrS w 2 0 p L W H (fun _ _ _ => nd0) (fun _ => 0) (fun _ => ([], 0)) w3) ∧ p 0 = p0 ∧ p 1 = p1 := ⟨_, H2, rfl, rfl⟩
  subst e0 e1
  clear H2
  obtain ⟨m, hm⟩ : ∃ m, W * H = m := ⟨_, rfl⟩
  have HM := hid hm
  have hm64 : m ≤ 64 := by rw [← hm]; exact Nat.mul_le_mul hWb.2 hHb.2
  have hm0 : 0 < m := by rw [← hm]; exact Nat.mul_pos hWb.1 hHb.1
  have eM : IntKind.i64.wrap ((W : Int) * (H : Int)) = (m : Int) := by rw [← hm, ← Int.natCast_mul, IntWalk.i64_in _ (by rw [hm]; omega)]
  clear hm
  go_wp2_with (refine wpList_make_full _ rfl _ _ 22 rfl w3.heap.size 3 i0 _ 1 Try.underlying22 hi0 hz0 hz1 .i64 .i64 _ _ m rfl rfl rfl rfl (by rw [hz2]; omega) (by simp only [maxLen]; omega) (by simp) ?_; intro w4 hown4 hg4)
  have hb4 := blk_of_full hown4
  rw [Array.toArray_toList, rowC_made m _ rfl] at hb4
  have HB0 := hid hb4
  have hk4 : Keep (fun _ => False) w3 w4 := (Keep.refl (fun _ => False) w3).grown hg4 (fun k hk => by cases hk)
  have HT1 := hid (HT0.out.aside hk4)
  have hSBn : w.heap.size ≤ w3.heap.size := HT0.out.keeps.size
  have HS0 : Hid (BackI W H L (fun _ => 0) (fun _ _ => nd0) 0) := hid ⟨Cons.zero W H L, fun j hj => by omega, fun _ _ => ⟨rfl, rfl⟩, fun _ _ => Int.le_refl _⟩
  clear hown4 hg4 hb4 hk4 HT0
  generalize w3.heap.size = SB at *
  go_loopw [14] (fun v wr => ∃ (k : Nat) (N : Nat → Nat → Nat → Nd) (S : Nat → Int), k ≤ m ∧ v = .int .i64 k ∧ Hid (TrS w 2 0 p L W H N (fun _ => 0) (fun _ => ([], 0)) wr) ∧ Hid (Blk wr SB 3 (rowC m S)) ∧ Hid (BackI W H L S (N 0) k ∧ N 1 = (fun _ _ => nd0) ∧ (∀ j, 0 ≤ S j ∧ S j ≤ 8))) (fun v _ => m - (intOf v).toNat)
  case atStart => exact ⟨0, _, _, by omega, rfl, HT1, HB0, hid ⟨HS0.out, rfl, fun _ => by simp⟩⟩
  case round =>
    obtain ⟨k, N, S, hk, rfl, HT, HB, HS⟩ := hrel
    clear HT1 HB0 HS0
    by_cases hkm : k < m
    · by_cases hn0p : 0 < n0
      · as_aux_lemma =>
        have hkn : k % n0 < n0 := Nat.mod_lt _ hn0p
        obtain ⟨bb, oo, hA, hc⟩ := HR0.out.int_ix hkn
        have hzb := HI0.out (zs.getD (k % n0) 0) (by
          have hl : k % n0 < zs.length := by rw [HR0.out.len]; exact hkn
          rw [List.getD_eq_getElem?_getD, List.getElem?_eq_getElem hl]
          exact List.getElem_mem hl)
        have d1 := HT.out.keeps.cell hc (fun h => h)
        subst hA
        clear hc
        have e0 : ¬ n0 = 0 := by omega
        have e2 : (k : Int).tmod (n0 : Int) = ((k % n0 : Nat) : Int) := by rw [Int.tmod_eq_emod_of_nonneg (by omega)]; simp
        have e3 : IntKind.i64.wrap ((k : Int) / (n0 : Int)) = ((k / n0 : Nat) : Int) := by
          have hd : k / n0 ≤ k := Nat.div_le_self _ _
          rw [← Int.natCast_ediv]
          generalize k / n0 = q at *
          exact IntWalk.i64_in _ (by omega)
        generalize zs.getD (k % n0) 0 = z at *
        generalize k % n0 = r at *
        generalize k / n0 = q at *
        obtain ⟨v, hv⟩ : ∃ v, IntKind.i64.wrap (z + (q : Int)) = v := ⟨_, rfl⟩
        have hvr : -9223372036854775808 ≤ v ∧ v ≤ 9223372036854775807 := hv ▸ i64_range _
        have HVR := hid hvr
        have c5 := HB.out.drew.cell k
        rw [rowC_at S hkm] at c5
        have f5 := HB.out.drew.frozen k
        have HT5 := hid ((HT.out.other HB.out (by decide) (by decide) (by decide) (by decide) (by decide) hSBn (Keep.set1 wr SB k (.int .i64 (v % 9)))).aside ((Keep.refl (fun _ => False) _).drew))
        obtain ⟨S5, hS5⟩ : ∃ S5 : Nat → Int, S5 = fun j => if j = k then v % 9 else S j := ⟨_, rfl⟩
        have HB5 : Hid (Blk (wr.setCell ⟨SB, k, none⟩ (.int .i64 (v % 9))).drew SB 3 (rowC m S5)) := hid (by
          rw [hS5, ← rowC_set]
          exact (HB.out.set_ k _).drew)
        have HSB : Hid (∀ j, 0 ≤ S5 j ∧ S5 j ≤ 8) := hid (fun j => by
          rw [hS5]
          dsimp only
          split
          · omega
          · exact HS.out.2.2 j)
        have HSK : Hid (∀ j, j < k → S5 j = S j) := hid (fun j hj => by rw [hS5]; exact if_neg (by omega))
        clear hS5
        clear hvr
        go_wp2_with fail
        -- region 10: 17 operations
        refine At.start (L := #[false, false, false, false, false, false, false, false, false, false, false, false, false, false, false, false, false]) (by kernel_rfl) rfl ?_
        refine At.pure 0 (some 51) (v := ?v0a) rfl rfl (by kernel_rfl) (fun _ _ _ h => h) rfl (fun w' => ?y0a) ?_   
        case y0a => go_simp; try with_reducible rfl
        try simp only [Act.put, List.setIfInBounds_toArray, List.set_cons_zero, List.set_cons_succ]
        refine At.pure 1 (some 52) (v := ?v1a) rfl rfl (by kernel_rfl) (fun _ _ _ h => h) rfl (fun w' => ?y1a) ?_   
        case y1a => go_simp; try with_reducible rfl
        try simp only [Act.put, List.setIfInBounds_toArray, List.set_cons_zero, List.set_cons_succ]
        refine At.pure 2 (some 53) (v := ?v2a) rfl rfl (by kernel_rfl) (fun _ _ _ h => h) rfl (fun w' => ?y2a) ?_   
        case y2a => go_simp; try with_reducible rfl
        try simp only [Act.put, List.setIfInBounds_toArray, List.set_cons_zero, List.set_cons_succ]
        refine At.pure 3 (some 54) (v := ?v3a) rfl rfl (by kernel_rfl) (fun _ _ _ h => h) rfl (fun w' => ?y3a) ?_   
        case y3a => go_simp; try with_reducible rfl
        try simp only [Act.put, List.setIfInBounds_toArray, List.set_cons_zero, List.set_cons_succ]
        refine At.pure 4 (some 55) (v := ?v4a) rfl rfl (by kernel_rfl) (fun _ _ _ h => h) rfl (fun w' => ?y4a) ?_   
        case y4a => go_simp; try with_reducible rfl
        try simp only [Act.put, List.setIfInBounds_toArray, List.set_cons_zero, List.set_cons_succ]
        refine At.pure 5 (some 56) (v := ?v5a) rfl rfl (by kernel_rfl) (fun _ _ _ h => h) rfl (fun w' => ?y5a) ?_   
        case y5a => go_simp; try with_reducible rfl
        try simp only [Act.put, List.setIfInBounds_toArray, List.set_cons_zero, List.set_cons_succ]
        refine At.pure 6 (some 57) (v := ?v6a) rfl rfl (by kernel_rfl) (fun _ _ _ h => h) rfl (fun w' => ?y6a) ?_   
        case y6a => go_simp; try with_reducible rfl
        try simp only [Act.put, List.setIfInBounds_toArray, List.set_cons_zero, List.set_cons_succ]
        refine At.pure 7 (some 58) (v := ?v7a) rfl rfl (by kernel_rfl) (fun _ _ _ h => h) rfl (fun w' => ?y7a) ?_   
        case y7a => go_simp; try with_reducible rfl
        try simp only [Act.put, List.setIfInBounds_toArray, List.set_cons_zero, List.set_cons_succ]
        refine At.read 8 (some 59) (fun w' => w'.cell? ⟨bb, oo + r, none⟩ = some (.int .i64 z)) (v := ?v8a) rfl rfl (by kernel_rfl) (fun _ _ _ h => h) rfl d1 (fun w' hw' => ?y8a) ?_   
        case y8a => skip; go_simp; try with_reducible rfl
        try simp only [Act.put, List.setIfInBounds_toArray, List.set_cons_zero, List.set_cons_succ]
        refine At.pure 9 (some 60) (v := ?v9a) rfl rfl (by kernel_rfl) (fun _ _ _ h => h) rfl (fun w' => ?y9a) ?_   
        case y9a => go_simp; try with_reducible rfl
        try simp only [Act.put, List.setIfInBounds_toArray, List.set_cons_zero, List.set_cons_succ]
        refine At.pure 10 (some 61) (v := ?v10a) rfl rfl (by kernel_rfl) (fun _ _ _ h => h) rfl (fun w' => ?y10a) ?_   
        case y10a => go_simp; try with_reducible rfl
        try simp only [Act.put, List.setIfInBounds_toArray, List.set_cons_zero, List.set_cons_succ]
        refine At.pure 11 (some 62) (v := ?v11a) rfl rfl (by kernel_rfl) (fun _ _ _ h => h) rfl (fun w' => ?y11a) ?_   
        case y11a => go_simp; try with_reducible rfl
        try simp only [Act.put, List.setIfInBounds_toArray, List.set_cons_zero, List.set_cons_succ]
        refine At.pure 12 (some 63) (v := ?v12a) rfl rfl (by kernel_rfl) (fun _ _ _ h => h) rfl (fun w' => ?y12a) ?_   
        case y12a => go_simp; try with_reducible rfl
        try simp only [Act.put, List.setIfInBounds_toArray, List.set_cons_zero, List.set_cons_succ]
        refine At.pure 13 (some 64) (v := ?v13a) rfl rfl (by kernel_rfl) (fun _ _ _ h => h) rfl (fun w' => ?y13a) ?_   
        case y13a => go_simp; try with_reducible rfl
        try simp only [Act.put, List.setIfInBounds_toArray, List.set_cons_zero, List.set_cons_succ]
        refine At.call 14 (pend' := []) rfl (by kernel_rfl) rfl (by kernel_rfl) (fun K hK => ?_)   
        go_simp
        refine (within_any _ v 9 HVR.out.1 HVR.out.2 (by decide) (by decide)).mono ?_
        rintro e w5 ⟨rfl, rfl⟩
        refine hK _ _ all_nil ?_
        clear hK K
        try simp only [Act.put, List.setIfInBounds_toArray, List.set_cons_zero, List.set_cons_succ]
        refine At.pure 15 (some 66) (v := ?v15a) rfl rfl (by kernel_rfl) (fun _ _ _ h => h) rfl (fun w' => ?y15a) ?_   
        case y15a => go_simp; try with_reducible rfl
        try simp only [Act.put, List.setIfInBounds_toArray, List.set_cons_zero, List.set_cons_succ]
        refine At.call 16 (pend' := []) rfl (by kernel_rfl) rfl (by kernel_rfl) (fun K hK => ?_)   
        go_simp
        refine hK _ _ all_nil ?_
        clear hK K
        try simp only [Act.put, List.setIfInBounds_toArray, List.set_cons_zero, List.set_cons_succ]
        refine At.done (by kernel_rfl) ?_
        clear e0 e2 e3 hv HVR c5 f5 d1 HT HB hzb hkn
        generalize (wr.setCell ⟨SB, k, none⟩ (.int .i64 (v % 9))).drew = w5 at *
        have hc := HB5.out.cell k
        rw [rowC_at S5 hkm] at hc
        go_wp2_with fail
        refine (TrS.setO HT5.out (i := 0) (by omega) k (S5 k) (by rw [HM.out]; exact hkm)).mono ?_
        rintro e w6 ⟨rfl, h6, ho⟩
        have HT6 := hid h6
        have HB6 := hid (ho SB _ _ (by decide) (by decide) (by decide) HB5.out)
        have HS6 : Hid (BackI W H L S5 (put N 0 (setI W H k (S5 k) (N 0) (L - 1)) 0) (k + 1) ∧ put N 0 (setI W H k (S5 k) (N 0) (L - 1)) 1 = (fun _ _ => nd0) ∧ (∀ j, 0 ≤ S5 j ∧ S5 j ≤ 8)) := hid (by
          rw [put_at, put_ne _ _ (by decide)]
          exact ⟨HS.out.1.next HL.out (by rw [HM.out]; exact hkm) HSK.out (HSB.out k).1, HS.out.2.1, HSB.out⟩)
        clear h6 ho hc HT5 HB5 HSB HS
        go_wp2_with fail
        go_roundw
        case rel => exact ⟨k + 1, _, _, by omega, by go_num, HT6, HB6, HS6⟩
        case measure => simp [intOf]; omega
      · have HT5 := HT
        have HB5 := HB
        have HSB := hid HS.out.2.2
        have hn00 : n0 = 0 := by omega
        subst hn00
        clear HT HB
        have hc := HB5.out.cell k
        rw [rowC_at S hkm] at hc
        go_wp2_with fail
        refine (TrS.setO HT5.out (i := 0) (by omega) k (S k) (by rw [HM.out]; exact hkm)).mono ?_
        rintro e w6 ⟨rfl, h6, ho⟩
        have HT6 := hid h6
        have HB6 := hid (ho SB _ _ (by decide) (by decide) (by decide) HB5.out)
        have HS6 : Hid (BackI W H L S (put N 0 (setI W H k (S k) (N 0) (L - 1)) 0) (k + 1) ∧ put N 0 (setI W H k (S k) (N 0) (L - 1)) 1 = (fun _ _ => nd0) ∧ (∀ j, 0 ≤ S j ∧ S j ≤ 8)) := hid (by
          rw [put_at, put_ne _ _ (by decide)]
          exact ⟨HS.out.1.next HL.out (by rw [HM.out]; exact hkm) (fun _ _ => rfl) (HSB.out k).1, HS.out.2.1, HSB.out⟩)
        clear h6 ho hc HT5 HB5 HSB HS
        go_wp2_with fail
        go_roundw
        case rel => exact ⟨k + 1, _, _, by omega, by go_num, HT6, HB6, HS6⟩
        case measure => simp [intOf]; omega
    · obtain rfl : m = k := by omega
      have HUP := hid (HS.out.1.up HL.out)
      have HSY := hid HS.out.1.sync
      have HPOS := hid HS.out.1.pos
      have HLF := hid HS.out.1.leaf
      have HN1 := hid HS.out.2.1
      have HSB := hid HS.out.2.2
      obtain ⟨N0, hN0⟩ : ∃ N0, N0 = N 0 := ⟨_, rfl⟩
      have HN0 := hid hN0
      rw [← hN0] at HUP HSY HPOS HLF
      clear HS hN0
      go_wp2_with fail
      refine (neww_any wr).mono ?_
      rintro e w5 ⟨Q, rfl, hQ, hw5, hkk⟩
      have HT5 := hid (TrS.writer (r := 0) HT.out hw5 hQ hkk (Q' := fun _ => Q) (st' := fun _ => ([], 0)) (fun i hi => by omega) rfl (fun _ _ => rfl) rfl)
      have HB5 := hid (HB.out.keep hkk (fun h => h))
      clear hQ hw5 hkk HT HB
      obtain ⟨f, hf⟩ : ∃ f : Nat → Nat, ∀ i, ks.getD i 0 % (m : Int) = (f i : Int) := ⟨fun i => (ks.getD i 0 % (m : Int)).toNat, fun i => by
        have := Int.emod_nonneg (ks.getD i 0) (b := (m : Int)) (by omega)
        exact (Int.toNat_of_nonneg this).symm⟩
      have HF := hid hf
      have HFM : Hid (∀ i, f i < m) := hid (fun i => by
        have h1 := Int.emod_lt_of_pos (ks.getD i 0) (b := (m : Int)) (by omega)
        have h2 := hf i
        omega)
      obtain ⟨b, hb⟩ : ∃ b : Nat → Int, ∀ i, bds.getD i 0 % 12 = b i := ⟨fun i => bds.getD i 0 % 12, fun _ => rfl⟩
      have HBD := hid hb
      have HBR : Hid (∀ i, 0 ≤ b i ∧ b i < 12) := hid (fun i => by rw [← hb i]; omega)
      clear hf hb
      have HE0 : Hid (N 1 = (fun _ _ => nd0) ∧ N 0 = (encB W L f b N0 0).1 ∧ (fun _ => (([], 0) : List Int × Int)) 0 = runM ([], 0) (encB W L f b N0 0).2) := hid ⟨HN1.out, HN0.out.symm, rfl⟩
      clear HN1 HN0
      go_upto_region 13 with fail
      go_cut [16] (fun v wx => ∃ K : Nat, v = .int .i64 K ∧ K ≤ n1 ∧ K ≤ n2 ∧ K ≤ 60 ∧ wx = w5)
      case first =>
        go_wp2_with fail
        all_goals (go_meet; first | exact ⟨60, rfl, by omega, by omega, by omega, rfl⟩ | exact ⟨n1, rfl, by omega, by omega, by omega, rfl⟩ | exact ⟨n2, rfl, by omega, by omega, by omega, rfl⟩)
      case rest =>
        obtain ⟨K, rfl, hK1, hK2, hK3, hw⟩ := hcut
        obtain rfl : w5 = wc := hw.symm
        clear hw
        go_wp2_with fail
        go_loopw [17] (fun v wr => ∃ (i : Nat) (N : Nat → Nat → Nat → Nd) (st : Nat → List Int × Int), i ≤ K ∧ v = .int .i64 i ∧ Hid (TrS w 2 1 p L W H N (fun _ => Q) st wr) ∧ Hid (Blk wr SB 3 (rowC m S)) ∧ Hid (N 1 = (fun _ _ => nd0) ∧ N 0 = (encB W L f b N0 i).1 ∧ st 0 = runM ([], 0) (encB W L f b N0 i).2)) (fun v _ => K - (intOf v).toNat)
        case atStart => exact ⟨0, N, _, by omega, rfl, HT5, HB5, HE0⟩
        case round =>
          clear HT5 HB5 HE0 N
          obtain ⟨i, N, st, hi, rfl, HT, HB, HE⟩ := hrel
          have hst : (st 0).1.length ≤ 500000 := by
            have h1 := encB_len W L f b N0 hL7 (fun j => by have := (HBR.out j).2; omega) i
            have h2 := runM_length (encB W L f b N0 i).2 ([], 0)
            simp only [List.length_nil] at h2
            rw [HE.out.2.2]; omega
          by_cases hiK : i < K
          · as_aux_lemma =>
            skip
            have hz1 := (HI1.out (ks.getD i 0)) (by
              have hl : i < ks.length := by rw [HR1.out.len]; omega
              rw [List.getD_eq_getElem?_getD, List.getElem?_eq_getElem hl]
              exact List.getElem_mem hl)
            have hz2 := (HI2.out (bds.getD i 0)) (by
              have hl : i < bds.length := by rw [HR2.out.len]; omega
              rw [List.getD_eq_getElem?_getD, List.getElem?_eq_getElem hl]
              exact List.getElem_mem hl)
            have hi1 : i < n1 := by omega
            have hi2 : i < n2 := by omega
            obtain ⟨b1, o1, rfl, hc1⟩ := HR1.out.int_ix hi1
            obtain ⟨b2, o2, rfl, hc2⟩ := HR2.out.int_ix hi2
            have HZ1 := hid hz1
            have HZ2 := hid hz2
            have HZ1F := hid (HF.out i)
            have HZ2B := hid (HBD.out i)
            clear hz1 hz2
            generalize ks.getD i 0 = z1 at *
            generalize bds.getD i 0 = z2 at *
            have d1 := HT.out.keeps.cell hc1 (fun h => h)
            have d2 := HT.out.keeps.cell hc2 (fun h => h)
            clear hc1 hc2
            go_wp2_with fail
            -- region 17: 15 operations
            refine At.start (L := #[false, false, false, false, false, false, false, false, false, false, false, false, false, false, false]) (by kernel_rfl) rfl ?_
            refine At.pure 0 (some 85) (v := ?v0b) rfl rfl (by kernel_rfl) (fun _ _ _ h => h) rfl (fun w' => ?y0b) ?_   
            case y0b => go_simp; try with_reducible rfl
            try simp only [Act.put, List.setIfInBounds_toArray, List.set_cons_zero, List.set_cons_succ]
            refine At.pure 1 (some 86) (v := ?v1b) rfl rfl (by kernel_rfl) (fun _ _ _ h => h) rfl (fun w' => ?y1b) ?_   
            case y1b => go_simp; try with_reducible rfl
            try simp only [Act.put, List.setIfInBounds_toArray, List.set_cons_zero, List.set_cons_succ]
            refine At.pure 2 (some 87) (v := ?v2b) rfl rfl (by kernel_rfl) (fun _ _ _ h => h) rfl (fun w' => ?y2b) ?_   
            case y2b => go_simp; try with_reducible rfl
            try simp only [Act.put, List.setIfInBounds_toArray, List.set_cons_zero, List.set_cons_succ]
            refine At.pure 3 (some 88) (v := ?v3b) rfl rfl (by kernel_rfl) (fun _ _ _ h => h) rfl (fun w' => ?y3b) ?_   
            case y3b => go_simp; try with_reducible rfl
            try simp only [Act.put, List.setIfInBounds_toArray, List.set_cons_zero, List.set_cons_succ]
            refine At.pure 4 (some 89) (v := ?v4b) rfl rfl (by kernel_rfl) (fun _ _ _ h => h) rfl (fun w' => ?y4b) ?_   
            case y4b => go_simp; try with_reducible rfl
            try simp only [Act.put, List.setIfInBounds_toArray, List.set_cons_zero, List.set_cons_succ]
            refine At.read 5 (some 90) (fun w' => w'.cell? ⟨b1, o1 + i, none⟩ = some (.int .i64 z1)) (v := ?v5b) rfl rfl (by kernel_rfl) (fun _ _ _ h => h) rfl d1 (fun w' hw' => ?y5b) ?_   
            case y5b => skip; go_simp; try with_reducible rfl
            try simp only [Act.put, List.setIfInBounds_toArray, List.set_cons_zero, List.set_cons_succ]
            refine At.pure 6 (some 91) (v := ?v6b) rfl rfl (by kernel_rfl) (fun _ _ _ h => h) rfl (fun w' => ?y6b) ?_   
            case y6b => go_simp; try with_reducible rfl
            try simp only [Act.put, List.setIfInBounds_toArray, List.set_cons_zero, List.set_cons_succ]
            refine At.pure 7 (some 92) (v := ?v7b) rfl rfl (by kernel_rfl) (fun _ _ _ h => h) rfl (fun w' => ?y7b) ?_   
            case y7b => go_simp; try with_reducible rfl
            try simp only [Act.put, List.setIfInBounds_toArray, List.set_cons_zero, List.set_cons_succ]
            refine At.pure 9 (some 94) (v := ?v9b) rfl rfl (by kernel_rfl) (fun _ _ _ h => h) rfl (fun w' => ?y9b) ?_   
            case y9b => go_simp; try with_reducible rfl
            try simp only [Act.put, List.setIfInBounds_toArray, List.set_cons_zero, List.set_cons_succ]
            refine At.pure 10 (some 95) (v := ?v10b) rfl rfl (by kernel_rfl) (fun _ _ _ h => h) rfl (fun w' => ?y10b) ?_   
            case y10b => go_simp; try with_reducible rfl
            try simp only [Act.put, List.setIfInBounds_toArray, List.set_cons_zero, List.set_cons_succ]
            refine At.pure 11 (some 96) (v := ?v11b) rfl rfl (by kernel_rfl) (fun _ _ _ h => h) rfl (fun w' => ?y11b) ?_   
            case y11b => go_simp; try with_reducible rfl
            try simp only [Act.put, List.setIfInBounds_toArray, List.set_cons_zero, List.set_cons_succ]
            refine At.read 12 (some 97) (fun w' => w'.cell? ⟨b2, o2 + i, none⟩ = some (.int .i64 z2)) (v := ?v12b) rfl rfl (by kernel_rfl) (fun _ _ _ h => h) rfl d2 (fun w' hw' => ?y12b) ?_   
            case y12b => skip; go_simp; try with_reducible rfl
            try simp only [Act.put, List.setIfInBounds_toArray, List.set_cons_zero, List.set_cons_succ]
            refine At.call 8 (pend' := [(12, (fun w' => w'.cell? ⟨b2, o2 + i, none⟩ = some (.int .i64 z2)))]) rfl (by kernel_rfl) rfl (by kernel_rfl) (fun K hK => ?_)   
            go_simp
            refine (within_any _ z1 m HZ1.out.1 HZ1.out.2 (by omega) (by omega)).mono ?_
            rintro e w6 ⟨rfl, rfl⟩
            rw [HZ1F.out]
            refine hK _ _ (all_cons d2 all_nil) ?_
            clear hK K
            try simp only [Act.put, List.setIfInBounds_toArray, List.set_cons_zero, List.set_cons_succ]
            refine At.call 13 (pend' := []) rfl (by kernel_rfl) rfl (by kernel_rfl) (fun K hK => ?_)   
            go_simp
            refine (within_any _ z2 12 HZ2.out.1 HZ2.out.2 (by decide) (by decide)).mono ?_
            rintro e w6 ⟨rfl, rfl⟩
            rw [HZ2B.out]
            refine hK _ _ all_nil ?_
            clear hK K
            try simp only [Act.put, List.setIfInBounds_toArray, List.set_cons_zero, List.set_cons_succ]
            refine At.call 14 (pend' := []) rfl (by kernel_rfl) rfl (by kernel_rfl) (fun K hK => ?_)   
            go_simp
            refine (TrS.encO (HT.out.aside ((Keep.refl (fun _ => False) wr).drew)) (i := 0) (j := 0) (by omega) (by omega) (f i) (b i) (by rw [HM.out]; exact HFM.out i) (by have := HBR.out i; omega) (by omega)).mono ?_
            rintro e w7 ⟨rfl, h7, ho⟩
            have HT7 := hid h7
            have HB7 := hid (ho SB _ _ (by decide) (by decide) (by decide) HB.out.drew)
            have HE7 : Hid (put N 0 (encI W L (f i) (b i) (N 0) L).2.1 1 = (fun _ _ => nd0) ∧ put N 0 (encI W L (f i) (b i) (N 0) L).2.1 0 = (encB W L f b N0 (i + 1)).1 ∧ put st 0 (runM (st 0) (encI W L (f i) (b i) (N 0) L).2.2) 0 = runM ([], 0) (encB W L f b N0 (i + 1)).2) := hid (by
              rw [put_ne _ _ (by decide), put_at, put_at, HE.out.2.1, HE.out.2.2, ← runM_append]
              exact ⟨HE.out.1, rfl, rfl⟩)
            clear h7 ho
            refine hK _ _ all_nil ?_
            clear hK K
            try simp only [Act.put, List.setIfInBounds_toArray, List.set_cons_zero, List.set_cons_succ]
            refine At.done (by kernel_rfl) ?_
            clear HT HB HE d1 d2
            go_wp2_with fail
            go_roundw
            case rel => exact ⟨i + 1, _, _, by omega, by go_num, HT7, HB7, HE7⟩
            case measure => simp [intOf]; omega
          · obtain rfl : K = i := by omega
            have HST := hid HE.out.2.2
            have HBL := hid (encB_len W L f b N0 hL7 (fun j => by have := (HBR.out j).2; omega) K)
            have hbl2 : (encB W L f b N0 K).2.length ≤ 420420 := by have := HBL.out; omega
            have HBL2 := hid hbl2
            have HM1 := hid HE.out.1
            clear HE hbl2
            go_wp2_with fail
            refine (TrS.bytes HT.out (j := 0) (by omega) (by omega)).mono ?_
            rintro e w6 ⟨A6, n6, c6, rfl, hown, hk6⟩
            rw [HST.out] at hown
            have hn6 : (outB (runM ([], 0) (encB W L f b N0 K).2).1).length = n6 := by have := hown.1; simpa using this
            have HN6 := hid hn6
            have hn6b : n6 ≤ 500001 := by
              have h2 := outB_le (runM ([], 0) (encB W L f b N0 K).2).1
              rw [← HST.out] at h2 hn6
              omega
            have HT6 := hid (HT.out.aside hk6)
            have HB6 := hid (HB.out.keep hk6 (fun h => h))
            clear HT HB hk6 hn6
            go_wp2_with fail
            refine (newr_any w6 A6 n6 c6 _ (Rd.of_own hown) (by omega)).mono ?_
            rintro e w7 ⟨R, A7, c7, rfl, hR7, hr7, hk7⟩
            have HT7 := hid (HT6.out.aside hk7)
            have HB7 := hid (HB6.out.keep hk7 (fun h => h))
            have HR7 := hid (show RrS w7 w6.heap.size R A7 n6 c7 (outB (runM ([], 0) (encB W L f b N0 K).2).1) (stR (encB W L f b N0 K).2 (encB W L f b N0 0).2.length) from hr7)
            have hRb : w.heap.size ≤ R := Nat.le_trans HT6.out.keeps.size hR7
            have HBY := hid (outB_bytes (runM_bytes (encB W L f b N0 K).2))
            have HSY7 : Hid (Sync W H L (fun i j => (N0 i j).n) (encB W L f b N0 0).1 (N 1)) := hid (by rw [HM1.out]; exact HSY.out)
            clear hown hR7 hr7 hk7 HT6 HB6 HM1 HSY
            go_wp2_with fail
            go_loopw [19, 20, 21] (fun v _ _ wr => ∃ (i : Nat) (N : Nat → Nat → Nat → Nd), i ≤ K ∧ v = .int .i64 i ∧ Hid (TrS w 2 1 p L W H N (fun _ => Q) st wr) ∧ Hid (Blk wr SB 3 (rowC m S)) ∧ Hid (RrS wr w6.heap.size R A7 n6 c7 (outB (runM ([], 0) (encB W L f b N0 K).2).1) (stR (encB W L f b N0 K).2 (encB W L f b N0 i).2.length)) ∧ Hid (Sync W H L (fun i j => (N0 i j).n) (encB W L f b N0 i).1 (N 1))) (fun v _ _ _ => K - (intOf v).toNat)
            case atStart => exact ⟨0, N, by omega, rfl, HT7, HB7, HR7, HSY7⟩
            case round =>
              clear HT7 HB7 HR7 HSY7 N
              obtain ⟨i, N, hi, rfl, HT, HB, HR, HSY⟩ := hrel
              by_cases hiK : i < K
              · skip
                have hz1 := (HI1.out (ks.getD i 0)) (by
                  have hl : i < ks.length := by rw [HR1.out.len]; omega
                  rw [List.getD_eq_getElem?_getD, List.getElem?_eq_getElem hl]
                  exact List.getElem_mem hl)
                have hz2 := (HI2.out (bds.getD i 0)) (by
                  have hl : i < bds.length := by rw [HR2.out.len]; omega
                  rw [List.getD_eq_getElem?_getD, List.getElem?_eq_getElem hl]
                  exact List.getElem_mem hl)
                have hi1 : i < n1 := by omega
                have hi2 : i < n2 := by omega
                obtain ⟨b1, o1, rfl, hc1⟩ := HR1.out.int_ix hi1
                obtain ⟨b2, o2, rfl, hc2⟩ := HR2.out.int_ix hi2
                have HZ1 := hid hz1
                have HZ2 := hid hz2
                have HZ1F := hid (HF.out i)
                have HZ2B := hid (HBD.out i)
                clear hz1 hz2
                generalize ks.getD i 0 = z1 at *
                generalize bds.getD i 0 = z2 at *
                have d1 := HT.out.keeps.cell hc1 (fun h => h)
                have d2 := HT.out.keeps.cell hc2 (fun h => h)
                clear hc1 hc2
                go_upto_region 22 with fail
                go_cut [20, 21] (fun u v wx => u = .int .i64 (f i) ∧ v = .int .i64 (b i) ∧ wx = wr.drew)
                case first =>
                  as_aux_lemma =>
                    -- region 22: 14 operations
                    refine At.start (L := #[false, false, false, false, false, false, false, false, false, false, false, false, false, false]) (by kernel_rfl) rfl ?_
                    refine At.pure 0 (some 108) (v := ?v0c) rfl rfl (by kernel_rfl) (fun _ _ _ h => h) rfl (fun w' => ?y0c) ?_   
                    case y0c => go_simp; try with_reducible rfl
                    try simp only [Act.put, List.setIfInBounds_toArray, List.set_cons_zero, List.set_cons_succ]
                    refine At.pure 1 (some 109) (v := ?v1c) rfl rfl (by kernel_rfl) (fun _ _ _ h => h) rfl (fun w' => ?y1c) ?_   
                    case y1c => go_simp; try with_reducible rfl
                    try simp only [Act.put, List.setIfInBounds_toArray, List.set_cons_zero, List.set_cons_succ]
                    refine At.pure 2 (some 110) (v := ?v2c) rfl rfl (by kernel_rfl) (fun _ _ _ h => h) rfl (fun w' => ?y2c) ?_   
                    case y2c => go_simp; try with_reducible rfl
                    try simp only [Act.put, List.setIfInBounds_toArray, List.set_cons_zero, List.set_cons_succ]
                    refine At.read 3 (some 111) (fun w' => w'.cell? ⟨b1, o1 + i, none⟩ = some (.int .i64 z1)) (v := ?v3c) rfl rfl (by kernel_rfl) (fun _ _ _ h => h) rfl d1 (fun w' hw' => ?y3c) ?_   
                    case y3c => skip; go_simp; try with_reducible rfl
                    try simp only [Act.put, List.setIfInBounds_toArray, List.set_cons_zero, List.set_cons_succ]
                    refine At.pure 4 (some 112) (v := ?v4c) rfl rfl (by kernel_rfl) (fun _ _ _ h => h) rfl (fun w' => ?y4c) ?_   
                    case y4c => go_simp; try with_reducible rfl
                    try simp only [Act.put, List.setIfInBounds_toArray, List.set_cons_zero, List.set_cons_succ]
                    refine At.pure 5 (some 113) (v := ?v5c) rfl rfl (by kernel_rfl) (fun _ _ _ h => h) rfl (fun w' => ?y5c) ?_   
                    case y5c => go_simp; try with_reducible rfl
                    try simp only [Act.put, List.setIfInBounds_toArray, List.set_cons_zero, List.set_cons_succ]
                    refine At.pure 7 (some 115) (v := ?v7c) rfl rfl (by kernel_rfl) (fun _ _ _ h => h) rfl (fun w' => ?y7c) ?_   
                    case y7c => go_simp; try with_reducible rfl
                    try simp only [Act.put, List.setIfInBounds_toArray, List.set_cons_zero, List.set_cons_succ]
                    refine At.pure 8 (some 116) (v := ?v8c) rfl rfl (by kernel_rfl) (fun _ _ _ h => h) rfl (fun w' => ?y8c) ?_   
                    case y8c => go_simp; try with_reducible rfl
                    try simp only [Act.put, List.setIfInBounds_toArray, List.set_cons_zero, List.set_cons_succ]
                    refine At.pure 9 (some 117) (v := ?v9c) rfl rfl (by kernel_rfl) (fun _ _ _ h => h) rfl (fun w' => ?y9c) ?_   
                    case y9c => go_simp; try with_reducible rfl
                    try simp only [Act.put, List.setIfInBounds_toArray, List.set_cons_zero, List.set_cons_succ]
                    refine At.read 10 (some 118) (fun w' => w'.cell? ⟨b2, o2 + i, none⟩ = some (.int .i64 z2)) (v := ?v10c) rfl rfl (by kernel_rfl) (fun _ _ _ h => h) rfl d2 (fun w' hw' => ?y10c) ?_   
                    case y10c => skip; go_simp; try with_reducible rfl
                    try simp only [Act.put, List.setIfInBounds_toArray, List.set_cons_zero, List.set_cons_succ]
                    refine At.call 6 (pend' := [(10, (fun w' => w'.cell? ⟨b2, o2 + i, none⟩ = some (.int .i64 z2)))]) rfl (by kernel_rfl) rfl (by kernel_rfl) (fun K hK => ?_)   
                    go_simp
                    refine (within_any _ z1 m HZ1.out.1 HZ1.out.2 (by omega) (by omega)).mono ?_
                    rintro e w6 ⟨rfl, rfl⟩
                    rw [HZ1F.out]
                    refine hK _ _ (all_cons d2 all_nil) ?_
                    clear hK K
                    try simp only [Act.put, List.setIfInBounds_toArray, List.set_cons_zero, List.set_cons_succ]
                    refine At.call 11 (pend' := []) rfl (by kernel_rfl) rfl (by kernel_rfl) (fun K hK => ?_)   
                    go_simp
                    refine (within_any _ z2 12 HZ2.out.1 HZ2.out.2 (by decide) (by decide)).mono ?_
                    rintro e w6 ⟨rfl, rfl⟩
                    rw [HZ2B.out]
                    refine hK _ _ all_nil ?_
                    clear hK K
                    try simp only [Act.put, List.setIfInBounds_toArray, List.set_cons_zero, List.set_cons_succ]
                    refine At.pure 12 (some 20) (v := ?v12c) rfl rfl (by kernel_rfl) (fun _ _ _ h => h) rfl (fun w' => ?y12c) ?_   
                    case y12c => go_simp; try with_reducible rfl
                    try simp only [Act.put, List.setIfInBounds_toArray, List.set_cons_zero, List.set_cons_succ]
                    refine At.pure 13 (some 21) (v := ?v13c) rfl rfl (by kernel_rfl) (fun _ _ _ h => h) rfl (fun w' => ?y13c) ?_   
                    case y13c => go_simp; try with_reducible rfl
                    try simp only [Act.put, List.setIfInBounds_toArray, List.set_cons_zero, List.set_cons_succ]
                    refine At.done (by kernel_rfl) ?_
                    go_wp2_with fail
                    go_meet
                    exact ⟨rfl, rfl, rfl⟩
                case rest =>
                obtain ⟨rfl, rfl, rfl⟩ := hcut
                have HBK := hid (back_i i K hiK HL.out (by rw [HM.out]; exact HFM.out i) HUP.out HPOS.out HSY.out)
                have hlen : (encB W L f b N0 i).2.length ≤ 420420 := by
                  obtain ⟨t, ht⟩ := encB_pre W L f b N0 i K hi
                  have h1 := HBL2.out
                  rw [ht, List.length_append] at h1
                  omega
                have hok := stR_ok (encB W L f b N0 K).2 (encB W L f b N0 i).2.length
                have HDEC := hid (TrS.dec ((HT.out.aside ((Keep.refl (fun _ => False) wr).drew)).aside ((Keep.refl (fun _ => False) wr.drew).drew)) (i := 1) (by omega) (Rr.aside (Rr.aside HR.out ((Keep.refl (fun _ => False) wr).drew)) ((Keep.refl (fun _ => False) wr.drew).drew)) hok.1 HBY.out (f i) (b i) (by rw [HM.out]; exact HFM.out i) (by have := HBR.out i; omega) (by omega) hRb)
                have hfm := HFM.out i
                have HSF := hid (show (N0 0 (f i)).n = S (f i) from HLF.out (f i) hfm)
                have hs0 := (HSB.out (f i)).1
                obtain ⟨kv, hkv, hkc⟩ : ∃ kv : Int, knownM ((decI (outB (runM ([], 0) (encB W L f b N0 K).2).1) W L (f i) (b i) (N 1) (stR (encB W L f b N0 K).2 (encB W L f b N0 i).2.length) L).2.1 0 (f i)) = kv ∧ (kv = S (f i) ∨ (kv = -1 ∧ b i ≤ S (f i))) := by
                  refine ⟨_, rfl, ?_⟩
                  unfold knownM
                  rcases HBK.out.2.2.2 with ⟨h1, h2⟩ | ⟨h1, h2⟩
                  · exact .inl (by rw [if_pos h1, h2, HSF.out])
                  · exact .inr ⟨by rw [if_neg (by rw [h1]; simp)], by rw [← HSF.out]; exact h2⟩
                have HKV := hid hkv
                clear hkv
                have hDEC : Calls Try.prog 20 #[.pointer (some ⟨p 1, 0, none⟩), .pointer (some ⟨R, 0, none⟩), .int .i64 (f i), .int .i64 (b i)] wr.drew.drew (fun e w' =>
                    e = .returned (.bool (decide (S (f i) < b i))) ∧ ∃ N' : Nat → Nat → Nat → Nd, DecP w p L W H Q st SB m S w6 R A7 n6 c7 f b N0 K i kv N' w') := by
                  refine HDEC.out.mono ?_
                  rintro e w' ⟨rfl, ht, hr, hb⟩
                  have hk := HBK.out
                  rw [hk.2.2.1, HSF.out]
                  refine ⟨rfl, _, ht, hb SB _ (Blk.drew (Blk.drew HB.out)), by rw [← hk.1]; exact hr, by rw [put_at]; exact hk.2.1, ?_⟩
                  rw [put_at]
                  exact HKV.out
                have HDEC := hid hDEC
                have c5 : wr.drew.drew.cell? ⟨SB, f i, none⟩ = some (.int .i64 (S (f i))) := by
                  have := (Blk.drew (Blk.drew HB.out)).cell (f i)
                  rw [rowC_at S hfm] at this
                  exact this
                have HCS : Hid (∀ w' : World, Blk w' SB 3 (rowC m S) → w'.cell? ⟨SB, f i, none⟩ = some (.int .i64 (S (f i)))) := hid (fun w' h => by
                  have := h.cell (f i)
                  rw [rowC_at S hfm] at this
                  exact this)
                clear d1 d2 HZ1 HZ2 HZ1F HZ2B hok hDEC HBK HSF HB HT HR HSY
                have HKC := hid hkc
                have hs0 : 0 ≤ S (f i) := hs0
                clear hkc HKV
                by_cases hlt : S (f i) < b i
                · as_aux_lemma =>
                  have hd : decide (S (f i) < b i) = true := decide_eq_true hlt
                  rw [hd] at HDEC
                  have hk : kv = S (f i) := by rcases HKC.out with h | h <;> omega
                  subst hk
                  clear HKC
                  generalize S (f i) = sv at *
                  generalize b i = bv at *
                  have hn1 : (sv != -1) = true := by simp; omega
                  go_wp2_with fail
                  -- region 23: 46 operations
                  refine At.start (L := #[false, false, false, false, false, false, false, false, false, false, false, false, false, false, false, false, false, false, false, false, false, false, false, false, false, false, false, false, false, false, false, false, false, false, false, false, false, false, false, false, false, false, false, false, false, false]) (by kernel_rfl) rfl ?_
                  refine At.pure 0 (some 120) (v := ?v0d) rfl rfl (by kernel_rfl) (fun _ _ _ h => h) rfl (fun w' => ?y0d) ?_   
                  case y0d => go_simp; try with_reducible rfl
                  try simp only [Act.put, List.setIfInBounds_toArray, List.set_cons_zero, List.set_cons_succ]
                  refine At.pure 1 (some 121) (v := ?v1d) rfl rfl (by kernel_rfl) (fun _ _ _ h => h) rfl (fun w' => ?y1d) ?_   
                  case y1d => go_simp; try with_reducible rfl
                  try simp only [Act.put, List.setIfInBounds_toArray, List.set_cons_zero, List.set_cons_succ]
                  refine At.pure 2 (some 122) (v := ?v2d) rfl rfl (by kernel_rfl) (fun _ _ _ h => h) rfl (fun w' => ?y2d) ?_   
                  case y2d => go_simp; try with_reducible rfl
                  try simp only [Act.put, List.setIfInBounds_toArray, List.set_cons_zero, List.set_cons_succ]
                  refine At.pure 3 (some 123) (v := ?v3d) rfl rfl (by kernel_rfl) (fun _ _ _ h => h) rfl (fun w' => ?y3d) ?_   
                  case y3d => go_simp; try with_reducible rfl
                  try simp only [Act.put, List.setIfInBounds_toArray, List.set_cons_zero, List.set_cons_succ]
                  refine At.pure 5 (some 125) (v := ?v5d) rfl rfl (by kernel_rfl) (fun _ _ _ h => h) rfl (fun w' => ?y5d) ?_   
                  case y5d => go_simp; try with_reducible rfl
                  try simp only [Act.put, List.setIfInBounds_toArray, List.set_cons_zero, List.set_cons_succ]
                  refine At.pure 6 (some 126) (v := ?v6d) rfl rfl (by kernel_rfl) (fun _ _ _ h => h) rfl (fun w' => ?y6d) ?_   
                  case y6d => go_simp; try with_reducible rfl
                  try simp only [Act.put, List.setIfInBounds_toArray, List.set_cons_zero, List.set_cons_succ]
                  refine At.pure 7 (some 127) (v := ?v7d) rfl rfl (by kernel_rfl) (fun _ _ _ h => h) rfl (fun w' => ?y7d) ?_   
                  case y7d => go_simp; try with_reducible rfl
                  try simp only [Act.put, List.setIfInBounds_toArray, List.set_cons_zero, List.set_cons_succ]
                  refine At.read 8 (some 128) (fun w' => w'.cell? ⟨SB, f i, none⟩ = some (.int .i64 sv)) (v := ?v8d) rfl rfl (by kernel_rfl) (fun _ _ _ h => h) rfl c5 (fun w' hw' => ?y8d) ?_   
                  case y8d => skip; go_simp; try with_reducible rfl
                  try simp only [Act.put, List.setIfInBounds_toArray, List.set_cons_zero, List.set_cons_succ]
                  as_aux_lemma =>
                    refine At.pure 9 (some 129) (v := ?v9d) rfl rfl (by kernel_rfl) (fun _ _ _ h => h) rfl (fun w' => ?y9d) ?_   
                    case y9d => go_simp; try with_reducible rfl
                    try simp only [Act.put, List.setIfInBounds_toArray, List.set_cons_zero, List.set_cons_succ]
                    refine At.pure 10 (some 130) (v := ?v10d) rfl rfl (by kernel_rfl) (fun _ _ _ h => h) rfl (fun w' => ?y10d) ?_   
                    case y10d => go_simp; try with_reducible rfl
                    try simp only [Act.put, List.setIfInBounds_toArray, List.set_cons_zero, List.set_cons_succ]
                    as_aux_lemma =>
                      refine At.call_all 4 rfl (by kernel_rfl) rfl (fun K hK => ?_)
                      as_aux_lemma =>
                        go_simp
                        refine HDEC.out.mono ?_
                        rintro e w8 ⟨rfl, N', h8⟩
                        refine hK _ _ (all_cons (HCS.out _ h8.blk) all_nil) ?_
                        clear hK K
                        try simp only [Act.put, List.setIfInBounds_toArray, List.set_cons_zero, List.set_cons_succ]
                        as_aux_lemma =>
                          refine At.pure 11 (some 131) (v := ?v11d) rfl rfl (by kernel_rfl) (fun _ _ _ h => h) rfl (fun w' => ?y11d) ?_   
                          case y11d => go_simp; try with_reducible rfl
                          try simp only [Act.put, List.setIfInBounds_toArray, List.set_cons_zero, List.set_cons_succ]
                          refine At.pure 12 (some 132) (v := ?v12d) rfl rfl (by kernel_rfl) (fun _ _ _ h => h) rfl (fun w' => ?y12d) ?_   
                          case y12d => go_simp; try with_reducible rfl
                          try simp only [Act.put, List.setIfInBounds_toArray, List.set_cons_zero, List.set_cons_succ]
                          refine At.pure 13 (some 133) (v := ?v13d) rfl rfl (by kernel_rfl) (fun _ _ _ h => h) rfl (fun w' => ?y13d) ?_   
                          case y13d => go_simp; try with_reducible rfl
                          try simp only [Act.put, List.setIfInBounds_toArray, List.set_cons_zero, List.set_cons_succ]
                          refine At.pure 14 (some 134) (v := ?v14d) rfl rfl (by kernel_rfl) (fun _ _ _ h => h) rfl (fun w' => ?y14d) ?_   
                          case y14d => go_simp; try with_reducible rfl
                          try simp only [Act.put, List.setIfInBounds_toArray, List.set_cons_zero, List.set_cons_succ]
                          as_aux_lemma =>
                            refine At.call_all 15 rfl (by kernel_rfl) rfl (fun K hK => ?_)
                            as_aux_lemma =>
                              go_simp
                              refine (TrS.knows h8.tr (i := 1) (by omega) (f i) (by rw [HM.out]; exact hfm)).mono ?_
                              rintro e w9 ⟨rfl, hk9⟩
                              have h9 := h8.aside hk9
                              rw [h8.know]
                              refine hK _ _ (all_cons (HCS.out _ h9.blk) all_nil) ?_
                              clear hK K
                              try simp only [Act.put, List.setIfInBounds_toArray, List.set_cons_zero, List.set_cons_succ]
                              as_aux_lemma =>
                                refine At.pure 16 (some 136) (v := ?v16d) rfl rfl (by kernel_rfl) (fun _ _ _ h => h) rfl (fun w' => ?y16d) ?_   
                                case y16d => go_simp; try with_reducible rfl
                                try simp only [Act.put, List.setIfInBounds_toArray, List.set_cons_zero, List.set_cons_succ]
                                refine At.pure 17 (some 137) (v := ?v17d) rfl rfl (by kernel_rfl) (fun _ _ _ h => h) rfl (fun w' => ?y17d) ?_   
                                case y17d => go_simp; try with_reducible rfl
                                try simp only [Act.put, List.setIfInBounds_toArray, List.set_cons_zero, List.set_cons_succ]
                                refine At.pure 18 (some 138) (v := ?v18d) rfl rfl (by kernel_rfl) (fun _ _ _ h => h) rfl (fun w' => ?y18d) ?_   
                                case y18d => go_simp; try with_reducible rfl
                                try simp only [Act.put, List.setIfInBounds_toArray, List.set_cons_zero, List.set_cons_succ]
                                refine At.pure 19 (some 139) (v := ?v19d) rfl rfl (by kernel_rfl) (fun _ _ _ h => h) rfl (fun w' => ?y19d) ?_   
                                case y19d => go_simp; try with_reducible rfl
                                try simp only [Act.put, List.setIfInBounds_toArray, List.set_cons_zero, List.set_cons_succ]
                                refine At.pure 21 (some 141) (v := ?v21d) rfl rfl (by kernel_rfl) (fun _ _ _ h => h) rfl (fun w' => ?y21d) ?_   
                                case y21d => go_simp; try with_reducible rfl
                                try simp only [Act.put, List.setIfInBounds_toArray, List.set_cons_zero, List.set_cons_succ]
                                refine At.pure 22 (some 142) (v := ?v22d) rfl rfl (by kernel_rfl) (fun _ _ _ h => h) rfl (fun w' => ?y22d) ?_   
                                case y22d => go_simp; try with_reducible rfl
                                try simp only [Act.put, List.setIfInBounds_toArray, List.set_cons_zero, List.set_cons_succ]
                                refine At.pure 23 (some 143) (v := ?v23d) rfl rfl (by kernel_rfl) (fun _ _ _ h => h) rfl (fun w' => ?y23d) ?_   
                                case y23d => go_simp; try with_reducible rfl
                                try simp only [Act.put, List.setIfInBounds_toArray, List.set_cons_zero, List.set_cons_succ]
                                refine At.read 24 (some 144) (fun w' => w'.cell? ⟨SB, f i, none⟩ = some (.int .i64 sv)) (v := ?v24d) rfl rfl (by kernel_rfl) (fun _ _ _ h => h) rfl (HCS.out _ h9.blk) (fun w' hw' => ?y24d) ?_   
                                case y24d => skip; go_simp; try with_reducible rfl
                                try simp only [Act.put, List.setIfInBounds_toArray, List.set_cons_zero, List.set_cons_succ]
                                as_aux_lemma =>
                                  refine At.call_all 20 rfl (by kernel_rfl) rfl (fun K hK => ?_)
                                  as_aux_lemma =>
                                    go_simp
                                    refine (TrS.knows h9.tr (i := 1) (by omega) (f i) (by rw [HM.out]; exact hfm)).mono ?_
                                    rintro e w10 ⟨rfl, hk10⟩
                                    have h10 := h9.aside hk10
                                    rw [h9.know]
                                    refine hK _ _ (all_cons (HCS.out _ h10.blk) (all_cons (HCS.out _ h10.blk) all_nil)) ?_
                                    clear hK K
                                    try simp only [Act.put, List.setIfInBounds_toArray, List.set_cons_zero, List.set_cons_succ]
                                    as_aux_lemma =>
                                      refine At.pure 25 (some 145) (v := ?v25d) rfl rfl (by kernel_rfl) (fun _ _ _ h => h) rfl (fun w' => ?y25d) ?_   
                                      case y25d => go_simp; try with_reducible rfl
                                      try simp only [Act.put, List.setIfInBounds_toArray, List.set_cons_zero, List.set_cons_succ]
                                      refine At.pure 26 (some 146) (v := ?v26d) rfl rfl (by kernel_rfl) (fun _ _ _ h => h) rfl (fun w' => ?y26d) ?_   
                                      case y26d => go_simp; try with_reducible rfl
                                      try simp only [Act.put, List.setIfInBounds_toArray, List.set_cons_zero, List.set_cons_succ]
                                      refine At.pure 27 (some 147) (v := ?v27d) rfl rfl (by kernel_rfl) (fun _ _ _ h => h) rfl (fun w' => ?y27d) ?_   
                                      case y27d => go_simp; try with_reducible rfl
                                      try simp only [Act.put, List.setIfInBounds_toArray, List.set_cons_zero, List.set_cons_succ]
                                      refine At.pure 28 (some 148) (v := ?v28d) rfl rfl (by kernel_rfl) (fun _ _ _ h => h) rfl (fun w' => ?y28d) ?_   
                                      case y28d => go_simp; try with_reducible rfl
                                      try simp only [Act.put, List.setIfInBounds_toArray, List.set_cons_zero, List.set_cons_succ]
                                      refine At.pure 29 (some 149) (v := ?v29d) rfl rfl (by kernel_rfl) (fun _ _ _ h => h) rfl (fun w' => ?y29d) ?_   
                                      case y29d => go_simp; try with_reducible rfl
                                      try simp only [Act.put, List.setIfInBounds_toArray, List.set_cons_zero, List.set_cons_succ]
                                      refine At.pure 30 (some 150) (v := ?v30d) rfl rfl (by kernel_rfl) (fun _ _ _ h => h) rfl (fun w' => ?y30d) ?_   
                                      case y30d => go_simp; try with_reducible rfl
                                      try simp only [Act.put, List.setIfInBounds_toArray, List.set_cons_zero, List.set_cons_succ]
                                      refine At.pure 31 (some 151) (v := ?v31d) rfl rfl (by kernel_rfl) (fun _ _ _ h => h) rfl (fun w' => ?y31d) ?_   
                                      case y31d => go_simp; try with_reducible rfl
                                      try simp only [Act.put, List.setIfInBounds_toArray, List.set_cons_zero, List.set_cons_succ]
                                      refine At.read 32 (some 152) (fun w' => w'.cell? ⟨SB, f i, none⟩ = some (.int .i64 sv)) (v := ?v32d) rfl rfl (by kernel_rfl) (fun _ _ _ h => h) rfl (HCS.out _ h10.blk) (fun w' hw' => ?y32d) ?_   
                                      case y32d => skip; go_simp; try with_reducible rfl
                                      try simp only [Act.put, List.setIfInBounds_toArray, List.set_cons_zero, List.set_cons_succ]
                                      refine At.pure 33 (some 153) (v := ?v33d) rfl rfl (by kernel_rfl) (fun _ _ _ h => h) rfl (fun w' => ?y33d) ?_   
                                      case y33d => go_simp; try with_reducible rfl
                                      try simp only [Act.put, List.setIfInBounds_toArray, List.set_cons_zero, List.set_cons_succ]
                                      as_aux_lemma =>
                                        refine At.pure 34 (some 154) (v := ?v34d) rfl rfl (by kernel_rfl) (fun _ _ _ h => h) rfl (fun w' => ?y34d) ?_   
                                        case y34d => go_simp; try with_reducible rfl
                                        try simp only [Act.put, List.setIfInBounds_toArray, List.set_cons_zero, List.set_cons_succ]
                                        refine At.pure 35 (some 155) (v := ?v35d) rfl rfl (by kernel_rfl) (fun _ _ _ h => h) rfl (fun w' => ?y35d) ?_   
                                        case y35d => go_simp; try with_reducible rfl
                                        try simp only [Act.put, List.setIfInBounds_toArray, List.set_cons_zero, List.set_cons_succ]
                                        refine At.pure 36 (some 156) (v := ?v36d) rfl rfl (by kernel_rfl) (fun _ _ _ h => h) rfl (fun w' => ?y36d) ?_   
                                        case y36d => go_simp; try with_reducible rfl
                                        try simp only [Act.put, List.setIfInBounds_toArray, List.set_cons_zero, List.set_cons_succ]
                                        refine At.pure 37 (some 157) (v := ?v37d) rfl rfl (by kernel_rfl) (fun _ _ _ h => h) rfl (fun w' => ?y37d) ?_   
                                        case y37d => go_simp; try with_reducible rfl
                                        try simp only [Act.put, List.setIfInBounds_toArray, List.set_cons_zero, List.set_cons_succ]
                                        refine At.pure 39 (some 159) (v := ?v39d) rfl rfl (by kernel_rfl) (fun _ _ _ h => h) rfl (fun w' => ?y39d) ?_   
                                        case y39d => go_simp; try with_reducible rfl
                                        try simp only [Act.put, List.setIfInBounds_toArray, List.set_cons_zero, List.set_cons_succ]
                                        refine At.pure 40 (some 160) (v := ?v40d) rfl rfl (by kernel_rfl) (fun _ _ _ h => h) rfl (fun w' => ?y40d) ?_   
                                        case y40d => go_simp; try with_reducible rfl
                                        try simp only [Act.put, List.setIfInBounds_toArray, List.set_cons_zero, List.set_cons_succ]
                                        refine At.pure 41 (some 161) (v := ?v41d) rfl rfl (by kernel_rfl) (fun _ _ _ h => h) rfl (fun w' => ?y41d) ?_   
                                        case y41d => go_simp; try with_reducible rfl
                                        try simp only [Act.put, List.setIfInBounds_toArray, List.set_cons_zero, List.set_cons_succ]
                                        refine At.read 42 (some 162) (fun w' => w'.cell? ⟨SB, f i, none⟩ = some (.int .i64 sv)) (v := ?v42d) rfl rfl (by kernel_rfl) (fun _ _ _ h => h) rfl (HCS.out _ h10.blk) (fun w' hw' => ?y42d) ?_   
                                        case y42d => skip; go_simp; try with_reducible rfl
                                        try simp only [Act.put, List.setIfInBounds_toArray, List.set_cons_zero, List.set_cons_succ]
                                        as_aux_lemma =>
                                          refine At.call_all 38 rfl (by kernel_rfl) rfl (fun K hK => ?_)
                                          as_aux_lemma =>
                                            go_simp
                                            refine (TrS.knows h10.tr (i := 1) (by omega) (f i) (by rw [HM.out]; exact hfm)).mono ?_
                                            rintro e w11 ⟨rfl, hk11⟩
                                            have h11 := h10.aside hk11
                                            rw [h10.know]
                                            refine hK _ _ (all_cons (HCS.out _ h11.blk) (all_cons (HCS.out _ h11.blk) (all_cons (HCS.out _ h11.blk) (all_cons (HCS.out _ h11.blk) all_nil)))) ?_
                                            clear hK K
                                            try simp only [Act.put, List.setIfInBounds_toArray, List.set_cons_zero, List.set_cons_succ]
                                            as_aux_lemma =>
                                              refine At.pure 43 (some 163) (v := ?v43d) rfl rfl (by kernel_rfl) (fun _ _ _ h => h) rfl (fun w' => ?y43d) ?_   
                                              case y43d => go_simp; try with_reducible rfl
                                              try simp only [Act.put, List.setIfInBounds_toArray, List.set_cons_zero, List.set_cons_succ]
                                              refine At.pure 44 (some 164) (v := ?v44d) rfl rfl (by kernel_rfl) (fun _ _ _ h => h) rfl (fun w' => ?y44d) ?_   
                                              case y44d => go_simp; try with_reducible rfl
                                              try simp only [Act.put, List.setIfInBounds_toArray, List.set_cons_zero, List.set_cons_succ]
                                              refine At.pure 45 (some 165) (v := ?v45d) rfl rfl (by kernel_rfl) (fun _ _ _ h => h) rfl (fun w' => ?y45d) ?_   
                                              case y45d => go_simp; try with_reducible rfl
                                              try simp only [Act.put, List.setIfInBounds_toArray, List.set_cons_zero, List.set_cons_succ]
                                              refine At.done (by kernel_rfl) ?_
                                              have HT9 := hid h11.tr
                                              have HB9 := hid h11.blk
                                              have HR9 := hid h11.rd
                                              have HS9 := hid h11.sync
                                              go_wp2_with fail
                                              go_roundw
                                              case rel => exact ⟨i + 1, N', by omega, by go_num, HT9, HB9, HR9, HS9⟩
                                              case measure => simp [intOf]; omega
                · have hd : decide (S (f i) < b i) = false := decide_eq_false hlt
                  rw [hd] at HDEC
                  rcases HKC.out with hk | ⟨hk, _⟩
                  · as_aux_lemma =>
                    subst hk
                    clear HKC
                    generalize S (f i) = sv at *
                    generalize b i = bv at *
                    have hn1 : (sv != -1) = true := by simp; omega
                    go_wp2_with fail
                    -- region 23: 46 operations
                    refine At.start (L := #[false, false, false, false, false, false, false, false, false, false, false, false, false, false, false, false, false, false, false, false, false, false, false, false, false, false, false, false, false, false, false, false, false, false, false, false, false, false, false, false, false, false, false, false, false, false]) (by kernel_rfl) rfl ?_
                    refine At.pure 0 (some 120) (v := ?v0e) rfl rfl (by kernel_rfl) (fun _ _ _ h => h) rfl (fun w' => ?y0e) ?_   
                    case y0e => go_simp; try with_reducible rfl
                    try simp only [Act.put, List.setIfInBounds_toArray, List.set_cons_zero, List.set_cons_succ]
                    refine At.pure 1 (some 121) (v := ?v1e) rfl rfl (by kernel_rfl) (fun _ _ _ h => h) rfl (fun w' => ?y1e) ?_   
                    case y1e => go_simp; try with_reducible rfl
                    try simp only [Act.put, List.setIfInBounds_toArray, List.set_cons_zero, List.set_cons_succ]
                    refine At.pure 2 (some 122) (v := ?v2e) rfl rfl (by kernel_rfl) (fun _ _ _ h => h) rfl (fun w' => ?y2e) ?_   
                    case y2e => go_simp; try with_reducible rfl
                    try simp only [Act.put, List.setIfInBounds_toArray, List.set_cons_zero, List.set_cons_succ]
                    refine At.pure 3 (some 123) (v := ?v3e) rfl rfl (by kernel_rfl) (fun _ _ _ h => h) rfl (fun w' => ?y3e) ?_   
                    case y3e => go_simp; try with_reducible rfl
                    try simp only [Act.put, List.setIfInBounds_toArray, List.set_cons_zero, List.set_cons_succ]
                    refine At.pure 5 (some 125) (v := ?v5e) rfl rfl (by kernel_rfl) (fun _ _ _ h => h) rfl (fun w' => ?y5e) ?_   
                    case y5e => go_simp; try with_reducible rfl
                    try simp only [Act.put, List.setIfInBounds_toArray, List.set_cons_zero, List.set_cons_succ]
                    refine At.pure 6 (some 126) (v := ?v6e) rfl rfl (by kernel_rfl) (fun _ _ _ h => h) rfl (fun w' => ?y6e) ?_   
                    case y6e => go_simp; try with_reducible rfl
                    try simp only [Act.put, List.setIfInBounds_toArray, List.set_cons_zero, List.set_cons_succ]
                    refine At.pure 7 (some 127) (v := ?v7e) rfl rfl (by kernel_rfl) (fun _ _ _ h => h) rfl (fun w' => ?y7e) ?_   
                    case y7e => go_simp; try with_reducible rfl
                    try simp only [Act.put, List.setIfInBounds_toArray, List.set_cons_zero, List.set_cons_succ]
                    refine At.read 8 (some 128) (fun w' => w'.cell? ⟨SB, f i, none⟩ = some (.int .i64 sv)) (v := ?v8e) rfl rfl (by kernel_rfl) (fun _ _ _ h => h) rfl c5 (fun w' hw' => ?y8e) ?_   
                    case y8e => skip; go_simp; try with_reducible rfl
                    try simp only [Act.put, List.setIfInBounds_toArray, List.set_cons_zero, List.set_cons_succ]
                    as_aux_lemma =>
                      refine At.pure 9 (some 129) (v := ?v9e) rfl rfl (by kernel_rfl) (fun _ _ _ h => h) rfl (fun w' => ?y9e) ?_   
                      case y9e => go_simp; try with_reducible rfl
                      try simp only [Act.put, List.setIfInBounds_toArray, List.set_cons_zero, List.set_cons_succ]
                      refine At.pure 10 (some 130) (v := ?v10e) rfl rfl (by kernel_rfl) (fun _ _ _ h => h) rfl (fun w' => ?y10e) ?_   
                      case y10e => go_simp; try with_reducible rfl
                      try simp only [Act.put, List.setIfInBounds_toArray, List.set_cons_zero, List.set_cons_succ]
                      as_aux_lemma =>
                        refine At.call_all 4 rfl (by kernel_rfl) rfl (fun K hK => ?_)
                        as_aux_lemma =>
                          go_simp
                          refine HDEC.out.mono ?_
                          rintro e w8 ⟨rfl, N', h8⟩
                          refine hK _ _ (all_cons (HCS.out _ h8.blk) all_nil) ?_
                          clear hK K
                          try simp only [Act.put, List.setIfInBounds_toArray, List.set_cons_zero, List.set_cons_succ]
                          as_aux_lemma =>
                            refine At.pure 11 (some 131) (v := ?v11e) rfl rfl (by kernel_rfl) (fun _ _ _ h => h) rfl (fun w' => ?y11e) ?_   
                            case y11e => go_simp; try with_reducible rfl
                            try simp only [Act.put, List.setIfInBounds_toArray, List.set_cons_zero, List.set_cons_succ]
                            refine At.pure 12 (some 132) (v := ?v12e) rfl rfl (by kernel_rfl) (fun _ _ _ h => h) rfl (fun w' => ?y12e) ?_   
                            case y12e => go_simp; try with_reducible rfl
                            try simp only [Act.put, List.setIfInBounds_toArray, List.set_cons_zero, List.set_cons_succ]
                            refine At.pure 13 (some 133) (v := ?v13e) rfl rfl (by kernel_rfl) (fun _ _ _ h => h) rfl (fun w' => ?y13e) ?_   
                            case y13e => go_simp; try with_reducible rfl
                            try simp only [Act.put, List.setIfInBounds_toArray, List.set_cons_zero, List.set_cons_succ]
                            refine At.pure 14 (some 134) (v := ?v14e) rfl rfl (by kernel_rfl) (fun _ _ _ h => h) rfl (fun w' => ?y14e) ?_   
                            case y14e => go_simp; try with_reducible rfl
                            try simp only [Act.put, List.setIfInBounds_toArray, List.set_cons_zero, List.set_cons_succ]
                            as_aux_lemma =>
                              refine At.call_all 15 rfl (by kernel_rfl) rfl (fun K hK => ?_)
                              as_aux_lemma =>
                                go_simp
                                refine (TrS.knows h8.tr (i := 1) (by omega) (f i) (by rw [HM.out]; exact hfm)).mono ?_
                                rintro e w9 ⟨rfl, hk9⟩
                                have h9 := h8.aside hk9
                                rw [h8.know]
                                refine hK _ _ (all_cons (HCS.out _ h9.blk) all_nil) ?_
                                clear hK K
                                try simp only [Act.put, List.setIfInBounds_toArray, List.set_cons_zero, List.set_cons_succ]
                                as_aux_lemma =>
                                  refine At.pure 16 (some 136) (v := ?v16e) rfl rfl (by kernel_rfl) (fun _ _ _ h => h) rfl (fun w' => ?y16e) ?_   
                                  case y16e => go_simp; try with_reducible rfl
                                  try simp only [Act.put, List.setIfInBounds_toArray, List.set_cons_zero, List.set_cons_succ]
                                  refine At.pure 17 (some 137) (v := ?v17e) rfl rfl (by kernel_rfl) (fun _ _ _ h => h) rfl (fun w' => ?y17e) ?_   
                                  case y17e => go_simp; try with_reducible rfl
                                  try simp only [Act.put, List.setIfInBounds_toArray, List.set_cons_zero, List.set_cons_succ]
                                  refine At.pure 18 (some 138) (v := ?v18e) rfl rfl (by kernel_rfl) (fun _ _ _ h => h) rfl (fun w' => ?y18e) ?_   
                                  case y18e => go_simp; try with_reducible rfl
                                  try simp only [Act.put, List.setIfInBounds_toArray, List.set_cons_zero, List.set_cons_succ]
                                  refine At.pure 19 (some 139) (v := ?v19e) rfl rfl (by kernel_rfl) (fun _ _ _ h => h) rfl (fun w' => ?y19e) ?_   
                                  case y19e => go_simp; try with_reducible rfl
                                  try simp only [Act.put, List.setIfInBounds_toArray, List.set_cons_zero, List.set_cons_succ]
                                  refine At.pure 21 (some 141) (v := ?v21e) rfl rfl (by kernel_rfl) (fun _ _ _ h => h) rfl (fun w' => ?y21e) ?_   
                                  case y21e => go_simp; try with_reducible rfl
                                  try simp only [Act.put, List.setIfInBounds_toArray, List.set_cons_zero, List.set_cons_succ]
                                  refine At.pure 22 (some 142) (v := ?v22e) rfl rfl (by kernel_rfl) (fun _ _ _ h => h) rfl (fun w' => ?y22e) ?_   
                                  case y22e => go_simp; try with_reducible rfl
                                  try simp only [Act.put, List.setIfInBounds_toArray, List.set_cons_zero, List.set_cons_succ]
                                  refine At.pure 23 (some 143) (v := ?v23e) rfl rfl (by kernel_rfl) (fun _ _ _ h => h) rfl (fun w' => ?y23e) ?_   
                                  case y23e => go_simp; try with_reducible rfl
                                  try simp only [Act.put, List.setIfInBounds_toArray, List.set_cons_zero, List.set_cons_succ]
                                  refine At.read 24 (some 144) (fun w' => w'.cell? ⟨SB, f i, none⟩ = some (.int .i64 sv)) (v := ?v24e) rfl rfl (by kernel_rfl) (fun _ _ _ h => h) rfl (HCS.out _ h9.blk) (fun w' hw' => ?y24e) ?_   
                                  case y24e => skip; go_simp; try with_reducible rfl
                                  try simp only [Act.put, List.setIfInBounds_toArray, List.set_cons_zero, List.set_cons_succ]
                                  as_aux_lemma =>
                                    refine At.call_all 20 rfl (by kernel_rfl) rfl (fun K hK => ?_)
                                    as_aux_lemma =>
                                      go_simp
                                      refine (TrS.knows h9.tr (i := 1) (by omega) (f i) (by rw [HM.out]; exact hfm)).mono ?_
                                      rintro e w10 ⟨rfl, hk10⟩
                                      have h10 := h9.aside hk10
                                      rw [h9.know]
                                      refine hK _ _ (all_cons (HCS.out _ h10.blk) (all_cons (HCS.out _ h10.blk) all_nil)) ?_
                                      clear hK K
                                      try simp only [Act.put, List.setIfInBounds_toArray, List.set_cons_zero, List.set_cons_succ]
                                      as_aux_lemma =>
                                        refine At.pure 25 (some 145) (v := ?v25e) rfl rfl (by kernel_rfl) (fun _ _ _ h => h) rfl (fun w' => ?y25e) ?_   
                                        case y25e => go_simp; try with_reducible rfl
                                        try simp only [Act.put, List.setIfInBounds_toArray, List.set_cons_zero, List.set_cons_succ]
                                        refine At.pure 26 (some 146) (v := ?v26e) rfl rfl (by kernel_rfl) (fun _ _ _ h => h) rfl (fun w' => ?y26e) ?_   
                                        case y26e => go_simp; try with_reducible rfl
                                        try simp only [Act.put, List.setIfInBounds_toArray, List.set_cons_zero, List.set_cons_succ]
                                        refine At.pure 27 (some 147) (v := ?v27e) rfl rfl (by kernel_rfl) (fun _ _ _ h => h) rfl (fun w' => ?y27e) ?_   
                                        case y27e => go_simp; try with_reducible rfl
                                        try simp only [Act.put, List.setIfInBounds_toArray, List.set_cons_zero, List.set_cons_succ]
                                        refine At.pure 28 (some 148) (v := ?v28e) rfl rfl (by kernel_rfl) (fun _ _ _ h => h) rfl (fun w' => ?y28e) ?_   
                                        case y28e => go_simp; try with_reducible rfl
                                        try simp only [Act.put, List.setIfInBounds_toArray, List.set_cons_zero, List.set_cons_succ]
                                        refine At.pure 29 (some 149) (v := ?v29e) rfl rfl (by kernel_rfl) (fun _ _ _ h => h) rfl (fun w' => ?y29e) ?_   
                                        case y29e => go_simp; try with_reducible rfl
                                        try simp only [Act.put, List.setIfInBounds_toArray, List.set_cons_zero, List.set_cons_succ]
                                        refine At.pure 30 (some 150) (v := ?v30e) rfl rfl (by kernel_rfl) (fun _ _ _ h => h) rfl (fun w' => ?y30e) ?_   
                                        case y30e => go_simp; try with_reducible rfl
                                        try simp only [Act.put, List.setIfInBounds_toArray, List.set_cons_zero, List.set_cons_succ]
                                        refine At.pure 31 (some 151) (v := ?v31e) rfl rfl (by kernel_rfl) (fun _ _ _ h => h) rfl (fun w' => ?y31e) ?_   
                                        case y31e => go_simp; try with_reducible rfl
                                        try simp only [Act.put, List.setIfInBounds_toArray, List.set_cons_zero, List.set_cons_succ]
                                        refine At.read 32 (some 152) (fun w' => w'.cell? ⟨SB, f i, none⟩ = some (.int .i64 sv)) (v := ?v32e) rfl rfl (by kernel_rfl) (fun _ _ _ h => h) rfl (HCS.out _ h10.blk) (fun w' hw' => ?y32e) ?_   
                                        case y32e => skip; go_simp; try with_reducible rfl
                                        try simp only [Act.put, List.setIfInBounds_toArray, List.set_cons_zero, List.set_cons_succ]
                                        refine At.pure 33 (some 153) (v := ?v33e) rfl rfl (by kernel_rfl) (fun _ _ _ h => h) rfl (fun w' => ?y33e) ?_   
                                        case y33e => go_simp; try with_reducible rfl
                                        try simp only [Act.put, List.setIfInBounds_toArray, List.set_cons_zero, List.set_cons_succ]
                                        as_aux_lemma =>
                                          refine At.pure 34 (some 154) (v := ?v34e) rfl rfl (by kernel_rfl) (fun _ _ _ h => h) rfl (fun w' => ?y34e) ?_   
                                          case y34e => go_simp; try with_reducible rfl
                                          try simp only [Act.put, List.setIfInBounds_toArray, List.set_cons_zero, List.set_cons_succ]
                                          refine At.pure 35 (some 155) (v := ?v35e) rfl rfl (by kernel_rfl) (fun _ _ _ h => h) rfl (fun w' => ?y35e) ?_   
                                          case y35e => go_simp; try with_reducible rfl
                                          try simp only [Act.put, List.setIfInBounds_toArray, List.set_cons_zero, List.set_cons_succ]
                                          refine At.skip 36 (some 156) rfl rfl (by kernel_rfl) (fun _ _ _ h => h) rfl ?_   
                                          try simp only [Act.put, List.setIfInBounds_toArray, List.set_cons_zero, List.set_cons_succ]
                                          refine At.skip 37 (some 157) rfl rfl (by kernel_rfl) (fun _ _ _ h => h) rfl ?_   
                                          try simp only [Act.put, List.setIfInBounds_toArray, List.set_cons_zero, List.set_cons_succ]
                                          refine At.skip 38 (some 158) rfl rfl (by kernel_rfl) (fun _ _ _ h => h) rfl ?_   
                                          try simp only [Act.put, List.setIfInBounds_toArray, List.set_cons_zero, List.set_cons_succ]
                                          refine At.skip 39 (some 159) rfl rfl (by kernel_rfl) (fun _ _ _ h => h) rfl ?_   
                                          try simp only [Act.put, List.setIfInBounds_toArray, List.set_cons_zero, List.set_cons_succ]
                                          refine At.skip 40 (some 160) rfl rfl (by kernel_rfl) (fun _ _ _ h => h) rfl ?_   
                                          try simp only [Act.put, List.setIfInBounds_toArray, List.set_cons_zero, List.set_cons_succ]
                                          refine At.skip 41 (some 161) rfl rfl (by kernel_rfl) (fun _ _ _ h => h) rfl ?_   
                                          try simp only [Act.put, List.setIfInBounds_toArray, List.set_cons_zero, List.set_cons_succ]
                                          refine At.skip 42 (some 162) rfl rfl (by kernel_rfl) (fun _ _ _ h => h) rfl ?_   
                                          try simp only [Act.put, List.setIfInBounds_toArray, List.set_cons_zero, List.set_cons_succ]
                                          as_aux_lemma =>
                                            refine At.skip 43 (some 163) rfl rfl (by kernel_rfl) (fun _ _ _ h => h) rfl ?_   
                                            try simp only [Act.put, List.setIfInBounds_toArray, List.set_cons_zero, List.set_cons_succ]
                                            refine At.pure 44 (some 164) (v := ?v44e) rfl rfl (by kernel_rfl) (fun _ _ _ h => h) rfl (fun w' => ?y44e) ?_   
                                            case y44e => go_simp; try with_reducible rfl
                                            try simp only [Act.put, List.setIfInBounds_toArray, List.set_cons_zero, List.set_cons_succ]
                                            refine At.pure 45 (some 165) (v := ?v45e) rfl rfl (by kernel_rfl) (fun _ _ _ h => h) rfl (fun w' => ?y45e) ?_   
                                            case y45e => go_simp; try with_reducible rfl
                                            try simp only [Act.put, List.setIfInBounds_toArray, List.set_cons_zero, List.set_cons_succ]
                                            refine At.done (by kernel_rfl) ?_
                                            have HT9 := hid h10.tr
                                            have HB9 := hid h10.blk
                                            have HR9 := hid h10.rd
                                            have HS9 := hid h10.sync
                                            go_wp2_with fail
                                            go_roundw
                                            case rel => exact ⟨i + 1, N', by omega, by go_num, HT9, HB9, HR9, HS9⟩
                                            case measure => simp [intOf]; omega
                  · as_aux_lemma =>
                    subst hk
                    clear HKC
                    generalize S (f i) = sv at *
                    generalize b i = bv at *
                    go_wp2_with fail
                    -- region 23: 46 operations
                    refine At.start (L := #[false, false, false, false, false, false, false, false, false, false, false, false, false, false, false, false, false, false, false, false, false, false, false, false, false, false, false, false, false, false, false, false, false, false, false, false, false, false, false, false, false, false, false, false, false, false]) (by kernel_rfl) rfl ?_
                    refine At.pure 0 (some 120) (v := ?v0f) rfl rfl (by kernel_rfl) (fun _ _ _ h => h) rfl (fun w' => ?y0f) ?_   
                    case y0f => go_simp; try with_reducible rfl
                    try simp only [Act.put, List.setIfInBounds_toArray, List.set_cons_zero, List.set_cons_succ]
                    refine At.pure 1 (some 121) (v := ?v1f) rfl rfl (by kernel_rfl) (fun _ _ _ h => h) rfl (fun w' => ?y1f) ?_   
                    case y1f => go_simp; try with_reducible rfl
                    try simp only [Act.put, List.setIfInBounds_toArray, List.set_cons_zero, List.set_cons_succ]
                    refine At.pure 2 (some 122) (v := ?v2f) rfl rfl (by kernel_rfl) (fun _ _ _ h => h) rfl (fun w' => ?y2f) ?_   
                    case y2f => go_simp; try with_reducible rfl
                    try simp only [Act.put, List.setIfInBounds_toArray, List.set_cons_zero, List.set_cons_succ]
                    refine At.pure 3 (some 123) (v := ?v3f) rfl rfl (by kernel_rfl) (fun _ _ _ h => h) rfl (fun w' => ?y3f) ?_   
                    case y3f => go_simp; try with_reducible rfl
                    try simp only [Act.put, List.setIfInBounds_toArray, List.set_cons_zero, List.set_cons_succ]
                    refine At.pure 5 (some 125) (v := ?v5f) rfl rfl (by kernel_rfl) (fun _ _ _ h => h) rfl (fun w' => ?y5f) ?_   
                    case y5f => go_simp; try with_reducible rfl
                    try simp only [Act.put, List.setIfInBounds_toArray, List.set_cons_zero, List.set_cons_succ]
                    refine At.pure 6 (some 126) (v := ?v6f) rfl rfl (by kernel_rfl) (fun _ _ _ h => h) rfl (fun w' => ?y6f) ?_   
                    case y6f => go_simp; try with_reducible rfl
                    try simp only [Act.put, List.setIfInBounds_toArray, List.set_cons_zero, List.set_cons_succ]
                    refine At.pure 7 (some 127) (v := ?v7f) rfl rfl (by kernel_rfl) (fun _ _ _ h => h) rfl (fun w' => ?y7f) ?_   
                    case y7f => go_simp; try with_reducible rfl
                    try simp only [Act.put, List.setIfInBounds_toArray, List.set_cons_zero, List.set_cons_succ]
                    refine At.read 8 (some 128) (fun w' => w'.cell? ⟨SB, f i, none⟩ = some (.int .i64 sv)) (v := ?v8f) rfl rfl (by kernel_rfl) (fun _ _ _ h => h) rfl c5 (fun w' hw' => ?y8f) ?_   
                    case y8f => skip; go_simp; try with_reducible rfl
                    try simp only [Act.put, List.setIfInBounds_toArray, List.set_cons_zero, List.set_cons_succ]
                    as_aux_lemma =>
                      refine At.pure 9 (some 129) (v := ?v9f) rfl rfl (by kernel_rfl) (fun _ _ _ h => h) rfl (fun w' => ?y9f) ?_   
                      case y9f => go_simp; try with_reducible rfl
                      try simp only [Act.put, List.setIfInBounds_toArray, List.set_cons_zero, List.set_cons_succ]
                      refine At.pure 10 (some 130) (v := ?v10f) rfl rfl (by kernel_rfl) (fun _ _ _ h => h) rfl (fun w' => ?y10f) ?_   
                      case y10f => go_simp; try with_reducible rfl
                      try simp only [Act.put, List.setIfInBounds_toArray, List.set_cons_zero, List.set_cons_succ]
                      as_aux_lemma =>
                        refine At.call_all 4 rfl (by kernel_rfl) rfl (fun K hK => ?_)
                        as_aux_lemma =>
                          go_simp
                          refine HDEC.out.mono ?_
                          rintro e w8 ⟨rfl, N', h8⟩
                          refine hK _ _ (all_cons (HCS.out _ h8.blk) all_nil) ?_
                          clear hK K
                          try simp only [Act.put, List.setIfInBounds_toArray, List.set_cons_zero, List.set_cons_succ]
                          as_aux_lemma =>
                            refine At.pure 11 (some 131) (v := ?v11f) rfl rfl (by kernel_rfl) (fun _ _ _ h => h) rfl (fun w' => ?y11f) ?_   
                            case y11f => go_simp; try with_reducible rfl
                            try simp only [Act.put, List.setIfInBounds_toArray, List.set_cons_zero, List.set_cons_succ]
                            refine At.pure 12 (some 132) (v := ?v12f) rfl rfl (by kernel_rfl) (fun _ _ _ h => h) rfl (fun w' => ?y12f) ?_   
                            case y12f => go_simp; try with_reducible rfl
                            try simp only [Act.put, List.setIfInBounds_toArray, List.set_cons_zero, List.set_cons_succ]
                            refine At.pure 13 (some 133) (v := ?v13f) rfl rfl (by kernel_rfl) (fun _ _ _ h => h) rfl (fun w' => ?y13f) ?_   
                            case y13f => go_simp; try with_reducible rfl
                            try simp only [Act.put, List.setIfInBounds_toArray, List.set_cons_zero, List.set_cons_succ]
                            refine At.pure 14 (some 134) (v := ?v14f) rfl rfl (by kernel_rfl) (fun _ _ _ h => h) rfl (fun w' => ?y14f) ?_   
                            case y14f => go_simp; try with_reducible rfl
                            try simp only [Act.put, List.setIfInBounds_toArray, List.set_cons_zero, List.set_cons_succ]
                            as_aux_lemma =>
                              refine At.call_all 15 rfl (by kernel_rfl) rfl (fun K hK => ?_)
                              as_aux_lemma =>
                                go_simp
                                refine (TrS.knows h8.tr (i := 1) (by omega) (f i) (by rw [HM.out]; exact hfm)).mono ?_
                                rintro e w9 ⟨rfl, hk9⟩
                                have h9 := h8.aside hk9
                                rw [h8.know]
                                refine hK _ _ (all_cons (HCS.out _ h9.blk) all_nil) ?_
                                clear hK K
                                try simp only [Act.put, List.setIfInBounds_toArray, List.set_cons_zero, List.set_cons_succ]
                                as_aux_lemma =>
                                  refine At.pure 16 (some 136) (v := ?v16f) rfl rfl (by kernel_rfl) (fun _ _ _ h => h) rfl (fun w' => ?y16f) ?_   
                                  case y16f => go_simp; try with_reducible rfl
                                  try simp only [Act.put, List.setIfInBounds_toArray, List.set_cons_zero, List.set_cons_succ]
                                  refine At.pure 17 (some 137) (v := ?v17f) rfl rfl (by kernel_rfl) (fun _ _ _ h => h) rfl (fun w' => ?y17f) ?_   
                                  case y17f => go_simp; try with_reducible rfl
                                  try simp only [Act.put, List.setIfInBounds_toArray, List.set_cons_zero, List.set_cons_succ]
                                  refine At.skip 18 (some 138) rfl rfl (by kernel_rfl) (fun _ _ _ h => h) rfl ?_   
                                  try simp only [Act.put, List.setIfInBounds_toArray, List.set_cons_zero, List.set_cons_succ]
                                  refine At.skip 19 (some 139) rfl rfl (by kernel_rfl) (fun _ _ _ h => h) rfl ?_   
                                  try simp only [Act.put, List.setIfInBounds_toArray, List.set_cons_zero, List.set_cons_succ]
                                  refine At.skip 20 (some 140) rfl rfl (by kernel_rfl) (fun _ _ _ h => h) rfl ?_   
                                  try simp only [Act.put, List.setIfInBounds_toArray, List.set_cons_zero, List.set_cons_succ]
                                  refine At.skip 21 (some 141) rfl rfl (by kernel_rfl) (fun _ _ _ h => h) rfl ?_   
                                  try simp only [Act.put, List.setIfInBounds_toArray, List.set_cons_zero, List.set_cons_succ]
                                  refine At.skip 22 (some 142) rfl rfl (by kernel_rfl) (fun _ _ _ h => h) rfl ?_   
                                  try simp only [Act.put, List.setIfInBounds_toArray, List.set_cons_zero, List.set_cons_succ]
                                  refine At.skip 23 (some 143) rfl rfl (by kernel_rfl) (fun _ _ _ h => h) rfl ?_   
                                  try simp only [Act.put, List.setIfInBounds_toArray, List.set_cons_zero, List.set_cons_succ]
                                  refine At.skip 24 (some 144) rfl rfl (by kernel_rfl) (fun _ _ _ h => h) rfl ?_   
                                  try simp only [Act.put, List.setIfInBounds_toArray, List.set_cons_zero, List.set_cons_succ]
                                  as_aux_lemma =>
                                    refine At.skip 25 (some 145) rfl rfl (by kernel_rfl) (fun _ _ _ h => h) rfl ?_   
                                    try simp only [Act.put, List.setIfInBounds_toArray, List.set_cons_zero, List.set_cons_succ]
                                    refine At.pure 26 (some 146) (v := ?v26f) rfl rfl (by kernel_rfl) (fun _ _ _ h => h) rfl (fun w' => ?y26f) ?_   
                                    case y26f => go_simp; try with_reducible rfl
                                    try simp only [Act.put, List.setIfInBounds_toArray, List.set_cons_zero, List.set_cons_succ]
                                    refine At.pure 27 (some 147) (v := ?v27f) rfl rfl (by kernel_rfl) (fun _ _ _ h => h) rfl (fun w' => ?y27f) ?_   
                                    case y27f => go_simp; try with_reducible rfl
                                    try simp only [Act.put, List.setIfInBounds_toArray, List.set_cons_zero, List.set_cons_succ]
                                    refine At.pure 28 (some 148) (v := ?v28f) rfl rfl (by kernel_rfl) (fun _ _ _ h => h) rfl (fun w' => ?y28f) ?_   
                                    case y28f => go_simp; try with_reducible rfl
                                    try simp only [Act.put, List.setIfInBounds_toArray, List.set_cons_zero, List.set_cons_succ]
                                    refine At.pure 29 (some 149) (v := ?v29f) rfl rfl (by kernel_rfl) (fun _ _ _ h => h) rfl (fun w' => ?y29f) ?_   
                                    case y29f => go_simp; try with_reducible rfl
                                    try simp only [Act.put, List.setIfInBounds_toArray, List.set_cons_zero, List.set_cons_succ]
                                    refine At.pure 30 (some 150) (v := ?v30f) rfl rfl (by kernel_rfl) (fun _ _ _ h => h) rfl (fun w' => ?y30f) ?_   
                                    case y30f => go_simp; try with_reducible rfl
                                    try simp only [Act.put, List.setIfInBounds_toArray, List.set_cons_zero, List.set_cons_succ]
                                    refine At.pure 31 (some 151) (v := ?v31f) rfl rfl (by kernel_rfl) (fun _ _ _ h => h) rfl (fun w' => ?y31f) ?_   
                                    case y31f => go_simp; try with_reducible rfl
                                    try simp only [Act.put, List.setIfInBounds_toArray, List.set_cons_zero, List.set_cons_succ]
                                    refine At.read 32 (some 152) (fun w' => w'.cell? ⟨SB, f i, none⟩ = some (.int .i64 sv)) (v := ?v32f) rfl rfl (by kernel_rfl) (fun _ _ _ h => h) rfl (HCS.out _ h9.blk) (fun w' hw' => ?y32f) ?_   
                                    case y32f => skip; go_simp; try with_reducible rfl
                                    try simp only [Act.put, List.setIfInBounds_toArray, List.set_cons_zero, List.set_cons_succ]
                                    refine At.pure 33 (some 153) (v := ?v33f) rfl rfl (by kernel_rfl) (fun _ _ _ h => h) rfl (fun w' => ?y33f) ?_   
                                    case y33f => go_simp; try with_reducible rfl
                                    try simp only [Act.put, List.setIfInBounds_toArray, List.set_cons_zero, List.set_cons_succ]
                                    as_aux_lemma =>
                                      refine At.pure 34 (some 154) (v := ?v34f) rfl rfl (by kernel_rfl) (fun _ _ _ h => h) rfl (fun w' => ?y34f) ?_   
                                      case y34f => go_simp; try with_reducible rfl
                                      try simp only [Act.put, List.setIfInBounds_toArray, List.set_cons_zero, List.set_cons_succ]
                                      refine At.pure 35 (some 155) (v := ?v35f) rfl rfl (by kernel_rfl) (fun _ _ _ h => h) rfl (fun w' => ?y35f) ?_   
                                      case y35f => go_simp; try with_reducible rfl
                                      try simp only [Act.put, List.setIfInBounds_toArray, List.set_cons_zero, List.set_cons_succ]
                                      refine At.skip 36 (some 156) rfl rfl (by kernel_rfl) (fun _ _ _ h => h) rfl ?_   
                                      try simp only [Act.put, List.setIfInBounds_toArray, List.set_cons_zero, List.set_cons_succ]
                                      refine At.skip 37 (some 157) rfl rfl (by kernel_rfl) (fun _ _ _ h => h) rfl ?_   
                                      try simp only [Act.put, List.setIfInBounds_toArray, List.set_cons_zero, List.set_cons_succ]
                                      refine At.skip 38 (some 158) rfl rfl (by kernel_rfl) (fun _ _ _ h => h) rfl ?_   
                                      try simp only [Act.put, List.setIfInBounds_toArray, List.set_cons_zero, List.set_cons_succ]
                                      refine At.skip 39 (some 159) rfl rfl (by kernel_rfl) (fun _ _ _ h => h) rfl ?_   
                                      try simp only [Act.put, List.setIfInBounds_toArray, List.set_cons_zero, List.set_cons_succ]
                                      refine At.skip 40 (some 160) rfl rfl (by kernel_rfl) (fun _ _ _ h => h) rfl ?_   
                                      try simp only [Act.put, List.setIfInBounds_toArray, List.set_cons_zero, List.set_cons_succ]
                                      refine At.skip 41 (some 161) rfl rfl (by kernel_rfl) (fun _ _ _ h => h) rfl ?_   
                                      try simp only [Act.put, List.setIfInBounds_toArray, List.set_cons_zero, List.set_cons_succ]
                                      refine At.skip 42 (some 162) rfl rfl (by kernel_rfl) (fun _ _ _ h => h) rfl ?_   
                                      try simp only [Act.put, List.setIfInBounds_toArray, List.set_cons_zero, List.set_cons_succ]
                                      as_aux_lemma =>
                                        refine At.skip 43 (some 163) rfl rfl (by kernel_rfl) (fun _ _ _ h => h) rfl ?_   
                                        try simp only [Act.put, List.setIfInBounds_toArray, List.set_cons_zero, List.set_cons_succ]
                                        refine At.pure 44 (some 164) (v := ?v44f) rfl rfl (by kernel_rfl) (fun _ _ _ h => h) rfl (fun w' => ?y44f) ?_   
                                        case y44f => go_simp; try with_reducible rfl
                                        try simp only [Act.put, List.setIfInBounds_toArray, List.set_cons_zero, List.set_cons_succ]
                                        refine At.pure 45 (some 165) (v := ?v45f) rfl rfl (by kernel_rfl) (fun _ _ _ h => h) rfl (fun w' => ?y45f) ?_   
                                        case y45f => go_simp; try with_reducible rfl
                                        try simp only [Act.put, List.setIfInBounds_toArray, List.set_cons_zero, List.set_cons_succ]
                                        refine At.done (by kernel_rfl) ?_
                                        have HT9 := hid h9.tr
                                        have HB9 := hid h9.blk
                                        have HR9 := hid h9.rd
                                        have HS9 := hid h9.sync
                                        go_wp2_with fail
                                        go_roundw
                                        case rel => exact ⟨i + 1, N', by omega, by go_num, HT9, HB9, HR9, HS9⟩
                                        case measure => simp [intOf]; omega
              · as_aux_lemma =>
                obtain rfl : K = i := by omega
                have hst2 : (st 0).1.length ≤ 500000 := hst
                have hp : (stR (encB W L f b N0 K).2 (encB W L f b N0 K).2.length).1 ≤ 1099511627776 := by
                  have h1 := (stR_ok (encB W L f b N0 K).2 (encB W L f b N0 K).2.length).2
                  have h2 := HBL2.out
                  omega
                have HEND := hid (endM_all (encB W L f b N0 K).2)
                go_wp2_with fail
                refine (end_any wr w6.heap.size R A7 n6 c7 _ _ _ _ HR.out hp).mono ?_
                rintro e w10 ⟨rfl, _, hk10⟩
                rw [HEND.out]
                have HT10 := hid (HT.out.aside hk10)
                rw [HN6.out]
                clear hk10 HT HR HEND HB HSY
                go_wp2_with fail
                refine (TrS.bytes HT10.out (j := 0) (by omega) (by omega)).mono ?_
                rintro e w11 ⟨A11, n11, c11, rfl, hown, hk11⟩
                have hn11 : n11 = n6 := by
                  rw [HST.out] at hown
                  have := hown.1
                  simp only [List.length_map] at this
                  rw [HN6.out] at this
                  omega
                have HT11 := hid (HT10.out.aside hk11)
                clear hown hk11 HT10
                subst hn11
                go_wp2_with fail
                go_ret
                exact ⟨ret_bool (by simp), HT11.out.keeps.below (Nat.le_refl _) (fun _ h => h.elim)⟩
end Go.Proofs.Ytbkffpedigeflaa
