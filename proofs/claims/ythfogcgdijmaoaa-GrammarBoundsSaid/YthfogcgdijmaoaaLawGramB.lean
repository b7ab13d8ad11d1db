/-
  GrammarBounds: the walk. Conditions: none.
-/
import Derived.Test.YthfogcgdijmaoaaLawGram
import Derived.OwnWalk
namespace Go.Proofs.Ythfogcgdijmaoaa
open Go.RowKit

theorem info_u8 : (Try.prog.info? 5).map (fun i => (i.zero, i.size, i.bytes)) = some (some (.int .u8 0), 1, 1) := by kernel_rfl
theorem made_zero (n : Nat) : (madeCells (Value.int .u8 0).cells (n * 1)).toList = (List.replicate n (0 : Int)).map (Value.int .u8) := by
  show ((Array.range (n * 1)).map fun i => (#[Value.int .u8 0] : Array Value)[i % 1]!).toList = _
  rw [Nat.mul_one, Array.toList_map, List.map_replicate, List.eq_replicate_iff]
  refine ⟨by simp, fun b hb => ?_⟩
  obtain ⟨i, _, rfl⟩ := List.mem_map.1 hb
  rw [Nat.mod_one]
  rfl
theorem and127 (z : Int) (h0 : 0 ≤ z) (h1 : z ≤ 255) : bits .and .u8 z 127 = z % 128 := by
  have : ∀ k : Fin 256, bits .and .u8 (k.1 : Int) 127 = (k.1 : Int) % 128 := by decide +kernel
  have := this ⟨z.toNat, by omega⟩
  simpa [Int.toNat_of_nonneg h0] using this
/-- The bytes that the law makes. -/
def bound7 (zs : List Int) : List Int := zs.map (· % 128)
def boundX (zs : List Int) (k : Nat) (v : Int) : List Int := ((bound7 zs).set k 255).set (k + 1) v
theorem bound_at (zs : List Int) (k : Nat) (v : Int) (hk : k + 1 < zs.length) (i : Nat) : (boundX zs k v).getD i 0 = if i = k + 1 then v else if i = k then 255 else (bound7 zs).getD i 0 := by
  unfold boundX
  have hl : (bound7 zs).length = zs.length := by unfold bound7; rw [List.length_map]
  by_cases h1 : i = k + 1
  · subst h1
    rw [if_pos rfl, List.getD_eq_getElem?_getD, List.getElem?_set_self (by rw [List.length_set, hl]; exact hk)]
    rfl
  · rw [if_neg h1, List.getD_eq_getElem?_getD, List.getElem?_set_ne (Ne.symm h1)]
    by_cases h2 : i = k
    · subst h2
      rw [if_pos rfl, List.getElem?_set_self (by rw [hl]; omega)]
      rfl
    · rw [if_neg h2, List.getElem?_set_ne (Ne.symm h2), List.getD_eq_getElem?_getD]
theorem bound7_at (zs : List Int) (i : Nat) : 0 ≤ (bound7 zs).getD i 0 ∧ (bound7 zs).getD i 0 ≤ 127 := by
  unfold bound7
  rw [List.getD_eq_getElem?_getD, List.getElem?_map]
  cases zs[i]? with
  | none => decide
  | some z => show 0 ≤ z % 128 ∧ z % 128 ≤ 127; omega
theorem bound_clean (zs : List Int) (k : Nat) (v : Int) (hk : k + 1 < zs.length) (hv : 0 ≤ v ∧ v ≤ 255) : cleanB (boundX zs k v) = decide (v ≤ 143) ∧ cleanB ((boundX zs k v).take (k + 1)) = true := by
  have hl : (boundX zs k v).length = zs.length := by unfold boundX bound7; rw [List.length_set, List.length_set, List.length_map]
  have hlow : ∀ i, i ≠ k + 1 → badAt (boundX zs k v) i = false := fun i hi => by
    unfold badAt wasAt
    by_cases h0 : i = 0
    · subst h0; rw [if_pos rfl]; rfl
    · have h7 := bound7_at zs i
      have h8 := bound7_at zs (i - 1)
      by_cases h1 : i = k
      · have e1 : (boundX zs k v).getD (i - 1) 0 = (bound7 zs).getD (i - 1) 0 := by
          have hA : ¬ i - 1 = k + 1 := by omega
          have hB : ¬ i - 1 = k := by omega
          rw [bound_at zs k v hk, if_neg hA, if_neg hB]
        have : ((bound7 zs).getD (i - 1) 0 == 255) = false := by
          rw [beq_eq_false_iff_ne]
          omega
        rw [if_neg h0, e1, this, Bool.false_and]
      · have e2 : (boundX zs k v).getD i 0 = (bound7 zs).getD i 0 := by rw [bound_at zs k v hk, if_neg hi, if_neg h1]
        have : decide (143 < (bound7 zs).getD i 0) = false := decide_eq_false (by omega)
        rw [e2, this, Bool.and_false]
  constructor
  · by_cases hv1 : v ≤ 143
    · rw [decide_eq_true hv1]
      refine clean_true (fun j hj => ?_)
      by_cases h : j = k + 1
      · subst h
        unfold badAt
        rw [bound_at zs k v hk (k + 1), if_pos rfl, decide_eq_false (by omega : ¬ 143 < v), Bool.and_false]
      · exact hlow j h
    · rw [decide_eq_false hv1]
      refine clean_false (i := k + 1) (by omega) ?_
      unfold badAt wasAt
      rw [if_neg (by omega), bound_at zs k v hk (k + 1), if_pos rfl, bound_at zs k v hk, if_neg (by omega), if_pos (by omega), decide_eq_true (by omega : 143 < v)]
      rfl
  · have hc := clean_cut (boundX zs k v) (k + 1) (by omega)
    refine clean_true (fun j hj => ?_)
    rw [List.length_take] at hj
    have e : badAt ((boundX zs k v).take (k + 1)) j = badAt (boundX zs k v) j := badAt_congr (by
      unfold wasAt
      split
      · rfl
      · rw [List.getD_eq_getElem?_getD, List.getElem?_take, if_pos (by omega), List.getD_eq_getElem?_getD]) (by
      rw [List.getD_eq_getElem?_getD, List.getElem?_take, if_pos (by omega), List.getD_eq_getElem?_getD])
    rw [e]
    exact hlow j (by omega)
set_option maxRecDepth 20000 in
set_option maxHeartbeats 4000000 in
theorem grammarBounds_walk (A : Option Addr) (n c : Nat) (zs : List Int) (x y : Int) (w : World) (h : Arg .u8 1 w A n c zs) (hx : (Lit.int .i64 x).wf = true) (hy : (Lit.int .i64 y).wf = true) :
    Calls Try.prog 4 #[.slice A n c, .int .i64 x, .int .i64 y] w fun e w' => e = .returned (.bool true) ∧ Below w.heap.size w w' := by
  obtain ⟨hx0, hx1⟩ := wf_i64 hx
  obtain ⟨hy0, hy1⟩ := wf_i64 hy
  have HBY := hid h.bytes
  have HL := hid h.len
  have hcn : n ≤ 9223372036854775807 := by have := h.cap; have := h.reach; omega
  by_cases hn2 : n < 2
  · go_enter Try.func4, Try.ntmps4
    go_wp2_with fail
    refine (known_any w).mono ?_
    rintro e w1 ⟨rfl, hk1⟩
    have HK1 := hid hk1
    clear hk1
    go_wp2_with fail
    go_ret
    exact ⟨rfl, HK1.out.below (Nat.le_refl _) (fun _ h => h.elim)⟩
  · by_cases hn : n ≤ 200
    · go_enter Try.func4, Try.ntmps4
      go_wp2_with fail
      refine (known_any w).mono ?_
      rintro e w1 ⟨rfl, hk1⟩
      have HK1 := hid hk1
      have HR1 := hid (h.rd.keep hk1 (fun _ _ h => h))
      have HRW := hid (fun hn0 => h.rd.lt hn0)
      clear hk1 h
      obtain ⟨i0, hi0, hj0, hj1, hj2⟩ := info_parts info_u8
      have hs1 : w.heap.size ≤ w1.heap.size := HK1.out.size
      go_wp2_with (refine wpList_make_full w1 rfl _ _ 22 rfl w.heap.size 5 i0 _ 1 Try.underlying22 hi0 hj0 hj1 _ _ _ _ n rfl rfl rfl rfl (by rw [hj2]; omega) (by simp only [maxLen]; omega) hs1 ?_; intro w2 hown2 hg2)
      have HO2 := hid hown2
      have HK2 := hid (HK1.out.trans ((Keep.refl (fun _ => False) w1).grown hg2 (fun k hk => by cases hk)) (fun _ _ h => h))
      have hg2' := hg2
      clear hown2 hg2
      have HR2 := hid (HR1.out.keep ((Keep.refl (fun _ => False) w1).grown hg2' (fun k hk => by cases hk)) (fun _ _ h => h))
      generalize hG : w1.heap.size = G at *
      have hGw : w.heap.size ≤ G := hs1
      clear HK1 HR1 hg2' hG
      have hn0 : (n : Int) < 9223372036854775807 := by omega
      go_loopw [8] (fun v wr => ∃ (i : Nat) (L : List Int), i ≤ n ∧ v = .int .i64 i ∧ Hid (wr.ownsRow w.heap.size 5 1 (.slice (some ⟨G, 0, none⟩) n n) n (L.map (Value.int .u8))) ∧ Hid (∀ j, j < i → L.getD j 0 = (bound7 zs).getD j 0) ∧ Hid (Keep (fun _ => False) w wr) ∧ Hid (Keep (fun j => j = G) w2 wr)) (fun v _ => n - (intOf v).toNat)
      case atStart => exact ⟨0, List.replicate n 0, by omega, rfl, hid (by rw [← made_zero]; exact HO2.out), hid (fun j h => by omega), HK2, hid (Keep.refl _ _)⟩
      case round =>
        obtain ⟨i, L, hi, rfl, HO, HJ, HK, HKG⟩ := hrel
        clear HO2 HK2
        have hLl : L.length = n := by have := HO.out.1; simpa using this
        by_cases hin : i < n
        · obtain ⟨b, o, rfl, hz⟩ := HR2.out.int_ix hin
          have hbw := HRW.out (by omega) _ rfl
          simp only at hbw
          have z1 := HKG.out.cell hz (fun h : b = G => by omega)
          have hzr : 0 ≤ zs.getD i 0 ∧ zs.getD i 0 ≤ 255 := HBY.out _ (by rw [List.getD_eq_getElem?_getD, List.getElem?_eq_getElem (by rw [HL.out]; exact hin)]; exact List.getElem_mem _)
          have hand := and127 _ hzr.1 hzr.2
          have hb7 : (bound7 zs).getD i 0 = zs.getD i 0 % 128 := by
            unfold bound7
            rw [List.getD_eq_getElem?_getD, List.getElem?_map, List.getD_eq_getElem?_getD, List.getElem?_eq_getElem (by rw [HL.out]; exact hin)]
            rfl
          obtain ⟨g', hg', _, _, hgl, hgf⟩ := own_at HO.out (by omega)
          injection hg' with hg'
          injection hg' with hg'
          subst hg'
          have d1 : wr.cell? ⟨G, i, none⟩ = some (.int .u8 (L.getD i 0)) := hgl i _ (map_at _ _ i (by omega))
          have fr := hgf i
          have HS := hid (World.ownsRow.stored HO.out i (.int .u8 (zs.getD i 0 % 128))).1
          have HOn : Hid ((wr.setCell ⟨G, i, none⟩ (.int .u8 (zs.getD i 0 % 128))).ownsRow w.heap.size 5 1 (.slice (some ⟨G, 0, none⟩) n n) n ((L.set i (zs.getD i 0 % 128)).map (Value.int .u8))) := hid (by rw [List.map_set]; exact HS.out)
          have HJn : Hid (∀ j, j < i + 1 → (L.set i (zs.getD i 0 % 128)).getD j 0 = (bound7 zs).getD j 0) := hid (fun j hj => by
            by_cases h : j = i
            · subst h
              rw [List.getD_eq_getElem?_getD, List.getElem?_set_self (by omega), hb7]; rfl
            · rw [List.getD_eq_getElem?_getD, List.getElem?_set_ne (Ne.symm h), ← List.getD_eq_getElem?_getD]
              exact HJ.out j (by omega))
          have HKn := hid (HK.out.setCell (p := ⟨G, i, none⟩) (.inr hGw) (.int .u8 (zs.getD i 0 % 128)))
          have HKGn := hid (HKG.out.setR i (.int .u8 (zs.getD i 0 % 128)))
          clear HS hgl hgf hz HJ HO
          generalize zs.getD i 0 = zz at *
          have hzm : 0 ≤ zz % 128 ∧ zz % 128 ≤ 255 := by omega
          go_wp2_with fail
          exact ⟨⟨i + 1, _, by omega, by go_num, HOn, HJn, HKn, HKGn⟩, by simp [intOf]; omega⟩
        · obtain rfl : n = i := by omega
          have hLb : L = bound7 zs := List.ext_getElem? (fun j => by
            have hl7 : (bound7 zs).length = n := by unfold bound7; rw [List.length_map, HL.out]
            rcases Nat.lt_or_ge j n with hj | hj
            · have := HJ.out j hj
              rw [List.getD_eq_getElem?_getD, List.getD_eq_getElem?_getD, List.getElem?_eq_getElem (by omega), List.getElem?_eq_getElem (by omega)] at this
              rw [List.getElem?_eq_getElem (by omega), List.getElem?_eq_getElem (by omega)]
              exact congrArg some this
            · rw [List.getElem?_eq_none (by omega), List.getElem?_eq_none (by omega)])
          subst hLb
          go_wp2_with fail
          refine (within_any wr x (n - 1) hx0 hx1 (by omega) (by omega)).mono ?_
          rintro e w5 ⟨rfl, rfl⟩
          obtain ⟨k, hk, hkn⟩ : ∃ k : Nat, x % ((n : Int) - 1) = k ∧ k + 1 < n := by
            have h1 := Int.emod_nonneg x (show (n : Int) - 1 ≠ 0 by omega)
            have h2 := Int.emod_lt_of_pos x (show 0 < (n : Int) - 1 by omega)
            exact ⟨(x % ((n : Int) - 1)).toNat, by omega, by omega⟩
          rw [hk]
          go_wp2_with fail
          refine (within_any wr y 256 hy0 hy1 (by omega) (by omega)).mono ?_
          rintro e w5 ⟨rfl, rfl⟩
          obtain ⟨v, hv, hv0, hv1⟩ : ∃ v, y % 256 = v ∧ 0 ≤ v ∧ v ≤ 255 := ⟨_, rfl, by omega, by omega⟩
          rw [hv]
          obtain ⟨g', hg', _, _, hgl, hgf⟩ := own_at HO.out (by omega)
          injection hg' with hg'
          injection hg' with hg'
          subst hg'
          have d1 : wr.cell? ⟨G, k, none⟩ = some (.int .u8 ((bound7 zs).getD k 0)) := hgl k _ (map_at _ _ k (by omega))
          have d2 : wr.cell? ⟨G, k + 1, none⟩ = some (.int .u8 ((bound7 zs).getD (k + 1) 0)) := hgl (k + 1) _ (map_at _ _ (k + 1) (by omega))
          have f1 := hgf k
          have f2 := hgf (k + 1)
          have s1 := (World.ownsRow.stored HO.out k (.int .u8 255)).1
          have s2 := (World.ownsRow.stored s1 (k + 1) (.int .u8 v)).1
          have HO5 := hid (show ((wr.setCell ⟨G, k, none⟩ (.int .u8 255)).setCell ⟨G, k + 1, none⟩ (.int .u8 v)).ownsRow w.heap.size 5 1 (.slice (some ⟨G, 0, none⟩) n n) n ((boundX zs k v).map (Value.int .u8)) by
            unfold boundX; rw [List.map_set, List.map_set]; exact s2)
          have HK5 := hid ((HK.out.setCell (p := ⟨G, k, none⟩) (.inr hGw) (.int .u8 255)).setCell (p := ⟨G, k + 1, none⟩) (.inr hGw) (.int .u8 v))
          obtain ⟨hc1, hc2⟩ := bound_clean zs k v (by rw [HL.out]; exact hkn) ⟨hv0, hv1⟩
          have hXv : (boundX zs k v).getD (k + 1) 0 = v := by rw [bound_at zs k v (by rw [HL.out]; exact hkn), if_pos rfl]
          have HBX := hid (show Bytes (boundX zs k v) from fun z hz => by
            unfold boundX at hz
            rcases List.mem_or_eq_of_mem_set hz with hz | hz
            · rcases List.mem_or_eq_of_mem_set hz with hz | hz
              · unfold bound7 at hz
                obtain ⟨q, _, rfl⟩ := List.mem_map.1 hz
                omega
              · omega
            · omega)
          have hXl : (boundX zs k v).length = n := by unfold boundX; rw [List.length_set, List.length_set]; exact hLl
          clear s1 s2 hgl hgf HO HJ HK HKG HR2 hk hv HBY hLl
          generalize boundX zs k v = X at *
          go_wp2_with fail
          generalize (wr.setCell ⟨G, k, none⟩ (.int .u8 255)).setCell ⟨G, k + 1, none⟩ (.int .u8 v) = w5 at *
          obtain ⟨g', hg', _, _, hgl, _⟩ := own_at HO5.out (by omega)
          injection hg' with hg'
          injection hg' with hg'
          subst hg'
          have z5 : w5.cell? ⟨G, k + 1, none⟩ = some (.int .u8 v) := by
            have := hgl (k + 1) _ (map_at _ _ (k + 1) (by omega))
            rw [hXv] at this
            exact this
          have HRX := hid (Rd.of_own HO5.out)
          have HBT := hid (show Bytes (X.take (k + 1)) from fun z hz => HBX.out z (List.mem_of_mem_take hz))
          clear d1 d2 f1 f2 hgl
          have hwk : IntKind.i64.wrap ((k : Int) + 1) = (k : Int) + 1 := IntWalk.i64_in _ (by omega)
          have hkn' : (k : Int) + 1 < n := by omega
          have hkz : 0 ≤ (k : Int) + 1 := by omega
          have hkl : (k : Int) + 1 ≤ n := by omega
          by_cases hv143 : v ≤ 143
          · rw [decide_eq_true hv143] at hc1
            -- region 12: 20 operations
            refine At.start (L := #[false, false, false, false, false, false, false, false, false, false, false, false, false, false, false, false, false, false, false, false]) (by kernel_rfl) rfl ?_
            refine At.pure 0 (some 52) (v := ?v0a) rfl rfl (by kernel_rfl) (fun _ _ _ h => h) rfl (fun w' => ?y0a) ?_   
            case y0a => go_simp; try with_reducible rfl
            try simp only [Act.put, List.setIfInBounds_toArray, List.set_cons_zero, List.set_cons_succ]
            refine At.pure 2 (some 54) (v := ?v2a) rfl rfl (by kernel_rfl) (fun _ _ _ h => h) rfl (fun w' => ?y2a) ?_   
            case y2a => go_simp; try with_reducible rfl
            try simp only [Act.put, List.setIfInBounds_toArray, List.set_cons_zero, List.set_cons_succ]
            refine At.pure 3 (some 55) (v := ?v3a) rfl rfl (by kernel_rfl) (fun _ _ _ h => h) rfl (fun w' => ?y3a) ?_   
            case y3a => go_simp; try with_reducible rfl
            try simp only [Act.put, List.setIfInBounds_toArray, List.set_cons_zero, List.set_cons_succ]
            refine At.pure 4 (some 56) (v := ?v4a) rfl rfl (by kernel_rfl) (fun _ _ _ h => h) rfl (fun w' => ?y4a) ?_   
            case y4a => go_simp; try with_reducible rfl
            try simp only [Act.put, List.setIfInBounds_toArray, List.set_cons_zero, List.set_cons_succ]
            refine At.pure 5 (some 57) (v := ?v5a) rfl rfl (by kernel_rfl) (fun _ _ _ h => h) rfl (fun w' => ?y5a) ?_   
            case y5a => go_simp; try with_reducible rfl
            try simp only [Act.put, List.setIfInBounds_toArray, List.set_cons_zero, List.set_cons_succ]
            refine At.read 6 (some 58) (fun w' => w'.cell? ⟨G, k + 1, none⟩ = some (.int .u8 v)) (v := ?v6a) rfl rfl (by kernel_rfl) (fun _ _ _ h => h) rfl z5 (fun w' hw' => ?y6a) ?_   
            case y6a => skip; go_simp; try with_reducible rfl
            try simp only [Act.put, List.setIfInBounds_toArray, List.set_cons_zero, List.set_cons_succ]
            refine At.pure 7 (some 59) (v := ?v7a) rfl rfl (by kernel_rfl) (fun _ _ _ h => h) rfl (fun w' => ?y7a) ?_   
            case y7a => go_simp; try with_reducible rfl
            try simp only [Act.put, List.setIfInBounds_toArray, List.set_cons_zero, List.set_cons_succ]
            refine At.call 1 (pend' := [(6, (fun w' => w'.cell? ⟨G, k + 1, none⟩ = some (.int .u8 v)))]) rfl (by kernel_rfl) rfl (by kernel_rfl) (fun K hK => ?_)   
            go_simp
            refine (clean_any w5.drew _ _ _ X HRX.out.drew HBX.out (by omega)).mono ?_
            rintro e w6 ⟨rfl, hk6⟩
            rw [hc1]
            have HK6 := hid (HK5.out.trans (((Keep.refl (fun _ => False) w5).drew).trans hk6 (fun _ _ h => h)) (fun _ _ h => h))
            have HR6 := hid (HRX.out.drew.keep hk6 (fun _ _ h => h))
            refine hK _ _ (all_cons (hk6.cell z5 (fun h => h)) all_nil) ?_
            clear hK K
            try simp only [Act.put, List.setIfInBounds_toArray, List.set_cons_zero, List.set_cons_succ]
            refine At.pure 8 (some 60) (v := ?v8a) rfl rfl (by kernel_rfl) (fun _ _ _ h => h) rfl (fun w' => ?y8a) ?_   
            case y8a => go_simp; try with_reducible rfl
            try simp only [Act.put, List.setIfInBounds_toArray, List.set_cons_zero, List.set_cons_succ]
            refine At.pure 9 (some 61) (v := ?v9a) rfl rfl (by kernel_rfl) (fun _ _ _ h => h) rfl (fun w' => ?y9a) ?_   
            case y9a => go_simp; try with_reducible rfl
            try simp only [Act.put, List.setIfInBounds_toArray, List.set_cons_zero, List.set_cons_succ]
            refine At.pure 10 (some 62) (v := ?v10a) rfl rfl (by kernel_rfl) (fun _ _ _ h => h) rfl (fun w' => ?y10a) ?_   
            case y10a => go_simp; try with_reducible rfl
            try simp only [Act.put, List.setIfInBounds_toArray, List.set_cons_zero, List.set_cons_succ]
            refine At.pure 11 (some 63) (v := ?v11a) rfl rfl (by kernel_rfl) (fun _ _ _ h => h) rfl (fun w' => ?y11a) ?_   
            case y11a => go_simp; try with_reducible rfl
            try simp only [Act.put, List.setIfInBounds_toArray, List.set_cons_zero, List.set_cons_succ]
            refine At.pure 12 (some 64) (v := ?v12a) rfl rfl (by kernel_rfl) (fun _ _ _ h => h) rfl (fun w' => ?y12a) ?_   
            case y12a => go_simp; try with_reducible rfl
            try simp only [Act.put, List.setIfInBounds_toArray, List.set_cons_zero, List.set_cons_succ]
            refine At.pure 13 (some 65) (v := ?v13a) rfl rfl (by kernel_rfl) (fun _ _ _ h => h) rfl (fun w' => ?y13a) ?_   
            case y13a => go_simp; try with_reducible rfl
            try simp only [Act.put, List.setIfInBounds_toArray, List.set_cons_zero, List.set_cons_succ]
            refine At.call 14 (pend' := []) rfl (by kernel_rfl) rfl (by kernel_rfl) (fun K hK => ?_)   
            go_simp
            refine (clean_any w6 _ _ _ (X.take (k + 1)) (by rw [List.map_take]; exact HR6.out.take (by omega)) HBT.out (by omega)).mono ?_
            rintro e w7 ⟨rfl, hk7⟩
            rw [hc2]
            have HK7 := hid (HK6.out.trans hk7 (fun _ _ h => h))
            refine hK _ _ all_nil ?_
            clear hK K
            try simp only [Act.put, List.setIfInBounds_toArray, List.set_cons_zero, List.set_cons_succ]
            refine At.pure 15 (some 67) (v := ?v15a) rfl rfl (by kernel_rfl) (fun _ _ _ h => h) rfl (fun w' => ?y15a) ?_   
            case y15a => go_simp; try with_reducible rfl
            try simp only [Act.put, List.setIfInBounds_toArray, List.set_cons_zero, List.set_cons_succ]
            refine At.pure 16 (some 68) (v := ?v16a) rfl rfl (by kernel_rfl) (fun _ _ _ h => h) rfl (fun w' => ?y16a) ?_   
            case y16a => go_simp; try with_reducible rfl
            try simp only [Act.put, List.setIfInBounds_toArray, List.set_cons_zero, List.set_cons_succ]
            refine At.call 17 (pend' := []) rfl (by kernel_rfl) rfl (by kernel_rfl) (fun K hK => ?_)   
            go_simp
            refine (clean_any w7 none 0 0 [] (Rd.nil _) (fun z hz => by cases hz) (by omega)).mono ?_
            rintro e w8 ⟨rfl, hk8⟩
            have HK8 := hid (HK7.out.trans hk8 (fun _ _ h => h))
            have hcn : cleanB [] = true := rfl
            rw [hcn]
            refine hK _ _ all_nil ?_
            clear hK K
            try simp only [Act.put, List.setIfInBounds_toArray, List.set_cons_zero, List.set_cons_succ]
            refine At.pure 18 (some 70) (v := ?v18a) rfl rfl (by kernel_rfl) (fun _ _ _ h => h) rfl (fun w' => ?y18a) ?_   
            case y18a => go_simp; try with_reducible rfl
            try simp only [Act.put, List.setIfInBounds_toArray, List.set_cons_zero, List.set_cons_succ]
            refine At.pure 19 (some 6) (v := ?v19a) rfl rfl (by kernel_rfl) (fun _ _ _ h => h) rfl (fun w' => ?y19a) ?_   
            case y19a => go_simp; try with_reducible rfl
            try simp only [Act.put, List.setIfInBounds_toArray, List.set_cons_zero, List.set_cons_succ]
            refine At.done (by kernel_rfl) ?_
            go_wp2_with fail
            go_ret
            exact ⟨ret_bool (by simp), HK8.out.below (Nat.le_refl _) (fun _ h => h.elim)⟩
          · rw [decide_eq_false hv143] at hc1
            -- region 12: 20 operations
            refine At.start (L := #[false, false, false, false, false, false, false, false, false, false, false, false, false, false, false, false, false, false, false, false]) (by kernel_rfl) rfl ?_
            refine At.pure 0 (some 52) (v := ?v0b) rfl rfl (by kernel_rfl) (fun _ _ _ h => h) rfl (fun w' => ?y0b) ?_   
            case y0b => go_simp; try with_reducible rfl
            try simp only [Act.put, List.setIfInBounds_toArray, List.set_cons_zero, List.set_cons_succ]
            refine At.pure 2 (some 54) (v := ?v2b) rfl rfl (by kernel_rfl) (fun _ _ _ h => h) rfl (fun w' => ?y2b) ?_   
            case y2b => go_simp; try with_reducible rfl
            try simp only [Act.put, List.setIfInBounds_toArray, List.set_cons_zero, List.set_cons_succ]
            refine At.pure 3 (some 55) (v := ?v3b) rfl rfl (by kernel_rfl) (fun _ _ _ h => h) rfl (fun w' => ?y3b) ?_   
            case y3b => go_simp; try with_reducible rfl
            try simp only [Act.put, List.setIfInBounds_toArray, List.set_cons_zero, List.set_cons_succ]
            refine At.pure 4 (some 56) (v := ?v4b) rfl rfl (by kernel_rfl) (fun _ _ _ h => h) rfl (fun w' => ?y4b) ?_   
            case y4b => go_simp; try with_reducible rfl
            try simp only [Act.put, List.setIfInBounds_toArray, List.set_cons_zero, List.set_cons_succ]
            refine At.pure 5 (some 57) (v := ?v5b) rfl rfl (by kernel_rfl) (fun _ _ _ h => h) rfl (fun w' => ?y5b) ?_   
            case y5b => go_simp; try with_reducible rfl
            try simp only [Act.put, List.setIfInBounds_toArray, List.set_cons_zero, List.set_cons_succ]
            refine At.read 6 (some 58) (fun w' => w'.cell? ⟨G, k + 1, none⟩ = some (.int .u8 v)) (v := ?v6b) rfl rfl (by kernel_rfl) (fun _ _ _ h => h) rfl z5 (fun w' hw' => ?y6b) ?_   
            case y6b => skip; go_simp; try with_reducible rfl
            try simp only [Act.put, List.setIfInBounds_toArray, List.set_cons_zero, List.set_cons_succ]
            refine At.pure 7 (some 59) (v := ?v7b) rfl rfl (by kernel_rfl) (fun _ _ _ h => h) rfl (fun w' => ?y7b) ?_   
            case y7b => go_simp; try with_reducible rfl
            try simp only [Act.put, List.setIfInBounds_toArray, List.set_cons_zero, List.set_cons_succ]
            refine At.call 1 (pend' := [(6, (fun w' => w'.cell? ⟨G, k + 1, none⟩ = some (.int .u8 v)))]) rfl (by kernel_rfl) rfl (by kernel_rfl) (fun K hK => ?_)   
            go_simp
            refine (clean_any w5.drew _ _ _ X HRX.out.drew HBX.out (by omega)).mono ?_
            rintro e w6 ⟨rfl, hk6⟩
            rw [hc1]
            have HK6 := hid (HK5.out.trans (((Keep.refl (fun _ => False) w5).drew).trans hk6 (fun _ _ h => h)) (fun _ _ h => h))
            have HR6 := hid (HRX.out.drew.keep hk6 (fun _ _ h => h))
            refine hK _ _ (all_cons (hk6.cell z5 (fun h => h)) all_nil) ?_
            clear hK K
            try simp only [Act.put, List.setIfInBounds_toArray, List.set_cons_zero, List.set_cons_succ]
            refine At.pure 8 (some 60) (v := ?v8b) rfl rfl (by kernel_rfl) (fun _ _ _ h => h) rfl (fun w' => ?y8b) ?_   
            case y8b => go_simp; try with_reducible rfl
            try simp only [Act.put, List.setIfInBounds_toArray, List.set_cons_zero, List.set_cons_succ]
            refine At.pure 9 (some 61) (v := ?v9b) rfl rfl (by kernel_rfl) (fun _ _ _ h => h) rfl (fun w' => ?y9b) ?_   
            case y9b => go_simp; try with_reducible rfl
            try simp only [Act.put, List.setIfInBounds_toArray, List.set_cons_zero, List.set_cons_succ]
            refine At.pure 10 (some 62) (v := ?v10b) rfl rfl (by kernel_rfl) (fun _ _ _ h => h) rfl (fun w' => ?y10b) ?_   
            case y10b => go_simp; try with_reducible rfl
            try simp only [Act.put, List.setIfInBounds_toArray, List.set_cons_zero, List.set_cons_succ]
            refine At.pure 11 (some 63) (v := ?v11b) rfl rfl (by kernel_rfl) (fun _ _ _ h => h) rfl (fun w' => ?y11b) ?_   
            case y11b => go_simp; try with_reducible rfl
            try simp only [Act.put, List.setIfInBounds_toArray, List.set_cons_zero, List.set_cons_succ]
            refine At.pure 12 (some 64) (v := ?v12b) rfl rfl (by kernel_rfl) (fun _ _ _ h => h) rfl (fun w' => ?y12b) ?_   
            case y12b => go_simp; try with_reducible rfl
            try simp only [Act.put, List.setIfInBounds_toArray, List.set_cons_zero, List.set_cons_succ]
            refine At.pure 13 (some 65) (v := ?v13b) rfl rfl (by kernel_rfl) (fun _ _ _ h => h) rfl (fun w' => ?y13b) ?_   
            case y13b => go_simp; try with_reducible rfl
            try simp only [Act.put, List.setIfInBounds_toArray, List.set_cons_zero, List.set_cons_succ]
            refine At.call 14 (pend' := []) rfl (by kernel_rfl) rfl (by kernel_rfl) (fun K hK => ?_)   
            go_simp
            refine (clean_any w6 _ _ _ (X.take (k + 1)) (by rw [List.map_take]; exact HR6.out.take (by omega)) HBT.out (by omega)).mono ?_
            rintro e w7 ⟨rfl, hk7⟩
            rw [hc2]
            have HK7 := hid (HK6.out.trans hk7 (fun _ _ h => h))
            refine hK _ _ all_nil ?_
            clear hK K
            try simp only [Act.put, List.setIfInBounds_toArray, List.set_cons_zero, List.set_cons_succ]
            refine At.pure 15 (some 67) (v := ?v15b) rfl rfl (by kernel_rfl) (fun _ _ _ h => h) rfl (fun w' => ?y15b) ?_   
            case y15b => go_simp; try with_reducible rfl
            try simp only [Act.put, List.setIfInBounds_toArray, List.set_cons_zero, List.set_cons_succ]
            refine At.pure 16 (some 68) (v := ?v16b) rfl rfl (by kernel_rfl) (fun _ _ _ h => h) rfl (fun w' => ?y16b) ?_   
            case y16b => go_simp; try with_reducible rfl
            try simp only [Act.put, List.setIfInBounds_toArray, List.set_cons_zero, List.set_cons_succ]
            refine At.call 17 (pend' := []) rfl (by kernel_rfl) rfl (by kernel_rfl) (fun K hK => ?_)   
            go_simp
            refine (clean_any w7 none 0 0 [] (Rd.nil _) (fun z hz => by cases hz) (by omega)).mono ?_
            rintro e w8 ⟨rfl, hk8⟩
            have HK8 := hid (HK7.out.trans hk8 (fun _ _ h => h))
            have hcn : cleanB [] = true := rfl
            rw [hcn]
            refine hK _ _ all_nil ?_
            clear hK K
            try simp only [Act.put, List.setIfInBounds_toArray, List.set_cons_zero, List.set_cons_succ]
            refine At.pure 18 (some 70) (v := ?v18b) rfl rfl (by kernel_rfl) (fun _ _ _ h => h) rfl (fun w' => ?y18b) ?_   
            case y18b => go_simp; try with_reducible rfl
            try simp only [Act.put, List.setIfInBounds_toArray, List.set_cons_zero, List.set_cons_succ]
            refine At.pure 19 (some 6) (v := ?v19b) rfl rfl (by kernel_rfl) (fun _ _ _ h => h) rfl (fun w' => ?y19b) ?_   
            case y19b => go_simp; try with_reducible rfl
            try simp only [Act.put, List.setIfInBounds_toArray, List.set_cons_zero, List.set_cons_succ]
            refine At.done (by kernel_rfl) ?_
            go_wp2_with fail
            go_ret
            exact ⟨ret_bool (by simp), HK8.out.below (Nat.le_refl _) (fun _ h => h.elim)⟩
    · go_enter Try.func4, Try.ntmps4
      go_wp2_with fail
      refine (known_any w).mono ?_
      rintro e w1 ⟨rfl, hk1⟩
      have HK1 := hid hk1
      clear hk1
      go_wp2_with fail
      go_ret
      exact ⟨rfl, HK1.out.below (Nat.le_refl _) (fun _ h => h.elim)⟩
end Go.Proofs.Ythfogcgdijmaoaa
