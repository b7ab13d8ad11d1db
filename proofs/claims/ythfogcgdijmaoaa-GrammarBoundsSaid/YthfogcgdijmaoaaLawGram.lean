/-
  GrammarClean: the walk. Conditions: none.
-/
import Derived.Test.YthfogcgdijmaoaaGramKnown
namespace Go.Proofs.Ythfogcgdijmaoaa
open Go.RowKit

theorem badAt_congr {zs ys : List Int} {i j : Nat} (h1 : wasAt zs i = wasAt ys j) (h2 : zs.getD i 0 = ys.getD j 0) : badAt zs i = badAt ys j := by
  unfold badAt
  rw [h1, h2]
theorem clean_iff (zs : List Int) : cleanB zs = true ↔ ∀ i, i < zs.length → badAt zs i = false := by
  constructor
  · intro h i hi
    cases hb : badAt zs i with
    | false => rfl
    | true => rw [clean_false hi hb] at h; cases h
  · exact clean_true
/-- Between the parts: a byte above 143 behind a 255. -/
def betweenB (zs : List Int) (k : Nat) : Bool := decide (0 < k) && decide (k < zs.length) && badAt zs k
theorem clean_cut (zs : List Int) (k : Nat) (hk : k ≤ zs.length) : cleanB zs = (cleanB (zs.take k) && cleanB (zs.drop k) && !betweenB zs k) := by
  have ht : ∀ i, i < k → badAt (zs.take k) i = badAt zs i := fun i hi => badAt_congr (by
      unfold wasAt
      split
      · rfl
      · rw [List.getD_eq_getElem?_getD, List.getElem?_take, if_pos (by omega), List.getD_eq_getElem?_getD]) (by
      rw [List.getD_eq_getElem?_getD, List.getElem?_take, if_pos hi, List.getD_eq_getElem?_getD])
  have hd : ∀ i, 0 < i → badAt (zs.drop k) i = badAt zs (k + i) := fun i hi => badAt_congr (by
      unfold wasAt
      rw [if_neg (by omega), if_neg (by omega), List.getD_eq_getElem?_getD, List.getElem?_drop, List.getD_eq_getElem?_getD, show k + (i - 1) = k + i - 1 by omega]) (by
      rw [List.getD_eq_getElem?_getD, List.getElem?_drop, List.getD_eq_getElem?_getD])
  have hd0 : badAt (zs.drop k) 0 = false := by unfold badAt wasAt; rw [if_pos rfl]; rfl
  have h0 : badAt zs 0 = false := by unfold badAt wasAt; rw [if_pos rfl]; rfl
  rw [Bool.eq_iff_iff]
  rw [Bool.and_eq_true, Bool.and_eq_true, clean_iff, clean_iff, clean_iff, Bool.not_eq_true']
  constructor
  · intro h
    refine ⟨⟨fun i hi => ?_, fun i hi => ?_⟩, ?_⟩
    · rw [List.length_take] at hi
      rw [ht i (by omega)]
      exact h i (by omega)
    · rw [List.length_drop] at hi
      rcases Nat.eq_zero_or_pos i with rfl | hp
      · exact hd0
      · rw [hd i hp]; exact h _ (by omega)
    · unfold betweenB
      by_cases h1 : 0 < k ∧ k < zs.length
      · rw [h k h1.2, Bool.and_false]
      · rw [Bool.and_eq_false_iff, Bool.and_eq_false_iff, decide_eq_false_iff_not, decide_eq_false_iff_not]
        omega
  · rintro ⟨⟨h1, h2⟩, h3⟩ i hi
    by_cases hik : i < k
    · rw [← ht i hik]
      exact h1 i (by rw [List.length_take]; omega)
    · by_cases he : i = k
      · subst he
        rcases Nat.eq_zero_or_pos i with rfl | hp
        · exact h0
        · unfold betweenB at h3
          rw [decide_eq_true hp, decide_eq_true hi] at h3
          simpa using h3
      · have := h2 (i - k) (by rw [List.length_drop]; omega)
        rw [hd (i - k) (by omega), show k + (i - k) = i by omega] at this
        exact this
set_option maxRecDepth 20000 in
set_option maxHeartbeats 4000000 in
theorem grammarClean_walk (A : Option Addr) (n c : Nat) (zs : List Int) (x : Int) (w : World) (h : Arg .u8 1 w A n c zs) (hx : (Lit.int .i64 x).wf = true) :
    Calls Try.prog 3 #[.slice A n c, .int .i64 x] w fun e w' => e = .returned (.bool true) ∧ Below w.heap.size w w' := by
  obtain ⟨hx0, hx1⟩ := wf_i64 hx
  have HBY := hid h.bytes
  have HL := hid h.len
  have hcap := h.cap
  have hcn : n ≤ 9223372036854775807 := by have := h.cap; have := h.reach; omega
  have hcc : c ≤ 140737488351232 := by have := h.reach; omega
  by_cases hn : n ≤ 300
  · go_enter Try.func3, Try.ntmps3
    go_wp2_with fail
    refine (known_any w).mono ?_
    rintro e w1 ⟨rfl, hk1⟩
    have HK1 := hid hk1
    have HR1 := hid (h.rd.keep hk1 (fun _ _ h => h))
    clear hk1 h
    go_wp2_with fail
    refine (within_any w1 x (n + 1) hx0 hx1 (by omega) (by omega)).mono ?_
    rintro e w2 ⟨rfl, rfl⟩
    obtain ⟨k, hk, hkn⟩ : ∃ k : Nat, x % ((n : Int) + 1) = k ∧ k ≤ n := by
      have h1 := Int.emod_nonneg x (show (n : Int) + 1 ≠ 0 by omega)
      have h2 := Int.emod_lt_of_pos x (show 0 < (n : Int) + 1 by omega)
      exact ⟨(x % ((n : Int) + 1)).toNat, by omega, by omega⟩
    rw [hk]
    clear hk hx0 hx1 hx
    have hcl := clean_cut zs k (by rw [HL.out]; exact hkn)
    have HBT := hid (show Bytes (zs.take k) from fun z hz => HBY.out z (List.mem_of_mem_take hz))
    have HBD := hid (show Bytes (zs.drop k) from fun z hz => HBY.out z (List.mem_of_mem_drop hz))
    have HRT : Hid (Rd w1 A k ((zs.take k).map (Value.int .u8))) := hid (by
      have := HR1.out.take (k := k) hkn
      rwa [← List.map_take] at this)
    have HRD : Hid (Rd w1 (if c = k then A else A.map (·.add k)) (n - k) ((zs.drop k).map (Value.int .u8))) := hid (by
      have := HR1.out.drop (k := k) (cap := c) hkn hcap
      rwa [← List.map_drop] at this)
    go_wp2_with fail
    refine (clean_any w1 A k c (zs.take k) HRT.out HBT.out (by omega)).mono ?_
    rintro e w2 ⟨rfl, hk2⟩
    have HK2 := hid (HK1.out.trans hk2 (fun _ _ h => h))
    have HR2 := hid (HR1.out.keep hk2 (fun _ _ h => h))
    have HRD2 := hid (HRD.out.keep hk2 (fun _ _ h => h))
    clear hk2 HRT HRD HR1 HK1
    rcases (show k = 0 ∨ k = n ∧ 0 < k ∨ (0 < k ∧ k < n) by omega) with rfl | ⟨rfl, hk0⟩ | ⟨hk0, hkl⟩
    · have hbt : betweenB zs 0 = false := rfl
      rw [hbt, Bool.not_false, Bool.and_true] at hcl
      have HRD2 := hid (show Rd w2 A n ((zs.drop 0).map (Value.int .u8)) from by rw [List.drop_zero]; exact HR2.out)
      cases hT : cleanB (zs.take 0) with
      | false =>
        have hcl : cleanB zs = false := by rw [hcl, hT]; simp
        skip
        go_wp2_with fail
        refine (clean_any _ _ _ _ zs HR2.out HBY.out (by omega)).mono ?_
        rintro e w9 ⟨rfl, hk9⟩
        have HB := hid ((HK2.out.trans hk9 (fun _ _ h => h)).below (Nat.le_refl _) (fun _ h => h.elim) : Below w.heap.size w w9)
        rw [hcl]
        clear hk9
        go_wp2_with fail
        go_ret
        exact ⟨ret_bool (by first | (simp; done) | (simp; omega)), HB.out⟩
      | true =>
        by_cases hck : c = 0
        · try rw [if_pos hck] at HRD2
          go_wp2_with fail
          refine (clean_any w2 _ _ _ (zs.drop 0) HRD2.out HBD.out (by omega)).mono ?_
          rintro e w3 ⟨rfl, hk3⟩
          have HK3 := hid (HK2.out.trans hk3 (fun _ _ h => h))
          have HR3 := hid (HR2.out.keep hk3 (fun _ _ h => h))
          skip
          clear hk3 HRD2
          cases hD : cleanB (zs.drop 0) with
          | false =>
            have hcl : cleanB zs = false := by rw [hcl, hD]; simp
            go_wp2_with fail
            refine (clean_any _ _ _ _ zs HR3.out HBY.out (by omega)).mono ?_
            rintro e w9 ⟨rfl, hk9⟩
            have HB := hid ((HK3.out.trans hk9 (fun _ _ h => h)).below (Nat.le_refl _) (fun _ h => h.elim) : Below w.heap.size w w9)
            rw [hcl]
            clear hk9
            go_wp2_with fail
            go_ret
            exact ⟨ret_bool (by first | (simp; done) | (simp; omega)), HB.out⟩
          | true =>
            rw [hT, hD] at hcl
            go_wp2_with fail
            refine (clean_any _ _ _ _ zs HR3.out HBY.out (by omega)).mono ?_
            rintro e w9 ⟨rfl, hk9⟩
            have HB := hid ((HK3.out.trans hk9 (fun _ _ h => h)).below (Nat.le_refl _) (fun _ h => h.elim) : Below w.heap.size w w9)
            rw [hcl]
            clear hk9
            go_wp2_with fail
            go_ret
            exact ⟨ret_bool (by first | (simp; done) | (simp; omega)), HB.out⟩
        · try rw [if_neg hck] at HRD2
          go_wp2_with fail
          refine (clean_any w2 _ _ _ (zs.drop 0) HRD2.out HBD.out (by omega)).mono ?_
          rintro e w3 ⟨rfl, hk3⟩
          have HK3 := hid (HK2.out.trans hk3 (fun _ _ h => h))
          have HR3 := hid (HR2.out.keep hk3 (fun _ _ h => h))
          skip
          clear hk3 HRD2
          cases hD : cleanB (zs.drop 0) with
          | false =>
            have hcl : cleanB zs = false := by rw [hcl, hD]; simp
            go_wp2_with fail
            refine (clean_any _ _ _ _ zs HR3.out HBY.out (by omega)).mono ?_
            rintro e w9 ⟨rfl, hk9⟩
            have HB := hid ((HK3.out.trans hk9 (fun _ _ h => h)).below (Nat.le_refl _) (fun _ h => h.elim) : Below w.heap.size w w9)
            rw [hcl]
            clear hk9
            go_wp2_with fail
            go_ret
            exact ⟨ret_bool (by first | (simp; done) | (simp; omega)), HB.out⟩
          | true =>
            rw [hT, hD] at hcl
            go_wp2_with fail
            refine (clean_any _ _ _ _ zs HR3.out HBY.out (by omega)).mono ?_
            rintro e w9 ⟨rfl, hk9⟩
            have HB := hid ((HK3.out.trans hk9 (fun _ _ h => h)).below (Nat.le_refl _) (fun _ h => h.elim) : Below w.heap.size w w9)
            rw [hcl]
            clear hk9
            go_wp2_with fail
            go_ret
            exact ⟨ret_bool (by first | (simp; done) | (simp; omega)), HB.out⟩
    · have hbt : betweenB zs k = false := by unfold betweenB; rw [show decide (k < zs.length) = false from decide_eq_false (by rw [HL.out]; omega), Bool.and_false, Bool.false_and]
      rw [hbt, Bool.not_false, Bool.and_true] at hcl
      rw [Nat.sub_self] at HRD2
      cases hT : cleanB (zs.take k) with
      | false =>
        have hcl : cleanB zs = false := by rw [hcl, hT]; simp
        skip
        go_wp2_with fail
        refine (clean_any _ _ _ _ zs HR2.out HBY.out (by omega)).mono ?_
        rintro e w9 ⟨rfl, hk9⟩
        have HB := hid ((HK2.out.trans hk9 (fun _ _ h => h)).below (Nat.le_refl _) (fun _ h => h.elim) : Below w.heap.size w w9)
        rw [hcl]
        clear hk9
        go_wp2_with fail
        go_ret
        exact ⟨ret_bool (by first | (simp; done) | (simp; omega)), HB.out⟩
      | true =>
        by_cases hck : c = k
        · try rw [if_pos hck] at HRD2
          go_wp2_with fail
          refine (clean_any w2 _ _ _ (zs.drop k) HRD2.out HBD.out (by omega)).mono ?_
          rintro e w3 ⟨rfl, hk3⟩
          have HK3 := hid (HK2.out.trans hk3 (fun _ _ h => h))
          have HR3 := hid (HR2.out.keep hk3 (fun _ _ h => h))
          skip
          clear hk3 HRD2
          cases hD : cleanB (zs.drop k) with
          | false =>
            have hcl : cleanB zs = false := by rw [hcl, hD]; simp
            go_wp2_with fail
            refine (clean_any _ _ _ _ zs HR3.out HBY.out (by omega)).mono ?_
            rintro e w9 ⟨rfl, hk9⟩
            have HB := hid ((HK3.out.trans hk9 (fun _ _ h => h)).below (Nat.le_refl _) (fun _ h => h.elim) : Below w.heap.size w w9)
            rw [hcl]
            clear hk9
            go_wp2_with fail
            go_ret
            exact ⟨ret_bool (by first | (simp; done) | (simp; omega)), HB.out⟩
          | true =>
            rw [hT, hD] at hcl
            go_wp2_with fail
            refine (clean_any _ _ _ _ zs HR3.out HBY.out (by omega)).mono ?_
            rintro e w9 ⟨rfl, hk9⟩
            have HB := hid ((HK3.out.trans hk9 (fun _ _ h => h)).below (Nat.le_refl _) (fun _ h => h.elim) : Below w.heap.size w w9)
            rw [hcl]
            clear hk9
            go_wp2_with fail
            go_ret
            exact ⟨ret_bool (by first | (simp; done) | (simp; omega)), HB.out⟩
        · try rw [if_neg hck] at HRD2
          go_wp2_with fail
          refine (clean_any w2 _ _ _ (zs.drop k) HRD2.out HBD.out (by omega)).mono ?_
          rintro e w3 ⟨rfl, hk3⟩
          have HK3 := hid (HK2.out.trans hk3 (fun _ _ h => h))
          have HR3 := hid (HR2.out.keep hk3 (fun _ _ h => h))
          skip
          clear hk3 HRD2
          cases hD : cleanB (zs.drop k) with
          | false =>
            have hcl : cleanB zs = false := by rw [hcl, hD]; simp
            go_wp2_with fail
            refine (clean_any _ _ _ _ zs HR3.out HBY.out (by omega)).mono ?_
            rintro e w9 ⟨rfl, hk9⟩
            have HB := hid ((HK3.out.trans hk9 (fun _ _ h => h)).below (Nat.le_refl _) (fun _ h => h.elim) : Below w.heap.size w w9)
            rw [hcl]
            clear hk9
            go_wp2_with fail
            go_ret
            exact ⟨ret_bool (by first | (simp; done) | (simp; omega)), HB.out⟩
          | true =>
            rw [hT, hD] at hcl
            go_wp2_with fail
            refine (clean_any _ _ _ _ zs HR3.out HBY.out (by omega)).mono ?_
            rintro e w9 ⟨rfl, hk9⟩
            have HB := hid ((HK3.out.trans hk9 (fun _ _ h => h)).below (Nat.le_refl _) (fun _ h => h.elim) : Below w.heap.size w w9)
            rw [hcl]
            clear hk9
            go_wp2_with fail
            go_ret
            exact ⟨ret_bool (by first | (simp; done) | (simp; omega)), HB.out⟩
    · obtain ⟨j, rfl⟩ : ∃ j, k = j + 1 := ⟨k - 1, by omega⟩
      obtain ⟨b, o, rfl, z1⟩ := HR2.out.int_ix (show j < n by omega)
      obtain ⟨b', o', e', z2⟩ := HR2.out.int_ix hkl
      injection e' with e'
      injection e' with e1 e2
      subst e1 e2
      have hbt : betweenB zs (j + 1) = ((zs.getD j 0 == 255) && decide (143 < zs.getD (j + 1) 0)) := by
        unfold betweenB
        rw [show decide (0 < j + 1) = true from decide_eq_true (by omega), show decide (j + 1 < zs.length) = true from decide_eq_true (by rw [HL.out]; omega)]
        rfl
      rw [hbt] at hcl
      have Z1 := hid z1
      have Z2 := hid z2
      clear hbt z1 z2
      generalize zs.getD j 0 = y at *
      generalize zs.getD (j + 1) 0 = y2 at *
      have hj1 : j < n := by omega
      by_cases h255 : y = 255
      · subst h255
        by_cases h143 : 143 < y2
        · rw [decide_eq_true h143] at hcl
          cases hT : cleanB (zs.take (j + 1)) with
          | false =>
            have hcl : cleanB zs = false := by rw [hcl, hT]; simp
            have z1 := Z1.out; have z2 := Z2.out
            go_wp2_with fail
            refine (clean_any _ _ _ _ zs HR2.out HBY.out (by omega)).mono ?_
            rintro e w9 ⟨rfl, hk9⟩
            have HB := hid ((HK2.out.trans hk9 (fun _ _ h => h)).below (Nat.le_refl _) (fun _ h => h.elim) : Below w.heap.size w w9)
            rw [hcl]
            clear hk9
            go_wp2_with fail
            go_ret
            exact ⟨ret_bool (by first | (simp; done) | (simp; omega)), HB.out⟩
          | true =>
            have hck : ¬ c = (j + 1) := by omega
            rw [if_neg hck] at HRD2
            simp only [Option.map_some, add_lit'] at HRD2
            go_wp2_with fail
            refine (clean_any w2 _ _ _ (zs.drop (j + 1)) HRD2.out HBD.out (by omega)).mono ?_
            rintro e w3 ⟨rfl, hk3⟩
            have HK3 := hid (HK2.out.trans hk3 (fun _ _ h => h))
            have HR3 := hid (HR2.out.keep hk3 (fun _ _ h => h))
            have z1 := hk3.cell Z1.out (fun h => h); have z2 := hk3.cell Z2.out (fun h => h)
            clear hk3 HRD2
            cases hD : cleanB (zs.drop (j + 1)) with
            | false =>
              have hcl : cleanB zs = false := by rw [hcl, hD]; simp
              go_wp2_with fail
              refine (clean_any _ _ _ _ zs HR3.out HBY.out (by omega)).mono ?_
              rintro e w9 ⟨rfl, hk9⟩
              have HB := hid ((HK3.out.trans hk9 (fun _ _ h => h)).below (Nat.le_refl _) (fun _ h => h.elim) : Below w.heap.size w w9)
              rw [hcl]
              clear hk9
              go_wp2_with fail
              go_ret
              exact ⟨ret_bool (by first | (simp; done) | (simp; omega)), HB.out⟩
            | true =>
              rw [hT, hD] at hcl
              go_wp2_with fail
              refine (clean_any _ _ _ _ zs HR3.out HBY.out (by omega)).mono ?_
              rintro e w9 ⟨rfl, hk9⟩
              have HB := hid ((HK3.out.trans hk9 (fun _ _ h => h)).below (Nat.le_refl _) (fun _ h => h.elim) : Below w.heap.size w w9)
              rw [hcl]
              clear hk9
              go_wp2_with fail
              go_ret
              exact ⟨ret_bool (by first | (simp; done) | (simp; omega)), HB.out⟩
        · rw [decide_eq_false h143] at hcl
          cases hT : cleanB (zs.take (j + 1)) with
          | false =>
            have hcl : cleanB zs = false := by rw [hcl, hT]; simp
            have z1 := Z1.out; have z2 := Z2.out
            go_wp2_with fail
            refine (clean_any _ _ _ _ zs HR2.out HBY.out (by omega)).mono ?_
            rintro e w9 ⟨rfl, hk9⟩
            have HB := hid ((HK2.out.trans hk9 (fun _ _ h => h)).below (Nat.le_refl _) (fun _ h => h.elim) : Below w.heap.size w w9)
            rw [hcl]
            clear hk9
            go_wp2_with fail
            go_ret
            exact ⟨ret_bool (by first | (simp; done) | (simp; omega)), HB.out⟩
          | true =>
            have hck : ¬ c = (j + 1) := by omega
            rw [if_neg hck] at HRD2
            simp only [Option.map_some, add_lit'] at HRD2
            go_wp2_with fail
            refine (clean_any w2 _ _ _ (zs.drop (j + 1)) HRD2.out HBD.out (by omega)).mono ?_
            rintro e w3 ⟨rfl, hk3⟩
            have HK3 := hid (HK2.out.trans hk3 (fun _ _ h => h))
            have HR3 := hid (HR2.out.keep hk3 (fun _ _ h => h))
            have z1 := hk3.cell Z1.out (fun h => h); have z2 := hk3.cell Z2.out (fun h => h)
            clear hk3 HRD2
            cases hD : cleanB (zs.drop (j + 1)) with
            | false =>
              have hcl : cleanB zs = false := by rw [hcl, hD]; simp
              go_wp2_with fail
              refine (clean_any _ _ _ _ zs HR3.out HBY.out (by omega)).mono ?_
              rintro e w9 ⟨rfl, hk9⟩
              have HB := hid ((HK3.out.trans hk9 (fun _ _ h => h)).below (Nat.le_refl _) (fun _ h => h.elim) : Below w.heap.size w w9)
              rw [hcl]
              clear hk9
              go_wp2_with fail
              go_ret
              exact ⟨ret_bool (by first | (simp; done) | (simp; omega)), HB.out⟩
            | true =>
              rw [hT, hD] at hcl
              go_wp2_with fail
              refine (clean_any _ _ _ _ zs HR3.out HBY.out (by omega)).mono ?_
              rintro e w9 ⟨rfl, hk9⟩
              have HB := hid ((HK3.out.trans hk9 (fun _ _ h => h)).below (Nat.le_refl _) (fun _ h => h.elim) : Below w.heap.size w w9)
              rw [hcl]
              clear hk9
              go_wp2_with fail
              go_ret
              exact ⟨ret_bool (by first | (simp; done) | (simp; omega)), HB.out⟩
      · have hy' : (y == 255) = false := by simpa using h255
        rw [hy'] at hcl
        cases hT : cleanB (zs.take (j + 1)) with
        | false =>
          have hcl : cleanB zs = false := by rw [hcl, hT]; simp
          have z1 := Z1.out; have z2 := Z2.out
          go_wp2_with fail
          refine (clean_any _ _ _ _ zs HR2.out HBY.out (by omega)).mono ?_
          rintro e w9 ⟨rfl, hk9⟩
          have HB := hid ((HK2.out.trans hk9 (fun _ _ h => h)).below (Nat.le_refl _) (fun _ h => h.elim) : Below w.heap.size w w9)
          rw [hcl]
          clear hk9
          go_wp2_with fail
          go_ret
          exact ⟨ret_bool (by first | (simp; done) | (simp; omega)), HB.out⟩
        | true =>
          have hck : ¬ c = (j + 1) := by omega
          rw [if_neg hck] at HRD2
          simp only [Option.map_some, add_lit'] at HRD2
          go_wp2_with fail
          refine (clean_any w2 _ _ _ (zs.drop (j + 1)) HRD2.out HBD.out (by omega)).mono ?_
          rintro e w3 ⟨rfl, hk3⟩
          have HK3 := hid (HK2.out.trans hk3 (fun _ _ h => h))
          have HR3 := hid (HR2.out.keep hk3 (fun _ _ h => h))
          have z1 := hk3.cell Z1.out (fun h => h); have z2 := hk3.cell Z2.out (fun h => h)
          clear hk3 HRD2
          cases hD : cleanB (zs.drop (j + 1)) with
          | false =>
            have hcl : cleanB zs = false := by rw [hcl, hD]; simp
            go_wp2_with fail
            refine (clean_any _ _ _ _ zs HR3.out HBY.out (by omega)).mono ?_
            rintro e w9 ⟨rfl, hk9⟩
            have HB := hid ((HK3.out.trans hk9 (fun _ _ h => h)).below (Nat.le_refl _) (fun _ h => h.elim) : Below w.heap.size w w9)
            rw [hcl]
            clear hk9
            go_wp2_with fail
            go_ret
            exact ⟨ret_bool (by first | (simp; done) | (simp; omega)), HB.out⟩
          | true =>
            rw [hT, hD] at hcl
            go_wp2_with fail
            refine (clean_any _ _ _ _ zs HR3.out HBY.out (by omega)).mono ?_
            rintro e w9 ⟨rfl, hk9⟩
            have HB := hid ((HK3.out.trans hk9 (fun _ _ h => h)).below (Nat.le_refl _) (fun _ h => h.elim) : Below w.heap.size w w9)
            rw [hcl]
            clear hk9
            go_wp2_with fail
            go_ret
            exact ⟨ret_bool (by first | (simp; done) | (simp; omega)), HB.out⟩
  · go_enter Try.func3, Try.ntmps3
    go_wp2_with fail
    refine (known_any w).mono ?_
    rintro e w1 ⟨rfl, hk1⟩
    have HK1 := hid hk1
    clear hk1
    go_wp2_with fail
    go_ret
    exact ⟨rfl, HK1.out.below (Nat.le_refl _) (fun _ h => h.elim)⟩
end Go.Proofs.Ythfogcgdijmaoaa
