/-
  A row that is cut is found so at its end; one with a bit too many is bad: in plain Lean. Conditions: none.
-/
import Derived.Test.YtnhciiljdmgcjaaReadBack
import Derived.Test.YtnhciiljdmgcjaaLawStuffed
namespace Go.Proofs.Ytnhciiljdmgcjaa
open Go.RowKit

def s0 : RS := (0, 0, false)
theorem rdIt_inv (l : List Int) : ∀ j, (0 ≤ (rdIt l j s0).2.1 ∧ (rdIt l j s0).2.1 ≤ 8) ∧ (rdIt l j s0).1 ≤ j
  | 0 => ⟨⟨Int.le_refl _, by show (0 : Int) ≤ 8; decide⟩, Nat.le_refl _⟩
  | j + 1 => by
    have ih := rdIt_inv l j
    rw [rdIt_succ]
    have h1 := rdL_le l (rdIt l j s0).1 (rdIt l j s0).2.1 ih.1.1 ih.1.2
    have h2 := rdP_le (rdIt l j s0).1 (rdIt l j s0).2.1
    exact ⟨h1, by show rdP _ _ ≤ _; omega⟩
theorem rdNum_8 (l : List Int) (i : Nat) : (rdNum l 8 (rdIt l (8 * i) s0)).2 = rdIt l (8 * (i + 1)) s0 := by
  unfold rdNum
  rw [if_pos (by omega)]
  show (rdRun l 8 0 _).2 = _
  rw [rdRun_st, ← rdIt_add]
  rfl
theorem atM_take (b : List Int) (m : Nat) (k : Int) (hk : k < m) : atM (b.take m) k = atM b k := by
  unfold atM
  split
  · rfl
  · rw [List.getD_eq_getElem?_getD, List.getD_eq_getElem?_getD, List.getElem?_take, if_pos (by omega)]
section
variable (bs : List Int)
theorem front_outB (j : Nat) (hj : j < bs.length) :
    rdP (frontM bs j).1.length (frontM bs j).2 = (frontM bs (j + 1)).1.length ∧ rdL (outB (frontM bs bs.length).1) (frontM bs j).1.length (frontM bs j).2 = (frontM bs (j + 1)).2 := by
  obtain ⟨t, ht⟩ := outB_app (frontM bs bs.length).1
  have := rd_front bs (outB (frontM bs bs.length).1) (by rw [ht]; exact compat_app _ t _) j hj
  exact ⟨this.1, this.2.1⟩
theorem rdP_ge (p : Nat) (r : Int) : p ≤ rdP p r := by unfold rdP; split <;> omega

theorem cut_st (m : Nat) : ∀ j, j ≤ bs.length → m + 1 ≤ (rdIt ((outB (frontM bs bs.length).1).take m) j s0).1 ∨
    ((rdIt ((outB (frontM bs bs.length).1).take m) j s0).1 = (frontM bs j).1.length ∧ (rdIt ((outB (frontM bs bs.length).1).take m) j s0).2.1 = (frontM bs j).2 ∧ (frontM bs j).1.length ≤ m)
  | 0, _ => .inr ⟨rfl, rfl, Nat.zero_le _⟩
  | j + 1, h => by
    rw [rdIt_succ]
    rcases cut_st m j (by omega) with ih | ⟨h1, h2, h3⟩
    · left
      have := rdP_ge (rdIt ((outB (frontM bs bs.length).1).take m) j s0).1 (rdIt ((outB (frontM bs bs.length).1).take m) j s0).2.1
      show _ ≤ rdP _ _
      omega
    · obtain ⟨f1, f2⟩ := front_outB bs j (by omega)
      have e1 : (rdS ((outB (frontM bs bs.length).1).take m) (rdIt ((outB (frontM bs bs.length).1).take m) j s0)).1 = (frontM bs (j + 1)).1.length := by
        show rdP _ _ = _
        rw [h1, h2]; exact f1
      have e2 : (rdS ((outB (frontM bs bs.length).1).take m) (rdIt ((outB (frontM bs bs.length).1).take m) j s0)).2.1 = (frontM bs (j + 1)).2 := by
        show rdL _ _ _ = _
        rw [h1, h2, ← f2]
        unfold rdL
        rw [atM_take _ _ _ (by omega)]
      by_cases hm : (frontM bs (j + 1)).1.length ≤ m
      · exact .inr ⟨e1, e2, hm⟩
      · left; rw [e1]; omega
theorem last_at (l : List Int) (t : List Int) (h : 0 < l.length) : atM (l ++ t) ((l.length : Int) - 1) = lastM l := by
  rw [atM_pred _ _ h, getD_app _ _ _ (by omega)]; rfl
theorem cut_end (m : Nat) (hm : m < (outB (frontM bs bs.length).1).length) :
    endM ((outB (frontM bs bs.length).1).take m) (rdIt ((outB (frontM bs bs.length).1).take m) bs.length s0).1 (rdIt ((outB (frontM bs bs.length).1).take m) bs.length s0).2.2 = (0, 8) := by
  have hlen : ((outB (frontM bs bs.length).1).take m).length = m := by rw [List.length_take]; omega
  unfold endM
  rw [if_pos]
  rw [hlen]
  rcases cut_st bs m bs.length (Nat.le_refl _) with h | ⟨h1, h2, h3⟩
  · split <;> omega
  · rw [h1]
    by_cases hz : lastM (frontM bs bs.length).1 = 255
    · have ho : outB (frontM bs bs.length).1 = (frontM bs bs.length).1 ++ [0] := if_pos hz
      have hl : 0 < (frontM bs bs.length).1.length := by
        rcases Nat.eq_zero_or_pos (frontM bs bs.length).1.length with h0 | h0
        · rw [List.eq_nil_of_length_eq_zero h0] at hz; exact absurd hz (by decide)
        · exact h0
      rw [if_pos]
      · rw [ho] at hm; simp at hm; omega
      · rw [atM_take _ _ _ (by omega), ho, last_at _ _ hl]
        exact hz
    · have ho : outB (frontM bs bs.length).1 = (frontM bs bs.length).1 := if_neg hz
      rw [ho] at hm
      omega

theorem atM_set (b : List Int) (i : Nat) (v : Int) (k : Int) (hk : k ≠ i) : atM (b.set i v) k = atM b k := by
  unfold atM
  split
  · rfl
  · rw [List.getD_eq_getElem?_getD, List.getD_eq_getElem?_getD, List.getElem?_set_ne (by omega)]
theorem atM_set_self (b : List Int) (i : Nat) (v : Int) (hi : i < b.length) : atM (b.set i v) i = v := by
  rw [atM_nat, List.getD_eq_getElem?_getD, List.getElem?_set_self hi]; rfl
/-- A byte behind a 255 with its highest bit set. -/
structure Turned (b x : List Int) (i : Nat) : Prop where
  i1 : 1 ≤ i
  il : i < b.length
  full : b.getD (i - 1) 0 = 255
  no : b.getD i 0 ≠ 127
  eq : x = b.set i (b.getD i 0 + 128)
theorem getD_nonneg {b : List Int} (h : Bytes b) (i : Nat) : 0 ≤ b.getD i 0 ∧ b.getD i 0 ≤ 255 := by have := atM_byte h i; rwa [atM_nat] at this
variable {x : List Int} {i : Nat}
theorem turn_room (ht : Turned (outB (frontM bs bs.length).1) x i) (k : Int) : roomM (atM x k) = roomM (atM (outB (frontM bs bs.length).1) k) := by
  by_cases hk : k = i
  · have hs := (frontM_inv bs bs.length).out.1 (i - 1) (by have := ht.i1; have := ht.il; omega) ht.full
    have e : i - 1 + 1 = i := by have := ht.i1; omega
    rw [e] at hs
    have hn := ht.no
    rw [hk, ht.eq, atM_set_self _ _ _ ht.il, atM_nat]
    unfold roomM
    rw [if_neg (by omega), if_neg (by omega)]
  · rw [ht.eq, atM_set _ _ _ _ hk]
theorem turn_st (ht : Turned (outB (frontM bs bs.length).1) x i) : ∀ j, j ≤ bs.length → rdIt x j s0 = ((frontM bs j).1.length, (frontM bs j).2, decide (i < (frontM bs j).1.length))
  | 0, _ => by
    have : decide (i < (frontM bs 0).1.length) = false := by show decide (i < 0) = false; simp
    rw [this]; rfl
  | j + 1, h => by
    rw [rdIt_succ, turn_st ht j (by omega)]
    obtain ⟨f1, f2⟩ := front_outB bs j (by omega)
    unfold rdS
    simp only
    have e2 : rdL x (frontM bs j).1.length (frontM bs j).2 = (frontM bs (j + 1)).2 := by
      rw [← f2]
      unfold rdL
      rw [turn_room bs ht]
    rw [f1, e2]
    have hb : badM x (frontM bs j).1.length (frontM bs j).2 (decide (i < (frontM bs j).1.length)) = decide (i < (frontM bs (j + 1)).1.length) := by
      rw [← f1]
      unfold badM rdP
      by_cases hr : (frontM bs j).2 = 0
      · rw [if_pos hr]
        generalize hp : (frontM bs j).1.length = p at *
        by_cases h1 : i < p
        · simp [h1]; omega
        · by_cases h2 : i = p
          · subst h2
            have a1 : atM x ((i : Int) - 1) = 255 := by
              rw [ht.eq, atM_set _ _ _ _ (by omega), atM_pred _ _ ht.i1]; exact ht.full
            have a2 : 128 ≤ atM x i := by
              rw [ht.eq, atM_set_self _ _ _ ht.il]
              have := getD_nonneg (outB_bytes (frontM_inv bs bs.length).bytes) i
              omega
            simp [hr, a1, a2]
          · have a3 : ¬ (atM x ((p : Int) - 1) = 255 ∧ 128 ≤ atM x p) := by
              rintro ⟨a1, a2⟩
              rw [ht.eq, atM_set _ _ _ _ (by omega)] at a1
              rw [ht.eq, atM_set _ _ _ _ (by omega), atM_nat] at a2
              rcases Nat.eq_zero_or_pos p with h0 | h0
              · rw [h0] at a1; exact absurd a1 (by show ¬ (0 : Int) = 255; decide)
              · rw [atM_pred _ _ h0] at a1
                have hs := (frontM_inv bs bs.length).out.1 (p - 1) (by have := ht.il; omega) a1
                have e : p - 1 + 1 = p := by omega
                rw [e] at hs
                omega
            have h3 : ¬ i < p + 1 := by omega
            have a4 : ¬ ((frontM bs j).2 = 0 ∧ atM x ((p : Int) - 1) = 255 ∧ 128 ≤ atM x p) := fun hh => a3 hh.2
            rw [decide_eq_false h1, decide_eq_false h3, decide_eq_false a4]; rfl
      · rw [if_neg hr]
        simp [hr]
    rw [hb]
theorem turn_end (ht : Turned (outB (frontM bs bs.length).1) x i) : endM x (rdIt x bs.length s0).1 (rdIt x bs.length s0).2.2 = (0, 10) := by
  rw [turn_st bs ht bs.length (Nat.le_refl _)]
  simp only
  have hxl : x.length = (outB (frontM bs bs.length).1).length := by rw [ht.eq, List.length_set]
  have hlast : ∀ l : List Int, ¬ l.length = i + 1 → atM (l.set i ((outB (frontM bs bs.length).1).getD i 0 + 128)) ((l.length : Int) - 1) = atM l ((l.length : Int) - 1) := fun l hl => atM_set _ _ _ _ (by omega)
  have hil := ht.il
  have hr := turn_room bs ht (((frontM bs bs.length).1.length : Int) - 1)
  have hiff : atM x (((frontM bs bs.length).1.length : Int) - 1) = 255 ↔ lastM (frontM bs bs.length).1 = 255 := by
    have h1 : ∀ z y : Int, roomM z = roomM y → (z = 255 ↔ y = 255) := by
      intro z y h
      unfold roomM at h
      constructor
      · intro hz; rw [if_pos hz] at h; by_cases hy : y = 255
        · exact hy
        · rw [if_neg hy] at h; omega
      · intro hy; rw [if_pos hy] at h; by_cases hz : z = 255
        · exact hz
        · rw [if_neg hz] at h; omega
    rw [h1 _ _ hr]
    obtain ⟨t, ho⟩ := outB_app (frontM bs bs.length).1
    rw [ho]
    rcases Nat.eq_zero_or_pos (frontM bs bs.length).1.length with h0 | h0
    · have hnil : (frontM bs bs.length).1 = [] := List.eq_nil_of_length_eq_zero h0
      have hz : ((frontM bs bs.length).1.length : Int) - 1 = -1 := by
        have : (frontM bs bs.length).1.length = 0 := h0
        omega
      rw [hz, atM_neg, hnil]
      rfl
    · rw [last_at _ _ h0]
  unfold endM
  by_cases hz : lastM (frontM bs bs.length).1 = 255
  · have ho : outB (frontM bs bs.length).1 = (frontM bs bs.length).1 ++ [0] := if_pos hz
    have hlen : (outB (frontM bs bs.length).1).length = (frontM bs bs.length).1.length + 1 := by rw [ho]; simp
    rw [if_pos (hiff.2 hz), if_neg (by omega), if_pos]
    by_cases hi : i < (frontM bs bs.length).1.length
    · left; simpa using hi
    · right
      refine ⟨hiff.2 hz, ?_⟩
      have hip : ((frontM bs bs.length).1.length : Int) = i := by omega
      rw [hip, ht.eq, atM_set_self _ _ _ ht.il]
      have := getD_nonneg (outB_bytes (frontM_inv bs bs.length).bytes) i
      omega
  · have ho : outB (frontM bs bs.length).1 = (frontM bs bs.length).1 := if_neg hz
    have hlen : (outB (frontM bs bs.length).1).length = (frontM bs bs.length).1.length := by rw [ho]
    rw [if_neg (fun h => hz (hiff.1 h)), if_neg (by omega), if_pos]
    left
    simpa using (show i < (frontM bs bs.length).1.length by omega)
theorem plain_end : endM (outB (frontM bs bs.length).1) (rdIt (outB (frontM bs bs.length).1) bs.length s0).1 (rdIt (outB (frontM bs bs.length).1) bs.length s0).2.2 = (((outB (frontM bs bs.length).1).length : Int), (0 : Int)) := by
  obtain ⟨t, ho⟩ := outB_app (frontM bs bs.length).1
  have h1 : rdIt (outB (frontM bs bs.length).1) bs.length s0 = stR bs bs.length := by rw [ho]; exact rd_st bs t bs.length (Nat.le_refl _)
  rw [h1]
  have := end_ok bs []
  rw [List.append_nil] at this
  exact this
end
theorem or_128 (z : Int) (h0 : 0 ≤ z) (h1 : z ≤ 127) : bits .or .u8 z 128 = z + 128 := by
  have : ∀ k : Nat, k < 128 → bits .or .u8 (k : Int) 128 = (k : Int) + 128 := by decide +kernel
  have := this z.toNat (by omega)
  rw [Int.toNat_of_nonneg h0] at this
  exact this
end Go.Proofs.Ytnhciiljdmgcjaa
