/-
  What was written is read back, in plain Lean: bytes L that agree with a state as far as it goes. Conditions: none.
-/
import Derived.Test.YtbkffpedigeflaaBitModel
namespace Go.Proofs.Ytbkffpedigeflaa
open Go.RowKit

/-- L agrees with the bytes l, but for the last one's r bits that are still free. -/
structure Compat (L : Int → Int) (l : List Int) (r : Int) : Prop where
  front : ∀ i : Nat, i + 1 < l.length → L i = l.getD i 0
  last : 0 < l.length → L ((l.length : Int) - 1) / 2 ^ r.toNat = lastM l / 2 ^ r.toNat

theorem Compat.back {L : Int → Int} {l : List Int} {r x : Int} (h : BInv l r) (h0 : L (-1) = 0) (hc : Compat L (stepL l r x) (stepR l r)) :
    (if r = 0 then (if L ((l.length : Int) - 1) = 255 then 7 else 8) else r) - 1 = stepR l r ∧ L (((stepL l r x).length : Int) - 1) / 2 ^ (stepR l r).toNat % 2 = x % 2 ∧ Compat L l r := by
  by_cases hr : r = 0
  · subst hr
    have ht := top_le l
    obtain ⟨t, ht'⟩ : ∃ t : Nat, topM l = t + 1 := ⟨(topM l).toNat - 1, by omega⟩
    have e1 : stepL l 0 x = l ++ [x % 2 * 2 ^ t] := by
      unfold stepL
      rw [if_pos rfl]
      have : (topM l).toNat - 1 = t := by omega
      rw [this]
    have e2 : stepR l 0 = t := by
      unfold stepR
      rw [if_pos rfl]; omega
    rw [e1, e2] at hc
    rw [e1, e2]
    have hfr : ∀ i : Nat, i < l.length → L i = l.getD i 0 := fun i hi => by
      have := hc.front i (by simp; omega)
      rw [getD_snoc, if_pos hi] at this
      exact this
    have hla : L ((l.length : Int) - 1) = lastM l := by
      rcases Nat.eq_zero_or_pos l.length with h1 | h1
      · rw [h1]
        have : l = [] := List.eq_nil_of_length_eq_zero h1
        subst this
        exact h0
      · have := hfr (l.length - 1) (by omega)
        unfold lastM
        rw [← this]
        congr 1
        omega
    have hp : (0 : Int) < 2 ^ t := Int.pow_pos (by omega)
    refine ⟨?_, ?_, ⟨fun i hi => hfr i (by omega), fun _ => by rw [hla]⟩⟩
    · rw [if_pos rfl, hla]
      show topM l - 1 = _
      omega
    · have := hc.last (by simp)
      rw [lastM_snoc, Int.toNat_natCast, Int.mul_ediv_cancel _ (by omega)] at this
      rw [Int.toNat_natCast, this]
      omega
  · have hr0 := h.r0
    have hl := h.some_ (by omega)
    have hlow := h.low
    obtain ⟨t, rfl⟩ : ∃ t : Nat, r = t + 1 := ⟨r.toNat - 1, by omega⟩
    have ea : ((t : Int) + 1).toNat - 1 = t := by omega
    have eb : ((t : Int) + 1).toNat = t + 1 := by omega
    have e1 : stepL l ((t : Int) + 1) x = l.dropLast ++ [lastM l + x % 2 * 2 ^ t] := by
      unfold stepL
      rw [if_neg hr, set_last l hl, ea]
    have e2 : stepR l ((t : Int) + 1) = t := by
      unfold stepR
      rw [if_neg hr]; omega
    rw [e1, e2] at hc
    rw [e1, e2]
    rw [eb] at hlow
    have hlen : (l.dropLast ++ [lastM l + x % 2 * 2 ^ t]).length = l.length := by simp; omega
    have hp : (0 : Int) < 2 ^ t := Int.pow_pos (by omega)
    have hz : lastM l / 2 ^ t = 2 * (lastM l / 2 ^ (t + 1)) := by
      have e3 : (2 : Int) ^ (t + 1) = 2 ^ t * 2 := Int.pow_succ ..
      obtain ⟨k, hk⟩ := Int.dvd_of_emod_eq_zero hlow
      rw [hk, Int.mul_ediv_cancel_left _ (by rw [e3]; omega), e3, Int.mul_assoc, Int.mul_ediv_cancel_left _ (by omega)]
    have hla : L ((l.length : Int) - 1) / 2 ^ t = lastM l / 2 ^ t + x % 2 := by
      have := hc.last (by simp)
      rw [lastM_snoc, Int.toNat_natCast, hlen, Int.add_mul_ediv_right _ _ (by omega)] at this
      exact this
    refine ⟨by rw [if_neg hr]; omega, ?_, ⟨fun i hi => ?_, fun _ => ?_⟩⟩
    · rw [hlen, Int.toNat_natCast, hla, hz]
      omega
    · have := hc.front i (by rw [hlen]; exact hi)
      rw [getD_snoc, if_pos (by simp; omega)] at this
      rw [this]
      rw [List.getD_eq_getElem?_getD, List.getD_eq_getElem?_getD, List.getElem?_dropLast, if_pos (by omega)]
    · rw [eb]
      have e3 : (2 : Int) ^ (t + 1) = 2 ^ t * 2 := Int.pow_succ ..
      rw [e3, ← Int.ediv_ediv_of_nonneg (by omega), hla, ← Int.ediv_ediv_of_nonneg (by omega), hz]
      omega

theorem Compat.run {L : Int → Int} (h0 : L (-1) = 0) (bs : List Int) : ∀ s : List Int × Int, BInv s.1 s.2 → Compat L (runM s bs).1 (runM s bs).2 → Compat L s.1 s.2 := by
  induction bs with
  | nil => intro s _ h; exact h
  | cons b bs ih =>
    intro s hi h
    have h1 := ih (stepM s b) (hi.step b) h
    exact (Compat.back hi h0 h1).2.2
/-- The state behind the first j bits. -/
def frontM (bs : List Int) (j : Nat) : List Int × Int := runM ([], 0) (bs.take j)
theorem frontM_inv (bs : List Int) (j : Nat) : BInv (frontM bs j).1 (frontM bs j).2 := runM_inv _ ([], 0) BInv.nil
theorem frontM_succ (bs : List Int) (j : Nat) (h : j < bs.length) : frontM bs (j + 1) = stepM (frontM bs j) (bs.getD j 0) := by
  unfold frontM
  have : bs.take (j + 1) = bs.take j ++ [bs.getD j 0] := by
    rw [List.take_add_one, List.getElem?_eq_getElem h]; simp [h]
  rw [this, runM_append]
  rfl
theorem frontM_length (bs : List Int) (j : Nat) : (frontM bs j).1.length ≤ j := by
  have := runM_length (bs.take j) ([], 0)
  simp at this
  unfold frontM
  omega
theorem Compat.front_ {L : Int → Int} (h0 : L (-1) = 0) (bs : List Int) (j k : Nat) (hjk : j ≤ k) (h : Compat L (frontM bs k).1 (frontM bs k).2) : Compat L (frontM bs j).1 (frontM bs j).2 := by
  have e : frontM bs k = runM (frontM bs j) ((bs.take k).drop j) := by
    unfold frontM
    rw [← runM_append]
    congr 1
    have := List.take_append_drop j (bs.take k)
    rw [List.take_take, Nat.min_eq_left hjk] at this
    exact this.symm
  rw [e] at h
  exact Compat.run h0 _ _ (frontM_inv bs j) h
/-- Reading goes on as writing went. -/
theorem Compat.read {L : Int → Int} (h0 : L (-1) = 0) (bs : List Int) (j : Nat) (hj : j < bs.length) (h : Compat L (frontM bs (j + 1)).1 (frontM bs (j + 1)).2) :
    (if (frontM bs j).2 = 0 then (if L (((frontM bs j).1.length : Int) - 1) = 255 then 7 else 8) else (frontM bs j).2) - 1 = (frontM bs (j + 1)).2 ∧
    L (((frontM bs (j + 1)).1.length : Int) - 1) / 2 ^ (frontM bs (j + 1)).2.toNat % 2 = bs.getD j 0 % 2 ∧
    (frontM bs (j + 1)).1.length = (if (frontM bs j).2 = 0 then (frontM bs j).1.length + 1 else (frontM bs j).1.length) := by
  rw [frontM_succ bs j hj] at h ⊢
  have := Compat.back (frontM_inv bs j) h0 h
  refine ⟨this.1, this.2.1, ?_⟩
  show (stepL _ _ _).length = _
  unfold stepL
  split <;> simp
end Go.Proofs.Ytbkffpedigeflaa
