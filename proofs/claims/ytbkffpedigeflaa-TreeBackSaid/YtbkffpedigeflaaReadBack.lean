/-
  What was written is read back, what was cut or turned is found so: in plain Lean. Conditions: none.
-/
import Derived.Test.YtbkffpedigeflaaBitsR2
import Derived.Test.YtbkffpedigeflaaCompat
namespace Go.Proofs.Ytbkffpedigeflaa
open Go.RowKit

/-- The reader's state behind j bits of what was written. -/
def stR (bs : List Int) (j : Nat) : RS := ((frontM bs j).1.length, (frontM bs j).2, false)
def rdIt (l : List Int) : Nat → RS → RS
  | 0, s => s
  | k + 1, s => rdIt l k (rdS l s)
theorem rdRun_st (l : List Int) : ∀ (k : Nat) (a : Int) (s : RS), (rdRun l k a s).2 = rdIt l k s
  | 0, _, _ => rfl
  | k + 1, a, s => rdRun_st l k _ (rdS l s)
theorem rdIt_add (l : List Int) : ∀ (j k : Nat) (s : RS), rdIt l (j + k) s = rdIt l k (rdIt l j s)
  | 0, k, s => by rw [Nat.zero_add]; rfl
  | j + 1, k, s => by rw [Nat.succ_add]; exact rdIt_add l j k (rdS l s)
theorem rdIt_succ (l : List Int) (j : Nat) (s : RS) : rdIt l (j + 1) s = rdS l (rdIt l j s) := rdIt_add l j 1 s
theorem stepL_ge (l : List Int) (r x : Int) : l.length ≤ (stepL l r x).length := by unfold stepL; split <;> simp
theorem runM_ge (bs : List Int) : ∀ s, s.1.length ≤ (runM s bs).1.length := by
  induction bs with
  | nil => intro s; simp [runM]
  | cons b bs ih =>
    intro s
    have h1 := ih (stepM s b)
    have h2 := stepL_ge s.1 s.2 b
    show _ ≤ (runM (stepM s b) bs).1.length
    simp only [stepM] at *
    omega
theorem frontM_mono (bs : List Int) (j k : Nat) (hjk : j ≤ k) : (frontM bs j).1.length ≤ (frontM bs k).1.length := by
  have e : frontM bs k = runM (frontM bs j) ((bs.take k).drop j) := by
    unfold frontM
    rw [← runM_append]
    congr 1
    have := List.take_append_drop j (bs.take k)
    rw [List.take_take, Nat.min_eq_left hjk] at this
    exact this.symm
  rw [e]
  exact runM_ge _ _
theorem frontM_all (bs : List Int) : frontM bs bs.length = runM ([], 0) bs := by unfold frontM; rw [List.take_length]
theorem atM_neg (l : List Int) : atM l (-1) = 0 := if_pos (by omega)
theorem atM_nat (l : List Int) (i : Nat) : atM l i = l.getD i 0 := by unfold atM; rw [if_neg (by omega), Int.toNat_natCast]
theorem atM_pred (l : List Int) (i : Nat) (h : 0 < i) : atM l ((i : Int) - 1) = l.getD (i - 1) 0 := by
  have e : (i : Int) - 1 = ((i - 1 : Nat) : Int) := by omega
  rw [e, atM_nat]
theorem getD_app (l t : List Int) (i : Nat) (h : i < l.length) : (l ++ t).getD i 0 = l.getD i 0 := by
  rw [List.getD_eq_getElem?_getD, List.getD_eq_getElem?_getD, List.getElem?_append_left h]
theorem compat_app (l t : List Int) (r : Int) : Compat (atM (l ++ t)) l r := by
  refine ⟨fun i hi => by rw [atM_nat, getD_app _ _ _ (by omega)], fun h0 => ?_⟩
  rw [atM_pred _ _ h0, getD_app _ _ _ (by omega)]
  rfl
theorem outB_app (l : List Int) : ∃ t, outB l = l ++ t := by
  unfold outB
  split
  · exact ⟨[0], rfl⟩
  · exact ⟨[], by simp⟩

/-- What the reader does at state j, whatever is said of badness. -/
theorem rd_front (bs b : List Int) (hc : Compat (atM b) (frontM bs bs.length).1 (frontM bs bs.length).2) (j : Nat) (hj : j < bs.length) :
    rdP (frontM bs j).1.length (frontM bs j).2 = (frontM bs (j + 1)).1.length ∧ rdL b (frontM bs j).1.length (frontM bs j).2 = (frontM bs (j + 1)).2 ∧ rdV b (stR bs j) = bs.getD j 0 % 2 := by
  obtain ⟨h1, h2, h3⟩ := Compat.read (atM_neg b) bs j hj (Compat.front_ (atM_neg b) bs (j + 1) bs.length (by omega) hc)
  have e1 : rdL b (frontM bs j).1.length (frontM bs j).2 = (frontM bs (j + 1)).2 := h1
  have e2 : rdP (frontM bs j).1.length (frontM bs j).2 = (frontM bs (j + 1)).1.length := by rw [h3]; rfl
  refine ⟨e2, e1, ?_⟩
  unfold rdV rdB stR
  simp only
  rw [e1, e2]
  exact h2
theorem byte_le (bs t : List Int) (p : Nat) (hp : p < (frontM bs bs.length).1.length) (h : atM ((frontM bs bs.length).1 ++ t) ((p : Int) - 1) = 255) : atM ((frontM bs bs.length).1 ++ t) p ≤ 127 := by
  rcases Nat.eq_zero_or_pos p with h0 | h0
  · subst h0
    exact absurd h (by show ¬ (0 : Int) = 255; decide)
  · rw [atM_pred _ _ h0, getD_app _ _ _ (by omega)] at h
    rw [atM_nat, getD_app _ _ _ hp]
    have := (frontM_inv bs bs.length).stuffed (p - 1) (by omega) h
    have e : p - 1 + 1 = p := by omega
    rwa [e] at this
/-- Reading goes on as writing went. -/
theorem rd_step (bs t : List Int) (j : Nat) (hj : j < bs.length) :
    rdV ((frontM bs bs.length).1 ++ t) (stR bs j) = bs.getD j 0 % 2 ∧ rdS ((frontM bs bs.length).1 ++ t) (stR bs j) = stR bs (j + 1) := by
  obtain ⟨h1, h2, h3⟩ := rd_front bs _ (compat_app _ t _) j hj
  refine ⟨h3, ?_⟩
  unfold rdS stR
  simp only
  rw [h1, h2]
  have hb : badM ((frontM bs bs.length).1 ++ t) (frontM bs j).1.length (frontM bs j).2 false = false := by
    unfold badM
    simp only [Bool.false_or, decide_eq_false_iff_not]
    rintro ⟨h0, ha, hb⟩
    have hm := frontM_mono bs (j + 1) bs.length (by omega)
    rw [← h1] at hm
    unfold rdP at hm
    rw [if_pos h0] at hm
    have := byte_le bs t _ (by omega) ha
    omega
  rw [hb]
theorem rd_st (bs t : List Int) : ∀ j, j ≤ bs.length → rdIt ((frontM bs bs.length).1 ++ t) j (0, 0, false) = stR bs j
  | 0, _ => rfl
  | j + 1, h => by rw [rdIt_succ, rd_st bs t j (by omega)]; exact (rd_step bs t j (by omega)).2
theorem mod_succ (x : Int) (k : Nat) : x % 2 ^ (k + 1) = x / 2 ^ k % 2 * 2 ^ k + x % 2 ^ k := by
  have hp : (0 : Int) < 2 ^ k := Int.pow_pos (by omega)
  have e : (2 : Int) ^ (k + 1) = 2 ^ k * 2 := Int.pow_succ ..
  rw [e]
  generalize (2 : Int) ^ k = P at *
  have h1 := Int.mul_ediv_add_emod x P
  have h2 : x / P = 2 * (x / P / 2) + x / P % 2 := by omega
  have h3 : 0 ≤ x % P := Int.emod_nonneg _ (by omega)
  have h4 : x % P < P := Int.emod_lt_of_pos _ hp
  have hb : 0 ≤ x / P % 2 ∧ x / P % 2 ≤ 1 := by omega
  generalize x / P % 2 = b at *
  generalize x / P / 2 = h at *
  generalize x % P = r at *
  have hx : x = P * 2 * h + (b * P + r) := by
    rw [h2, Int.mul_add, ← Int.mul_assoc, Int.mul_comm P b] at h1
    omega
  have hbp : 0 ≤ b * P ∧ b * P ≤ P := by
    have : b = 0 ∨ b = 1 := by omega
    rcases this with rfl | rfl <;> omega
  rw [hx, Int.mul_add_emod_self_left, Int.emod_eq_of_lt (by omega) (by omega)]
/-- A number is read as its lowest bits were written. -/
theorem rd_num (bs t : List Int) (x : Int) : ∀ (k j : Nat) (a : Int), j + k ≤ bs.length → (∀ i, i < k → bs.getD (j + i) 0 = (bitsOf x k).getD i 0) →
    rdRun ((frontM bs bs.length).1 ++ t) k a (stR bs j) = (a * 2 ^ k + x % 2 ^ k, stR bs (j + k))
  | 0, j, a, _, _ => by simp [rdRun, Int.emod_one]
  | k + 1, j, a, hj, hb => by
    obtain ⟨h1, h2⟩ := rd_step bs t j (by omega)
    have hb0 : bs.getD j 0 = x / 2 ^ k % 2 := hb 0 (by omega)
    have ih := rd_num bs t x k (j + 1) (a * 2 + bs.getD j 0 % 2) (by omega) (fun i hi => by
      have := hb (i + 1) (by omega)
      rw [show j + 1 + i = j + (i + 1) from by omega, this]
      rfl)
    show rdRun _ k (a * 2 + rdV _ (stR bs j)) (rdS _ (stR bs j)) = _
    rw [h1, h2, ih, show j + 1 + k = j + (k + 1) from by omega, mod_succ, hb0]
    have e : (2 : Int) ^ (k + 1) = 2 * 2 ^ k := by rw [Int.pow_succ]; omega
    have e2 : x / 2 ^ k % 2 % 2 = x / 2 ^ k % 2 := by omega
    rw [e, e2, Int.add_mul, Int.mul_assoc, Int.add_assoc]
/-- All is well at the end. -/
theorem end_ok (bs more : List Int) : endM (outB (frontM bs bs.length).1 ++ more) (frontM bs bs.length).1.length false = (((outB (frontM bs bs.length).1).length : Int), (0 : Int)) := by
  generalize hl : (frontM bs bs.length).1 = l
  have hat : atM (outB l ++ more) ((l.length : Int) - 1) = lastM l := by
    obtain ⟨t, ht⟩ := outB_app l
    rw [ht, List.append_assoc]
    rcases Nat.eq_zero_or_pos l.length with h0 | h0
    · have : l = [] := List.eq_nil_of_length_eq_zero h0
      subst this
      rfl
    · rw [atM_pred _ _ h0, getD_app _ _ _ (by omega)]; rfl
  unfold endM
  rw [hat]
  by_cases hz : lastM l = 255
  · have ho : outB l = l ++ [0] := if_pos hz
    rw [if_pos hz, ho, if_neg (by simp), if_neg]
    · simp
    · rintro (h | ⟨_, h⟩)
      · cases h
      · have : atM (l ++ [0] ++ more) l.length = 0 := by
          rw [atM_nat, getD_app _ _ _ (by simp)]
          simp
        omega
  · have ho : outB l = l := if_neg hz
    rw [if_neg hz, ho, if_neg (by simp), if_neg]
    rintro (h | ⟨h, _⟩)
    · cases h
    · exact hz h

/-! ### many numbers, one behind the other -/
/-- All bits of the first i numbers. -/
def allB (x : Nat → Int) (k : Nat → Nat) : Nat → List Int
  | 0 => []
  | i + 1 => allB x k i ++ bitsOf (x i) (k i)
theorem allB_pre (x : Nat → Int) (k : Nat → Nat) (i : Nat) : ∀ n, i ≤ n → ∃ t, allB x k n = allB x k i ++ t := by
  intro n
  induction n with
  | zero => intro h; have : i = 0 := by omega
            subst this; exact ⟨[], by simp⟩
  | succ n ih =>
    intro h
    by_cases he : i = n + 1
    · subst he; exact ⟨[], by simp⟩
    · obtain ⟨t, ht⟩ := ih (by omega)
      exact ⟨t ++ bitsOf (x n) (k n), by show allB x k n ++ _ = _; rw [ht, List.append_assoc]⟩
theorem allB_front (x : Nat → Int) (k : Nat → Nat) (i n : Nat) (h : i ≤ n) : frontM (allB x k n) (allB x k i).length = runM ([], 0) (allB x k i) := by
  obtain ⟨t, ht⟩ := allB_pre x k i n h
  unfold frontM
  rw [ht, List.take_left' rfl]
theorem allB_next (x : Nat → Int) (k : Nat → Nat) (i : Nat) : runM ([], 0) (allB x k (i + 1)) = runM (runM ([], 0) (allB x k i)) (bitsOf (x i) (k i)) := by
  show runM _ (allB x k i ++ _) = _
  rw [runM_append]
theorem allB_length (x : Nat → Int) (k : Nat → Nat) (hk : ∀ i, k i ≤ 32) : ∀ i, (allB x k i).length ≤ 32 * i
  | 0 => by simp [allB]
  | i + 1 => by
    have := allB_length x k hk i
    have := hk i
    show (allB x k i ++ _).length ≤ _
    rw [List.length_append, bitsOf_length]
    omega
/-- The reader's state behind i numbers. -/
def stN (x : Nat → Int) (k : Nat → Nat) (i : Nat) : RS := ((runM ([], 0) (allB x k i)).1.length, (runM ([], 0) (allB x k i)).2, false)
theorem rd_allB (x : Nat → Int) (k : Nat → Nat) (n i : Nat) (h : i < n) (t : List Int) :
    rdRun ((runM ([], 0) (allB x k n)).1 ++ t) (k i) 0 (stN x k i) = (x i % 2 ^ k i, stN x k (i + 1)) := by
  have e0 : stN x k i = stR (allB x k n) (allB x k i).length := by unfold stN stR; rw [allB_front x k i n (by omega)]
  have e1 : stN x k (i + 1) = stR (allB x k n) ((allB x k i).length + k i) := by
    have hl : (allB x k i).length + k i = (allB x k (i + 1)).length := by show _ = (allB x k i ++ _).length; rw [List.length_append, bitsOf_length]
    unfold stN stR
    rw [hl, allB_front x k (i + 1) n (by omega)]
  obtain ⟨u, hu⟩ := allB_pre x k (i + 1) n (by omega)
  have hu' : allB x k n = allB x k i ++ (bitsOf (x i) (k i) ++ u) := by rw [hu]; show (allB x k i ++ _) ++ u = _; rw [List.append_assoc]
  have hl : (allB x k i).length + k i ≤ (allB x k n).length := by rw [hu', List.length_append, List.length_append, bitsOf_length]; omega
  have := rd_num (allB x k n) t (x i) (k i) (allB x k i).length 0 hl (fun j hj => by
    rw [hu', List.getD_eq_getElem?_getD, List.getElem?_append_right (by omega), Nat.add_sub_cancel_left, List.getElem?_append_left (by rw [bitsOf_length]; exact hj), List.getD_eq_getElem?_getD])
  rw [frontM_all] at this
  rw [e0, e1, this]
  simp
theorem end_allB (x : Nat → Int) (k : Nat → Nat) (n : Nat) (more : List Int) : endM (outB (runM ([], 0) (allB x k n)).1 ++ more) (stN x k n).1 (stN x k n).2.2 = (((outB (runM ([], 0) (allB x k n)).1).length : Int), (0 : Int)) := by
  have := end_ok (allB x k n) more
  rw [frontM_all] at this
  exact this
theorem stN_inv (x : Nat → Int) (k : Nat → Nat) (i : Nat) : 0 ≤ (stN x k i).2.1 ∧ (stN x k i).2.1 ≤ 8 := by
  have := runM_inv (allB x k i) ([], 0) BInv.nil
  exact ⟨this.r0, by have := this.r7; show (runM ([], 0) (allB x k i)).2 ≤ 8; omega⟩
theorem stN_le (x : Nat → Int) (k : Nat → Nat) (hk : ∀ i, k i ≤ 32) (i : Nat) : (stN x k i).1 ≤ 32 * i := by
  have := runM_length (allB x k i) ([], 0)
  have := allB_length x k hk i
  simp only [List.length_nil] at *
  show (runM ([], 0) (allB x k i)).1.length ≤ _
  omega

/-- The machine's mask. -/
theorem and_mask (x : Int) (k : Nat) (hk : k ≤ 32) : bits .and .i64 x (2 ^ k - 1) = x % 2 ^ k := by
  have hp : (2 : Nat) ^ k ≤ 2 ^ 32 := Nat.pow_le_pow_right (by omega) hk
  have hp1 : 1 ≤ (2 : Nat) ^ k := Nat.one_le_two_pow
  have e : (2 : Int) ^ k - 1 = ((2 ^ k - 1 : Nat) : Int) := by
    have : ((2 ^ k : Nat) : Int) = (2 : Int) ^ k := by simp
    omega
  have e2 : (2 : Int) ^ k = ((2 ^ k : Nat) : Int) := by simp
  have h1 : ((BitVec.ofInt 64 x &&& BitVec.ofInt 64 ((2 ^ k - 1 : Nat) : Int)).toNat : Int) = x % 2 ^ k := by
    rw [BitVec.toNat_and, BitVec.ofInt_natCast, BitVec.toNat_ofNat, Nat.mod_eq_of_lt (show 2 ^ k - 1 < 2 ^ 64 by omega), Nat.and_two_pow_sub_one_eq_mod, BitVec.toNat_ofInt, e2]
    have hd : ((2 ^ k : Nat) : Int) ∣ ((2 ^ 64 : Nat) : Int) := Int.natCast_dvd_natCast.2 (Nat.pow_dvd_pow 2 (by omega))
    have h0 : 0 ≤ x % ((2 ^ 64 : Nat) : Int) := Int.emod_nonneg _ (by decide)
    rw [Int.natCast_emod, Int.toNat_of_nonneg h0, Int.emod_emod_of_dvd _ hd]
  show IntKind.i64.wrap ((BitVec.ofInt 64 x &&& BitVec.ofInt 64 ((2 : Int) ^ k - 1)).toNat : Int) = _
  rw [e, h1]
  have h2 : 0 ≤ x % 2 ^ k := Int.emod_nonneg _ (by omega)
  have h3 : x % 2 ^ k < 2 ^ k := Int.emod_lt_of_pos _ (by omega)
  rw [IntWalk.i64_in _ (by omega)]
end Go.Proofs.Ytbkffpedigeflaa
