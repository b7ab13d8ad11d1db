/-
  Trees of equal numbers: how many bits are said, in plain words. Conditions: none.
-/
import Derived.Test.YtbkffpedigeflaaTreeLaw
import Derived.Test.YtbkffpedigeflaaTreesR
namespace Go.Proofs.Ytbkffpedigeflaa
open Go.RowKit

def sumTo (f : Nat → Nat) : Nat → Nat
  | 0 => 0
  | m + 1 => sumTo f m + f m
theorem sumTo_congr {f g : Nat → Nat} : ∀ {m : Nat}, (∀ i, i < m → f i = g i) → sumTo f m = sumTo g m
  | 0, _ => rfl
  | m + 1, h => by
    show sumTo f m + f m = sumTo g m + g m
    rw [sumTo_congr (fun i hi => h i (by omega)), h m (by omega)]
theorem sumTo_one {f g : Nat → Nat} {j : Nat} : ∀ {m : Nat}, j < m → (∀ i, i < m → i ≠ j → f i = g i) → f j = g j + 1 → sumTo f m = sumTo g m + 1
  | 0, h, _, _ => by omega
  | m + 1, h, h1, h2 => by
    show sumTo f m + f m = sumTo g m + g m + 1
    by_cases e : j = m
    · subst e
      rw [sumTo_congr (fun i hi => h1 i (by omega) (by omega)), h2]; omega
    · rw [sumTo_one (by omega) (fun i hi hij => h1 i (by omega) hij) h2, h1 m (by omega) (by omega)]; omega
theorem sumTo_le {f : Nat → Nat} {B : Nat} (h : ∀ i, f i ≤ B) : ∀ m, sumTo f m ≤ B * m
  | 0 => by simp [sumTo]
  | m + 1 => by
    have := sumTo_le h m
    have := h m
    show sumTo f m + f m ≤ _
    rw [Nat.mul_add]; omega
theorem sumTo_const (m : Nat) : sumTo (fun _ => 1) m = m := by
  induction m with
  | zero => rfl
  | succ m ih => show sumTo _ m + 1 = _; rw [ih]
def saidN (x : Nd) : Nat := if x.said = true then 1 else 0
/-- How many nodes are said. -/
def cnt (W H L : Nat) (N : Nat → Nat → Nd) : Nat := sumTo (fun i => sumTo (fun j => saidN (N i j)) (sz W H i)) L
theorem cnt_upd {W H L : Nat} {N : Nat → Nat → Nd} {i j : Nat} {x : Nd} (hi : i < L) (hj : j < sz W H i) (h0 : (N i j).said = false) (h1 : x.said = true) : cnt W H L (updT N i j x) = cnt W H L N + 1 := by
  unfold cnt
  refine sumTo_one hi (fun a ha hne => ?_) ?_
  · rw [updT_ne _ _ _ hne]
  · rw [updT_at]
    refine sumTo_one hj (fun b hb hne => ?_) ?_
    · rw [upd_ne _ _ hne]
    · rw [upd_same]; unfold saidN; rw [h0, h1]; rfl
theorem cnt_same {W H L : Nat} {N : Nat → Nat → Nd} {i j : Nat} {x : Nd} (h : x.said = (N i j).said) : cnt W H L (updT N i j x) = cnt W H L N := by
  unfold cnt
  refine sumTo_congr (fun a ha => sumTo_congr (fun b hb => ?_))
  by_cases e : a = i
  · subst e
    rw [updT_at]
    by_cases e2 : b = j
    · subst e2; rw [upd_same]; unfold saidN; rw [h]
    · rw [upd_ne _ _ e2]
  · rw [updT_ne _ _ _ e]
theorem cnt_le {W H L : Nat} (N : Nat → Nat → Nd) (hW : W ≤ 64) (hH : H ≤ 64) : cnt W H L N ≤ 4096 * L := by
  refine sumTo_le (fun i => ?_) L
  have h1 : sumTo (fun j => saidN (N i j)) (sz W H i) ≤ 1 * sz W H i := sumTo_le (fun j => by unfold saidN; split <;> omega) _
  have := sz_le hW hH i
  omega
theorem cnt_all {W H L : Nat} {N : Nat → Nat → Nd} (h : ∀ i j, i < L → j < sz W H i → (N i j).said = true) : cnt W H L N = sumTo (sz W H) L := by
  refine sumTo_congr (fun i hi => ?_)
  rw [sumTo_congr (g := fun _ => 1) (fun j hj => by unfold saidN; rw [if_pos (h i j hi hj)]), sumTo_const]
/-- Bits alone; so many noughts, so many ones. -/
structure Zo (bs : List Int) (z o : Nat) : Prop where
  bit : ∀ x ∈ bs, x = 0 ∨ x = 1
  zero : bs.count 0 = z
  one : bs.count 1 = o
theorem Zo.nil : Zo [] 0 0 := ⟨fun x h => (by cases h), rfl, rfl⟩
theorem Zo.append {a b : List Int} {z o z' o' : Nat} (h : Zo a z o) (h' : Zo b z' o') : Zo (a ++ b) (z + z') (o + o') :=
  ⟨fun x hx => (List.mem_append.1 hx).elim (h.bit x) (h'.bit x), by rw [List.count_append, h.zero, h'.zero], by rw [List.count_append, h.one, h'.one]⟩
theorem Zo.rep (n : Nat) : Zo (List.replicate n 0) n 0 := ⟨fun x hx => .inl (List.eq_of_mem_replicate hx), by simp, by simp [List.count_replicate]⟩
theorem Zo.unit : Zo [1] 0 1 := ⟨fun x hx => .inr (by simpa using hx), by decide, by decide⟩
theorem Zo.length {bs : List Int} {z o : Nat} (h : Zo bs z o) : bs.length = z + o := by
  obtain ⟨hb, hz, ho⟩ := h
  induction bs generalizing z o with
  | nil => simp at hz ho; simp [hz.symm, ho.symm]
  | cons x bs ih =>
    have := ih (fun y hy => hb y (List.mem_cons_of_mem _ hy)) rfl rfl
    rcases hb x (List.mem_cons_self) with rfl | rfl
    · rw [List.count_cons] at hz ho
      simp at hz ho
      simp only [List.length_cons]; omega
    · rw [List.count_cons] at hz ho
      simp at hz ho
      simp only [List.length_cons]; omega
/-- A tree whose numbers are all n: each node is fresh, or said. -/
def EqT (W H L n : Nat) (N : Nat → Nat → Nd) : Prop := ∀ i j, i < L → j < sz W H i → N i j = ⟨n, n, true⟩ ∨ N i j = ⟨n, 0, false⟩
def topN (L n : Nat) (N : Nat → Nat → Nd) : Nat := if (N (L - 1) 0).said = true then n else 0
theorem EqT.upd {W H L n : Nat} {N : Nat → Nat → Nd} (h : EqT W H L n N) (i j : Nat) : EqT W H L n (updT N i j ⟨n, n, true⟩) := by
  intro a b ha hb
  by_cases e : a = i
  · subst e
    rw [updT_at]
    by_cases e2 : b = j
    · subst e2; rw [upd_same]; exact .inl rfl
    · rw [upd_ne _ _ e2]; exact h a b ha hb
  · rw [updT_ne _ _ _ e]; exact h a b ha hb
section
variable {W H L n k : Nat} {N : Nat → Nat → Nd}
theorem idx_top (hL : Lev W H L) (hk : k < W * H) : idx W (L - 1) k = 0 := by
  have h := idx_lt hL hk (L - 1)
  have h1 : sz W H (L - 1) = 1 := by unfold sz; rw [hL.topw, hL.toph]
  omega
/-- One encoding of a leaf of such a tree. -/
theorem eq_enc (hL : Lev W H L) (hk : k < W * H) (h : EqT W H L n N) : ∀ r, r ≤ L →
    EqT W H L n (encI W L k ((n : Int) + 1) N r).2.1 ∧ (encI W L k ((n : Int) + 1) N r).1 = (if r = 0 then (0 : Int) else n) ∧
    (∀ i j, (N i j).said = true → ((encI W L k ((n : Int) + 1) N r).2.1 i j).said = true) ∧
    (∀ r', r' < r → ((encI W L k ((n : Int) + 1) N r).2.1 (L - 1 - r') (idx W (L - 1 - r') k)).said = true) ∧
    ∃ z o, Zo (encI W L k ((n : Int) + 1) N r).2.2 z o ∧ o + cnt W H L N = cnt W H L (encI W L k ((n : Int) + 1) N r).2.1 ∧ z + topN L n N = topN L n (encI W L k ((n : Int) + 1) N r).2.1
  | 0, _ => ⟨h, rfl, fun _ _ h => h, fun r' h => by omega, 0, 0, Zo.nil, by rw [Nat.zero_add]; rfl, by rw [Nat.zero_add]; rfl⟩
  | r + 1, hr => by
    obtain ⟨h1, h2, h3, h4, z, o, h5, h6, h7⟩ := eq_enc hL hk h r (by omega)
    rw [encI_next rfl rfl]
    generalize hi : L - 1 - r = i
    have hiL : i < L := by omega
    have hj := idx_lt hL hk i
    generalize hjj : idx W i k = j at *
    generalize hP : encI W L k ((n : Int) + 1) N r = P at *
    obtain ⟨low, N1, bs⟩ := P
    dsimp only at *
    have hup : ∀ a b, (N1 a b).said = true → (updT N1 i j ⟨n, n, true⟩ a b).said = true := fun a b hab => by
      by_cases e : a = i
      · subst e
        rw [updT_at]
        by_cases e2 : b = j
        · subst e2; rw [upd_same]
        · rw [upd_ne _ _ e2]; exact hab
      · rw [updT_ne _ _ _ e]; exact hab
    have hway : ∀ r', r' < r + 1 → (updT N1 i j ⟨n, n, true⟩ (L - 1 - r') (idx W (L - 1 - r') k)).said = true := fun r' hr' => by
      by_cases e : r' = r
      · subst e; rw [hi, hjj, updT_at, upd_same]
      · exact hup _ _ (h4 r' (by omega))
    rcases h1 i j hiL hj with e | e
    · -- said
      have hm : max (n : Int) low = n := by rw [h2]; split <;> omega
      rw [e]
      simp only [hm]
      rw [encN_done _ _ (.inl rfl)]
      refine ⟨h1.upd i j, by simp, fun a b hab => hup a b (h3 a b hab), hway, z, o, by simpa using h5, ?_, ?_⟩
      · rw [cnt_same (by rw [e]), h6]
      · rw [h7]
        unfold topN
        by_cases e2 : L - 1 = i
        · rw [e2, updT_at]
          by_cases e3 : 0 = j
          · subst e3; rw [upd_same, e]
          · rw [upd_ne _ _ e3]
        · rw [updT_ne _ _ _ e2]
    · rw [e]
      by_cases hr0 : r = 0
      · subst hr0
        have hiT : i = L - 1 := by omega
        subst hiT
        obtain rfl : j = 0 := by rw [← hjj]; exact idx_top hL hk
        have hN : N1 = N ∧ bs = [] := by
          have : ((0 : Int), N, ([] : List Int)) = (low, N1, bs) := hP
          injection this with a b
          injection b with b c
          exact ⟨b.symm, c.symm⟩
        obtain ⟨rfl, rfl⟩ := hN
        rw [if_pos rfl] at h2
        subst h2
        have he : encN ((n : Int) + 1) ⟨n, max 0 0, false⟩ = (⟨n, n, true⟩, List.replicate n 0 ++ [1]) := by
          unfold encN
          rw [if_neg (by simp), if_pos (by simp only; omega)]
          simp only [show max (max 0 0 : Int) (n : Int) = n by omega, show ((n : Int) - max 0 0).toNat = n by omega]
        simp only [he]
        refine ⟨h1.upd _ _, by simp, fun a b hab => hup a b (h3 a b hab), hway, z + (n + 0), o + (0 + 1), h5.append ((Zo.rep n).append Zo.unit), ?_, ?_⟩
        · rw [cnt_upd hiL hj (by rw [e]) rfl]; omega
        · unfold topN at h7 ⊢
          rw [updT_at, upd_same, if_pos rfl]
          rw [e] at h7 ⊢
          simp only [Bool.false_eq_true, if_false] at h7 ⊢
          omega
      · rw [if_neg hr0] at h2
        subst h2
        have he : encN ((n : Int) + 1) ⟨n, max 0 (n : Int), false⟩ = (⟨n, n, true⟩, [1]) := by
          rw [show max (0 : Int) (n : Int) = n by omega]
          exact encN_one _ _ _ (by omega) (by omega)
        simp only [he]
        refine ⟨h1.upd _ _, by simp, fun a b hab => hup a b (h3 a b hab), hway, z + 0, o + 1, h5.append Zo.unit, ?_, ?_⟩
        · rw [cnt_upd hiL hj (by rw [e]) rfl]; omega
        · have : topN L n (updT N1 i j ⟨n, n, true⟩) = topN L n N1 := by
            unfold topN
            rw [updT_ne _ _ _ (by omega)]
          rw [this]; omega
/-- Each node lies above a leaf. -/
theorem node_of (hL : Lev W H L) {i j : Nat} (hj : j < sz W H i) : ∃ k, k < W * H ∧ idx W i k = j := by
  have hw := upN_pos hL.w0 i
  have hpos : 0 < 2 ^ i := Nat.pow_pos (by omega)
  have hx : j % upN i W < upN i W := Nat.mod_lt _ hw
  have hy : j / upN i W < upN i H := by rw [Nat.div_lt_iff_lt_mul hw, Nat.mul_comm]; exact hj
  have key : ∀ {x V : Nat} (i : Nat), 0 < V → x < upN i V → x * 2 ^ i < V := by
    intro x V i hV
    induction i generalizing x with
    | zero => intro h; simpa [upN] using h
    | succ i ih =>
      intro h
      have : upN (i + 1) V = (upN i V + 1) / 2 := rfl
      have := ih (x := 2 * x) (by omega)
      rw [Nat.pow_succ]
      rw [show x * (2 ^ i * 2) = 2 * x * 2 ^ i by rw [Nat.mul_comm (2 ^ i) 2, ← Nat.mul_assoc, Nat.mul_comm x 2]]
      exact this
  have h1 := key i hL.w0 hx
  have h2 := key i hL.h0 hy
  have hW := hL.w0
  refine ⟨(j / upN i W * 2 ^ i) * W + j % upN i W * 2 ^ i, ?_, ?_⟩
  · have h3 : (j / upN i W * 2 ^ i + 1) * W ≤ H * W := Nat.mul_le_mul_right _ h2
    rw [Nat.add_mul, Nat.one_mul] at h3
    rw [Nat.mul_comm W H]
    omega
  · unfold idx
    rw [Nat.mul_comm _ W, Nat.mul_add_mod, Nat.mod_eq_of_lt h1, Nat.mul_add_div hW, Nat.div_eq_of_lt h1, Nat.add_zero, Nat.mul_div_cancel _ hpos, Nat.mul_div_cancel _ hpos, Nat.mul_comm]
    exact Nat.div_add_mod j (upN i W)
/-- What stands ahead of the k-th leaf's encoding. -/
structure ShI (W H L n : Nat) (N : Nat → Nat → Nd) (bs : List Int) (kk : Nat) : Prop where
  eq : EqT W H L n N
  zo : Zo bs (topN L n N) (cnt W H L N)
  done : ∀ k, k < kk → ∀ i, i < L → (N i (idx W i k)).said = true
theorem ShI.next {bs : List Int} {kk : Nat} (hL : Lev W H L) (hk : k < W * H) (h : ShI W H L n N bs kk) :
    ShI W H L n (encI W L k ((n : Int) + 1) N L).2.1 (bs ++ (encI W L k ((n : Int) + 1) N L).2.2) kk ∧ (k = kk → ShI W H L n (encI W L k ((n : Int) + 1) N L).2.1 (bs ++ (encI W L k ((n : Int) + 1) N L).2.2) (kk + 1)) := by
  obtain ⟨h1, h2, h3, h4, z, o, h5, h6, h7⟩ := eq_enc hL hk h.eq L (Nat.le_refl _)
  have hz := h.zo.append h5
  rw [Nat.add_comm (topN L n N), h7, Nat.add_comm (cnt W H L N), h6] at hz
  refine ⟨⟨h1, hz, fun k' hk' i hi => h3 _ _ (h.done k' hk' i hi)⟩, fun e => ⟨h1, hz, fun k' hk' i hi => ?_⟩⟩
  by_cases e2 : k' = kk
  · subst e2
    subst e
    have := h4 (L - 1 - i) (by omega)
    rw [show L - 1 - (L - 1 - i) = i by omega] at this
    exact this
  · exact h3 _ _ (h.done k' (by omega) i hi)
theorem ShI.len {bs : List Int} {kk : Nat} (hL : Lev W H L) (hn : n ≤ 100) (h : ShI W H L n N bs kk) : bs.length ≤ 100 + 4096 * 7 := by
  have h1 := h.zo.length
  have h2 := cnt_le (L := L) N hL.w1 hL.h1
  have h3 := hL.le
  have h4 : topN L n N ≤ n := by unfold topN; split <;> omega
  have h5 : 4096 * L ≤ 4096 * 7 := Nat.mul_le_mul_left _ h3
  omega
theorem ShI.all {bs : List Int} (hL : Lev W H L) (h : ShI W H L n N bs (W * H)) : Zo bs n (sumTo (sz W H) L) := by
  have hs : ∀ i j, i < L → j < sz W H i → (N i j).said = true := fun i j hi hj => by
    obtain ⟨k, hk, e⟩ := node_of hL hj
    rw [← e]
    exact h.done k hk i hi
  have h1 := h.zo
  rw [cnt_all hs] at h1
  have h2 : topN L n N = n := by
    unfold topN
    rw [if_pos (hs (L - 1) 0 (by have := hL.pos; omega) (by unfold sz; rw [hL.topw, hL.toph]; omega))]
  rw [h2] at h1
  exact h1
theorem ShI.start (hL : Lev W H L) (hc : Cons W H L N) (h0 : ∀ j, j < W * H → (N 0 j).n = n) (hf : ∀ i j, (N i j).low = 0 ∧ (N i j).said = false) : ShI W H L n N [] 0 := by
  have hall := hc.all h0
  refine ⟨fun i j hi hj => .inr ?_, ?_, fun k hk => by omega⟩
  · have hw := upN_pos hL.w0 i
    have hx : j % upN i W < upN i W := Nat.mod_lt _ hw
    have hy : j / upN i W < upN i H := by rw [Nat.div_lt_iff_lt_mul hw, Nat.mul_comm]; exact hj
    have := hall i hi _ _ hx hy
    rw [Nat.mul_comm, Nat.div_add_mod] at this
    have h2 := hf i j
    cases hN : N i j
    rw [hN] at this h2
    simp only at this h2
    rw [this, h2.1, h2.2]
  · have e1 : topN L n N = 0 := by unfold topN; rw [(hf _ _).2]; rfl
    have e2 : cnt W H L N = 0 := by
      have : cnt W H L N = sumTo (fun _ => 0) L := sumTo_congr (fun i hi => by
        have hz : ∀ m, sumTo (fun _ => 0) m = 0 := fun m => by
          induction m with
          | zero => rfl
          | succ m ih => show sumTo _ m + 0 = 0; rw [ih]
        rw [sumTo_congr (g := fun _ => 0) (fun j hj => by unfold saidN; rw [(hf i j).2]; rfl), hz])
      rw [this]
      have hz : ∀ m, sumTo (fun _ => 0) m = 0 := fun m => by
        induction m with
        | zero => rfl
        | succ m ih => show sumTo _ m + 0 = 0; rw [ih]
      exact hz L
    rw [e1, e2]
    exact Zo.nil
end
/-- The ones among the first j. -/
theorem Zo.take {bs : List Int} {z o : Nat} (h : Zo bs z o) (j : Nat) (hj : j < bs.length) : (bs.getD j 0 = 0 ∨ bs.getD j 0 = 1) ∧ (bs.take (j + 1)).count 1 = (bs.take j).count 1 + (if bs.getD j 0 = 1 then 1 else 0) := by
  have e : bs.getD j 0 = bs[j] := by simp [hj]
  refine ⟨by rw [e]; exact h.bit _ (List.getElem_mem hj), ?_⟩
  rw [List.take_add_one, List.getElem?_eq_getElem hj, List.count_append, e]
  simp [List.count_cons]
end Go.Proofs.Ytbkffpedigeflaa
