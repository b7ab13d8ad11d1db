/-
  Decode hears what Encode said, in plain words. Conditions: none.
-/
import Derived.Test.YtbkffpedigeflaaTreeLaw
import Derived.Test.YtbkffpedigeflaaTreesR
namespace Go.Proofs.Ytbkffpedigeflaa
open Go.RowKit

/-- What the hearing tree knows of a node. -/
structure SyncN (x y : Nd) : Prop where
  low : y.low = x.low
  said : y.said = x.said
  n : x.said = true → y.n = x.n
theorem rd_zero (bs : List Int) (j : Nat) (hj : j < bs.length) (h : bs.getD j 0 = 0) : rdV (outB (runM ([], 0) bs).1) (stR bs j) ≠ 1 := by
  rw [(rd_out bs j hj).1, h]; decide
theorem rd_unit (bs : List Int) (j : Nat) (hj : j < bs.length) (h : bs.getD j 0 = 1) : rdV (outB (runM ([], 0) bs).1) (stR bs j) = 1 := by
  rw [(rd_out bs j hj).1, h]; decide
theorem back_F (bs : List Int) (b n m : Int) : ∀ (f : Nat) (low : Int) (j : Nat), (b - low).toNat = f → low ≤ n → j + (encN b ⟨n, low, false⟩).2.length ≤ bs.length →
    (∀ t, t < (encN b ⟨n, low, false⟩).2.length → bs.getD (j + t) 0 = (encN b ⟨n, low, false⟩).2.getD t 0) →
    ∃ y, decF (outB (runM ([], 0) bs).1) f ⟨m, low, false⟩ (stR bs j) = (y, stR bs (j + (encN b ⟨n, low, false⟩).2.length)) ∧ SyncN (encN b ⟨n, low, false⟩).1 y
  | 0, low, j, hf, hl, hb, ht => by
    rw [encN_done b ⟨n, low, false⟩ (.inr (by simp only; omega))]
    exact ⟨_, rfl, rfl, rfl, fun h => by cases h⟩
  | f + 1, low, j, hf, hl, hb, ht => by
    by_cases hn : n ≤ low
    · rw [encN_one b n low (by omega) hn] at hb ht ⊢
      have h0 := ht 0 (by simp)
      have hv := rd_unit bs j (by simp at hb; omega) (by simpa using h0)
      unfold decF
      rw [if_pos hv, (rd_out bs j (by simp at hb; omega)).2]
      exact ⟨_, rfl, rfl, rfl, fun _ => by simp only; omega⟩
    · rw [encN_zero b n low (by omega) (by omega)] at hb ht ⊢
      simp only [List.length_cons] at hb ht
      have h0 := ht 0 (by omega)
      have hv := rd_zero bs j (by omega) (by simpa using h0)
      obtain ⟨y, hy, hs⟩ := back_F bs b n m f (low + 1) (j + 1) (by omega) (by omega) (by omega) (fun t htl => by
        have := ht (t + 1) (by omega)
        rw [show j + 1 + t = j + (t + 1) by omega, this]
        simp)
      refine ⟨y, ?_, hs⟩
      conv => lhs; unfold decF
      rw [if_neg hv, (rd_out bs j (by omega)).2]
      simp only [List.length_cons]
      rw [hy, show j + 1 + (encN b ⟨n, low + 1, false⟩).2.length = j + ((encN b ⟨n, low + 1, false⟩).2.length + 1) by omega]
theorem back_N (bs : List Int) (b : Int) (x y : Nd) (j : Nat) (hs : SyncN x y) (hg : x.low ≤ x.n) (hb : j + (encN b x).2.length ≤ bs.length) (ht : ∀ t, t < (encN b x).2.length → bs.getD (j + t) 0 = (encN b x).2.getD t 0) :
    ∃ y', decN (outB (runM ([], 0) bs).1) b y (stR bs j) = (y', stR bs (j + (encN b x).2.length)) ∧ SyncN (encN b x).1 y' := by
  obtain ⟨n, low, sd⟩ := x
  obtain ⟨m, low', sd'⟩ := y
  obtain ⟨h1, h2, h3⟩ := hs
  simp only at h1 h2 h3 hg
  subst h1 h2
  cases sd'
  · obtain ⟨y', hy, hs⟩ := back_F bs b n m _ low' j rfl hg hb ht
    exact ⟨y', by unfold decN; rw [if_neg (by simp)]; exact hy, hs⟩
  · rw [encN_done b ⟨n, low', true⟩ (.inl rfl), decN_done _ b _ _ (.inl rfl)]
    exact ⟨_, rfl, rfl, rfl, h3⟩
theorem encN_n (b : Int) (x : Nd) : (encN b x).1.n = x.n := by
  unfold encN
  split
  · rfl
  · split <;> rfl
theorem encN_good (b : Int) (x : Nd) (h : x.low ≤ x.n) : (encN b x).1.low ≤ (encN b x).1.n := by
  unfold encN
  split
  · exact h
  · split
    · show max x.low x.n ≤ x.n; omega
    · show b ≤ x.n; omega
theorem encN_fin (b : Int) (x : Nd) : (encN b x).1.said = true ∨ b ≤ (encN b x).1.low := by
  unfold encN
  split
  · rename_i h; exact h
  · split
    · exact .inl rfl
    · exact .inr (Int.le_refl _)
/-- The telling tree's nodes, the hearing tree's. -/
structure Sync (W H L : Nat) (n : Nat → Nat → Int) (N M : Nat → Nat → Nd) : Prop where
  sync : ∀ i j, i < L → j < sz W H i → SyncN (N i j) (M i j)
  good : ∀ i j, i < L → j < sz W H i → (N i j).low ≤ (N i j).n
  num : ∀ i j, i < L → j < sz W H i → (N i j).n = n i j
theorem Sync.upd {W H L : Nat} {n : Nat → Nat → Int} {N M : Nat → Nat → Nd} (h : Sync W H L n N M) {i j : Nat} {x y : Nd} (hs : SyncN x y) (hg : x.low ≤ x.n) (hn : x.n = n i j) : Sync W H L n (updT N i j x) (updT M i j y) := by
  have key : ∀ a b, (a = i ∧ b = j ∧ updT N i j x a b = x ∧ updT M i j y a b = y) ∨ (updT N i j x a b = N a b ∧ updT M i j y a b = M a b) := fun a b => by
    by_cases e : a = i
    · subst e
      by_cases e2 : b = j
      · subst e2; exact .inl ⟨rfl, rfl, updT_same _ _ _ _, updT_same _ _ _ _⟩
      · exact .inr ⟨by rw [updT_at, upd_ne _ _ e2], by rw [updT_at, upd_ne _ _ e2]⟩
    · exact .inr ⟨by rw [updT_ne _ _ _ e], by rw [updT_ne _ _ _ e]⟩
  refine ⟨fun a b ha hb => ?_, fun a b ha hb => ?_, fun a b ha hb => ?_⟩
  · rcases key a b with ⟨_, _, e1, e2⟩ | ⟨e1, e2⟩
    · rw [e1, e2]; exact hs
    · rw [e1, e2]; exact h.sync a b ha hb
  · rcases key a b with ⟨_, _, e1, _⟩ | ⟨e1, _⟩
    · rw [e1]; exact hg
    · rw [e1]; exact h.good a b ha hb
  · rcases key a b with ⟨ea, eb, e1, _⟩ | ⟨e1, _⟩
    · rw [e1, ea, eb]; exact hn
    · rw [e1]; exact h.num a b ha hb
/-- The numbers along a way. -/
def UpN (W H L : Nat) (n : Nat → Nat → Int) : Prop := ∀ k i, k < W * H → i + 1 < L → n (i + 1) (idx W (i + 1) k) ≤ n i (idx W i k)
theorem back_I {W H L k : Nat} {n : Nat → Nat → Int} {N M : Nat → Nat → Nd} (bs : List Int) (b : Int) (j : Nat) (hL : Lev W H L) (hk : k < W * H) (hu : UpN W H L n) (h0 : ∀ i j, 0 ≤ n i j) (h : Sync W H L n N M) : ∀ r, r ≤ L →
    j + (encI W L k b N r).2.2.length ≤ bs.length → (∀ t, t < (encI W L k b N r).2.2.length → bs.getD (j + t) 0 = (encI W L k b N r).2.2.getD t 0) →
    (decI (outB (runM ([], 0) bs).1) W L k b M (stR bs j) r).1 = (encI W L k b N r).1 ∧ (decI (outB (runM ([], 0) bs).1) W L k b M (stR bs j) r).2.2 = stR bs (j + (encI W L k b N r).2.2.length) ∧
    Sync W H L n (encI W L k b N r).2.1 (decI (outB (runM ([], 0) bs).1) W L k b M (stR bs j) r).2.1 ∧ (∀ i, i < L → L - 1 - i < r → (encI W L k b N r).1 ≤ n (L - r) (idx W (L - r) k))
  | 0, _, _, _ => ⟨rfl, rfl, h, fun i hi hr => by omega⟩
  | r + 1, hr, hb, ht => by
    rw [encI_next rfl rfl] at hb ht
    simp only [List.length_append] at hb ht
    obtain ⟨h1, h2, h3, h4⟩ := back_I bs b j hL hk hu h0 h r (by omega) (by omega) (fun t htl => by
      rw [ht t (by omega)]
      rw [List.getD_eq_getElem?_getD, List.getElem?_append_left htl, ← List.getD_eq_getElem?_getD])
    rw [encI_next rfl rfl, decI_next rfl rfl]
    generalize hi : L - 1 - r = i at *
    have hiL : i < L := by omega
    have hj := idx_lt hL hk i
    generalize hjj : idx W i k = jj at *
    generalize hP : encI W L k b N r = P at *
    obtain ⟨low, N1, es⟩ := P
    generalize hD : decI (outB (runM ([], 0) bs).1) W L k b M (stR bs j) r = D at *
    obtain ⟨low', M1, t1⟩ := D
    dsimp only at *
    subst h1 h2
    have hs := h3.sync i jj hiL hj
    have hg := h3.good i jj hiL hj
    have hn := h3.num i jj hiL hj
    have hlow : low' ≤ (N1 i jj).n := by
      rw [hn]
      by_cases hr0 : r = 0
      · subst hr0
        have : ((0 : Int), N, ([] : List Int)) = (low', N1, es) := hP
        injection this with a _
        rw [← a]; exact h0 _ _
      · have h5 := h4 (L - 1) (by omega) (by omega)
        have h6 := hu k i hk (by omega)
        rw [hjj, show i + 1 = L - r by omega] at h6
        omega
    have hsx : SyncN ⟨(N1 i jj).n, max (N1 i jj).low low', (N1 i jj).said⟩ ⟨(M1 i jj).n, max (M1 i jj).low low', (M1 i jj).said⟩ := ⟨by simp only; rw [hs.low], hs.said, hs.n⟩
    obtain ⟨y', hy, hsy⟩ := back_N bs b _ _ (j + es.length) hsx (by simp only; omega) (by omega) (fun t htl => by
      have := ht (es.length + t) (by omega)
      rw [show j + es.length + t = j + (es.length + t) by omega, this]
      rw [List.getD_eq_getElem?_getD, List.getElem?_append_right (by omega), show es.length + t - es.length = t by omega, ← List.getD_eq_getElem?_getD])
    rw [hy]
    have hen := encN_n b ⟨(N1 i jj).n, max (N1 i jj).low low', (N1 i jj).said⟩
    have heg := encN_good b ⟨(N1 i jj).n, max (N1 i jj).low low', (N1 i jj).said⟩ (by simp only; omega)
    simp only at hen
    refine ⟨hsy.low, by simp only [List.length_append]; rw [Nat.add_assoc], h3.upd hsy heg (hen.trans hn), fun a ha hr' => ?_⟩
    rw [show L - (r + 1) = i by omega, hjj, ← hn]
    exact Int.le_trans heg (Int.le_of_eq hen)
theorem encI_leaf {W H L k : Nat} {b : Int} {N : Nat → Nat → Nd} (hL : Lev W H L) : ((encI W L k b N L).2.1 0 k).said = true ∨ b ≤ ((encI W L k b N L).2.1 0 k).low := by
  obtain ⟨r, rfl⟩ : ∃ r, L = r + 1 := ⟨L - 1, by have := hL.pos; omega⟩
  rw [encI_next (i := 0) (j := k) (by omega) (idx0 W k)]
  dsimp only
  rw [updT_same]
  exact encN_fin b _
/-- One Decode, as Encode was. -/
theorem back_op {W H L k : Nat} {n : Nat → Nat → Int} {N M : Nat → Nat → Nd} (bs : List Int) (b : Int) (j : Nat) (hL : Lev W H L) (hk : k < W * H) (hu : UpN W H L n) (h0 : ∀ i j, 0 ≤ n i j) (h : Sync W H L n N M)
    (hb : j + (encI W L k b N L).2.2.length ≤ bs.length) (ht : ∀ t, t < (encI W L k b N L).2.2.length → bs.getD (j + t) 0 = (encI W L k b N L).2.2.getD t 0) :
    (decI (outB (runM ([], 0) bs).1) W L k b M (stR bs j) L).2.2 = stR bs (j + (encI W L k b N L).2.2.length) ∧
    Sync W H L n (encI W L k b N L).2.1 (decI (outB (runM ([], 0) bs).1) W L k b M (stR bs j) L).2.1 ∧
    (((decI (outB (runM ([], 0) bs).1) W L k b M (stR bs j) L).2.1 0 k).said && decide (((decI (outB (runM ([], 0) bs).1) W L k b M (stR bs j) L).2.1 0 k).n < b)) = decide (n 0 k < b) ∧
    ((((decI (outB (runM ([], 0) bs).1) W L k b M (stR bs j) L).2.1 0 k).said = true ∧ ((decI (outB (runM ([], 0) bs).1) W L k b M (stR bs j) L).2.1 0 k).n = n 0 k) ∨ (((decI (outB (runM ([], 0) bs).1) W L k b M (stR bs j) L).2.1 0 k).said = false ∧ b ≤ n 0 k)) := by
  obtain ⟨_, h2, h3, _⟩ := back_I bs b j hL hk hu h0 h L (Nat.le_refl _) hb ht
  have hf := encI_leaf (k := k) (b := b) (N := N) hL
  have hkz : k < sz W H 0 := hk
  have hs := h3.sync 0 k hL.pos hkz
  have hg := h3.good 0 k hL.pos hkz
  have hn := h3.num 0 k hL.pos hkz
  refine ⟨h2, h3, ?_, ?_⟩
  · rw [hs.said]
    cases he : ((encI W L k b N L).2.1 0 k).said
    · rw [he] at hf
      have : b ≤ ((encI W L k b N L).2.1 0 k).low := hf.resolve_left (by simp)
      rw [Bool.false_and]
      exact (decide_eq_false (by omega)).symm
    · rw [hs.n he, hn, Bool.true_and]
  · cases he : ((encI W L k b N L).2.1 0 k).said
    · rw [he] at hf
      have : b ≤ ((encI W L k b N L).2.1 0 k).low := hf.resolve_left (by simp)
      exact .inr ⟨by rw [hs.said, he], by omega⟩
    · exact .inl ⟨by rw [hs.said, he], by rw [hs.n he, hn]⟩
/-- Behind j encodings: the tree, the bits. -/
def encB (W L : Nat) (f : Nat → Nat) (b : Nat → Int) (N : Nat → Nat → Nd) : Nat → (Nat → Nat → Nd) × List Int
  | 0 => (N, [])
  | j + 1 => ((encI W L (f j) (b j) (encB W L f b N j).1 L).2.1, (encB W L f b N j).2 ++ (encI W L (f j) (b j) (encB W L f b N j).1 L).2.2)
theorem encB_len (W L : Nat) (f : Nat → Nat) (b : Nat → Int) (N : Nat → Nat → Nd) (hL : L ≤ 7) (hb : ∀ j, b j ≤ 1000) : ∀ j, (encB W L f b N j).2.length ≤ 7007 * j
  | 0 => by simp [encB]
  | j + 1 => by
    have h1 := encB_len W L f b N hL hb j
    have h3 := encI_len W L (f j) (b j) (encB W L f b N j).1 (hb j) L
    show ((encB W L f b N j).2 ++ _).length ≤ _
    rw [List.length_append]; omega
theorem encB_pre (W L : Nat) (f : Nat → Nat) (b : Nat → Int) (N : Nat → Nat → Nd) (i : Nat) : ∀ j, i ≤ j → ∃ t, (encB W L f b N j).2 = (encB W L f b N i).2 ++ t
  | 0, h => by obtain rfl : i = 0 := by omega
               exact ⟨[], by simp⟩
  | j + 1, h => by
    by_cases e : i = j + 1
    · subst e; exact ⟨[], by simp⟩
    · obtain ⟨t, ht⟩ := encB_pre W L f b N i j (by omega)
      exact ⟨t ++ (encI W L (f j) (b j) (encB W L f b N j).1 L).2.2, by show (encB W L f b N j).2 ++ _ = _; rw [ht, List.append_assoc]⟩
theorem getD_mid (a e t : List Int) (i : Nat) (hi : i < e.length) : (a ++ e ++ t).getD (a.length + i) 0 = e.getD i 0 := by
  rw [List.getD_eq_getElem?_getD, List.append_assoc, List.getElem?_append_right (by omega), show a.length + i - a.length = i by omega, List.getElem?_append_left hi, ← List.getD_eq_getElem?_getD]
/-- The i-th Decode of j, by the bits of all. -/
theorem back_i {W H L : Nat} {n : Nat → Nat → Int} {N M : Nat → Nat → Nd} {f : Nat → Nat} {b : Nat → Int} (i j : Nat) (hij : i < j) (hL : Lev W H L) (hk : f i < W * H) (hu : UpN W H L n) (h0 : ∀ i j, 0 ≤ n i j) (h : Sync W H L n (encB W L f b N i).1 M) :
    (decI (outB (runM ([], 0) (encB W L f b N j).2).1) W L (f i) (b i) M (stR (encB W L f b N j).2 (encB W L f b N i).2.length) L).2.2 = stR (encB W L f b N j).2 (encB W L f b N (i + 1)).2.length ∧
    Sync W H L n (encB W L f b N (i + 1)).1 (decI (outB (runM ([], 0) (encB W L f b N j).2).1) W L (f i) (b i) M (stR (encB W L f b N j).2 (encB W L f b N i).2.length) L).2.1 ∧
    (((decI (outB (runM ([], 0) (encB W L f b N j).2).1) W L (f i) (b i) M (stR (encB W L f b N j).2 (encB W L f b N i).2.length) L).2.1 0 (f i)).said && decide (((decI (outB (runM ([], 0) (encB W L f b N j).2).1) W L (f i) (b i) M (stR (encB W L f b N j).2 (encB W L f b N i).2.length) L).2.1 0 (f i)).n < b i)) = decide (n 0 (f i) < b i) ∧
    ((((decI (outB (runM ([], 0) (encB W L f b N j).2).1) W L (f i) (b i) M (stR (encB W L f b N j).2 (encB W L f b N i).2.length) L).2.1 0 (f i)).said = true ∧ ((decI (outB (runM ([], 0) (encB W L f b N j).2).1) W L (f i) (b i) M (stR (encB W L f b N j).2 (encB W L f b N i).2.length) L).2.1 0 (f i)).n = n 0 (f i)) ∨ (((decI (outB (runM ([], 0) (encB W L f b N j).2).1) W L (f i) (b i) M (stR (encB W L f b N j).2 (encB W L f b N i).2.length) L).2.1 0 (f i)).said = false ∧ b i ≤ n 0 (f i))) := by
  obtain ⟨t, ht⟩ := encB_pre W L f b N (i + 1) j hij
  have e : (encB W L f b N (i + 1)).2 = (encB W L f b N i).2 ++ (encI W L (f i) (b i) (encB W L f b N i).1 L).2.2 := rfl
  have hl : (encB W L f b N (i + 1)).2.length = (encB W L f b N i).2.length + (encI W L (f i) (b i) (encB W L f b N i).1 L).2.2.length := by rw [e, List.length_append]
  have h2 := back_op (encB W L f b N j).2 (b i) (encB W L f b N i).2.length hL hk hu h0 h (by rw [ht, List.length_append, hl]; omega) (fun s hs => by
    rw [ht, e]; exact getD_mid _ _ _ _ hs)
  rw [← hl] at h2
  exact h2
end Go.Proofs.Ytbkffpedigeflaa
