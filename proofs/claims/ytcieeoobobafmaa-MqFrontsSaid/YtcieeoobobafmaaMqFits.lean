/-
  What a reader of the bytes, or of a front of them, has is within each state's interval. In plain Lean. Conditions: none.
-/
import Derived.Test.YtcieeoobobafmaaMqCode2
namespace Go.Proofs.Ytcieeoobobafmaa
open Go.RowKit

theorem take_snoc {l : List Int} {k : Nat} (h : k < l.length) : l.take (k + 1) = l.take k ++ [l.getD k 0] := by
  rw [List.take_add_one, List.getD_eq_getElem?_getD, List.getElem?_eq_getElem h]
  rfl
theorem vk_step {f : List Int} {k : Nat} (h : k + 1 < f.length) :
    (f.getD k 0 = 255 → vk f (k + 1) = vk f k * 128 + f.getD (k + 1) 0 ∧ wk f (k + 1) = wk f k + 7) ∧ (f.getD k 0 ≠ 255 → vk f (k + 1) = vk f k * 256 + f.getD (k + 1) 0 ∧ wk f (k + 1) = wk f k + 8) := by
  have e1 : f.take (k + 1 + 1) = f.take (k + 1) ++ [f.getD (k + 1) 0] := take_snoc h
  have e2 : (vw (f.take (k + 1))).2.2 = f.getD k 0 := by rw [take_snoc (by omega), vw_last]
  unfold vk wk
  rw [e1, vw_snoc]
  unfold vwS
  rw [e2]
  refine ⟨fun h => ?_, fun h => ?_⟩
  · rw [if_pos h]; exact ⟨rfl, rfl⟩
  · rw [if_neg h]; exact ⟨rfl, rfl⟩
theorem wk_mono {f : List Int} {k : Nat} : ∀ j, k + j < f.length → wk f k + 7 * j ≤ wk f (k + j)
  | 0, _ => Nat.le_refl _
  | j + 1, h => by
    have ih := wk_mono j (by omega : k + j < f.length)
    obtain ⟨h1, h2⟩ := vk_step (f := f) (k := k + j) (by omega)
    rw [← Nat.add_assoc]
    by_cases hc : f.getD (k + j) 0 = 255
    · have := (h1 hc).2; omega
    · have := (h2 hc).2; omega
theorem vk_mono {f : List Int} (hf : ∀ k, 0 ≤ f.getD k 0) {k : Nat} : ∀ j, k + j < f.length → vk f k * 2 ^ wk f (k + j) ≤ vk f (k + j) * 2 ^ wk f k
  | 0, _ => Int.le_refl _
  | j + 1, h => by
    have ih := vk_mono hf j (by omega : k + j < f.length)
    obtain ⟨h1, h2⟩ := vk_step (f := f) (k := k + j) (by omega)
    have hn := hf (k + j + 1)
    have hp := p2 (wk f k)
    have key : ∀ (u : Int), 0 ≤ u → vk f k * (2 ^ wk f (k + j) * u) ≤ (vk f (k + j) * u + f.getD (k + j + 1) 0) * 2 ^ wk f k := fun u hu => by
      have a1 := Int.mul_le_mul_of_nonneg_right ih hu
      have a2 : 0 ≤ f.getD (k + j + 1) 0 * 2 ^ wk f k := Int.mul_nonneg hn (Int.le_of_lt hp)
      have e1 : vk f k * (2 ^ wk f (k + j) * u) = vk f k * 2 ^ wk f (k + j) * u := by rw [Int.mul_assoc]
      have e2 : vk f (k + j) * u * 2 ^ wk f k = vk f (k + j) * 2 ^ wk f k * u := by rw [Int.mul_assoc, Int.mul_comm u, ← Int.mul_assoc]
      rw [e1, Int.add_mul, e2]
      omega
    rw [← Nat.add_assoc]
    by_cases hc : f.getD (k + j) 0 = 255
    · obtain ⟨e1, e2⟩ := h1 hc
      rw [e1, e2, Int.pow_add]
      have q : (2 : Int) ^ 7 = 128 := by decide
      rw [q]
      exact key 128 (by decide)
    · obtain ⟨e1, e2⟩ := h2 hc
      rw [e1, e2, Int.pow_add]
      have q : (2 : Int) ^ 8 = 256 := by decide
      rw [q]
      exact key 256 (by decide)
/-- The bytes up to number m, read on with ones, serve the state s. -/
structure Fits (f : List Int) (m : Nat) (s : ES) : Prop where
  k0 : s.b.length ≤ m
  wt : ∀ k, k < s.b.length → wk f k ≤ (vw s.b).2.1
  new : ∀ k, s.b.length ≤ k → k ≤ m → low s * 2 ^ wk f k < (vk f k + 1) * 2 ^ res s
  hi : ∀ k, k ≤ m → vk f k * 2 ^ res s < (low s + s.a) * 2 ^ wk f k
  end_ : (vk f m + 1) * 2 ^ res s ≤ (low s + s.a) * 2 ^ wk f m
theorem vk_end {f : List Int} (h : 0 < f.length) : vk f (f.length - 1) = (vw f).1 ∧ wk f (f.length - 1) = (vw f).2.1 := by
  unfold vk wk
  rw [List.take_of_length_le (by omega)]
  exact ⟨rfl, rfl⟩
theorem Ends.hik {f : List Int} {s : ES} (h : Ends f s) (hf : ∀ k, 0 ≤ f.getD k 0) {k : Nat} (hk : k < f.length) : vk f k * 2 ^ res s < (low s + s.a) * 2 ^ wk f k := by
  have hlen := h.len
  obtain ⟨e1, e2⟩ := vk_end (f := f) (by omega)
  have h1 := vk_mono hf (k := k) (f.length - 1 - k) (by omega)
  rw [show k + (f.length - 1 - k) = f.length - 1 by omega] at h1
  have h2 := h.hi
  rw [← e1, ← e2] at h2
  generalize f.length - 1 = K at *
  have hA : vk f K * 2 ^ res s < (low s + s.a) * 2 ^ wk f K := by
    have := p2 (res s)
    rw [Int.add_mul, Int.one_mul] at h2
    omega
  have a1 := Int.mul_le_mul_of_nonneg_right h1 (Int.le_of_lt (p2 (res s)))
  have a2 := Int.mul_lt_mul_of_pos_right hA (p2 (wk f k))
  have e3 : vk f K * 2 ^ wk f k * 2 ^ res s = vk f K * 2 ^ res s * 2 ^ wk f k := by rw [Int.mul_assoc, Int.mul_comm (2 ^ wk f k), ← Int.mul_assoc]
  rw [e3] at a1
  have a3 := Int.lt_of_le_of_lt a1 a2
  have e4 : vk f k * 2 ^ wk f K * 2 ^ res s = vk f k * 2 ^ res s * 2 ^ wk f K := by rw [Int.mul_assoc, Int.mul_comm (2 ^ wk f K), ← Int.mul_assoc]
  have e5 : (low s + s.a) * 2 ^ wk f K * 2 ^ wk f k = (low s + s.a) * 2 ^ wk f k * 2 ^ wk f K := by rw [Int.mul_assoc, Int.mul_comm (2 ^ wk f K), ← Int.mul_assoc]
  rw [e4, e5] at a3
  exact Int.lt_of_mul_lt_mul_right a3 (Int.le_of_lt (p2 _))
theorem Ends.wtk {f : List Int} {s : ES} (h : Ends f s) (hs : 0 < s.b.length) {k : Nat} (hk : k < s.b.length) : wk f k ≤ (vw s.b).2.1 := by
  have hlen := h.len
  have h1 := wk_mono (f := f) (k := k) (s.b.length - 1 - k) (by omega)
  rw [show k + (s.b.length - 1 - k) = s.b.length - 1 by omega] at h1
  have e : wk f (s.b.length - 1) = (vw s.b).2.1 := by
    unfold wk
    rw [show s.b.length - 1 + 1 = s.b.length by omega]
    exact h.wt
  omega
/-- All bytes serve. -/
theorem fits_all {f : List Int} {s : ES} (h : Ends f s) (hs : 0 < s.b.length) (hf : ∀ k, 0 ≤ f.getD k 0) : Fits f (f.length - 1) s := by
  have hlen := h.len
  obtain ⟨e1, e2⟩ := vk_end (f := f) (by omega)
  exact ⟨by omega, fun k hk => h.wtk hs hk, fun k h1 h2 => h.new k h1 (by omega), fun k hk => h.hik hf (by omega), by rw [e1, e2]; exact h.hi⟩
/-- So does a front that has five more than were out. -/
theorem fits_front {f : List Int} {s n : ES} (h : Ends f s) (hs : 0 < s.b.length) (hf : ∀ k, 0 ≤ f.getD k 0) (ha : After s n) (hn : Ends f n) (hct : 1 ≤ n.ct) (hlen : n.b.length + 4 < f.length) : Fits f (n.b.length + 4) s := by
  have h1 := ha.len
  have h2 := ha.rs
  have hw1 := wk_mono (f := f) (k := n.b.length - 1) 5 (by omega)
  have e : wk f (n.b.length - 1) = (vw n.b).2.1 := by
    unfold wk
    rw [show n.b.length - 1 + 1 = n.b.length by omega]
    exact hn.wt
  rw [show n.b.length - 1 + 5 = n.b.length + 4 by omega] at hw1
  have hr : res n = (vw n.b).2.1 + bel n := rfl
  have hb : bel n ≤ 26 := by unfold bel; omega
  refine ⟨by omega, fun k hk => h.wtk hs hk, fun k h3 h4 => h.new k h3 (by omega), fun k hk => h.hik hf (by omega), ?_⟩
  have hk := h.hik hf (k := n.b.length + 4) hlen
  obtain ⟨d, hd⟩ : ∃ d, wk f (n.b.length + 4) = res s + d := ⟨wk f (n.b.length + 4) - res s, by omega⟩
  rw [hd, Int.pow_add, Int.mul_comm (2 ^ res s), ← Int.mul_assoc] at hk ⊢
  have h5 := Int.lt_of_mul_lt_mul_right hk (Int.le_of_lt (p2 _))
  exact Int.mul_le_mul_of_nonneg_right (by omega) (Int.le_of_lt (p2 _))
/-- What a reader of the first m told bytes has got: the number, its bits, the place. -/
def Rds (f : List Int) (m : Nat) (l : List Int) (t : Int) (w p : Nat) : Prop :=
  (∃ k, 1 ≤ k ∧ k ≤ m ∧ t = vk f k ∧ w = wk f k ∧ p = k - 1) ∨ (∃ j, t + 1 = (vk f m + 1) * 2 ^ (8 * j) ∧ w = wk f m + 8 * j ∧ byteM l p = 255 ∧ byteM l (p + 1) = 255)
structure St (f : List Int) (m : Nat) (l : List Int) : Prop where
  len : m < f.length
  one : 1 ≤ m
  cln : Cln f
  rng : ∀ k, 0 ≤ f.getD k 0 ∧ f.getD k 0 ≤ 255
  at_ : ∀ k, k < m → byteM l k = f.getD (k + 1) 0
  beh : ∀ k, m ≤ k → byteM l k = 255
theorem Rds.in_ {f : List Int} {m : Nat} {l : List Int} (h : St f m l) {t : Int} {w p : Nat} (hr : Rds f m l t w p) (a c : Int) :
    ∃ (u : Nat) (x : Int) (p' : Nat), (u = 7 ∨ u = 8) ∧ 0 ≤ x ∧ x ≤ 255 ∧ Rds f m l (t * 2 ^ u + x) (w + u) p' ∧ ∀ ct, inM l ⟨a, c, ct, p⟩ = ⟨a, wrap64 (c + x * 2 ^ (16 - u)), u, p'⟩ := by
  have q7 : (2 : Int) ^ 7 = 128 := by decide
  have q8 : (2 : Int) ^ 8 = 256 := by decide
  have q9 : (2 : Int) ^ 9 = 512 := by decide
  rcases hr with ⟨k, h1, h2, rfl, rfl, rfl⟩ | ⟨j, h1, h2, h3, h4⟩
  · have hb := h.at_ (k - 1) (by omega)
    rw [show k - 1 + 1 = k by omega] at hb
    by_cases hk : k < m
    · have hn := h.at_ k hk
      have hl := h.len
      obtain ⟨s1, s2⟩ := vk_step (f := f) (k := k) (by omega)
      have hx := h.rng (k + 1)
      by_cases h255 : f.getD k 0 = 255
      · have hc := h.cln k h255
        obtain ⟨e1, e2⟩ := s1 h255
        refine ⟨7, f.getD (k + 1) 0, k, .inl rfl, hx.1, hx.2, .inl ⟨k + 1, by omega, by omega, by rw [q7]; exact e1.symm, e2.symm, by omega⟩, fun ct => ?_⟩
        unfold inM
        simp only
        rw [show k - 1 + 1 = k by omega, hb, hn, if_pos h255, if_neg (by omega)]
        rfl
      · obtain ⟨e1, e2⟩ := s2 h255
        refine ⟨8, f.getD (k + 1) 0, k, .inr rfl, hx.1, hx.2, .inl ⟨k + 1, by omega, by omega, by rw [q8]; exact e1.symm, e2.symm, by omega⟩, fun ct => ?_⟩
        unfold inM
        simp only
        rw [show k - 1 + 1 = k by omega, hb, hn, if_neg h255]
        rfl
    · obtain rfl : k = m := by omega
      have hn := h.beh k (Nat.le_refl _)
      have hj : vk f k * 2 ^ 8 + 255 + 1 = (vk f k + 1) * 2 ^ (8 * 1) := by rw [show 8 * 1 = 8 from rfl, q8]; omega
      by_cases h255 : f.getD k 0 = 255
      · refine ⟨8, 255, k - 1, .inr rfl, by decide, by decide, .inr ⟨1, hj, rfl, by rw [hb, h255], by rw [show k - 1 + 1 = k by omega, hn]⟩, fun ct => ?_⟩
        unfold inM
        simp only
        rw [show k - 1 + 1 = k by omega, hb, hn, if_pos h255, if_pos (by decide), q8]
        rfl
      · refine ⟨8, 255, k, .inr rfl, by decide, by decide, .inr ⟨1, hj, rfl, hn, h.beh (k + 1) (by omega)⟩, fun ct => ?_⟩
        unfold inM
        simp only
        rw [show k - 1 + 1 = k by omega, hb, hn, if_neg h255]
        rfl
  · refine ⟨8, 255, p, .inr rfl, by decide, by decide, .inr ⟨j + 1, ?_, by omega, h3, h4⟩, fun ct => ?_⟩
    · rw [show 8 * (j + 1) = 8 * j + 8 by omega, Int.pow_add, ← Int.mul_assoc, ← h1, q8]
      omega
    · unfold inM
      simp only
      rw [h3, h4, if_pos rfl, if_pos (by decide), q8]
      rfl
/-- So what it has is within the state's interval. -/
theorem Fits.bound {f : List Int} {m : Nat} {l : List Int} {s : ES} (h : Fits f m s) (hs : s.ct ≤ 12) {t : Int} {w p c : Nat} (hr : Rds f m l t w p) (hw : w = res s + c) : low s * 2 ^ c ≤ t ∧ t < (low s + s.a) * 2 ^ c := by
  have hp := p2 (res s)
  have hm : ∀ z : Int, z * 2 ^ (res s + c) = z * 2 ^ c * 2 ^ res s := fun z => by rw [Nat.add_comm, Int.pow_add, ← Int.mul_assoc]
  rcases hr with ⟨k, h1, h2, rfl, hwk, -⟩ | ⟨j, h1, h2, -, -⟩
  · have hk : s.b.length ≤ k := by
      rcases Nat.lt_or_ge k s.b.length with hlt | hge
      · have := h.wt k hlt
        have hb : 15 ≤ bel s := by unfold bel; omega
        have hr : res s = (vw s.b).2.1 + bel s := rfl
        omega
      · exact hge
    have h3 := h.new k hk h2
    have h4 := h.hi k h2
    rw [← hwk, hw, hm] at h3 h4
    have h5 := Int.lt_of_mul_lt_mul_right h3 (Int.le_of_lt hp)
    exact ⟨by omega, Int.lt_of_mul_lt_mul_right h4 (Int.le_of_lt hp)⟩
  · have h3 := h.new m h.k0 (Nat.le_refl _)
    have h4 := h.end_
    have hq := p2 (8 * j)
    have a3 := Int.mul_lt_mul_of_pos_right h3 hq
    have a4 := Int.mul_le_mul_of_nonneg_right h4 (Int.le_of_lt hq)
    have e1 : (vk f m + 1) * 2 ^ res s * 2 ^ (8 * j) = (t + 1) * 2 ^ res s := by rw [h1, Int.mul_assoc, Int.mul_comm (2 ^ res s), ← Int.mul_assoc]
    have e2 : ∀ z : Int, z * 2 ^ wk f m * 2 ^ (8 * j) = z * 2 ^ c * 2 ^ res s := fun z => by rw [Int.mul_assoc, ← Int.pow_add, ← h2, hw, hm]
    rw [e1, e2] at a3 a4
    have h5 := Int.lt_of_mul_lt_mul_right a3 (Int.le_of_lt hp)
    have h6 := Int.le_of_mul_le_mul_right a4 hp
    exact ⟨by omega, by omega⟩
end Go.Proofs.Ytcieeoobobafmaa
