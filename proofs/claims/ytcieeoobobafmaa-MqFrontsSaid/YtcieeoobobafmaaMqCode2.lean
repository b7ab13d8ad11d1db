/-
  The bytes that Flush gives hold each state's number within its interval. In plain Lean. Conditions: none.
-/
import Derived.Test.YtcieeoobobafmaaMqCode
namespace Go.Proofs.Ytcieeoobobafmaa
open Go.RowKit

theorem After.shiftN {s t : ES} (h : After s t) : ∀ m : Nat, (m : Int) ≤ t.ct → t.ct ≤ 27 → After s ⟨t.a * 2 ^ m, t.c * 2 ^ m, t.ct - m, t.b⟩
  | 0, _, _ => by
    have e : (⟨t.a * 2 ^ 0, t.c * 2 ^ 0, t.ct - (0 : Nat), t.b⟩ : ES) = t := by
      obtain ⟨a, c, ct, b⟩ := t
      simp
    rw [e]; exact h
  | m + 1, h1, h2 => by
    have ih := After.shiftN h m (by omega) h2
    have := ih.shift (by show t.ct - m ≤ 27; omega)
    have e : (⟨t.a * 2 ^ (m + 1), t.c * 2 ^ (m + 1), t.ct - ((m + 1 : Nat) : Int), t.b⟩ : ES) = ⟨t.a * 2 ^ m * 2, t.c * 2 ^ m * 2, t.ct - m - 1, t.b⟩ := by
      rw [Int.pow_succ, ← Int.mul_assoc, ← Int.mul_assoc]
      congr 1
      omega
    rw [e]; exact this
theorem outM_same (a a' c ct ct' : Int) (b : List Int) : (outM ⟨a, c, ct, b⟩).b = (outM ⟨a', c, ct', b⟩).b ∧ (outM ⟨a, c, ct, b⟩).c = (outM ⟨a', c, ct', b⟩).c ∧ (outM ⟨a, c, ct, b⟩).ct = (outM ⟨a', c, ct', b⟩).ct := by
  unfold outM
  by_cases h1 : lastM b = 255
  · rw [if_pos h1, if_pos h1]; exact ⟨rfl, rfl, rfl⟩
  · rw [if_neg h1, if_neg h1]
    by_cases h2 : 134217728 ≤ c
    · rw [if_pos h2, if_pos h2]
      by_cases h3 : lastM b + 1 = 255
      · rw [if_pos h3, if_pos h3]; exact ⟨rfl, rfl, rfl⟩
      · rw [if_neg h3, if_neg h3]; exact ⟨rfl, rfl, rfl⟩
    · rw [if_neg h2, if_neg h2]; exact ⟨rfl, rfl, rfl⟩
/-- All bytes, the first is never told. -/
def finB (s : ES) : List Int := (flM (flM ⟨s.a, endC s.c s.a, s.ct, s.b⟩)).b
structure Ends (f : List Int) (s : ES) : Prop where
  len : s.b.length + 2 ≤ f.length
  wt : (vw (f.take s.b.length)).2.1 = (vw s.b).2.1
  new : ∀ k, s.b.length ≤ k → k < f.length → low s * 2 ^ wk f k < (vk f k + 1) * 2 ^ res s
  hi : ((vw f).1 + 1) * 2 ^ res s ≤ (low s + s.a) * 2 ^ (vw f).2.1
theorem endC_low (c a : Int) (ha : 32768 ≤ a) : c ≤ endC c a ∧ ∃ g, endC c a = g * 32768 + 32767 := by
  unfold endC
  split
  · exact ⟨by omega, c / 65536 * 2, by omega⟩
  · exact ⟨by omega, c / 65536 * 2 + 1, by omega⟩
theorem ends_of {s n : ES} (h : After s n) (hs : 0 < s.b.length) (hi : EInv n) (ha : 32768 ≤ n.a) : Ends (finB n) s := by
  obtain ⟨l1, g, l2⟩ := endC_low n.c n.a ha
  obtain ⟨h0, h1⟩ := endC_lt n.c n.a ha hi.c0
  have hct1 := hi.ct1
  have hct12 := hi.ct12
  have hsplit := h.split (a := n.c + n.a - endC n.c n.a) (c := endC n.c n.a) l1 (by omega)
  obtain ⟨m, hm⟩ : ∃ m : Nat, n.ct = m := ⟨n.ct.toNat, by omega⟩
  have hm2 : n.ct.toNat = m := by omega
  obtain ⟨X, hX⟩ : ∃ X, endC n.c n.a = X := ⟨_, rfl⟩
  obtain ⟨al, hal⟩ : ∃ al, n.c + n.a - X = al := ⟨_, rfl⟩
  rw [hX] at l1 l2 h0 h1 hsplit
  rw [hal] at hsplit
  have t2 := hsplit.shiftN m (by show (m : Int) ≤ n.ct; omega) (by show n.ct ≤ 27; omega)
  simp only at t2
  have hPp := p2 m
  have hX2 : 0 ≤ X * 2 ^ m := Int.mul_nonneg h0 (Int.le_of_lt hPp)
  have hb0 := hi.some_
  obtain ⟨p, y, hb⟩ := snoc_of (l := n.b) hb0
  have t3 := t2.out hs (by show n.ct - m = 0; omega) hX2
  obtain ⟨-, -, c0, -, hc, ⟨y', z', hb3, -⟩, j3, hj3⟩ := out_num (s := ⟨al * 2 ^ m, X * 2 ^ m, n.ct - m, n.b⟩) hb (by show n.ct - m = 0; omega) hX2
  have ha3 : (outM ⟨al * 2 ^ m, X * 2 ^ m, n.ct - m, n.b⟩).a = al * 2 ^ m := outM_a _
  have hl3 : (outM ⟨al * 2 ^ m, X * 2 ^ m, n.ct - m, n.b⟩).b.length = n.b.length + 1 := outM_len _
  have hfl : flM ⟨n.a, X, n.ct, n.b⟩ = outM ⟨n.a, X * 2 ^ m, n.ct, n.b⟩ := by unfold flM; simp only; rw [hm2]
  obtain ⟨s1, s2, s3⟩ := outM_same n.a (al * 2 ^ m) (X * 2 ^ m) n.ct (n.ct - m) n.b
  have hlen := h.len
  generalize outM ⟨al * 2 ^ m, X * 2 ^ m, n.ct - m, n.b⟩ = u at *
  obtain ⟨m3, hm3⟩ : ∃ m3 : Nat, u.ct = m3 := ⟨u.ct.toNat, by omega⟩
  have t4 := t3.shiftN m3 (by omega) (by omega)
  have hC4 : 0 ≤ u.c * 2 ^ m3 := Int.mul_nonneg c0 (Int.le_of_lt (p2 m3))
  have t5 := t4.out hs (by show u.ct - m3 = 0; omega) hC4
  obtain ⟨-, -, d0, d1, hd, -, j5, hj5⟩ := out_num (s := ⟨u.a * 2 ^ m3, u.c * 2 ^ m3, u.ct - m3, u.b⟩) hb3 (by show u.ct - m3 = 0; omega) hC4
  have ha5 : (outM ⟨u.a * 2 ^ m3, u.c * 2 ^ m3, u.ct - m3, u.b⟩).a = u.a * 2 ^ m3 := outM_a _
  have hl5 : (outM ⟨u.a * 2 ^ m3, u.c * 2 ^ m3, u.ct - m3, u.b⟩).b.length = u.b.length + 1 := outM_len _
  have hfin : finB n = (outM ⟨u.a * 2 ^ m3, u.c * 2 ^ m3, u.ct - m3, u.b⟩).b := by
    unfold finB
    rw [hX, hfl]
    have e : flM (outM ⟨n.a, X * 2 ^ m, n.ct, n.b⟩) = outM ⟨(outM ⟨n.a, X * 2 ^ m, n.ct, n.b⟩).a, u.c * 2 ^ m3, u.ct, u.b⟩ := by
      unfold flM
      rw [s1, s2, s3, show u.ct.toNat = m3 by omega]
    rw [e]
    exact (outM_same _ _ _ _ _ _).1
  rw [hfin]
  generalize outM ⟨u.a * 2 ^ m3, u.c * 2 ^ m3, u.ct - m3, u.b⟩ = v at *
  refine ⟨by omega, t5.wt, t5.new, ?_⟩
  have hrv : res v = (vw v.b).2.1 + bel v := rfl
  have hlv : low v = (vw v.b).1 * 2 ^ bel v + v.c := rfl
  have htop := t5.hi
  have key : (2 : Int) ^ bel v ≤ v.c + v.a := by
    have hal1 : 1 ≤ al := by omega
    have hav : v.a = al * 2 ^ m * 2 ^ m3 := by rw [ha5, ha3]
    have hav2 : 2 ^ m * 2 ^ m3 ≤ v.a := by
      rw [hav, Int.mul_assoc]
      have h1 : (0 : Int) < 2 ^ m * 2 ^ m3 := Int.mul_pos hPp (p2 m3)
      have h2 := Int.mul_le_mul_of_nonneg_right hal1 (Int.le_of_lt h1)
      rw [Int.one_mul] at h2
      exact h2
    have hXP : X * 2 ^ m = (g * 2 ^ m) * 32768 + 32767 * 2 ^ m := by rw [l2, Int.add_mul]; congr 1; rw [Int.mul_assoc, Int.mul_comm 32768, ← Int.mul_assoc]
    simp only at hj3 hj5
    rw [hXP] at hj3
    rw [hj3] at hj5
    generalize g * 2 ^ m = G at *
    generalize (2 : Int) ^ m = P at *
    have q19 : (2 : Int) ^ 19 = 524288 := by decide
    have q20 : (2 : Int) ^ 20 = 1048576 := by decide
    have q7 : (2 : Int) ^ 7 = 128 := by decide
    have q8 : (2 : Int) ^ 8 = 256 := by decide
    have hbu : bel u = 20 ∧ m3 = 7 ∨ bel u = 19 ∧ m3 = 8 := by
      rcases hc with h | h
      · left; exact ⟨by unfold bel; rw [h]; rfl, by omega⟩
      · right; exact ⟨by unfold bel; rw [h]; rfl, by omega⟩
    have hbv : bel v = 20 ∨ bel v = 19 := by
      rcases hd with h | h
      · left; unfold bel; rw [h]; rfl
      · right; unfold bel; rw [h]; rfl
    rcases hbu with ⟨e1, e2⟩ | ⟨e1, e2⟩
    · rw [e2, q7] at hav2
      rw [e1, e2, q7, q20] at hj5
      rcases hbv with e3 | e3
      · rw [e3, q20] at hj5 ⊢
        omega
      · rw [e3, q19] at hj5 ⊢
        omega
    · rw [e2, q8] at hav2
      rw [e1, e2, q8, q19] at hj5
      rcases hbv with e3 | e3
      · rw [e3, q20] at hj5 ⊢
        omega
      · rw [e3, q19] at hj5 ⊢
        omega
  have h2 : ((vw v.b).1 + 1) * 2 ^ bel v ≤ low v + v.a := by rw [hlv, Int.add_mul, Int.one_mul]; omega
  have h3 := Int.le_trans (Int.mul_le_mul_of_nonneg_right h2 (Int.le_of_lt (p2 (res s)))) htop
  rw [hrv, Int.pow_add, ← Int.mul_assoc] at h3
  have e3 : ((vw v.b).1 + 1) * 2 ^ bel v * 2 ^ res s = ((vw v.b).1 + 1) * 2 ^ res s * 2 ^ bel v := by rw [Int.mul_assoc, Int.mul_comm (2 ^ bel v), ← Int.mul_assoc]
  rw [e3] at h3
  exact Int.le_of_mul_le_mul_right h3 (p2 _)
end Go.Proofs.Ytcieeoobobafmaa
