/-
  What Set does to a tree's numbers, in plain words: each node above the leaves holds the least of those beneath it. Conditions: none.
-/
import Derived.Test.YtbkffpedigeflaaTreeSet
import Derived.Test.YtbkffpedigeflaaTreeEnc
import Derived.Test.YtbkffpedigeflaaTreeKnown
namespace Go.Proofs.Ytbkffpedigeflaa
open Go.RowKit

/-- Each node above the leaves holds the least of those beneath it. -/
def Cons (W H L : Nat) (N : Nat → Nat → Nd) : Prop := ∀ i, i + 1 < L → ∀ x y, x < upN (i + 1) W → y < upN (i + 1) H → (N (i + 1) (y * upN (i + 1) W + x)).n = leastM W H N i x y
theorem lstep_congr {W H : Nat} {N M : Nat → Nat → Nd} {i x y dy dx : Nat} {n : Int} (h : 2 * x + dx < upN i W → 2 * y + dy < upN i H → (N i ((2 * y + dy) * upN i W + (2 * x + dx))).n = (M i ((2 * y + dy) * upN i W + (2 * x + dx))).n) :
    lstep W H N i x y dy dx n = lstep W H M i x y dy dx n := by
  unfold lstep
  split
  · rename_i hh
    rw [h hh.1 hh.2]
  · rfl
theorem leastM_congr {W H : Nat} {N M : Nat → Nat → Nd} {i x y : Nat} (hx : 2 * x < upN i W) (hy : 2 * y < upN i H)
    (h : ∀ dy dx, dy < 2 → dx < 2 → 2 * x + dx < upN i W → 2 * y + dy < upN i H → (N i ((2 * y + dy) * upN i W + (2 * x + dx))).n = (M i ((2 * y + dy) * upN i W + (2 * x + dx))).n) :
    leastM W H N i x y = leastM W H M i x y := by
  show lstep W H N i x y 1 1 (lstep W H N i x y 1 0 (lstep W H N i x y 0 1 (lstep W H N i x y 0 0 (N i (2 * y * upN i W + 2 * x)).n))) = lstep W H M i x y 1 1 (lstep W H M i x y 1 0 (lstep W H M i x y 0 1 (lstep W H M i x y 0 0 (M i (2 * y * upN i W + 2 * x)).n)))
  have e := h 0 0 (by omega) (by omega) hx hy
  simp only [Nat.add_zero] at e
  rw [e, lstep_congr (h 0 0 (by omega) (by omega)), lstep_congr (h 0 1 (by omega) (by omega)), lstep_congr (h 1 0 (by omega) (by omega)), lstep_congr (h 1 1 (by omega) (by omega))]
theorem lstep_le {W H : Nat} {N : Nat → Nat → Nd} {i x y dy dx : Nat} {n : Int} : lstep W H N i x y dy dx n ≤ n := by
  unfold lstep
  split
  · omega
  · exact Int.le_refl _
theorem lstep_le' {W H : Nat} {N : Nat → Nat → Nd} {i x y dy dx : Nat} {n : Int} (h1 : 2 * x + dx < upN i W) (h2 : 2 * y + dy < upN i H) : lstep W H N i x y dy dx n ≤ (N i ((2 * y + dy) * upN i W + (2 * x + dx))).n := by
  unfold lstep
  rw [if_pos ⟨h1, h2⟩]
  omega
theorem leastM_le {W H : Nat} {N : Nat → Nat → Nd} {i x y dy dx : Nat} (hdy : dy < 2) (hdx : dx < 2) (h1 : 2 * x + dx < upN i W) (h2 : 2 * y + dy < upN i H) : leastM W H N i x y ≤ (N i ((2 * y + dy) * upN i W + (2 * x + dx))).n := by
  show lstep W H N i x y 1 1 (lstep W H N i x y 1 0 (lstep W H N i x y 0 1 (lstep W H N i x y 0 0 (N i (2 * y * upN i W + 2 * x)).n))) ≤ _
  match dy, dx, hdy, hdx with
  | 1, 1, _, _ => exact lstep_le' h1 h2
  | 1, 0, _, _ => exact Int.le_trans lstep_le (lstep_le' h1 h2)
  | 0, 1, _, _ => exact Int.le_trans lstep_le (Int.le_trans lstep_le (lstep_le' h1 h2))
  | 0, 0, _, _ => exact Int.le_trans lstep_le (Int.le_trans lstep_le (Int.le_trans lstep_le (lstep_le' h1 h2)))
theorem lstep_same {W H : Nat} {N : Nat → Nat → Nd} {i x y dy dx : Nat} {n : Int} (h : 2 * x + dx < upN i W → 2 * y + dy < upN i H → (N i ((2 * y + dy) * upN i W + (2 * x + dx))).n = n) : lstep W H N i x y dy dx n = n := by
  unfold lstep
  split
  · rename_i hh
    rw [h hh.1 hh.2]; omega
  · rfl
theorem ix_lt {W H i x y : Nat} (hx : x < upN i W) (hy : y < upN i H) : y * upN i W + x < sz W H i := by
  have h3 : (y + 1) * upN i W ≤ upN i H * upN i W := Nat.mul_le_mul_right _ hy
  rw [Nat.add_mul, Nat.one_mul] at h3
  unfold sz
  rw [Nat.mul_comm (upN i W)]
  omega
theorem two_lt {i x W : Nat} (hx : x < upN (i + 1) W) : 2 * x < upN i W := by
  have : upN (i + 1) W = (upN i W + 1) / 2 := rfl
  omega
theorem ix_inj {w x y x' y' : Nat} (hx : x < w) (hx' : x' < w) (h : y * w + x = y' * w + x') : x = x' ∧ y = y' := by
  have h1 : (y * w + x) % w = x := by rw [Nat.mul_comm, Nat.mul_add_mod, Nat.mod_eq_of_lt hx]
  have h2 : (y' * w + x') % w = x' := by rw [Nat.mul_comm, Nat.mul_add_mod, Nat.mod_eq_of_lt hx']
  have h3 : (y * w + x) / w = y := by rw [Nat.mul_comm, Nat.mul_add_div (by omega), Nat.div_eq_of_lt hx, Nat.add_zero]
  have h4 : (y' * w + x') / w = y' := by rw [Nat.mul_comm, Nat.mul_add_div (by omega), Nat.div_eq_of_lt hx', Nat.add_zero]
  rw [h] at h1 h3
  exact ⟨h1.symm.trans h2, h3.symm.trans h4⟩

section
variable {W H k : Nat} {z : Int} {N : Nat → Nat → Nd}
theorem setI_up : ∀ (r i : Nat), r < i → setI W H k z N r i = N i
  | 0, i, h => updT_ne _ _ _ (by omega)
  | r + 1, i, h => by
    show updT (setI W H k z N r) (r + 1) _ _ i = N i
    rw [updT_ne _ _ _ (by omega)]
    exact setI_up r i (by omega)
theorem setI_down : ∀ (r i : Nat), i ≤ r → setI W H k z N r i = setI W H k z N i i
  | 0, i, h => by obtain rfl : i = 0 := by omega
                  rfl
  | r + 1, i, h => by
    by_cases e : i = r + 1
    · subst e; rfl
    · rw [show setI W H k z N (r + 1) i = setI W H k z N r i from updT_ne _ _ _ e]
      exact setI_down r i (by omega)
theorem updT_rest (M : Nat → Nat → Nd) (a b i j : Nat) (x : Nd) (h1 : x.low = (M a b).low) (h2 : x.said = (M a b).said) : (updT M a b x i j).low = (M i j).low ∧ (updT M a b x i j).said = (M i j).said := by
  by_cases e : i = a
  · subst e
    rw [updT_at]
    by_cases e2 : j = b
    · subst e2; rw [upd_same]; exact ⟨h1, h2⟩
    · rw [upd_ne _ _ e2]; exact ⟨rfl, rfl⟩
  · rw [updT_ne _ _ _ e]; exact ⟨rfl, rfl⟩
theorem setI_rest : ∀ (r i j : Nat), (setI W H k z N r i j).low = (N i j).low ∧ (setI W H k z N r i j).said = (N i j).said
  | 0, i, j => updT_rest N 0 k i j _ rfl rfl
  | r + 1, i, j => by
    have ih := setI_rest r i j
    have h := updT_rest (setI W H k z N r) (r + 1) (idx W (r + 1) k) i j { setI W H k z N r (r + 1) (idx W (r + 1) k) with n := leastM W H (setI W H k z N r) r (k % W / 2 ^ (r + 1)) (k / W / 2 ^ (r + 1)) } rfl rfl
    exact ⟨h.1.trans ih.1, h.2.trans ih.2⟩
theorem setI_leaf (r j : Nat) : (setI W H k z N r 0 j).n = if j = k then z else (N 0 j).n := by
  rw [setI_down r 0 (by omega)]
  show (updT N 0 k { N 0 k with n := z } 0 j).n = _
  rw [updT_at]
  unfold upd
  split <;> rfl
/-- Set keeps it so. -/
theorem Cons.set {L : Nat} (hW : 0 < W) (hk : k < W * H) (h : Cons W H L N) : Cons W H L (setI W H k z N (L - 1)) := by
  intro i hi x y hx hy
  have hX : ∀ r, k % W / 2 ^ r < upN r W := fun r => div_lt_up (Nat.mod_lt k hW) r
  have hY : ∀ r, k / W / 2 ^ r < upN r H := fun r => div_lt_up (by rw [Nat.div_lt_iff_lt_mul hW, Nat.mul_comm]; exact hk) r
  have hc : leastM W H (setI W H k z N (L - 1)) i x y = leastM W H (setI W H k z N i) i x y := by
    refine leastM_congr (two_lt hx) (two_lt hy) (fun dy dx _ _ _ _ => ?_)
    rw [setI_down (L - 1) i (by omega)]
  rw [hc, setI_down (L - 1) (i + 1) (by omega)]
  show (updT (setI W H k z N i) (i + 1) (idx W (i + 1) k) { setI W H k z N i (i + 1) (idx W (i + 1) k) with n := leastM W H (setI W H k z N i) i (k % W / 2 ^ (i + 1)) (k / W / 2 ^ (i + 1)) } (i + 1) (y * upN (i + 1) W + x)).n = _
  rw [updT_at]
  by_cases e : y * upN (i + 1) W + x = idx W (i + 1) k
  · rw [e, upd_same]
    obtain ⟨e1, e2⟩ := ix_inj hx (hX (i + 1)) e
    rw [← e1, ← e2]
  · rw [upd_ne _ _ e, setI_up i (i + 1) (by omega), h i hi x y hx hy]
    refine leastM_congr (two_lt hx) (two_lt hy) (fun dy dx hdy hdx hx2 hy2 => ?_)
    have hne : (2 * y + dy) * upN i W + (2 * x + dx) ≠ idx W i k := fun e' => by
      obtain ⟨e1, e2⟩ := ix_inj hx2 (hX i) e'
      apply e
      unfold idx
      rw [Nat.pow_succ, ← Nat.div_div_eq_div_mul, ← Nat.div_div_eq_div_mul, ← e1, ← e2, show (2 * x + dx) / 2 = x by omega, show (2 * y + dy) / 2 = y by omega]
    cases i with
    | zero =>
      rw [show setI W H k z N 0 0 = upd (N 0) k { N 0 k with n := z } from updT_at _ _ _ _, upd_ne _ _ (by rw [idx0] at hne; exact hne)]
    | succ i =>
      rw [show setI W H k z N (i + 1) (i + 1) = upd (setI W H k z N i (i + 1)) (idx W (i + 1) k) { setI W H k z N i (i + 1) (idx W (i + 1) k) with n := leastM W H (setI W H k z N i) i (k % W / 2 ^ (i + 1)) (k / W / 2 ^ (i + 1)) } from updT_at _ _ _ _, upd_ne _ _ hne, setI_up i (i + 1) (by omega)]
end
theorem leastM_same {W H : Nat} {N : Nat → Nat → Nd} {i x y : Nat} {n : Int} (hx : 2 * x < upN i W) (hy : 2 * y < upN i H)
    (h : ∀ x' y', x' < upN i W → y' < upN i H → (N i (y' * upN i W + x')).n = n) : leastM W H N i x y = n := by
  show lstep W H N i x y 1 1 (lstep W H N i x y 1 0 (lstep W H N i x y 0 1 (lstep W H N i x y 0 0 (N i (2 * y * upN i W + 2 * x)).n))) = n
  rw [h _ _ hx hy, lstep_same (h _ _), lstep_same (h _ _), lstep_same (h _ _), lstep_same (h _ _)]
theorem Cons.zero (W H L : Nat) : Cons W H L (fun _ _ => nd0) := fun i hi x y hx hy => (leastM_same (two_lt hx) (two_lt hy) (fun _ _ _ _ => rfl)).symm
/-- Equal leaves, equal nodes. -/
theorem Cons.all {W H L : Nat} {N : Nat → Nat → Nd} {n : Int} (h : Cons W H L N) (h0 : ∀ j, j < W * H → (N 0 j).n = n) : ∀ i, i < L → ∀ x y, x < upN i W → y < upN i H → (N i (y * upN i W + x)).n = n
  | 0, _, x, y, hx, hy => h0 _ (ix_lt (i := 0) hx hy)
  | i + 1, hi, x, y, hx, hy => by
    rw [h i hi x y hx hy]
    exact leastM_same (two_lt hx) (two_lt hy) (fun x' y' hx' hy' => Cons.all h h0 i (by omega) x' y' hx' hy')
/-- A node is no less than the one above it. -/
theorem Cons.up {W H L k : Nat} {N : Nat → Nat → Nd} (h : Cons W H L N) (hW : 0 < W) (hk : k < W * H) {i : Nat} (hi : i + 1 < L) : (N (i + 1) (idx W (i + 1) k)).n ≤ (N i (idx W i k)).n := by
  have hX : ∀ r, k % W / 2 ^ r < upN r W := fun r => div_lt_up (Nat.mod_lt k hW) r
  have hY : ∀ r, k / W / 2 ^ r < upN r H := fun r => div_lt_up (by rw [Nat.div_lt_iff_lt_mul hW, Nat.mul_comm]; exact hk) r
  have h1 := h i hi _ _ (hX (i + 1)) (hY (i + 1))
  have ex : k % W / 2 ^ (i + 1) = k % W / 2 ^ i / 2 := by rw [Nat.pow_succ, ← Nat.div_div_eq_div_mul]
  have ey : k / W / 2 ^ (i + 1) = k / W / 2 ^ i / 2 := by rw [Nat.pow_succ, ← Nat.div_div_eq_div_mul]
  have hx := hX i
  have hy := hY i
  have h2 := leastM_le (W := W) (H := H) (N := N) (i := i) (x := k % W / 2 ^ (i + 1)) (y := k / W / 2 ^ (i + 1)) (dx := k % W / 2 ^ i % 2) (dy := k / W / 2 ^ i % 2) (by omega) (by omega) (by omega) (by omega)
  rw [show 2 * (k % W / 2 ^ (i + 1)) + k % W / 2 ^ i % 2 = k % W / 2 ^ i by omega, show 2 * (k / W / 2 ^ (i + 1)) + k / W / 2 ^ i % 2 = k / W / 2 ^ i by omega] at h2
  show (N (i + 1) (k / W / 2 ^ (i + 1) * upN (i + 1) W + k % W / 2 ^ (i + 1))).n ≤ (N i (k / W / 2 ^ i * upN i W + k % W / 2 ^ i)).n
  rw [h1]
  exact h2
end Go.Proofs.Ytbkffpedigeflaa
