/-
  The coder's bytes: behind a byte 255 none is above 143. In plain Lean. Conditions: none.
-/
import Derived.Test.YtcieeoobobafmaaMqRun
namespace Go.Proofs.Ytcieeoobobafmaa
open Go.RowKit

def Cln (l : List Int) : Prop := ∀ i, l.getD i 0 = 255 → l.getD (i + 1) 0 ≤ 143
theorem snoc_of {l : List Int} (h : 0 < l.length) : ∃ p y, l = p ++ [y] := by
  exact ⟨l.dropLast, lastM l, (snoc_last l h).symm⟩
theorem Cln.snoc {p : List Int} {y : Int} (h : Cln p) (hy : lastM p = 255 → y ≤ 143) : Cln (p ++ [y]) := by
  intro i hi
  by_cases h1 : i + 1 < p.length
  · have e1 : (p ++ [y]).getD i 0 = p.getD i 0 := by rw [List.getD_eq_getElem?_getD, List.getElem?_append_left (by omega), List.getD_eq_getElem?_getD]
    have e2 : (p ++ [y]).getD (i + 1) 0 = p.getD (i + 1) 0 := by rw [List.getD_eq_getElem?_getD, List.getElem?_append_left h1, List.getD_eq_getElem?_getD]
    rw [e1] at hi
    rw [e2]
    exact h i hi
  · by_cases h2 : i + 1 = p.length
    · have e1 : (p ++ [y]).getD i 0 = p.getD i 0 := by rw [List.getD_eq_getElem?_getD, List.getElem?_append_left (by omega), List.getD_eq_getElem?_getD]
      have e2 : (p ++ [y]).getD (i + 1) 0 = y := by rw [List.getD_eq_getElem?_getD, h2, List.getElem?_append_right (Nat.le_refl _), Nat.sub_self]; rfl
      rw [e1] at hi
      rw [e2]
      apply hy
      unfold lastM
      rw [← h2]
      exact hi
    · have e2 : (p ++ [y]).getD (i + 1) 0 = 0 := by rw [List.getD_eq_getElem?_getD, List.getElem?_eq_none (by rw [List.length_append, List.length_singleton]; omega)]; rfl
      rw [e2]; decide
theorem Cln.left {p : List Int} {y : Int} (h : Cln (p ++ [y])) : Cln p := by
  intro i hi
  by_cases h1 : i + 1 < p.length
  · have e1 : (p ++ [y]).getD i 0 = p.getD i 0 := by rw [List.getD_eq_getElem?_getD, List.getElem?_append_left (by omega), List.getD_eq_getElem?_getD]
    have e2 : (p ++ [y]).getD (i + 1) 0 = p.getD (i + 1) 0 := by rw [List.getD_eq_getElem?_getD, List.getElem?_append_left h1, List.getD_eq_getElem?_getD]
    rw [← e2]
    exact h i (by rw [e1]; exact hi)
  · have e2 : p.getD (i + 1) 0 = 0 := by rw [List.getD_eq_getElem?_getD, List.getElem?_eq_none (by omega)]; rfl
    rw [e2]; decide
theorem Cln.tail {l : List Int} (h : Cln l) : Cln l.tail := by
  intro i hi
  have e : ∀ j, l.tail.getD j 0 = l.getD (j + 1) 0 := fun j => by rw [List.getD_eq_getElem?_getD, List.getElem?_tail, List.getD_eq_getElem?_getD]
  rw [e] at hi ⊢
  exact h _ hi
/-- The bytes are clean, and what may yet be carried into the last one leaves it so. -/
def CI (u : Int) (s : ES) : Prop := ∃ p y, s.b = p ++ [y] ∧ Cln p ∧ (lastM p = 255 → y * 2 ^ (27 - s.ct).toNat + s.c + u ≤ 144 * 2 ^ (27 - s.ct).toNat)
theorem CI.cln {u : Int} {s : ES} (h : CI u s) (hu : 0 < u) (hc : 0 ≤ s.c) : Cln s.b := by
  obtain ⟨p, y, e, h1, h2⟩ := h
  rw [e]
  refine h1.snoc (fun hl => ?_)
  have := h2 hl
  have hp : (0 : Int) < 2 ^ (27 - s.ct).toNat := Int.pow_pos (by decide)
  by_cases hy : 143 < y
  · have : 144 * (2 : Int) ^ (27 - s.ct).toNat ≤ y * 2 ^ (27 - s.ct).toNat := Int.mul_le_mul_of_nonneg_right (by omega) (by omega)
    omega
  · omega
theorem clean_out {s : ES} {u : Int} {p : List Int} {y : Int} (hb : s.b = p ++ [y]) (hc : Cln p) (ht : lastM p = 255 → y * 134217728 + s.c + u ≤ 19327352832) (h0 : 0 ≤ s.c) (hu : 0 < u) (h9 : s.c + u ≤ 150994944) : CI u (outM s) := by
  have hl : lastM s.b = y := by rw [hb, lastM_snoc]
  have hset : s.b.set (s.b.length - 1) (y + 1) = p ++ [y + 1] := by
    rw [hb, List.length_append, List.length_singleton, Nat.add_sub_cancel, List.set_append_right _ _ (Nat.le_refl _), Nat.sub_self]
    rfl
  have e7 : (2 : Int) ^ (27 - 7 : Int).toNat = 1048576 := by decide
  have e8 : (2 : Int) ^ (27 - 8 : Int).toNat = 524288 := by decide
  unfold outM
  rw [hl]
  by_cases hy : y = 255
  · rw [if_pos hy]
    refine ⟨s.b, s.c / 1048576, rfl, ?_, fun _ => ?_⟩
    · rw [hb]
      exact hc.snoc (fun h => by have := ht h; omega)
    · show s.c / 1048576 * 2 ^ (27 - 7 : Int).toNat + s.c % 1048576 + u ≤ 144 * 2 ^ (27 - 7 : Int).toNat
      rw [e7]
      omega
  · rw [if_neg hy]
    by_cases hk : 134217728 ≤ s.c
    · rw [if_pos hk, hset]
      have hc2 : Cln (p ++ [y + 1]) := hc.snoc (fun h => by have := ht h; omega)
      by_cases hy2 : y + 1 = 255
      · rw [if_pos hy2]
        refine ⟨p ++ [y + 1], (s.c - 134217728) / 1048576, rfl, hc2, fun _ => ?_⟩
        show (s.c - 134217728) / 1048576 * 2 ^ (27 - 7 : Int).toNat + (s.c - 134217728) % 1048576 + u ≤ 144 * 2 ^ (27 - 7 : Int).toNat
        rw [e7]
        omega
      · rw [if_neg hy2]
        exact ⟨p ++ [y + 1], (s.c - 134217728) / 524288, rfl, hc2, fun h => by rw [lastM_snoc] at h; exact absurd h hy2⟩
    · rw [if_neg hk]
      refine ⟨s.b, s.c / 524288, rfl, ?_, fun h => by rw [hl] at h; exact absurd h hy⟩
      rw [hb]
      exact hc.snoc (fun h => by have := ht h; omega)
theorem CI.mono {u v : Int} {s t : ES} (h : CI u s) (hb : t.b = s.b) (hct : t.ct = s.ct) (hc : t.c + v ≤ s.c + u) : CI v t := by
  obtain ⟨p, y, e, h1, h2⟩ := h
  exact ⟨p, y, hb.trans e, h1, fun hl => by have := h2 hl; rw [hct]; omega⟩
theorem CI.dbl {s : ES} (h : CI s.a s) (hi : EInv s) : CI (dblM s).a (dblM s) := by
  obtain ⟨p, y, e, h1, h2⟩ := h
  have h12 := hi.ct12
  have hct1 := hi.ct1
  have h0 := hi.c0
  have ha := hi.a0
  have htop := hi.top
  rw [dblM_a]
  unfold dblM
  by_cases hc : s.ct - 1 = 0
  · rw [if_pos hc]
    have ect : s.ct = 1 := by omega
    rw [ect] at h2 htop
    have e26 : (2 : Int) ^ (27 - 1 : Int).toNat = 67108864 := by decide
    have e23 : (2 : Int) ^ (24 - 1 : Int).toNat = 8388608 := by decide
    rw [e26] at h2
    rw [e23] at htop
    exact clean_out (s := ⟨s.a * 2, s.c * 2, s.ct - 1, s.b⟩) (p := p) (y := y) e h1 (fun hl => by have := h2 hl; show y * 134217728 + s.c * 2 + _ ≤ _; omega) (by show 0 ≤ s.c * 2; omega) (by omega) (by show s.c * 2 + _ ≤ _; omega)
  · rw [if_neg hc]
    refine ⟨p, y, e, h1, fun hl => ?_⟩
    have := h2 hl
    show y * 2 ^ (27 - (s.ct - 1)).toNat + s.c * 2 + s.a * 2 ≤ 144 * 2 ^ (27 - (s.ct - 1)).toNat
    have e2 : (27 - (s.ct - 1)).toNat = (27 - s.ct).toNat + 1 := by omega
    have e3 : y * ((2 : Int) ^ (27 - s.ct).toNat * 2) = y * 2 ^ (27 - s.ct).toNat * 2 := by rw [Int.mul_assoc]
    rw [e2, Int.pow_succ, e3]
    omega
theorem CI.ren : ∀ (k : Nat) (t : ES), EInv t → t.a < 32768 → CI t.a t → CI (renM k t).a (renM k t)
  | 0, t, _, _, h => h
  | k + 1, t, hi, ha, h => by
    have hd := h.dbl hi
    have hid := hi.dbl ha
    by_cases hc : 32768 ≤ (dblM t).a
    · have e : renM (k + 1) t = dblM t := if_pos hc
      rw [e]; exact hd
    · have e : renM (k + 1) t = renM k (dblM t) := if_neg hc
      rw [e]; exact CI.ren k (dblM t) hid (by omega) hd
theorem CI.enc {s : ES} (h : CI s.a s) (hi : EInv s) (hlo : 32768 ≤ s.a) (hhi : s.a < 65536) {q : Nat} (q1 : 1 ≤ q) (q2 : q ≤ 22017) (is : Bool) : CI (encM s q is).a (encM s q is) := by
  have h0 := hi.c0
  have i1 : EInv ⟨q, s.c, s.ct, s.b⟩ := hi.step (by omega) (by omega) (by omega)
  have i2 : EInv ⟨s.a - q, s.c + q, s.ct, s.b⟩ := hi.step (by omega) (by omega) (by omega)
  have c1 : CI (q : Int) ⟨q, s.c, s.ct, s.b⟩ := h.mono rfl rfl (by show s.c + (q : Int) ≤ _; omega)
  have c2 : CI (s.a - q) ⟨s.a - q, s.c + q, s.ct, s.b⟩ := h.mono rfl rfl (by show s.c + q + (s.a - q) ≤ _; omega)
  unfold encM
  split
  · split
    · exact c2
    · split
      · exact CI.ren 16 _ i1 (by show (q : Int) < _; omega) c1
      · rename_i hc _
        exact CI.ren 16 _ i2 (by show s.a - q < _; omega) c2
  · split
    · rename_i hc
      exact CI.ren 16 _ i2 (by show s.a - q < _; omega) c2
    · exact CI.ren 16 _ i1 (by show (q : Int) < _; omega) c1
theorem CI.new : CI newM.a newM := ⟨[], 0, rfl, fun i hi => absurd hi (by rw [List.getD_eq_getElem?_getD, List.getElem?_nil]; decide), fun h => absurd h (by decide)⟩
theorem CI.step {s : ES × List (Nat × Nat)} (h : CI s.1.a s.1) (hr : Run s) (k : Nat) (bit : Int) : CI (encR s k bit).1.a (encR s k bit).1 := by
  obtain ⟨q1, q2⟩ := tab_q _ (hr.cx.st k)
  exact h.enc hr.inv hr.lo hr.hi q1 q2 _
/-- What Flush gives of clean bytes is clean, and its last is not 255. -/
theorem CI.flush {s : ES} (h : CI s.a s) (hi : EInv s) (hlo : 32768 ≤ s.a) : Cln (flushM (flushE s)) ∧ lastM (flushM (flushE s)) ≠ 255 := by
  have h1 := hi.ct1
  have h12 := hi.ct12
  have hc := endC_lt s.c s.a hlo hi.c0
  have hf := hi.fl hlo
  have hf2 := hf.fl
  have hp : (0 : Int) < 2 ^ s.ct.toNat := Int.pow_pos (by decide)
  have hp12 : (2 : Int) ^ s.ct.toNat ≤ 4096 := by
    have h0 : (2 : Nat) ^ s.ct.toNat ≤ 2 ^ 12 := Nat.pow_le_pow_right (by omega) (by omega)
    have h1 : (2 : Int) ^ s.ct.toNat ≤ 2 ^ 12 := by exact_mod_cast h0
    have h2 : (2 : Int) ^ 12 = 4096 := by decide
    omega
  have htop := hi.top
  obtain ⟨p, y, e, hcl, ht⟩ := h
  have e24 : (2 : Int) ^ (24 - s.ct).toNat * 2 ^ s.ct.toNat = 16777216 := by
    rw [← Int.pow_add, show (24 - s.ct).toNat + s.ct.toNat = 24 by omega]; decide
  have e27 : (2 : Int) ^ (27 - s.ct).toNat * 2 ^ s.ct.toNat = 134217728 := by
    rw [← Int.pow_add, show (27 - s.ct).toNat + s.ct.toNat = 27 by omega]; decide
  have hm : (endC s.c s.a + 1) * 2 ^ s.ct.toNat ≤ 150994944 := by
    have := Int.mul_le_mul_of_nonneg_right (show endC s.c s.a + 1 ≤ 9 * 2 ^ (24 - s.ct).toNat by omega) (Int.le_of_lt hp)
    rw [Int.mul_assoc, e24] at this
    omega
  rw [Int.add_mul, Int.one_mul] at hm
  have g1 : CI (2 ^ s.ct.toNat) (flM ⟨s.a, endC s.c s.a, s.ct, s.b⟩) := by
    refine clean_out (s := ⟨s.a, endC s.c s.a * 2 ^ s.ct.toNat, s.ct, s.b⟩) (p := p) (y := y) e hcl (fun hl => ?_) (Int.mul_nonneg hc.1 (Int.le_of_lt hp)) hp hm
    have := Int.mul_le_mul_of_nonneg_right (show y * 2 ^ (27 - s.ct).toNat + (endC s.c s.a + 1) ≤ 144 * 2 ^ (27 - s.ct).toNat by have := ht hl; omega) (Int.le_of_lt hp)
    rw [Int.add_mul, Int.mul_assoc, Int.mul_assoc, e27, Int.add_mul, Int.one_mul] at this
    show y * 134217728 + endC s.c s.a * 2 ^ s.ct.toNat + 2 ^ s.ct.toNat ≤ _
    omega
  have g2 : CI (2 ^ s.ct.toNat * 2 ^ (flM ⟨s.a, endC s.c s.a, s.ct, s.b⟩).ct.toNat) (flM (flM ⟨s.a, endC s.c s.a, s.ct, s.b⟩)) := by
    have hr := outM_c ⟨s.a, endC s.c s.a * 2 ^ s.ct.toNat, s.ct, s.b⟩
    have hr' : (flM ⟨s.a, endC s.c s.a, s.ct, s.b⟩).c < 524288 ∧ (flM ⟨s.a, endC s.c s.a, s.ct, s.b⟩).ct = 8 ∨ (flM ⟨s.a, endC s.c s.a, s.ct, s.b⟩).c < 1048576 ∧ (flM ⟨s.a, endC s.c s.a, s.ct, s.b⟩).ct = 7 := hr
    have hc2 := hf2.c0
    generalize flM ⟨s.a, endC s.c s.a, s.ct, s.b⟩ = t at *
    obtain ⟨p2, y2, e2, hcl2, ht2⟩ := g1
    rcases hr' with ⟨hr1, hr2⟩ | ⟨hr1, hr2⟩
    · have e8 : (2 : Int) ^ (8 : Int).toNat = 256 := by decide
      have e19 : (2 : Int) ^ (27 - 8 : Int).toNat = 524288 := by decide
      rw [hr2, e19] at ht2
      have ee : (flM t) = outM ⟨t.a, t.c * 256, t.ct, t.b⟩ := by unfold flM; rw [hr2, e8]
      rw [hr2, e8, ee]
      refine clean_out (s := ⟨t.a, t.c * 256, t.ct, t.b⟩) (p := p2) (y := y2) e2 hcl2 (fun hl => ?_) (by show 0 ≤ t.c * 256; omega) (by omega) (by show t.c * 256 + _ ≤ _; omega)
      have := ht2 hl
      show y2 * 134217728 + t.c * 256 + _ ≤ _
      omega
    · have e8 : (2 : Int) ^ (7 : Int).toNat = 128 := by decide
      have e19 : (2 : Int) ^ (27 - 7 : Int).toNat = 1048576 := by decide
      rw [hr2, e19] at ht2
      have ee : (flM t) = outM ⟨t.a, t.c * 128, t.ct, t.b⟩ := by unfold flM; rw [hr2, e8]
      rw [hr2, e8, ee]
      refine clean_out (s := ⟨t.a, t.c * 128, t.ct, t.b⟩) (p := p2) (y := y2) e2 hcl2 (fun hl => ?_) (by show 0 ≤ t.c * 128; omega) (by omega) (by show t.c * 128 + _ ≤ _; omega)
      have := ht2 hl
      show y2 * 134217728 + t.c * 128 + _ ≤ _
      omega
  have hcln := (g2.cln (Int.mul_pos hp (Int.pow_pos (by decide))) hf2.fl.c0).tail
  have hcln' : Cln (flushE s) := hcln
  unfold flushM
  by_cases hl : lastM (flushE s) = 255
  · rw [if_pos hl]
    generalize flushE s = l at *
    rcases Nat.eq_zero_or_pos l.length with h0 | h0
    · rw [List.length_eq_zero_iff] at h0
      subst h0
      exact absurd hl (by decide)
    · obtain ⟨p3, y3, rfl⟩ := snoc_of h0
      rw [List.dropLast_concat]
      refine ⟨hcln'.left, fun h => ?_⟩
      rw [lastM_snoc] at hl
      have := hcln' (p3.length - 1)
      have hpos : 0 < p3.length := by
        rcases Nat.eq_zero_or_pos p3.length with h0 | h0
        · rw [List.length_eq_zero_iff] at h0
          subst h0
          exact absurd h (by decide)
        · exact h0
      have e1 : (p3 ++ [y3]).getD (p3.length - 1) 0 = lastM p3 := by
        unfold lastM
        rw [List.getD_eq_getElem?_getD, List.getElem?_append_left (by omega), List.getD_eq_getElem?_getD]
      have e2 : (p3 ++ [y3]).getD (p3.length - 1 + 1) 0 = y3 := by
        rw [List.getD_eq_getElem?_getD, Nat.sub_add_cancel hpos, List.getElem?_append_right (Nat.le_refl _), Nat.sub_self]; rfl
      rw [e1, e2] at this
      have := this h
      omega
  · rw [if_neg hl]
    exact ⟨hcln', hl⟩
end Go.Proofs.Ytcieeoobobafmaa
