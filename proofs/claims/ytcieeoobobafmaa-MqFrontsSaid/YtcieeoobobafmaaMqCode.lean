/-
  The number that the encoder's bytes are: where it lies, from step to step. In plain Lean. Conditions: none.
-/
import Derived.Test.YtcieeoobobafmaaMqClean
namespace Go.Proofs.Ytcieeoobobafmaa
open Go.RowKit

/-- The number of bytes so far, how many bits it has, the last byte: behind 255 a byte weighs seven bits. -/
def vwS (t : Int × Nat × Int) (y : Int) : Int × Nat × Int := if t.2.2 = 255 then (t.1 * 128 + y, t.2.1 + 7, y) else (t.1 * 256 + y, t.2.1 + 8, y)
def vw (l : List Int) : Int × Nat × Int := l.foldl vwS (0, 0, 0)
theorem vw_snoc (p : List Int) (y : Int) : vw (p ++ [y]) = vwS (vw p) y := by unfold vw; rw [List.foldl_append]; rfl
theorem vw_last (p : List Int) (y : Int) : (vw (p ++ [y])).2.2 = y := by rw [vw_snoc]; unfold vwS; split <;> rfl
theorem vw_inc (p : List Int) (y : Int) : vw (p ++ [y + 1]) = ((vw (p ++ [y])).1 + 1, (vw (p ++ [y])).2.1, y + 1) := by
  rw [vw_snoc, vw_snoc]
  unfold vwS
  split
  · show (_, _, _) = (_, _, _)
    rw [Int.add_assoc]
  · show (_, _, _) = (_, _, _)
    rw [Int.add_assoc]
def bel (s : ES) : Nat := (27 - s.ct).toNat
/-- The encoder's lower end, as a number of res bits. -/
def low (s : ES) : Int := (vw s.b).1 * 2 ^ bel s + s.c
def res (s : ES) : Nat := (vw s.b).2.1 + bel s
theorem p2 (n : Nat) : (0 : Int) < 2 ^ n := Int.pow_pos (by decide)
/-- A byte that goes out leaves the number, and is its front. -/
theorem out_num {s : ES} {p : List Int} {y : Int} (hb : s.b = p ++ [y]) (hct : s.ct = 0) (h0 : 0 ≤ s.c) :
    low (outM s) = low s ∧ res (outM s) = res s ∧ 0 ≤ (outM s).c ∧ (outM s).c < 2 ^ bel (outM s) ∧ ((outM s).ct = 7 ∨ (outM s).ct = 8) ∧
    (∃ y' z, (outM s).b = p ++ [y'] ++ [z] ∧ (y' = y ∨ y' = y + 1)) ∧ ∃ j : Int, (outM s).c = s.c - j * 2 ^ bel (outM s) := by
  have hl : lastM s.b = y := by rw [hb, lastM_snoc]
  have hset : s.b.set (s.b.length - 1) (y + 1) = p ++ [y + 1] := by
    rw [hb, List.length_append, List.length_singleton, Nat.add_sub_cancel, List.set_append_right _ _ (Nat.le_refl _), Nat.sub_self]
    rfl
  have e0 : bel s = 27 := by unfold bel; rw [hct]; decide
  have q27 : (2 : Int) ^ 27 = 134217728 := by decide
  have q20 : (2 : Int) ^ 20 = 1048576 := by decide
  have q19 : (2 : Int) ^ 19 = 524288 := by decide
  have hv := vw_last p y
  have hi := vw_inc p y
  have hlow : low s = (vw (p ++ [y])).1 * 134217728 + s.c := by unfold low; rw [e0, hb, q27]
  have hres : res s = (vw (p ++ [y])).2.1 + 27 := by unfold res; rw [e0, hb]
  have key7 : ∀ (b : List Int) (c : Int), (vw b).2.2 = 255 → low ⟨s.a, c % 1048576, 7, b ++ [c / 1048576]⟩ = (vw b).1 * 134217728 + c ∧ res ⟨s.a, c % 1048576, 7, b ++ [c / 1048576]⟩ = (vw b).2.1 + 27 := fun b c h => by
    have eb : bel ⟨s.a, c % 1048576, 7, b ++ [c / 1048576]⟩ = 20 := rfl
    unfold low res
    rw [eb, q20]
    show (vw (b ++ [c / 1048576])).1 * 1048576 + c % 1048576 = _ ∧ (vw (b ++ [c / 1048576])).2.1 + 20 = _
    rw [vw_snoc]
    unfold vwS
    rw [if_pos h]
    constructor
    · show ((vw b).1 * 128 + c / 1048576) * 1048576 + c % 1048576 = _
      omega
    · show (vw b).2.1 + 7 + 20 = _
      omega
  have key8 : ∀ (b : List Int) (c : Int), (vw b).2.2 ≠ 255 → low ⟨s.a, c % 524288, 8, b ++ [c / 524288]⟩ = (vw b).1 * 134217728 + c ∧ res ⟨s.a, c % 524288, 8, b ++ [c / 524288]⟩ = (vw b).2.1 + 27 := fun b c h => by
    have eb : bel ⟨s.a, c % 524288, 8, b ++ [c / 524288]⟩ = 19 := rfl
    unfold low res
    rw [eb, q19]
    show (vw (b ++ [c / 524288])).1 * 524288 + c % 524288 = _ ∧ (vw (b ++ [c / 524288])).2.1 + 19 = _
    rw [vw_snoc]
    unfold vwS
    rw [if_neg h]
    constructor
    · show ((vw b).1 * 256 + c / 524288) * 524288 + c % 524288 = _
      omega
    · show (vw b).2.1 + 8 + 19 = _
      omega
  have b7 : ∀ (b : List Int) (c : Int), bel ⟨s.a, c, 7, b⟩ = 20 := fun b c => rfl
  have b8 : ∀ (b : List Int) (c : Int), bel ⟨s.a, c, 8, b⟩ = 19 := fun b c => rfl
  unfold outM
  rw [hl]
  by_cases hy : y = 255
  · rw [if_pos hy]
    obtain ⟨k1, k2⟩ := key7 s.b s.c (by rw [hb, hv, hy])
    refine ⟨by rw [k1, hlow, hb], by rw [k2, hres, hb], by show 0 ≤ s.c % 1048576; omega, ?_, .inl rfl, ⟨y, s.c / 1048576, by show s.b ++ _ = _; rw [hb], .inl rfl⟩, ⟨s.c / 1048576, by rw [b7, q20]; show s.c % 1048576 = _; omega⟩⟩
    rw [b7, q20]
    show s.c % 1048576 < _
    omega
  · rw [if_neg hy]
    by_cases hk : 134217728 ≤ s.c
    · rw [if_pos hk, hset]
      by_cases hy2 : y + 1 = 255
      · rw [if_pos hy2]
        obtain ⟨k1, k2⟩ := key7 (p ++ [y + 1]) (s.c - 134217728) (by rw [hi, hy2])
        rw [hi] at k1 k2
        refine ⟨by rw [k1, hlow]; show ((vw (p ++ [y])).1 + 1) * 134217728 + (s.c - 134217728) = _; omega, by rw [k2, hres], by show 0 ≤ (s.c - 134217728) % 1048576; omega, ?_, .inl rfl, ⟨y + 1, _, rfl, .inr rfl⟩, ⟨(s.c - 134217728) / 1048576 + 128, by rw [b7, q20]; show (s.c - 134217728) % 1048576 = _; omega⟩⟩
        rw [b7, q20]
        show (s.c - 134217728) % 1048576 < _
        omega
      · rw [if_neg hy2]
        obtain ⟨k1, k2⟩ := key8 (p ++ [y + 1]) (s.c - 134217728) (by rw [hi]; exact hy2)
        rw [hi] at k1 k2
        refine ⟨by rw [k1, hlow]; show ((vw (p ++ [y])).1 + 1) * 134217728 + (s.c - 134217728) = _; omega, by rw [k2, hres], by show 0 ≤ (s.c - 134217728) % 524288; omega, ?_, .inr rfl, ⟨y + 1, _, rfl, .inr rfl⟩, ⟨(s.c - 134217728) / 524288 + 256, by rw [b8, q19]; show (s.c - 134217728) % 524288 = _; omega⟩⟩
        rw [b8, q19]
        show (s.c - 134217728) % 524288 < _
        omega
    · rw [if_neg hk]
      obtain ⟨k1, k2⟩ := key8 s.b s.c (by rw [hb, hv]; exact hy)
      refine ⟨by rw [k1, hlow, hb], by rw [k2, hres, hb], by show 0 ≤ s.c % 524288; omega, ?_, .inr rfl, ⟨y, s.c / 524288, by show s.b ++ _ = _; rw [hb], .inl rfl⟩, ⟨s.c / 524288, by rw [b8, q19]; show s.c % 524288 = _; omega⟩⟩
      rw [b8, q19]
      show s.c % 524288 < _
      omega
/-- The number of the first k + 1 bytes, and its bits. -/
def vk (l : List Int) (k : Nat) : Int := (vw (l.take (k + 1))).1
def wk (l : List Int) (k : Nat) : Nat := (vw (l.take (k + 1))).2.1
/-- t comes later than s: its interval lies within; what went out since is no less than the lower end. -/
structure After (s t : ES) : Prop where
  len : s.b.length ≤ t.b.length
  wt : (vw (t.b.take s.b.length)).2.1 = (vw s.b).2.1
  rs : res s ≤ res t
  lo : low s * 2 ^ res t ≤ low t * 2 ^ res s
  hi : (low t + t.a) * 2 ^ res s ≤ (low s + s.a) * 2 ^ res t
  new : ∀ k, s.b.length ≤ k → k < t.b.length → low s * 2 ^ wk t.b k < (vk t.b k + 1) * 2 ^ res s
theorem After.refl (s : ES) : After s s := ⟨Nat.le_refl _, by rw [List.take_of_length_le (Nat.le_refl _)], Nat.le_refl _, Int.le_refl _, Int.le_refl _, fun k h1 h2 => by omega⟩
theorem After.split {s t : ES} (h : After s t) {a c : Int} (h1 : t.c ≤ c) (h2 : c + a ≤ t.c + t.a) : After s ⟨a, c, t.ct, t.b⟩ := by
  have hp := p2 (res s)
  have e : res ⟨a, c, t.ct, t.b⟩ = res t := rfl
  have el : low ⟨a, c, t.ct, t.b⟩ = low t + (c - t.c) := by
    unfold low bel
    show (vw t.b).1 * 2 ^ (27 - t.ct).toNat + c = (vw t.b).1 * 2 ^ (27 - t.ct).toNat + t.c + (c - t.c)
    generalize (vw t.b).1 * 2 ^ (27 - t.ct).toNat = z
    omega
  refine ⟨h.len, h.wt, h.rs, ?_, ?_, h.new⟩
  · rw [e, el]
    have := Int.mul_le_mul_of_nonneg_right (show low t ≤ low t + (c - t.c) by omega) (Int.le_of_lt hp)
    exact Int.le_trans h.lo this
  · rw [e, el]
    have := Int.mul_le_mul_of_nonneg_right (show low t + (c - t.c) + a ≤ low t + t.a by omega) (Int.le_of_lt hp)
    exact Int.le_trans this h.hi
theorem After.shift {s t : ES} (h : After s t) (hct : t.ct ≤ 27) : After s ⟨t.a * 2, t.c * 2, t.ct - 1, t.b⟩ := by
  have eb : bel ⟨t.a * 2, t.c * 2, t.ct - 1, t.b⟩ = bel t + 1 := by unfold bel; show (27 - (t.ct - 1)).toNat = _; omega
  have e : res ⟨t.a * 2, t.c * 2, t.ct - 1, t.b⟩ = res t + 1 := by unfold res; rw [eb]; rfl
  have el : low ⟨t.a * 2, t.c * 2, t.ct - 1, t.b⟩ = low t * 2 := by
    unfold low
    rw [eb, Int.pow_succ, ← Int.mul_assoc, Int.add_mul]
  refine ⟨h.len, h.wt, by rw [e]; exact Nat.le_succ_of_le h.rs, ?_, ?_, h.new⟩
  · rw [e, el, Int.pow_succ, ← Int.mul_assoc]
    have := h.lo
    have e2 : low t * 2 * 2 ^ res s = low t * 2 ^ res s * 2 := by rw [Int.mul_assoc, Int.mul_comm 2, ← Int.mul_assoc]
    rw [e2]
    omega
  · rw [e, el, Int.pow_succ, ← Int.mul_assoc]
    have := h.hi
    have e2 : (low t * 2 + t.a * 2) * 2 ^ res s = (low t + t.a) * 2 ^ res s * 2 := by rw [← Int.add_mul, Int.mul_assoc, Int.mul_comm 2, ← Int.mul_assoc]
    show (low t * 2 + t.a * 2) * 2 ^ res s ≤ _
    rw [e2]
    omega
theorem After.out {s t : ES} (h : After s t) (hs : 0 < s.b.length) (hct : t.ct = 0) (h0 : 0 ≤ t.c) : After s (outM t) := by
  have hlen := h.len
  obtain ⟨p, y, hb⟩ := snoc_of (l := t.b) (by omega)
  obtain ⟨e1, e2, c0, c1, hc, ⟨y', z, eb, hy⟩, _⟩ := out_num hb hct h0
  have ha := outM_a t
  have hpl : t.b.length = p.length + 1 := by rw [hb, List.length_append, List.length_singleton]
  have hlo : low s * 2 ^ res (outM t) ≤ low (outM t) * 2 ^ res s := by rw [e1, e2]; exact h.lo
  have hw : (vw (p ++ [y'])).2.1 = (vw (p ++ [y])).2.1 ∧ (vw (p ++ [y])).1 ≤ (vw (p ++ [y'])).1 := by
    rcases hy with rfl | rfl
    · exact ⟨rfl, Int.le_refl _⟩
    · rw [vw_inc]; exact ⟨rfl, by show _ ≤ (vw (p ++ [y])).1 + 1; omega⟩
  have hpre : ∀ k, k ≤ p.length → ((outM t).b.take k) = t.b.take k := fun k hk => by
    rw [eb, hb, List.append_assoc, List.take_append_of_le_length hk, List.take_append_of_le_length hk]
  have hmid : (outM t).b.take (p.length + 1) = p ++ [y'] := by
    rw [eb, List.take_append_of_le_length (by rw [List.length_append, List.length_singleton]; exact Nat.le_refl _), List.take_of_length_le (by rw [List.length_append, List.length_singleton]; exact Nat.le_refl _)]
  have htt : t.b.take (p.length + 1) = p ++ [y] := by rw [List.take_of_length_le (by omega), hb]
  refine ⟨by rw [outM_len]; omega, ?_, by rw [e2]; exact h.rs, hlo, by rw [e1, e2, ha]; exact h.hi, fun k h1 h2 => ?_⟩
  · by_cases hk : s.b.length ≤ p.length
    · rw [hpre _ hk]; exact h.wt
    · have : s.b.length = p.length + 1 := by omega
      rw [this, hmid, hw.1, ← htt, ← this]
      exact h.wt
  · rw [outM_len, hpl] at h2
    by_cases hk1 : k + 1 ≤ p.length
    · have := h.new k h1 (by omega)
      unfold vk wk at *
      rw [hpre _ hk1]
      exact this
    · by_cases hk2 : k = p.length
      · subst hk2
        have := h.new p.length h1 (by omega)
        unfold vk wk at *
        rw [htt] at this
        rw [hmid, hw.1]
        exact Int.lt_of_lt_of_le this (Int.mul_le_mul_of_nonneg_right (by omega) (Int.le_of_lt (p2 _)))
      · have hk3 : k + 1 = (outM t).b.length := by rw [outM_len]; omega
        unfold vk wk
        rw [List.take_of_length_le (by omega)]
        have hr : res (outM t) = (vw (outM t).b).2.1 + bel (outM t) := rfl
        have hl : low (outM t) = (vw (outM t).b).1 * 2 ^ bel (outM t) + (outM t).c := rfl
        rw [hr, Int.pow_add, ← Int.mul_assoc] at hlo
        have hlt : low (outM t) < ((vw (outM t).b).1 + 1) * 2 ^ bel (outM t) := by rw [hl, Int.add_mul, Int.one_mul]; omega
        have h3 := Int.mul_lt_mul_of_pos_right hlt (p2 (res s))
        have e3 : ((vw (outM t).b).1 + 1) * 2 ^ bel (outM t) * 2 ^ res s = ((vw (outM t).b).1 + 1) * 2 ^ res s * 2 ^ bel (outM t) := by rw [Int.mul_assoc, Int.mul_comm (2 ^ bel (outM t)), ← Int.mul_assoc]
        rw [e3] at h3
        exact Int.lt_of_mul_lt_mul_right (Int.lt_of_le_of_lt hlo h3) (Int.le_of_lt (p2 _))
theorem After.dbl {s t : ES} (h : After s t) (hs : 0 < s.b.length) (hi : EInv t) : After s (dblM t) := by
  have h0 := hi.c0
  have h12 := hi.ct12
  have hsh := h.shift (by omega)
  unfold dblM
  by_cases hc : t.ct - 1 = 0
  · rw [if_pos hc]
    exact hsh.out hs hc (by show 0 ≤ t.c * 2; omega)
  · rw [if_neg hc]; exact hsh
theorem After.ren {s : ES} (hs : 0 < s.b.length) : ∀ (k : Nat) (t : ES), After s t → EInv t → t.a < 32768 → After s (renM k t)
  | 0, _, h, _, _ => h
  | k + 1, t, h, hi, ha => by
    have hd := h.dbl hs hi
    by_cases hc : 32768 ≤ (dblM t).a
    · have e : renM (k + 1) t = dblM t := if_pos hc
      rw [e]; exact hd
    · have e : renM (k + 1) t = renM k (dblM t) := if_neg hc
      rw [e]; exact After.ren hs k (dblM t) hd (hi.dbl ha) (by omega)
end Go.Proofs.Ytcieeoobobafmaa
