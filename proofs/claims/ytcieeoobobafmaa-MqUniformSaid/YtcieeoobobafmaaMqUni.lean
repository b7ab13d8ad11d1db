/-
  Bits in the context that is even take about one bit each. In plain Lean. Conditions: none.
-/
import Derived.Test.YtcieeoobobafmaaMqRun2
namespace Go.Proofs.Ytcieeoobobafmaa
open Go.RowKit

def near (l : List Int) : Int := if 254 ≤ lastM l then 1 else 0
def potA (a : Int) : Int := if a ≤ 38400 then 3 else if a ≤ 41217 then 2 else if a ≤ 42625 then 1 else 0
/-- What the bytes and the doublings to come weigh. -/
def weigh (s : ES) : Int := 30 * s.b.length - 4 * s.ct + 2 * near s.b
theorem near_range (l : List Int) : 0 ≤ near l ∧ near l ≤ 1 := by unfold near; split <;> omega
theorem weigh_dbl {s : ES} (h : EInv s) : weigh (dblM s) ≤ weigh s + 4 := by
  have h1 := h.ct1
  have htop := h.top
  have h0 := h.c0
  have ha := h.a0
  unfold dblM
  by_cases hc : s.ct - 1 = 0
  · rw [if_pos hc]
    have ect : s.ct = 1 := by omega
    rw [ect] at htop
    have e23 : (2 : Int) ^ (24 - 1 : Int).toNat = 8388608 := by decide
    rw [e23] at htop
    have hlow : ∀ (l : List Int) (y : Int), y ≤ 143 → near (l ++ [y]) = 0 := fun l y hy => by
      unfold near
      rw [lastM_snoc, if_neg (by omega)]
    have hw : weigh s = 30 * s.b.length - 4 + 2 * near s.b := by unfold weigh; rw [ect]; rfl
    rw [hw]
    unfold outM
    by_cases h255 : lastM s.b = 255
    · have hn : near s.b = 1 := by unfold near; rw [if_pos (by omega)]
      rw [if_pos h255]
      unfold weigh
      simp only [List.length_append, List.length_singleton]
      rw [hlow _ _ (by omega), hn]
      omega
    · rw [if_neg h255]
      by_cases hk : 134217728 ≤ s.c * 2
      · rw [if_pos hk]
        by_cases h254 : lastM s.b + 1 = 255
        · have hn : near s.b = 1 := by unfold near; rw [if_pos (by omega)]
          rw [if_pos h254]
          unfold weigh
          simp only [List.length_append, List.length_singleton, List.length_set]
          rw [hlow _ _ (by omega), hn]
          omega
        · rw [if_neg h254]
          unfold weigh
          simp only [List.length_append, List.length_singleton, List.length_set]
          have n1 := near_range (s.b.set (s.b.length - 1) (lastM s.b + 1) ++ [(s.c * 2 - 134217728) / 524288])
          have n2 := near_range s.b
          omega
      · rw [if_neg hk]
        unfold weigh
        simp only [List.length_append, List.length_singleton]
        have n1 := near_range (s.b ++ [s.c * 2 / 524288])
        have n2 := near_range s.b
        omega
  · rw [if_neg hc]
    unfold weigh
    simp only
    omega
theorem weigh_one {t : ES} (h : EInv t) (h1 : 16384 ≤ t.a) (h2 : t.a < 32768) : weigh (renM 16 t) ≤ weigh t + 4 ∧ (renM 16 t).a = t.a * 2 := by
  have e : renM 16 t = dblM t := if_pos (by rw [dblM_a]; omega)
  rw [e]
  exact ⟨weigh_dbl h, dblM_a t⟩
theorem weigh_two {t : ES} (h : EInv t) (h1 : 8192 ≤ t.a) (h2 : t.a < 16384) : weigh (renM 16 t) ≤ weigh t + 8 ∧ (renM 16 t).a = t.a * 4 := by
  have e : renM 16 t = renM 15 (dblM t) := if_neg (by rw [dblM_a]; omega)
  have e2 : renM 15 (dblM t) = dblM (dblM t) := if_pos (by rw [dblM_a, dblM_a]; omega)
  rw [e, e2]
  have w1 := weigh_dbl h
  have w2 := weigh_dbl (h.dbl (by omega))
  have a1 := dblM_a t
  have a2 := dblM_a (dblM t)
  exact ⟨by omega, by omega⟩
theorem uni_step {s : ES} (h : EInv s) (hlo : 32768 ≤ s.a) (hhi : s.a < 65536) (is : Bool) : weigh (encM s 22017 is) + potA (encM s 22017 is).a ≤ weigh s + potA s.a + 5 := by
  have h0 := h.c0
  have i1 : EInv ⟨(22017 : Nat), s.c, s.ct, s.b⟩ := h.step (by omega) (by omega) (by omega)
  have i2 : EInv ⟨s.a - (22017 : Nat), s.c + (22017 : Nat), s.ct, s.b⟩ := h.step (by omega) (by omega) (by omega)
  have hP : ∀ a : Int, 0 ≤ potA a ∧ potA a ≤ 3 := fun a => by unfold potA; split; · omega
                                                              · split; · omega
                                                                · split <;> omega
  have hP0 : ∀ a : Int, 42625 < a → potA a = 0 := fun a ha => by unfold potA; rw [if_neg (by omega), if_neg (by omega), if_neg (by omega)]
  have hQ := hP s.a
  have wq : weigh (renM 16 ⟨(22017 : Nat), s.c, s.ct, s.b⟩) + potA (renM 16 ⟨(22017 : Nat), s.c, s.ct, s.b⟩).a ≤ weigh s + potA s.a + 5 := by
    have := weigh_one i1 (by show (16384 : Int) ≤ (22017 : Nat); omega) (by show ((22017 : Nat) : Int) < 32768; omega)
    have e : (renM 16 ⟨(22017 : Nat), s.c, s.ct, s.b⟩).a = 44034 := this.2
    rw [e, hP0 44034 (by omega)]
    have e2 : weigh ⟨(22017 : Nat), s.c, s.ct, s.b⟩ = weigh s := rfl
    omega
  have e2 : weigh ⟨s.a - (22017 : Nat), s.c + (22017 : Nat), s.ct, s.b⟩ = weigh s := rfl
  unfold encM
  cases is with
  | true =>
    rw [if_pos rfl]
    by_cases hc : 32768 ≤ s.a - (22017 : Nat)
    · rw [if_pos hc]
      have := hP (s.a - (22017 : Nat))
      have e3 : potA s.a = 0 := hP0 _ (by omega)
      show weigh ⟨s.a - (22017 : Nat), s.c + (22017 : Nat), s.ct, s.b⟩ + potA (s.a - (22017 : Nat)) ≤ _
      omega
    · rw [if_neg hc]
      by_cases hq : s.a - (22017 : Nat) < (22017 : Nat)
      · rw [if_pos hq]; exact wq
      · rw [if_neg hq]
        have hw := weigh_one i2 (by show 16384 ≤ s.a - (22017 : Nat); omega) (by show s.a - (22017 : Nat) < 32768; omega)
        have e : (renM 16 ⟨s.a - (22017 : Nat), s.c + (22017 : Nat), s.ct, s.b⟩).a = (s.a - (22017 : Nat)) * 2 := hw.2
        rw [e, hP0 _ (by omega)]
        have := hw.1
        omega
  | false =>
    rw [if_neg (by decide)]
    by_cases hq : s.a - (22017 : Nat) < (22017 : Nat)
    · rw [if_pos hq]
      by_cases h16 : 16384 ≤ s.a - (22017 : Nat)
      · have hw := weigh_one i2 h16 (by show s.a - (22017 : Nat) < 32768; omega)
        have e : (renM 16 ⟨s.a - (22017 : Nat), s.c + (22017 : Nat), s.ct, s.b⟩).a = (s.a - (22017 : Nat)) * 2 := hw.2
        rw [e]
        have := hw.1
        have hp : potA ((s.a - (22017 : Nat)) * 2) ≤ potA s.a + 1 := by
          unfold potA
          by_cases c1 : s.a ≤ 38400
          · rw [if_pos c1]; split <;> omega
          · rw [if_neg c1]
            by_cases c2 : s.a ≤ 41217
            · rw [if_pos c2]; split <;> omega
            · rw [if_neg c2]
              by_cases c3 : s.a ≤ 42625
              · rw [if_pos c3, if_neg (by omega)]; split <;> omega
              · rw [if_neg c3, if_neg (by omega), if_neg (by omega)]; split <;> omega
        omega
      · have hw := weigh_two i2 (by show 8192 ≤ s.a - (22017 : Nat); omega) (by show s.a - (22017 : Nat) < 16384; omega)
        have e : (renM 16 ⟨s.a - (22017 : Nat), s.c + (22017 : Nat), s.ct, s.b⟩).a = (s.a - (22017 : Nat)) * 4 := hw.2
        rw [e, hP0 _ (by omega)]
        have := hw.1
        have e3 : potA s.a = 3 := by unfold potA; rw [if_pos (by omega)]
        omega
    · rw [if_neg hq]; exact wq
/-- Any bits in the context that is even. -/
def runU (zs : List Int) : Nat → ES × List (Nat × Nat)
  | 0 => (newM, begL)
  | i + 1 => encR (runU zs i) 18 (zs.getD i 0)
theorem runU_ok (zs : List Int) : ∀ i, Run (runU zs i) ∧ (runU zs i).1.b.length ≤ 1 + 16 * i ∧ (cxAt (runU zs i).2 18).1 = 46 ∧ weigh (runU zs i).1 + potA (runU zs i).1.a + 15 ≤ 5 * i
  | 0 => ⟨Run.new, Nat.le_refl 1, rfl, (by decide +kernel : weigh newM + potA newM.a + 15 ≤ 5 * ((0 : Nat) : Int))⟩
  | i + 1 => by
    obtain ⟨h1, h2, h3, h4⟩ := runU_ok zs i
    obtain ⟨h5, h6⟩ := h1.step (k := 18) (by decide) (zs.getD i 0)
    have ht : tabAt (cxAt (runU zs i).2 18).1 = (22017, 46, 46, false) := by rw [h3]; decide
    refine ⟨h5, by show (encR _ _ _).1.b.length ≤ _; omega, ?_, ?_⟩
    · have e : cxAt (runU zs (i + 1)).2 18 = encC (runU zs i).1.a (cxAt (runU zs i).2 18) (tabAt (cxAt (runU zs i).2 18).1) (zs.getD i 0 % 2 == ((cxAt (runU zs i).2 18).2 : Int)) := cxAt_set (by rw [h1.cx.len]; decide) _
      rw [e, ht]
      unfold encC
      split
      · split
        · exact h3
        · rfl
      · rfl
    · have e : (runU zs (i + 1)).1 = encM (runU zs i).1 22017 (zs.getD i 0 % 2 == ((cxAt (runU zs i).2 18).2 : Int)) := by
        show encM _ (tabAt (cxAt (runU zs i).2 18).1).1 _ = _
        rw [ht]
      rw [e]
      have := uni_step h1.inv h1.lo h1.hi (zs.getD i 0 % 2 == ((cxAt (runU zs i).2 18).2 : Int))
      omega
theorem runU_short (zs : List Int) (n : Nat) : 8 * (flushM (flushE (runU zs n).1)).length ≤ n + n / 3 + 32 := by
  obtain ⟨h1, h2, h3, h4⟩ := runU_ok zs n
  have hl := flushE_len (runU zs n).1
  have hm := mqFlush_le (flushE (runU zs n).1)
  have h12 := h1.inv.ct12
  have hP : 0 ≤ potA (runU zs n).1.a := by unfold potA; split; · omega
                                           · split; · omega
                                             · split <;> omega
  have hn := near_range (runU zs n).1.b
  unfold weigh at h4
  omega
end Go.Proofs.Ytcieeoobobafmaa
