/-
  The decoder's C is the number that was read less the encoder's lower end: so bits come back. In plain Lean. Conditions: none.
-/
import Derived.Test.YtcieeoobobafmaaMqFits
import Derived.Test.YtcieeoobobafmaaMqBeh
namespace Go.Proofs.Ytcieeoobobafmaa
open Go.RowKit

/-- The decoder d stands where the encoder s stood. -/
def DR (f : List Int) (m : Nat) (l : List Int) (s : ES) (d : DS) : Prop :=
  d.a = s.a ∧ ∃ (t : Int) (w c : Nat), d.ct = c ∧ c ≤ 8 ∧ Rds f m l t w d.p ∧ w = res s + c ∧ d.c = t * 2 ^ (16 - c) - low s * 65536
theorem DR.range {f : List Int} {m : Nat} {l : List Int} {s : ES} {d : DS} (h : DR f m l s d) (hF : Fits f m s) (hs : s.ct ≤ 12) : 0 ≤ d.c ∧ d.c < s.a * 65536 := by
  obtain ⟨ha, t, w, c, h1, h2, h3, h4, h5⟩ := h
  obtain ⟨b1, b2⟩ := hF.bound hs h3 h4
  have hp := p2 (16 - c)
  have e : ∀ z : Int, z * 2 ^ c * 2 ^ (16 - c) = z * 65536 := fun z => by
    rw [Int.mul_assoc, ← Int.pow_add, show c + (16 - c) = 16 by omega]
    have : (2 : Int) ^ 16 = 65536 := by decide
    rw [this]
  have c1 := Int.mul_le_mul_of_nonneg_right b1 (Int.le_of_lt hp)
  have c2 := Int.mul_lt_mul_of_pos_right b2 hp
  rw [e] at c1 c2
  rw [Int.add_mul] at c2
  omega
theorem DR.split {f : List Int} {m : Nat} {l : List Int} {s : ES} {d : DS} (h : DR f m l s d) (a' e : Int) : DR f m l ⟨a', s.c + e, s.ct, s.b⟩ ⟨a', d.c - e * 65536, d.ct, d.p⟩ := by
  obtain ⟨ha, t, w, c, h1, h2, h3, h4, h5⟩ := h
  refine ⟨rfl, t, w, c, h1, h2, h3, h4, ?_⟩
  have el : low ⟨a', s.c + e, s.ct, s.b⟩ = low s + e := by
    unfold low bel
    show (vw s.b).1 * 2 ^ (27 - s.ct).toNat + (s.c + e) = (vw s.b).1 * 2 ^ (27 - s.ct).toNat + s.c + e
    omega
  rw [el]
  show d.c - e * 65536 = _
  rw [h5, Int.add_mul]
  omega
theorem DR.in_ {f : List Int} {m : Nat} {l : List Int} {s : ES} {d : DS} (hst : St f m l) (h : DR f m l s d) (hF : Fits f m s) (hs : s.ct ≤ 12) (hhi : s.a ≤ 65536) (hct : d.ct = 0) : DR f m l s (inM l d) ∧ 1 ≤ (inM l d).ct := by
  obtain ⟨ha, t, w, c, h1, h2, h3, h4, h5⟩ := h
  obtain rfl : c = 0 := by omega
  obtain ⟨u, x, p', hu, x0, x1, hr, he⟩ := h3.in_ hst d.a d.c
  obtain ⟨a, C, ct, p⟩ := d
  simp only at ha h1 h5 hr he
  rw [he ct]
  have q16 : (2 : Int) ^ (16 - 0) = 65536 := by decide
  rw [q16] at h5
  have hw : w + u = res s + u := by omega
  have hval : C + x * 2 ^ (16 - u) = (t * 2 ^ u + x) * 2 ^ (16 - u) - low s * 65536 := by
    have e : t * 2 ^ u * 2 ^ (16 - u) = t * 65536 := by
      rw [Int.mul_assoc, ← Int.pow_add, show u + (16 - u) = 16 by omega]
      have : (2 : Int) ^ 16 = 65536 := by decide
      rw [this]
    rw [h5, Int.add_mul, e]
    omega
  have hD : DR f m l s ⟨a, C + x * 2 ^ (16 - u), u, p'⟩ := ⟨ha, t * 2 ^ u + x, w + u, u, rfl, by omega, hr, hw, hval⟩
  have hrg := hD.range hF hs
  simp only at hrg
  have hwr : wrap64 (C + x * 2 ^ (16 - u)) = C + x * 2 ^ (16 - u) := IntWalk.wrap64_in _ (by omega)
  rw [hwr]
  exact ⟨hD, by show (1 : Int) ≤ u; omega⟩
theorem dbl_num {s : ES} (hi : EInv s) : low (dblM s) = low s * 2 ∧ res (dblM s) = res s + 1 := by
  have h0 := hi.c0
  have h12 := hi.ct12
  have eb : bel ⟨s.a * 2, s.c * 2, s.ct - 1, s.b⟩ = bel s + 1 := by unfold bel; show (27 - (s.ct - 1)).toNat = _; omega
  have e : res ⟨s.a * 2, s.c * 2, s.ct - 1, s.b⟩ = res s + 1 := by unfold res; rw [eb]; rfl
  have el : low ⟨s.a * 2, s.c * 2, s.ct - 1, s.b⟩ = low s * 2 := by
    unfold low
    rw [eb, Int.pow_succ, ← Int.mul_assoc, Int.add_mul]
  unfold dblM
  by_cases hc : s.ct - 1 = 0
  · rw [if_pos hc]
    obtain ⟨p, y, hb⟩ := snoc_of (l := s.b) hi.some_
    obtain ⟨e1, e2, -⟩ := out_num (s := ⟨s.a * 2, s.c * 2, s.ct - 1, s.b⟩) hb hc (by show 0 ≤ s.c * 2; omega)
    rw [e1, e2]
    exact ⟨el, e⟩
  · rw [if_neg hc]
    exact ⟨el, e⟩
theorem DR.dbl {f : List Int} {m : Nat} {l : List Int} {s : ES} {d : DS} (hst : St f m l) (h : DR f m l s d) (hF : Fits f m s) (hi : EInv s) (ha : s.a < 32768) : DR f m l (dblM s) (dblD l d) := by
  have hs := hi.ct12
  have hin : DR f m l s (inD l d) ∧ 1 ≤ (inD l d).ct := by
    unfold inD
    by_cases hc : d.ct = 0
    · rw [if_pos hc]; exact h.in_ hst hF hs (by omega) hc
    · rw [if_neg hc]
      have h' := h
      obtain ⟨_, t, w, c, h1, _⟩ := h
      exact ⟨h', by omega⟩
  obtain ⟨hD, h1⟩ := hin
  have hrg := hD.range hF hs
  obtain ⟨e1, e2⟩ := dbl_num hi
  obtain ⟨ha1, t, w, c, k1, k2, k3, k4, k5⟩ := hD
  obtain ⟨c', rfl⟩ : ∃ c', c = c' + 1 := ⟨c - 1, by omega⟩
  have hwr : wrap64 ((inD l d).c * 2) = (inD l d).c * 2 := IntWalk.wrap64_in _ (by omega)
  refine ⟨by rw [dblM_a]; show (inD l d).a * 2 = _; rw [ha1], t, w, c', by show (inD l d).ct - 1 = _; omega, by omega, k3, by omega, ?_⟩
  show wrap64 ((inD l d).c * 2) = _
  rw [hwr, e1, k5, show 16 - c' = 16 - (c' + 1) + 1 by omega, Int.pow_succ, ← Int.mul_assoc]
  omega
/-- All that comes before t is served. -/
def Q (f : List Int) (m : Nat) (t : ES) : Prop := ∀ u, After u t → 0 < u.b.length → Fits f m u
theorem DR.ren {f : List Int} {m : Nat} {l : List Int} (hst : St f m l) : ∀ (k : Nat) (s : ES) (d : DS), DR f m l s d → EInv s → s.a < 32768 → 32768 ≤ s.a * 2 ^ k → Q f m (renM k s) → DR f m l (renM k s) (renD l k d)
  | 0, s, d, h, hi, h1, h2, _ => h
  | k + 1, s, d, h, hi, h1, h2, hQ => by
    have hF := hQ s (After.ren hi.some_ (k + 1) s (After.refl s) hi h1) hi.some_
    have hd := h.dbl hst hF hi h1
    have ha := dblM_a s
    have had : (dblD l d).a = (dblM s).a := hd.1
    by_cases hc : 32768 ≤ (dblM s).a
    · have e : renM (k + 1) s = dblM s := if_pos hc
      have e' : renD l (k + 1) d = dblD l d := if_pos (by rw [had]; exact hc)
      rw [e, e']; exact hd
    · have e : renM (k + 1) s = renM k (dblM s) := if_neg hc
      have e' : renD l (k + 1) d = renD l k (dblD l d) := if_neg (by rw [had]; exact hc)
      rw [e] at hQ
      rw [e, e']
      exact DR.ren hst k (dblM s) (dblD l d) hd (hi.dbl h1) (by omega) (by
        rw [ha]
        have e2 : (2 : Int) ^ (k + 1) = 2 * 2 ^ k := by rw [Int.pow_succ, Int.mul_comm]
        rw [e2, ← Int.mul_assoc] at h2
        exact h2) hQ
theorem back_step {f : List Int} {m : Nat} {l : List Int} (hst : St f m l) {s : ES × List (Nat × Nat)} {d : DS × List (Nat × Nat)} (hr : Run s) (hd : DR f m l s.1 d.1) (hcx : d.2 = s.2) {k : Nat} (hk : k < 19) (bit : Int) (hQ : Q f m (encR s k bit).1) :
    DR f m l (encR s k bit).1 (decR l d k).1 ∧ (decR l d k).2 = (encR s k bit).2 ∧ (0 ≤ bit → bit ≤ 1 → decV d k = bit) := by
  obtain ⟨q1, q2⟩ := tab_q _ (hr.cx.st k)
  have hsg := hr.cx.sg k
  obtain ⟨e, cx⟩ := s
  obtain ⟨dd, cx'⟩ := d
  simp only at hcx
  subst hcx
  have hi := hr.inv
  have hlo := hr.lo
  have hhi := hr.hi
  simp only at hd hi hlo hhi hsg
  unfold encR at hQ ⊢
  unfold decR decV
  simp only at hQ ⊢
  obtain ⟨q, m1, lp, sw, ht⟩ : ∃ q m1 lp sw, tabAt (cxAt cx' k).1 = (q, m1, lp, sw) := ⟨_, _, _, _, rfl⟩
  rw [ht] at q1 q2 hQ
  rw [ht]
  simp only at q1 q2 hQ ⊢
  have h0 := hi.c0
  have hct := hi.ct12
  have iL : EInv ⟨(q : Int), e.c, e.ct, e.b⟩ := hi.step (by omega) (by omega) (by omega)
  have iU : EInv ⟨e.a - q, e.c + q, e.ct, e.b⟩ := hi.step (by omega) (by omega) (by omega)
  have dL : DR f m l ⟨(q : Int), e.c, e.ct, e.b⟩ ⟨(q : Int), dd.c, dd.ct, dd.p⟩ := by
    have := hd.split (q : Int) 0
    simpa using this
  have dU : DR f m l ⟨e.a - q, e.c + q, e.ct, e.b⟩ ⟨e.a - q, dd.c - q * 65536, dd.ct, dd.p⟩ := hd.split (e.a - q) q
  have hda : dd.a = e.a := hd.1
  have hbit : ∀ is : Bool, is = (bit % 2 == ((cxAt cx' k).2 : Int)) → 0 ≤ bit → bit ≤ 1 → decB (cxAt cx' k) is = bit := fun is h hb0 hb1 => by
    unfold decB
    rw [h]
    by_cases hb : bit % 2 = ((cxAt cx' k).2 : Int)
    · rw [if_pos (by simpa using hb)]; omega
    · rw [if_neg (by simpa using hb)]; omega
  have hlow : ∀ t : ES, t = ⟨(q : Int), e.c, e.ct, e.b⟩ → Fits f m t → dd.c / 65536 < q := fun t e hF => by
    subst e
    have := dL.range hF hct
    simp only at this
    omega
  have hupp : ∀ t : ES, t = ⟨e.a - q, e.c + q, e.ct, e.b⟩ → Fits f m t → ¬ dd.c / 65536 < q ∧ wrap64 (dd.c - q * 65536) = dd.c - q * 65536 := fun t e hF => by
    subst e
    have := dU.range hF hct
    simp only at this
    exact ⟨by omega, IntWalk.wrap64_in _ (by omega)⟩
  generalize his : (bit % 2 == ((cxAt cx' k).2 : Int)) = is at *
  cases is with
  | true =>
    by_cases h32 : 32768 ≤ e.a - q
    · have eM : encM e q true = ⟨e.a - q, e.c + q, e.ct, e.b⟩ := by unfold encM; rw [if_pos rfl, if_pos h32]
      rw [eM] at hQ
      rw [eM]
      obtain ⟨u1, u2⟩ := hupp _ rfl (hQ _ (After.refl _) hi.some_)
      have eS : decS l dd q = ⟨e.a - q, dd.c - q * 65536, dd.ct, dd.p⟩ := by unfold decS; rw [if_neg u1, hda, if_pos h32, u2]
      have eC : decC dd.a dd.c (cxAt cx' k) (q, m1, lp, sw) = encC e.a (cxAt cx' k) (q, m1, lp, sw) true := by
        unfold decC encC
        rw [hda, if_pos ⟨u1, h32⟩, if_pos rfl, if_pos h32]
      have eI : decIs dd.a dd.c q = true := by unfold decIs; rw [hda, if_neg u1, if_pos h32]
      rw [eS, eC, eI]
      exact ⟨dU, rfl, hbit true rfl⟩
    · by_cases hsm : e.a - q < q
      · have eM : encM e q true = renM 16 ⟨(q : Int), e.c, e.ct, e.b⟩ := by unfold encM; rw [if_pos rfl, if_neg h32, if_pos hsm]
        rw [eM] at hQ
        rw [eM]
        have u1 := hlow _ rfl (hQ _ (After.ren iL.some_ 16 _ (After.refl _) iL (by show (q : Int) < _; omega)) hi.some_)
        have eS : decS l dd q = renD l 16 ⟨(q : Int), dd.c, dd.ct, dd.p⟩ := by unfold decS; rw [if_pos u1]
        have eI : decIs dd.a dd.c q = true := by unfold decIs; rw [hda, if_pos u1, decide_eq_true hsm]
        have eC : decC dd.a dd.c (cxAt cx' k) (q, m1, lp, sw) = encC e.a (cxAt cx' k) (q, m1, lp, sw) true := by
          unfold decC encC
          rw [if_neg (fun h => h.1 u1), if_pos eI, if_pos rfl, if_neg h32]
        rw [eS, eC, eI]
        exact ⟨DR.ren hst 16 _ _ dL iL (by show (q : Int) < _; omega) (far16 iL.a0) hQ, rfl, hbit true rfl⟩
      · have eM : encM e q true = renM 16 ⟨e.a - q, e.c + q, e.ct, e.b⟩ := by unfold encM; rw [if_pos rfl, if_neg h32, if_neg hsm]
        rw [eM] at hQ
        rw [eM]
        obtain ⟨u1, u2⟩ := hupp _ rfl (hQ _ (After.ren iU.some_ 16 _ (After.refl _) iU (by show e.a - (q : Int) < _; omega)) hi.some_)
        have eS : decS l dd q = renD l 16 ⟨e.a - q, dd.c - q * 65536, dd.ct, dd.p⟩ := by unfold decS; rw [if_neg u1, hda, if_neg h32, u2]
        have eI : decIs dd.a dd.c q = true := by unfold decIs; rw [hda, if_neg u1, if_neg h32, decide_eq_false hsm]; rfl
        have eC : decC dd.a dd.c (cxAt cx' k) (q, m1, lp, sw) = encC e.a (cxAt cx' k) (q, m1, lp, sw) true := by
          unfold decC encC
          rw [if_neg (fun h => h32 (by rw [← hda]; exact h.2)), if_pos eI, if_pos rfl, if_neg h32]
        rw [eS, eC, eI]
        exact ⟨DR.ren hst 16 _ _ dU iU (by show e.a - (q : Int) < _; omega) (far16 iU.a0) hQ, rfl, hbit true rfl⟩
  | false =>
    by_cases hsm : e.a - q < q
    · have eM : encM e q false = renM 16 ⟨e.a - q, e.c + q, e.ct, e.b⟩ := by unfold encM; rw [if_neg (by decide), if_pos hsm]
      rw [eM] at hQ
      rw [eM]
      have h32 : ¬ 32768 ≤ e.a - q := by omega
      obtain ⟨u1, u2⟩ := hupp _ rfl (hQ _ (After.ren iU.some_ 16 _ (After.refl _) iU (by show e.a - (q : Int) < _; omega)) hi.some_)
      have eS : decS l dd q = renD l 16 ⟨e.a - q, dd.c - q * 65536, dd.ct, dd.p⟩ := by unfold decS; rw [if_neg u1, hda, if_neg h32, u2]
      have eI : decIs dd.a dd.c q = false := by unfold decIs; rw [hda, if_neg u1, if_neg h32, decide_eq_true hsm]; rfl
      have eC : decC dd.a dd.c (cxAt cx' k) (q, m1, lp, sw) = encC e.a (cxAt cx' k) (q, m1, lp, sw) false := by
        unfold decC encC
        rw [if_neg (fun h => h32 (by rw [← hda]; exact h.2)), eI, if_neg (by decide), if_neg (by decide)]
      rw [eS, eC, eI]
      exact ⟨DR.ren hst 16 _ _ dU iU (by show e.a - (q : Int) < _; omega) (far16 iU.a0) hQ, rfl, hbit false rfl⟩
    · have eM : encM e q false = renM 16 ⟨(q : Int), e.c, e.ct, e.b⟩ := by unfold encM; rw [if_neg (by decide), if_neg hsm]
      rw [eM] at hQ
      rw [eM]
      have u1 := hlow _ rfl (hQ _ (After.ren iL.some_ 16 _ (After.refl _) iL (by show (q : Int) < _; omega)) hi.some_)
      have eS : decS l dd q = renD l 16 ⟨(q : Int), dd.c, dd.ct, dd.p⟩ := by unfold decS; rw [if_pos u1]
      have eI : decIs dd.a dd.c q = false := by unfold decIs; rw [hda, if_pos u1, decide_eq_false hsm]
      have eC : decC dd.a dd.c (cxAt cx' k) (q, m1, lp, sw) = encC e.a (cxAt cx' k) (q, m1, lp, sw) false := by
        unfold decC encC
        rw [if_neg (fun h => h.1 u1), eI, if_neg (by decide), if_neg (by decide)]
      rw [eS, eC, eI]
      exact ⟨DR.ren hst 16 _ _ dL iL (by show (q : Int) < _; omega) (far16 iL.a0) hQ, rfl, hbit false rfl⟩
end Go.Proofs.Ytcieeoobobafmaa
