/-
  A statement that draws its order, where one of two may come up. Over any program. Conditions: none.
-/
import Derived.Test.YtbkffpedigeflaaRegion
namespace Go.Proofs.Ytbkffpedigeflaa
open Go.RowKit

theorem At.two {P : Program} {ops : Array Oper} {Q : Exit → Act → World → Prop} {md : Region.Mode} (i j : Nat) {oi oj : Oper} {f : Nat} {pend pi pj : List (Nat × (World → Prop))} {L : Array Bool} {a : Act} {w : World} (hi : ops[i]? = some oi) (hj : ops[j]? = some oj) (hr : (Region.ready md ops L == [i, j]) = true)
    (hwi : Region.wanted oi (yielded ops a.tmps) = true) (hwj : Region.wanted oj (yielded ops a.tmps) = true) (hpi : (pend.filter fun p => !tdep md ops ops.size i p.1) = pi) (hpj : (pend.filter fun p => !tdep md ops ops.size j p.1) = pj)
    (h1 : ∀ K : Act → World → Prop, (∀ a' w', (∀ p ∈ pi, p.2 w') → At P md ops Q f pi (L.setIfInBounds i true) a' w' → K a' w') → Oper.wp P oi a w K Q)
    (h2 : ∀ K : Act → World → Prop, (∀ a' w', (∀ p ∈ pj, p.2 w') → At P md ops Q f pj (L.setIfInBounds j true) a' w' → K a' w') → Oper.wp P oj a w K Q) : At P md ops Q (f + 1) pend L a w := by
  intro hp
  have hr' : Region.ready md ops L = [i, j] := by simpa using hr
  have one : ∀ (k : Nat) (ok : Oper) (pk : List (Nat × (World → Prop))), ops[k]? = some ok → Region.wanted ok (yielded ops a.tmps) = true → (pend.filter fun p => !tdep md ops ops.size k p.1) = pk →
      (∀ K : Act → World → Prop, (∀ a' w', (∀ p ∈ pk, p.2 w') → At P md ops Q f pk (L.setIfInBounds k true) a' w' → K a' w') → Oper.wp P ok a w K Q) →
      wpOp P ops Q k (fun a' w' => (∀ p ∈ pend, tdep md ops ops.size k p.1 = false → p.2 w') ∧ wpP P md ops Q f (pend.filter fun p => !tdep md ops ops.size k p.1) (L.setIfInBounds k true) a' w') a w := fun k ok pk hk hw hpk h => by
    have hh := h (fun a' w' => (∀ p ∈ pend, tdep md ops ops.size k p.1 = false → p.2 w') ∧ wpP P md ops Q f (pend.filter fun p => !tdep md ops ops.size k p.1) (L.setIfInBounds k true) a' w') (fun a' w' hq hA => by
      refine ⟨fun p hp1 ht => hq p (by rw [← hpk, List.mem_filter]; exact ⟨hp1, by simp [ht]⟩), ?_⟩
      rw [hpk]
      exact hA hq)
    unfold wpOp
    simp only [hk, hw, if_true]
    exact .inl hh
  refine ⟨fun h0 => (by rw [hr'] at h0; cases h0), fun k hk => ?_⟩
  rw [hr'] at hk
  rcases List.mem_cons.1 hk with rfl | hk
  · exact one _ oi pi hi hwi hpi h1
  · obtain rfl : k = j := by simpa using hk
    exact one _ oj pj hj hwj hpj h2
/-- Number j alone may come up; all that was read before is shown again behind it (nothing is asked of what waits for what). -/
theorem At.call_all {P : Program} {ops : Array Oper} {Q : Exit → Act → World → Prop} {md : Region.Mode} (j : Nat) {oj : Oper} {f : Nat} {pend : List (Nat × (World → Prop))} {L : Array Bool} {a : Act} {w : World} (hj : ops[j]? = some oj) (hr : (Region.ready md ops L == [j]) = true)
    (hw : Region.wanted oj (yielded ops a.tmps) = true)
    (h : ∀ K : Act → World → Prop, (∀ a' w', (∀ p ∈ pend, p.2 w') → At P md ops Q f pend (L.setIfInBounds j true) a' w' → K a' w') → Oper.wp P oj a w K Q) : At P md ops Q (f + 1) pend L a w := by
  intro hp
  have hr' : Region.ready md ops L = [j] := by simpa using hr
  refine ⟨fun h0 => (by rw [hr'] at h0; cases h0), fun k hk => ?_⟩
  rw [hr'] at hk
  have hk' : k = j := by simpa using hk
  subst hk'
  have hh := h (fun a' w' => (∀ p ∈ pend, tdep md ops ops.size k p.1 = false → p.2 w') ∧ wpP P md ops Q f (pend.filter fun p => !tdep md ops ops.size k p.1) (L.setIfInBounds k true) a' w') (fun a' w' hq hA =>
    ⟨fun p hp1 _ => hq p hp1, wpP_mono f pend _ _ a' w' (fun p hp1 => (List.mem_filter.1 hp1).1) (hA hq)⟩)
  unfold wpOp
  simp only [hj, hw, if_true]
  exact .inl hh
end Go.Proofs.Ytbkffpedigeflaa
