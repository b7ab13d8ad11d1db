/-
  Many of the more likely sign take little room. In plain Lean. Conditions: none.
-/
import Derived.Test.YtcieeoobobafmaaMqRun2
namespace Go.Proofs.Ytcieeoobobafmaa
open Go.RowKit

def shortS (t : ES × (Nat × Nat)) : ES × (Nat × Nat) := (encM t.1 (tabAt t.2.1).1 true, encC t.1.a t.2 (tabAt t.2.1) true)
def shortI : Nat → ES × (Nat × Nat) → ES × (Nat × Nat)
  | 0, t => t
  | n + 1, t => shortI n (shortS t)
def shortOk (t : ES × (Nat × Nat)) : Bool := decide ((flushM (flushE t.1)).length < 20)
def shortChk : Nat → ES × (Nat × Nat) → Bool
  | 0, t => shortOk t
  | n + 1, t => shortOk t && shortChk n (shortS t)
theorem shortChk_at : ∀ (n : Nat) (t : ES × (Nat × Nat)), shortChk n t = true → ∀ m, m ≤ n → shortOk (shortI m t) = true
  | 0, t, h, m, hm => by
    obtain rfl : m = 0 := by omega
    exact h
  | n + 1, t, h, m, hm => by
    have h' : (shortOk t && shortChk n (shortS t)) = true := h
    rw [Bool.and_eq_true] at h'
    cases m with
    | zero => exact h'.1
    | succ m => exact shortChk_at n (shortS t) h'.2 m (by omega)
theorem shortI_succ : ∀ (n : Nat) (t : ES × (Nat × Nat)), shortI (n + 1) t = shortS (shortI n t)
  | 0, t => rfl
  | n + 1, t => shortI_succ n (shortS t)
theorem short_chk : (shortChk 1000 (newM, (4, 0)) && shortChk 1000 (newM, (0, 0)) && shortChk 1000 (newM, (3, 0))) = true := by decide +kernel
/-- n bits 0 in context k. -/
def runZ (k : Nat) : Nat → ES × List (Nat × Nat)
  | 0 => (newM, begL)
  | n + 1 => encR (runZ k n) k 0
theorem runZ_ok {k : Nat} (hk : k < 19) : ∀ i, Run (runZ k i) ∧ (runZ k i).1.b.length ≤ 1 + 16 * i
  | 0 => ⟨Run.new, Nat.le_refl 1⟩
  | i + 1 => by
    obtain ⟨h1, h2⟩ := runZ_ok hk i
    obtain ⟨h3, h4⟩ := h1.step hk 0
    exact ⟨h3, by show (encR _ _ _).1.b.length ≤ _; omega⟩
theorem runZ_eq {k : Nat} (hk : k < 18) : ∀ n, (runZ k n).1 = (shortI n (newM, cxAt begL k)).1 ∧ cxAt (runZ k n).2 k = (shortI n (newM, cxAt begL k)).2 ∧ (cxAt (runZ k n).2 k).2 = 0
  | 0 => ⟨rfl, rfl, by
    have : ∀ k, k < 18 → (cxAt begL k).2 = 0 := by decide +kernel
    exact this k hk⟩
  | n + 1 => by
    obtain ⟨h1, h2, h3⟩ := runZ_eq hk n
    have hl := (runZ_ok (k := k) (by omega) n).1.cx.len
    rw [shortI_succ]
    have hb : ((0 : Int) % 2 == ((cxAt (runZ k n).2 k).2 : Int)) = true := by rw [h3]; decide
    have e : runZ k (n + 1) = (encM (runZ k n).1 (tabAt (cxAt (runZ k n).2 k).1).1 true, (runZ k n).2.set k (encC (runZ k n).1.a (cxAt (runZ k n).2 k) (tabAt (cxAt (runZ k n).2 k).1) true)) := by
      show encR (runZ k n) k 0 = _
      unfold encR
      rw [hb]
    have e2 : cxAt (runZ k (n + 1)).2 k = encC (runZ k n).1.a (cxAt (runZ k n).2 k) (tabAt (cxAt (runZ k n).2 k).1) true := by
      rw [e]
      exact cxAt_set (by omega) _
    refine ⟨?_, ?_, ?_⟩
    · rw [e]
      show encM _ _ true = encM _ _ true
      rw [h1, h2]
    · rw [e2]
      show encC _ _ _ true = encC _ _ _ true
      rw [h1, h2]
    · rw [e2]
      unfold encC
      rw [if_pos rfl]
      split
      · exact h3
      · exact h3
theorem runZ_short {k n : Nat} (hk : k < 18) (hn : n ≤ 1000) : (flushM (flushE (runZ k n).1)).length < 20 := by
  have hc := short_chk
  rw [Bool.and_eq_true, Bool.and_eq_true] at hc
  have hb : cxAt begL k = (4, 0) ∨ cxAt begL k = (0, 0) ∨ cxAt begL k = (3, 0) := by
    have : ∀ k, k < 18 → cxAt begL k = (4, 0) ∨ cxAt begL k = (0, 0) ∨ cxAt begL k = (3, 0) := by decide +kernel
    exact this k hk
  have key : shortOk (shortI n (newM, cxAt begL k)) = true := by
    rcases hb with h | h | h
    · rw [h]; exact shortChk_at 1000 _ hc.1.1 n hn
    · rw [h]; exact shortChk_at 1000 _ hc.1.2 n hn
    · rw [h]; exact shortChk_at 1000 _ hc.2 n hn
  rw [(runZ_eq hk n).1]
  unfold shortOk at key
  exact of_decide_eq_true key
end Go.Proofs.Ytcieeoobobafmaa
