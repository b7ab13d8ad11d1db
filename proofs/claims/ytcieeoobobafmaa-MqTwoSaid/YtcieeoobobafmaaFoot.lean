/-
  A struct and the bytes that it holds: which blocks they are. Conditions: none.
-/
import Derived.Test.YtcieeoobobafmaaMem
namespace Go.Proofs.Ytcieeoobobafmaa
open Go.RowKit

def foot (W : Nat) (A : Option Addr) (k : Nat) : Prop := k = W ∨ ∃ ad, A = some ad ∧ ad.block = k
def Grew (w : World) (A A' : Option Addr) : Prop := ∀ ad', A' = some ad' → (∃ ad, A = some ad ∧ ad.block = ad'.block) ∨ w.heap.size ≤ ad'.block
theorem own_foot {A : Option Addr} {n c : Nat} {k : Nat} (h : (Value.slice A n c).ownBlock = some k) : ∃ ad, A = some ad ∧ ad.block = k := by
  cases A with
  | none => simp [Value.ownBlock] at h
  | some a => exact ⟨a, rfl, by simpa [Value.ownBlock] using h⟩
theorem Grew.of {w : World} {A A' : Option Addr} {n n' c c' m : Nat} (h : (Value.slice A' n' c').ownBlock = (Value.slice A n c).ownBlock ∨ (Value.slice A' n' c').ownBlock = some m) (hm : w.heap.size ≤ m) : Grew w A A' := by
  intro ad' e
  subst e
  rcases h with h | h
  · have : (Value.slice A n c).ownBlock = some ad'.block := by rw [← h]; rfl
    exact .inl (own_foot this)
  · simp [Value.ownBlock] at h
    exact .inr (by omega)
theorem Grew.refl (w : World) (A : Option Addr) : Grew w A A := fun ad e => .inl ⟨ad, e, rfl⟩
theorem grew_next {w0 w1 w2 : World} {W : Nat} {A0 A1 A2 : Option Addr} (g1 : Grew w0 A0 A1) (k1 : Keep (foot W A0) w0 w1) (g2 : Grew w1 A1 A2) (k2 : Keep (foot W A1) w1 w2) : Grew w0 A0 A2 ∧ Keep (foot W A0) w0 w2 := by
  refine ⟨fun ad e => ?_, k1.trans k2 (fun i hi h => ?_)⟩
  · rcases g2 ad e with ⟨a1, e1, h⟩ | h
    · rcases g1 a1 e1 with ⟨a0, e0, h'⟩ | h'
      · exact .inl ⟨a0, e0, h'.trans h⟩
      · exact .inr (by omega)
    · exact .inr (Nat.le_trans k1.size h)
  · rcases h with h | ⟨a1, e1, h⟩
    · exact .inl h
    · rcases g1 a1 e1 with ⟨a0, e0, h'⟩ | h'
      · exact .inr ⟨a0, e0, by omega⟩
      · omega
theorem Grew.lift {w w' : World} {A A' : Option Addr} (h : Grew w' A A') (hs : w.heap.size ≤ w'.heap.size) : Grew w A A' := fun ad e => (h ad e).imp id (fun h => by omega)
theorem own_foot_lt {w : World} {base n c : Nat} {e : TypeId} {A : Option Addr} {xs : List Value} (h : w.ownsRow base e 1 (.slice A n c) n xs) : ∀ ad, A = some ad → base ≤ ad.block ∧ ad.block < w.heap.size := fun ad e => by
  subst e
  exact h.lt ad.block rfl
end Go.Proofs.Ytcieeoobobafmaa
