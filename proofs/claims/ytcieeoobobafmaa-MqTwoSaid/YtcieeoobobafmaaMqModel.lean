/-
  The coder, the document's way, in plain Lean. Conditions: none.
-/
import Derived.Test.YtcieeoobobafmaaMqBits
import Derived.Test.YtcieeoobobafmaaFoot
namespace Go.Proofs.Ytcieeoobobafmaa
open Go.RowKit

/-- The encoder: A, C, how many doublings there are to the next byte, the bytes (the first is never told). -/
structure ES where
  a : Int
  c : Int
  ct : Int
  b : List Int

/-- A byte goes out. -/
def outM (s : ES) : ES :=
  if lastM s.b = 255 then ⟨s.a, s.c % 1048576, 7, s.b ++ [s.c / 1048576]⟩
  else if 134217728 ≤ s.c then
    (if lastM s.b + 1 = 255 then ⟨s.a, (s.c - 134217728) % 1048576, 7, s.b.set (s.b.length - 1) (lastM s.b + 1) ++ [(s.c - 134217728) / 1048576]⟩
     else ⟨s.a, (s.c - 134217728) % 524288, 8, s.b.set (s.b.length - 1) (lastM s.b + 1) ++ [(s.c - 134217728) / 524288]⟩)
  else ⟨s.a, s.c % 524288, 8, s.b ++ [s.c / 524288]⟩
theorem outM_a (s : ES) : (outM s).a = s.a := by unfold outM; split; · rfl
                                                 · split
                                                   · split <;> rfl
                                                   · rfl
theorem outM_len (s : ES) : (outM s).b.length = s.b.length + 1 := by
  unfold outM
  split
  · simp
  · split
    · split <;> simp
    · simp
theorem outM_bytes (s : ES) (h : Bytes s.b) (h0 : 0 ≤ s.c) (h1 : s.c < 268435456) : Bytes (outM s).b := by
  have hl := lastM_byte h
  have hset : lastM s.b ≠ 255 → Bytes (s.b.set (s.b.length - 1) (lastM s.b + 1)) := fun hne z hz => by
    rcases List.mem_or_eq_of_mem_set hz with hz | hz
    · exact h z hz
    · omega
  have happ : ∀ (l : List Int) (y : Int), Bytes l → 0 ≤ y → y ≤ 255 → Bytes (l ++ [y]) := fun l y hl h0 h1 z hz => by
    rcases List.mem_append.1 hz with hz | hz
    · exact hl z hz
    · simp at hz; omega
  unfold outM
  split
  · exact happ _ _ h (by omega) (by omega)
  · rename_i hne
    split
    · split
      · exact happ _ _ (hset hne) (by omega) (by omega)
      · exact happ _ _ (hset hne) (by omega) (by omega)
    · exact happ _ _ h (by omega) (by omega)
end Go.Proofs.Ytcieeoobobafmaa
