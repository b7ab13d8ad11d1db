/-
  What a law's walk is told of its arguments, and how a reading gives it. Conditions: none.
-/
import Derived.Test.YtbkffpedigeflaaMem
import Derived.ProofKit
import Derived.OpenShut
import Derived.SizedLaws
import Derived.Deep.Grids
namespace Go.Proofs.Ytbkffpedigeflaa
open Go.RowKit Go.ChangeShapes Go.WideShapes

/-- A slice of integers that came in: it is a row of n numbers that fit; it takes no more than the form's reach. -/
structure Arg (k : IntKind) (by_ : Nat) (w : World) (A : Option Addr) (n c : Nat) (zs : List Int) : Prop where
  rd : Rd w A n (zs.map (Value.int k))
  cap : n ≤ c
  reach : c * by_ ≤ 140737488351232
  wf : ∀ z ∈ zs, (Lit.int k z).wf = true

theorem arg_ints {H : Type} {enc : TypeId × Value → H} {P : Program} {w : World} {base : Nat} {held : Bool} {t e : TypeId} {k : IntKind} {fuel by_ : Nat} {A : Option Addr} {n c : Nat} {d : DataW H} {p : List MemPlace}
    (ht : P.underlying t = some (.slice e)) (he : P.underlying e = some (.int k)) (hc : P.cellsOf e = 1)
    (h : DataW.trod enc P w base (fun _ => true) held fuel t (Value.slice A n c).cells.toList = some (d, p))
    (hr : ∀ el sp, d = .slice el sp → (el.length + sp.length) * by_ ≤ reachBytes) : ∃ zs, Arg k by_ w A n c zs := by
  have hrb : reachBytes = 140737488351232 := by decide +kernel
  rcases open_ints ht he hc h with ⟨hcs, _⟩ | ⟨x, l, c', zs, hcs, _, hl, hm, hz, hx, hcell, hwz⟩
  · simp [Value.cells] at hcs
    obtain ⟨rfl, rfl, rfl⟩ := hcs
    exact ⟨[], Rd.nil _, Nat.le_refl _, by omega, by simp⟩
  · simp [Value.cells] at hcs
    obtain ⟨rfl, rfl, rfl⟩ := hcs
    simp only [if_true] at hz
    simp only [Prod.mk.injEq] at hx
    have hreach := hr _ _ hx.1
    have e1 : (lits (H := H) k (zs.take n)).length = n := by simp [lits]; omega
    have e2 : (lits (H := H) k (zs.drop n)).length = c - n := by simp [lits]; omega
    rw [e1, e2, hrb, Nat.add_sub_cancel' hl] at hreach
    refine ⟨zs.take n, ⟨by simp; omega, fun hn => ⟨x, rfl, fun j u hu => ?_⟩⟩, hl, hreach, fun z hz' => hwz z (List.mem_of_mem_take hz')⟩
    rw [List.getElem?_map, List.getElem?_take] at hu
    have hj : j < n := by
      rcases Nat.lt_or_ge j n with h | h
      · exact h
      · rw [if_neg (by omega)] at hu; cases hu
    rw [if_pos hj] at hu
    have hjl : j < zs.length := by omega
    rw [hcell j hjl]
    simp [hjl] at hu
    subst hu
    simp [hjl]

/-- A slice of bools that came in. -/
structure ArgB (w : World) (A : Option Addr) (n c : Nat) (zs : List Bool) : Prop where
  rd : Rd w A n (zs.map Value.bool)
  cap : n ≤ c
  reach : c * 1 ≤ 140737488351232
theorem arg_bools {H : Type} {enc : TypeId × Value → H} {P : Program} {w : World} {base : Nat} {held : Bool} {t e : TypeId} {fuel : Nat} {A : Option Addr} {n c : Nat} {d : DataW H} {p : List MemPlace}
    (ht : P.underlying t = some (.slice e)) (he : P.underlying e = some .bool) (hc : P.cellsOf e = 1)
    (h : DataW.trod enc P w base (fun _ => true) held fuel t (Value.slice A n c).cells.toList = some (d, p))
    (hr : ∀ el sp, d = .slice el sp → (el.length + sp.length) * 1 ≤ reachBytes) : ∃ zs, ArgB w A n c zs := by
  have hrb : reachBytes = 140737488351232 := by decide +kernel
  rcases Go.Deep.open_bools ht he hc h with ⟨hcs, _⟩ | ⟨x, l, c', B, hcs, _, hl, hm, hx, hcell⟩
  · simp [Value.cells] at hcs
    obtain ⟨rfl, rfl, rfl⟩ := hcs
    exact ⟨[], Rd.nil _, Nat.le_refl _, by omega⟩
  · simp [Value.cells] at hcs
    obtain ⟨rfl, rfl, rfl⟩ := hcs
    simp only [Prod.mk.injEq] at hx
    have hreach := hr _ _ hx.1
    rw [hrb] at hreach
    simp at hreach
    refine ⟨(List.range n).map B, ⟨by simp, fun hn => ⟨x, rfl, fun j u hu => ?_⟩⟩, hl, by omega⟩
    rw [List.map_map, List.getElem?_map] at hu
    have hj : j < n := by
      rcases Nat.lt_or_ge j n with h | h
      · exact h
      · rw [List.getElem?_eq_none (by simpa using h)] at hu; cases hu
    rw [hcell j (by omega)]
    simp [hj] at hu
    rw [hu]

section
variable {k : IntKind} {by_ : Nat} {w : World} {A : Option Addr} {n c : Nat} {zs : List Int}
theorem Arg.len (h : Arg k by_ w A n c zs) : zs.length = n := h.rd.len
theorem Arg.elem (h : Arg k by_ w A n c zs) {j : Nat} (hj : j < n) : (Lit.int k (zs.getD j 0)).wf = true := by
  have hl : j < zs.length := by rw [h.len]; exact hj
  have : zs.getD j 0 = zs[j] := by simp [hl]
  rw [this]
  exact h.wf _ (List.getElem_mem hl)
theorem Arg.bytes (h : Arg .u8 by_ w A n c zs) : Bytes zs := by
  intro z hz
  have := h.wf z hz
  simpa [Lit.wf, IntKind.min, IntKind.max, IntKind.signed, IntKind.bits] using this
theorem Arg.ints (h : Arg .i64 by_ w A n c zs) : ∀ z ∈ zs, -9223372036854775808 ≤ z ∧ z ≤ 9223372036854775807 := by
  intro z hz
  have := h.wf z hz
  simpa [Lit.wf, IntKind.min, IntKind.max, IntKind.signed, IntKind.bits] using this
end
theorem wf_i64 {x : Int} (h : (Lit.int .i64 x).wf = true) : -9223372036854775808 ≤ x ∧ x ≤ 9223372036854775807 := by
  simpa [Lit.wf, IntKind.min, IntKind.max, IntKind.signed, IntKind.bits] using h
end Go.Proofs.Ytbkffpedigeflaa
