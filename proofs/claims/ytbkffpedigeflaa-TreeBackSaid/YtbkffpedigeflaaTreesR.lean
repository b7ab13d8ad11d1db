/-
  Trees beside a reader. Conditions: none.
-/
import Derived.Test.YtbkffpedigeflaaTreeKn
import Derived.Test.YtbkffpedigeflaaTreeDec
import Derived.Test.YtbkffpedigeflaaReadBack
namespace Go.Proofs.Ytbkffpedigeflaa
open Go.RowKit

theorem TrS.reader {w0 w w' : World} {m r L W H R : Nat} {p Q : Nat → Nat} {N : Nat → Nat → Nat → Nd} {st : Nat → List Int × Int} {cs : Array Value} (h : TrS w0 m r p L W H N Q st w) (hb : Blk w R 75 cs) (hR : w0.heap.size ≤ R) (hk : Keep (fun k => k = R) w w') : TrS w0 m r p L W H N Q st w' := by
  obtain ⟨G, c, B, A, n, c', h⟩ := h
  have key : ∀ {g : Nat} {ty : TypeId} {cs : Array Value}, Blk w g ty cs → ty ≠ 75 → ¬ g = R := fun hg hn e => Blk.ne_ hg hb hn e
  refine ⟨G, c, B, A, n, c', fun i hi => ?_, h.sep, fun j hj => ?_, h.asep, h.qsep, h.inv, h.tnew, h.qnew, h.keep.trans hk (fun a ha e => by omega)⟩
  · have ht := h.tr i hi
    obtain ⟨cs, hg⟩ := ht.gt
    exact ht.keep hk (key ht.blk (by decide)) (key hg (by decide)) (fun i hi => key (ht.nd i hi) (by decide))
  · have hw := h.wr j hj
    exact hw.keep hk (key hw.blk (by decide)) (fun ad e e' => own_ne hw.own hb (by decide) (by rw [e, ← e']; rfl))
theorem stR0 (bs : List Int) : stR bs 0 = (0, 0, false) := rfl
theorem runM_bytes (bs : List Int) : Bytes (runM ([], 0) bs).1 := (runM_inv bs ([], 0) BInv.nil).bytes
theorem stR_ok (bs : List Int) (j : Nat) : RSok (stR bs j) ∧ (stR bs j).1 ≤ j := by
  have h := frontM_inv bs j
  exact ⟨⟨h.r0, by have := h.r7; show (frontM bs j).2 ≤ 8; omega⟩, frontM_length bs j⟩
/-- A bit of those that were written. -/
theorem rd_out (bs : List Int) (j : Nat) (hj : j < bs.length) : rdV (outB (runM ([], 0) bs).1) (stR bs j) = bs.getD j 0 % 2 ∧ rdS (outB (runM ([], 0) bs).1) (stR bs j) = stR bs (j + 1) := by
  obtain ⟨t, ht⟩ := outB_app (frontM bs bs.length).1
  have := rd_step bs t j hj
  rw [← ht, frontM_all] at this
  exact this
end Go.Proofs.Ytbkffpedigeflaa
