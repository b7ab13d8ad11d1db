/-
  Decode, on one of some trees; a row of numbers beside them. Conditions: none.
-/
import Derived.Test.YtbkffpedigeflaaTreesO
import Derived.Test.YtbkffpedigeflaaTreeBackP
namespace Go.Proofs.Ytbkffpedigeflaa
open Go.RowKit

theorem TrS.dec {w0 w : World} {m r L W H : Nat} {p Q : Nat → Nat} {N : Nat → Nat → Nat → Nd} {st : Nat → List Int × Int} {base R n c : Nat} {A : Option Addr} {l : List Int} {t : RS} (h : TrS w0 m r p L W H N Q st w) {i : Nat} (hi : i < m) (hr : RrS w base R A n c l t) (hok : RSok t) (hl : Bytes l) (k : Nat) (b : Int) (hk : k < W * H) (hb0 : -1000 ≤ b ∧ b ≤ 1000) (hp : t.1 ≤ 536870912) (hR : w0.heap.size ≤ R) :
    Calls Try.prog 20 #[.pointer (some ⟨p i, 0, none⟩), .pointer (some ⟨R, 0, none⟩), .int .i64 k, .int .i64 b] w fun e w' =>
      e = .returned (.bool (((decI l W L k b (N i) t L).2.1 0 k).said && decide (((decI l W L k b (N i) t L).2.1 0 k).n < b))) ∧
      TrS w0 m r p L W H (put N i (decI l W L k b (N i) t L).2.1) Q st w' ∧ RrS w' base R A n c l (decI l W L k b (N i) t L).2.2 ∧ (∀ g cs, Blk w g 3 cs → Blk w' g 3 cs) := by
  obtain ⟨G, c', B, A', n', c'', h⟩ := h
  refine (dec_any w base (p i) (G i) (c' i) L W H (B i) (N i) R A n c l t k b (h.tr i hi) hr hok hl hk hb0 hp).mono ?_
  rintro e w' ⟨rfl, ht, hr', hkk⟩
  have hnt : ∀ g, NF L (B i) g → TF (p i) (G i) L (B i) g := fun g hg => .inr (.inr hg)
  have hb := Rr.blk hr
  have key : ∀ {g : Nat} {ty : TypeId} {cs : Array Value}, Blk w g ty cs → ty ≠ 75 → ¬ g = R := fun hg hn e => Blk.ne_ hg hb hn e
  refine ⟨rfl, ⟨G, c', B, A', n', c'', fun j hj => ?_, h.sep, fun j hj => ?_, h.asep, h.qsep, h.inv, h.tnew, h.qnew, h.keep.trans hkk (fun a ha hf => ?_)⟩, hr', fun g cs hg => hg.keep hkk (fun hf => hf.elim (fun ⟨a, ha, e⟩ => Blk.ne_ hg ((h.tr i hi).nd a ha) (by decide) e.symm) (key hg (by decide)))⟩
  · by_cases e : j = i
    · subst e; rw [put_at]; exact ht
    · rw [put_ne _ _ e]
      have hs := fun g hg => h.sep j i hj hi e g hg
      have h1 := h.tr j hj
      obtain ⟨cs, hgt⟩ := h1.gt
      exact h1.keep hkk (fun hf => hf.elim (fun hf => hs _ (.inl rfl) (hnt _ hf)) (key h1.blk (by decide))) (fun hf => hf.elim (fun hf => hs _ (.inr (.inl rfl)) (hnt _ hf)) (key hgt (by decide))) (fun a ha hf => hf.elim (fun hf => hs _ (.inr (.inr ⟨a, ha, rfl⟩)) (hnt _ hf)) (key (h1.nd a ha) (by decide)))
  · have hw := h.wr j hj
    refine hw.keep hkk (fun hf => hf.elim (node_not (h.tr i hi) hw.blk (by decide)) (key hw.blk (by decide))) (fun ad e hf => ?_)
    rcases hf with ⟨a, ha, e'⟩ | hf
    · exact own_ne hw.own ((h.tr i hi).nd a ha) (by decide) (by rw [e, e']; rfl)
    · exact own_ne hw.own hb (by decide) (by rw [e, ← hf]; rfl)
  · rcases hf with hf | hf
    · have := h.tnew i hi a (hnt a hf); omega
    · omega
/-- A row of numbers. -/
def rowC (m : Nat) (S : Nat → Int) : Array Value := ((List.range m).map (fun j => Value.int .i64 (S j))).toArray
theorem rowC_at {m j : Nat} (S : Nat → Int) (h : j < m) : (rowC m S)[j]? = some (.int .i64 (S j)) := by simp [rowC, h]
theorem rowC_set {m k : Nat} (S : Nat → Int) (v : Int) : (rowC m S).setIfInBounds k (.int .i64 v) = rowC m (fun j => if j = k then v else S j) := by
  apply Array.ext_getElem?
  intro j
  have hs : (rowC m S).size = m := by simp [rowC]
  rw [Array.getElem?_setIfInBounds, hs]
  rcases Nat.lt_or_ge j m with hj | hj
  · rw [rowC_at _ hj, rowC_at _ hj]
    by_cases e : k = j
    · subst e; rw [if_pos rfl, if_pos hj, if_pos rfl]
    · rw [if_neg e, if_neg (Ne.symm e)]
  · rw [show (rowC m S)[j]? = none by simp [rowC, hj], show (rowC m (fun j => if j = k then v else S j))[j]? = none by simp [rowC, hj]]
    split
    · rw [if_neg (by omega)]
    · rfl
theorem rowC_made (m : Nat) (z : Value) (hz : z.cells = #[.int .i64 0]) : madeCells z.cells (m * 1) = rowC m (fun _ => 0) := by
  rw [hz]
  unfold madeCells rowC
  apply Array.ext_getElem?
  intro j
  rcases Nat.lt_or_ge j m with hk | hk
  · rw [Array.getElem?_map, Array.getElem?_range, if_pos (by omega)]
    simp only [List.getElem?_toArray, List.getElem?_map, List.getElem?_range hk, Option.map_some]
    show some (#[Value.int .i64 0][j % 1]!) = _
    rw [Nat.mod_one]
    rfl
  · rw [Array.getElem?_map, Array.getElem?_range, if_neg (by omega)]
    simp only [List.getElem?_toArray, List.getElem?_map]
    rw [List.getElem?_eq_none (by simpa using hk)]
    rfl
theorem info_int : (Try.prog.info? 3).map (fun i => (i.zero, i.size, i.bytes)) = some (some (.int .i64 0), 1, 8) := by kernel_rfl
/-- What the leaves hold ahead of the k-th Set. -/
structure BackI (W H L : Nat) (S : Nat → Int) (N : Nat → Nat → Nd) (k : Nat) : Prop where
  cons : Cons W H L N
  leaf : ∀ j, j < k → (N 0 j).n = S j
  fresh : ∀ i j, (N i j).low = 0 ∧ (N i j).said = false
  pos : ∀ i j, 0 ≤ (N i j).n
theorem lstep_pos {W H : Nat} {N : Nat → Nat → Nd} {i x y dy dx : Nat} {n : Int} (h : ∀ i j, 0 ≤ (N i j).n) (hn : 0 ≤ n) : 0 ≤ lstep W H N i x y dy dx n := by
  unfold lstep
  split
  · have := h i ((2 * y + dy) * upN i W + (2 * x + dx)); omega
  · exact hn
theorem setI_pos {W H k : Nat} {z : Int} {N : Nat → Nat → Nd} (hz : 0 ≤ z) (h : ∀ i j, 0 ≤ (N i j).n) : ∀ r i j, 0 ≤ (setI W H k z N r i j).n
  | 0, i, j => by
    show 0 ≤ (updT N 0 k _ i j).n
    by_cases e : i = 0
    · subst e
      rw [updT_at]
      by_cases e2 : j = k
      · subst e2; rw [upd_same]; exact hz
      · rw [upd_ne _ _ e2]; exact h _ _
    · rw [updT_ne _ _ _ e]; exact h _ _
  | r + 1, i, j => by
    have ih := setI_pos (W := W) (H := H) (k := k) hz h r
    show 0 ≤ (updT (setI W H k z N r) (r + 1) _ _ i j).n
    by_cases e : i = r + 1
    · subst e
      rw [updT_at]
      by_cases e2 : j = idx W (r + 1) k
      · subst e2; rw [upd_same]
        show 0 ≤ leastM W H (setI W H k z N r) r (k % W / 2 ^ (r + 1)) (k / W / 2 ^ (r + 1))
        exact lstep_pos ih (lstep_pos ih (lstep_pos ih (lstep_pos ih (ih _ _))))
      · rw [upd_ne _ _ e2]; exact ih _ _
    · rw [updT_ne _ _ _ e]; exact ih _ _
theorem BackI.next {W H L k : Nat} {S S' : Nat → Int} {N : Nat → Nat → Nd} (hL : Lev W H L) (hk : k < W * H) (h : BackI W H L S N k) (hS : ∀ j, j < k → S' j = S j) (h0 : 0 ≤ S' k) : BackI W H L S' (setI W H k (S' k) N (L - 1)) (k + 1) := by
  refine ⟨h.cons.set hL.w0 hk, fun j hj => ?_, fun i j => ?_, setI_pos h0 h.pos _⟩
  · rw [setI_leaf]
    by_cases e : j = k
    · subst e; rw [if_pos rfl]
    · rw [if_neg e, h.leaf j (by omega), hS j (by omega)]
  · have := setI_rest (W := W) (H := H) (k := k) (z := S' k) (N := N) (L - 1) i j
    rw [this.1, this.2]
    exact h.fresh i j
theorem BackI.up {W H L k : Nat} {S : Nat → Int} {N : Nat → Nat → Nd} (hL : Lev W H L) (h : BackI W H L S N k) : UpN W H L (fun i j => (N i j).n) := fun k i hk hi => h.cons.up hL.w0 hk hi
theorem BackI.sync {W H L k : Nat} {S : Nat → Int} {N : Nat → Nat → Nd} (h : BackI W H L S N k) : Sync W H L (fun i j => (N i j).n) N (fun _ _ => nd0) :=
  ⟨fun i j _ _ => ⟨(h.fresh i j).1.symm, (h.fresh i j).2.symm, fun hs => by rw [(h.fresh i j).2] at hs; cases hs⟩, fun i j _ _ => by rw [(h.fresh i j).1]; exact h.pos i j, fun _ _ _ _ => rfl⟩
end Go.Proofs.Ytbkffpedigeflaa
