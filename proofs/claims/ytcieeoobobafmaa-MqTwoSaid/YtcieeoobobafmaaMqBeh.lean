/-
  Two decoders side by side; bytes with as many 255 behind are decoded alike. Conditions: none.
-/
import Derived.Test.YtcieeoobobafmaaMqRun2
namespace Go.Proofs.Ytcieeoobobafmaa
open Go.RowKit

theorem wpList_store_blk {P : Program} {ops : Array Oper} {rest : List Oper} {o : Oper} {a : Act} {W : World} {Q : Exit → Act → World → Prop} {zs : Array Value} {t : TypeId} {g : Nat} (hb : Blk W g t zs) (hgd : o.guard = none) (ty : TypeId) (x y : Operand) (ho : o.op = .store ty x y)
    (hd : o.dst = none) (cells : Array Value) (hx : a.eval x = .pointer (some ⟨g, 0, none⟩)) (hy : a.eval y = .agg cells)
    (hi : (P.info? ty).map (·.size) = some cells.size) (hold : zs.size = cells.size) (h1 : cells.all (·.oneCell') = true)
    (K : ∀ w2, Blk w2 g t cells → Keep (fun j => j = g) W w2 → wpList P ops Q rest a w2) : wpList P ops Q (o :: rest) a W := by
  refine wpList_store_row hgd ty x y ho g cells hx hy t zs hb hi hold h1 ?_
  rw [hd]
  exact K _ hb.row ((Keep.refl (fun j => j = g) W).row (.inl rfl) _)
theorem inM_congr {l l' : List Int} (h : ∀ k, byteM l k = byteM l' k) (s : DS) : inM l s = inM l' s := by
  unfold inM
  rw [h, h]
theorem dblD_congr {l l' : List Int} (h : ∀ k, byteM l k = byteM l' k) (s : DS) : dblD l s = dblD l' s := by
  unfold dblD inD
  rw [inM_congr h]
theorem renD_congr {l l' : List Int} (h : ∀ k, byteM l k = byteM l' k) : ∀ (k : Nat) (s : DS), renD l k s = renD l' k s
  | 0, _ => rfl
  | k + 1, s => by
    show (if 32768 ≤ (dblD l s).a then dblD l s else renD l k (dblD l s)) = if 32768 ≤ (dblD l' s).a then dblD l' s else renD l' k (dblD l' s)
    rw [dblD_congr h, renD_congr h]
theorem decR_congr {l l' : List Int} (h : ∀ k, byteM l k = byteM l' k) (s : DS × List (Nat × Nat)) (k : Nat) : decR l s k = decR l' s k := by
  unfold decR decS
  rw [renD_congr h, renD_congr h]
theorem newD_congr {l l' : List Int} (h : ∀ k, byteM l k = byteM l' k) : newD l = newD l' := by
  unfold newD
  rw [h, inM_congr h]
theorem byteM_behind (l : List Int) (j : Nat) (k : Nat) : byteM (l ++ List.replicate j 255) k = byteM l k := by
  unfold byteM
  by_cases h : l.length ≤ k
  · rw [if_pos h]
    split
    · rfl
    · rename_i h2
      rw [List.length_append, List.length_replicate] at h2
      rw [List.getD_eq_getElem?_getD, List.getElem?_append_right h, List.getElem?_replicate, if_pos (by omega)]
      rfl
  · rw [if_neg h, if_neg (by rw [List.length_append]; omega), List.getD_eq_getElem?_getD, List.getElem?_append_left (by omega), List.getD_eq_getElem?_getD]
/-- The decoder behind the first i bits of those contexts. -/
def runD (l ks : List Int) : Nat → DS × List (Nat × Nat)
  | 0 => (newD l, begL)
  | i + 1 => decR l (runD l ks i) (ks.getD i 0).toNat
theorem runD_ok (l zs : List Int) : ∀ i, RunD l (runD l (kL zs) i)
  | 0 => RunD.new l
  | i + 1 => (runD_ok l zs i).step (kL_at zs i).2
theorem runD_congr {l l' : List Int} (h : ∀ k, byteM l k = byteM l' k) (ks : List Int) : ∀ i, runD l ks i = runD l' ks i
  | 0 => by show (newD l, begL) = (newD l', begL); rw [newD_congr h]
  | i + 1 => by
    show decR l (runD l ks i) _ = decR l' (runD l' ks i) _
    rw [runD_congr h ks i, decR_congr h]
/-- In memory: two decoders newer than w0, contexts of each. -/
def TwoD (w0 : World) (D1 K1 D2 K2 : Nat) (l1 l2 : List Int) (s1 s2 : DS × List (Nat × Nat)) (w : World) : Prop :=
  (∃ A n c, De w w0.heap.size D1 A n c l1 s1.1) ∧ (∃ A n c, De w w0.heap.size D2 A n c l2 s2.1) ∧ Ctx w K1 s1.2 ∧ Ctx w K2 s2.2 ∧ D1 ≠ D2 ∧ K1 ≠ K2 ∧ w0.heap.size ≤ D1 ∧ w0.heap.size ≤ D2 ∧ Keep (fun j => j = K1 ∨ j = K2) w0 w
section
variable {w0 w : World} {D1 K1 D2 K2 : Nat} {l1 l2 : List Int} {s1 s2 : DS × List (Nat × Nat)}
theorem TwoD.swap (h : TwoD w0 D1 K1 D2 K2 l1 l2 s1 s2 w) : TwoD w0 D2 K2 D1 K1 l2 l1 s2 s1 w := by
  obtain ⟨h1, h2, h3, h4, h5, h6, h7, h8, h9⟩ := h
  exact ⟨h2, h1, h4, h3, h5.symm, h6.symm, h8, h7, h9.mono (fun _ _ h => h.symm)⟩
theorem TwoD.keep (h : TwoD w0 D1 K1 D2 K2 l1 l2 s1 s2 w) : Keep (fun j => j = K1 ∨ j = K2) w0 w := h.2.2.2.2.2.2.2.2
theorem TwoD.drew (h : TwoD w0 D1 K1 D2 K2 l1 l2 s1 s2 w) : TwoD w0 D1 K1 D2 K2 l1 l2 s1 s2 w.drew := by
  obtain ⟨⟨A, n, c, h1⟩, ⟨A', n', c', h2⟩, h3, h4, h5, h6, h7, h8, h9⟩ := h
  exact ⟨⟨A, n, c, h1.blk.drew, h1.own.drew⟩, ⟨A', n', c', h2.blk.drew, h2.own.drew⟩, Blk.drew h3, Blk.drew h4, h5, h6, h7, h8, h9.drew⟩
theorem TwoD.dec (h : TwoD w0 D1 K1 D2 K2 l1 l2 s1 s2 w) (hr : RunD l1 s1) (hby : Bytes l1) (hl : l1.length ≤ 1073741000) (k : Nat) (hk : k < 19) :
    Calls Try.prog 18 #[.pointer (some ⟨D1, 0, none⟩), .pointer (some ⟨K1, 0, none⟩), .int .i64 k] w fun e w' => e = .returned (.int .i64 (decV s1 k)) ∧ TwoD w0 D1 K1 D2 K2 l1 l2 (decR l1 s1 k) s2 w' := by
  obtain ⟨⟨A, n, c, hE⟩, ⟨A', n', c', hF⟩, hC1, hC2, hD, hK, hD1, hD2, hKp⟩ := h
  have hlen := hE.len
  refine (dec_any w _ D1 K1 k A n c l1 s1.1 s1.2 hE hr.inv hr.lo hr.hi hC1 hr.cx hk hby (by omega) (tabAt (cxAt s1.2 k).1).1 (tabAt (cxAt s1.2 k).1).2.1 (tabAt (cxAt s1.2 k).1).2.2.1 (tabAt (cxAt s1.2 k).1).2.2.2 rfl).mono ?_
  rintro e w' ⟨rfl, hE', hC', hK'⟩
  have hKD : K2 ≠ D1 := Blk.ne_ hC2 hE.blk (by decide)
  have hDK : D2 ≠ K1 := (Blk.ne_ hC1 hF.blk (by decide)).symm
  refine ⟨rfl, ⟨A, n, c, hE'⟩, ⟨A', n', c', hF.keep hK' (fun h => ?_) (fun ad e h => ?_)⟩, hC', Blk.keep hC2 hK' (fun h => ?_), hD, hK, hD1, hD2, hKp.trans hK' (fun i hi h => ?_)⟩
  · rcases h with h | h
    · exact hD h.symm
    · exact hDK h
  · subst e
    rcases h with h | h
    · exact own_ne hF.own hE.blk (by decide) (by rw [← h]; rfl)
    · exact own_ne hF.own hC1 (by decide) (by rw [← h]; rfl)
  · rcases h with h | h
    · exact hKD h
    · exact hK h.symm
  · rcases h with h | h
    · omega
    · exact .inl h
end
end Go.Proofs.Ytcieeoobobafmaa
