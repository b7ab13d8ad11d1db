/-
  New encoders, contexts at their beginning, how many bytes are out. Conditions: none.
-/
import Derived.Test.YtcieeoobobafmaaMqEnc
namespace Go.Proofs.Ytcieeoobobafmaa
open Go.RowKit

def newM : ES := ⟨32768, 0, 12, [0]⟩
theorem newM_inv : EInv newM := ⟨fun z hz => by simp [newM] at hz; omega, by decide, by decide, by decide, by decide, by decide, by decide⟩
set_option maxHeartbeats 400000 in
theorem newe_any (w : World) :
    Calls Try.prog 19 #[] w fun e w' => ∃ E A n c, e = .returned (.pointer (some ⟨E, 0, none⟩)) ∧ w.heap.size ≤ E ∧ En w' w.heap.size E A n c newM ∧ Keep (fun _ => False) w w' := by
  go_enter Try.func19, Try.ntmps19
  go_wp2_with fail
  go_ret
  refine ⟨w.heap.size + 1, some ⟨w.heap.size, 0, none⟩, 1, 1, rfl, Nat.le_succ _, ⟨?_, ?_⟩, ((Keep.refl _ w).alloc _).alloc _⟩
  · have := Blk.new (w.alloc (.cells #[.int .u8 0] 5)) 73 #[.slice (some ⟨w.heap.size, 0, none⟩) 1 1, .int .i64 32768, .int .i64 0, .int .i64 12]
    rw [World.size_alloc] at this
    exact this
  · exact ⟨by simp [newM], .inr ⟨w.heap.size, 1, #[.int .u8 0], rfl, Nat.le_refl _, (Blk.new w 5 #[.int .u8 0]).alloc _, Nat.le_refl _, by simp [maxLen], rfl, by simp [newM]⟩⟩
set_option maxHeartbeats 400000 in
theorem oute_any (w : World) (base E : Nat) (A : Option Addr) (n c : Nat) (s : ES) (h : En w base E A n c s) (hn0 : 0 < n) (hn : n ≤ 1099511627776) :
    Calls Try.prog 27 #[.pointer (some ⟨E, 0, none⟩)] w fun e w' => e = .returned (.int .i64 (s.b.length - 1)) ∧ w = w' := by
  have h0 : w.cell? ⟨E, 0, none⟩ = some (.slice A n c) := h.blk.cell 0
  have hl := hid h.len
  clear h
  go_enter Try.func27, Try.ntmps27
  go_wp2_with fail
  go_ret
  exact ⟨by rw [hl.out]; rfl, rfl⟩
def begL : List (Nat × Nat) := [(4, 0), (0, 0), (0, 0), (0, 0), (0, 0), (0, 0), (0, 0), (0, 0), (0, 0), (0, 0), (0, 0), (0, 0), (0, 0), (0, 0), (0, 0), (0, 0), (0, 0), (3, 0), (46, 0)]
theorem begL_ok : Cxs begL := by
  refine ⟨rfl, fun k => ?_, fun k => ?_⟩
  · by_cases h : k < 19
    · have : ∀ k, k < 19 → (cxAt begL k).1 < 47 := by decide +kernel
      exact this k h
    · unfold cxAt
      rw [List.getD_eq_getElem?_getD, List.getElem?_eq_none (by show 19 ≤ k; omega)]
      decide
  · by_cases h : k < 19
    · have : ∀ k, k < 19 → (cxAt begL k).2 < 2 := by decide +kernel
      exact this k h
    · unfold cxAt
      rw [List.getD_eq_getElem?_getD, List.getElem?_eq_none (by show 19 ≤ k; omega)]
      decide
/-- Contexts whose first k are at their beginning. -/
def begTo (k : Nat) : List (Nat × Nat) := begL.take k ++ List.replicate (19 - k) (0, 0)
theorem begTo_len (k : Nat) (h : k ≤ 19) : (begTo k).length = 19 := by
  unfold begTo
  rw [List.length_append, List.length_take, List.length_replicate]
  show min k 19 + _ = _
  omega
theorem begTo_next (k : Nat) (h : k < 19) : (begTo k).set k ((begM k).toNat, (cxAt (begTo k) k).2) = begTo (k + 1) ∧ 0 ≤ begM k := by
  have : ∀ k : Nat, k < 19 → (begTo k).set k ((begM (k : Int)).toNat, (cxAt (begTo k) k).2) = begTo (k + 1) ∧ 0 ≤ begM (k : Int) := by decide +kernel
  exact this k h
def zeros19 : List (Nat × Nat) := List.replicate 19 (0, 0)
theorem cx_size (l : List (Nat × Nat)) (h : l.length = 19) : (cxCells l).size = 38 := by
  have : ∀ l : List (Nat × Nat), (cxL l).length = 2 * l.length := by
    intro l
    induction l with
    | nil => rfl
    | cons p l ih => simp [cxL, ih]; omega
  show (cxL l).length = 38
  rw [this, h]
theorem cx_one (l : List (Nat × Nat)) : (cxCells l).all (·.oneCell') = true := by
  unfold cxCells
  rw [List.all_toArray]
  induction l with
  | nil => rfl
  | cons p l ih => simpa [cxL, Value.oneCell'] using ih
theorem ctx_info : (Try.prog.info? 30).map (·.size) = some 38 := by kernel_rfl
theorem Blk.row {w : World} {g : Nat} {t : TypeId} {cs cs' : Array Value} (h : Blk w g t cs) : Blk (w.setRow g cs') g t cs' := by
  show (w.heap.modify g _)[g]? = _
  rw [Array.getElem?_modify, if_pos rfl, show w.heap[g]? = some (.cells cs t (0, 0)) from h]
  rfl
theorem Keep.row {S : Nat → Prop} {a w : World} (h : Keep S a w) {g : Nat} (hg : S g ∨ a.heap.size ≤ g) (cs : Array Value) : Keep S a (w.setRow g cs) := by
  refine ⟨h.os, h.tape, h.output, ?_, ?_⟩
  · have := h.size
    show _ ≤ (w.heap.modify g _).size
    rwa [Array.size_modify]
  · intro i hi hS
    show (w.heap.modify g _)[i]? = _
    have : g ≠ i := fun e => by subst e; rcases hg with hg | hg
                                · exact hS hg
                                · omega
    rw [Array.getElem?_modify, if_neg this]
    exact h.block i hi hS
set_option maxHeartbeats 1600000 in
theorem fresh_any (w : World) :
    Calls Try.prog 16 #[] w fun e w' => e = .returned (.agg (cxCells begL)) ∧ Keep (fun _ => False) w w' := by
  go_enter Try.func16, Try.ntmps16
  go_wp2_with fail
  go_loopw [3] (fun v wr => ∃ k : Nat, k ≤ 19 ∧ v = .int .i64 k ∧ Hid (Blk wr w.heap.size 30 (cxCells zeros19)) ∧ Hid (Blk wr (w.heap.size + 1) 30 (cxCells (begTo k))) ∧ Hid (Keep (fun _ => False) w wr)) (fun v _ => 19 - (intOf v).toNat)
  case atStart =>
    refine ⟨0, by omega, rfl, hid ((Blk.new w _ _).alloc _), hid ?_, hid (((Keep.refl _ w).alloc _).alloc _)⟩
    have := Blk.new (w.alloc (.cells (cxCells zeros19) 30)) 30 (cxCells (begTo 0))
    rw [World.size_alloc] at this
    exact this
  case round =>
    obtain ⟨k, hk, rfl, HZ, HB, HK⟩ := hrel
    by_cases hk19 : k < 19
    · go_wp2_with fail
      refine (begin_any k wr).mono ?_
      rintro e w2 ⟨rfl, hk2⟩
      obtain ⟨hs, h0⟩ := begTo_next k hk19
      have hZ2 := hid (HZ.out.keep hk2 (fun h => h))
      have b2 := HB.out.keep hk2 (fun h => h)
      have hK2 := hid (HK.out.trans hk2 (fun _ _ h => h))
      have c2 := (b2.cell (k * 2)).trans (cx_I (by rw [begTo_len k (by omega)]; omega))
      have f2 := b2.frozen (k * 2)
      have b3 := b2.set_ (k * 2) (.int .i64 (begM k))
      have e1 : begM k = ((begM k).toNat : Int) := by omega
      rw [e1, cx_setI (by rw [begTo_len k (by omega)]; omega), hs, ← e1] at b3
      have HB3 := hid b3
      clear b2 b3 hk2 hs h0 e1
      generalize begM k = z at *
      go_wp2_with fail
      refine ⟨⟨k + 1, by omega, by simp, hid (hZ2.out.far (by simp) _), HB3, hid (hK2.out.setCell (p := ⟨w.heap.size + 1, k * 2, none⟩) (.inr (Nat.le_succ _)) _)⟩, by simp [intOf]; omega⟩
    · obtain rfl : k = 19 := by omega
      go_wp2_with (
        first
        | refine wpList_load_row rfl 30 _ rfl (w.heap.size + 1) rfl 30 (cxCells (begTo 19)) (0, 0) _ HB.out Try.underlying30 rfl (by rw [cx_size _ (begTo_len 19 (by omega))]; exact ctx_info) ?_
        | refine wpList_store_row rfl 30 _ _ rfl w.heap.size (cxCells (begTo 19)) rfl rfl 30 (cxCells zeros19) HZ.out (by rw [cx_size _ (begTo_len 19 (by omega))]; exact ctx_info) (by rw [cx_size _ (begTo_len 19 (by omega)), cx_size _ rfl]) (cx_one _) ?_)
      have hz := HZ.out.row (cs' := cxCells (begTo 19))
      refine bodyPost_ret (results_cell_row Try.results16 _ _ w.heap.size 30 (cxCells (begTo 19)) (0, 0) _ rfl hz Try.underlying30 rfl (by rw [cx_size _ (begTo_len 19 (by omega))]; exact ctx_info)) rfl ?_
      exact ⟨rfl, HK.out.row (.inr (Nat.le_refl _)) _⟩
end Go.Proofs.Ytcieeoobobafmaa
