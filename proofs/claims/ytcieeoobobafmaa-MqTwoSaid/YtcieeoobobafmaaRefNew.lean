/-
  The reference's encoder: new ones, contexts at their beginning, how many bytes are out. Conditions: none.
-/
import Derived.Test.YtcieeoobobafmaaRefE
import Derived.Test.YtcieeoobobafmaaMqEql
namespace Go.Proofs.Ytcieeoobobafmaa
open Go.RowKit

/-- The reference's contexts in memory. -/
def RCtx (w : World) (K : Nat) (l : List (Nat × Nat)) : Prop := Blk w K 50 (cxCells l)
theorem rctx_info : (Try.prog.info? 50).map (·.size) = some 38 := by kernel_rfl
set_option maxHeartbeats 400000 in
theorem rnewe_any (w : World) :
    Calls Try.prog 24 #[] w fun e w' => ∃ E A n c, e = .returned (.pointer (some ⟨E, 0, none⟩)) ∧ w.heap.size ≤ E ∧ Er w' w.heap.size E A n c newM ∧ Keep (fun _ => False) w w' := by
  go_enter Try.func24, Try.ntmps24
  go_wp2_with fail
  go_ret
  refine ⟨w.heap.size + 1, some ⟨w.heap.size, 0, none⟩, 1, 1, rfl, Nat.le_succ _, ⟨?_, ?_⟩, ((Keep.refl _ w).alloc _).alloc _⟩
  · have := Blk.new (w.alloc (.cells #[.int .u8 0] 5)) 78 #[.int .i64 32768, .int .i64 0, .int .i64 12, .slice (some ⟨w.heap.size, 0, none⟩) 1 1]
    rw [World.size_alloc] at this
    exact this
  · exact ⟨by simp [newM], .inr ⟨w.heap.size, 1, #[.int .u8 0], rfl, Nat.le_refl _, (Blk.new w 5 #[.int .u8 0]).alloc _, Nat.le_refl _, by simp [maxLen], rfl, by simp [newM]⟩⟩
set_option maxHeartbeats 400000 in
theorem route_any (w : World) (base E : Nat) (A : Option Addr) (n c : Nat) (s : ES) (h : Er w base E A n c s) (hn0 : 0 < n) (hn : n ≤ 1099511627776) :
    Calls Try.prog 28 #[.pointer (some ⟨E, 0, none⟩)] w fun e w' => e = .returned (.int .i64 (s.b.length - 1)) ∧ w = w' := by
  have h0 : w.cell? ⟨E, 3, none⟩ = some (.slice A n c) := h.blk.cell 3
  have hl := hid h.len
  clear h
  go_enter Try.func28, Try.ntmps28
  go_wp2_with fail
  go_ret
  exact ⟨by rw [hl.out]; rfl, rfl⟩
set_option maxHeartbeats 1600000 in
theorem rfresh_any (w : World) :
    Calls Try.prog 23 #[] w fun e w' => e = .returned (.agg (cxCells begL)) ∧ Keep (fun _ => False) w w' := by
  go_enter Try.func23, Try.ntmps23
  go_wp2_with (refine wpList_store_blk (g := w.heap.size + 1) (zs := cxCells zeros19) (t := 50) (by have := Blk.new (w.alloc (.cells (cxCells zeros19) 50)) 50 (cxCells zeros19); rw [World.size_alloc] at this; exact this) rfl 50 _ _ rfl rfl (cxCells (begTo 0)) rfl rfl rctx_info rfl (cx_one _) ?_; intro w2 hb2 hk2)
  have hz2 : Blk w2 w.heap.size 50 (cxCells zeros19) := Blk.keep (Blk.alloc (Blk.new w 50 (cxCells zeros19)) _) hk2 (by omega)
  have HZ2 := hid hz2
  have HB2 := hid hb2
  have HK2 := hid ((((Keep.refl (fun _ => False) w).alloc _).alloc _).trans hk2 (fun j hj h => by omega))
  clear hz2 hb2 hk2
  go_loopw [2] (fun v wr => ∃ k : Nat, k ≤ 19 ∧ v = .int .i64 k ∧ Hid (Blk wr w.heap.size 50 (cxCells zeros19)) ∧ Hid (Blk wr (w.heap.size + 1) 50 (cxCells (begTo k))) ∧ Hid (Keep (fun _ => False) w wr)) (fun v _ => 19 - (intOf v).toNat)
  case atStart => exact ⟨0, by omega, rfl, HZ2, HB2, HK2⟩
  case round =>
    obtain ⟨k, hk, rfl, HZ, HB, HK⟩ := hrel
    clear HZ2 HB2 HK2
    by_cases hk19 : k < 19
    · go_wp2_with fail
      refine (rbegin_any k wr).mono ?_
      rintro e w2 ⟨rfl, hw⟩
      obtain rfl : wr = w2 := hw
      obtain ⟨hs, h0⟩ := begTo_next k hk19
      have b2 := HB.out
      have c2 := (b2.cell (k * 2)).trans (cx_I (by rw [begTo_len k (by omega)]; omega))
      have f2 := b2.frozen (k * 2)
      have b3 := b2.set_ (k * 2) (.int .i64 (begM k))
      have e1 : begM k = ((begM k).toNat : Int) := by omega
      rw [e1, cx_setI (by rw [begTo_len k (by omega)]; omega), hs, ← e1] at b3
      have HB3 := hid b3
      clear b2 b3 hs h0 e1
      generalize begM k = z at *
      go_wp2_with fail
      refine ⟨⟨k + 1, by omega, by simp, hid (HZ.out.far (by simp) _), HB3, hid (HK.out.setCell (p := ⟨w.heap.size + 1, k * 2, none⟩) (.inr (Nat.le_succ _)) _)⟩, by simp [intOf]; omega⟩
    · obtain rfl : k = 19 := by omega
      go_wp2_with (
        first
        | refine wpList_load_row rfl 50 _ rfl (w.heap.size + 1) rfl 50 (cxCells (begTo 19)) (0, 0) _ HB.out Try.underlying50 rfl (by rw [cx_size _ (begTo_len 19 (by omega))]; exact rctx_info) ?_
        | refine wpList_store_row rfl 50 _ _ rfl w.heap.size (cxCells (begTo 19)) rfl rfl 50 (cxCells zeros19) HZ.out (by rw [cx_size _ (begTo_len 19 (by omega))]; exact rctx_info) (by rw [cx_size _ (begTo_len 19 (by omega)), cx_size _ rfl]) (cx_one _) ?_)
      have hz := HZ.out.row (cs' := cxCells (begTo 19))
      refine bodyPost_ret (results_cell_row Try.results23 _ _ w.heap.size 50 (cxCells (begTo 19)) (0, 0) _ rfl hz Try.underlying50 rfl (by rw [cx_size _ (begTo_len 19 (by omega))]; exact rctx_info)) rfl ?_
      exact ⟨rfl, HK.out.row (.inr (Nat.le_refl _)) _⟩
end Go.Proofs.Ytcieeoobobafmaa
