/-
  A context goes on, and back. Conditions: none.
-/
import Derived.Test.YtcieeoobobafmaaMqCx
namespace Go.Proofs.Ytcieeoobobafmaa
open Go.RowKit

theorem cxAt_set {l : List (Nat × Nat)} {k : Nat} (h : k < l.length) (p : Nat × Nat) : cxAt (l.set k p) k = p := by
  unfold cxAt
  rw [List.getD_eq_getElem?_getD, List.getElem?_set_self h]; rfl
set_option maxHeartbeats 800000 in
theorem more_any (w : World) (K k : Nat) (l : List (Nat × Nat)) (hC : Ctx w K l) (hl : l.length = 19) (hk : k < 19) (q m lp : Nat) (s : Bool) :
    Calls Try.prog 35 #[.pointer (some ⟨K, 0, none⟩), .int .i64 k, .agg #[.int .i64 q, .int .i64 m, .int .i64 lp, .bool s]] w fun e w' => e = .returned (.tuple #[]) ∧ Ctx w' K (l.set k (m, (cxAt l k).2)) ∧ Keep (fun j => j = K) w w' := by
  have hlt := hC.lt
  have HC := hid hC
  have g0 : w.cell? ⟨K, k * 2, none⟩ = some (.int .i64 (cxAt l k).1) := (hC.cell (k * 2)).trans (cx_I (by omega))
  have f0 := hC.frozen (k * 2)
  have HF := hid (show Blk (w.setCell ⟨K, k * 2, none⟩ (.int .i64 m)) K 30 (cxCells (l.set k (m, (cxAt l k).2))) by
    have := hC.set_ (k * 2) (.int .i64 m)
    rwa [cx_setI (by omega)] at this)
  have HK := hid ((Keep.refl (fun j => j = K) w).setR (k * 2) (.int .i64 m))
  clear hC
  go_enter Try.func35, Try.ntmps35
  go_wp2_with fail
  go_region
  go_wp2_with fail
  go_end0
  exact ⟨rfl, Blk.drew (Blk.alloc HF.out _), (HK.out.alloc _).drew⟩
/-- The less likely bit's context. -/
def lessM (p : Nat × Nat) (lp : Nat) (s : Bool) : Nat × Nat := (lp, if s = true then 1 - p.2 else p.2)
set_option maxHeartbeats 1600000 in
theorem less_any (w : World) (K k : Nat) (l : List (Nat × Nat)) (hC : Ctx w K l) (hl : l.length = 19) (hk : k < 19) (h2 : (cxAt l k).2 < 2) (q m lp : Nat) (s : Bool) :
    Calls Try.prog 36 #[.pointer (some ⟨K, 0, none⟩), .int .i64 k, .agg #[.int .i64 q, .int .i64 m, .int .i64 lp, .bool s]] w fun e w' => e = .returned (.tuple #[]) ∧ Ctx w' K (l.set k (lessM (cxAt l k) lp s)) ∧ Keep (fun j => j = K) w w' := by
  have hlt := hC.lt
  have HC := hid hC
  have g0 : w.cell? ⟨K, k * 2, none⟩ = some (.int .i64 (cxAt l k).1) := (hC.cell (k * 2)).trans (cx_I (by omega))
  have g1 : w.cell? ⟨K, k * 2 + 1, none⟩ = some (.int .i64 (cxAt l k).2) := (hC.cell (k * 2 + 1)).trans (cx_M (by omega))
  have f0 := hC.frozen (k * 2)
  have f1 := hC.frozen (k * 2 + 1)
  cases s with
  | false =>
    have HF := hid (show Blk (w.setCell ⟨K, k * 2, none⟩ (.int .i64 lp)) K 30 (cxCells (l.set k (lessM (cxAt l k) lp false))) by
      have := hC.set_ (k * 2) (.int .i64 lp)
      rwa [cx_setI (by omega)] at this)
    have HK := hid ((Keep.refl (fun j => j = K) w).setR (k * 2) (.int .i64 lp))
    clear hC
    go_enter Try.func36, Try.ntmps36
    go_wp2_with fail
    go_region
    go_wp2_with fail
    go_end0
    exact ⟨rfl, Blk.drew (Blk.alloc HF.out _), (HK.out.alloc _).drew⟩
  | true =>
    have b1 : Blk (w.setCell ⟨K, k * 2 + 1, none⟩ (.int .i64 ((1 - (cxAt l k).2 : Nat) : Int))) K 30 (cxCells (l.set k ((cxAt l k).1, 1 - (cxAt l k).2))) := by
      have := hC.set_ (k * 2 + 1) (.int .i64 ((1 - (cxAt l k).2 : Nat) : Int))
      rwa [cx_setM (by omega)] at this
    have g2 := (b1.cell (k * 2)).trans (cx_I (by rw [List.length_set]; omega))
    have f2 := b1.frozen (k * 2)
    have e1 : ((1 - (cxAt l k).2 : Nat) : Int) = 1 - ((cxAt l k).2 : Int) := by omega
    have HF := hid (show Blk ((w.setCell ⟨K, k * 2 + 1, none⟩ (.int .i64 ((1 - (cxAt l k).2 : Nat) : Int))).setCell ⟨K, k * 2, none⟩ (.int .i64 lp)) K 30 (cxCells (l.set k (lessM (cxAt l k) lp true))) by
      have := b1.set_ (k * 2) (.int .i64 lp)
      rwa [cx_setI (by rw [List.length_set]; omega), cxAt_set (by omega), List.set_set] at this)
    have HK := hid (((Keep.refl (fun j => j = K) w).setR (k * 2 + 1) (.int .i64 ((1 - (cxAt l k).2 : Nat) : Int))).setR (k * 2) (.int .i64 lp))
    rw [e1] at g2 f2 HF HK
    clear hC b1 e1
    generalize cxAt l k = p at *
    have hw : IntKind.i64.wrap (1 - (p.2 : Int)) = 1 - (p.2 : Int) := IntWalk.i64_in _ (by omega)
    go_enter Try.func36, Try.ntmps36
    go_wp2_with fail
    go_region
    go_wp2_with fail
    go_region
    go_wp2_with fail
    go_end0
    exact ⟨rfl, Blk.drew (Blk.alloc HF.out _), ((HK.out.alloc _).drew).drew⟩
end Go.Proofs.Ytcieeoobobafmaa
