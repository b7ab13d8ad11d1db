/-
  Known; a leaf that is none; a tree that is none. Conditions: none.
-/
import Derived.Test.YtbkffpedigeflaaTreeWay
namespace Go.Proofs.Ytbkffpedigeflaa
open Go.RowKit

theorem idx0 (W k : Nat) : idx W 0 k = k := by
  unfold idx
  rw [Nat.pow_zero, Nat.div_one, Nat.div_one]
  show k / W * W + k % W = k
  rw [Nat.mul_comm]
  exact Nat.div_add_mod k W
/-- The last pointer of a way is the leaf's. -/
theorem way_leaf (W L k : Nat) (B : Nat → Nat) (h : 0 < L) : (wayTo W L k B L)[L - 1]? = some (.pointer (some ⟨B 0, 3 * k, none⟩)) := by
  rw [wayTo_at W L k B (L - 1) (by omega)]
  unfold ptrW
  rw [Nat.sub_self, idx0]
/-- What Known says of a leaf. -/
def knownM (x : Nd) : Int := if x.said = true then x.n else -1

set_option maxHeartbeats 1000000 in
theorem known_any (w : World) (p G c L W H : Nat) (B : Nat → Nat) (N : Nat → Nat → Nd) (k : Nat) (h : TrG w p G c L W H B N) (hk : k < W * H) :
    Calls Try.prog 17 #[.pointer (some ⟨p, 0, none⟩), .int .i64 k] w fun e w' => e = .returned (.int .i64 (knownM (N 0 k))) ∧ Keep (fun _ => False) w w' := by
  have hL := h.lev.pos
  have hL7 := h.lev.le
  have H0 := hid h
  have HW := hid (way_leaf W L k B hL)
  have hj : k < sz W H 0 := hk
  go_enter Try.func17, Try.ntmps17
  go_wp2_with fail
  refine (way_in w p G c L W H B N k H0.out hk).mono ?_
  rintro e w1 ⟨V, rfl, hV, hVs, hk1⟩
  have H1 := H0.out.aside hk1
  have c0 := (H1.cells hL hj).1
  have c2 := (H1.cells hL hj).2.2
  have t0 : w1.cell? ⟨V, L - 1, none⟩ = some (.pointer (some ⟨B 0, 3 * k, none⟩)) := (hV.cell _).trans HW.out
  have HK1 := hid hk1
  have HQ := hid (show ∀ x : Nd, knownM x = if x.said = true then x.n else -1 from fun _ => rfl)
  have HE := hid (HQ.out (N 0 k))
  clear hV hk1 H1 H0 h
  obtain ⟨M, hM⟩ : ∃ M, L = M + 1 := ⟨L - 1, by omega⟩
  subst hM
  rw [Nat.add_sub_cancel] at t0
  have e0 : (((M + 1 : Nat) : Int) == 0) = false := by simp; omega
  generalize hx : N 0 k = x at *
  have HX := hid hx
  clear hx
  obtain ⟨n, low, sd⟩ := x
  cases sd
  · go_wp2_with fail
    go_ret
    exact ⟨by rw [HX.out, HE.out]; rfl, HK1.out⟩
  · go_wp2_with fail
    go_ret
    exact ⟨by rw [HX.out, HE.out]; rfl, HK1.out⟩

/-- A tree that is none. -/
def TrN (w : World) (p : Nat) : Prop := Blk w p 55 #[.slice none 0 0]

set_option maxHeartbeats 400000 in
theorem way_out (w : World) (p G c L W H : Nat) (B : Nat → Nat) (N : Nat → Nat → Nd) (k : Int) (h : TrG w p G c L W H B N) (hk : k < 0 ∨ ((W * H : Nat) : Int) ≤ k) :
    Calls Try.prog 26 #[.pointer (some ⟨p, 0, none⟩), .int .i64 k] w fun e w' => e = .returned (.slice none 0 0) ∧ Keep (fun _ => False) w w' := by
  have hL := h.lev.pos
  have hc := h.cap
  have p0 : w.cell? ⟨p, 0, none⟩ = some (.slice (some ⟨G, 0, none⟩) L c) := h.blk.cell 0
  have g0 : w.cell? ⟨G, 0, none⟩ = some (.int .i64 W) := (h.lv 0 (by omega)).1
  have g1 : w.cell? ⟨G, 1, none⟩ = some (.int .i64 H) := (h.lv 0 (by omega)).2.1
  have g2 : w.cell? ⟨G, 2, none⟩ = some (.slice (some ⟨B 0, 0, none⟩) (W * H) (W * H)) := (h.lv 0 (by omega)).2.2
  have e0 : ((L : Int) == 0) = false := by simp; omega
  clear h
  generalize W * H = m at *
  by_cases h1 : k < 0
  · clear hk
    go_enter Try.func26, Try.ntmps26
    go_wp2_with fail
    go_ret
    exact ⟨rfl, Keep.refl _ _⟩
  · have h2 : (m : Int) ≤ k := by omega
    have h3 : decide (k < 0) = false := by simp; omega
    clear hk
    go_enter Try.func26, Try.ntmps26
    go_wp2_with fail
    go_ret
    exact ⟨rfl, Keep.refl _ _⟩
theorem way_none (w : World) (p : Nat) (k : Int) (h : TrN w p) :
    Calls Try.prog 26 #[.pointer (some ⟨p, 0, none⟩), .int .i64 k] w fun e w' => e = .returned (.slice none 0 0) ∧ Keep (fun _ => False) w w' := by
  have p0 : w.cell? ⟨p, 0, none⟩ = some (.slice none 0 0) := h.cell 0
  go_enter Try.func26, Try.ntmps26
  go_wp2_with fail
  go_ret
  exact ⟨rfl, Keep.refl _ _⟩
/-- No way: not known, not below anything. -/
theorem known_none (w : World) (p : Nat) (k : Int) (way : Calls Try.prog 26 #[.pointer (some ⟨p, 0, none⟩), .int .i64 k] w fun e w' => e = .returned (.slice none 0 0) ∧ Keep (fun _ => False) w w') :
    Calls Try.prog 17 #[.pointer (some ⟨p, 0, none⟩), .int .i64 k] w fun e w' => e = .returned (.int .i64 (-1)) ∧ Keep (fun _ => False) w w' := by
  have HW := hid way
  clear way
  go_enter Try.func17, Try.ntmps17
  go_wp2_with fail
  refine HW.out.mono ?_
  rintro e w1 ⟨rfl, hk1⟩
  go_wp2_with fail
  go_ret
  exact ⟨rfl, hk1⟩
theorem dec_none (w : World) (p : Nat) (R : Value) (k b : Int) (way : Calls Try.prog 26 #[.pointer (some ⟨p, 0, none⟩), .int .i64 k] w fun e w' => e = .returned (.slice none 0 0) ∧ Keep (fun _ => False) w w') :
    Calls Try.prog 20 #[.pointer (some ⟨p, 0, none⟩), R, .int .i64 k, .int .i64 b] w fun e w' => e = .returned (.bool false) ∧ Keep (fun _ => False) w w' := by
  have HW := hid way
  clear way
  go_enter Try.func20, Try.ntmps20
  go_wp2_with fail
  refine HW.out.mono ?_
  rintro e w1 ⟨rfl, hk1⟩
  have HK1 := hid hk1
  clear hk1
  go_wp2_with fail
  go_loopw [18] (fun v wr => v = .int .i64 0 ∧ wr = w1) (fun v _ => 0)
  case atStart => exact ⟨rfl, rfl⟩
  case round =>
    obtain ⟨rfl, rfl⟩ := hrel
    go_wp2_with fail
    go_ret
    exact ⟨rfl, HK1.out⟩
theorem new_none (w : World) (W H : Int) (h : W < 1 ∨ H < 1) :
    Calls Try.prog 9 #[.int .i64 W, .int .i64 H] w fun e w' => ∃ p, e = .returned (.pointer (some ⟨p, 0, none⟩)) ∧ TrN w' p ∧ w.heap.size ≤ p ∧ Keep (fun _ => False) w w' := by
  by_cases h1 : W < 1
  · go_enter Try.func9, Try.ntmps9
    go_wp2_with fail
    go_ret
    exact ⟨w.heap.size, rfl, Blk.new _ _ _, Nat.le_refl _, (Keep.refl _ w).alloc _⟩
  · have h2 : H < 1 := by omega
    clear h
    go_enter Try.func9, Try.ntmps9
    go_wp2_with fail
    go_ret
    exact ⟨w.heap.size, rfl, Blk.new _ _ _, Nat.le_refl _, (Keep.refl _ w).alloc _⟩
end Go.Proofs.Ytbkffpedigeflaa
