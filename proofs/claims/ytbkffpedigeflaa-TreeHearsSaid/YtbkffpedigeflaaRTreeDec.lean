/-
  The reference's Decode, Known; trees that are none. Conditions: bounds up to 1000.
-/
import Derived.Test.YtbkffpedigeflaaRTreeWay
import Derived.Test.YtbkffpedigeflaaTreeDec
import Derived.Test.YtbkffpedigeflaaBitsRR2
import Derived.Deep.MidRow
namespace Go.Proofs.Ytbkffpedigeflaa
open Go.RowKit

/-- In the midst of the reference's Decode. -/
structure RM (w0 : World) (T g tot cap L W H k : Nat) (V : Option Addr) (X : Nat) (A : Option Addr) (n c : Nat) (l : List Int) (N : Nat → Nat → Nd) (t : RS) (w : World) : Prop where
  tr : RT w T g tot cap L W H N
  way : Rd w V L ((rflat W H k L).map (Value.int .i64))
  rd : Xr w X A n c l t
  ok : RSok t
  keep : Keep (fun j => j = g ∨ j = X) w0 w
/-- What lies apart from the way and the bytes. -/
structure Off1 (L : Nat) (V : Option Addr) (A : Option Addr) (n j : Nat) : Prop where
  v : ∀ ad, V = some ad → ad.block ≠ j
  a : 0 < n → ∀ ad, A = some ad → ad.block ≠ j
section
variable {w0 w w' : World} {T g tot cap L W H k X n c : Nat} {V A : Option Addr} {l : List Int} {N : Nat → Nat → Nd} {t : RS}
theorem RM.aside (h : RM w0 T g tot cap L W H k V X A n c l N t w) (hk : Keep (fun _ => False) w w') : RM w0 T g tot cap L W H k V X A n c l N t w' :=
  ⟨h.tr.aside hk, h.way.keep hk (fun _ _ h => h), Xc.keep h.rd hk (fun h => h) (fun _ _ _ h => h), h.ok, h.keep.trans hk (fun _ _ h => h.elim)⟩
theorem RM.xb (h : RM w0 T g tot cap L W H k V X A n c l N t w) {j : Nat} {cs : Array Value} (hj : w0.heap.size ≤ j) (hT : T < w0.heap.size) (hg : g < w0.heap.size) (hX : X < w0.heap.size) (ho : Off1 L V A n j) (hk : Keep (fun i => i = j) w w') : RM w0 T g tot cap L W H k V X A n c l N t w' :=
  ⟨h.tr.keep hk (by omega) (by omega), h.way.keep hk (fun ad e => ho.v ad e), Xc.keep h.rd hk (by omega) (fun hn ad e => ho.a hn ad e), h.ok, h.keep.trans hk (fun i hi e => by omega)⟩
theorem RM.bit (h : RM w0 T g tot cap L W H k V X A n c l N t w) (hl : Bytes l) (hp : t.1 ≤ 1099511627776) (hV : ∀ ad, V = some ad → ad.block ≠ X) :
    Calls Try.prog 34 #[.pointer (some ⟨X, 0, none⟩)] w fun e w' => e = .returned (.int .i64 (rdV l t)) ∧ RM w0 T g tot cap L W H k V X A n c l N (rdS l t) w' ∧ (∀ j cs, Blk w j 81 cs → Blk w' j 81 cs) := by
  refine (xrd_any w X A n c l t h.rd hl h.ok hp).mono ?_
  rintro e w' ⟨rfl, hr', hk'⟩
  have hb := Xc.blk h.rd
  obtain ⟨cs, hg⟩ := h.tr.row
  exact ⟨rfl, ⟨h.tr.keep hk' (Blk.ne_ h.tr.blk hb (by decide)) (Blk.ne_ hg hb (by decide)), h.way.keep hk' (fun ad e => hV ad e), hr', h.ok.step, h.keep.trans hk' (fun i _ e => .inr e)⟩, fun j cs hj => hj.keep hk' (Blk.ne_ hj hb (by decide))⟩
/-- A node is laid back. -/
theorem RT.put (h : RT w T g tot cap L W H N) {i j : Nat} {x : Nd} (hi : i < L) (hj : j < sz W H i) :
    w.there g (4 * (off W H i + j)) 4 ∧ RT (w.setCells g (4 * (off W H i + j)) (rcells x (upIx W H i j))) T g tot cap L W H (updT N i j x) ∧ Keep (fun a => a = g) w (w.setCells g (4 * (off W H i + j)) (rcells x (upIx W H i j))) := by
  have hth : w.there g (4 * (off W H i + j)) 4 := fun r hr => by
    refine ⟨?_, h.frozen _⟩
    have hc := h.cell i j hi hj
    obtain ⟨u, hu⟩ : ∃ u, (rcells (N i j) (upIx W H i j))[r]? = some u := by
      have : r < (rcells (N i j) (upIx W H i j)).length := by simpa [rcells] using hr
      exact ⟨_, List.getElem?_eq_getElem this⟩
    rw [hc r u hu]; rfl
  have hmono : ∀ a b, a ≤ b → off W H a ≤ off W H b := fun a b hab => by
    induction hab with
    | refl => exact Nat.le_refl _
    | step _ ih => exact Nat.le_trans ih (Nat.le_add_right _ _)
  have hkeep : Keep (fun a => a = g) w (w.setCells g (4 * (off W H i + j)) (rcells x (upIx W H i j))) := by
    show Keep (fun a => a = g) w ((((w.setCell ⟨g, 4 * (off W H i + j), none⟩ _).setCell ⟨g, 4 * (off W H i + j) + 1, none⟩ _).setCell ⟨g, 4 * (off W H i + j) + 1 + 1, none⟩ _).setCell ⟨g, 4 * (off W H i + j) + 1 + 1 + 1, none⟩ _)
    exact ((((Keep.refl _ w).setR (R := g) _ _).setR _ _).setR _ _).setR _ _
  obtain ⟨cs, hg⟩ := h.row
  have hTg : T ≠ g := Blk.ne_ h.blk hg (by decide)
  refine ⟨hth, ⟨h.lev, h.htot, h.hcap, h.blk.keep hkeep hTg, ?_, fun a b ha hb r u hu => ?_⟩, hkeep⟩
  · show ∃ cs, Blk ((((w.setCell ⟨g, 4 * (off W H i + j), none⟩ _).setCell ⟨g, 4 * (off W H i + j) + 1, none⟩ _).setCell ⟨g, 4 * (off W H i + j) + 1 + 1, none⟩ _).setCell ⟨g, 4 * (off W H i + j) + 1 + 1 + 1, none⟩ _) g _ cs
    exact ⟨_, (((hg.set_ _ _).set_ _ _).set_ _ _).set_ _ _⟩
  · have hr : r < 4 := by
      have := (List.getElem?_eq_some_iff.1 hu).1
      simpa [rcells] using this
    by_cases e : a = i ∧ b = j
    · obtain ⟨rfl, rfl⟩ := e
      rw [updT_same] at hu
      have hs := World.rangeAt_setCells_same w g (4 * (off W H a + b)) (rcells x (upIx W H a b)) (by simpa [rcells] using hth)
      exact hs r u hu
    · have hne : off W H a + b ≠ off W H i + j := by
        rcases Nat.lt_trichotomy a i with hl | hl | hl
        · have := hmono (a + 1) i hl
          have h3 : off W H (a + 1) = off W H a + sz W H a := rfl
          omega
        · subst hl
          have : b ≠ j := fun e' => e ⟨rfl, e'⟩
          omega
        · have := hmono (i + 1) a hl
          have h3 : off W H (i + 1) = off W H i + sz W H i := rfl
          omega
      have hx : updT N i j x a b = N a b := by
        by_cases e1 : a = i
        · subst e1
          rw [updT_at, upd_ne _ _ (fun e' => e ⟨rfl, e'⟩)]
        · rw [updT_ne _ _ _ e1]
      rw [hx] at hu
      have hold : w.rangeAt g (4 * (off W H a + b)) (rcells (N a b) (upIx W H a b)) := fun r u hu => h.cell a b ha hb r u hu
      have hs := World.rangeAt_setCells_apart hold g (4 * (off W H i + j)) (rcells x (upIx W H i j)) (by simp [rcells]; omega)
      exact hs r u hu
end
/-- How far a laid-out node is from its bound. -/
def farX (b : Int) (g : Nat) (w : World) : Nat := match w.cell? ⟨g, 1, none⟩, w.cell? ⟨g, 2, none⟩ with | some v, some (.bool s) => (b - intOf v).toNat + (if s then 0 else 1) | _, _ => 0

set_option maxHeartbeats 1000000 in
theorem rknown_any (w : World) (T g tot cap L W H : Nat) (N : Nat → Nat → Nd) (k : Nat) (h : RT w T g tot cap L W H N) (hk : k < W * H) :
    Calls Try.prog 22 #[.pointer (some ⟨T, 0, none⟩), .int .i64 k] w fun e w' => e = .returned (.int .i64 (knownM (N 0 k))) ∧ Keep (fun _ => False) w w' := by
  have hL := h.lev.pos
  have hc := h.cells hk hL
  have hf : flat W H k 0 = k := by unfold flat; rw [idx0]; show 0 + k = k; omega
  have hft := off_lt h.lev hk hL
  rw [← h.htot] at hft
  rw [hf, idx0, Nat.mul_comm 4 k] at hc
  rw [hf] at hft
  have hcap := h.hcap
  have c0 := hc.1
  have c2 := hc.2.2.1
  have p0 : w.cell? ⟨T, 0, none⟩ = some (.slice (some ⟨g, 0, none⟩) tot cap) := h.blk.cell 0
  have p1 : w.cell? ⟨T, 1, none⟩ = some (.int .i64 ((W * H : Nat) : Int)) := h.blk.cell 1
  have e1 : decide (W * H ≤ k) = false := by simp only [decide_eq_false_iff_not]; omega
  have e3 : k < W * H := hk
  have HQ := hid (show ∀ x : Nd, knownM x = if x.said = true then x.n else -1 from fun _ => rfl)
  have HE := hid (HQ.out (N 0 k))
  clear h hc hf hk
  generalize W * H = m at *
  generalize hx : N 0 k = x at *
  have HX := hid hx
  clear hx
  obtain ⟨n, low, sd⟩ := x
  cases sd
  · go_enter Try.func22, Try.ntmps22
    go_wp2_with fail
    go_ret
    exact ⟨by rw [HE.out]; rfl, Keep.refl _ _⟩
  · go_enter Try.func22, Try.ntmps22
    go_wp2_with fail
    go_ret
    exact ⟨by rw [HE.out]; rfl, Keep.refl _ _⟩
/-- A leaf that is none. -/
theorem rknown_out (w : World) (T : Nat) (sl fr : Value) (m k : Int) (h : Blk w T 79 #[sl, .int .i64 m, fr]) (hk : k < 0 ∨ m ≤ k) :
    Calls Try.prog 22 #[.pointer (some ⟨T, 0, none⟩), .int .i64 k] w fun e w' => e = .returned (.int .i64 (-1)) ∧ Keep (fun _ => False) w w' := by
  have p1 : w.cell? ⟨T, 1, none⟩ = some (.int .i64 m) := h.cell 1
  by_cases h1 : k < 0
  · clear hk
    go_enter Try.func22, Try.ntmps22
    go_wp2_with fail
    go_ret
    exact ⟨rfl, Keep.refl _ _⟩
  · have h2 : m ≤ k := by omega
    have h3 : decide (k < 0) = false := by simp; omega
    clear hk
    go_enter Try.func22, Try.ntmps22
    go_wp2_with fail
    go_ret
    exact ⟨rfl, Keep.refl _ _⟩
theorem rdec_out (w : World) (T : Nat) (sl fr X : Value) (m k b : Int) (h : Blk w T 79 #[sl, .int .i64 m, fr]) (hk : k < 0 ∨ m ≤ k) :
    Calls Try.prog 21 #[.pointer (some ⟨T, 0, none⟩), X, .int .i64 k, .int .i64 b] w fun e w' => e = .returned (.bool false) ∧ Keep (fun _ => False) w w' := by
  have p1 : w.cell? ⟨T, 1, none⟩ = some (.int .i64 m) := h.cell 1
  by_cases h1 : k < 0
  · clear hk
    go_enter Try.func21, Try.ntmps21
    go_wp2_with fail
    go_ret
    exact ⟨rfl, Keep.refl _ _⟩
  · have h2 : m ≤ k := by omega
    have h3 : decide (k < 0) = false := by simp; omega
    clear hk
    go_enter Try.func21, Try.ntmps21
    go_wp2_with fail
    go_ret
    exact ⟨rfl, Keep.refl _ _⟩
theorem rnew_none (w : World) (W H : Nat) (h : W = 0 ∨ H = 0) :
    Calls Try.prog 18 #[.int .i64 W, .int .i64 H] w fun e w' => ∃ T, e = .returned (.pointer (some ⟨T, 0, none⟩)) ∧ Blk w' T 79 #[.slice none 0 0, .int .i64 0, .bool false] ∧ w.heap.size ≤ T ∧ Keep (fun _ => False) w w' := by
  have e0 : (W : Int) * (H : Int) = 0 := by rcases h with h | h <;> subst h <;> simp
  clear h
  go_enter Try.func18, Try.ntmps18
  go_wp2_with fail
  go_ret
  exact ⟨w.heap.size, rfl, Blk.new _ _ _, Nat.le_refl _, (Keep.refl _ w).alloc _⟩
end Go.Proofs.Ytbkffpedigeflaa
