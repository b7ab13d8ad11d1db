/-
  The program's tree of numbers: what it holds, what a grid is, a place's address. Conditions: none.
-/
import Derived.Test.YtbkffpedigeflaaBitsW
import Derived.OwnWalk
namespace Go.Proofs.Ytbkffpedigeflaa
open Go.RowKit

theorem Blk.row {w : World} {g : Nat} {t : TypeId} {cs cs' : Array Value} (h : Blk w g t cs) : Blk (w.setRow g cs') g t cs' := by
  show (w.heap.modify g _)[g]? = _
  rw [Array.getElem?_modify, if_pos rfl, show w.heap[g]? = some (.cells cs t (0, 0)) from h]
  rfl
theorem Keep.row {S : Nat → Prop} {a w : World} (h : Keep S a w) {g : Nat} (hg : S g ∨ a.heap.size ≤ g) (cs : Array Value) : Keep S a (w.setRow g cs) := by
  refine ⟨h.os, h.tape, h.output, ?_, ?_⟩
  · have := h.size
    show _ ≤ (w.heap.modify g _).size
    rwa [Array.size_modify]
  · intro i hi hS
    show (w.heap.modify g _)[i]? = _
    have : g ≠ i := fun e => by subst e; rcases hg with hg | hg
                                · exact hS hg
                                · omega
    rw [Array.getElem?_modify, if_neg this]
    exact h.block i hi hS
theorem wpList_store_blk {P : Program} {ops : Array Oper} {rest : List Oper} {o : Oper} {a : Act} {W : World} {Q : Exit → Act → World → Prop} {zs : Array Value} {t : TypeId} {g : Nat} (hb : Blk W g t zs) (hgd : o.guard = none) (ty : TypeId) (x y : Operand) (ho : o.op = .store ty x y)
    (hd : o.dst = none) (cells : Array Value) (hx : a.eval x = .pointer (some ⟨g, 0, none⟩)) (hy : a.eval y = .agg cells)
    (hi : (P.info? ty).map (·.size) = some cells.size) (hold : zs.size = cells.size) (h1 : cells.all (·.oneCell') = true)
    (K : ∀ w2, Blk w2 g t cells → Keep (fun j => j = g) W w2 → wpList P ops Q rest a w2) : wpList P ops Q (o :: rest) a W := by
  refine wpList_store_row hgd ty x y ho g cells hx hy t zs hb hi hold h1 ?_
  rw [hd]
  exact K _ hb.row ((Keep.refl (fun j => j = g) W).row (.inl rfl) _)

/-- A node: its number, what is known of it at least, whether it was said. -/
structure Nd where
  n : Int
  low : Int
  said : Bool
def nd0 : Nd := ⟨0, 0, false⟩
/-- The k-th cell of a row of nodes. -/
def cellAt (f : Nat → Nd) (k : Nat) : Value := if k % 3 = 0 then .int .i64 (f (k / 3)).n else if k % 3 = 1 then .int .i64 (f (k / 3)).low else .bool (f (k / 3)).said
/-- The cells of m nodes. -/
def ncells (m : Nat) (f : Nat → Nd) : Array Value := ((List.range (3 * m)).map (cellAt f)).toArray
theorem ncells_at {m : Nat} {f : Nat → Nd} {k : Nat} (h : k < 3 * m) : (ncells m f)[k]? = some (cellAt f k) := by
  simp [ncells, h]
theorem ncells_out {m : Nat} {f : Nat → Nd} {k : Nat} (h : 3 * m ≤ k) : (ncells m f)[k]? = none := by
  simp [ncells, h]
theorem ncells_n {m : Nat} {f : Nat → Nd} {j : Nat} (h : j < m) : (ncells m f)[3 * j]? = some (.int .i64 (f j).n) := by
  rw [ncells_at (by omega)]; unfold cellAt; rw [if_pos (by omega), Nat.mul_div_cancel_left _ (by omega)]
theorem ncells_low {m : Nat} {f : Nat → Nd} {j : Nat} (h : j < m) : (ncells m f)[3 * j + 1]? = some (.int .i64 (f j).low) := by
  rw [ncells_at (by omega)]; unfold cellAt; rw [if_neg (by omega), if_pos (by omega), show (3 * j + 1) / 3 = j by omega]
theorem ncells_said {m : Nat} {f : Nat → Nd} {j : Nat} (h : j < m) : (ncells m f)[3 * j + 2]? = some (.bool (f j).said) := by
  rw [ncells_at (by omega)]; unfold cellAt; rw [if_neg (by omega), if_neg (by omega), show (3 * j + 2) / 3 = j by omega]
def upd (f : Nat → Nd) (j : Nat) (x : Nd) : Nat → Nd := fun i => if i = j then x else f i
theorem upd_same (f : Nat → Nd) (j : Nat) (x : Nd) : upd f j x j = x := if_pos rfl
theorem upd_ne (f : Nat → Nd) {i j : Nat} (x : Nd) (h : i ≠ j) : upd f j x i = f i := if_neg h
theorem upd_self (f : Nat → Nd) (j : Nat) : upd f j (f j) = f := by funext i; unfold upd; split <;> simp_all
theorem upd_upd (f : Nat → Nd) (j : Nat) (x y : Nd) : upd (upd f j x) j y = upd f j y := by funext i; unfold upd; split <;> rfl
theorem ncells_set {m : Nat} {f : Nat → Nd} {j r : Nat} {v : Value} {x : Nd} (h : j < m) (hr : r < 3) (h1 : cellAt (upd f j x) (3 * j + r) = v) (h2 : ∀ r', r' < 3 → r' ≠ r → cellAt (upd f j x) (3 * j + r') = cellAt f (3 * j + r')) :
    (ncells m f).setIfInBounds (3 * j + r) v = ncells m (upd f j x) := by
  apply Array.ext_getElem?
  intro k
  rw [Array.getElem?_setIfInBounds]
  rcases Nat.lt_or_ge k (3 * m) with hk | hk
  · rw [ncells_at hk, ncells_at hk]
    by_cases e : 3 * j + r = k
    · subst e
      have hs : (ncells m f).size = 3 * m := by simp [ncells]
      rw [if_pos rfl, if_pos (by rw [hs]; omega), h1]
    · rw [if_neg e]
      by_cases hj : k / 3 = j
      · obtain ⟨r', hr', rfl⟩ : ∃ r', r' < 3 ∧ k = 3 * j + r' := ⟨k % 3, by omega, by omega⟩
        rw [h2 r' hr' (by omega)]
      · unfold cellAt
        rw [upd_ne _ _ hj]
  · have hs : (ncells m f).size = 3 * m := by simp [ncells]
    rw [ncells_out hk, ncells_out hk]
    split
    · rw [if_neg (by rw [hs]; omega)]
    · rfl
theorem cell_0 (f : Nat → Nd) (j : Nat) : cellAt f (3 * j + 0) = .int .i64 (f j).n := by unfold cellAt; rw [if_pos (by omega), show (3 * j + 0) / 3 = j by omega]
theorem cell_1 (f : Nat → Nd) (j : Nat) : cellAt f (3 * j + 1) = .int .i64 (f j).low := by unfold cellAt; rw [if_neg (by omega), if_pos (by omega), show (3 * j + 1) / 3 = j by omega]
theorem cell_2 (f : Nat → Nd) (j : Nat) : cellAt f (3 * j + 2) = .bool (f j).said := by unfold cellAt; rw [if_neg (by omega), if_neg (by omega), show (3 * j + 2) / 3 = j by omega]
theorem ncells_setN {m : Nat} {f : Nat → Nd} {j : Nat} (h : j < m) (z : Int) : (ncells m f).setIfInBounds (3 * j) (.int .i64 z) = ncells m (upd f j { f j with n := z }) := by
  refine ncells_set (r := 0) h (by omega) (by rw [cell_0, upd_same]) (fun r' h1 h2 => ?_)
  match r', h1, h2 with
  | 1, _, _ => rw [cell_1, cell_1, upd_same]
  | 2, _, _ => rw [cell_2, cell_2, upd_same]
theorem ncells_setLow {m : Nat} {f : Nat → Nd} {j : Nat} (h : j < m) (z : Int) : (ncells m f).setIfInBounds (3 * j + 1) (.int .i64 z) = ncells m (upd f j { f j with low := z }) := by
  refine ncells_set (r := 1) h (by omega) (by rw [cell_1, upd_same]) (fun r' h1 h2 => ?_)
  match r', h1, h2 with
  | 0, _, _ => rw [cell_0, cell_0, upd_same]
  | 2, _, _ => rw [cell_2, cell_2, upd_same]
theorem ncells_setSaid {m : Nat} {f : Nat → Nd} {j : Nat} (h : j < m) (b : Bool) : (ncells m f).setIfInBounds (3 * j + 2) (.bool b) = ncells m (upd f j { f j with said := b }) := by
  refine ncells_set (r := 2) h (by omega) (by rw [cell_2, upd_same]) (fun r' h1 h2 => ?_)
  obtain rfl | rfl : r' = 0 ∨ r' = 1 := by omega
  · rw [cell_0, cell_0, upd_same]
  · rw [cell_1, cell_1, upd_same]

/-- How wide level i is. -/
def upN : Nat → Nat → Nat
  | 0, W => W
  | i + 1, W => (upN i W + 1) / 2
theorem upN_pos {W : Nat} (h : 0 < W) : ∀ i, 0 < upN i W
  | 0 => h
  | i + 1 => by have := upN_pos h i; show 0 < (upN i W + 1) / 2; omega
theorem upN_le {W : Nat} : ∀ i, upN i W ≤ W
  | 0 => Nat.le_refl _
  | i + 1 => by
    have := upN_le (W := W) i
    show (upN i W + 1) / 2 ≤ W
    rcases Nat.eq_zero_or_pos (upN i W) with h | h
    · omega
    · omega
theorem div_lt_up {x W : Nat} (h : x < W) : ∀ i, x / 2 ^ i < upN i W
  | 0 => by simpa [upN] using h
  | i + 1 => by
    have := div_lt_up h i
    show x / 2 ^ (i + 1) < (upN i W + 1) / 2
    rw [Nat.pow_succ, ← Nat.div_div_eq_div_mul]
    omega
/-- How many nodes level i has. -/
def sz (W H i : Nat) : Nat := upN i W * upN i H
/-- There are L levels. -/
structure Lev (W H L : Nat) : Prop where
  w0 : 0 < W
  h0 : 0 < H
  w1 : W ≤ 64
  h1 : H ≤ 64
  pos : 0 < L
  le : L ≤ 7
  topw : upN (L - 1) W = 1
  toph : upN (L - 1) H = 1
  least : ∀ i, i + 1 < L → ¬ (upN i W = 1 ∧ upN i H = 1)
theorem Lev.same {W H L L' : Nat} (h : Lev W H L) (h' : Lev W H L') : L = L' := by
  rcases Nat.lt_trichotomy L L' with hl | hl | hl
  · exact absurd ⟨h.topw, h.toph⟩ (h'.least (L - 1) (by have := h.pos; omega))
  · exact hl
  · exact absurd ⟨h'.topw, h'.toph⟩ (h.least (L' - 1) (by have := h'.pos; omega))
theorem sz_le {W H : Nat} (hw : W ≤ 64) (hh : H ≤ 64) (i : Nat) : sz W H i ≤ 4096 := by
  have h1 := upN_le (W := W) i
  have h2 := upN_le (W := H) i
  exact Nat.le_trans (Nat.mul_le_mul (Nat.le_trans h1 hw) (Nat.le_trans h2 hh)) (by decide)
/-- Where the node above leaf k lies in level i. -/
def idx (W i k : Nat) : Nat := k / W / 2 ^ i * upN i W + k % W / 2 ^ i
theorem idx_lt {W H L k : Nat} (h : Lev W H L) (hk : k < W * H) (i : Nat) : idx W i k < sz W H i := by
  have h1 := div_lt_up (Nat.mod_lt k h.w0) i
  have h2 := div_lt_up (x := k / W) (W := H) (by rw [Nat.div_lt_iff_lt_mul h.w0, Nat.mul_comm]; exact hk) i
  unfold idx sz
  have h3 : (k / W / 2 ^ i + 1) * upN i W ≤ upN i H * upN i W := Nat.mul_le_mul_right _ h2
  rw [Nat.add_mul, Nat.one_mul] at h3
  rw [Nat.mul_comm (upN i W)]
  omega

/-- The tree at block p: its levels at block G, level i's nodes at block B i. -/
structure TrG (w : World) (p G c L W H : Nat) (B : Nat → Nat) (N : Nat → Nat → Nd) : Prop where
  lev : Lev W H L
  cap : L ≤ c
  blk : Blk w p 55 #[.slice (some ⟨G, 0, none⟩) L c]
  lv : ∀ i, i < L → w.cell? ⟨G, i * 3, none⟩ = some (.int .i64 (upN i W)) ∧ w.cell? ⟨G, i * 3 + 1, none⟩ = some (.int .i64 (upN i H)) ∧ w.cell? ⟨G, i * 3 + 2, none⟩ = some (.slice (some ⟨B i, 0, none⟩) (sz W H i) (sz W H i))
  nd : ∀ i, i < L → Blk w (B i) 61 (ncells (sz W H i) (N i))
  inj : ∀ i j, i < L → j < L → B i = B j → i = j
  gt : ∃ cs, Blk w G 58 cs
def updT (N : Nat → Nat → Nd) (i j : Nat) (x : Nd) : Nat → Nat → Nd := fun a => if a = i then upd (N i) j x else N a
theorem updT_at (N : Nat → Nat → Nd) (i j : Nat) (x : Nd) : updT N i j x i = upd (N i) j x := if_pos rfl
theorem updT_same (N : Nat → Nat → Nd) (i j : Nat) (x : Nd) : updT N i j x i j = x := by rw [updT_at, upd_same]
theorem updT_ne (N : Nat → Nat → Nd) {a i : Nat} (j : Nat) (x : Nd) (h : a ≠ i) : updT N i j x a = N a := if_neg h
theorem updT_self (N : Nat → Nat → Nd) (i j : Nat) : updT N i j (N i j) = N := by funext a; unfold updT; split <;> simp_all [upd_self]
theorem updT_updT (N : Nat → Nat → Nd) (i j : Nat) (x y : Nd) : updT (updT N i j x) i j y = updT N i j y := by funext a; unfold updT; split <;> simp [upd_upd]
section
variable {w w' : World} {p G c L W H : Nat} {B : Nat → Nat} {N : Nat → Nat → Nd}
theorem TrG.keep (h : TrG w p G c L W H B N) {S : Nat → Prop} (hk : Keep S w w') (hp : ¬ S p) (hG : ¬ S G) (hB : ∀ i, i < L → ¬ S (B i)) : TrG w' p G c L W H B N :=
  ⟨h.lev, h.cap, h.blk.keep hk hp, fun i hi => ⟨hk.cell (h.lv i hi).1 hG, hk.cell (h.lv i hi).2.1 hG, hk.cell (h.lv i hi).2.2 hG⟩, fun i hi => (h.nd i hi).keep hk (hB i hi), h.inj, h.gt.imp fun _ hb => hb.keep hk hG⟩
theorem TrG.drew (h : TrG w p G c L W H B N) : TrG w.drew p G c L W H B N := h.keep (S := fun _ => False) (Keep.refl _ w).drew (fun h => h) (fun h => h) (fun _ _ h => h)
theorem TrG.aside (h : TrG w p G c L W H B N) (hk : Keep (fun _ => False) w w') : TrG w' p G c L W H B N := h.keep hk (fun h => h) (fun h => h) (fun _ _ h => h)
theorem TrG.gB (h : TrG w p G c L W H B N) {i : Nat} (hi : i < L) : B i ≠ G := by
  obtain ⟨cs, hg⟩ := h.gt
  exact Blk.ne_ (h.nd i hi) hg (by decide)
theorem TrG.cells (h : TrG w p G c L W H B N) {i j : Nat} (hi : i < L) (hj : j < sz W H i) :
    w.cell? ⟨B i, 3 * j, none⟩ = some (.int .i64 (N i j).n) ∧ w.cell? ⟨B i, 3 * j + 1, none⟩ = some (.int .i64 (N i j).low) ∧ w.cell? ⟨B i, 3 * j + 2, none⟩ = some (.bool (N i j).said) :=
  ⟨((h.nd i hi).cell _).trans (ncells_n hj), ((h.nd i hi).cell _).trans (ncells_low hj), ((h.nd i hi).cell _).trans (ncells_said hj)⟩
theorem TrG.frozen (h : TrG w p G c L W H B N) {i : Nat} (hi : i < L) (k : Nat) : w.frozen? ⟨B i, k, none⟩ = false := (h.nd i hi).frozen k
theorem TrG.pB (h : TrG w p G c L W H B N) {i : Nat} (hi : i < L) : B i ≠ p := Blk.ne_ (h.nd i hi) h.blk (by decide)
/-- A cell of a node is written. -/
theorem TrG.set (h : TrG w p G c L W H B N) {i j : Nat} (hi : i < L) {k : Nat} {v : Value} {x : Nd} (he : (ncells (sz W H i) (N i)).setIfInBounds k v = ncells (sz W H i) (upd (N i) j x)) :
    TrG (w.setCell ⟨B i, k, none⟩ v) p G c L W H B (updT N i j x) := by
  have hk := Keep.set1 w (B i) k v
  refine ⟨h.lev, h.cap, h.blk.keep hk (fun e => h.pB hi e.symm), fun a ha => ⟨hk.cell (h.lv a ha).1 (fun e => h.gB hi e.symm), hk.cell (h.lv a ha).2.1 (fun e => h.gB hi e.symm), hk.cell (h.lv a ha).2.2 (fun e => h.gB hi e.symm)⟩, fun a ha => ?_, h.inj, h.gt.imp fun _ hb => hb.keep hk (fun e => h.gB hi e.symm)⟩
  by_cases e : a = i
  · subst e
    rw [updT_at, ← he]
    exact (h.nd a ha).set_ _ _
  · rw [updT_ne _ _ _ e]
    exact (h.nd a ha).keep hk (fun e' => e (h.inj a i ha hi e'))
theorem TrG.setN (h : TrG w p G c L W H B N) {i j : Nat} (hi : i < L) (hj : j < sz W H i) (z : Int) : TrG (w.setCell ⟨B i, 3 * j, none⟩ (.int .i64 z)) p G c L W H B (updT N i j { N i j with n := z }) := h.set hi (ncells_setN hj z)
theorem TrG.setLow (h : TrG w p G c L W H B N) {i j : Nat} (hi : i < L) (hj : j < sz W H i) (z : Int) : TrG (w.setCell ⟨B i, 3 * j + 1, none⟩ (.int .i64 z)) p G c L W H B (updT N i j { N i j with low := z }) := h.set hi (ncells_setLow hj z)
theorem TrG.setSaid (h : TrG w p G c L W H B N) {i j : Nat} (hi : i < L) (hj : j < sz W H i) (b : Bool) : TrG (w.setCell ⟨B i, 3 * j + 2, none⟩ (.bool b)) p G c L W H B (updT N i j { N i j with said := b }) := h.set hi (ncells_setSaid hj b)
end
/-- A tree's blocks. -/
def TF (p G L : Nat) (B : Nat → Nat) (k : Nat) : Prop := k = p ∨ k = G ∨ ∃ i, i < L ∧ B i = k

theorem info_node : (Try.prog.info? 61).map (fun i => (i.zero, i.size, i.bytes)) = some (some (.agg #[.int .i64 0, .int .i64 0, .bool false]), 3, 24) := by kernel_rfl

theorem blk_of_full {w : World} {base : Nat} {e : TypeId} {size n g : Nat} {xs : List Value} (h : w.ownsRow base e size (.slice (some ⟨g, 0, none⟩) n n) n xs) : Blk w g e xs.toArray := by
  rcases h.2 with ⟨h0, _⟩ | ⟨g', cap, cur, hv, hb, hg, hnc, hcm, hcs, htake⟩
  · cases h0
  · injection hv with h1 h2 h3
    injection h1 with h1
    injection h1 with h1
    subst h1 h3
    have : cur.toList = xs := by rw [← htake, List.take_of_length_le (by rw [Array.length_toList, hcs]; exact Nat.le_refl _)]
    have : cur = xs.toArray := by rw [← this]
    subst this
    exact hg

set_option maxHeartbeats 400000 in
theorem at_grid (w : World) (W H g n x y : Nat) (hy : y < 64) (hx : x < 64) (hW : W ≤ 64) (hn : y * W + x < n) (hn2 : n ≤ 4096) :
    Calls Try.prog 28 #[.agg #[.int .i64 W, .int .i64 H, .slice (some ⟨g, 0, none⟩) n n], .int .i64 x, .int .i64 y] w fun e w' =>
      e = .returned (.pointer (some ⟨g, 3 * (y * W + x), none⟩)) ∧ Keep (fun _ => False) w w' := by
  have e1 : IntKind.i64.wrap ((y : Int) * (W : Int)) = ((y * W : Nat) : Int) := by rw [← Int.natCast_mul, IntWalk.i64_in _ (by omega)]
  have e2 : IntKind.i64.wrap (((y * W : Nat) : Int) + (x : Int)) = ((y * W + x : Nat) : Int) := by rw [← Int.natCast_add, IntWalk.i64_in _ (by omega)]
  go_enter Try.func28, Try.ntmps28
  go_wp2_with fail
  go_ret
  refine ⟨?_, (Keep.refl _ _).alloc _⟩
  simp

theorem made_nodes (m : Nat) (z : Value) (hz : z.cells = #[.int .i64 0, .int .i64 0, .bool false]) : (madeCells z.cells (m * 3)) = ncells m (fun _ => nd0) := by
  rw [hz]
  unfold madeCells
  apply Array.ext_getElem?
  intro k
  rcases Nat.lt_or_ge k (3 * m) with hk | hk
  · rw [ncells_at hk, Array.getElem?_map, Array.getElem?_range, if_pos (by omega)]
    show some (#[Value.int .i64 0, .int .i64 0, .bool false][k % 3]!) = _
    obtain ⟨r, hr, hr3⟩ : ∃ r, k % 3 = r ∧ r < 3 := ⟨k % 3, rfl, Nat.mod_lt _ (by omega)⟩
    unfold cellAt
    rw [hr]
    match r, hr3 with
    | 0, _ => rfl
    | 1, _ => rfl
    | 2, _ => rfl
  · rw [ncells_out hk, Array.getElem?_map, Array.getElem?_range, if_neg (by omega)]
    rfl
theorem info_grid : (Try.prog.info? 58).map (fun i => (i.zero, i.size, i.bytes)) = some (some (.agg #[.int .i64 0, .int .i64 0, .slice none 0 0]), 3, 40) := by kernel_rfl

set_option maxHeartbeats 800000 in
theorem gridof_any (w : World) (W H : Nat) (hW : W ≤ 64) (hH : H ≤ 64) :
    Calls Try.prog 25 #[.int .i64 W, .int .i64 H] w fun e w' => ∃ g,
      e = .returned (.agg #[.int .i64 W, .int .i64 H, .slice (some ⟨g, 0, none⟩) (W * H) (W * H)]) ∧ Blk w' g 61 (ncells (W * H) fun _ => nd0) ∧ w.heap.size ≤ g ∧ Keep (fun _ => False) w w' := by
  obtain ⟨i0, hi0, hz0, hz1, hz2⟩ := info_parts info_node
  have hm : W * H ≤ 4096 := Nat.le_trans (Nat.mul_le_mul hW hH) (by decide)
  have e1 : IntKind.i64.wrap ((W : Int) * (H : Int)) = ((W * H : Nat) : Int) := by rw [← Int.natCast_mul, IntWalk.i64_in _ (by omega)]
  go_enter Try.func25, Try.ntmps25
  have hinf : (Try.prog.info? 58).map (·.size) = some 3 := by kernel_rfl
  go_wp2_with (
    first
    | (refine wpList_make_full _ rfl _ _ 56 rfl w.heap.size 61 i0 _ 3 Try.underlying56 hi0 hz0 hz1 .i64 .i64 _ _ (W * H) rfl rfl (by simp) (by simp) (by rw [hz2]; omega) (by simp only [maxLen]; omega) (by simp) ?_
       intro w2 hown2 hg2
       rw [World.size_alloc] at hown2
       have B2 := hid (blk_of_full hown2)
       have K2 := hid (((Keep.refl (fun _ => False) w).alloc (.cells #[Value.int IntKind.i64 0, Value.int IntKind.i64 0, Value.slice none 0 0] 58)).grown hg2 (fun k hk => by cases hk))
       have B1 := hid ((Blk.new w 58 #[Value.int IntKind.i64 0, Value.int IntKind.i64 0, Value.slice none 0 0]).grown hg2 (by simp))
       have c0 := B1.out.cell 0
       have c1 := B1.out.cell 1
       have c2 := B1.out.cell 2
       have f0 := B1.out.frozen 0
       have f1 := B1.out.frozen 1
       have f2 := B1.out.frozen 2
       clear hown2 hg2))
  have hz := ((B1.out.set_ 0 (.int .i64 W)).set_ 1 (.int .i64 H)).set_ 2 (.slice (some ⟨w.heap.size + 1, 0, none⟩) (W * H) (W * H))
  have e2 : ((#[Value.int IntKind.i64 0, Value.int IntKind.i64 0, Value.slice none 0 0].setIfInBounds 0 (.int .i64 W)).setIfInBounds 1 (.int .i64 H)).setIfInBounds 2 (.slice (some ⟨w.heap.size + 1, 0, none⟩) (W * H) (W * H)) =
    #[.int .i64 W, .int .i64 H, .slice (some ⟨w.heap.size + 1, 0, none⟩) (W * H) (W * H)] := by simp
  rw [e2] at hz
  have hn : True := trivial
  refine bodyPost_ret (results_cell_row Try.results25 _ _ w.heap.size 58 _ (0, 0) _ rfl hz Try.underlying58 rfl hinf) rfl ?_
  refine ⟨w.heap.size + 1, rfl, ?_, by omega, ?_⟩
  · have := ((B2.out.far (p := ⟨w.heap.size, 0, none⟩) (by simp) (.int .i64 W)).far (p := ⟨w.heap.size, 1, none⟩) (by simp) (.int .i64 H)).far (p := ⟨w.heap.size, 2, none⟩) (by simp) (.slice (some ⟨w.heap.size + 1, 0, none⟩) (W * H) (W * H))
    rw [Array.toArray_toList, made_nodes (W * H) _ rfl] at this
    exact this
  · exact ((K2.out.setCell (p := ⟨w.heap.size, 0, none⟩) (.inr (Nat.le_refl _)) _).setCell (p := ⟨w.heap.size, 1, none⟩) (.inr (Nat.le_refl _)) _).setCell (p := ⟨w.heap.size, 2, none⟩) (.inr (Nat.le_refl _)) _

/-- What the levels' row holds. -/
def lvcells (W H : Nat) (B : Nat → Nat) (i : Nat) : List Value := [.int .i64 (upN i W), .int .i64 (upN i H), .slice (some ⟨B i, 0, none⟩) (sz W H i) (sz W H i)]
def lvrow (W H : Nat) (B : Nat → Nat) : Nat → List Value
  | 0 => []
  | i + 1 => lvrow W H B i ++ lvcells W H B i
theorem lvrow_len (W H : Nat) (B : Nat → Nat) : ∀ i, (lvrow W H B i).length = i * 3
  | 0 => rfl
  | i + 1 => by show (lvrow W H B i ++ lvcells W H B i).length = _; rw [List.length_append, lvrow_len W H B i]; simp [lvcells]; omega
theorem lvrow_at (W H : Nat) (B : Nat → Nat) : ∀ L i, i < L → (lvrow W H B L)[i * 3]? = some (.int .i64 (upN i W)) ∧ (lvrow W H B L)[i * 3 + 1]? = some (.int .i64 (upN i H)) ∧ (lvrow W H B L)[i * 3 + 2]? = some (.slice (some ⟨B i, 0, none⟩) (sz W H i) (sz W H i))
  | 0, i, h => by omega
  | L + 1, i, h => by
    have hl := lvrow_len W H B L
    show (lvrow W H B L ++ lvcells W H B L)[i * 3]? = _ ∧ (lvrow W H B L ++ lvcells W H B L)[i * 3 + 1]? = _ ∧ (lvrow W H B L ++ lvcells W H B L)[i * 3 + 2]? = _
    by_cases e : i = L
    · subst e
      rw [List.getElem?_append_right (by omega), List.getElem?_append_right (by omega), List.getElem?_append_right (by omega), show i * 3 - (lvrow W H B i).length = 0 by omega, show i * 3 + 1 - (lvrow W H B i).length = 1 by omega, show i * 3 + 2 - (lvrow W H B i).length = 2 by omega]
      exact ⟨rfl, rfl, rfl⟩
    · rw [List.getElem?_append_left (by omega), List.getElem?_append_left (by omega), List.getElem?_append_left (by omega)]
      exact lvrow_at W H B L i (by omega)
theorem lvrow_congr {W H : Nat} {B B' : Nat → Nat} : ∀ {L : Nat}, (∀ i, i < L → B i = B' i) → lvrow W H B L = lvrow W H B' L
  | 0, _ => rfl
  | L + 1, h => by
    show lvrow W H B L ++ lvcells W H B L = lvrow W H B' L ++ lvcells W H B' L
    rw [lvrow_congr (fun i hi => h i (by omega))]
    unfold lvcells
    rw [h L (by omega)]
end Go.Proofs.Ytbkffpedigeflaa
