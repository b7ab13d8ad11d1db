/-
  A run over raw numbers: its contexts and bits in memory; what holds of each step. Conditions: none.
-/
import Derived.Test.YtcieeoobobafmaaMqLists
namespace Go.Proofs.Ytcieeoobobafmaa
open Go.RowKit

def kL (zs : List Int) : List Int := (zs.take 400).map mqK
def bL (zs : List Int) : List Int := (zs.take 400).map mqB
theorem kL_at (zs : List Int) (i : Nat) : 0 ≤ (kL zs).getD i 0 ∧ ((kL zs).getD i 0).toNat < 19 := by
  have h : ∀ z ∈ kL zs, 0 ≤ z ∧ z < 19 := fun z hz => by
    obtain ⟨y, _, rfl⟩ := List.mem_map.1 hz
    exact ⟨Int.emod_nonneg _ (by decide), Int.emod_lt_of_pos _ (by decide)⟩
  rw [List.getD_eq_getElem?_getD]
  rcases Nat.lt_or_ge i (kL zs).length with hi | hi
  · rw [List.getElem?_eq_getElem hi]
    have := h _ (List.getElem_mem hi)
    show 0 ≤ (kL zs)[i] ∧ (kL zs)[i].toNat < 19
    omega
  · rw [List.getElem?_eq_none hi]
    decide
theorem bL_at (zs : List Int) (i : Nat) : 0 ≤ (bL zs).getD i 0 ∧ (bL zs).getD i 0 ≤ 1 := by
  have h : ∀ z ∈ bL zs, 0 ≤ z ∧ z ≤ 1 := fun z hz => by
    obtain ⟨y, _, rfl⟩ := List.mem_map.1 hz
    exact mqB_range y
  rw [List.getD_eq_getElem?_getD]
  rcases Nat.lt_or_ge i (bL zs).length with hi | hi
  · rw [List.getElem?_eq_getElem hi]
    exact h _ (List.getElem_mem hi)
  · rw [List.getElem?_eq_none hi]
    decide
theorem lists_rd (w : World) (A : Option Addr) (n c : Nat) (zs : List Int) (h : Rd w A n (zs.map (Value.int .i64))) (hz : ∀ z ∈ zs, -9223372036854775808 ≤ z ∧ z ≤ 9223372036854775807) :
    Calls Try.prog 15 #[.slice A n c] w fun e w' => ∃ A1 c1 A2 c2 m, e = .returned (.tuple #[.slice A1 m c1, .slice A2 m c2]) ∧ m ≤ 400 ∧ Rd w' A1 m ((kL zs).map (Value.int .i64)) ∧ Rd w' A2 m ((bL zs).map (Value.int .i64)) ∧ Keep (fun _ => False) w w' := by
  have hl := h.len
  refine (lists_any w A n c zs h hz).mono ?_
  rintro e w' ⟨A1, c1, A2, c2, rfl, o1, o2, _, hk⟩
  have e1 : (zs.take (min n 400)) = zs.take 400 := by
    rw [← hl]
    rcases Nat.le_total zs.length 400 with h | h
    · rw [Nat.min_eq_left h, List.take_of_length_le (Nat.le_refl _), List.take_of_length_le h]
    · rw [Nat.min_eq_right h]
  rw [e1] at o1 o2
  refine ⟨A1, c1, A2, c2, min n 400, rfl, by omega, ?_, ?_, hk⟩
  · have := Rd.of_own o1
    unfold kL
    rw [List.map_map]
    exact this
  · have := Rd.of_own o2
    unfold bL
    rw [List.map_map]
    exact this
/-- Encoder and contexts behind the first i of those bits. -/
def runE (ks bs : List Int) : Nat → ES × List (Nat × Nat)
  | 0 => (newM, begL)
  | i + 1 => encR (runE ks bs i) (ks.getD i 0).toNat (bs.getD i 0)
theorem runE_ok (zs bs : List Int) : ∀ i, Run (runE (kL zs) bs i) ∧ (runE (kL zs) bs i).1.b.length ≤ 1 + 16 * i
  | 0 => ⟨Run.new, Nat.le_refl 1⟩
  | i + 1 => by
    obtain ⟨h1, h2⟩ := runE_ok zs bs i
    obtain ⟨h3, h4⟩ := h1.step (kL_at zs i).2 (bs.getD i 0)
    exact ⟨h3, by show (encR _ _ _).1.b.length ≤ _; omega⟩
theorem RunW.new {w3 w4 : World} {E K : Nat} {A : Option Addr} {n c : Nat} (hC : Ctx w3 K begL) (hE : En w4 w3.heap.size E A n c newM) (hEb : w3.heap.size ≤ E) (hk : Keep (fun _ => False) w3 w4) : RunW w3 E K (newM, begL) w4 :=
  ⟨A, n, c, hE, Blk.keep hC hk (fun h => h), hEb, hk.mono (fun _ _ h => h.elim)⟩
theorem RunW.new2 {w3 w4 : World} {E K : Nat} {A : Option Addr} {n c : Nat} {l : List (Nat × Nat)} (hC : Ctx w3 K l) (hE : En w4 w3.heap.size E A n c newM) (hEb : w3.heap.size ≤ E) (hk : Keep (fun _ => False) w3 w4) : RunW w3 E K (newM, l) w4 :=
  ⟨A, n, c, hE, Blk.keep hC hk (fun h => h), hEb, hk.mono (fun _ _ h => h.elim)⟩
theorem RunW.more {w0 w w' : World} {E K : Nat} {s : ES × List (Nat × Nat)} (h : RunW w0 E K s w) (hk : Keep (fun j => w.heap.size ≤ j) w w') : RunW w0 E K s w' := by
  obtain ⟨A, n, c, h1, h2, h3, hK⟩ := h
  have hE := h1.blk.lt
  have hX := Blk.lt h2
  exact ⟨A, n, c, h1.keep hk (by show ¬ _ ≤ _; omega) (fun ad e => by have := (own_foot_lt h1.own ad e).2; show ¬ _ ≤ _; omega), Blk.keep h2 hk (by show ¬ _ ≤ _; omega), h3, hK.trans hk (fun i hi h => by have := hK.size; omega)⟩
theorem RunW.enc2 {w0 w : World} {E K : Nat} {s : ES × List (Nat × Nat)} (h : RunW w0 E K s w) (hr : Run s) (hl : s.1.b.length ≤ 1073741000) (k : Nat) (hk : k < 19) (bit : Int) :
    Calls Try.prog 21 #[.pointer (some ⟨E, 0, none⟩), .pointer (some ⟨K, 0, none⟩), .int .i64 k, .int .i64 bit] w fun e w' => e = .returned (.tuple #[]) ∧ RunW w0 E K (encR s k bit) w' ∧
      ∀ g t cs, Blk w g t cs → t ≠ 73 → t ≠ 5 → t ≠ 30 → Blk w' g t cs := by
  obtain ⟨A, n, c, hE, hC, hEb, hK⟩ := h
  have hlen := hE.len
  refine (enc_run w _ E K k A n c s bit hE hr hC hk hK.size (by omega)).mono ?_
  rintro e w' ⟨A', n', c', rfl, hE', hC', hG', hK'⟩
  refine ⟨rfl, ⟨A', n', c', hE', hC', hEb, hK.trans hK' (fun i hi h => by
    rcases h with (h | ⟨ad, e, h⟩) | h
    · omega
    · have := (own_foot_lt hE.own ad e).1; omega
    · exact h)⟩, fun g t cs hg h1 h2 h3 => Blk.keep hg hK' (fun h => ?_)⟩
  rcases h with (h | ⟨ad, e, h⟩) | h
  · exact Blk.ne_ hg hE.blk h1 h
  · subst e
    exact own_ne hE.own hg (Ne.symm h2) (by rw [← h]; rfl)
  · exact Blk.ne_ hg hC h3 h
theorem RunW.keep {w0 w : World} {E K : Nat} {s : ES × List (Nat × Nat)} (h : RunW w0 E K s w) : Keep (fun j => j = K) w0 w := by
  obtain ⟨A, n, c, _, _, _, hK⟩ := h
  exact hK
theorem RunW.drew {w0 w : World} {E K : Nat} {s : ES × List (Nat × Nat)} (h : RunW w0 E K s w) : RunW w0 E K s w.drew := by
  obtain ⟨A, n, c, h1, h2, h3, hK⟩ := h
  exact ⟨A, n, c, ⟨h1.blk.drew, h1.own.drew⟩, Blk.drew h2, h3, hK.drew⟩
theorem RunW.cxI {w0 w : World} {E K : Nat} {s : ES × List (Nat × Nat)} (h : RunW w0 E K s w) (hr : Run s) {k : Nat} (hk : k < 19) :
    w.cell? ⟨K, k * 2, none⟩ = some (.int .i64 (cxAt s.2 k).1) ∧ w.cell? ⟨K, k * 2 + 1, none⟩ = some (.int .i64 (cxAt s.2 k).2) := by
  obtain ⟨A, n, c, h1, h2, h3, hK⟩ := h
  have hl := hr.cx.len
  exact ⟨(Blk.cell h2 (k * 2)).trans (cx_I (by omega)), (Blk.cell h2 (k * 2 + 1)).trans (cx_M (by omega))⟩
theorem flM_len (s : ES) : (flM s).b.length = s.b.length + 1 := by unfold flM; rw [outM_len]
theorem flushE_len (s : ES) : (flushE s).length = s.b.length + 1 := by
  unfold flushE
  rw [List.length_tail, flM_len, flM_len]
  rfl
theorem mqFlush_le (l : List Int) : (flushM l).length ≤ l.length := by
  unfold flushM
  split
  · rw [List.length_dropLast]; omega
  · exact Nat.le_refl _
end Go.Proofs.Ytcieeoobobafmaa
