/-
  A run of the program's encoder, of its decoder: what holds between two bits; each in one contract. Conditions: at most 2^30 bytes.
-/
import Derived.Test.YtcieeoobobafmaaMqDec4
namespace Go.Proofs.Ytcieeoobobafmaa
open Go.RowKit

theorem tab_next (i : Nat) (h : i < 47) : (tabAt i).2.1 < 47 ∧ (tabAt i).2.2.1 < 47 := by
  have : ∀ i, i < 47 → (tabAt i).2.1 < 47 ∧ (tabAt i).2.2.1 < 47 := by decide +kernel
  exact this i h
theorem cxAt_other {l : List (Nat × Nat)} {k j : Nat} (h : j ≠ k) (p : Nat × Nat) : cxAt (l.set k p) j = cxAt l j := by
  unfold cxAt
  rw [List.getD_eq_getElem?_getD, List.getD_eq_getElem?_getD, List.getElem?_set_ne (Ne.symm h)]
theorem Cxs.set {l : List (Nat × Nat)} (h : Cxs l) {k : Nat} (hk : k < 19) {p : Nat × Nat} (h1 : p.1 < 47) (h2 : p.2 < 2) : Cxs (l.set k p) := by
  refine ⟨by rw [List.length_set, h.len], fun j => ?_, fun j => ?_⟩
  · by_cases hj : j = k
    · subst hj; rw [cxAt_set (by rw [h.len]; exact hk)]; exact h1
    · rw [cxAt_other hj]; exact h.st j
  · by_cases hj : j = k
    · subst hj; rw [cxAt_set (by rw [h.len]; exact hk)]; exact h2
    · rw [cxAt_other hj]; exact h.sg j
theorem less_ok {p : Nat × Nat} {i : Nat} {s : Bool} (hi : i < 47) (hp : p.2 < 2) : (lessM p i s).1 < 47 ∧ (lessM p i s).2 < 2 := by
  refine ⟨hi, ?_⟩
  show (if s = true then 1 - p.2 else p.2) < 2
  split <;> omega
theorem renM_ok : ∀ (k : Nat) (t : ES), EInv t → t.a < 32768 → 32768 ≤ t.a * 2 ^ k → EInv (renM k t) ∧ 32768 ≤ (renM k t).a ∧ (renM k t).a < 65536 ∧ (renM k t).b.length ≤ t.b.length + k
  | 0, t, h, h1, h2 => by have : (2 : Int) ^ 0 = 1 := rfl
                          rw [this] at h2; omega
  | k + 1, t, h, h1, h2 => by
    have hd := h.dbl h1
    have hl := dblM_len t
    have ha := dblM_a t
    have h0 := h.a0
    show EInv (if 32768 ≤ (dblM t).a then dblM t else renM k (dblM t)) ∧ _
    by_cases hc : 32768 ≤ (dblM t).a
    · have e : renM (k + 1) t = dblM t := if_pos hc
      rw [if_pos hc, e]
      exact ⟨hd, hc, by omega, by omega⟩
    · have e : renM (k + 1) t = renM k (dblM t) := if_neg hc
      rw [if_neg hc, e]
      obtain ⟨h3, h4, h5, h6⟩ := renM_ok k (dblM t) hd (by omega) (by
        rw [ha]
        have e2 : (2 : Int) ^ (k + 1) = 2 * 2 ^ k := by rw [Int.pow_succ, Int.mul_comm]
        rw [e2, ← Int.mul_assoc] at h2
        exact h2)
      exact ⟨h3, h4, h5, by omega⟩
theorem renD_ok (l : List Int) : ∀ (k : Nat) (t : DS), DInv l t → t.a < 32768 → 32768 ≤ t.a * 2 ^ k → DInv l (renD l k t) ∧ 32768 ≤ (renD l k t).a ∧ (renD l k t).a < 65536
  | 0, t, h, h1, h2 => by have : (2 : Int) ^ 0 = 1 := rfl
                          rw [this] at h2; omega
  | k + 1, t, h, h1, h2 => by
    obtain ⟨hd, ha⟩ := h.dbl
    have h0 := h.a0
    show DInv l (if 32768 ≤ (dblD l t).a then dblD l t else renD l k (dblD l t)) ∧ _
    by_cases hc : 32768 ≤ (dblD l t).a
    · have e : renD l (k + 1) t = dblD l t := if_pos hc
      rw [if_pos hc, e]
      exact ⟨hd, hc, by omega⟩
    · have e : renD l (k + 1) t = renD l k (dblD l t) := if_neg hc
      rw [if_neg hc, e]
      exact renD_ok l k (dblD l t) hd (by omega) (by
        rw [ha]
        have e2 : (2 : Int) ^ (k + 1) = 2 * 2 ^ k := by rw [Int.pow_succ, Int.mul_comm]
        rw [e2, ← Int.mul_assoc] at h2
        exact h2)
theorem far16 {a : Int} (h : 0 < a) : 32768 ≤ a * 2 ^ 16 := by
  have : (2 : Int) ^ 16 = 65536 := by decide
  rw [this]; omega

/-- Encoder and contexts behind a bit in a context. -/
def encR (s : ES × List (Nat × Nat)) (k : Nat) (bit : Int) : ES × List (Nat × Nat) :=
  (encM s.1 (tabAt (cxAt s.2 k).1).1 (bit % 2 == ((cxAt s.2 k).2 : Int)), s.2.set k (encC s.1.a (cxAt s.2 k) (tabAt (cxAt s.2 k).1) (bit % 2 == ((cxAt s.2 k).2 : Int))))
/-- What holds of both between two bits. -/
structure Run (s : ES × List (Nat × Nat)) : Prop where
  inv : EInv s.1
  lo : 32768 ≤ s.1.a
  hi : s.1.a < 65536
  cx : Cxs s.2
theorem Run.new : Run (newM, begL) := ⟨newM_inv, by decide, by decide, begL_ok⟩
theorem encM_ok {s : ES} (h : EInv s) (hlo : 32768 ≤ s.a) (hhi : s.a < 65536) {q : Nat} (q1 : 1 ≤ q) (q2 : q ≤ 22017) (is : Bool) :
    EInv (encM s q is) ∧ 32768 ≤ (encM s q is).a ∧ (encM s q is).a < 65536 ∧ (encM s q is).b.length ≤ s.b.length + 16 := by
  have h0 := h.c0
  have hA : ∀ t : ES, EInv t → t.a < 32768 → t.b = s.b → EInv (renM 16 t) ∧ 32768 ≤ (renM 16 t).a ∧ (renM 16 t).a < 65536 ∧ (renM 16 t).b.length ≤ s.b.length + 16 := fun t ht h1 e => by
    rw [← e]; exact renM_ok 16 t ht h1 (far16 ht.a0)
  have i1 : EInv ⟨q, s.c, s.ct, s.b⟩ := h.step (by omega) (by omega) (by omega)
  have i2 : EInv ⟨s.a - q, s.c + q, s.ct, s.b⟩ := h.step (by omega) (by omega) (by omega)
  unfold encM
  split
  · split
    · rename_i hc
      exact ⟨i2, hc, by show s.a - q < _; omega, by show s.b.length ≤ _; omega⟩
    · split
      · exact hA _ i1 (by show (q : Int) < _; omega) rfl
      · rename_i hc _
        exact hA _ i2 (by show s.a - q < _; omega) rfl
  · split
    · rename_i hc
      exact hA _ i2 (by show s.a - q < _; omega) rfl
    · exact hA _ i1 (by show (q : Int) < _; omega) rfl
theorem Run.step {s : ES × List (Nat × Nat)} (h : Run s) {k : Nat} (hk : k < 19) (bit : Int) : Run (encR s k bit) ∧ (encR s k bit).1.b.length ≤ s.1.b.length + 16 := by
  obtain ⟨q1, q2⟩ := tab_q _ (h.cx.st k)
  obtain ⟨n1, n2⟩ := tab_next _ (h.cx.st k)
  obtain ⟨h1, h2, h3, h4⟩ := encM_ok h.inv h.lo h.hi q1 q2 (bit % 2 == ((cxAt s.2 k).2 : Int))
  refine ⟨⟨h1, h2, h3, ?_⟩, h4⟩
  have hsg := h.cx.sg k
  have hst := h.cx.st k
  have hls := less_ok (s := (tabAt (cxAt s.2 k).1).2.2.2) n2 hsg
  apply h.cx.set hk
  · unfold encC
    split
    · split
      · exact hst
      · exact n1
    · exact hls.1
  · unfold encC
    split
    · split
      · exact hsg
      · exact hsg
    · exact hls.2
/-- Decoder and contexts behind a bit of a context; the bit. -/
def decR (l : List Int) (s : DS × List (Nat × Nat)) (k : Nat) : DS × List (Nat × Nat) :=
  (decS l s.1 (tabAt (cxAt s.2 k).1).1, s.2.set k (decC s.1.a s.1.c (cxAt s.2 k) (tabAt (cxAt s.2 k).1)))
def decV (s : DS × List (Nat × Nat)) (k : Nat) : Int := decB (cxAt s.2 k) (decIs s.1.a s.1.c (tabAt (cxAt s.2 k).1).1)
structure RunD (l : List Int) (s : DS × List (Nat × Nat)) : Prop where
  inv : DInv l s.1
  lo : 32768 ≤ s.1.a
  hi : s.1.a < 65536
  cx : Cxs s.2
theorem RunD.new (l : List Int) : RunD l (newD l, begL) := ⟨newD_inv l, by show (32768 : Int) ≤ 32768; decide, by show (32768 : Int) < 65536; decide, begL_ok⟩
theorem RunD.step {l : List Int} {s : DS × List (Nat × Nat)} (h : RunD l s) {k : Nat} (hk : k < 19) : RunD l (decR l s k) := by
  obtain ⟨q1, q2⟩ := tab_q _ (h.cx.st k)
  obtain ⟨n1, n2⟩ := tab_next _ (h.cx.st k)
  have hsg := h.cx.sg k
  have hst := h.cx.st k
  have hlo := h.lo
  have hhi := h.hi
  have hls := less_ok (s := (tabAt (cxAt s.2 k).1).2.2.2) n2 hsg
  have hcx : Cxs (decR l s k).2 := by
    apply h.cx.set hk
    · unfold decC
      split
      · exact hst
      · split
        · exact n1
        · exact hls.1
    · unfold decC
      split
      · exact hsg
      · split
        · exact hsg
        · exact hls.2
  have hS : DInv l (decS l s.1 (tabAt (cxAt s.2 k).1).1) ∧ 32768 ≤ (decS l s.1 (tabAt (cxAt s.2 k).1).1).a ∧ (decS l s.1 (tabAt (cxAt s.2 k).1).1).a < 65536 := by
    generalize (tabAt (cxAt s.2 k).1).1 = q at *
    have hA : ∀ t : DS, 0 < t.a → t.ct = s.1.ct → t.p = s.1.p → t.a < 32768 → DInv l (renD l 16 t) ∧ 32768 ≤ (renD l 16 t).a ∧ (renD l 16 t).a < 65536 := fun t h0 e1 e2 h1 =>
      renD_ok l 16 t ⟨h0, by rw [e1]; exact h.inv.ct0, by rw [e1]; exact h.inv.ct8, by rw [e2]; exact h.inv.p⟩ h1 (far16 h0)
    unfold decS
    split
    · exact hA _ (by show (0 : Int) < q; omega) rfl rfl (by show (q : Int) < _; omega)
    · split
      · rename_i hc
        exact ⟨⟨by show 0 < s.1.a - q; omega, h.inv.ct0, h.inv.ct8, h.inv.p⟩, hc, by show s.1.a - q < _; omega⟩
      · exact hA _ (by show 0 < s.1.a - q; omega) rfl rfl (by show s.1.a - q < _; omega)
  exact ⟨hS.1, hS.2.1, hS.2.2, hcx⟩
/-- In memory: the encoder at E newer than w0, contexts at K; nothing else that w0 held has changed. -/
def RunW (w0 : World) (E K : Nat) (s : ES × List (Nat × Nat)) (w : World) : Prop :=
  ∃ A n c, En w w0.heap.size E A n c s.1 ∧ Ctx w K s.2 ∧ w0.heap.size ≤ E ∧ Keep (fun j => j = K) w0 w
theorem enc_run (w : World) (base E K k : Nat) (A : Option Addr) (n c : Nat) (s : ES × List (Nat × Nat)) (bit : Int) (h : En w base E A n c s.1) (hr : Run s) (hC : Ctx w K s.2) (hk : k < 19) (hb : base ≤ w.heap.size) (hn : n ≤ 1073741000) :
    Calls Try.prog 21 #[.pointer (some ⟨E, 0, none⟩), .pointer (some ⟨K, 0, none⟩), .int .i64 k, .int .i64 bit] w (EncP w base E K A (encR s k bit).1 (encR s k bit).2) :=
  enc_any w base E K k A n c s.1 s.2 bit h hr.inv hr.lo hr.hi hC hr.cx hk hb hn _ rfl (tabAt (cxAt s.2 k).1).1 (tabAt (cxAt s.2 k).1).2.1 (tabAt (cxAt s.2 k).1).2.2.1 (tabAt (cxAt s.2 k).1).2.2.2 rfl
theorem RunW.enc {w0 w : World} {E K : Nat} {s : ES × List (Nat × Nat)} (h : RunW w0 E K s w) (hr : Run s) (hl : s.1.b.length ≤ 1073741000) (k : Nat) (hk : k < 19) (bit : Int) :
    Calls Try.prog 21 #[.pointer (some ⟨E, 0, none⟩), .pointer (some ⟨K, 0, none⟩), .int .i64 k, .int .i64 bit] w fun e w' => e = .returned (.tuple #[]) ∧ RunW w0 E K (encR s k bit) w' := by
  obtain ⟨A, n, c, hE, hC, hEb, hK⟩ := h
  have hlen := hE.len
  refine (enc_run w _ E K k A n c s bit hE hr hC hk hK.size (by omega)).mono ?_
  rintro e w' ⟨A', n', c', rfl, hE', hC', hG', hK'⟩
  exact ⟨rfl, A', n', c', hE', hC', hEb, hK.trans hK' (fun i hi h => by
    rcases h with (h | ⟨ad, e, h⟩) | h
    · omega
    · have := (own_foot_lt hE.own ad e).1; omega
    · exact h)⟩
theorem RunW.flush {w0 w : World} {E K : Nat} {s : ES × List (Nat × Nat)} (h : RunW w0 E K s w) (hr : Run s) (hl : s.1.b.length ≤ 1073741000) :
    Calls Try.prog 22 #[.pointer (some ⟨E, 0, none⟩)] w fun e w' => ∃ A' n' c', e = .returned (.slice A' n' c') ∧
      w'.ownsRow w.heap.size 5 1 (.slice A' n' c') n' ((flushM (flushE s.1)).map (Value.int .u8)) ∧ Ctx w' K s.2 ∧ Keep (fun j => j = K) w0 w' := by
  obtain ⟨A, n, c, hE, hC, hEb, hK⟩ := h
  have hlen := hE.len
  refine (flush_any w _ E A n c s.1 hE hr.inv hr.lo hr.hi hK.size (by omega)).mono ?_
  rintro e w' ⟨A', n', c', rfl, hO, hK'⟩
  have hKE : K ≠ E := Blk.ne_ hC hE.blk (by decide)
  refine ⟨A', n', c', rfl, hO, Blk.keep hC hK' (fun h => ?_), hK.trans hK' (fun i hi h => ?_)⟩
  · rcases h with h | ⟨ad, e, h⟩
    · exact hKE h
    · exact own_ne hE.own hC (by decide) (by subst e; simp [Value.ownBlock]; exact h)
  · rcases h with h | ⟨ad, e, h⟩
    · omega
    · have := (own_foot_lt hE.own ad e).1; omega
theorem RunW.out {w0 w : World} {E K : Nat} {s : ES × List (Nat × Nat)} (h : RunW w0 E K s w) (hr : Run s) (hl : s.1.b.length ≤ 1073741000) :
    Calls Try.prog 27 #[.pointer (some ⟨E, 0, none⟩)] w fun e w' => e = .returned (.int .i64 (s.1.b.length - 1)) ∧ w = w' := by
  obtain ⟨A, n, c, hE, hC, hEb, hK⟩ := h
  have hlen := hE.len
  have := hr.inv.some_
  exact oute_any w _ E A n c s.1 hE (by omega) (by omega)
/-- In memory: the decoder at D newer than w0, contexts at K; nothing else that w0 held has changed. -/
def DecW (w0 : World) (D K : Nat) (l : List Int) (s : DS × List (Nat × Nat)) (w : World) : Prop :=
  ∃ A n c, De w w0.heap.size D A n c l s.1 ∧ Ctx w K s.2 ∧ w0.heap.size ≤ D ∧ Keep (fun j => j = K) w0 w
theorem DecW.dec {w0 w : World} {D K : Nat} {l : List Int} {s : DS × List (Nat × Nat)} (h : DecW w0 D K l s w) (hr : RunD l s) (hby : Bytes l) (hl : l.length ≤ 1073741000) (k : Nat) (hk : k < 19) :
    Calls Try.prog 18 #[.pointer (some ⟨D, 0, none⟩), .pointer (some ⟨K, 0, none⟩), .int .i64 k] w fun e w' => e = .returned (.int .i64 (decV s k)) ∧ DecW w0 D K l (decR l s k) w' ∧ Keep (fun j => j = D ∨ j = K) w w' := by
  obtain ⟨A, n, c, hE, hC, hEb, hK⟩ := h
  have hlen := hE.len
  refine (dec_any w _ D K k A n c l s.1 s.2 hE hr.inv hr.lo hr.hi hC hr.cx hk hby (by omega) (tabAt (cxAt s.2 k).1).1 (tabAt (cxAt s.2 k).1).2.1 (tabAt (cxAt s.2 k).1).2.2.1 (tabAt (cxAt s.2 k).1).2.2.2 rfl).mono ?_
  rintro e w' ⟨rfl, hE', hC', hK'⟩
  exact ⟨rfl, ⟨A, n, c, hE', hC', hEb, hK.trans hK' (fun i hi h => by
    rcases h with h | h
    · omega
    · exact h)⟩, hK'⟩
end Go.Proofs.Ytcieeoobobafmaa
