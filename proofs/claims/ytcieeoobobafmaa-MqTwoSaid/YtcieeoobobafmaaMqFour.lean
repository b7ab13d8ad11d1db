/-
  Coders side by side, as many as there are. Conditions: at most 2^30 bytes.
-/
import Derived.Test.YtcieeoobobafmaaMqMix
namespace Go.Proofs.Ytcieeoobobafmaa
open Go.RowKit

/-- The blocks of a coder and its contexts. -/
def fp (E : Nat) (A : Option Addr) (K : Nat) (j : Nat) : Prop := foot E A j ∨ j = K
/-- A coder in memory: the program's, or the reference's. -/
def Cd : Bool → Nat → Nat → Option Addr → Nat → ES × List (Nat × Nat) → World → Prop
  | false, base, E, A, K, s, w => ∃ n c, En w base E A n c s.1 ∧ Ctx w K s.2
  | true, base, E, A, K, s, w => ∃ n c, Er w base E A n c s.1 ∧ RCtx w K s.2
theorem Cd.lt {r : Bool} {base E K : Nat} {A : Option Addr} {s : ES × List (Nat × Nat)} {w : World} (h : Cd r base E A K s w) : ∀ j, fp E A K j → j < w.heap.size := by
  intro j hj
  cases r with
  | false =>
    obtain ⟨n, c, h1, h2⟩ := h
    rcases hj with (hj | ⟨ad, e, hj⟩) | hj
    · rw [hj]; exact h1.blk.lt
    · rw [← hj]; exact (own_foot_lt h1.own ad e).2
    · rw [hj]; exact Blk.lt h2
  | true =>
    obtain ⟨n, c, h1, h2⟩ := h
    rcases hj with (hj | ⟨ad, e, hj⟩) | hj
    · rw [hj]; exact h1.blk.lt
    · rw [← hj]; exact (own_foot_lt h1.own ad e).2
    · rw [hj]; exact Blk.lt h2
theorem Cd.keep {r : Bool} {base E K : Nat} {A : Option Addr} {s : ES × List (Nat × Nat)} {w w' : World} {S : Nat → Prop} (h : Cd r base E A K s w) (hk : Keep S w w') (hd : ∀ j, fp E A K j → ¬ S j) : Cd r base E A K s w' := by
  cases r with
  | false =>
    obtain ⟨n, c, h1, h2⟩ := h
    exact ⟨n, c, h1.keep hk (hd E (.inl (.inl rfl))) (fun ad e => hd _ (.inl (.inr ⟨ad, e, rfl⟩))), Blk.keep h2 hk (hd K (.inr rfl))⟩
  | true =>
    obtain ⟨n, c, h1, h2⟩ := h
    exact ⟨n, c, h1.keep hk (hd E (.inl (.inl rfl))) (fun ad e => hd _ (.inl (.inr ⟨ad, e, rfl⟩))), Blk.keep h2 hk (hd K (.inr rfl))⟩
def upd {α : Type} (f : Nat → α) (i : Nat) (v : α) : Nat → α := fun j => if j = i then v else f j
theorem upd_same {α : Type} (f : Nat → α) (i : Nat) (v : α) : upd f i v i = v := if_pos rfl
theorem upd_other {α : Type} (f : Nat → α) {i j : Nat} (v : α) (h : j ≠ i) : upd f i v j = f j := if_neg h
/-- Coders in memory, apart from one another, all newer than w0. -/
structure Many (p r : Nat → Bool) (E K : Nat → Nat) (A : Nat → Option Addr) (st : Nat → ES × List (Nat × Nat)) (w0 w : World) : Prop where
  cd : ∀ i, p i = true → Cd (r i) w0.heap.size (E i) (A i) (K i) (st i) w
  dj : ∀ i j, p i = true → p j = true → i ≠ j → ∀ b, fp (E i) (A i) (K i) b → ¬ fp (E j) (A j) (K j) b
  lo : ∀ i, p i = true → ∀ b, fp (E i) (A i) (K i) b → w0.heap.size ≤ b
  kp : Keep (fun _ => False) w0 w
section
variable {p r : Nat → Bool} {E K : Nat → Nat} {A : Nat → Option Addr} {st : Nat → ES × List (Nat × Nat)} {w0 w : World}
theorem Many.drew (h : Many p r E K A st w0 w) : Many p r E K A st w0 w.drew :=
  ⟨fun i hi => (h.cd i hi).keep ((Keep.refl (fun _ => False) w).drew) (fun _ _ h => h), h.dj, h.lo, h.kp.drew⟩
theorem Many.step (h : Many p r E K A st w0 w) {i : Nat} (hp : p i = true) {w' : World} {A' : Option Addr} {s' : ES × List (Nat × Nat)} (hc : Cd (r i) w0.heap.size (E i) A' (K i) s' w') (hg : Grew w (A i) A') (hk : Keep (fp (E i) (A i) (K i)) w w') :
    Many p r E K (upd A i A') (upd st i s') w0 w' := by
  have hnew : ∀ b, fp (E i) A' (K i) b → fp (E i) (A i) (K i) b ∨ w.heap.size ≤ b := fun b hb => by
    rcases hb with (hb | ⟨ad, e, hb⟩) | hb
    · exact .inl (.inl (.inl hb))
    · rcases hg ad e with ⟨a0, e0, h0⟩ | h0
      · exact .inl (.inl (.inr ⟨a0, e0, by rw [h0]; exact hb⟩))
      · exact .inr (by omega)
    · exact .inl (.inr hb)
  refine ⟨fun j hj => ?_, fun j k hj hk' hne b hb hb' => ?_, fun j hj b hb => ?_, h.kp.trans hk (fun b hb hf => by have := h.lo i hp b hf; omega)⟩
  · by_cases e : j = i
    · subst e; rw [upd_same, upd_same]; exact hc
    · rw [upd_other _ _ e, upd_other _ _ e]
      exact (h.cd j hj).keep hk (fun b hb hf => h.dj j i hj hp e b hb hf)
  · by_cases e : j = i
    · subst e
      rw [upd_same] at hb
      rw [upd_other _ _ (Ne.symm hne)] at hb'
      rcases hnew b hb with h1 | h1
      · exact h.dj j k hp hk' hne b h1 hb'
      · have := (h.cd k hk').lt b hb'; omega
    · rw [upd_other _ _ e] at hb
      by_cases e' : k = i
      · subst e'
        rw [upd_same] at hb'
        rcases hnew b hb' with h1 | h1
        · exact h.dj j k hj hp hne b hb h1
        · have := (h.cd j hj).lt b hb; omega
      · rw [upd_other _ _ e'] at hb'
        exact h.dj j k hj hk' hne b hb hb'
  · by_cases e : j = i
    · subst e
      rw [upd_same] at hb
      rcases hnew b hb with h1 | h1
      · exact h.lo j hp b h1
      · have := h.kp.size; omega
    · rw [upd_other _ _ e] at hb
      exact h.lo j hj b hb
theorem Many.drop (h : Many p r E K A st w0 w) {i : Nat} (hp : p i = true) {w' : World} (hk : Keep (fp (E i) (A i) (K i)) w w') : Many (upd p i false) r E K A st w0 w' := by
  have hq : ∀ j, upd p i false j = true → j ≠ i ∧ p j = true := fun j hj => by
    by_cases e : j = i
    · subst e; rw [upd_same] at hj; cases hj
    · rw [upd_other _ _ e] at hj; exact ⟨e, hj⟩
  exact ⟨fun j hj => (h.cd j (hq j hj).2).keep hk (fun b hb hf => h.dj j i (hq j hj).2 hp (hq j hj).1 b hb hf), fun j k hj hk' => h.dj j k (hq j hj).2 (hq k hk').2, fun j hj => h.lo j (hq j hj).2, h.kp.trans hk (fun b hb hf => by have := h.lo i hp b hf; omega)⟩
/-- One more. -/
theorem Many.add (h : Many p r E K A st w0 w) {i : Nat} (hp : p i = false) {w' : World} (hk : Keep (fun _ => False) w w') {q : Bool} {E' K' : Nat} {A' : Option Addr} {s' : ES × List (Nat × Nat)} (hc : Cd q w0.heap.size E' A' K' s' w') (hlo : ∀ b, fp E' A' K' b → w0.heap.size ≤ b) (hf : ∀ b, fp E' A' K' b → b = K' ∨ w.heap.size ≤ b) (hK : ∀ j, p j = true → ¬ fp (E j) (A j) (K j) K') :
    Many (upd p i true) (upd r i q) (upd E i E') (upd K i K') (upd A i A') (upd st i s') w0 w' := by
  have hq : ∀ j, j ≠ i → upd p i true j = true → p j = true := fun j e hj => by rw [upd_other _ _ e] at hj; exact hj
  have hne : ∀ j, p j = true → ∀ b, fp (E j) (A j) (K j) b → ¬ fp E' A' K' b := fun j hj b hb hb' => by
    rcases hf b hb' with h1 | h1
    · subst h1; exact hK j hj hb
    · have := (h.cd j hj).lt b hb; omega
  refine ⟨fun j hj => ?_, fun j k hj hk' hjk b hb hb' => ?_, fun j hj b hb => ?_, h.kp.trans hk (fun _ _ h => h)⟩
  · by_cases e : j = i
    · subst e; simp only [upd_same]; exact hc
    · simp only [upd_other _ _ e]
      exact (h.cd j (hq j e hj)).keep hk (fun _ _ h => h)
  · by_cases e : j = i
    · subst e
      have e' := Ne.symm hjk
      simp only [upd_same] at hb
      simp only [upd_other _ _ e'] at hb'
      exact hne k (hq k e' hk') b hb' hb
    · simp only [upd_other _ _ e] at hb
      by_cases e' : k = i
      · subst e'
        simp only [upd_same] at hb'
        exact hne j (hq j e hj) b hb hb'
      · simp only [upd_other _ _ e'] at hb'
        exact h.dj j k (hq j e hj) (hq k e' hk') hjk b hb hb'
  · by_cases e : j = i
    · subst e; simp only [upd_same] at hb; exact hlo b hb
    · simp only [upd_other _ _ e] at hb
      exact h.lo j (hq j e hj) b hb
theorem Many.enc0 (h : Many p r E K A st w0 w) (i : Nat) (hp : p i = true) (hr : r i = false) (hrun : Run (st i)) (hl : (st i).1.b.length ≤ 1073741000) (k : Nat) (hk : k < 19) (bit : Int) :
    Calls Try.prog 21 #[.pointer (some ⟨E i, 0, none⟩), .pointer (some ⟨K i, 0, none⟩), .int .i64 k, .int .i64 bit] w fun e w' => e = .returned (.tuple #[]) ∧ ∃ A', Many p r E K A' (upd st i (encR (st i) k bit)) w0 w' := by
  have hc := h.cd i hp
  rw [hr] at hc
  obtain ⟨n, c, h1, h2⟩ := hc
  have hlen := h1.len
  refine (enc_run w _ (E i) (K i) k (A i) n c (st i) bit h1 hrun h2 hk h.kp.size (by omega)).mono ?_
  rintro e w' ⟨A', n', c', rfl, hE', hC', hG', hK'⟩
  exact ⟨rfl, _, h.step hp (by rw [hr]; exact ⟨n', c', hE', hC'⟩) hG' hK'⟩
theorem Many.enc1 (h : Many p r E K A st w0 w) (i : Nat) (hp : p i = true) (hr : r i = true) (hrun : Run (st i)) (hl : (st i).1.b.length ≤ 1073741000) (k : Nat) (hk : k < 19) (bit : Int) :
    Calls Try.prog 25 #[.pointer (some ⟨E i, 0, none⟩), .pointer (some ⟨K i, 0, none⟩), .int .i64 k, .int .i64 bit] w fun e w' => e = .returned (.tuple #[]) ∧ ∃ A', Many p r E K A' (upd st i (encR (st i) k bit)) w0 w' := by
  have hc := h.cd i hp
  rw [hr] at hc
  obtain ⟨n, c, h1, h2⟩ := hc
  have hlen := h1.len
  refine (renc_run w _ (E i) (K i) k (A i) n c (st i) bit h1 hrun h2 hk h.kp.size (by omega)).mono ?_
  rintro e w' ⟨A', n', c', rfl, hE', hC', hG', hK'⟩
  exact ⟨rfl, _, h.step hp (by rw [hr]; exact ⟨n', c', hE', hC'⟩) hG' hK'⟩
theorem Many.flush0 (h : Many p r E K A st w0 w) (i : Nat) (hp : p i = true) (hr : r i = false) (hrun : Run (st i)) (hl : (st i).1.b.length ≤ 1073741000) :
    Calls Try.prog 22 #[.pointer (some ⟨E i, 0, none⟩)] w fun e w' => ∃ A' n' c', e = .returned (.slice A' n' c') ∧ Rd w' A' n' ((flushM (flushE (st i).1)).map (Value.int .u8)) ∧ (∀ ad, A' = some ad → w.heap.size ≤ ad.block) ∧
      Many (upd p i false) r E K A st w0 w' ∧ Keep (fp (E i) (A i) (K i)) w w' := by
  have hc := h.cd i hp
  rw [hr] at hc
  obtain ⟨n, c, h1, h2⟩ := hc
  have hlen := h1.len
  refine (flush_any w _ (E i) (A i) n c (st i).1 h1 hrun.inv hrun.lo hrun.hi h.kp.size (by omega)).mono ?_
  rintro e w' ⟨A', n', c', rfl, hO, hK'⟩
  have hk := hK'.mono (T := fp (E i) (A i) (K i)) (fun _ _ h => .inl h)
  exact ⟨A', n', c', rfl, Rd.of_own hO, fun ad e => (own_foot_lt hO ad e).1, h.drop hp hk, hk⟩
theorem Many.flush1 (h : Many p r E K A st w0 w) (i : Nat) (hp : p i = true) (hr : r i = true) (hrun : Run (st i)) (hl : (st i).1.b.length ≤ 1073741000) :
    Calls Try.prog 26 #[.pointer (some ⟨E i, 0, none⟩)] w fun e w' => ∃ A' n' c', e = .returned (.slice A' n' c') ∧ Rd w' A' n' ((flushM (flushE (st i).1)).map (Value.int .u8)) ∧ (∀ ad, A' = some ad → w.heap.size ≤ ad.block) ∧
      Many (upd p i false) r E K A st w0 w' ∧ Keep (fp (E i) (A i) (K i)) w w' := by
  have hc := h.cd i hp
  rw [hr] at hc
  obtain ⟨n, c, h1, h2⟩ := hc
  have hlen := h1.len
  refine (rflush_any w _ (E i) (A i) n c (st i).1 h1 hrun.inv hrun.lo hrun.hi h.kp.size (by omega)).mono ?_
  rintro e w' ⟨A', n', c', rfl, hR, hnew, hK'⟩
  have hk := hK'.mono (T := fp (E i) (A i) (K i)) (fun _ _ h => .inl h)
  exact ⟨A', n', c', rfl, hR, hnew, h.drop hp hk, hk⟩
theorem Many.none (w : World) (r : Nat → Bool) (E K : Nat → Nat) (A : Nat → Option Addr) (st : Nat → ES × List (Nat × Nat)) : Many (fun _ => false) r E K A st w w :=
  ⟨fun i h => (by cases h), fun i j h => (by cases h), fun i h => (by cases h), Keep.refl _ w⟩
theorem Many.more (h : Many p r E K A st w0 w) {w' : World} (hk : Keep (fun _ => False) w w') : Many p r E K A st w0 w' :=
  ⟨fun i hi => (h.cd i hi).keep hk (fun _ _ h => h), h.dj, h.lo, h.kp.trans hk (fun _ _ h => h)⟩
end
/-- Coders that have just begun: but for their contexts they are newer than wc. -/
def Begun (wc : World) (p r : Nat → Bool) (E K : Nat → Nat) (A : Nat → Option Addr) (st : Nat → ES × List (Nat × Nat)) (w0 w : World) : Prop :=
  Many p r E K A st w0 w ∧ (∀ j, p j = true → ∀ b, fp (E j) (A j) (K j) b → b = K j ∨ wc.heap.size ≤ b) ∧ wc.heap.size ≤ w.heap.size
section
variable {p r : Nat → Bool} {E K : Nat → Nat} {A : Nat → Option Addr} {st : Nat → ES × List (Nat × Nat)} {w0 w : World}
theorem Begun.add0 {wc : World} (h : Begun wc p r E K A st w0 w) {i : Nat} (hp : p i = false) {K' : Nat} (hCx : Ctx w K' begL) (hw0 : w0.heap.size ≤ K') (hK' : K' < wc.heap.size) (hKne : ∀ j, K j ≠ K') {w' : World} {E' n c : Nat} {A' : Option Addr} (hE : w.heap.size ≤ E') (hen : En w' w.heap.size E' A' n c newM) (hk : Keep (fun _ => False) w w') :
    Begun wc (upd p i true) (upd r i false) (upd E i E') (upd K i K') (upd A i A') (upd st i (newM, begL)) w0 w' := by
  obtain ⟨h1, h2, h3⟩ := h
  have hs := h1.kp.size
  have hnew : ∀ b, fp E' A' K' b → b = K' ∨ w.heap.size ≤ b := fun b hb => by
    rcases hb with (hb | ⟨ad, e, hb⟩) | hb
    · exact .inr (by omega)
    · have := (own_foot_lt hen.own ad e).1
      exact .inr (by omega)
    · exact .inl hb
  refine ⟨h1.add hp hk (q := false) (E' := E') (K' := K') (A' := A') (s' := (newM, begL)) ⟨n, c, ⟨hen.blk, own_mono hen.own hs⟩, Blk.keep hCx hk (fun h => h)⟩ (fun b hb => ?_) hnew (fun j hj hb => ?_), fun j hj b hb => ?_, Nat.le_trans h3 hk.size⟩
  · rcases hnew b hb with h | h <;> omega
  · rcases h2 j hj K' hb with h | h
    · exact hKne j h.symm
    · omega
  · by_cases e : j = i
    · subst e
      simp only [upd_same] at hb ⊢
      rcases hnew b hb with h | h
      · exact .inl h
      · exact .inr (by omega)
    · rw [upd_other _ _ e] at hj
      simp only [upd_other _ _ e] at hb ⊢
      exact h2 j hj b hb
theorem Begun.add1 {wc : World} (h : Begun wc p r E K A st w0 w) {i : Nat} (hp : p i = false) {K' : Nat} (hCx : RCtx w K' begL) (hw0 : w0.heap.size ≤ K') (hK' : K' < wc.heap.size) (hKne : ∀ j, K j ≠ K') {w' : World} {E' n c : Nat} {A' : Option Addr} (hE : w.heap.size ≤ E') (hen : Er w' w.heap.size E' A' n c newM) (hk : Keep (fun _ => False) w w') :
    Begun wc (upd p i true) (upd r i true) (upd E i E') (upd K i K') (upd A i A') (upd st i (newM, begL)) w0 w' := by
  obtain ⟨h1, h2, h3⟩ := h
  have hs := h1.kp.size
  have hnew : ∀ b, fp E' A' K' b → b = K' ∨ w.heap.size ≤ b := fun b hb => by
    rcases hb with (hb | ⟨ad, e, hb⟩) | hb
    · exact .inr (by omega)
    · have := (own_foot_lt hen.own ad e).1
      exact .inr (by omega)
    · exact .inl hb
  refine ⟨h1.add hp hk (q := true) (E' := E') (K' := K') (A' := A') (s' := (newM, begL)) ⟨n, c, ⟨hen.blk, own_mono hen.own hs⟩, Blk.keep hCx hk (fun h => h)⟩ (fun b hb => ?_) hnew (fun j hj hb => ?_), fun j hj b hb => ?_, Nat.le_trans h3 hk.size⟩
  · rcases hnew b hb with h | h <;> omega
  · rcases h2 j hj K' hb with h | h
    · exact hKne j h.symm
    · omega
  · by_cases e : j = i
    · subst e
      simp only [upd_same] at hb ⊢
      rcases hnew b hb with h | h
      · exact .inl h
      · exact .inr (by omega)
    · rw [upd_other _ _ e] at hj
      simp only [upd_other _ _ e] at hb ⊢
      exact h2 j hj b hb
end
end Go.Proofs.Ytcieeoobobafmaa
