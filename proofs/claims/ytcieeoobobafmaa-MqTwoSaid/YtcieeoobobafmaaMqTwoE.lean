/-
  Two encoders side by side. Conditions: at most 2^30 bytes.
-/
import Derived.Test.YtcieeoobobafmaaMqBeh
namespace Go.Proofs.Ytcieeoobobafmaa
open Go.RowKit

/-- Two slices lie apart. -/
def Apart (A B : Option Addr) : Prop := ∀ ad bd, A = some ad → B = some bd → ad.block ≠ bd.block
theorem Apart.symm {A B : Option Addr} (h : Apart A B) : Apart B A := fun ad bd h1 h2 => (h bd ad h2 h1).symm
/-- In memory: two encoders newer than w0, contexts of each. -/
def TwoE (w0 : World) (E1 K1 E2 K2 : Nat) (s1 s2 : ES × List (Nat × Nat)) (w : World) : Prop :=
  ∃ A n c B m d, En w w0.heap.size E1 A n c s1.1 ∧ En w w0.heap.size E2 B m d s2.1 ∧ Apart A B ∧ Ctx w K1 s1.2 ∧ Ctx w K2 s2.2 ∧ E1 ≠ E2 ∧ K1 ≠ K2 ∧ w0.heap.size ≤ E1 ∧ w0.heap.size ≤ E2 ∧ Keep (fun j => j = K1 ∨ j = K2) w0 w
section
variable {w0 w : World} {E1 K1 E2 K2 : Nat} {s1 s2 : ES × List (Nat × Nat)}
theorem TwoE.swap (h : TwoE w0 E1 K1 E2 K2 s1 s2 w) : TwoE w0 E2 K2 E1 K1 s2 s1 w := by
  obtain ⟨A, n, c, B, m, d, h1, h2, ha, h3, h4, h5, h6, h7, h8, h9⟩ := h
  exact ⟨B, m, d, A, n, c, h2, h1, ha.symm, h4, h3, h5.symm, h6.symm, h8, h7, h9.mono (fun _ _ h => h.symm)⟩
theorem TwoE.keep (h : TwoE w0 E1 K1 E2 K2 s1 s2 w) : Keep (fun j => j = K1 ∨ j = K2) w0 w := by
  obtain ⟨A, n, c, B, m, d, h1, h2, ha, h3, h4, h5, h6, h7, h8, h9⟩ := h
  exact h9
theorem TwoE.drew (h : TwoE w0 E1 K1 E2 K2 s1 s2 w) : TwoE w0 E1 K1 E2 K2 s1 s2 w.drew := by
  obtain ⟨A, n, c, B, m, d, h1, h2, ha, h3, h4, h5, h6, h7, h8, h9⟩ := h
  exact ⟨A, n, c, B, m, d, ⟨h1.blk.drew, h1.own.drew⟩, ⟨h2.blk.drew, h2.own.drew⟩, ha, Blk.drew h3, Blk.drew h4, h5, h6, h7, h8, h9.drew⟩
theorem TwoE.more (h : TwoE w0 E1 K1 E2 K2 s1 s2 w) {w' : World} (hk : Keep (fun j => w.heap.size ≤ j) w w') : TwoE w0 E1 K1 E2 K2 s1 s2 w' := by
  obtain ⟨A, n, c, B, m, d, h1, h2, ha, h3, h4, h5, h6, h7, h8, h9⟩ := h
  have l1 := h1.blk.lt
  have l2 := h2.blk.lt
  have l3 := Blk.lt h3
  have l4 := Blk.lt h4
  exact ⟨A, n, c, B, m, d, h1.keep hk (by show ¬ _ ≤ _; omega) (fun ad e => by have := (own_foot_lt h1.own ad e).2; show ¬ _ ≤ _; omega),
    h2.keep hk (by show ¬ _ ≤ _; omega) (fun ad e => by have := (own_foot_lt h2.own ad e).2; show ¬ _ ≤ _; omega), ha,
    Blk.keep h3 hk (by show ¬ _ ≤ _; omega), Blk.keep h4 hk (by show ¬ _ ≤ _; omega), h5, h6, h7, h8, h9.trans hk (fun i hi h => by have := h9.size; omega)⟩
/-- What a change of the first leaves of the second. -/
theorem two_far {A B : Option Addr} {n c m d : Nat} {t1 t2 : ES} {base : Nat} {l1 l2 : List (Nat × Nat)} {w' : World} (h1 : En w base E1 A n c t1) (h2 : En w base E2 B m d t2) (ha : Apart A B) (h3 : Ctx w K1 l1) (h4 : Ctx w K2 l2) (h5 : E1 ≠ E2) (h6 : K1 ≠ K2)
    (hk : Keep (fun j => foot E1 A j ∨ j = K1) w w') : En w' base E2 B m d t2 ∧ Ctx w' K2 l2 := by
  refine ⟨h2.keep hk (fun h => ?_) (fun bd e h => ?_), Blk.keep h4 hk (fun h => ?_)⟩
  · rcases h with (h | ⟨ad, e, h⟩) | h
    · exact h5 h.symm
    · exact own_ne h1.own h2.blk (by decide) (by subst e; rw [← h]; rfl)
    · exact Blk.ne_ h2.blk h3 (by decide) h
  · rcases h with (h | ⟨ad, e', h⟩) | h
    · exact own_ne h2.own h1.blk (by decide) (by subst e; rw [← h]; rfl)
    · exact ha ad bd e' e h
    · exact own_ne h2.own h3 (by decide) (by subst e; rw [← h]; rfl)
  · rcases h with (h | ⟨ad, e, h⟩) | h
    · exact Blk.ne_ h4 h1.blk (by decide) h
    · exact own_ne h1.own h4 (by decide) (by subst e; rw [← h]; rfl)
    · exact h6 h.symm
theorem TwoE.enc (h : TwoE w0 E1 K1 E2 K2 s1 s2 w) (hr : Run s1) (hl : s1.1.b.length ≤ 1073741000) (k : Nat) (hk : k < 19) (bit : Int) :
    Calls Try.prog 21 #[.pointer (some ⟨E1, 0, none⟩), .pointer (some ⟨K1, 0, none⟩), .int .i64 k, .int .i64 bit] w fun e w' => e = .returned (.tuple #[]) ∧ TwoE w0 E1 K1 E2 K2 (encR s1 k bit) s2 w' := by
  obtain ⟨A, n, c, B, m, d, h1, h2, ha, h3, h4, h5, h6, h7, h8, h9⟩ := h
  have hlen := h1.len
  refine (enc_run w _ E1 K1 k A n c s1 bit h1 hr h3 hk h9.size (by omega)).mono ?_
  rintro e w' ⟨A', n', c', rfl, hE', hC', hG', hK'⟩
  obtain ⟨g2, g4⟩ := two_far h1 h2 ha h3 h4 h5 h6 hK'
  refine ⟨rfl, A', n', c', B, m, d, hE', g2, fun ad bd e1 e2 => ?_, hC', g4, h5, h6, h7, h8, h9.trans hK' (fun i hi h => ?_)⟩
  · rcases hG' ad e1 with ⟨ad0, e0, h⟩ | h
    · rw [← h]; exact ha ad0 bd e0 e2
    · have := (own_foot_lt h2.own bd e2).2; omega
  · rcases h with (h | ⟨ad, e, h⟩) | h
    · omega
    · have := (own_foot_lt h1.own ad e).1; omega
    · exact .inl h
/-- What is left when the first has ended: the second, contexts of both. -/
def Left2 (w0 w5 : World) (E2 K1 K2 : Nat) (s1 s2 : ES × List (Nat × Nat)) (w : World) : Prop :=
  ∃ B m d, En w w0.heap.size E2 B m d s2.1 ∧ (∀ k, foot E2 B k → w0.heap.size ≤ k ∧ k < w5.heap.size) ∧ Ctx w K1 s1.2 ∧ Ctx w K2 s2.2 ∧ Keep (fun j => j = K1 ∨ j = K2) w0 w
theorem TwoE.flush (h : TwoE w0 E1 K1 E2 K2 s1 s2 w) (hr : Run s1) (hl : s1.1.b.length ≤ 1073741000) :
    Calls Try.prog 22 #[.pointer (some ⟨E1, 0, none⟩)] w fun e w' => ∃ A' n' c', e = .returned (.slice A' n' c') ∧
      w'.ownsRow w.heap.size 5 1 (.slice A' n' c') n' ((flushM (flushE s1.1)).map (Value.int .u8)) ∧ Left2 w0 w E2 K1 K2 s1 s2 w' := by
  obtain ⟨A, n, c, B, m, d, h1, h2, ha, h3, h4, h5, h6, h7, h8, h9⟩ := h
  have hlen := h1.len
  refine (flush_any w _ E1 A n c s1.1 h1 hr.inv hr.lo hr.hi h9.size (by omega)).mono ?_
  rintro e w' ⟨A', n', c', rfl, hO, hK'⟩
  obtain ⟨g2, g4⟩ := two_far h1 h2 ha h3 h4 h5 h6 (hK'.mono (fun _ _ h => .inl h))
  have hKE : K1 ≠ E1 := Blk.ne_ h3 h1.blk (by decide)
  have hE2 := h2.blk.lt
  refine ⟨A', n', c', rfl, hO, B, m, d, g2, fun k h => ?_, Blk.keep h3 hK' (fun h => ?_), g4, h9.trans hK' (fun i hi h => ?_)⟩
  · rcases h with h | ⟨bd, e, h⟩
    · omega
    · have := own_foot_lt h2.own bd e; omega
  · rcases h with h | ⟨ad, e, h⟩
    · exact hKE h
    · exact own_ne h1.own h3 (by decide) (by subst e; rw [← h]; rfl)
  · rcases h with h | ⟨ad, e, h⟩
    · omega
    · have := (own_foot_lt h1.own ad e).1; omega
theorem Left2.flush {w5 : World} (h : Left2 w0 w5 E2 K1 K2 s1 s2 w) (hr : Run s2) (hl : s2.1.b.length ≤ 1073741000) :
    Calls Try.prog 22 #[.pointer (some ⟨E2, 0, none⟩)] w fun e w' => ∃ A' n' c', e = .returned (.slice A' n' c') ∧
      w'.ownsRow w.heap.size 5 1 (.slice A' n' c') n' ((flushM (flushE s2.1)).map (Value.int .u8)) ∧ Ctx w' K1 s1.2 ∧ Ctx w' K2 s2.2 ∧ Keep (fun k => k < w5.heap.size) w w' ∧ Keep (fun j => j = K1 ∨ j = K2) w0 w' := by
  obtain ⟨B, m, d, h2, hf, h3, h4, h9⟩ := h
  have hlen := h2.len
  refine (flush_any w _ E2 B m d s2.1 h2 hr.inv hr.lo hr.hi h9.size (by omega)).mono ?_
  rintro e w' ⟨A', n', c', rfl, hO, hK'⟩
  have hx : ∀ K l, Ctx w K l → Ctx w' K l := fun K l hC => Blk.keep hC hK' (fun h => by
    rcases h with h | ⟨ad, e, h⟩
    · exact Blk.ne_ hC h2.blk (by decide) h
    · exact own_ne h2.own hC (by decide) (by subst e; rw [← h]; rfl))
  exact ⟨A', n', c', rfl, hO, hx _ _ h3, hx _ _ h4, hK'.mono (fun k _ h => (hf k h).2), h9.trans hK' (fun i hi h => by have := (hf i h).1; omega)⟩
end
end Go.Proofs.Ytcieeoobobafmaa
