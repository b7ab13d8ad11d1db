/-
  The program's encoder and the reference's, side by side. Conditions: at most 2^30 bytes.
-/
import Derived.Test.YtcieeoobobafmaaRefSame
namespace Go.Proofs.Ytcieeoobobafmaa
open Go.RowKit

theorem wpList_load_row_g {P : Program} {ops : Array Oper} {rest : List Oper} {o : Oper} {a : Act} {w : World} {Q : Exit → Act → World → Prop} (hw : Region.wanted o (yielded ops a.tmps) = true) (ty : TypeId) (x : Operand) (ho : o.op = .load ty x)
    (g : Nat) (hx : a.eval x = .pointer (some ⟨g, 0, none⟩)) (t : TypeId) (cs : Array Value) (fr : Nat × Nat) (d : TypeDesc) (hg : w.heap[g]? = some (.cells cs t fr))
    (hu : P.underlying ty = some d) (hd : (match d with | .struct _ | .array _ _ => true | _ => false) = true) (hi : (P.info? ty).map (·.size) = some cs.size)
    (h : wpList P ops Q rest (a.put o.dst (.agg cs)) w) : wpList P ops Q (o :: rest) a w := by
  show if Region.wanted o (yielded ops a.tmps) = true then _ else _
  rw [if_pos hw]
  exact .inl (wp_load_row ty x ho g hx t cs fr d hg hu hd hi h)
theorem renc_run (w : World) (base E K k : Nat) (A : Option Addr) (n c : Nat) (s : ES × List (Nat × Nat)) (bit : Int) (h : Er w base E A n c s.1) (hr : Run s) (hC : RCtx w K s.2) (hk : k < 19) (hb : base ≤ w.heap.size) (hn : n ≤ 1073741000) :
    Calls Try.prog 25 #[.pointer (some ⟨E, 0, none⟩), .pointer (some ⟨K, 0, none⟩), .int .i64 k, .int .i64 bit] w (RencP w base E K A (encR s k bit).1 (encR s k bit).2) :=
  renc_any w base E K k A n c s.1 s.2 bit h hr.inv hr.lo hr.hi hC hr.cx hk hb hn _ rfl (tabAt (cxAt s.2 k).1).1 (tabAt (cxAt s.2 k).1).2.1 (tabAt (cxAt s.2 k).1).2.2.1 (tabAt (cxAt s.2 k).1).2.2.2 rfl
/-- In memory: an encoder of the program's and one of the reference's, newer than w0, contexts of each. -/
def Mix (w0 : World) (E X F Y : Nat) (s1 s2 : ES × List (Nat × Nat)) (w : World) : Prop :=
  ∃ A n c B m d, En w w0.heap.size E A n c s1.1 ∧ Er w w0.heap.size F B m d s2.1 ∧ Apart A B ∧ Ctx w X s1.2 ∧ RCtx w Y s2.2 ∧ w0.heap.size ≤ E ∧ w0.heap.size ≤ F ∧ Keep (fun j => j = X ∨ j = Y) w0 w
section
variable {w0 w : World} {E X F Y : Nat} {s1 s2 : ES × List (Nat × Nat)}
theorem Mix.keep (h : Mix w0 E X F Y s1 s2 w) : Keep (fun j => j = X ∨ j = Y) w0 w := by
  obtain ⟨A, n, c, B, m, d, h1, h2, ha, h3, h4, h5, h6, h7⟩ := h
  exact h7
theorem Mix.ctx (h : Mix w0 E X F Y s1 s2 w) : Ctx w X s1.2 ∧ RCtx w Y s2.2 := by
  obtain ⟨A, n, c, B, m, d, h1, h2, ha, h3, h4, h5, h6, h7⟩ := h
  exact ⟨h3, h4⟩
theorem Mix.drew (h : Mix w0 E X F Y s1 s2 w) : Mix w0 E X F Y s1 s2 w.drew := by
  obtain ⟨A, n, c, B, m, d, h1, h2, ha, h3, h4, h5, h6, h7⟩ := h
  exact ⟨A, n, c, B, m, d, ⟨h1.blk.drew, h1.own.drew⟩, ⟨h2.blk.drew, h2.own.drew⟩, ha, Blk.drew h3, Blk.drew h4, h5, h6, h7.drew⟩
theorem Mix.more (h : Mix w0 E X F Y s1 s2 w) {w' : World} (hk : Keep (fun j => w.heap.size ≤ j) w w') : Mix w0 E X F Y s1 s2 w' := by
  obtain ⟨A, n, c, B, m, d, h1, h2, ha, h3, h4, h5, h6, h7⟩ := h
  have l1 := h1.blk.lt
  have l2 := h2.blk.lt
  have l3 := Blk.lt h3
  have l4 := Blk.lt h4
  exact ⟨A, n, c, B, m, d, h1.keep hk (by show ¬ _ ≤ _; omega) (fun ad e => by have := (own_foot_lt h1.own ad e).2; show ¬ _ ≤ _; omega),
    h2.keep hk (by show ¬ _ ≤ _; omega) (fun ad e => by have := (own_foot_lt h2.own ad e).2; show ¬ _ ≤ _; omega), ha,
    Blk.keep h3 hk (by show ¬ _ ≤ _; omega), Blk.keep h4 hk (by show ¬ _ ≤ _; omega), h5, h6, h7.trans hk (fun i hi h => by have := h7.size; omega)⟩
theorem Mix.enc (h : Mix w0 E X F Y s1 s2 w) (hr : Run s1) (hl : s1.1.b.length ≤ 1073741000) (k : Nat) (hk : k < 19) (bit : Int) :
    Calls Try.prog 21 #[.pointer (some ⟨E, 0, none⟩), .pointer (some ⟨X, 0, none⟩), .int .i64 k, .int .i64 bit] w fun e w' => e = .returned (.tuple #[]) ∧ Mix w0 E X F Y (encR s1 k bit) s2 w' := by
  obtain ⟨A, n, c, B, m, d, h1, h2, ha, h3, h4, h5, h6, h7⟩ := h
  have hlen := h1.len
  refine (enc_run w _ E X k A n c s1 bit h1 hr h3 hk h7.size (by omega)).mono ?_
  rintro e w' ⟨A', n', c', rfl, hE', hC', hG', hK'⟩
  refine ⟨rfl, A', n', c', B, m, d, hE', h2.keep hK' (fun h => ?_) (fun bd e h => ?_), fun ad bd e1 e2 => ?_, hC', Blk.keep h4 hK' (fun h => ?_), h5, h6, h7.trans hK' (fun i hi h => ?_)⟩
  · rcases h with (h | ⟨ad, e, h⟩) | h
    · exact Blk.ne_ h2.blk h1.blk (by decide) h
    · exact own_ne h1.own h2.blk (by decide) (by subst e; rw [← h]; rfl)
    · exact Blk.ne_ h2.blk h3 (by decide) h
  · rcases h with (h | ⟨ad, e', h⟩) | h
    · exact own_ne h2.own h1.blk (by decide) (by subst e; rw [← h]; rfl)
    · exact ha ad bd e' e h
    · exact own_ne h2.own h3 (by decide) (by subst e; rw [← h]; rfl)
  · rcases hG' ad e1 with ⟨ad0, e0, h⟩ | h
    · rw [← h]; exact ha ad0 bd e0 e2
    · have := (own_foot_lt h2.own bd e2).2; omega
  · rcases h with (h | ⟨ad, e, h⟩) | h
    · exact Blk.ne_ h4 h1.blk (by decide) h
    · exact own_ne h1.own h4 (by decide) (by subst e; rw [← h]; rfl)
    · exact Blk.ne_ h4 h3 (by decide) h
  · rcases h with (h | ⟨ad, e, h⟩) | h
    · omega
    · have := (own_foot_lt h1.own ad e).1; omega
    · exact .inl h
theorem Mix.renc (h : Mix w0 E X F Y s1 s2 w) (hr : Run s2) (hl : s2.1.b.length ≤ 1073741000) (k : Nat) (hk : k < 19) (bit : Int) :
    Calls Try.prog 25 #[.pointer (some ⟨F, 0, none⟩), .pointer (some ⟨Y, 0, none⟩), .int .i64 k, .int .i64 bit] w fun e w' => e = .returned (.tuple #[]) ∧ Mix w0 E X F Y s1 (encR s2 k bit) w' := by
  obtain ⟨A, n, c, B, m, d, h1, h2, ha, h3, h4, h5, h6, h7⟩ := h
  have hlen := h2.len
  refine (renc_run w _ F Y k B m d s2 bit h2 hr h4 hk h7.size (by omega)).mono ?_
  rintro e w' ⟨B', m', d', rfl, hE', hC', hG', hK'⟩
  refine ⟨rfl, A, n, c, B', m', d', h1.keep hK' (fun h => ?_) (fun ad e h => ?_), hE', fun ad bd e1 e2 => ?_, Blk.keep h3 hK' (fun h => ?_), hC', h5, h6, h7.trans hK' (fun i hi h => ?_)⟩
  · rcases h with (h | ⟨bd, e, h⟩) | h
    · exact Blk.ne_ h1.blk h2.blk (by decide) h
    · exact own_ne h2.own h1.blk (by decide) (by subst e; rw [← h]; rfl)
    · exact Blk.ne_ h1.blk h4 (by decide) h
  · rcases h with (h | ⟨bd, e', h⟩) | h
    · exact own_ne h1.own h2.blk (by decide) (by subst e; rw [← h]; rfl)
    · exact ha ad bd e e' h.symm
    · exact own_ne h1.own h4 (by decide) (by subst e; rw [← h]; rfl)
  · rcases hG' bd e2 with ⟨bd0, e0, h⟩ | h
    · rw [← h]; exact ha ad bd0 e1 e0
    · have := (own_foot_lt h1.own ad e1).2; omega
  · rcases h with (h | ⟨bd, e, h⟩) | h
    · exact Blk.ne_ h3 h2.blk (by decide) h
    · exact own_ne h2.own h3 (by decide) (by subst e; rw [← h]; rfl)
    · exact Blk.ne_ h3 h4 (by decide) h
  · rcases h with (h | ⟨bd, e, h⟩) | h
    · omega
    · have := (own_foot_lt h2.own bd e).1; omega
    · exact .inr h
theorem Mix.out (h : Mix w0 E X F Y s1 s2 w) (hr : Run s1) (hl : s1.1.b.length ≤ 1073741000) :
    Calls Try.prog 27 #[.pointer (some ⟨E, 0, none⟩)] w fun e w' => e = .returned (.int .i64 (s1.1.b.length - 1)) ∧ w = w' := by
  obtain ⟨A, n, c, B, m, d, h1, h2, ha, h3, h4, h5, h6, h7⟩ := h
  have hlen := h1.len
  have := hr.inv.some_
  exact oute_any w _ E A n c s1.1 h1 (by omega) (by omega)
theorem Mix.rout (h : Mix w0 E X F Y s1 s2 w) (hr : Run s2) (hl : s2.1.b.length ≤ 1073741000) :
    Calls Try.prog 28 #[.pointer (some ⟨F, 0, none⟩)] w fun e w' => e = .returned (.int .i64 (s2.1.b.length - 1)) ∧ w = w' := by
  obtain ⟨A, n, c, B, m, d, h1, h2, ha, h3, h4, h5, h6, h7⟩ := h
  have hlen := h2.len
  have := hr.inv.some_
  exact route_any w _ F B m d s2.1 h2 (by omega) (by omega)
/-- Both end, the program's first. -/
theorem Mix.flush (h : Mix w0 E X F Y s1 s2 w) (hr : Run s1) (hr2 : Run s2) (hl : s1.1.b.length ≤ 1073741000) (hl2 : s2.1.b.length ≤ 1073741000) :
    Calls Try.prog 22 #[.pointer (some ⟨E, 0, none⟩)] w fun e w' => ∃ A' n' c', e = .returned (.slice A' n' c') ∧ Rd w' A' n' ((flushM (flushE s1.1)).map (Value.int .u8)) ∧
      Calls Try.prog 26 #[.pointer (some ⟨F, 0, none⟩)] w' fun e w'' => ∃ B' m' d', e = .returned (.slice B' m' d') ∧ Rd w'' B' m' ((flushM (flushE s2.1)).map (Value.int .u8)) ∧ Rd w'' A' n' ((flushM (flushE s1.1)).map (Value.int .u8)) ∧ Keep (fun j => j = X ∨ j = Y) w0 w'' := by
  obtain ⟨A, n, c, B, m, d, h1, h2, ha, h3, h4, h5, h6, h7⟩ := h
  have hlen := h1.len
  have hlen2 := h2.len
  have hB := h2.own
  refine (flush_any w _ E A n c s1.1 h1 hr.inv hr.lo hr.hi h7.size (by omega)).mono ?_
  rintro e w' ⟨A', n', c', rfl, hO, hK'⟩
  have g2 : Er w' w0.heap.size F B m d s2.1 := h2.keep hK' (fun h => by
    rcases h with h | ⟨ad, e, h⟩
    · exact Blk.ne_ h2.blk h1.blk (by decide) h
    · exact own_ne h1.own h2.blk (by decide) (by subst e; rw [← h]; rfl)) (fun bd e h => by
    rcases h with h | ⟨ad, e', h⟩
    · exact own_ne h2.own h1.blk (by decide) (by subst e; rw [← h]; rfl)
    · exact ha ad bd e' e h)
  have hk7 := h7.trans hK' (fun i hi h => by
    rcases h with h | ⟨ad, e, h⟩
    · omega
    · have := (own_foot_lt h1.own ad e).1; omega)
  refine ⟨A', n', c', rfl, Rd.of_own hO, ?_⟩
  refine (rflush_any w' _ F B m d s2.1 g2 hr2.inv hr2.lo hr2.hi hk7.size (by omega)).mono ?_
  rintro e w'' ⟨B', m', d', rfl, hR, _, hK''⟩
  have hF := h2.blk.lt
  refine ⟨B', m', d', rfl, hR, Rd.keep_own hO hK'' (fun k h => ?_), hk7.trans hK'' (fun i hi h => ?_)⟩
  · rcases h with h | ⟨bd, e, h⟩
    · omega
    · have := (own_foot_lt hB bd e).2; omega
  · rcases h with h | ⟨bd, e, h⟩
    · omega
    · have := (own_foot_lt hB bd e).1; omega
end
end Go.Proofs.Ytcieeoobobafmaa
