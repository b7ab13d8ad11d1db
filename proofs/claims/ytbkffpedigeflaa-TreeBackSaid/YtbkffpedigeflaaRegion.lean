/-
  A statement that draws its order of evaluation, walked in one order: what only reads is taken as soon as it may come up; behind each call it is shown that what was read, and might come up later still, would read the same. Over any program. Conditions: none.
-/
import Derived.Test.YtbkffpedigeflaaMem
import Derived.OrdersHeld
namespace Go.Proofs.Ytbkffpedigeflaa
open Go.RowKit

section
variable {P : Program} {ops : Array Oper} {Q : Exit → Act → World → Prop} {md : Region.Mode}

/-- All that an operation waits for is listed. -/
def Waits (md : Region.Mode) (o : Oper) (L : Array Bool) : Prop := ∀ e ∈ o.after, Region.binds md e = true → L.getD e.on false = true
/-- Does number j wait for number i, on whatever road? -/
def tdep (md : Region.Mode) (ops : Array Oper) : Nat → Nat → Nat → Bool
  | 0, _, _ => false
  | f + 1, j, i => match ops[j]? with
    | some o => o.after.any fun e => Region.binds md e && (e.on == i || tdep md ops f e.on i)
    | none => false
/-- What is listed waits for nothing that is not. -/
def Closed (md : Region.Mode) (ops : Array Oper) (L : Array Bool) : Prop := ∀ j o, ops[j]? = some o → L.getD j false = true → Waits md o L
def closedB (md : Region.Mode) (ops : Array Oper) (L : Array Bool) : Bool :=
  (List.range ops.size).all fun j => !L.getD j false || match ops[j]? with
    | some o => o.after.all fun e => !Region.binds md e || L.getD e.on false
    | none => true
theorem closed_of {L : Array Bool} (h : closedB md ops L = true) : Closed md ops L := by
  intro j o hj hl e he hb
  have h1 := List.all_eq_true.1 h j (List.mem_range.2 (Array.getElem?_eq_some_iff.1 hj).1)
  simp only [hl, Bool.not_true, Bool.false_or, hj] at h1
  have h2 := Array.all_eq_true_iff_forall_mem.1 h1 e he
  simpa [hb] using h2
theorem tdep_sound {L : Array Bool} (hc : Closed md ops L) : ∀ (f j i : Nat) (o : Oper), ops[j]? = some o → Waits md o L → tdep md ops f j i = true → L.getD i false = true := by
  intro f
  induction f with
  | zero => intro j i o _ _ h; simp [tdep] at h
  | succ f ih =>
    intro j i o hj hw h
    simp only [tdep, hj] at h
    obtain ⟨e, he, hb⟩ := Array.any_eq_true'.1 h
    simp only [Bool.and_eq_true, Bool.or_eq_true, beq_iff_eq] at hb
    have hl := hw e he hb.1
    rcases hb.2 with h1 | h1
    · rw [← h1]; exact hl
    · cases ho : ops[e.on]? with
      | none =>
        cases f with
        | zero => simp [tdep] at h1
        | succ f => simp [tdep, ho] at h1
      | some o' => exact ih e.on i o' ho (hc _ _ ho hl) h1

/-- Whatever order is picked from here on; behind each operation that is carried out: what was read before and may come up later would read the same. -/
def wpP (P : Program) (md : Region.Mode) (ops : Array Oper) (Q : Exit → Act → World → Prop) : Nat → List (Nat × (World → Prop)) → Array Bool → Act → World → Prop
  | 0, _, L, a, w => Region.ready md ops L = [] ∧ Q .normal a w
  | f + 1, pend, L, a, w =>
    (Region.ready md ops L = [] → Q .normal a w) ∧
    ∀ j ∈ Region.ready md ops L, wpOp P ops Q j (fun a' w' => (∀ p ∈ pend, tdep md ops ops.size j p.1 = false → p.2 w') ∧
      wpP P md ops Q f (pend.filter fun p => !tdep md ops ops.size j p.1) (L.setIfInBounds j true) a' w') a w

theorem wpAny_of_wpP : ∀ (f : Nat) (pend : List (Nat × (World → Prop))) (L : Array Bool) (a : Act) (w : World), wpP P md ops Q f pend L a w → wpAny P md ops Q f L a w
  | 0, _, _, _, _, h => h
  | f + 1, _, _, _, _, h => ⟨h.1, fun j hj => wpOp_mono (fun a' w' h' => wpAny_of_wpP f _ _ a' w' h'.2) (h.2 j hj)⟩

theorem wp_region_P {id : Nat} {a : Act} {w : World} (hm : P.follows .mixedOrders = true) (h : wpP P .any ops Q ops.size [] (Array.replicate ops.size false) a w.drew) : (Code.region id ops true).wp P Q a w :=
  wp_region_any hm (wpAny_of_wpP _ _ _ _ _ h)

theorem wpP_mono : ∀ (f : Nat) (pend pend' : List (Nat × (World → Prop))) (L : Array Bool) (a : Act) (w : World), (∀ p ∈ pend', p ∈ pend) → wpP P md ops Q f pend L a w → wpP P md ops Q f pend' L a w
  | 0, _, _, _, _, _, _, h => h
  | f + 1, pend, pend', L, a, w, hs, h => ⟨h.1, fun j hj => wpOp_mono (fun a' w' h' => ⟨fun p hp => h'.1 p (hs p hp), wpP_mono f _ _ _ a' w' (fun p hp => by
      simp only [List.mem_filter] at hp ⊢
      exact ⟨hs p hp.1, hp.2⟩) h'.2⟩) (h.2 j hj)⟩

theorem closed_set {j : Nat} {o : Oper} {L : Array Bool} (hc : Closed md ops L) (hj : ops[j]? = some o) (hw : Waits md o L) : Closed md ops (L.setIfInBounds j true) := by
  intro k ok hk hl e he hb
  by_cases hkj : j = k
  · subst hkj
    rw [hj] at hk
    injection hk with hk
    subst hk
    exact getD_set_true (hw e he hb)
  · rw [getD_set_ne false hkj] at hl
    exact getD_set_true (hc k ok hk hl e he hb)

theorem wpP_first {i : Nat} {oi : Oper} {v : Value} {T : World → Prop} (hi : ops[i]? = some oi) (hsel : ∀ (j : Nat) (o : Oper) cs b, ops[j]? = some o → o.op ≠ .select cs b)
    (hQ : ∀ c a w, Q (.panic c) (a.put oi.dst v) w → Q (.panic c) a w) :
    ∀ (f : Nat) (pend : List (Nat × (World → Prop))) (L : Array Bool) (a : Act) (w : World), Closed md ops L →
      (∀ j oj, ops[j]? = some oj → j ≠ i → L.getD j true = false → (∀ e ∈ oj.after, Region.binds md e = true → e.on ≠ i) → oi.apart ops oj = true) →
      i ∈ Region.ready md ops L → YieldsIf P ops T oi v a → T w → (∀ p ∈ pend, p.2 w) →
      wpP P md ops Q f ((i, T) :: pend) (L.setIfInBounds i true) (a.put oi.dst v) w → wpP P md ops Q (f + 1) pend L a w := by
  intro f
  induction f with
  | zero =>
    intro pend L a w _ _ hr hy hT hp H
    refine ⟨fun h => (by rw [h] at hr; cases hr), fun j hj => ?_⟩
    by_cases hji : j = i
    · subst hji; exact hy.wpOp hi hT ⟨fun p hp' _ => hp p hp', H⟩
    · have := ready_mono hj hji
      rw [H.1] at this
      cases this
  | succ f ih =>
    intro pend L a w hc hfree hr hy hT hp H
    refine ⟨fun h => (by rw [h] at hr; cases hr), fun j hj => ?_⟩
    by_cases hji : j = i
    · subst hji
      exact hy.wpOp hi hT ⟨fun p hp' _ => hp p hp', wpP_mono _ _ _ _ _ _ (fun p hp' => List.mem_cons_of_mem _ (List.mem_filter.1 hp').1) H⟩
    · have h1 := H.2 j (ready_mono hj hji)
      obtain ⟨hjun, oj, hoj, hall⟩ := mem_ready.1 hj
      have hil : ¬ L.getD i false = true := by
        intro h1
        have h0 := (mem_ready.1 hr).1
        rcases Nat.lt_or_ge i L.size with h' | h'
        · simp [h'] at h0 h1; rw [h0] at h1; cases h1
        · simp [Array.getElem?_eq_none h'] at h1
      have hnot : ∀ e ∈ oj.after, Region.binds md e = true → e.on ≠ i := fun e he hb heq => hil (by rw [← heq]; exact hall e he hb)
      have htd : tdep md ops ops.size j i = false := by
        cases h : tdep md ops ops.size j i with
        | false => rfl
        | true => exact absurd (tdep_sound hc _ _ _ _ hoj hall h) hil
      have h2 := wpOp_putIf hoj (hfree j oj hoj hji hjun hnot) (fun cs b => hsel i oi cs b hi) (fun cs b => hsel j oj cs b hoj) hQ hy h1
      have hfree' : ∀ k ok, ops[k]? = some ok → k ≠ i → (L.setIfInBounds j true).getD k true = false →
          (∀ e ∈ ok.after, Region.binds md e = true → e.on ≠ i) → oi.apart ops ok = true := fun k ok hk hki hun hno => by
        refine hfree k ok hk hki ?_ hno
        by_cases hjk : j = k
        · subst hjk; exact hjun
        · rw [getD_set_ne true hjk] at hun; exact hun
      refine wpOp_mono (fun a' w' h3 => ?_) h2
      obtain ⟨hy', hobl, hw'⟩ := h3
      refine ⟨fun p hp' => hobl p (List.mem_cons_of_mem _ hp'), ?_⟩
      refine ih _ (L.setIfInBounds j true) a' w' (closed_set hc hoj hall) hfree' (ready_mono hr (Ne.symm hji)) hy' (hobl (i, T) (List.mem_cons_self ..) htd) (fun p hp' => ?_) ?_
      · rw [List.mem_filter] at hp'
        exact hobl p (List.mem_cons_of_mem _ hp'.1) (by simpa using hp'.2)
      · rw [Array.setIfInBounds_comm _ _ hji]
        rw [List.filter_cons_of_pos (by simp [htd])] at hw'
        exact hw'

theorem wpP_add_true : ∀ (f : Nat) (i : Nat) (pend : List (Nat × (World → Prop))) (L : Array Bool) (a : Act) (w : World), wpP P md ops Q f pend L a w → wpP P md ops Q f ((i, fun _ => True) :: pend) L a w
  | 0, _, _, _, _, _, h => h
  | f + 1, i, pend, L, a, w, h => ⟨h.1, fun j hj => wpOp_mono (fun a' w' h' => ⟨fun p hp ht => by
      rcases List.mem_cons.1 hp with rfl | hp
      · trivial
      · exact h'.1 p hp ht, by
      rw [List.filter_cons]
      split
      · exact wpP_add_true f i _ _ a' w' h'.2
      · exact h'.2⟩) (h.2 j hj)⟩

/-! ### The moves of a walk -/
/-- What the walk stands at: what was read holds now. -/
def At (P : Program) (md : Region.Mode) (ops : Array Oper) (Q : Exit → Act → World → Prop) (f : Nat) (pend : List (Nat × (World → Prop))) (L : Array Bool) (a : Act) (w : World) : Prop :=
  (∀ p ∈ pend, p.2 w) → wpP P md ops Q f pend L a w
/-- May number i be taken now, ahead of all that may come up? -/
def takeB (md : Region.Mode) (ops : Array Oper) (L : Array Bool) (i : Nat) : Bool :=
  Region.noSelect ops && Region.free md ops L i && (Region.ready md ops L).contains i && closedB md ops L

theorem At.start {L : Array Bool} {id : Nat} {a : Act} {w : World} (hm : P.follows .mixedOrders = true) (hL : L = Array.replicate ops.size false) (h : At P .any ops Q ops.size [] L a w.drew) : (Code.region id ops true).wp P Q a w :=
  wp_region_P hm (by subst hL; exact h (fun _ hp => by cases hp))
theorem all_nil {w : World} : ∀ p ∈ ([] : List (Nat × (World → Prop))), p.2 w := fun _ h => by cases h
theorem all_cons {w : World} {i : Nat} {T : World → Prop} {l : List (Nat × (World → Prop))} (h : T w) (hl : ∀ p ∈ l, p.2 w) : ∀ p ∈ (i, T) :: l, p.2 w := fun p hp => by
  rcases List.mem_cons.1 hp with rfl | hp
  · exact h
  · exact hl p hp

/-- Number i yields v in whatever world. -/
theorem At.pure (i : Nat) (d : Option Tmp) {oi : Oper} {v : Value} {f : Nat} {pend : List (Nat × (World → Prop))} {L : Array Bool} {a : Act} {w : World} (hi : ops[i]? = some oi) (hd : oi.dst = d) (hb : takeB md ops L i = true)
    (hQ : ∀ c a w, Q (.panic c) (a.put d v) w → Q (.panic c) a w) (hw : Region.wanted oi (yielded ops a.tmps) = true) (hy : ∀ w', (execOp a.eval oi).run P w' = .ok (.value v) w')
    (h : At P md ops Q f pend (L.setIfInBounds i true) (a.put d v) w) : At P md ops Q (f + 1) pend L a w := by
  subst hd
  intro hp
  simp only [takeB, Bool.and_eq_true] at hb
  refine wpP_first (T := fun _ => True) hi (Region.noSelect_spec hb.1.1.1) hQ f pend L a w (closed_of hb.2) (Region.free_spec hi hb.1.1.2) (by simpa using hb.1.2) (.inl ⟨hw, fun w' _ => hy w'⟩) trivial hp ?_
  exact (wpP_add_true f i pend _ _ w (h hp))
/-- Number i is not wanted. -/
theorem At.skip (i : Nat) (d : Option Tmp) {oi : Oper} {f : Nat} {pend : List (Nat × (World → Prop))} {L : Array Bool} {a : Act} {w : World} (hi : ops[i]? = some oi) (hd : oi.dst = d) (hb : takeB md ops L i = true)
    (hQ : ∀ c a w, Q (.panic c) (a.put d undef) w → Q (.panic c) a w) (hw : Region.wanted oi (yielded ops a.tmps) = false)
    (h : At P md ops Q f pend (L.setIfInBounds i true) (a.put d undef) w) : At P md ops Q (f + 1) pend L a w := by
  subst hd
  intro hp
  simp only [takeB, Bool.and_eq_true] at hb
  refine wpP_first (T := fun _ => True) hi (Region.noSelect_spec hb.1.1.1) hQ f pend L a w (closed_of hb.2) (Region.free_spec hi hb.1.1.2) (by simpa using hb.1.2) (.inr ⟨hw, rfl⟩) trivial hp ?_
  exact (wpP_add_true f i pend _ _ w (h hp))
/-- Number i yields v in every world that meets T, and the world at hand does. -/
theorem At.read (i : Nat) (d : Option Tmp) (T : World → Prop) {oi : Oper} {v : Value} {f : Nat} {pend : List (Nat × (World → Prop))} {L : Array Bool} {a : Act} {w : World} (hi : ops[i]? = some oi) (hd : oi.dst = d) (hb : takeB md ops L i = true)
    (hQ : ∀ c a w, Q (.panic c) (a.put d v) w → Q (.panic c) a w) (hw : Region.wanted oi (yielded ops a.tmps) = true) (hT : T w) (hy : ∀ w', T w' → (execOp a.eval oi).run P w' = .ok (.value v) w')
    (h : At P md ops Q f ((i, T) :: pend) (L.setIfInBounds i true) (a.put d v) w) : At P md ops Q (f + 1) pend L a w := by
  subst hd
  intro hp
  simp only [takeB, Bool.and_eq_true] at hb
  refine wpP_first (T := T) hi (Region.noSelect_spec hb.1.1.1) hQ f pend L a w (closed_of hb.2) (Region.free_spec hi hb.1.1.2) (by simpa using hb.1.2) (.inl ⟨hw, hy⟩) hT hp ?_
  refine h (fun p hp' => ?_)
  rcases List.mem_cons.1 hp' with rfl | hp'
  · exact hT
  · exact hp p hp'
/-- Number j alone may come up: it is carried out. -/
theorem At.call (j : Nat) {oj : Oper} {f : Nat} {pend pend' : List (Nat × (World → Prop))} {L : Array Bool} {a : Act} {w : World} (hj : ops[j]? = some oj) (hr : (Region.ready md ops L == [j]) = true)
    (hw : Region.wanted oj (yielded ops a.tmps) = true) (hp' : (pend.filter fun p => !tdep md ops ops.size j p.1) = pend')
    (h : ∀ K : Act → World → Prop, (∀ a' w', (∀ p ∈ pend', p.2 w') → At P md ops Q f pend' (L.setIfInBounds j true) a' w' → K a' w') → Oper.wp P oj a w K Q) : At P md ops Q (f + 1) pend L a w := by
  intro hp
  have hr' : Region.ready md ops L = [j] := by simpa using hr
  refine ⟨fun h0 => (by rw [hr'] at h0; cases h0), fun k hk => ?_⟩
  rw [hr'] at hk
  have hk' : k = j := by simpa using hk
  subst hk'
  have hh := h (fun a' w' => (∀ p ∈ pend, tdep md ops ops.size k p.1 = false → p.2 w') ∧ wpP P md ops Q f (pend.filter fun p => !tdep md ops ops.size k p.1) (L.setIfInBounds k true) a' w') (fun a' w' hq hA => by
    refine ⟨fun p hp1 ht => hq p (by rw [← hp', List.mem_filter]; exact ⟨hp1, by simp [ht]⟩), ?_⟩
    rw [hp']
    exact hA hq)
  unfold wpOp
  simp only [hj, hw, if_true]
  exact .inl hh
theorem At.done {f : Nat} {pend : List (Nat × (World → Prop))} {L : Array Bool} {a : Act} {w : World} (hr : (Region.ready md ops L == []) = true) (h : Q .normal a w) : At P md ops Q f pend L a w := by
  intro _
  have hr' : Region.ready md ops L = [] := by simpa using hr
  cases f with
  | zero => exact ⟨hr', h⟩
  | succ f => exact ⟨fun _ => h, fun j hj => by rw [hr'] at hj; cases hj⟩
end
end Go.Proofs.Ytbkffpedigeflaa
