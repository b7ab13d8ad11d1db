/-
  The program's writer of bits: what it holds, and what each of its methods does. Conditions: at most 2^40 bytes are written.
-/
import Derived.Test.YtbkffpedigeflaaClone
import Derived.Test.YtbkffpedigeflaaBitModel
import Derived.Test.YtbkffpedigeflaaRegion
import Derived.Deep.QuietTactic
import Derived.BigQuiet
namespace Go.Proofs.Ytbkffpedigeflaa
open Go.RowKit


/-- The writer at block W: bytes l (at A, with n and c), room. -/
structure Wr (w : World) (base W : Nat) (A : Option Addr) (n c : Nat) (l : List Int) (r : Int) : Prop where
  blk : Blk w W 65 #[.slice A n c, .int .i64 r]
  own : w.ownsRow base 5 1 (.slice A n c) n (l.map (Value.int .u8))

theorem Wr.len {w : World} {base W : Nat} {A : Option Addr} {n c : Nat} {l : List Int} {r : Int} (h : Wr w base W A n c l r) : l.length = n := by have := h.own.1; simpa using this

set_option maxHeartbeats 400000 in
theorem last_any (w : World) (base W : Nat) (A : Option Addr) (n c : Nat) (l : List Int) (r : Int) (h : Wr w base W A n c l r) (hn : n ≤ 1099511627776) :
    Calls Try.prog 31 #[.pointer (some ⟨W, 0, none⟩)] w fun e w' => e = .returned (.int .u8 (lastM l)) ∧ Keep (fun _ => False) w w' := by
  have h0 : w.cell? ⟨W, 0, none⟩ = some (.slice A n c) := h.blk.cell 0
  by_cases hn0 : n = 0
  · subst hn0
    have hl : lastM l = 0 := by rw [List.eq_nil_of_length_eq_zero h.len]; rfl
    have HL := hid hl
    clear h hl
    go_enter Try.func31, Try.ntmps31
    go_wp2
    go_ret
    exact ⟨by rw [HL.out]; rfl, Keep.refl _ _⟩
  · obtain ⟨g, rfl, hgc, hgb, hgl, hgf⟩ := own_at h.own (by omega)
    have g0 : w.cell? ⟨g, n - 1, none⟩ = some (.int .u8 (lastM l)) := by
      have := hgl (n - 1) _ (map_at _ _ (n - 1) (by rw [h.len]; omega))
      unfold lastM
      rw [h.len]
      exact this
    clear h hgl hgf
    generalize lastM l = z at *
    obtain ⟨m, rfl⟩ : ∃ m, n = m + 1 := ⟨n - 1, by omega⟩
    simp only [Nat.add_sub_cancel] at g0
    have w1 : IntKind.i64.wrap (((m + 1 : Nat) : Int) - 1) = (m : Int) := by rw [IntWalk.i64_in _ (by omega)]; omega
    go_enter Try.func31, Try.ntmps31
    go_wp2
    go_quiet (fail)
    go_wp2
    go_ret
    exact ⟨rfl, (Keep.refl _ _).drewN _⟩

/-- The blocks of a writer: its own, its bytes'. -/
def foot (W : Nat) (A : Option Addr) (k : Nat) : Prop := k = W ∨ ∃ ad, A = some ad ∧ ad.block = k
/-- The bytes lie where they lay, or in a new block. -/
def Grew (w : World) (A A' : Option Addr) : Prop := ∀ ad', A' = some ad' → (∃ ad, A = some ad ∧ ad.block = ad'.block) ∨ w.heap.size ≤ ad'.block
theorem own_foot {A : Option Addr} {n c : Nat} {k : Nat} (h : (Value.slice A n c).ownBlock = some k) : ∃ ad, A = some ad ∧ ad.block = k := by
  cases A with
  | none => simp [Value.ownBlock] at h
  | some a => exact ⟨a, rfl, by simpa [Value.ownBlock] using h⟩
theorem Grew.of {w : World} {A A' : Option Addr} {n n' c c' m : Nat} (h : (Value.slice A' n' c').ownBlock = (Value.slice A n c).ownBlock ∨ (Value.slice A' n' c').ownBlock = some m) (hm : w.heap.size ≤ m) : Grew w A A' := by
  intro ad' e
  subst e
  rcases h with h | h
  · have : (Value.slice A n c).ownBlock = some ad'.block := by rw [← h]; rfl
    exact .inl (own_foot this)
  · simp [Value.ownBlock] at h
    exact .inr (by omega)

set_option maxHeartbeats 400000 in
theorem rowput_any (w : World) (base W : Nat) (A : Option Addr) (n c : Nat) (l : List Int) (r x : Int) (h : Wr w base W A n c l r) (hb : base ≤ w.heap.size) (hn : n ≤ 1099511627776) :
    Calls Try.prog 36 #[.pointer (some ⟨W, 0, none⟩), .int .u8 x] w fun e w' => ∃ A' c', e = .returned (.tuple #[]) ∧ Wr w' base W A' (n + 1) c' (l ++ [x]) r ∧ Grew w A A' ∧ Keep (foot W A) w w' := by
  obtain ⟨i0, hi0, hz0, hz1, hz2⟩ := info_parts info_u8
  have h0 : w.cell? ⟨W, 0, none⟩ = some (.slice A n c) := h.blk.cell 0
  have f0 := h.blk.frozen 0
  have hw := h.blk.lt
  have hne := own_ne h.own h.blk (by decide)
  have HN := hid hne
  have H := hid h
  have hown := h.own
  clear h hne
  go_enter Try.func36, Try.ntmps36
  go_wp2_with (
    at_builtin
    go_must (refine wpList_append_one w rfl (.tmp 8) (.tmp 10) _ rfl base 5 i0 _ 1 Try.underlying31 hi0 hz0 hz1 hz2 rfl hown rfl _ rfl rfl (by simp only [maxLen]; omega) (by omega) (by omega) ?_)
    intro v2 w2 hown2 hg2 hat2 _hold2
    obtain ⟨A2, c2, rfl⟩ := own_form hown2
    have b2 := (H.out.blk.alloc _).grown hg2 (Ne.symm HN.out)
    have f2 := b2.frozen 0
    have c2' : w2.cell? ⟨W, 0, none⟩ = some (.slice A n c) := b2.cell 0
    have B2 := hid b2
    clear b2)
  go_end0
  have hne2 := own_ne hown2 B2.out (by decide)
  refine ⟨A2, c2, rfl, ⟨?_, ?_⟩, ?_, ?_⟩
  · exact B2.out.set_ 0 _
  · have := own_keep hown2 (Keep.set1 w2 W 0 (.slice A2 (n + 1) c2)) (fun k e hk => hne2 (by rw [e, hk]))
    simpa using this
  · exact Grew.of hat2 (by omega)
  · refine Keep.setCell ?_ (p := ⟨W, 0, none⟩) (.inl (.inl rfl)) _
    exact ((Keep.refl _ w).alloc _).grown hg2 (fun k hk => .inl (.inr (own_foot hk)))

/-- A byte with a bit more. -/
def orB (z x : Int) (t : Nat) : Int := bits .or .u8 z (bits .and .i64 x 1 % 256 * 2 ^ t % 256)

theorem wr_bit {w : World} {base W g m c : Nat} {l : List Int} {r z : Int} (h : Wr w base W (some ⟨g, 0, none⟩) (m + 1) c l r) (hne : g ≠ W) (r' : Int) :
    Wr ((w.setCell ⟨W, 1, none⟩ (.int .i64 r')).setCell ⟨g, m, none⟩ (.int .u8 z)).drew base W (some ⟨g, 0, none⟩) (m + 1) c (l.set m z) r' := by
  refine ⟨?_, ?_⟩
  · have := (h.blk.set_ 1 (.int .i64 r')).far (p := ⟨g, m, none⟩) (Ne.symm hne) (.int .u8 z)
    exact this.drew
  · have h1 := own_keep h.own (Keep.set1 w W 1 (.int .i64 r')) (fun k e hk => hne (by simp [Value.ownBlock] at e; omega))
    have := World.ownsRow.stored h1 m (.int .u8 z)
    rw [← List.map_set] at this
    exact this.1

set_option maxHeartbeats 800000 in
theorem bit_r (w : World) (base W : Nat) (A : Option Addr) (n c : Nat) (l : List Int) (r x : Int) (h : Wr w base W A n c l r) (hb : base ≤ w.heap.size) (hn : n ≤ 1099511627776) (hr0 : 0 < r) (hr8 : r ≤ 8) (hl : 0 < n) :
    Calls Try.prog 29 #[.pointer (some ⟨W, 0, none⟩), .int .i64 x] w fun e w' => e = .returned (.tuple #[]) ∧ Wr w' base W A n c (l.set (n - 1) (orB (lastM l) x (r.toNat - 1))) (r - 1) ∧ Keep (foot W A) w w' := by
  have h0 : w.cell? ⟨W, 0, none⟩ = some (.slice A n c) := h.blk.cell 0
  have h1 : w.cell? ⟨W, 1, none⟩ = some (.int .i64 r) := h.blk.cell 1
  have f1 := h.blk.frozen 1
  have hr' : (r == 0) = false := by simp; omega
  have H := hid h
  obtain ⟨g, rfl, hgc, hgb, hgl, hgf⟩ := own_at h.own (by omega)
  have g0 : w.cell? ⟨g, n - 1, none⟩ = some (.int .u8 (lastM l)) := by
    have := hgl (n - 1) _ (map_at _ _ (n - 1) (by rw [h.len]; omega))
    unfold lastM
    rw [h.len]
    exact this
  have fg := hgf (n - 1)
  have hne : g ≠ W := fun e => own_ne h.own h.blk (by decide) (by rw [e]; rfl)
  clear h hgl hgf
  generalize hz : lastM l = z at *
  obtain ⟨m, rfl⟩ : ∃ m, n = m + 1 := ⟨n - 1, by omega⟩
  simp only [Nat.add_sub_cancel] at g0 fg
  have w1 : IntKind.i64.wrap (((m + 1 : Nat) : Int) - 1) = (m : Int) := by rw [IntWalk.i64_in _ (by omega)]; omega
  go_enter Try.func29, Try.ntmps29
  go_wp2_with fail
  go_region
  go_end0
  refine ⟨rfl, ?_, ?_⟩
  · have := wr_bit (z := orB z x (r.toNat - 1)) H.out hne (r - 1)
    exact this
  · refine Keep.drew (Keep.setCell ?_ (p := ⟨g, m, none⟩) (.inl (.inr ⟨_, rfl, rfl⟩)) _)
    exact (Keep.set1 w W 1 _).mono (fun k _ hk => .inl hk)


theorem Wr.keep {w w' : World} {base W : Nat} {A : Option Addr} {n c : Nat} {l : List Int} {r : Int} (h : Wr w base W A n c l r) {S : Nat → Prop} (hk : Keep S w w') (hW : ¬ S W) (hA : ∀ ad, A = some ad → ¬ S ad.block) : Wr w' base W A n c l r :=
  ⟨h.blk.keep hk hW, own_keep h.own hk (fun k e hs => by
    obtain ⟨ad, rfl, rfl⟩ := own_foot e
    exact hA ad rfl hs)⟩
theorem Wr.room {w : World} {base W : Nat} {A : Option Addr} {n c : Nat} {l : List Int} {r : Int} (h : Wr w base W A n c l r) (r' : Int) : Wr (w.setCell ⟨W, 1, none⟩ (.int .i64 r')) base W A n c l r' := by
  have hne := own_ne h.own h.blk (by decide)
  exact ⟨h.blk.set_ 1 _, own_keep h.own (Keep.set1 w W 1 _) (fun k e hk => hne (by rw [e, hk]))⟩
theorem Grew.refl (w : World) (A : Option Addr) : Grew w A A := fun ad e => .inl ⟨ad, e, rfl⟩
theorem grew_next {w0 w1 w2 : World} {W : Nat} {A0 A1 A2 : Option Addr} (g1 : Grew w0 A0 A1) (k1 : Keep (foot W A0) w0 w1) (g2 : Grew w1 A1 A2) (k2 : Keep (foot W A1) w1 w2) : Grew w0 A0 A2 ∧ Keep (foot W A0) w0 w2 := by
  refine ⟨fun ad e => ?_, k1.trans k2 (fun i hi h => ?_)⟩
  · rcases g2 ad e with ⟨a1, e1, h⟩ | h
    · rcases g1 a1 e1 with ⟨a0, e0, h'⟩ | h'
      · exact .inl ⟨a0, e0, h'.trans h⟩
      · exact .inr (by omega)
    · exact .inr (Nat.le_trans k1.size h)
  · rcases h with h | ⟨a1, e1, h⟩
    · exact .inl h
    · rcases g1 a1 e1 with ⟨a0, e0, h'⟩ | h'
      · exact .inr ⟨a0, e0, by omega⟩
      · omega
theorem Grew.lift {w w' : World} {A A' : Option Addr} (h : Grew w' A A') (hs : w.heap.size ≤ w'.heap.size) : Grew w A A' := fun ad e => (h ad e).imp id (fun h => by omega)

set_option maxHeartbeats 1600000 in
theorem bit_0 (w : World) (base W : Nat) (A : Option Addr) (n c : Nat) (l : List Int) (x : Int) (h : Wr w base W A n c l 0) (hb : base ≤ w.heap.size) (hn : n ≤ 1099511627776) :
    Calls Try.prog 29 #[.pointer (some ⟨W, 0, none⟩), .int .i64 x] w fun e w' => ∃ A' c', e = .returned (.tuple #[]) ∧
      Wr w' base W A' (n + 1) c' ((l ++ [0]).set n (orB 0 x ((topM l).toNat - 1))) (topM l - 1) ∧ Grew w A A' ∧ Keep (foot W A) w w' := by
  have h0 : w.cell? ⟨W, 0, none⟩ = some (.slice A n c) := h.blk.cell 0
  have h1 : w.cell? ⟨W, 1, none⟩ = some (.int .i64 0) := h.blk.cell 1
  have f1 := h.blk.frozen 1
  have H := hid h
  have H8 := hid (h.room 8)
  by_cases hz : lastM l = 255
  · have HT := hid (show topM l = 7 from if_pos hz)
    have HZ := hid hz
    clear h hz
    go_enter Try.func29, Try.ntmps29
    go_wp2_with fail
    refine (last_any _ base W A n c l 8 H8.out hn).mono ?_
    rintro e w2 ⟨rfl, hk2⟩
    rw [HZ.out]
    have h21 : w2.cell? ⟨W, 1, none⟩ = some (.int .i64 8) := ((H8.out.keep hk2 (fun h => h) (fun _ _ h => h)).blk).cell 1
    have f21 : w2.frozen? ⟨W, 1, none⟩ = false := ((H8.out.keep hk2 (fun h => h) (fun _ _ h => h)).blk).frozen 1
    have H2 := hid ((H8.out.keep hk2 (fun h => h) (fun _ _ h => h)).room 7)
    have HKW := hid (((Keep.set1 w W 1 (.int .i64 8)).trans hk2 (fun _ _ h => h.elim)).setR 1 (.int .i64 7))
    have hs2 := hk2.size
    have hb : base ≤ w2.heap.size := by simp at hs2; omega
    clear hk2
    -- behind 'put': regions 5, 6
    go_wp2_with fail
    refine (rowput_any _ base W A n c l 7 0 H2.out (by simpa using hb) hn).mono ?_
    rintro e w3 ⟨A3, c3, rfl, H3, hG3, hk3⟩
    have h30 : w3.cell? ⟨W, 0, none⟩ = some (.slice A3 (n + 1) c3) := H3.blk.cell 0
    have h31 : w3.cell? ⟨W, 1, none⟩ = some (.int .i64 7) := H3.blk.cell 1
    have f31 := H3.blk.frozen 1
    obtain ⟨g, rfl, hgc, hgb, hgl, hgf⟩ := own_at H3.own (by omega)
    have g0 : w3.cell? ⟨g, n, none⟩ = some (.int .u8 0) := by
      have := hgl n _ (map_at _ _ n (by rw [H3.len]; omega))
      have e : (l ++ [0]).getD n 0 = 0 := by have := H.out.len; subst this; simp
      rw [e] at this
      exact this
    have fg := hgf n
    have hne : g ≠ W := fun e => own_ne H3.own H3.blk (by decide) (by rw [e]; rfl)
    have HH3 := hid H3
    have HG := hid hG3
    have HK := hid hk3
    clear H3 hG3 hk3 hgl hgf
    have w1' : IntKind.i64.wrap (((n + 1 : Nat) : Int) - 1) = (n : Int) := by rw [IntWalk.i64_in _ (by omega)]; omega
    go_wp2_with fail
    go_region
    go_end0
    refine ⟨some ⟨g, 0, none⟩, c3, rfl, ?_, ?_, ?_⟩
    · have := wr_bit (z := orB 0 x 6) HH3.out hne 6
      rw [HT.out]
      exact this
    · exact HG.out.lift (HKW.out.size)
    · refine Keep.drew (Keep.setCell ?_ (p := ⟨g, n, none⟩) ?_ _)
      · refine Keep.setCell ?_ (p := ⟨W, 1, none⟩) (.inl (.inl rfl)) _
        exact (HKW.out.mono (fun k _ h => .inl h)).trans HK.out (fun _ _ h => h)
      · rcases HG.out _ rfl with h | h
        · exact .inl (.inr h)
        · exact .inr (Nat.le_trans HKW.out.size h)
  · have HT := hid (show topM l = 8 from if_neg hz)
    have hz' : (lastM l == 255) = false := by simpa using hz
    clear h hz
    go_enter Try.func29, Try.ntmps29
    go_wp2_with fail
    refine (last_any _ base W A n c l 8 H8.out hn).mono ?_
    rintro e w2 ⟨rfl, hk2⟩
    generalize lastM l = z at *
    have H2 := hid (H8.out.keep hk2 (fun h => h) (fun _ _ h => h))
    have HKW := hid ((Keep.set1 w W 1 (.int .i64 8)).trans hk2 (fun _ _ h => h.elim))
    have hs2 := hk2.size
    have hb : base ≤ w2.heap.size := by simp at hs2; omega
    clear hk2
    -- behind 'put': regions 5, 6
    go_wp2_with fail
    refine (rowput_any _ base W A n c l 8 0 H2.out (by simpa using hb) hn).mono ?_
    rintro e w3 ⟨A3, c3, rfl, H3, hG3, hk3⟩
    have h30 : w3.cell? ⟨W, 0, none⟩ = some (.slice A3 (n + 1) c3) := H3.blk.cell 0
    have h31 : w3.cell? ⟨W, 1, none⟩ = some (.int .i64 8) := H3.blk.cell 1
    have f31 := H3.blk.frozen 1
    obtain ⟨g, rfl, hgc, hgb, hgl, hgf⟩ := own_at H3.own (by omega)
    have g0 : w3.cell? ⟨g, n, none⟩ = some (.int .u8 0) := by
      have := hgl n _ (map_at _ _ n (by rw [H3.len]; omega))
      have e : (l ++ [0]).getD n 0 = 0 := by have := H.out.len; subst this; simp
      rw [e] at this
      exact this
    have fg := hgf n
    have hne : g ≠ W := fun e => own_ne H3.own H3.blk (by decide) (by rw [e]; rfl)
    have HH3 := hid H3
    have HG := hid hG3
    have HK := hid hk3
    clear H3 hG3 hk3 hgl hgf
    have w1' : IntKind.i64.wrap (((n + 1 : Nat) : Int) - 1) = (n : Int) := by rw [IntWalk.i64_in _ (by omega)]; omega
    go_wp2_with fail
    go_region
    go_end0
    refine ⟨some ⟨g, 0, none⟩, c3, rfl, ?_, ?_, ?_⟩
    · have := wr_bit (z := orB 0 x 7) HH3.out hne 7
      rw [HT.out]
      exact this
    · exact HG.out.lift (HKW.out.size)
    · refine Keep.drew (Keep.setCell ?_ (p := ⟨g, n, none⟩) ?_ _)
      · refine Keep.setCell ?_ (p := ⟨W, 1, none⟩) (.inl (.inl rfl)) _
        exact (HKW.out.mono (fun k _ h => .inl h)).trans HK.out (fun _ _ h => h)
      · rcases HG.out _ rfl with h | h
        · exact .inl (.inr h)
        · exact .inr (Nat.le_trans HKW.out.size h)

theorem bit_any (w : World) (base W : Nat) (A : Option Addr) (n c : Nat) (l : List Int) (r x : Int) (h : Wr w base W A n c l r) (hi : BInv l r) (hb : base ≤ w.heap.size) (hn : n ≤ 1099511627776) :
    Calls Try.prog 29 #[.pointer (some ⟨W, 0, none⟩), .int .i64 x] w fun e w' => ∃ A' n' c', e = .returned (.tuple #[]) ∧
      Wr w' base W A' n' c' (stepL l r x) (stepR l r) ∧ Grew w A A' ∧ Keep (foot W A) w w' := by
  by_cases hr : r = 0
  · subst hr
    refine (bit_0 w base W A n c l x h hb hn).mono ?_
    rintro e w' ⟨A', c', rfl, h', hg, hk⟩
    refine ⟨A', n + 1, c', rfl, ?_, hg, hk⟩
    unfold stepL stepR
    rw [if_pos rfl, if_pos rfl]
    have ht := top_le l
    have e1 : orB 0 x ((topM l).toNat - 1) = x % 2 * 2 ^ ((topM l).toNat - 1) := by
      unfold orB
      rw [orB_add 0 x _ (by omega) (by omega) (by omega) (by simp)]
      omega
    rw [e1] at h'
    have e2 : (l ++ [0]).set n (x % 2 * 2 ^ ((topM l).toNat - 1)) = l ++ [x % 2 * 2 ^ ((topM l).toNat - 1)] := by
      have := h.len
      subst this
      simp [List.set_append]
    rw [e2] at h'
    exact h'
  · have h0 := hi.r0
    have hl := hi.some_ (by omega)
    have hbb := lastM_byte hi.bytes
    refine (bit_r w base W A n c l r x h hb hn (by omega) (by have := hi.r7; omega) (by rw [← h.len]; exact hl)).mono ?_
    rintro e w' ⟨rfl, h', hk⟩
    refine ⟨A, n, c, rfl, ?_, Grew.refl w A, hk⟩
    unfold stepL stepR
    rw [if_neg hr, if_neg hr]
    have hlow := hi.low
    have h7 := hi.r7
    have e0 : r.toNat = r.toNat - 1 + 1 := by omega
    rw [e0] at hlow
    have e1 : orB (lastM l) x (r.toNat - 1) = lastM l + x % 2 * 2 ^ (r.toNat - 1) := by
      unfold orB
      exact orB_add _ x _ hbb.1 hbb.2 (by omega) hlow
    rw [e1] at h'
    rw [h.len]
    exact h'

set_option maxHeartbeats 800000 in
theorem bytes_any (w : World) (base W : Nat) (A : Option Addr) (n c : Nat) (l : List Int) (r : Int) (h : Wr w base W A n c l r) (hn : n ≤ 1073741824) :
    Calls Try.prog 14 #[.pointer (some ⟨W, 0, none⟩)] w fun e w' => ∃ A' n' c', e = .returned (.slice A' n' c') ∧
      w'.ownsRow w.heap.size 5 1 (.slice A' n' c') n' ((outB l).map (Value.int .u8)) ∧ Keep (fun _ => False) w w' := by
  obtain ⟨i0, hi0, hz0, hz1, hz2⟩ := info_parts info_u8
  have h0 : w.cell? ⟨W, 0, none⟩ = some (.slice A n c) := h.blk.cell 0
  have H := hid h
  have hrd := Rd.of_own h.own
  clear h
  go_enter Try.func14, Try.ntmps14
  go_wp2_with fail
  refine (clone_any A n c l w hrd (by omega)).mono ?_
  rintro e w1 ⟨v1, rfl, hown1, hk1⟩
  obtain ⟨A1, c1, rfl⟩ := own_form hown1
  have H1 := hid (H.out.keep hk1 (fun h => h) (fun _ _ h => h))
  go_wp2_with fail
  refine (last_any w1 base W A n c l r H1.out (by omega)).mono ?_
  rintro e w2 ⟨rfl, hk2⟩
  have hown2 := own_keep hown1 hk2 (fun _ _ h => h)
  have hk := hk1.trans hk2 (fun _ _ h => h)
  have hs := hk.size
  have HK := hid hk
  clear hk1 hk2 hown1 H1 hk
  by_cases hz : lastM l = 255
  · rw [hz]
    have HO := hid (show outB l = l ++ [0] from if_pos hz)
    clear hz
    go_wp2_with (
      at_builtin
      go_must (refine wpList_append_one w2 rfl (.tmp 15) (.tmp 16) _ rfl w.heap.size 5 i0 _ 1 Try.underlying31 hi0 hz0 hz1 hz2 rfl hown2 rfl _ rfl rfl (by simp only [maxLen]; omega) (by omega) (by omega) ?_)
      intro v3 w3 hown3 hg3 hat3 _hold3
      obtain ⟨A3, c3, rfl⟩ := own_form hown3)
    have hk3 : Keep (fun _ => False) w w3 := (HK.out.alloc _).grown hg3 (fun k hk => .inr (hown2.lt k hk).1)
    have hr3 : Rd w3 A3 (n + 1) ((outB l).map (Value.int .u8)) := by
      rw [HO.out, List.map_append]
      exact Rd.of_own hown3
    clear hown3 hg3 hat3 hown2
    refine (clone_any A3 (n + 1) c3 (outB l) w3 hr3 (by omega)).mono ?_
    rintro e w4 ⟨v4, rfl, hown4, hk4⟩
    obtain ⟨A4, c4, rfl⟩ := own_form hown4
    go_wp2_with fail
    go_ret
    exact ⟨A4, n + 1, c4, rfl, own_mono hown4 hk3.size, hk3.trans hk4 (fun _ _ h => h)⟩
  · have HO := hid (show outB l = l from if_neg hz)
    have hz' : (lastM l == 255) = false := by simpa using hz
    clear hz
    generalize lastM l = z at *
    go_wp2_with fail
    refine (clone_any A1 n c1 l w2 (Rd.of_own hown2) (by omega)).mono ?_
    rintro e w4 ⟨v4, rfl, hown4, hk4⟩
    obtain ⟨A4, c4, rfl⟩ := own_form hown4
    go_wp2_with fail
    go_ret
    exact ⟨A4, n, c4, rfl, by rw [HO.out]; exact own_mono hown4 hs, HK.out.trans hk4 (fun _ _ h => h)⟩

set_option maxHeartbeats 400000 in
theorem neww_any (w : World) :
    Calls Try.prog 10 #[] w fun e w' => ∃ W, e = .returned (.pointer (some ⟨W, 0, none⟩)) ∧ w.heap.size ≤ W ∧ Wr w' w.heap.size W none 0 0 [] 0 ∧ Keep (fun _ => False) w w' := by
  go_enter Try.func10, Try.ntmps10
  go_wp2_with fail
  go_ret
  exact ⟨w.heap.size, rfl, Nat.le_refl _, ⟨Blk.new _ _ _, World.ownsRow_nil _ _ _ _⟩, (Keep.refl _ w).alloc _⟩

end Go.Proofs.Ytbkffpedigeflaa
