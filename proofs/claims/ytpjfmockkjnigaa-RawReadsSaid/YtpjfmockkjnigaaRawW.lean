/-
  The program's writer of raw bits: what it holds, and what each of its methods does. Conditions: at most 2^40 bytes are written.
-/
import Derived.Test.YtpjfmockkjnigaaClone
import Derived.Test.YtpjfmockkjnigaaBitModel
import Derived.Test.YtpjfmockkjnigaaRegion
import Derived.Deep.QuietTactic
import Derived.BigQuiet
namespace Go.Proofs.Ytpjfmockkjnigaa
open Go.RowKit

/-- The writer at block W: bytes l (at A, with n and c), room. -/
structure Wr (w : World) (base W : Nat) (A : Option Addr) (n c : Nat) (l : List Int) (r : Int) : Prop where
  blk : Blk w W 45 #[.slice A n c, .int .i64 r]
  own : w.ownsRow base 5 1 (.slice A n c) n (l.map (Value.int .u8))

theorem Wr.len {w : World} {base W : Nat} {A : Option Addr} {n c : Nat} {l : List Int} {r : Int} (h : Wr w base W A n c l r) : l.length = n := by have := h.own.1; simpa using this

set_option maxHeartbeats 400000 in
theorem last_any (w : World) (base W : Nat) (A : Option Addr) (n c : Nat) (l : List Int) (r : Int) (h : Wr w base W A n c l r) (hn : n ≤ 1099511627776) :
    Calls Try.prog 24 #[.pointer (some ⟨W, 0, none⟩)] w fun e w' => e = .returned (.int .u8 (lastM l)) ∧ Keep (fun _ => False) w w' := by
  have h0 : w.cell? ⟨W, 0, none⟩ = some (.slice A n c) := h.blk.cell 0
  by_cases hn0 : n = 0
  · subst hn0
    have hl : lastM l = 0 := by rw [List.eq_nil_of_length_eq_zero h.len]; rfl
    have HL := hid hl
    clear h hl
    go_enter Try.func24, Try.ntmps24
    go_wp2
    go_ret
    exact ⟨by rw [HL.out]; rfl, Keep.refl _ _⟩
  · obtain ⟨g, rfl, hgc, hgb, hgl, hgf⟩ := own_at h.own (by omega)
    have g0 : w.cell? ⟨g, n - 1, none⟩ = some (.int .u8 (lastM l)) := by
      have := hgl (n - 1) _ (map_at _ _ (n - 1) (by rw [h.len]; omega))
      unfold lastM
      rw [h.len]
      exact this
    clear h hgl hgf
    generalize lastM l = z at *
    obtain ⟨m, rfl⟩ : ∃ m, n = m + 1 := ⟨n - 1, by omega⟩
    simp only [Nat.add_sub_cancel] at g0
    have w1 : IntKind.i64.wrap (((m + 1 : Nat) : Int) - 1) = (m : Int) := by rw [IntWalk.i64_in _ (by omega)]; omega
    go_enter Try.func24, Try.ntmps24
    go_wp2
    go_quiet (fail)
    go_wp2
    go_ret
    exact ⟨rfl, (Keep.refl _ _).drewN _⟩

/-- How many bits a byte has behind another one. -/
def roomM (z : Int) : Int := if z = 255 then 7 else 8
set_option maxHeartbeats 400000 in
theorem begin_any (w : World) (W : Nat) (t : TypeId) (cs : Array Value) (v : Value) (z : Int) (h : Blk w W t cs) (hv : cs[1]? = some v) :
    Calls Try.prog 23 #[.pointer (some ⟨W, 0, none⟩), .int .u8 z] w fun e w' => e = .returned (.tuple #[]) ∧ Blk w' W t (cs.setIfInBounds 1 (.int .i64 (roomM z))) ∧ Keep (fun k => k = W) w w' := by
  have h1 : w.cell? ⟨W, 1, none⟩ = some v := (h.cell 1).trans hv
  have f1 := h.frozen 1
  have H := hid h
  by_cases hz : z = 255
  · have HR := hid (show roomM z = 7 from if_pos hz)
    subst hz
    clear h
    go_enter Try.func23, Try.ntmps23
    go_wp2_with fail
    go_end0
    refine ⟨rfl, ?_, ((Keep.refl _ w).setR 1 _).setR 1 _⟩
    rw [HR.out]
    have := (H.out.set_ 1 (.int .i64 8)).set_ 1 (.int .i64 7)
    rwa [Array.setIfInBounds_setIfInBounds] at this
  · have HR := hid (show roomM z = 8 from if_neg hz)
    have hz' : (z == 255) = false := by simpa using hz
    clear h hz
    go_enter Try.func23, Try.ntmps23
    go_wp2_with fail
    go_end0
    refine ⟨rfl, ?_, (Keep.refl _ w).setR 1 _⟩
    rw [HR.out]
    exact H.out.set_ 1 (.int .i64 8)

/-- The blocks of a writer: its own, its bytes'. -/
def foot (W : Nat) (A : Option Addr) (k : Nat) : Prop := k = W ∨ ∃ ad, A = some ad ∧ ad.block = k
/-- The bytes lie where they lay, or in a new block. -/
def Grew (w : World) (A A' : Option Addr) : Prop := ∀ ad', A' = some ad' → (∃ ad, A = some ad ∧ ad.block = ad'.block) ∨ w.heap.size ≤ ad'.block
theorem own_foot {A : Option Addr} {n c : Nat} {k : Nat} (h : (Value.slice A n c).ownBlock = some k) : ∃ ad, A = some ad ∧ ad.block = k := by
  cases A with
  | none => simp [Value.ownBlock] at h
  | some a => exact ⟨a, rfl, by simpa [Value.ownBlock] using h⟩
theorem Grew.of {w : World} {A A' : Option Addr} {n n' c c' m : Nat} (h : (Value.slice A' n' c').ownBlock = (Value.slice A n c).ownBlock ∨ (Value.slice A' n' c').ownBlock = some m) (hm : w.heap.size ≤ m) : Grew w A A' := by
  intro ad' e
  subst e
  rcases h with h | h
  · have : (Value.slice A n c).ownBlock = some ad'.block := by rw [← h]; rfl
    exact .inl (own_foot this)
  · simp [Value.ownBlock] at h
    exact .inr (by omega)
theorem Grew.refl (w : World) (A : Option Addr) : Grew w A A := fun ad e => .inl ⟨ad, e, rfl⟩
theorem grew_next {w0 w1 w2 : World} {W : Nat} {A0 A1 A2 : Option Addr} (g1 : Grew w0 A0 A1) (k1 : Keep (foot W A0) w0 w1) (g2 : Grew w1 A1 A2) (k2 : Keep (foot W A1) w1 w2) : Grew w0 A0 A2 ∧ Keep (foot W A0) w0 w2 := by
  refine ⟨fun ad e => ?_, k1.trans k2 (fun i hi h => ?_)⟩
  · rcases g2 ad e with ⟨a1, e1, h⟩ | h
    · rcases g1 a1 e1 with ⟨a0, e0, h'⟩ | h'
      · exact .inl ⟨a0, e0, h'.trans h⟩
      · exact .inr (by omega)
    · exact .inr (Nat.le_trans k1.size h)
  · rcases h with h | ⟨a1, e1, h⟩
    · exact .inl h
    · rcases g1 a1 e1 with ⟨a0, e0, h'⟩ | h'
      · exact .inr ⟨a0, e0, by omega⟩
      · omega
theorem Grew.lift {w w' : World} {A A' : Option Addr} (h : Grew w' A A') (hs : w.heap.size ≤ w'.heap.size) : Grew w A A' := fun ad e => (h ad e).imp id (fun h => by omega)

/-- A byte with a bit more. -/
def orB (z x : Int) (t : Nat) : Int := bits .or .u8 z (bits .and .i64 x 1 % 256 * 2 ^ t % 256)

theorem wr_bit {w : World} {base W g m c : Nat} {l : List Int} {r z : Int} (h : Wr w base W (some ⟨g, 0, none⟩) (m + 1) c l r) (hne : g ≠ W) (r' : Int) :
    Wr ((w.setCell ⟨W, 1, none⟩ (.int .i64 r')).setCell ⟨g, m, none⟩ (.int .u8 z)).drew base W (some ⟨g, 0, none⟩) (m + 1) c (l.set m z) r' := by
  refine ⟨?_, ?_⟩
  · have := (h.blk.set_ 1 (.int .i64 r')).far (p := ⟨g, m, none⟩) (Ne.symm hne) (.int .u8 z)
    exact this.drew
  · have h1 := own_keep h.own (Keep.set1 w W 1 (.int .i64 r')) (fun k e hk => hne (by simp [Value.ownBlock] at e; omega))
    have := World.ownsRow.stored h1 m (.int .u8 z)
    rw [← List.map_set] at this
    exact this.1

set_option maxHeartbeats 800000 in
theorem bit_r (w : World) (base W : Nat) (A : Option Addr) (n c : Nat) (l : List Int) (r x : Int) (h : Wr w base W A n c l r) (hb : base ≤ w.heap.size) (hn : n ≤ 1099511627776) (hr0 : 0 < r) (hr8 : r ≤ 8) (hl : 0 < n) :
    Calls Try.prog 13 #[.pointer (some ⟨W, 0, none⟩), .int .i64 x] w fun e w' => e = .returned (.tuple #[]) ∧ Wr w' base W A n c (l.set (n - 1) (orB (lastM l) x (r.toNat - 1))) (r - 1) ∧ Keep (foot W A) w w' := by
  have h0 : w.cell? ⟨W, 0, none⟩ = some (.slice A n c) := h.blk.cell 0
  have h1 : w.cell? ⟨W, 1, none⟩ = some (.int .i64 r) := h.blk.cell 1
  have f1 := h.blk.frozen 1
  have hr' : (r == 0) = false := by simp; omega
  have H := hid h
  obtain ⟨g, rfl, hgc, hgb, hgl, hgf⟩ := own_at h.own (by omega)
  have g0 : w.cell? ⟨g, n - 1, none⟩ = some (.int .u8 (lastM l)) := by
    have := hgl (n - 1) _ (map_at _ _ (n - 1) (by rw [h.len]; omega))
    unfold lastM
    rw [h.len]
    exact this
  have fg := hgf (n - 1)
  have hne : g ≠ W := fun e => own_ne h.own h.blk (by decide) (by rw [e]; rfl)
  clear h hgl hgf
  generalize hz : lastM l = z at *
  obtain ⟨m, rfl⟩ : ∃ m, n = m + 1 := ⟨n - 1, by omega⟩
  simp only [Nat.add_sub_cancel] at g0 fg
  have w1 : IntKind.i64.wrap (((m + 1 : Nat) : Int) - 1) = (m : Int) := by rw [IntWalk.i64_in _ (by omega)]; omega
  go_enter Try.func13, Try.ntmps13
  go_wp2_with fail
  go_region
  go_end0
  refine ⟨rfl, ?_, ?_⟩
  · have := wr_bit (z := orB z x (r.toNat - 1)) H.out hne (r - 1)
    exact this
  · refine Keep.drew (Keep.setCell ?_ (p := ⟨g, m, none⟩) (.inl (.inr ⟨_, rfl, rfl⟩)) _)
    exact (Keep.set1 w W 1 _).mono (fun k _ hk => .inl hk)

theorem Wr.keep {w w' : World} {base W : Nat} {A : Option Addr} {n c : Nat} {l : List Int} {r : Int} (h : Wr w base W A n c l r) {S : Nat → Prop} (hk : Keep S w w') (hW : ¬ S W) (hA : ∀ ad, A = some ad → ¬ S ad.block) : Wr w' base W A n c l r :=
  ⟨h.blk.keep hk hW, own_keep h.own hk (fun k e hs => by
    obtain ⟨ad, rfl, rfl⟩ := own_foot e
    exact hA ad rfl hs)⟩
theorem Wr.blk_ {w w' : World} {base W : Nat} {A : Option Addr} {n c : Nat} {l : List Int} {r r' : Int} (h : Wr w base W A n c l r) (hk : Keep (fun k => k = W) w w') (hb : Blk w' W 45 #[.slice A n c, .int .i64 r']) : Wr w' base W A n c l r' :=
  ⟨hb, own_keep h.own hk (fun k e hk => own_ne h.own h.blk (by decide) (by rw [e, hk]))⟩

set_option maxHeartbeats 1600000 in
theorem bit_0 (w : World) (base W : Nat) (A : Option Addr) (n c : Nat) (l : List Int) (x : Int) (h : Wr w base W A n c l 0) (hb : base ≤ w.heap.size) (hn : n ≤ 1099511627776) :
    Calls Try.prog 13 #[.pointer (some ⟨W, 0, none⟩), .int .i64 x] w fun e w' => e = .returned (.tuple #[]) ∧ ∃ A', (∃ c',
      Wr w' base W A' (n + 1) c' ((l ++ [0]).set n (orB 0 x ((topM l).toNat - 1))) (topM l - 1)) ∧ Grew w A A' ∧ Keep (foot W A) w w' := by
  obtain ⟨i0, hi0, hz0, hz1, hz2⟩ := info_parts info_u8
  have h0 : w.cell? ⟨W, 0, none⟩ = some (.slice A n c) := h.blk.cell 0
  have h1 : w.cell? ⟨W, 1, none⟩ = some (.int .i64 0) := h.blk.cell 1
  have H := hid h
  have ht := top_le l
  have HT := hid (show roomM (lastM l) = topM l from rfl)
  clear h
  go_enter Try.func13, Try.ntmps13
  go_wp2_with fail
  -- region 1: 6 operations
  refine At.start (L := #[false, false, false, false, false, false]) (by kernel_rfl) rfl ?_
  refine At.pure 0 (some 10) (v := ?v0) rfl rfl (by kernel_rfl) (fun _ _ _ h => h) rfl (fun w' => ?y0) ?_   
  case y0 => go_simp; try with_reducible rfl
  try simp only [Act.put, List.setIfInBounds_toArray, List.set_cons_zero, List.set_cons_succ]
  refine At.pure 1 (some 11) (v := ?v1) rfl rfl (by kernel_rfl) (fun _ _ _ h => h) rfl (fun w' => ?y1) ?_   
  case y1 => go_simp; try with_reducible rfl
  try simp only [Act.put, List.setIfInBounds_toArray, List.set_cons_zero, List.set_cons_succ]
  refine At.pure 2 (some 12) (v := ?v2) rfl rfl (by kernel_rfl) (fun _ _ _ h => h) rfl (fun w' => ?y2) ?_   
  case y2 => go_simp; try with_reducible rfl
  try simp only [Act.put, List.setIfInBounds_toArray, List.set_cons_zero, List.set_cons_succ]
  refine At.pure 3 (some 13) (v := ?v3) rfl rfl (by kernel_rfl) (fun _ _ _ h => h) rfl (fun w' => ?y3) ?_   
  case y3 => go_simp; try with_reducible rfl
  try simp only [Act.put, List.setIfInBounds_toArray, List.set_cons_zero, List.set_cons_succ]
  refine At.call 4 (pend' := []) rfl (by kernel_rfl) rfl (by kernel_rfl) (fun K hK => ?_)   
  go_simp
  refine (last_any _ base W A n c l 0 (H.out.keep (Keep.refl (fun _ => False) w).drew (fun h => h) (fun _ _ h => h)) hn).mono ?_
  rintro e w2 ⟨rfl, hk2⟩
  have HW2 := hid ((H.out.keep (Keep.refl (fun _ => False) w).drew (fun h => h) (fun _ _ h => h)).keep hk2 (fun h => h) (fun _ _ h => h))
  refine hK _ _ all_nil ?_
  clear hK K
  try simp only [Act.put, List.setIfInBounds_toArray, List.set_cons_zero, List.set_cons_succ]
  refine At.call 5 (pend' := []) rfl (by kernel_rfl) rfl (by kernel_rfl) (fun K hK => ?_)   
  go_simp
  refine (begin_any w2 W 45 #[.slice A n c, .int .i64 0] _ (lastM l) HW2.out.blk rfl).mono ?_
  rintro e w3 ⟨rfl, hb3, hk3⟩
  rw [HT.out] at hb3
  have HW3 := hid (HW2.out.blk_ hk3 hb3)
  have HK3 := hid (show Keep (fun k => k = W) w w3 from ((hk2.mono (fun _ _ h => h.elim)).trans hk3 (fun _ _ h => h)).undrew)
  clear hb3 hk3 hk2
  refine hK _ _ all_nil ?_
  clear hK K
  try simp only [Act.put, List.setIfInBounds_toArray, List.set_cons_zero, List.set_cons_succ]
  refine At.done (by kernel_rfl) ?_
  have c30 : w3.cell? ⟨W, 0, none⟩ = some (.slice A n c) := HW3.out.blk.cell 0
  have c31 : w3.cell? ⟨W, 1, none⟩ = some (.int .i64 (topM l)) := HW3.out.blk.cell 1
  have hs3 := HK3.out.size
  generalize hte : topM l = t at *
  have HTE := hid hte
  clear hte
  generalize lastM l = z at *
  go_wp2_with (
    at_builtin
    refine wpList_append_one w3 rfl (.tmp 21) (.tmp 22) _ rfl base 5 i0 _ 1 Try.underlying30 hi0 hz0 hz1 hz2 rfl HW3.out.own rfl _ rfl rfl (by simp only [maxLen]; omega) (by omega) (by omega) ?_
    intro v4 w4 hown4 hg4 hat4 _hold4
    obtain ⟨A4, c4, rfl⟩ := own_form hown4
    have hne := own_ne HW3.out.own HW3.out.blk (by decide)
    have b4 := (HW3.out.blk.alloc (.cells #[.int .u8 0] 5)).grown hg4 (Ne.symm hne)
    have c40 : w4.cell? ⟨W, 0, none⟩ = some (.slice A n c) := b4.cell 0
    have c41 : w4.cell? ⟨W, 1, none⟩ = some (.int .i64 t) := b4.cell 1
    have f40 := b4.frozen 0
    have f41 := b4.frozen 1
    obtain ⟨g, rfl, hgc, hgb, hgl, hgf⟩ := own_at hown4 (by omega)
    have hgW : g ≠ W := fun e => own_ne hown4 b4 (by decide) (by rw [e]; rfl)
    have g0 : w4.cell? ⟨g, n, none⟩ = some (.int .u8 0) := hgl n _ (by have := HW3.out.len; subst this; simp)
    have fg := hgf n
    have HW4 := hid (show Wr (w4.setCell ⟨W, 0, none⟩ (.slice (some ⟨g, 0, none⟩) (n + 1) c4)) base W (some ⟨g, 0, none⟩) (n + 1) c4 (l ++ [0]) t from ⟨b4.set_ 0 _, by
      have := own_keep hown4 (Keep.set1 w4 W 0 (.slice (some ⟨g, 0, none⟩) (n + 1) c4)) (fun k e hk => own_ne hown4 b4 (by decide) (by rw [e, hk]))
      simpa using this⟩)
    have HK4 := hid (show Keep (foot W A) w (w4.setCell ⟨W, 0, none⟩ (.slice (some ⟨g, 0, none⟩) (n + 1) c4)) from Keep.setCell ((HK3.out.mono (fun k _ h => .inl h)).trans (((Keep.refl (foot W A) w3).alloc _).grown hg4 (fun k hk => .inl (.inr (own_foot hk)))) (fun _ _ h => h)) (p := ⟨W, 0, none⟩) (.inl (.inl rfl)) _)
    have HG4 := hid (show Grew w A (some ⟨g, 0, none⟩) from Grew.of hat4 (by omega))
    clear b4 hown4 hg4 hat4 _hold4 hgl hgf hne)
  have w1' : IntKind.i64.wrap (((n + 1 : Nat) : Int) - 1) = (n : Int) := by rw [IntWalk.i64_in _ (by omega)]; omega
  go_region
  go_end0
  refine ⟨rfl, some ⟨g, 0, none⟩, ⟨c4, ?_⟩, HG4.out, ?_⟩
  · rw [HTE.out]
    exact wr_bit (z := orB 0 x (t.toNat - 1)) HW4.out hgW (t - 1)
  · refine Keep.drew (Keep.setCell (Keep.setCell HK4.out (p := ⟨W, 1, none⟩) (.inl (.inl rfl)) _) (p := ⟨g, n, none⟩) ?_ _)
    rcases HG4.out _ rfl with h | h
    · exact .inl (.inr h)
    · exact .inr h

theorem bit_any (w : World) (base W : Nat) (A : Option Addr) (n c : Nat) (l : List Int) (r x : Int) (h : Wr w base W A n c l r) (hi : BInv l r) (hb : base ≤ w.heap.size) (hn : n ≤ 1099511627776) :
    Calls Try.prog 13 #[.pointer (some ⟨W, 0, none⟩), .int .i64 x] w fun e w' => e = .returned (.tuple #[]) ∧ ∃ A', (∃ n' c',
      Wr w' base W A' n' c' (stepL l r x) (stepR l r)) ∧ Grew w A A' ∧ Keep (foot W A) w w' := by
  by_cases hr : r = 0
  · subst hr
    refine (bit_0 w base W A n c l x h hb hn).mono ?_
    rintro e w' ⟨rfl, A', ⟨c', h'⟩, hg, hk⟩
    refine ⟨rfl, A', ⟨n + 1, c', ?_⟩, hg, hk⟩
    unfold stepL stepR
    rw [if_pos rfl, if_pos rfl]
    have ht := top_le l
    have e1 : orB 0 x ((topM l).toNat - 1) = x % 2 * 2 ^ ((topM l).toNat - 1) := by
      unfold orB
      rw [orB_add 0 x _ (by omega) (by omega) (by omega) (by simp)]
      omega
    rw [e1] at h'
    have e2 : (l ++ [0]).set n (x % 2 * 2 ^ ((topM l).toNat - 1)) = l ++ [x % 2 * 2 ^ ((topM l).toNat - 1)] := by
      have := h.len
      subst this
      simp [List.set_append]
    rw [e2] at h'
    exact h'
  · have h0 := hi.r0
    have hl := hi.some_ (by omega)
    have hbb := lastM_byte hi.bytes
    refine (bit_r w base W A n c l r x h hb hn (by omega) (by have := hi.r7; omega) (by rw [← h.len]; exact hl)).mono ?_
    rintro e w' ⟨rfl, h', hk⟩
    refine ⟨rfl, A, ⟨n, c, ?_⟩, Grew.refl w A, hk⟩
    unfold stepL stepR
    rw [if_neg hr, if_neg hr]
    have hlow := hi.low
    have h7 := hi.r7
    have e0 : r.toNat = r.toNat - 1 + 1 := by omega
    rw [e0] at hlow
    have e1 : orB (lastM l) x (r.toNat - 1) = lastM l + x % 2 * 2 ^ (r.toNat - 1) := by
      unfold orB
      exact orB_add _ x _ hbb.1 hbb.2 (by omega) hlow
    rw [e1] at h'
    rw [h.len]
    exact h'

set_option maxHeartbeats 400000 in
theorem out_any (w : World) (base W : Nat) (A : Option Addr) (n c : Nat) (l : List Int) (r : Int) (h : Wr w base W A n c l r) :
    Calls Try.prog 15 #[.pointer (some ⟨W, 0, none⟩)] w fun e w' => e = .returned (.int .i64 l.length) ∧ w = w' := by
  have h0 : w.cell? ⟨W, 0, none⟩ = some (.slice A n c) := h.blk.cell 0
  have hl := hid h.len
  clear h
  go_enter Try.func15, Try.ntmps15
  go_wp2_with fail
  go_ret
  exact ⟨by rw [hl.out]; rfl, rfl⟩

def flushM (l : List Int) : List Int := if lastM l = 255 then l.dropLast else l
theorem flushM_le (l : List Int) : (flushM l).length ≤ l.length := by unfold flushM; split <;> simp
set_option maxHeartbeats 400000 in
theorem flush_any (w : World) (base W : Nat) (A : Option Addr) (n c : Nat) (l : List Int) (r : Int) (h : Wr w base W A n c l r) (hn : n ≤ 1099511627776) :
    Calls Try.prog 17 #[.pointer (some ⟨W, 0, none⟩)] w fun e w' => ∃ A' n' c', e = .returned (.slice A' n' c') ∧
      w'.ownsRow w.heap.size 5 1 (.slice A' n' c') n' ((flushM l).map (Value.int .u8)) ∧ Keep (fun _ => False) w w' := by
  have h0 : w.cell? ⟨W, 0, none⟩ = some (.slice A n c) := h.blk.cell 0
  have H := hid h
  clear h
  by_cases hz : lastM l = 255
  · have HZ := hid hz
    have HF := hid (show flushM l = l.dropLast from if_pos hz)
    have hn0 : 0 < n := by
      rcases Nat.eq_zero_or_pos n with h0 | h0
      · rw [List.eq_nil_of_length_eq_zero (H.out.len.trans h0)] at hz
        exact absurd hz (by decide)
      · exact h0
    obtain ⟨m, rfl⟩ : ∃ m, n = m + 1 := ⟨n - 1, by omega⟩
    obtain ⟨g, rfl, hgc, hgb, _⟩ := own_at H.out.own (by omega)
    have w1 : IntKind.i64.wrap (((m + 1 : Nat) : Int) - 1) = (m : Int) := by rw [IntWalk.i64_in _ (by omega)]; omega
    clear hz
    go_enter Try.func17, Try.ntmps17
    go_wp2_with fail
    refine (last_any w base W _ (m + 1) c l r H.out hn).mono ?_
    rintro e w2 ⟨rfl, hk2⟩
    rw [HZ.out]
    have hr2 : Rd w2 (some ⟨g, 0, none⟩) m (l.dropLast.map (Value.int .u8)) := by
      have := ((Rd.of_own H.out.own).keep hk2 (fun _ _ h => h)).take (k := m) (by omega)
      rw [← List.map_take] at this
      have e : l.take m = l.dropLast := by rw [List.dropLast_eq_take, H.out.len]; rfl
      rwa [e] at this
    have hcm : (m : Int) ≤ c := by omega
    go_wp2_with fail
    refine (clone_any (some ⟨g, 0, none⟩) m c l.dropLast w2 hr2 (by omega)).mono ?_
    rintro e w4 ⟨v4, rfl, hown4, hk4⟩
    obtain ⟨A4, c4, rfl⟩ := own_form hown4
    go_wp2_with fail
    go_ret
    exact ⟨A4, m, c4, rfl, by rw [HF.out]; exact own_mono hown4 hk2.size, hk2.trans hk4 (fun _ _ h => h)⟩
  · have HF := hid (show flushM l = l from if_neg hz)
    have hz' : (lastM l == 255) = false := by simpa using hz
    clear hz
    go_enter Try.func17, Try.ntmps17
    go_wp2_with fail
    refine (last_any w base W A n c l r H.out hn).mono ?_
    rintro e w2 ⟨rfl, hk2⟩
    generalize lastM l = z at *
    go_wp2_with fail
    refine (clone_any A n c l w2 ((Rd.of_own H.out.own).keep hk2 (fun _ _ h => h)) (by omega)).mono ?_
    rintro e w4 ⟨v4, rfl, hown4, hk4⟩
    obtain ⟨A4, c4, rfl⟩ := own_form hown4
    go_wp2_with fail
    go_ret
    exact ⟨A4, n, c4, rfl, by rw [HF.out]; exact own_mono hown4 hk2.size, hk2.trans hk4 (fun _ _ h => h)⟩

set_option maxHeartbeats 400000 in
theorem neww_any (w : World) :
    Calls Try.prog 11 #[] w fun e w' => ∃ W, e = .returned (.pointer (some ⟨W, 0, none⟩)) ∧ w.heap.size ≤ W ∧ Wr w' w.heap.size W none 0 0 [] 0 ∧ Keep (fun _ => False) w w' := by
  go_enter Try.func11, Try.ntmps11
  go_wp2_with fail
  go_ret
  exact ⟨w.heap.size, rfl, Nat.le_refl _, ⟨Blk.new _ _ _, World.ownsRow_nil _ _ _ _⟩, (Keep.refl _ w).alloc _⟩
end Go.Proofs.Ytpjfmockkjnigaa
