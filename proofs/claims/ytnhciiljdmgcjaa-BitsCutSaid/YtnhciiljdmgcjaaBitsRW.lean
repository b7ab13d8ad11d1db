/-
  The reference's writer of bits, told by the program's state. Conditions: at most 2^30 bytes are written.
-/
import Derived.Test.YtnhciiljdmgcjaaBitsW
namespace Go.Proofs.Ytnhciiljdmgcjaa
open Go.RowKit

def refB (l : List Int) (r : Int) : List Int := if r = 0 then l else l.dropLast
def curM (l : List Int) (r : Int) : Int := if r = 0 then 0 else lastM l
def freeM (l : List Int) (r : Int) : Int := if r = 0 then topM l else r

/-- The writer at block W: whole bytes b (at A, with n and c), the byte on its way, how many of its bits are free. -/
structure RW0 (w : World) (base W : Nat) (A : Option Addr) (n c : Nat) (b : List Int) (u f : Int) : Prop where
  blk : Blk w W 57 #[.slice A n c, .int .i64 u, .int .i64 f]
  own : w.ownsRow base 5 1 (.slice A n c) n (b.map (Value.int .u8))

section
variable {w w' : World} {base W : Nat} {A : Option Addr} {n c : Nat} {b : List Int} {u f : Int}
theorem RW0.len (h : RW0 w base W A n c b u f) : b.length = n := by have := h.own.1; simpa using this
theorem RW0.keep (h : RW0 w base W A n c b u f) {S : Nat → Prop} (hk : Keep S w w') (hW : ¬ S W) (hA : ∀ ad, A = some ad → ¬ S ad.block) : RW0 w' base W A n c b u f :=
  ⟨h.blk.keep hk hW, own_keep h.own hk (fun k e hs => by
    obtain ⟨ad, rfl, rfl⟩ := own_foot e
    exact hA ad rfl hs)⟩
theorem RW0.set (h : RW0 w base W A n c b u f) {u' f' : Int} {w' : World} (hk : Keep (fun k => k = W) w w') (hb : Blk w' W 57 #[.slice A n c, .int .i64 u', .int .i64 f']) : RW0 w' base W A n c b u' f' :=
  ⟨hb, own_keep h.own hk (fun k e hs => own_ne h.own h.blk (by decide) (by rw [e, hs]))⟩
end

/-- The byte on its way with a bit more. -/
def orI (u x : Int) (t : Nat) : Int := bits .or .i64 u (wrap64 (bits .and .i64 x 1 * 2 ^ t))

set_option maxHeartbeats 800000 in
theorem rbit_more (w : World) (base W : Nat) (A : Option Addr) (n c : Nat) (b : List Int) (u f x : Int) (h : RW0 w base W A n c b u f) (hf : 2 ≤ f) (hf8 : f ≤ 8) :
    Calls Try.prog 15 #[.pointer (some ⟨W, 0, none⟩), .int .i64 x] w fun e w' => e = .returned (.tuple #[]) ∧ RW0 w' base W A n c b (orI u x (f.toNat - 1)) (f - 1) ∧ Keep (fun k => k = W) w w' := by
  have h1 : w.cell? ⟨W, 1, none⟩ = some (.int .i64 u) := h.blk.cell 1
  have h2 : w.cell? ⟨W, 2, none⟩ = some (.int .i64 f) := h.blk.cell 2
  have f1 := h.blk.frozen 1
  have f2 := h.blk.frozen 2
  have hf0 : (f - 1 == 0) = false := by simp; omega
  have H := hid h
  clear h
  go_enter Try.func15, Try.ntmps15
  go_wp2_with fail
  go_region
  go_wp2_with fail
  go_end0
  have hk : Keep (fun k => k = W) w ((w.setCell ⟨W, 2, none⟩ (.int .i64 (f - 1))).setCell ⟨W, 1, none⟩ (.int .i64 (orI u x (f.toNat - 1)))).drew := (((Keep.refl _ w).setR 2 _).setR 1 _).drew
  refine ⟨rfl, ?_, hk⟩
  exact H.out.set hk ((H.out.blk.set_ 2 (.int .i64 (f - 1))).set_ 1 (.int .i64 (orI u x (f.toNat - 1)))).drew

/-- What a call leaves that may grow the bytes. -/
def RWP (w : World) (base W : Nat) (A : Option Addr) (b : List Int) (u f : Int) (e : Ending) (w' : World) : Prop :=
  ∃ A' n' c', e = .returned (.tuple #[]) ∧ RW0 w' base W A' n' c' b u f ∧ Grew w A A' ∧ Keep (foot W A) w w'

set_option maxHeartbeats 1600000 in
theorem rbit_last (w : World) (base W : Nat) (A : Option Addr) (n c : Nat) (b : List Int) (u x q F : Int) (h : RW0 w base W A n c b u 1) (hb : base ≤ w.heap.size) (hn : n ≤ 1073741824) (hq : orI u x 0 = q) (hF : Hid (F = if q = 255 then 7 else 8)) :
    Calls Try.prog 15 #[.pointer (some ⟨W, 0, none⟩), .int .i64 x] w (RWP w base W A (b ++ [IntKind.u8.wrap q]) 0 F) := by
  obtain ⟨i0, hi0, hz0, hz1, hz2⟩ := info_parts info_u8
  have h0 : w.cell? ⟨W, 0, none⟩ = some (.slice A n c) := h.blk.cell 0
  have h1 : w.cell? ⟨W, 1, none⟩ = some (.int .i64 u) := h.blk.cell 1
  have h2 : w.cell? ⟨W, 2, none⟩ = some (.int .i64 1) := h.blk.cell 2
  have f0 := h.blk.frozen 0
  have f1 := h.blk.frozen 1
  have f2 := h.blk.frozen 2
  have H := hid h
  have hq' : bits BinOp.or IntKind.i64 u (wrap64 (bits BinOp.and IntKind.i64 x 1)) = q := by
    rw [← hq]
    unfold orI
    simp
  clear h hq
  go_enter Try.func15, Try.ntmps15
  go_wp2_with fail
  go_region
  generalize wrap64 (bits BinOp.and IntKind.i64 x 1) = x1 at *
  generalize bits BinOp.and IntKind.i64 x 1 = x2 at *
  clear hq'
  by_cases he : q = 255
  · subst he
    go_wp2_with fail
    generalize hw : World.drew _ = w5
    have hk5 : Keep (fun k => k = W) w w5 := by
      rw [← hw]
      exact (((((Keep.refl _ w).setR 2 _).setR 1 _).setR 2 _).setR 2 _).drew
    have H5 := hid (show RW0 w5 base W A n c b 255 7 from H.out.set hk5 (by
      rw [← hw]
      exact ((((H.out.blk.set_ 2 (.int .i64 0)).set_ 1 (.int .i64 255)).set_ 2 (.int .i64 8)).set_ 2 (.int .i64 7)).drew))
    clear hw
    have HE := hid (show F = 7 by rw [hF.out]; rfl)
    -- region 6: the byte is laid behind
    have c0 : w5.cell? ⟨W, 0, none⟩ = some (.slice A n c) := H5.out.blk.cell 0
    have c1 : w5.cell? ⟨W, 1, none⟩ = some (.int .i64 255) := H5.out.blk.cell 1
    have d0 := H5.out.blk.frozen 0
    have hne := own_ne H5.out.own H5.out.blk (by decide)
    have HN := hid hne
    have hw5 := H5.out.blk.lt
    clear hne
    -- region 6: 15 operations
    refine At.start (L := #[false, false, false, false, false, false, false, false, false, false, false, false, false, false, false]) (by kernel_rfl) rfl ?_
    refine At.pure 0 (some 43) (v := ?v0a) rfl rfl (by kernel_rfl) (fun _ _ _ h => h) rfl (fun w' => ?y0a) ?_   
    case y0a => go_simp; try with_reducible rfl
    try simp only [Act.put, List.setIfInBounds_toArray, List.set_cons_zero, List.set_cons_succ]
    refine At.pure 1 (some 44) (v := ?v1a) rfl rfl (by kernel_rfl) (fun _ _ _ h => h) rfl (fun w' => ?y1a) ?_   
    case y1a => go_simp; try with_reducible rfl
    try simp only [Act.put, List.setIfInBounds_toArray, List.set_cons_zero, List.set_cons_succ]
    refine At.pure 2 (some 45) (v := ?v2a) rfl rfl (by kernel_rfl) (fun _ _ _ h => h) rfl (fun w' => ?y2a) ?_   
    case y2a => go_simp; try with_reducible rfl
    try simp only [Act.put, List.setIfInBounds_toArray, List.set_cons_zero, List.set_cons_succ]
    refine At.pure 3 (some 46) (v := ?v3a) rfl rfl (by kernel_rfl) (fun _ _ _ h => h) rfl (fun w' => ?y3a) ?_   
    case y3a => go_simp; try with_reducible rfl
    try simp only [Act.put, List.setIfInBounds_toArray, List.set_cons_zero, List.set_cons_succ]
    refine At.read 4 (some 47) (fun w' => w'.cell? ⟨W, 0, none⟩ = some (.slice A n c)) (v := ?v4a) rfl rfl (by kernel_rfl) (fun _ _ _ h => h) rfl c0 (fun w' hw' => ?y4a) ?_   
    case y4a => skip; go_simp; try with_reducible rfl
    try simp only [Act.put, List.setIfInBounds_toArray, List.set_cons_zero, List.set_cons_succ]
    refine At.pure 5 (some 48) (v := ?v5a) rfl rfl (by kernel_rfl) (fun _ _ _ h => h) rfl (fun w' => ?y5a) ?_   
    case y5a => go_simp; try with_reducible rfl
    try simp only [Act.put, List.setIfInBounds_toArray, List.set_cons_zero, List.set_cons_succ]
    refine At.pure 6 (some 49) (v := ?v6a) rfl rfl (by kernel_rfl) (fun _ _ _ h => h) rfl (fun w' => ?y6a) ?_   
    case y6a => go_simp; try with_reducible rfl
    try simp only [Act.put, List.setIfInBounds_toArray, List.set_cons_zero, List.set_cons_succ]
    refine At.pure 7 (some 50) (v := ?v7a) rfl rfl (by kernel_rfl) (fun _ _ _ h => h) rfl (fun w' => ?y7a) ?_   
    case y7a => go_simp; try with_reducible rfl
    try simp only [Act.put, List.setIfInBounds_toArray, List.set_cons_zero, List.set_cons_succ]
    refine At.read 8 (some 51) (fun w' => w'.cell? ⟨W, 1, none⟩ = some (.int .i64 255)) (v := (.int .i64 255)) rfl rfl (by kernel_rfl) (fun _ _ _ h => h) rfl c1 (fun w' hw' => ?y8a) ?_   
    case y8a => skip; go_simp; try with_reducible rfl
    try simp only [Act.put, List.setIfInBounds_toArray, List.set_cons_zero, List.set_cons_succ]
    refine At.pure 9 (some 52) (v := ?v9a) rfl rfl (by kernel_rfl) (fun _ _ _ h => h) rfl (fun w' => ?y9a) ?_   
    case y9a => go_simp; try with_reducible rfl
    try simp only [Act.put, List.setIfInBounds_toArray, List.set_cons_zero, List.set_cons_succ]
    refine At.call 10 (pend' := [(4, (fun w' => w'.cell? ⟨W, 0, none⟩ = some (.slice A n c)))]) rfl (by kernel_rfl) rfl (by kernel_rfl) (fun K hK => ?_)   
    go_simp
    skip
    refine hK _ _ (all_cons (((Keep.refl (fun _ => False) _).alloc _).cell c0 (fun h => h)) all_nil) ?_
    clear hK K
    try simp only [Act.put, List.setIfInBounds_toArray, List.set_cons_zero, List.set_cons_succ]
    refine At.call 11 (pend' := []) rfl (by kernel_rfl) rfl (by kernel_rfl) (fun K hK => ?_)   
    refine wp_append_one w5.drew (.tmp 47) (.tmp 53) _ rfl base 5 i0 _ 1 Try.underlying31 hi0 hz0 hz1 hz2 rfl H5.out.own.drew rfl _ rfl rfl (by simp only [maxLen]; omega) (by omega) (Nat.le_trans hb hk5.size) ?_
    intro v2 w2 hown2 hg2 hat2 _hold2
    obtain ⟨A2, c2, rfl⟩ := own_form hown2
    have b2 := (H5.out.blk.drew.alloc (.cells #[.int .u8 (IntKind.u8.wrap 255)] 5)).grown hg2 (Ne.symm HN.out)
    have e2 : w2.cell? ⟨W, 0, none⟩ = some (.slice A n c) := b2.cell 0
    have e3 := b2.frozen 0
    have e4 : w2.cell? ⟨W, 1, none⟩ = some (.int .i64 255) := b2.cell 1
    have e5 := b2.frozen 1
    have B2 := hid b2
    have hk2 : Keep (fun k => (Value.slice A n c).ownBlock = some k) w5 w2 := (((Keep.refl _ w5).drew).alloc _).grown hg2 (fun k hk => .inl hk)
    clear b2
    refine hK _ _ all_nil ?_
    clear hK K
    try simp only [Act.put, List.setIfInBounds_toArray, List.set_cons_zero, List.set_cons_succ]
    refine At.pure 12 (some 55) (v := ?v12a) rfl rfl (by kernel_rfl) (fun _ _ _ h => h) rfl (fun w' => ?y12a) ?_   
    case y12a => go_simp; try with_reducible rfl
    try simp only [Act.put, List.setIfInBounds_toArray, List.set_cons_zero, List.set_cons_succ]
    refine At.pure 13 (some 56) (v := ?v13a) rfl rfl (by kernel_rfl) (fun _ _ _ h => h) rfl (fun w' => ?y13a) ?_   
    case y13a => go_simp; try with_reducible rfl
    try simp only [Act.put, List.setIfInBounds_toArray, List.set_cons_zero, List.set_cons_succ]
    refine At.call 14 (pend' := []) rfl (by kernel_rfl) rfl (by kernel_rfl) (fun K hK => ?_)   
    go_simp
    skip
    refine hK _ _ all_nil ?_
    clear hK K
    try simp only [Act.put, List.setIfInBounds_toArray, List.set_cons_zero, List.set_cons_succ]
    refine At.done (by kernel_rfl) ?_
    go_wp2_with fail
    go_end0
    have hne2 := own_ne hown2 B2.out (by decide)
    have hkW : Keep (fun k => k = W) w2 ((w2.setCell ⟨W, 0, none⟩ (.slice A2 (n + 1) c2)).setCell ⟨W, 1, none⟩ (.int .i64 0)) := ((Keep.refl _ w2).setR 0 _).setR 1 _
    refine ⟨A2, n + 1, c2, rfl, ⟨?_, ?_⟩, ?_, ?_⟩
    · rw [HE.out]
      exact (B2.out.set_ 0 _).set_ 1 _
    · have := own_keep hown2 hkW (fun k e hk => hne2 (by rw [e, hk]))
      simpa using this
    · exact Grew.of hat2 (by have := hk5.size; show _ ≤ w5.heap.size + 1; omega)
    · refine (hk5.mono (fun k _ h => .inl h)).trans ((hk2.mono (fun k _ h => .inr (own_foot h))).trans hkW (fun k _ h => .inl h)) (fun k _ h => h)
  · have he' : (q == 255) = false := by simpa using he
    go_wp2_with fail
    generalize hw : World.drew _ = w5
    have hk5 : Keep (fun k => k = W) w w5 := by
      rw [← hw]
      exact ((((Keep.refl _ w).setR 2 _).setR 1 _).setR 2 _).drew
    have H5 := hid (show RW0 w5 base W A n c b q 8 from H.out.set hk5 (by
      rw [← hw]
      exact (((H.out.blk.set_ 2 (.int .i64 0)).set_ 1 (.int .i64 q)).set_ 2 (.int .i64 8)).drew))
    clear hw
    have HE := hid (show F = 8 by rw [hF.out]; exact if_neg he)
    -- region 6: the byte is laid behind
    have c0 : w5.cell? ⟨W, 0, none⟩ = some (.slice A n c) := H5.out.blk.cell 0
    have c1 : w5.cell? ⟨W, 1, none⟩ = some (.int .i64 q) := H5.out.blk.cell 1
    have d0 := H5.out.blk.frozen 0
    have hne := own_ne H5.out.own H5.out.blk (by decide)
    have HN := hid hne
    have hw5 := H5.out.blk.lt
    clear hne
    -- region 6: 15 operations
    refine At.start (L := #[false, false, false, false, false, false, false, false, false, false, false, false, false, false, false]) (by kernel_rfl) rfl ?_
    refine At.pure 0 (some 43) (v := ?v0b) rfl rfl (by kernel_rfl) (fun _ _ _ h => h) rfl (fun w' => ?y0b) ?_   
    case y0b => go_simp; try with_reducible rfl
    try simp only [Act.put, List.setIfInBounds_toArray, List.set_cons_zero, List.set_cons_succ]
    refine At.pure 1 (some 44) (v := ?v1b) rfl rfl (by kernel_rfl) (fun _ _ _ h => h) rfl (fun w' => ?y1b) ?_   
    case y1b => go_simp; try with_reducible rfl
    try simp only [Act.put, List.setIfInBounds_toArray, List.set_cons_zero, List.set_cons_succ]
    refine At.pure 2 (some 45) (v := ?v2b) rfl rfl (by kernel_rfl) (fun _ _ _ h => h) rfl (fun w' => ?y2b) ?_   
    case y2b => go_simp; try with_reducible rfl
    try simp only [Act.put, List.setIfInBounds_toArray, List.set_cons_zero, List.set_cons_succ]
    refine At.pure 3 (some 46) (v := ?v3b) rfl rfl (by kernel_rfl) (fun _ _ _ h => h) rfl (fun w' => ?y3b) ?_   
    case y3b => go_simp; try with_reducible rfl
    try simp only [Act.put, List.setIfInBounds_toArray, List.set_cons_zero, List.set_cons_succ]
    refine At.read 4 (some 47) (fun w' => w'.cell? ⟨W, 0, none⟩ = some (.slice A n c)) (v := ?v4b) rfl rfl (by kernel_rfl) (fun _ _ _ h => h) rfl c0 (fun w' hw' => ?y4b) ?_   
    case y4b => skip; go_simp; try with_reducible rfl
    try simp only [Act.put, List.setIfInBounds_toArray, List.set_cons_zero, List.set_cons_succ]
    refine At.pure 5 (some 48) (v := ?v5b) rfl rfl (by kernel_rfl) (fun _ _ _ h => h) rfl (fun w' => ?y5b) ?_   
    case y5b => go_simp; try with_reducible rfl
    try simp only [Act.put, List.setIfInBounds_toArray, List.set_cons_zero, List.set_cons_succ]
    refine At.pure 6 (some 49) (v := ?v6b) rfl rfl (by kernel_rfl) (fun _ _ _ h => h) rfl (fun w' => ?y6b) ?_   
    case y6b => go_simp; try with_reducible rfl
    try simp only [Act.put, List.setIfInBounds_toArray, List.set_cons_zero, List.set_cons_succ]
    refine At.pure 7 (some 50) (v := ?v7b) rfl rfl (by kernel_rfl) (fun _ _ _ h => h) rfl (fun w' => ?y7b) ?_   
    case y7b => go_simp; try with_reducible rfl
    try simp only [Act.put, List.setIfInBounds_toArray, List.set_cons_zero, List.set_cons_succ]
    refine At.read 8 (some 51) (fun w' => w'.cell? ⟨W, 1, none⟩ = some (.int .i64 q)) (v := (.int .i64 q)) rfl rfl (by kernel_rfl) (fun _ _ _ h => h) rfl c1 (fun w' hw' => ?y8b) ?_   
    case y8b => skip; go_simp; try with_reducible rfl
    try simp only [Act.put, List.setIfInBounds_toArray, List.set_cons_zero, List.set_cons_succ]
    refine At.pure 9 (some 52) (v := ?v9b) rfl rfl (by kernel_rfl) (fun _ _ _ h => h) rfl (fun w' => ?y9b) ?_   
    case y9b => go_simp; try with_reducible rfl
    try simp only [Act.put, List.setIfInBounds_toArray, List.set_cons_zero, List.set_cons_succ]
    refine At.call 10 (pend' := [(4, (fun w' => w'.cell? ⟨W, 0, none⟩ = some (.slice A n c)))]) rfl (by kernel_rfl) rfl (by kernel_rfl) (fun K hK => ?_)   
    go_simp
    skip
    refine hK _ _ (all_cons (((Keep.refl (fun _ => False) _).alloc _).cell c0 (fun h => h)) all_nil) ?_
    clear hK K
    try simp only [Act.put, List.setIfInBounds_toArray, List.set_cons_zero, List.set_cons_succ]
    refine At.call 11 (pend' := []) rfl (by kernel_rfl) rfl (by kernel_rfl) (fun K hK => ?_)   
    refine wp_append_one w5.drew (.tmp 47) (.tmp 53) _ rfl base 5 i0 _ 1 Try.underlying31 hi0 hz0 hz1 hz2 rfl H5.out.own.drew rfl _ rfl rfl (by simp only [maxLen]; omega) (by omega) (Nat.le_trans hb hk5.size) ?_
    intro v2 w2 hown2 hg2 hat2 _hold2
    obtain ⟨A2, c2, rfl⟩ := own_form hown2
    have b2 := (H5.out.blk.drew.alloc (.cells #[.int .u8 (IntKind.u8.wrap q)] 5)).grown hg2 (Ne.symm HN.out)
    have e2 : w2.cell? ⟨W, 0, none⟩ = some (.slice A n c) := b2.cell 0
    have e3 := b2.frozen 0
    have e4 : w2.cell? ⟨W, 1, none⟩ = some (.int .i64 q) := b2.cell 1
    have e5 := b2.frozen 1
    have B2 := hid b2
    have hk2 : Keep (fun k => (Value.slice A n c).ownBlock = some k) w5 w2 := (((Keep.refl _ w5).drew).alloc _).grown hg2 (fun k hk => .inl hk)
    clear b2
    refine hK _ _ all_nil ?_
    clear hK K
    try simp only [Act.put, List.setIfInBounds_toArray, List.set_cons_zero, List.set_cons_succ]
    refine At.pure 12 (some 55) (v := ?v12b) rfl rfl (by kernel_rfl) (fun _ _ _ h => h) rfl (fun w' => ?y12b) ?_   
    case y12b => go_simp; try with_reducible rfl
    try simp only [Act.put, List.setIfInBounds_toArray, List.set_cons_zero, List.set_cons_succ]
    refine At.pure 13 (some 56) (v := ?v13b) rfl rfl (by kernel_rfl) (fun _ _ _ h => h) rfl (fun w' => ?y13b) ?_   
    case y13b => go_simp; try with_reducible rfl
    try simp only [Act.put, List.setIfInBounds_toArray, List.set_cons_zero, List.set_cons_succ]
    refine At.call 14 (pend' := []) rfl (by kernel_rfl) rfl (by kernel_rfl) (fun K hK => ?_)   
    go_simp
    skip
    refine hK _ _ all_nil ?_
    clear hK K
    try simp only [Act.put, List.setIfInBounds_toArray, List.set_cons_zero, List.set_cons_succ]
    refine At.done (by kernel_rfl) ?_
    go_wp2_with fail
    go_end0
    have hne2 := own_ne hown2 B2.out (by decide)
    have hkW : Keep (fun k => k = W) w2 ((w2.setCell ⟨W, 0, none⟩ (.slice A2 (n + 1) c2)).setCell ⟨W, 1, none⟩ (.int .i64 0)) := ((Keep.refl _ w2).setR 0 _).setR 1 _
    refine ⟨A2, n + 1, c2, rfl, ⟨?_, ?_⟩, ?_, ?_⟩
    · rw [HE.out]
      exact (B2.out.set_ 0 _).set_ 1 _
    · have := own_keep hown2 hkW (fun k e hk => hne2 (by rw [e, hk]))
      simpa using this
    · exact Grew.of hat2 (by have := hk5.size; show _ ≤ w5.heap.size + 1; omega)
    · refine (hk5.mono (fun k _ h => .inl h)).trans ((hk2.mono (fun k _ h => .inr (own_foot h))).trans hkW (fun k _ h => .inl h)) (fun k _ h => h)

theorem rbit_any (w : World) (base W : Nat) (A : Option Addr) (n c : Nat) (l : List Int) (r x : Int) (h : RW0 w base W A n c (refB l r) (curM l r) (freeM l r)) (hi : BInv l r) (hb : base ≤ w.heap.size) (hn : n ≤ 1073741824) :
    Calls Try.prog 15 #[.pointer (some ⟨W, 0, none⟩), .int .i64 x] w (RWP w base W A (refB (stepL l r x) (stepR l r)) (curM (stepL l r x) (stepR l r)) (freeM (stepL l r x) (stepR l r))) := by
  have ht := top_le l
  have hbb := lastM_byte hi.bytes
  by_cases hr : r = 0
  · subst hr
    have e1 : refB l 0 = l := if_pos rfl
    have e2 : curM l 0 = 0 := if_pos rfl
    have e3 : freeM l 0 = topM l := if_pos rfl
    rw [e1, e2, e3] at h
    refine (rbit_more w base W A n c l 0 (topM l) x h (by omega) (by omega)).mono ?_
    rintro e w' ⟨rfl, h', hk⟩
    refine ⟨A, n, c, rfl, ?_, Grew.refl w A, hk.mono (fun k _ h => .inl h)⟩
    unfold orI at h'
    rw [orI_add 0 x _ (by omega) (by omega) (by omega) (by simp), Int.zero_add] at h'
    unfold stepL stepR refB curM freeM
    rw [if_pos rfl, if_pos rfl, if_neg (by omega), if_neg (by omega), if_neg (by omega), List.dropLast_concat, lastM_snoc]
    exact h'
  · have hr0 := hi.r0
    have h7 := hi.r7
    have hl := hi.some_ (by omega)
    have hlow := hi.low
    have e0 : r.toNat = r.toNat - 1 + 1 := by omega
    rw [e0] at hlow
    have e1 : refB l r = l.dropLast := if_neg hr
    have e2 : curM l r = lastM l := if_neg hr
    have e3 : freeM l r = r := if_neg hr
    rw [e1, e2, e3] at h
    have es : stepL l r x = l.dropLast ++ [lastM l + x % 2 * 2 ^ (r.toNat - 1)] := by
      unfold stepL
      rw [if_neg hr, set_last l hl]
    have er : stepR l r = r - 1 := by unfold stepR; rw [if_neg hr]
    rw [es, er]
    by_cases h1 : r = 1
    · subst h1
      have hq : orI (lastM l) x 0 = lastM l + x % 2 * 2 ^ 0 := orI_add _ x 0 hbb.1 hbb.2 (by omega) hlow
      have hf := add_fits (lastM l) (x % 2) 0 hbb.1 8 (by omega) (by omega) hlow (mod2 x)
      refine (rbit_last w base W A n c l.dropLast (lastM l) x _ (topM (l.dropLast ++ [lastM l + x % 2 * 2 ^ 0])) h hb hn hq (hid (by unfold topM; rw [lastM_snoc]))).mono ?_
      rintro e w' h'
      rw [IntWalk.u8_in _ (by omega)] at h'
      unfold refB curM freeM
      rw [if_pos (by omega), if_pos (by omega), if_pos (by omega)]
      exact h'
    · refine (rbit_more w base W A n c l.dropLast (lastM l) r x h (by omega) (by omega)).mono ?_
      rintro e w' ⟨rfl, h', hk⟩
      refine ⟨A, n, c, rfl, ?_, Grew.refl w A, hk.mono (fun k _ h => .inl h)⟩
      unfold orI at h'
      rw [orI_add _ x _ hbb.1 hbb.2 (by omega) hlow] at h'
      unfold refB curM freeM
      rw [if_neg (by omega), if_neg (by omega), if_neg (by omega), List.dropLast_concat, lastM_snoc]
      exact h'

/-- The reference's writer, told by the program's state. -/
def RWr (w : World) (base W : Nat) (A : Option Addr) (n c : Nat) (l : List Int) (r : Int) : Prop := RW0 w base W A n c (refB l r) (curM l r) (freeM l r)
theorem refB_le (l : List Int) (r : Int) : l.length ≤ (refB l r).length + 1 ∧ (refB l r).length ≤ l.length := by
  unfold refB
  split <;> simp <;> omega

set_option maxHeartbeats 800000 in
theorem rbits_any (w : World) (base W : Nat) (A : Option Addr) (n c : Nat) (l : List Int) (r x size : Int) (h : RWr w base W A n c l r) (hi : BInv l r) (hb : base ≤ w.heap.size) (hn : l.length ≤ 1073741000) :
    Calls Try.prog 17 #[.pointer (some ⟨W, 0, none⟩), .int .i64 x, .int .i64 size] w fun e w' => e = .returned (.tuple #[]) ∧ ∃ A', (∃ n' c',
      RWr w' base W A' n' c' (runM (l, r) (numB x size)).1 (runM (l, r) (numB x size)).2) ∧ Grew w A A' ∧ Keep (foot W A) w w' := by
  by_cases hs : 1 ≤ size ∧ size ≤ 32
  · obtain ⟨s, rfl⟩ := Int.eq_ofNat_of_zero_le (show 0 ≤ size by omega)
    have e0 : numB x s = bitsOf x s := by unfold numB; rw [if_pos hs]; simp
    rw [e0]
    clear e0
    have H0 := hid h
    have HI := hid hi
    clear h hi
    go_enter Try.func17, Try.ntmps17
    go_wp2_with fail
    go_loopw [6] (fun v wr => ∃ j : Nat, j ≤ 32 ∧ v = .int .i64 ((j : Int) - 1) ∧ ∃ A1 n1 c1 l1 r1, Hid (RWr wr base W A1 n1 c1 l1 r1) ∧ Hid (BInv l1 r1) ∧ Hid (runM (l1, r1) (bitsOf x j) = runM (l, r) (bitsOf x s)) ∧ Hid (l1.length + j ≤ l.length + s) ∧ Hid (Grew w A A1) ∧ Hid (Keep (foot W A) w wr)) (fun v _ => (intOf v + 1).toNat)
    case atStart => exact ⟨s, by omega, rfl, A, n, c, l, r, H0, HI, hid rfl, hid (by omega), hid (Grew.refl w A), hid (Keep.refl _ _)⟩
    case round =>
      obtain ⟨j, hj, rfl, A1, n1, c1, l1, r1, H1, HI1, HR, HL1, HG, HK⟩ := hrel
      have hbs : base ≤ wr.heap.size := Nat.le_trans hb HK.out.size
      cases j with
      | zero =>
        go_wp2_with fail
        go_end0
        have := HR.out
        simp only [bitsOf, runM, List.foldl_nil] at this
        exact ⟨rfl, A1, ⟨n1, c1, by rw [show runM (l, r) (bitsOf x s) = (l1, r1) from this.symm]; exact H1.out⟩, HG.out, HK.out⟩
      | succ j =>
        go_wp2_with fail
        refine (rbit_any wr base W A1 n1 c1 l1 r1 (x / 2 ^ j) H1.out HI1.out hbs (by
          have := HL1.out
          have := refB_le l1 r1
          have := RW0.len H1.out
          omega)).mono ?_
        rintro e w2 ⟨A2, n2, c2, rfl, H2, hg2, hk2⟩
        have hgk := grew_next HG.out HK.out hg2 hk2
        have HH2 := hid H2
        have HGK := hid hgk
        have HI2 := hid (HI1.out.step (x / 2 ^ j))
        clear H2 hgk hg2 hk2
        go_wp2_with fail
        go_roundw
        case rel =>
          refine ⟨j, by omega, by go_num, A2, n2, c2, _, _, HH2, HI2, hid ?_, hid ?_, hid HGK.out.1, hid HGK.out.2⟩
          · have := HR.out
            rw [← this]
            show _ = runM (stepM (l1, r1) (x / 2 ^ j % 2)) (bitsOf x j)
            unfold stepM
            rw [stepL_mod]
          · have hl2 := stepL_length l1 r1 (x / 2 ^ j)
            have := HL1.out
            omega
        case measure => simp [intOf]
  · have e0 : numB x size = [] := by unfold numB; rw [if_neg hs]
    rw [e0]
    have H0 := hid h
    clear e0
    by_cases h1 : size < 1
    · go_enter Try.func17, Try.ntmps17
      go_wp2_with fail
      (try simp only [Exit.inBlock, Exit.then]); refine bodyPost_ret (results_none rfl _ _ _) rfl ?_
      exact ⟨rfl, A, ⟨n, c, H0.out⟩, Grew.refl w A, Keep.refl _ _⟩
    · have h2 : 32 < size := by omega
      go_enter Try.func17, Try.ntmps17
      go_wp2_with fail
      (try simp only [Exit.inBlock, Exit.then]); refine bodyPost_ret (results_none rfl _ _ _) rfl ?_
      exact ⟨rfl, A, ⟨n, c, H0.out⟩, Grew.refl w A, Keep.refl _ _⟩
end Go.Proofs.Ytnhciiljdmgcjaa
