/-
  The program's encoder: a byte goes out. Conditions: at most 2^30 bytes.
-/
import Derived.Test.YtcieeoobobafmaaClone
import Derived.Test.YtcieeoobobafmaaRegion
import Derived.Test.YtcieeoobobafmaaMqModel
import Derived.Deep.DeepCutAuto
import Derived.WalkLawsBesides
namespace Go.Proofs.Ytcieeoobobafmaa
open Go.RowKit

/-- The encoder at block E. -/
structure En (w : World) (base E : Nat) (A : Option Addr) (n c : Nat) (s : ES) : Prop where
  blk : Blk w E 73 #[.slice A n c, .int .i64 s.a, .int .i64 s.c, .int .i64 s.ct]
  own : w.ownsRow base 5 1 (.slice A n c) n (s.b.map (Value.int .u8))
theorem En.len {w : World} {base E : Nat} {A : Option Addr} {n c : Nat} {s : ES} (h : En w base E A n c s) : s.b.length = n := by have := h.own.1; simpa using this
theorem En.keep {w w' : World} {base E : Nat} {A : Option Addr} {n c : Nat} {s : ES} (h : En w base E A n c s) {S : Nat → Prop} (hk : Keep S w w') (hW : ¬ S E) (hA : ∀ ad, A = some ad → ¬ S ad.block) : En w' base E A n c s :=
  ⟨h.blk.keep hk hW, own_keep h.own hk (fun k e hs => by
    obtain ⟨ad, rfl, rfl⟩ := own_foot e
    exact hA ad rfl hs)⟩
/-- What a method that writes bytes leaves. -/
def EnP (w : World) (base E : Nat) (A : Option Addr) (s : ES) (e : Ending) (w' : World) : Prop :=
  ∃ A' n' c', e = .returned (.tuple #[]) ∧ En w' base E A' n' c' s ∧ Grew w A A' ∧ Keep (foot E A) w w'

set_option maxHeartbeats 8000000 in
theorem out_any (w : World) (base E : Nat) (A : Option Addr) (n c : Nat) (s : ES) (h : En w base E A n c s) (hb : base ≤ w.heap.size) (hn0 : 0 < n) (hn : n ≤ 1073741824) (hby : Bytes s.b) (hc0 : 0 ≤ s.c) (hc1 : s.c < 268435456) :
    Calls Try.prog 40 #[.pointer (some ⟨E, 0, none⟩)] w (EnP w base E A (outM s)) := by
  obtain ⟨i0, hi0, hz0, hz1, hz2⟩ := info_parts info_u8
  obtain ⟨a, C, ct, l⟩ := s
  simp only at hby hc0 hc1
  have h0 : w.cell? ⟨E, 0, none⟩ = some (.slice A n c) := h.blk.cell 0
  have h2 : w.cell? ⟨E, 2, none⟩ = some (.int .i64 C) := h.blk.cell 2
  have f0 := h.blk.frozen 0
  have f2 := h.blk.frozen 2
  have f3 := h.blk.frozen 3
  have hl := lastM_byte hby
  obtain ⟨g, rfl, hgc, hgb, hgl, hgf⟩ := own_at h.own hn0
  obtain ⟨m, rfl⟩ : ∃ m, n = m + 1 := ⟨n - 1, by omega⟩
  have hlen := h.len
  simp only at hlen
  have g0 : w.cell? ⟨g, m, none⟩ = some (.int .u8 (lastM l)) := by
    have := hgl m _ (map_at _ _ m (by rw [hlen]; omega))
    unfold lastM
    rw [hlen]
    exact this
  have fg := hgf m
  have hne : g ≠ E := fun e => own_ne h.own h.blk (by decide) (by rw [e]; rfl)
  have wm : IntKind.i64.wrap (((m + 1 : Nat) : Int) - 1) = (m : Int) := by rw [IntWalk.i64_in _ (by omega)]; omega
  have HB0 := hid h.blk
  have HO0 := hid h.own
  have HLEN := hid hlen
  clear h hgl hgf hlen
  by_cases hz : lastM l = 255
  · have HM := hid (show outM ⟨a, C, ct, l⟩ = ⟨a, C % 1048576, 7, l ++ [C / 1048576]⟩ by unfold outM; rw [if_pos hz])
    rw [hz] at g0
    clear hz
    rw [HM.out]
    go_enter Try.func40, Try.ntmps40
    go_wp2_with fail
    have HB5 := HB0
    have HO5 := HO0
    have hb5 : base ≤ w.drew.heap.size := hb
    have HKW := hid (Keep.refl (foot E (some ⟨g, 0, none⟩)) w)
    -- w5: bytes l1 at A, C1 in c
    have c0 : (w).cell? ⟨E, 0, none⟩ = some (.slice (some ⟨g, 0, none⟩) (m + 1) c) := HB5.out.cell 0
    have c2 : (w).cell? ⟨E, 2, none⟩ = some (.int .i64 C) := HB5.out.cell 2
    have d0 := HB5.out.frozen 0
    have hne := own_ne HO5.out HB5.out (by decide)
    have HN := hid hne
    have hE5 := HB5.out.lt
    clear hne
    -- region 7: 20 operations
    refine At.start (L := #[false, false, false, false, false, false, false, false, false, false, false, false, false, false, false, false, false, false, false, false]) (by kernel_rfl) rfl ?_
    refine At.pure 0 (some 58) (v := ?v0a) rfl rfl (by kernel_rfl) (fun _ _ _ h => h) rfl (fun w' => ?y0a) ?_   
    case y0a => go_simp; try with_reducible rfl
    try simp only [Act.put, List.setIfInBounds_toArray, List.set_cons_zero, List.set_cons_succ]
    refine At.pure 1 (some 59) (v := ?v1a) rfl rfl (by kernel_rfl) (fun _ _ _ h => h) rfl (fun w' => ?y1a) ?_   
    case y1a => go_simp; try with_reducible rfl
    try simp only [Act.put, List.setIfInBounds_toArray, List.set_cons_zero, List.set_cons_succ]
    refine At.pure 2 (some 60) (v := ?v2a) rfl rfl (by kernel_rfl) (fun _ _ _ h => h) rfl (fun w' => ?y2a) ?_   
    case y2a => go_simp; try with_reducible rfl
    try simp only [Act.put, List.setIfInBounds_toArray, List.set_cons_zero, List.set_cons_succ]
    refine At.pure 3 (some 61) (v := ?v3a) rfl rfl (by kernel_rfl) (fun _ _ _ h => h) rfl (fun w' => ?y3a) ?_   
    case y3a => go_simp; try with_reducible rfl
    try simp only [Act.put, List.setIfInBounds_toArray, List.set_cons_zero, List.set_cons_succ]
    refine At.pure 4 (some 62) (v := ?v4a) rfl rfl (by kernel_rfl) (fun _ _ _ h => h) rfl (fun w' => ?y4a) ?_   
    case y4a => go_simp; try with_reducible rfl
    try simp only [Act.put, List.setIfInBounds_toArray, List.set_cons_zero, List.set_cons_succ]
    refine At.read 5 (some 63) (fun w' => w'.cell? ⟨E, 0, none⟩ = some (.slice (some ⟨g, 0, none⟩) (m + 1) c)) (v := (.slice (some ⟨g, 0, none⟩) (m + 1) c)) rfl rfl (by kernel_rfl) (fun _ _ _ h => h) rfl c0 (fun w' hw' => ?y5a) ?_   
    case y5a => skip; go_simp; try with_reducible rfl
    try simp only [Act.put, List.setIfInBounds_toArray, List.set_cons_zero, List.set_cons_succ]
    refine At.pure 6 (some 64) (v := ?v6a) rfl rfl (by kernel_rfl) (fun _ _ _ h => h) rfl (fun w' => ?y6a) ?_   
    case y6a => go_simp; try with_reducible rfl
    try simp only [Act.put, List.setIfInBounds_toArray, List.set_cons_zero, List.set_cons_succ]
    refine At.pure 7 (some 65) (v := ?v7a) rfl rfl (by kernel_rfl) (fun _ _ _ h => h) rfl (fun w' => ?y7a) ?_   
    case y7a => go_simp; try with_reducible rfl
    try simp only [Act.put, List.setIfInBounds_toArray, List.set_cons_zero, List.set_cons_succ]
    refine At.pure 8 (some 66) (v := ?v8a) rfl rfl (by kernel_rfl) (fun _ _ _ h => h) rfl (fun w' => ?y8a) ?_   
    case y8a => go_simp; try with_reducible rfl
    try simp only [Act.put, List.setIfInBounds_toArray, List.set_cons_zero, List.set_cons_succ]
    refine At.pure 9 (some 67) (v := ?v9a) rfl rfl (by kernel_rfl) (fun _ _ _ h => h) rfl (fun w' => ?y9a) ?_   
    case y9a => go_simp; try with_reducible rfl
    try simp only [Act.put, List.setIfInBounds_toArray, List.set_cons_zero, List.set_cons_succ]
    refine At.read 10 (some 68) (fun w' => w'.cell? ⟨E, 2, none⟩ = some (.int .i64 C)) (v := (.int .i64 C)) rfl rfl (by kernel_rfl) (fun _ _ _ h => h) rfl c2 (fun w' hw' => ?y10a) ?_   
    case y10a => skip; go_simp; try with_reducible rfl
    try simp only [Act.put, List.setIfInBounds_toArray, List.set_cons_zero, List.set_cons_succ]
    refine At.pure 11 (some 69) (v := ?v11a) rfl rfl (by kernel_rfl) (fun _ _ _ h => h) rfl (fun w' => ?y11a) ?_   
    case y11a => go_simp; try with_reducible rfl
    try simp only [Act.put, List.setIfInBounds_toArray, List.set_cons_zero, List.set_cons_succ]
    refine At.pure 12 (some 70) (v := ?v12a) rfl rfl (by kernel_rfl) (fun _ _ _ h => h) rfl (fun w' => ?y12a) ?_   
    case y12a => go_simp; try with_reducible rfl
    try simp only [Act.put, List.setIfInBounds_toArray, List.set_cons_zero, List.set_cons_succ]
    refine At.pure 13 (some 71) (v := ?v13a) rfl rfl (by kernel_rfl) (fun _ _ _ h => h) rfl (fun w' => ?y13a) ?_   
    case y13a => go_simp; try with_reducible rfl
    try simp only [Act.put, List.setIfInBounds_toArray, List.set_cons_zero, List.set_cons_succ]
    refine At.call 14 (pend' := [(5, (fun w' => w'.cell? ⟨E, 0, none⟩ = some (.slice (some ⟨g, 0, none⟩) (m + 1) c)))]) rfl (by kernel_rfl) rfl (by kernel_rfl) (fun K hK => ?_)   
    go_simp
    skip
    refine hK _ _ (all_cons (((Keep.refl (fun _ => False) _).alloc _).cell c0 (fun h => h)) all_nil) ?_
    clear hK K
    try simp only [Act.put, List.setIfInBounds_toArray, List.set_cons_zero, List.set_cons_succ]
    refine At.call 15 (pend' := []) rfl (by kernel_rfl) rfl (by kernel_rfl) (fun K hK => ?_)   
    refine wp_append_one (w).drew (.tmp 63) (.tmp 72) _ rfl base 5 i0 _ 1 Try.underlying22 hi0 hz0 hz1 hz2 rfl HO5.out.drew rfl _ rfl rfl (by simp only [maxLen]; omega) (by omega) hb5 ?_
    intro v2 w2 hown2 hg2 hat2 _hold2
    obtain ⟨A2, c2, rfl⟩ := own_form hown2
    have b2 := (HB5.out.drew.alloc _).grown hg2 (Ne.symm HN.out)
    have e0 : w2.cell? ⟨E, 0, none⟩ = some (.slice (some ⟨g, 0, none⟩) (m + 1) c) := b2.cell 0
    have e1 : w2.cell? ⟨E, 2, none⟩ = some (.int .i64 C) := b2.cell 2
    have e2 : w2.cell? ⟨E, 3, none⟩ = some (.int .i64 ct) := b2.cell 3
    have e3 := b2.frozen 0
    have e4 := b2.frozen 2
    have e5 := b2.frozen 3
    have B2 := hid b2
    have hk2 : Keep (fun k => (Value.slice (some ⟨g, 0, none⟩) (m + 1) c).ownBlock = some k) w w2 := (((Keep.refl _ w).drew).alloc _).grown hg2 (fun k hk => .inl hk)
    have HK2 := hid hk2
    have HO2 := hid hown2
    have HA2 := hid hat2
    have HNE2 := hid (own_ne hown2 b2 (by decide))
    clear b2 hk2 hown2 hat2 _hold2 hg2
    refine hK _ _ all_nil ?_
    clear hK K
    try simp only [Act.put, List.setIfInBounds_toArray, List.set_cons_zero, List.set_cons_succ]
    refine At.pure 16 (some 74) (v := ?v16a) rfl rfl (by kernel_rfl) (fun _ _ _ h => h) rfl (fun w' => ?y16a) ?_   
    case y16a => go_simp; try with_reducible rfl
    try simp only [Act.put, List.setIfInBounds_toArray, List.set_cons_zero, List.set_cons_succ]
    refine At.pure 17 (some 75) (v := ?v17a) rfl rfl (by kernel_rfl) (fun _ _ _ h => h) rfl (fun w' => ?y17a) ?_   
    case y17a => go_simp; try with_reducible rfl
    try simp only [Act.put, List.setIfInBounds_toArray, List.set_cons_zero, List.set_cons_succ]
    refine At.pure 18 (some 76) (v := ?v18a) rfl rfl (by kernel_rfl) (fun _ _ _ h => h) rfl (fun w' => ?y18a) ?_   
    case y18a => go_simp; try with_reducible rfl
    try simp only [Act.put, List.setIfInBounds_toArray, List.set_cons_zero, List.set_cons_succ]
    refine At.call 19 (pend' := []) rfl (by kernel_rfl) rfl (by kernel_rfl) (fun K hK => ?_)   
    go_simp
    skip
    refine hK _ _ all_nil ?_
    clear hK K
    try simp only [Act.put, List.setIfInBounds_toArray, List.set_cons_zero, List.set_cons_succ]
    refine At.done (by kernel_rfl) ?_
    have HF2 := hid (show ∀ w6, Keep (fun k => k = E) w2 w6 → Blk w6 E 73 #[.slice A2 ((m + 1) + 1) c2, .int .i64 a, .int .i64 (C % 1048576), .int .i64 7] → EnP w base E (some ⟨g, 0, none⟩) ⟨a, C % 1048576, 7, l ++ [C / 1048576]⟩ (.returned (.tuple #[])) w6 from fun w6 hk6 hb6 => by
      refine ⟨A2, (m + 1) + 1, c2, rfl, ⟨hb6, ?_⟩, ?_, ?_⟩
      · have := own_keep HO2.out hk6 (fun k e hk => HNE2.out (by rw [e, hk]))
        rw [show IntKind.u8.wrap (C / 1048576) = C / 1048576 from IntWalk.u8_in _ (by omega)] at this
        simpa using this
      · exact Grew.of HA2.out (by have := HKW.out.size; show _ ≤ (w).heap.size + 1; omega)
      · exact HKW.out.trans ((HK2.out.mono (fun k _ h => .inr (own_foot h))).trans hk6 (fun k _ h => .inl h)) (fun k _ h => h))
    have hlow := low20 (C)
    go_wp2_with fail
    go_region
    go_wp2_with fail
    go_end0
    refine HF2.out _ ?_ ?_
    · with_reducible (repeat (first | refine Keep.drew ?_ | refine Keep.setR ?_ _ _ | exact Keep.refl _ _))
    · have := (((B2.out.set_ 0 (.slice A2 ((m + 1) + 1) c2)).set_ 2 (.int .i64 (C % 1048576))).drew.set_ 3 (.int .i64 7))
      first | exact this | exact this.drew | exact (((B2.out.set_ 0 (.slice A2 ((m + 1) + 1) c2)).set_ 2 (.int .i64 (C % 1048576))).set_ 3 (.int .i64 7)).drew | exact ((((B2.out.set_ 0 (.slice A2 ((m + 1) + 1) c2)).drew).set_ 2 (.int .i64 (C % 1048576))).set_ 3 (.int .i64 7))
  · have hz1f : (lastM l == 255) = false := by simpa using hz
    have hz2t : (lastM l != 255) = true := by simpa using hz
    by_cases hcar : 134217728 ≤ C
    · have hand : bits .and .i64 C 134217728 = 134217728 := by rw [and_carry C hc0 hc1, if_pos hcar]
      have hnot := andNot_carry C hcar hc1
      have hl1 : l.length - 1 = m := by rw [HLEN.out]; omega
      have HM := hid (show outM ⟨a, C, ct, l⟩ = (if lastM l + 1 = 255 then ⟨a, (C - 134217728) % 1048576, 7, l.set m (lastM l + 1) ++ [(C - 134217728) / 1048576]⟩ else ⟨a, (C - 134217728) % 524288, 8, l.set m (lastM l + 1) ++ [(C - 134217728) / 524288]⟩) by unfold outM; rw [if_neg hz, if_pos hcar, hl1])
      have hm1 : m < l.length := by rw [HLEN.out]; omega
      clear hl1
      generalize lastM l = z at *
      have hz3 : z < 255 := by omega
      have hb5' : Blk ((w.setCell ⟨g, m, none⟩ (.int .u8 (z + 1))).setCell ⟨E, 2, none⟩ (.int .i64 (C - 134217728))) E 73 #[.slice (some ⟨g, 0, none⟩) (m + 1) c, .int .i64 a, .int .i64 (C - 134217728), .int .i64 ct] :=
        (HB0.out.far (p := ⟨g, m, none⟩) (Ne.symm hne) (.int .u8 (z + 1))).set_ 2 (.int .i64 (C - 134217728))
      have ho5' : ((w.setCell ⟨g, m, none⟩ (.int .u8 (z + 1))).setCell ⟨E, 2, none⟩ (.int .i64 (C - 134217728))).ownsRow base 5 1 (.slice (some ⟨g, 0, none⟩) (m + 1) c) (m + 1) ((l.set m (z + 1)).map (Value.int .u8)) := by
        have h1 := (World.ownsRow.stored HO0.out m (.int .u8 (z + 1))).1
        rw [← List.map_set] at h1
        exact own_keep h1 (Keep.set1 _ E 2 _) (fun k e hk => hne (by simp [Value.ownBlock] at e; omega))
      have hk5' : Keep (foot E (some ⟨g, 0, none⟩)) w ((w.setCell ⟨g, m, none⟩ (.int .u8 (z + 1))).setCell ⟨E, 2, none⟩ (.int .i64 (C - 134217728))) :=
        Keep.setCell (Keep.setCell (Keep.refl _ w) (p := ⟨g, m, none⟩) (.inl (.inr ⟨_, rfl, rfl⟩)) _) (p := ⟨E, 2, none⟩) (.inl (.inl rfl)) _
      have hg5' : ((w.setCell ⟨g, m, none⟩ (.int .u8 (z + 1))).setCell ⟨E, 2, none⟩ (.int .i64 (C - 134217728))).cell? ⟨g, m, none⟩ = some (.int .u8 (z + 1)) := by
        obtain ⟨g', hg', _, _, hcl, _⟩ := own_at ho5' (by omega)
        injection hg' with hg'
        injection hg' with hg'
        subst hg'
        have := hcl m _ (map_at _ _ m (by rw [List.length_set]; exact hm1))
        rw [List.getD_eq_getElem?_getD, List.getElem?_set_self hm1] at this
        exact this
      have HB5 := hid hb5'
      have HO5 := hid ho5'
      have HKW := hid hk5'
      have HG5 := hid hg5'
      clear hb5' ho5' hk5' hg5' hm1
      by_cases h254 : z + 1 = 255
      · rw [HM.out, if_pos h254]
        have H254 := hid h254
        clear h254
        go_enter Try.func40, Try.ntmps40
        go_upto_region 4 with fail
        have hb5 : base ≤ ((w.setCell ⟨g, m, none⟩ (.int .u8 (z + 1))).setCell ⟨E, 2, none⟩ (.int .i64 (C - 134217728))).drew.heap.size := Nat.le_trans hb HKW.out.size
        have hC1 : 0 ≤ C - 134217728 := by omega
        have hC2 : C - 134217728 < 134217728 := by omega
        clear hnot hand hcar hc0 hc1 HM
        generalize hw5 : (w.setCell ⟨g, m, none⟩ (.int .u8 (z + 1))).setCell ⟨E, 2, none⟩ (.int .i64 (C - 134217728)) = w5 at *
        generalize C - 134217728 = C1 at *
        clear hw5 h0 h2 g0 fg f0 f2 f3
        generalize z + 1 = z1 at *
        have q0 : w5.cell? ⟨E, 0, none⟩ = some (.slice (some ⟨g, 0, none⟩) (m + 1) c) := HB5.out.cell 0
        have q1 := HG5.out
        obtain rfl : z1 = 255 := H254.out
        go_wp2_with fail
        -- w5: bytes l1 at A, C1 in c
        have c0 : (w5).cell? ⟨E, 0, none⟩ = some (.slice (some ⟨g, 0, none⟩) (m + 1) c) := HB5.out.cell 0
        have c2 : (w5).cell? ⟨E, 2, none⟩ = some (.int .i64 C1) := HB5.out.cell 2
        have d0 := HB5.out.frozen 0
        have hne := own_ne HO5.out HB5.out (by decide)
        have HN := hid hne
        have hE5 := HB5.out.lt
        clear hne
        -- region 7: 20 operations
        refine At.start (L := #[false, false, false, false, false, false, false, false, false, false, false, false, false, false, false, false, false, false, false, false]) (by kernel_rfl) rfl ?_
        refine At.pure 0 (some 58) (v := ?v0b) rfl rfl (by kernel_rfl) (fun _ _ _ h => h) rfl (fun w' => ?y0b) ?_   
        case y0b => go_simp; try with_reducible rfl
        try simp only [Act.put, List.setIfInBounds_toArray, List.set_cons_zero, List.set_cons_succ]
        refine At.pure 1 (some 59) (v := ?v1b) rfl rfl (by kernel_rfl) (fun _ _ _ h => h) rfl (fun w' => ?y1b) ?_   
        case y1b => go_simp; try with_reducible rfl
        try simp only [Act.put, List.setIfInBounds_toArray, List.set_cons_zero, List.set_cons_succ]
        refine At.pure 2 (some 60) (v := ?v2b) rfl rfl (by kernel_rfl) (fun _ _ _ h => h) rfl (fun w' => ?y2b) ?_   
        case y2b => go_simp; try with_reducible rfl
        try simp only [Act.put, List.setIfInBounds_toArray, List.set_cons_zero, List.set_cons_succ]
        refine At.pure 3 (some 61) (v := ?v3b) rfl rfl (by kernel_rfl) (fun _ _ _ h => h) rfl (fun w' => ?y3b) ?_   
        case y3b => go_simp; try with_reducible rfl
        try simp only [Act.put, List.setIfInBounds_toArray, List.set_cons_zero, List.set_cons_succ]
        refine At.pure 4 (some 62) (v := ?v4b) rfl rfl (by kernel_rfl) (fun _ _ _ h => h) rfl (fun w' => ?y4b) ?_   
        case y4b => go_simp; try with_reducible rfl
        try simp only [Act.put, List.setIfInBounds_toArray, List.set_cons_zero, List.set_cons_succ]
        refine At.read 5 (some 63) (fun w' => w'.cell? ⟨E, 0, none⟩ = some (.slice (some ⟨g, 0, none⟩) (m + 1) c)) (v := (.slice (some ⟨g, 0, none⟩) (m + 1) c)) rfl rfl (by kernel_rfl) (fun _ _ _ h => h) rfl c0 (fun w' hw' => ?y5b) ?_   
        case y5b => skip; go_simp; try with_reducible rfl
        try simp only [Act.put, List.setIfInBounds_toArray, List.set_cons_zero, List.set_cons_succ]
        refine At.pure 6 (some 64) (v := ?v6b) rfl rfl (by kernel_rfl) (fun _ _ _ h => h) rfl (fun w' => ?y6b) ?_   
        case y6b => go_simp; try with_reducible rfl
        try simp only [Act.put, List.setIfInBounds_toArray, List.set_cons_zero, List.set_cons_succ]
        refine At.pure 7 (some 65) (v := ?v7b) rfl rfl (by kernel_rfl) (fun _ _ _ h => h) rfl (fun w' => ?y7b) ?_   
        case y7b => go_simp; try with_reducible rfl
        try simp only [Act.put, List.setIfInBounds_toArray, List.set_cons_zero, List.set_cons_succ]
        refine At.pure 8 (some 66) (v := ?v8b) rfl rfl (by kernel_rfl) (fun _ _ _ h => h) rfl (fun w' => ?y8b) ?_   
        case y8b => go_simp; try with_reducible rfl
        try simp only [Act.put, List.setIfInBounds_toArray, List.set_cons_zero, List.set_cons_succ]
        refine At.pure 9 (some 67) (v := ?v9b) rfl rfl (by kernel_rfl) (fun _ _ _ h => h) rfl (fun w' => ?y9b) ?_   
        case y9b => go_simp; try with_reducible rfl
        try simp only [Act.put, List.setIfInBounds_toArray, List.set_cons_zero, List.set_cons_succ]
        refine At.read 10 (some 68) (fun w' => w'.cell? ⟨E, 2, none⟩ = some (.int .i64 C1)) (v := (.int .i64 C1)) rfl rfl (by kernel_rfl) (fun _ _ _ h => h) rfl c2 (fun w' hw' => ?y10b) ?_   
        case y10b => skip; go_simp; try with_reducible rfl
        try simp only [Act.put, List.setIfInBounds_toArray, List.set_cons_zero, List.set_cons_succ]
        refine At.pure 11 (some 69) (v := ?v11b) rfl rfl (by kernel_rfl) (fun _ _ _ h => h) rfl (fun w' => ?y11b) ?_   
        case y11b => go_simp; try with_reducible rfl
        try simp only [Act.put, List.setIfInBounds_toArray, List.set_cons_zero, List.set_cons_succ]
        refine At.pure 12 (some 70) (v := ?v12b) rfl rfl (by kernel_rfl) (fun _ _ _ h => h) rfl (fun w' => ?y12b) ?_   
        case y12b => go_simp; try with_reducible rfl
        try simp only [Act.put, List.setIfInBounds_toArray, List.set_cons_zero, List.set_cons_succ]
        refine At.pure 13 (some 71) (v := ?v13b) rfl rfl (by kernel_rfl) (fun _ _ _ h => h) rfl (fun w' => ?y13b) ?_   
        case y13b => go_simp; try with_reducible rfl
        try simp only [Act.put, List.setIfInBounds_toArray, List.set_cons_zero, List.set_cons_succ]
        refine At.call 14 (pend' := [(5, (fun w' => w'.cell? ⟨E, 0, none⟩ = some (.slice (some ⟨g, 0, none⟩) (m + 1) c)))]) rfl (by kernel_rfl) rfl (by kernel_rfl) (fun K hK => ?_)   
        go_simp
        skip
        refine hK _ _ (all_cons (((Keep.refl (fun _ => False) _).alloc _).cell c0 (fun h => h)) all_nil) ?_
        clear hK K
        try simp only [Act.put, List.setIfInBounds_toArray, List.set_cons_zero, List.set_cons_succ]
        refine At.call 15 (pend' := []) rfl (by kernel_rfl) rfl (by kernel_rfl) (fun K hK => ?_)   
        refine wp_append_one (w5).drew (.tmp 63) (.tmp 72) _ rfl base 5 i0 _ 1 Try.underlying22 hi0 hz0 hz1 hz2 rfl HO5.out.drew rfl _ rfl rfl (by simp only [maxLen]; omega) (by omega) hb5 ?_
        intro v2 w2 hown2 hg2 hat2 _hold2
        obtain ⟨A2, c2, rfl⟩ := own_form hown2
        have b2 := (HB5.out.drew.alloc _).grown hg2 (Ne.symm HN.out)
        have e0 : w2.cell? ⟨E, 0, none⟩ = some (.slice (some ⟨g, 0, none⟩) (m + 1) c) := b2.cell 0
        have e1 : w2.cell? ⟨E, 2, none⟩ = some (.int .i64 C1) := b2.cell 2
        have e2 : w2.cell? ⟨E, 3, none⟩ = some (.int .i64 ct) := b2.cell 3
        have e3 := b2.frozen 0
        have e4 := b2.frozen 2
        have e5 := b2.frozen 3
        have B2 := hid b2
        have hk2 : Keep (fun k => (Value.slice (some ⟨g, 0, none⟩) (m + 1) c).ownBlock = some k) w5 w2 := (((Keep.refl _ w5).drew).alloc _).grown hg2 (fun k hk => .inl hk)
        have HK2 := hid hk2
        have HO2 := hid hown2
        have HA2 := hid hat2
        have HNE2 := hid (own_ne hown2 b2 (by decide))
        clear b2 hk2 hown2 hat2 _hold2 hg2
        refine hK _ _ all_nil ?_
        clear hK K
        try simp only [Act.put, List.setIfInBounds_toArray, List.set_cons_zero, List.set_cons_succ]
        refine At.pure 16 (some 74) (v := ?v16b) rfl rfl (by kernel_rfl) (fun _ _ _ h => h) rfl (fun w' => ?y16b) ?_   
        case y16b => go_simp; try with_reducible rfl
        try simp only [Act.put, List.setIfInBounds_toArray, List.set_cons_zero, List.set_cons_succ]
        refine At.pure 17 (some 75) (v := ?v17b) rfl rfl (by kernel_rfl) (fun _ _ _ h => h) rfl (fun w' => ?y17b) ?_   
        case y17b => go_simp; try with_reducible rfl
        try simp only [Act.put, List.setIfInBounds_toArray, List.set_cons_zero, List.set_cons_succ]
        refine At.pure 18 (some 76) (v := ?v18b) rfl rfl (by kernel_rfl) (fun _ _ _ h => h) rfl (fun w' => ?y18b) ?_   
        case y18b => go_simp; try with_reducible rfl
        try simp only [Act.put, List.setIfInBounds_toArray, List.set_cons_zero, List.set_cons_succ]
        refine At.call 19 (pend' := []) rfl (by kernel_rfl) rfl (by kernel_rfl) (fun K hK => ?_)   
        go_simp
        skip
        refine hK _ _ all_nil ?_
        clear hK K
        try simp only [Act.put, List.setIfInBounds_toArray, List.set_cons_zero, List.set_cons_succ]
        refine At.done (by kernel_rfl) ?_
        have HF2 := hid (show ∀ w6, Keep (fun k => k = E) w2 w6 → Blk w6 E 73 #[.slice A2 ((m + 1) + 1) c2, .int .i64 a, .int .i64 (C1 % 1048576), .int .i64 7] → EnP w base E (some ⟨g, 0, none⟩) ⟨a, C1 % 1048576, 7, (l.set m (255)) ++ [C1 / 1048576]⟩ (.returned (.tuple #[])) w6 from fun w6 hk6 hb6 => by
          refine ⟨A2, (m + 1) + 1, c2, rfl, ⟨hb6, ?_⟩, ?_, ?_⟩
          · have := own_keep HO2.out hk6 (fun k e hk => HNE2.out (by rw [e, hk]))
            rw [show IntKind.u8.wrap (C1 / 1048576) = C1 / 1048576 from IntWalk.u8_in _ (by omega)] at this
            simpa using this
          · exact Grew.of HA2.out (by have := HKW.out.size; show _ ≤ (w5).heap.size + 1; omega)
          · exact HKW.out.trans ((HK2.out.mono (fun k _ h => .inr (own_foot h))).trans hk6 (fun k _ h => .inl h)) (fun k _ h => h))
        have hlow := low20 (C1)
        go_wp2_with fail
        go_region
        go_wp2_with fail
        go_end0
        refine HF2.out _ ?_ ?_
        · with_reducible (repeat (first | refine Keep.drew ?_ | refine Keep.setR ?_ _ _ | exact Keep.refl _ _))
        · have := (((B2.out.set_ 0 (.slice A2 ((m + 1) + 1) c2)).set_ 2 (.int .i64 (C1 % 1048576))).drew.set_ 3 (.int .i64 7))
          first | exact this | exact this.drew | exact (((B2.out.set_ 0 (.slice A2 ((m + 1) + 1) c2)).set_ 2 (.int .i64 (C1 % 1048576))).set_ 3 (.int .i64 7)).drew | exact ((((B2.out.set_ 0 (.slice A2 ((m + 1) + 1) c2)).drew).set_ 2 (.int .i64 (C1 % 1048576))).set_ 3 (.int .i64 7))
      · rw [HM.out, if_neg h254]
        go_enter Try.func40, Try.ntmps40
        go_upto_region 4 with fail
        have hb5 : base ≤ ((w.setCell ⟨g, m, none⟩ (.int .u8 (z + 1))).setCell ⟨E, 2, none⟩ (.int .i64 (C - 134217728))).drew.heap.size := Nat.le_trans hb HKW.out.size
        have hC1 : 0 ≤ C - 134217728 := by omega
        have hC2 : C - 134217728 < 134217728 := by omega
        clear hnot hand hcar hc0 hc1 HM
        generalize hw5 : (w.setCell ⟨g, m, none⟩ (.int .u8 (z + 1))).setCell ⟨E, 2, none⟩ (.int .i64 (C - 134217728)) = w5 at *
        generalize C - 134217728 = C1 at *
        clear hw5 h0 h2 g0 fg f0 f2 f3
        generalize z + 1 = z1 at *
        have q0 : w5.cell? ⟨E, 0, none⟩ = some (.slice (some ⟨g, 0, none⟩) (m + 1) c) := HB5.out.cell 0
        have q1 := HG5.out
        have hq : (z1 == 255) = false := by simp [h254]
        go_wp2_with fail
        -- w5: bytes l1 at A, C1 in c
        have c0 : (w5).cell? ⟨E, 0, none⟩ = some (.slice (some ⟨g, 0, none⟩) (m + 1) c) := HB5.out.cell 0
        have c2 : (w5).cell? ⟨E, 2, none⟩ = some (.int .i64 C1) := HB5.out.cell 2
        have d0 := HB5.out.frozen 0
        have hne := own_ne HO5.out HB5.out (by decide)
        have HN := hid hne
        have hE5 := HB5.out.lt
        clear hne
        -- region 7: 20 operations
        refine At.start (L := #[false, false, false, false, false, false, false, false, false, false, false, false, false, false, false, false, false, false, false, false]) (by kernel_rfl) rfl ?_
        refine At.pure 0 (some 58) (v := ?v0c) rfl rfl (by kernel_rfl) (fun _ _ _ h => h) rfl (fun w' => ?y0c) ?_   
        case y0c => go_simp; try with_reducible rfl
        try simp only [Act.put, List.setIfInBounds_toArray, List.set_cons_zero, List.set_cons_succ]
        refine At.pure 1 (some 59) (v := ?v1c) rfl rfl (by kernel_rfl) (fun _ _ _ h => h) rfl (fun w' => ?y1c) ?_   
        case y1c => go_simp; try with_reducible rfl
        try simp only [Act.put, List.setIfInBounds_toArray, List.set_cons_zero, List.set_cons_succ]
        refine At.pure 2 (some 60) (v := ?v2c) rfl rfl (by kernel_rfl) (fun _ _ _ h => h) rfl (fun w' => ?y2c) ?_   
        case y2c => go_simp; try with_reducible rfl
        try simp only [Act.put, List.setIfInBounds_toArray, List.set_cons_zero, List.set_cons_succ]
        refine At.pure 3 (some 61) (v := ?v3c) rfl rfl (by kernel_rfl) (fun _ _ _ h => h) rfl (fun w' => ?y3c) ?_   
        case y3c => go_simp; try with_reducible rfl
        try simp only [Act.put, List.setIfInBounds_toArray, List.set_cons_zero, List.set_cons_succ]
        refine At.pure 4 (some 62) (v := ?v4c) rfl rfl (by kernel_rfl) (fun _ _ _ h => h) rfl (fun w' => ?y4c) ?_   
        case y4c => go_simp; try with_reducible rfl
        try simp only [Act.put, List.setIfInBounds_toArray, List.set_cons_zero, List.set_cons_succ]
        refine At.read 5 (some 63) (fun w' => w'.cell? ⟨E, 0, none⟩ = some (.slice (some ⟨g, 0, none⟩) (m + 1) c)) (v := (.slice (some ⟨g, 0, none⟩) (m + 1) c)) rfl rfl (by kernel_rfl) (fun _ _ _ h => h) rfl c0 (fun w' hw' => ?y5c) ?_   
        case y5c => skip; go_simp; try with_reducible rfl
        try simp only [Act.put, List.setIfInBounds_toArray, List.set_cons_zero, List.set_cons_succ]
        refine At.pure 6 (some 64) (v := ?v6c) rfl rfl (by kernel_rfl) (fun _ _ _ h => h) rfl (fun w' => ?y6c) ?_   
        case y6c => go_simp; try with_reducible rfl
        try simp only [Act.put, List.setIfInBounds_toArray, List.set_cons_zero, List.set_cons_succ]
        refine At.pure 7 (some 65) (v := ?v7c) rfl rfl (by kernel_rfl) (fun _ _ _ h => h) rfl (fun w' => ?y7c) ?_   
        case y7c => go_simp; try with_reducible rfl
        try simp only [Act.put, List.setIfInBounds_toArray, List.set_cons_zero, List.set_cons_succ]
        refine At.pure 8 (some 66) (v := ?v8c) rfl rfl (by kernel_rfl) (fun _ _ _ h => h) rfl (fun w' => ?y8c) ?_   
        case y8c => go_simp; try with_reducible rfl
        try simp only [Act.put, List.setIfInBounds_toArray, List.set_cons_zero, List.set_cons_succ]
        refine At.pure 9 (some 67) (v := ?v9c) rfl rfl (by kernel_rfl) (fun _ _ _ h => h) rfl (fun w' => ?y9c) ?_   
        case y9c => go_simp; try with_reducible rfl
        try simp only [Act.put, List.setIfInBounds_toArray, List.set_cons_zero, List.set_cons_succ]
        refine At.read 10 (some 68) (fun w' => w'.cell? ⟨E, 2, none⟩ = some (.int .i64 C1)) (v := (.int .i64 C1)) rfl rfl (by kernel_rfl) (fun _ _ _ h => h) rfl c2 (fun w' hw' => ?y10c) ?_   
        case y10c => skip; go_simp; try with_reducible rfl
        try simp only [Act.put, List.setIfInBounds_toArray, List.set_cons_zero, List.set_cons_succ]
        refine At.pure 11 (some 69) (v := ?v11c) rfl rfl (by kernel_rfl) (fun _ _ _ h => h) rfl (fun w' => ?y11c) ?_   
        case y11c => go_simp; try with_reducible rfl
        try simp only [Act.put, List.setIfInBounds_toArray, List.set_cons_zero, List.set_cons_succ]
        refine At.pure 12 (some 70) (v := ?v12c) rfl rfl (by kernel_rfl) (fun _ _ _ h => h) rfl (fun w' => ?y12c) ?_   
        case y12c => go_simp; try with_reducible rfl
        try simp only [Act.put, List.setIfInBounds_toArray, List.set_cons_zero, List.set_cons_succ]
        refine At.pure 13 (some 71) (v := ?v13c) rfl rfl (by kernel_rfl) (fun _ _ _ h => h) rfl (fun w' => ?y13c) ?_   
        case y13c => go_simp; try with_reducible rfl
        try simp only [Act.put, List.setIfInBounds_toArray, List.set_cons_zero, List.set_cons_succ]
        refine At.call 14 (pend' := [(5, (fun w' => w'.cell? ⟨E, 0, none⟩ = some (.slice (some ⟨g, 0, none⟩) (m + 1) c)))]) rfl (by kernel_rfl) rfl (by kernel_rfl) (fun K hK => ?_)   
        go_simp
        skip
        refine hK _ _ (all_cons (((Keep.refl (fun _ => False) _).alloc _).cell c0 (fun h => h)) all_nil) ?_
        clear hK K
        try simp only [Act.put, List.setIfInBounds_toArray, List.set_cons_zero, List.set_cons_succ]
        refine At.call 15 (pend' := []) rfl (by kernel_rfl) rfl (by kernel_rfl) (fun K hK => ?_)   
        refine wp_append_one (w5).drew (.tmp 63) (.tmp 72) _ rfl base 5 i0 _ 1 Try.underlying22 hi0 hz0 hz1 hz2 rfl HO5.out.drew rfl _ rfl rfl (by simp only [maxLen]; omega) (by omega) hb5 ?_
        intro v2 w2 hown2 hg2 hat2 _hold2
        obtain ⟨A2, c2, rfl⟩ := own_form hown2
        have b2 := (HB5.out.drew.alloc _).grown hg2 (Ne.symm HN.out)
        have e0 : w2.cell? ⟨E, 0, none⟩ = some (.slice (some ⟨g, 0, none⟩) (m + 1) c) := b2.cell 0
        have e1 : w2.cell? ⟨E, 2, none⟩ = some (.int .i64 C1) := b2.cell 2
        have e2 : w2.cell? ⟨E, 3, none⟩ = some (.int .i64 ct) := b2.cell 3
        have e3 := b2.frozen 0
        have e4 := b2.frozen 2
        have e5 := b2.frozen 3
        have B2 := hid b2
        have hk2 : Keep (fun k => (Value.slice (some ⟨g, 0, none⟩) (m + 1) c).ownBlock = some k) w5 w2 := (((Keep.refl _ w5).drew).alloc _).grown hg2 (fun k hk => .inl hk)
        have HK2 := hid hk2
        have HO2 := hid hown2
        have HA2 := hid hat2
        have HNE2 := hid (own_ne hown2 b2 (by decide))
        clear b2 hk2 hown2 hat2 _hold2 hg2
        refine hK _ _ all_nil ?_
        clear hK K
        try simp only [Act.put, List.setIfInBounds_toArray, List.set_cons_zero, List.set_cons_succ]
        refine At.pure 16 (some 74) (v := ?v16c) rfl rfl (by kernel_rfl) (fun _ _ _ h => h) rfl (fun w' => ?y16c) ?_   
        case y16c => go_simp; try with_reducible rfl
        try simp only [Act.put, List.setIfInBounds_toArray, List.set_cons_zero, List.set_cons_succ]
        refine At.pure 17 (some 75) (v := ?v17c) rfl rfl (by kernel_rfl) (fun _ _ _ h => h) rfl (fun w' => ?y17c) ?_   
        case y17c => go_simp; try with_reducible rfl
        try simp only [Act.put, List.setIfInBounds_toArray, List.set_cons_zero, List.set_cons_succ]
        refine At.pure 18 (some 76) (v := ?v18c) rfl rfl (by kernel_rfl) (fun _ _ _ h => h) rfl (fun w' => ?y18c) ?_   
        case y18c => go_simp; try with_reducible rfl
        try simp only [Act.put, List.setIfInBounds_toArray, List.set_cons_zero, List.set_cons_succ]
        refine At.call 19 (pend' := []) rfl (by kernel_rfl) rfl (by kernel_rfl) (fun K hK => ?_)   
        go_simp
        skip
        refine hK _ _ all_nil ?_
        clear hK K
        try simp only [Act.put, List.setIfInBounds_toArray, List.set_cons_zero, List.set_cons_succ]
        refine At.done (by kernel_rfl) ?_
        have HF2 := hid (show ∀ w6, Keep (fun k => k = E) w2 w6 → Blk w6 E 73 #[.slice A2 ((m + 1) + 1) c2, .int .i64 a, .int .i64 (C1 % 524288), .int .i64 8] → EnP w base E (some ⟨g, 0, none⟩) ⟨a, C1 % 524288, 8, (l.set m (z1)) ++ [C1 / 524288]⟩ (.returned (.tuple #[])) w6 from fun w6 hk6 hb6 => by
          refine ⟨A2, (m + 1) + 1, c2, rfl, ⟨hb6, ?_⟩, ?_, ?_⟩
          · have := own_keep HO2.out hk6 (fun k e hk => HNE2.out (by rw [e, hk]))
            rw [show IntKind.u8.wrap (C1 / 524288) = C1 / 524288 from IntWalk.u8_in _ (by omega)] at this
            simpa using this
          · exact Grew.of HA2.out (by have := HKW.out.size; show _ ≤ (w5).heap.size + 1; omega)
          · exact HKW.out.trans ((HK2.out.mono (fun k _ h => .inr (own_foot h))).trans hk6 (fun k _ h => .inl h)) (fun k _ h => h))
        have hlow := low19 (C1)
        go_wp2_with fail
        go_region
        go_wp2_with fail
        go_end0
        refine HF2.out _ ?_ ?_
        · with_reducible (repeat (first | refine Keep.drew ?_ | refine Keep.setR ?_ _ _ | exact Keep.refl _ _))
        · have := (((B2.out.set_ 0 (.slice A2 ((m + 1) + 1) c2)).set_ 2 (.int .i64 (C1 % 524288))).drew.set_ 3 (.int .i64 8))
          first | exact this | exact this.drew | exact (((B2.out.set_ 0 (.slice A2 ((m + 1) + 1) c2)).set_ 2 (.int .i64 (C1 % 524288))).set_ 3 (.int .i64 8)).drew | exact ((((B2.out.set_ 0 (.slice A2 ((m + 1) + 1) c2)).drew).set_ 2 (.int .i64 (C1 % 524288))).set_ 3 (.int .i64 8))
    · have hand : bits .and .i64 C 134217728 = 0 := by rw [and_carry C hc0 hc1, if_neg hcar]
      have HM := hid (show outM ⟨a, C, ct, l⟩ = ⟨a, C % 524288, 8, l ++ [C / 524288]⟩ by unfold outM; rw [if_neg hz, if_neg hcar])
      clear hz
      rw [HM.out]
      generalize lastM l = z at *
      go_enter Try.func40, Try.ntmps40
      go_wp2_with fail
      have HB5 := HB0
      have HO5 := HO0
      have hb5 : base ≤ w.drew.heap.size := hb
      have HKW := hid (Keep.refl (foot E (some ⟨g, 0, none⟩)) w)
      -- w5: bytes l1 at A, C1 in c
      have c0 : (w).cell? ⟨E, 0, none⟩ = some (.slice (some ⟨g, 0, none⟩) (m + 1) c) := HB5.out.cell 0
      have c2 : (w).cell? ⟨E, 2, none⟩ = some (.int .i64 C) := HB5.out.cell 2
      have d0 := HB5.out.frozen 0
      have hne := own_ne HO5.out HB5.out (by decide)
      have HN := hid hne
      have hE5 := HB5.out.lt
      clear hne
      -- region 7: 20 operations
      refine At.start (L := #[false, false, false, false, false, false, false, false, false, false, false, false, false, false, false, false, false, false, false, false]) (by kernel_rfl) rfl ?_
      refine At.pure 0 (some 58) (v := ?v0d) rfl rfl (by kernel_rfl) (fun _ _ _ h => h) rfl (fun w' => ?y0d) ?_   
      case y0d => go_simp; try with_reducible rfl
      try simp only [Act.put, List.setIfInBounds_toArray, List.set_cons_zero, List.set_cons_succ]
      refine At.pure 1 (some 59) (v := ?v1d) rfl rfl (by kernel_rfl) (fun _ _ _ h => h) rfl (fun w' => ?y1d) ?_   
      case y1d => go_simp; try with_reducible rfl
      try simp only [Act.put, List.setIfInBounds_toArray, List.set_cons_zero, List.set_cons_succ]
      refine At.pure 2 (some 60) (v := ?v2d) rfl rfl (by kernel_rfl) (fun _ _ _ h => h) rfl (fun w' => ?y2d) ?_   
      case y2d => go_simp; try with_reducible rfl
      try simp only [Act.put, List.setIfInBounds_toArray, List.set_cons_zero, List.set_cons_succ]
      refine At.pure 3 (some 61) (v := ?v3d) rfl rfl (by kernel_rfl) (fun _ _ _ h => h) rfl (fun w' => ?y3d) ?_   
      case y3d => go_simp; try with_reducible rfl
      try simp only [Act.put, List.setIfInBounds_toArray, List.set_cons_zero, List.set_cons_succ]
      refine At.pure 4 (some 62) (v := ?v4d) rfl rfl (by kernel_rfl) (fun _ _ _ h => h) rfl (fun w' => ?y4d) ?_   
      case y4d => go_simp; try with_reducible rfl
      try simp only [Act.put, List.setIfInBounds_toArray, List.set_cons_zero, List.set_cons_succ]
      refine At.read 5 (some 63) (fun w' => w'.cell? ⟨E, 0, none⟩ = some (.slice (some ⟨g, 0, none⟩) (m + 1) c)) (v := (.slice (some ⟨g, 0, none⟩) (m + 1) c)) rfl rfl (by kernel_rfl) (fun _ _ _ h => h) rfl c0 (fun w' hw' => ?y5d) ?_   
      case y5d => skip; go_simp; try with_reducible rfl
      try simp only [Act.put, List.setIfInBounds_toArray, List.set_cons_zero, List.set_cons_succ]
      refine At.pure 6 (some 64) (v := ?v6d) rfl rfl (by kernel_rfl) (fun _ _ _ h => h) rfl (fun w' => ?y6d) ?_   
      case y6d => go_simp; try with_reducible rfl
      try simp only [Act.put, List.setIfInBounds_toArray, List.set_cons_zero, List.set_cons_succ]
      refine At.pure 7 (some 65) (v := ?v7d) rfl rfl (by kernel_rfl) (fun _ _ _ h => h) rfl (fun w' => ?y7d) ?_   
      case y7d => go_simp; try with_reducible rfl
      try simp only [Act.put, List.setIfInBounds_toArray, List.set_cons_zero, List.set_cons_succ]
      refine At.pure 8 (some 66) (v := ?v8d) rfl rfl (by kernel_rfl) (fun _ _ _ h => h) rfl (fun w' => ?y8d) ?_   
      case y8d => go_simp; try with_reducible rfl
      try simp only [Act.put, List.setIfInBounds_toArray, List.set_cons_zero, List.set_cons_succ]
      refine At.pure 9 (some 67) (v := ?v9d) rfl rfl (by kernel_rfl) (fun _ _ _ h => h) rfl (fun w' => ?y9d) ?_   
      case y9d => go_simp; try with_reducible rfl
      try simp only [Act.put, List.setIfInBounds_toArray, List.set_cons_zero, List.set_cons_succ]
      refine At.read 10 (some 68) (fun w' => w'.cell? ⟨E, 2, none⟩ = some (.int .i64 C)) (v := (.int .i64 C)) rfl rfl (by kernel_rfl) (fun _ _ _ h => h) rfl c2 (fun w' hw' => ?y10d) ?_   
      case y10d => skip; go_simp; try with_reducible rfl
      try simp only [Act.put, List.setIfInBounds_toArray, List.set_cons_zero, List.set_cons_succ]
      refine At.pure 11 (some 69) (v := ?v11d) rfl rfl (by kernel_rfl) (fun _ _ _ h => h) rfl (fun w' => ?y11d) ?_   
      case y11d => go_simp; try with_reducible rfl
      try simp only [Act.put, List.setIfInBounds_toArray, List.set_cons_zero, List.set_cons_succ]
      refine At.pure 12 (some 70) (v := ?v12d) rfl rfl (by kernel_rfl) (fun _ _ _ h => h) rfl (fun w' => ?y12d) ?_   
      case y12d => go_simp; try with_reducible rfl
      try simp only [Act.put, List.setIfInBounds_toArray, List.set_cons_zero, List.set_cons_succ]
      refine At.pure 13 (some 71) (v := ?v13d) rfl rfl (by kernel_rfl) (fun _ _ _ h => h) rfl (fun w' => ?y13d) ?_   
      case y13d => go_simp; try with_reducible rfl
      try simp only [Act.put, List.setIfInBounds_toArray, List.set_cons_zero, List.set_cons_succ]
      refine At.call 14 (pend' := [(5, (fun w' => w'.cell? ⟨E, 0, none⟩ = some (.slice (some ⟨g, 0, none⟩) (m + 1) c)))]) rfl (by kernel_rfl) rfl (by kernel_rfl) (fun K hK => ?_)   
      go_simp
      skip
      refine hK _ _ (all_cons (((Keep.refl (fun _ => False) _).alloc _).cell c0 (fun h => h)) all_nil) ?_
      clear hK K
      try simp only [Act.put, List.setIfInBounds_toArray, List.set_cons_zero, List.set_cons_succ]
      refine At.call 15 (pend' := []) rfl (by kernel_rfl) rfl (by kernel_rfl) (fun K hK => ?_)   
      refine wp_append_one (w).drew (.tmp 63) (.tmp 72) _ rfl base 5 i0 _ 1 Try.underlying22 hi0 hz0 hz1 hz2 rfl HO5.out.drew rfl _ rfl rfl (by simp only [maxLen]; omega) (by omega) hb5 ?_
      intro v2 w2 hown2 hg2 hat2 _hold2
      obtain ⟨A2, c2, rfl⟩ := own_form hown2
      have b2 := (HB5.out.drew.alloc _).grown hg2 (Ne.symm HN.out)
      have e0 : w2.cell? ⟨E, 0, none⟩ = some (.slice (some ⟨g, 0, none⟩) (m + 1) c) := b2.cell 0
      have e1 : w2.cell? ⟨E, 2, none⟩ = some (.int .i64 C) := b2.cell 2
      have e2 : w2.cell? ⟨E, 3, none⟩ = some (.int .i64 ct) := b2.cell 3
      have e3 := b2.frozen 0
      have e4 := b2.frozen 2
      have e5 := b2.frozen 3
      have B2 := hid b2
      have hk2 : Keep (fun k => (Value.slice (some ⟨g, 0, none⟩) (m + 1) c).ownBlock = some k) w w2 := (((Keep.refl _ w).drew).alloc _).grown hg2 (fun k hk => .inl hk)
      have HK2 := hid hk2
      have HO2 := hid hown2
      have HA2 := hid hat2
      have HNE2 := hid (own_ne hown2 b2 (by decide))
      clear b2 hk2 hown2 hat2 _hold2 hg2
      refine hK _ _ all_nil ?_
      clear hK K
      try simp only [Act.put, List.setIfInBounds_toArray, List.set_cons_zero, List.set_cons_succ]
      refine At.pure 16 (some 74) (v := ?v16d) rfl rfl (by kernel_rfl) (fun _ _ _ h => h) rfl (fun w' => ?y16d) ?_   
      case y16d => go_simp; try with_reducible rfl
      try simp only [Act.put, List.setIfInBounds_toArray, List.set_cons_zero, List.set_cons_succ]
      refine At.pure 17 (some 75) (v := ?v17d) rfl rfl (by kernel_rfl) (fun _ _ _ h => h) rfl (fun w' => ?y17d) ?_   
      case y17d => go_simp; try with_reducible rfl
      try simp only [Act.put, List.setIfInBounds_toArray, List.set_cons_zero, List.set_cons_succ]
      refine At.pure 18 (some 76) (v := ?v18d) rfl rfl (by kernel_rfl) (fun _ _ _ h => h) rfl (fun w' => ?y18d) ?_   
      case y18d => go_simp; try with_reducible rfl
      try simp only [Act.put, List.setIfInBounds_toArray, List.set_cons_zero, List.set_cons_succ]
      refine At.call 19 (pend' := []) rfl (by kernel_rfl) rfl (by kernel_rfl) (fun K hK => ?_)   
      go_simp
      skip
      refine hK _ _ all_nil ?_
      clear hK K
      try simp only [Act.put, List.setIfInBounds_toArray, List.set_cons_zero, List.set_cons_succ]
      refine At.done (by kernel_rfl) ?_
      have HF2 := hid (show ∀ w6, Keep (fun k => k = E) w2 w6 → Blk w6 E 73 #[.slice A2 ((m + 1) + 1) c2, .int .i64 a, .int .i64 (C % 524288), .int .i64 8] → EnP w base E (some ⟨g, 0, none⟩) ⟨a, C % 524288, 8, l ++ [C / 524288]⟩ (.returned (.tuple #[])) w6 from fun w6 hk6 hb6 => by
        refine ⟨A2, (m + 1) + 1, c2, rfl, ⟨hb6, ?_⟩, ?_, ?_⟩
        · have := own_keep HO2.out hk6 (fun k e hk => HNE2.out (by rw [e, hk]))
          rw [show IntKind.u8.wrap (C / 524288) = C / 524288 from IntWalk.u8_in _ (by omega)] at this
          simpa using this
        · exact Grew.of HA2.out (by have := HKW.out.size; show _ ≤ (w).heap.size + 1; omega)
        · exact HKW.out.trans ((HK2.out.mono (fun k _ h => .inr (own_foot h))).trans hk6 (fun k _ h => .inl h)) (fun k _ h => h))
      have hlow := low19 (C)
      go_wp2_with fail
      go_region
      go_wp2_with fail
      go_end0
      refine HF2.out _ ?_ ?_
      · with_reducible (repeat (first | refine Keep.drew ?_ | refine Keep.setR ?_ _ _ | exact Keep.refl _ _))
      · have := (((B2.out.set_ 0 (.slice A2 ((m + 1) + 1) c2)).set_ 2 (.int .i64 (C % 524288))).drew.set_ 3 (.int .i64 8))
        first | exact this | exact this.drew | exact (((B2.out.set_ 0 (.slice A2 ((m + 1) + 1) c2)).set_ 2 (.int .i64 (C % 524288))).set_ 3 (.int .i64 8)).drew | exact ((((B2.out.set_ 0 (.slice A2 ((m + 1) + 1) c2)).drew).set_ 2 (.int .i64 (C % 524288))).set_ 3 (.int .i64 8))
end Go.Proofs.Ytcieeoobobafmaa
