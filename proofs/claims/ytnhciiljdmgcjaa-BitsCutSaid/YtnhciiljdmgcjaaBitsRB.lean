/-
  The reference's writer of bits: all its bytes. Conditions: at most 2^30 bytes are written.
-/
import Derived.Test.YtnhciiljdmgcjaaBitsRW
namespace Go.Proofs.Ytnhciiljdmgcjaa
open Go.RowKit

def BytesP (w : World) (out : List Int) (e : Ending) (w' : World) : Prop :=
  ∃ A' n' c', e = .returned (.slice A' n' c') ∧ w'.ownsRow w.heap.size 5 1 (.slice A' n' c') n' (out.map (Value.int .u8)) ∧ Keep (fun _ => False) w w'
theorem bytesP_mk {w w' : World} {out : List Int} {A : Option Addr} {n c : Nat} (h : w'.ownsRow w.heap.size 5 1 (.slice A n c) n (out.map (Value.int .u8))) (hk : Keep (fun _ => False) w w') : BytesP w out (.returned (.slice A n c)) w' := ⟨A, n, c, rfl, h, hk⟩

def rbytesM (b : List Int) (u f : Int) : List Int := outB (if f < topM b then b ++ [u % 256] else b)

theorem lastM_at {w : World} {g n : Nat} {b : List Int} (hgl : ∀ j u, (b.map (Value.int .u8))[j]? = some u → w.cell? ⟨g, j, none⟩ = some u) (hl : b.length = n + 1) : w.cell? ⟨g, n, none⟩ = some (.int .u8 (lastM b)) := by
  have := hgl n _ (map_at _ _ n (by omega))
  unfold lastM
  rw [hl]
  exact this

set_option maxHeartbeats 1600000 in
theorem rbytes_nil (w : World) (base W : Nat) (A : Option Addr) (c : Nat) (b : List Int) (u f : Int) (n : Nat) (h : RW0 w base W A n c b u f) (hn0 : n < 1) :
    Calls Try.prog 19 #[.pointer (some ⟨W, 0, none⟩)] w (BytesP w (rbytesM b u f)) := by
  obtain ⟨i0, hi0, hz0, hz1, hz2⟩ := info_parts info_u8
  have h0 : (w.alloc (.cells #[] 5)).cell? ⟨W, 0, none⟩ = some (.slice A n c) := (h.blk.alloc _).cell 0
  have h1 : w.cell? ⟨W, 1, none⟩ = some (.int .i64 u) := h.blk.cell 1
  have h2 : w.cell? ⟨W, 2, none⟩ = some (.int .i64 f) := h.blk.cell 2
  have HR := hid (Rd.of_own h.own)
  have hlb := h.len
  clear h
  have ht : topM b = 8 := by rw [List.eq_nil_of_length_eq_zero (l := b) (by omega)]; decide
  by_cases hf : f < 8
  · by_cases hu : u % 256 = 255
    · have HM := hid (show rbytesM b u f = (b ++ [255]) ++ [0] by unfold rbytesM outB; rw [ht, if_pos hf, lastM_snoc, if_pos hu, hu])
      go_enter Try.func19, Try.ntmps19
      go_wp2_with (
        at_builtin
        first
        | refine wpList_append_src _ rfl (.tmp 5) (.tmp 9) _ rfl w.heap.size 5 i0 _ 1 Try.underlying31 hi0 hz0 hz1 hz2 rfl (World.ownsRow_made w #[] 0 (Nat.le_refl _) (by simp [maxLen]) rfl) rfl (HR.out.alloc _) rfl (oneCell_ints _ _) (by simp only [maxLen]; omega) (by omega) (by simp) ?_
          intro v1 w1 hown1 hg1 _hat1 _hold1
          rw [Nat.zero_add, List.nil_append] at hown1
          obtain ⟨A1, c1, rfl⟩ := own_form hown1
          have hk1 : Keep (fun _ => False) w w1 := ((Keep.refl _ w).alloc _).grown hg1 (fun k hk => .inr (by simp [Value.ownBlock] at hk; omega))
          have H1 := hid hown1
          have HK1 := hid hk1
          have g2 := hk1.cell h2 (fun h => h)
          have g1 := hk1.cell h1 (fun h => h)
          have hs1 := hk1.size
          clear hown1 hg1 _hat1 _hold1 hk1
        | refine wpList_append_one w1 rfl (.tmp 29) (.tmp 35) _ rfl w.heap.size 5 i0 _ 1 Try.underlying31 hi0 hz0 hz1 hz2 rfl H1.out rfl _ rfl rfl (by simp only [maxLen]; omega) (by omega) (by omega) ?_
          intro v2 w2 hown2 hg2 _hat2 _hold2
          obtain ⟨A2, c2, rfl⟩ := own_form hown2
          obtain ⟨g, rfl, hgc, hgb, hgl, hgf⟩ := own_at hown2 (by omega)
          have gu : w2.cell? ⟨g, n, none⟩ = some (.int .u8 255) := hgl n _ (by rw [← hlb]; simp)
          have hk2 : Keep (fun _ => False) w w2 := (HK1.out.alloc _).grown hg2 (fun k hk => .inr (H1.out.lt k hk).1)
          have H2 := hid (show w2.ownsRow w.heap.size 5 1 (.slice (some ⟨g, 0, none⟩) (n + 1) c2) (n + 1) ((b ++ [255]).map (Value.int .u8)) by simpa using hown2)
          have HK2 := hid hk2
          have hs2 := hk2.size
          clear hown2 hg2 _hat2 _hold2 hk2 hgl hgf
        | refine wpList_append_one w2 rfl (.tmp 49) (.tmp 50) _ rfl w.heap.size 5 i0 _ 1 Try.underlying31 hi0 hz0 hz1 hz2 rfl H2.out rfl _ rfl rfl (by simp only [maxLen]; omega) (by omega) (by omega) ?_
          intro v3 w3 hown3 hg3 _hat3 _hold3
          obtain ⟨A3, c3, rfl⟩ := own_form hown3
          have H3 := hid (show w3.ownsRow w.heap.size 5 1 (.slice A3 ((n + 1) + 1) c3) ((n + 1) + 1) (((b ++ [255]) ++ [0]).map (Value.int .u8)) by simpa using hown3)
          have HK3 := hid (show Keep (fun _ => False) w w3 from (HK2.out.alloc _).grown hg3 (fun k hk => .inr (H2.out.lt k hk).1))
          clear hown3 hg3 _hat3 _hold3
        )
      go_ret
      rw [HM.out]
      exact bytesP_mk H3.out HK3.out
    · have HM := hid (show rbytesM b u f = b ++ [u % 256] by unfold rbytesM outB; rw [ht, if_pos hf, lastM_snoc, if_neg hu])
      have hu' : (u % 256 == 255) = false := by simpa using hu
      go_enter Try.func19, Try.ntmps19
      go_wp2_with (
        at_builtin
        first
        | refine wpList_append_src _ rfl (.tmp 5) (.tmp 9) _ rfl w.heap.size 5 i0 _ 1 Try.underlying31 hi0 hz0 hz1 hz2 rfl (World.ownsRow_made w #[] 0 (Nat.le_refl _) (by simp [maxLen]) rfl) rfl (HR.out.alloc _) rfl (oneCell_ints _ _) (by simp only [maxLen]; omega) (by omega) (by simp) ?_
          intro v1 w1 hown1 hg1 _hat1 _hold1
          rw [Nat.zero_add, List.nil_append] at hown1
          obtain ⟨A1, c1, rfl⟩ := own_form hown1
          have hk1 : Keep (fun _ => False) w w1 := ((Keep.refl _ w).alloc _).grown hg1 (fun k hk => .inr (by simp [Value.ownBlock] at hk; omega))
          have H1 := hid hown1
          have HK1 := hid hk1
          have g2 := hk1.cell h2 (fun h => h)
          have g1 := hk1.cell h1 (fun h => h)
          have hs1 := hk1.size
          clear hown1 hg1 _hat1 _hold1 hk1
        | refine wpList_append_one w1 rfl (.tmp 29) (.tmp 35) _ rfl w.heap.size 5 i0 _ 1 Try.underlying31 hi0 hz0 hz1 hz2 rfl H1.out rfl _ rfl rfl (by simp only [maxLen]; omega) (by omega) (by omega) ?_
          intro v2 w2 hown2 hg2 _hat2 _hold2
          obtain ⟨A2, c2, rfl⟩ := own_form hown2
          obtain ⟨g, rfl, hgc, hgb, hgl, hgf⟩ := own_at hown2 (by omega)
          have gu : w2.cell? ⟨g, n, none⟩ = some (.int .u8 (u % 256)) := hgl n _ (by rw [← hlb]; simp)
          have hk2 : Keep (fun _ => False) w w2 := (HK1.out.alloc _).grown hg2 (fun k hk => .inr (H1.out.lt k hk).1)
          have H2 := hid (show w2.ownsRow w.heap.size 5 1 (.slice (some ⟨g, 0, none⟩) (n + 1) c2) (n + 1) ((b ++ [(u % 256)]).map (Value.int .u8)) by simpa using hown2)
          have HK2 := hid hk2
          have hs2 := hk2.size
          clear hown2 hg2 _hat2 _hold2 hk2 hgl hgf
        )
      go_ret
      rw [HM.out]
      exact bytesP_mk H2.out HK2.out
  · have HM := hid (show rbytesM b u f = b by unfold rbytesM outB; rw [ht, if_neg hf, List.eq_nil_of_length_eq_zero (l := b) (by omega)]; decide)
    go_enter Try.func19, Try.ntmps19
    go_wp2_with (
      at_builtin
      first
      | refine wpList_append_src _ rfl (.tmp 5) (.tmp 9) _ rfl w.heap.size 5 i0 _ 1 Try.underlying31 hi0 hz0 hz1 hz2 rfl (World.ownsRow_made w #[] 0 (Nat.le_refl _) (by simp [maxLen]) rfl) rfl (HR.out.alloc _) rfl (oneCell_ints _ _) (by simp only [maxLen]; omega) (by omega) (by simp) ?_
        intro v1 w1 hown1 hg1 _hat1 _hold1
        rw [Nat.zero_add, List.nil_append] at hown1
        obtain ⟨A1, c1, rfl⟩ := own_form hown1
        have hk1 : Keep (fun _ => False) w w1 := ((Keep.refl _ w).alloc _).grown hg1 (fun k hk => .inr (by simp [Value.ownBlock] at hk; omega))
        have H1 := hid hown1
        have HK1 := hid hk1
        have g2 := hk1.cell h2 (fun h => h)
        have g1 := hk1.cell h1 (fun h => h)
        have hs1 := hk1.size
        clear hown1 hg1 _hat1 _hold1 hk1
      )
    go_ret
    rw [HM.out]
    exact bytesP_mk H1.out HK1.out


set_option maxHeartbeats 1600000 in
theorem rbytes_full (w : World) (base W : Nat) (A : Option Addr) (c : Nat) (b : List Int) (u f : Int) (m : Nat) (h : RW0 w base W A (m + 1) c b u f) (hn : m + 1 ≤ 1073741824) (hz : lastM b=255) :
    Calls Try.prog 19 #[.pointer (some ⟨W, 0, none⟩)] w (BytesP w (rbytesM b u f)) := by
  obtain ⟨i0, hi0, hz0, hz1, hz2⟩ := info_parts info_u8
  have h0 : (w.alloc (.cells #[] 5)).cell? ⟨W, 0, none⟩ = some (.slice A (m + 1) c) := (h.blk.alloc _).cell 0
  have h1 : w.cell? ⟨W, 1, none⟩ = some (.int .i64 u) := h.blk.cell 1
  have h2 : w.cell? ⟨W, 2, none⟩ = some (.int .i64 f) := h.blk.cell 2
  have HR := hid (Rd.of_own h.own)
  have hlb := h.len
  clear h
  have ht : topM b = 7 := by unfold topM; simp [hz]
  have hz' : (lastM b == 255) = true := by simpa using hz
  have wm : IntKind.i64.wrap (((m + 1 : Nat) : Int) - 1) = (m : Int) := by rw [IntWalk.i64_in _ (by omega)]; omega
  by_cases hf : f < 7
  · by_cases hu : u % 256 = 255
    · have HM := hid (show rbytesM b u f = (b ++ [255]) ++ [0] by unfold rbytesM outB; rw [ht, if_pos hf, lastM_snoc, if_pos hu, hu])
      go_enter Try.func19, Try.ntmps19
      go_wp2_with (
        at_builtin
        first
        | refine wpList_append_src _ rfl (.tmp 5) (.tmp 9) _ rfl w.heap.size 5 i0 _ 1 Try.underlying31 hi0 hz0 hz1 hz2 rfl (World.ownsRow_made w #[] 0 (Nat.le_refl _) (by simp [maxLen]) rfl) rfl (HR.out.alloc _) rfl (oneCell_ints _ _) (by simp only [maxLen]; omega) (by omega) (by simp) ?_
          intro v1 w1 hown1 hg1 _hat1 _hold1
          rw [Nat.zero_add, List.nil_append] at hown1
          obtain ⟨A1, c1, rfl⟩ := own_form hown1
          have hk1 : Keep (fun _ => False) w w1 := ((Keep.refl _ w).alloc _).grown hg1 (fun k hk => .inr (by simp [Value.ownBlock] at hk; omega))
          have H1 := hid hown1
          have HK1 := hid hk1
          have g2 := hk1.cell h2 (fun h => h)
          have g1 := hk1.cell h1 (fun h => h)
          have hs1 := hk1.size
          clear hown1 hg1 _hat1 _hold1 hk1
          obtain ⟨gg, rfl, hgc1, hgb1, hgl1, _⟩ := own_at H1.out (by omega)
          have gz := lastM_at hgl1 hlb
          clear hgl1
        | refine wpList_append_one w1 rfl (.tmp 29) (.tmp 35) _ rfl w.heap.size 5 i0 _ 1 Try.underlying31 hi0 hz0 hz1 hz2 rfl H1.out rfl _ rfl rfl (by simp only [maxLen]; omega) (by omega) (by omega) ?_
          intro v2 w2 hown2 hg2 _hat2 _hold2
          obtain ⟨A2, c2, rfl⟩ := own_form hown2
          obtain ⟨g, rfl, hgc, hgb, hgl, hgf⟩ := own_at hown2 (by omega)
          have gu : w2.cell? ⟨g, (m + 1), none⟩ = some (.int .u8 255) := hgl (m + 1) _ (by rw [← hlb]; simp)
          have hk2 : Keep (fun _ => False) w w2 := (HK1.out.alloc _).grown hg2 (fun k hk => .inr (H1.out.lt k hk).1)
          have H2 := hid (show w2.ownsRow w.heap.size 5 1 (.slice (some ⟨g, 0, none⟩) ((m + 1) + 1) c2) ((m + 1) + 1) ((b ++ [255]).map (Value.int .u8)) by simpa using hown2)
          have HK2 := hid hk2
          have hs2 := hk2.size
          clear hown2 hg2 _hat2 _hold2 hk2 hgl hgf
        | refine wpList_append_one w2 rfl (.tmp 49) (.tmp 50) _ rfl w.heap.size 5 i0 _ 1 Try.underlying31 hi0 hz0 hz1 hz2 rfl H2.out rfl _ rfl rfl (by simp only [maxLen]; omega) (by omega) (by omega) ?_
          intro v3 w3 hown3 hg3 _hat3 _hold3
          obtain ⟨A3, c3, rfl⟩ := own_form hown3
          have H3 := hid (show w3.ownsRow w.heap.size 5 1 (.slice A3 (((m + 1) + 1) + 1) c3) (((m + 1) + 1) + 1) (((b ++ [255]) ++ [0]).map (Value.int .u8)) by simpa using hown3)
          have HK3 := hid (show Keep (fun _ => False) w w3 from (HK2.out.alloc _).grown hg3 (fun k hk => .inr (H2.out.lt k hk).1))
          clear hown3 hg3 _hat3 _hold3
        )
      go_ret
      rw [HM.out]
      exact bytesP_mk H3.out HK3.out
    · have HM := hid (show rbytesM b u f = b ++ [u % 256] by unfold rbytesM outB; rw [ht, if_pos hf, lastM_snoc, if_neg hu])
      have hu' : (u % 256 == 255) = false := by simpa using hu
      go_enter Try.func19, Try.ntmps19
      go_wp2_with (
        at_builtin
        first
        | refine wpList_append_src _ rfl (.tmp 5) (.tmp 9) _ rfl w.heap.size 5 i0 _ 1 Try.underlying31 hi0 hz0 hz1 hz2 rfl (World.ownsRow_made w #[] 0 (Nat.le_refl _) (by simp [maxLen]) rfl) rfl (HR.out.alloc _) rfl (oneCell_ints _ _) (by simp only [maxLen]; omega) (by omega) (by simp) ?_
          intro v1 w1 hown1 hg1 _hat1 _hold1
          rw [Nat.zero_add, List.nil_append] at hown1
          obtain ⟨A1, c1, rfl⟩ := own_form hown1
          have hk1 : Keep (fun _ => False) w w1 := ((Keep.refl _ w).alloc _).grown hg1 (fun k hk => .inr (by simp [Value.ownBlock] at hk; omega))
          have H1 := hid hown1
          have HK1 := hid hk1
          have g2 := hk1.cell h2 (fun h => h)
          have g1 := hk1.cell h1 (fun h => h)
          have hs1 := hk1.size
          clear hown1 hg1 _hat1 _hold1 hk1
          obtain ⟨gg, rfl, hgc1, hgb1, hgl1, _⟩ := own_at H1.out (by omega)
          have gz := lastM_at hgl1 hlb
          clear hgl1
        | refine wpList_append_one w1 rfl (.tmp 29) (.tmp 35) _ rfl w.heap.size 5 i0 _ 1 Try.underlying31 hi0 hz0 hz1 hz2 rfl H1.out rfl _ rfl rfl (by simp only [maxLen]; omega) (by omega) (by omega) ?_
          intro v2 w2 hown2 hg2 _hat2 _hold2
          obtain ⟨A2, c2, rfl⟩ := own_form hown2
          obtain ⟨g, rfl, hgc, hgb, hgl, hgf⟩ := own_at hown2 (by omega)
          have gu : w2.cell? ⟨g, (m + 1), none⟩ = some (.int .u8 (u % 256)) := hgl (m + 1) _ (by rw [← hlb]; simp)
          have hk2 : Keep (fun _ => False) w w2 := (HK1.out.alloc _).grown hg2 (fun k hk => .inr (H1.out.lt k hk).1)
          have H2 := hid (show w2.ownsRow w.heap.size 5 1 (.slice (some ⟨g, 0, none⟩) ((m + 1) + 1) c2) ((m + 1) + 1) ((b ++ [(u % 256)]).map (Value.int .u8)) by simpa using hown2)
          have HK2 := hid hk2
          have hs2 := hk2.size
          clear hown2 hg2 _hat2 _hold2 hk2 hgl hgf
        )
      go_ret
      rw [HM.out]
      exact bytesP_mk H2.out HK2.out
  · have HM := hid (show rbytesM b u f = b ++ [0] by unfold rbytesM outB; rw [ht, if_neg hf, if_pos hz])
    go_enter Try.func19, Try.ntmps19
    go_wp2_with (
      at_builtin
      first
      | refine wpList_append_src _ rfl (.tmp 5) (.tmp 9) _ rfl w.heap.size 5 i0 _ 1 Try.underlying31 hi0 hz0 hz1 hz2 rfl (World.ownsRow_made w #[] 0 (Nat.le_refl _) (by simp [maxLen]) rfl) rfl (HR.out.alloc _) rfl (oneCell_ints _ _) (by simp only [maxLen]; omega) (by omega) (by simp) ?_
        intro v1 w1 hown1 hg1 _hat1 _hold1
        rw [Nat.zero_add, List.nil_append] at hown1
        obtain ⟨A1, c1, rfl⟩ := own_form hown1
        have hk1 : Keep (fun _ => False) w w1 := ((Keep.refl _ w).alloc _).grown hg1 (fun k hk => .inr (by simp [Value.ownBlock] at hk; omega))
        have H1 := hid hown1
        have HK1 := hid hk1
        have g2 := hk1.cell h2 (fun h => h)
        have g1 := hk1.cell h1 (fun h => h)
        have hs1 := hk1.size
        clear hown1 hg1 _hat1 _hold1 hk1
        obtain ⟨gg, rfl, hgc1, hgb1, hgl1, _⟩ := own_at H1.out (by omega)
        have gz := lastM_at hgl1 hlb
        clear hgl1
      | refine wpList_append_one w1 rfl (.tmp 49) (.tmp 50) _ rfl w.heap.size 5 i0 _ 1 Try.underlying31 hi0 hz0 hz1 hz2 rfl H1.out rfl _ rfl rfl (by simp only [maxLen]; omega) (by omega) (by omega) ?_
        intro v3 w3 hown3 hg3 _hat3 _hold3
        obtain ⟨A3, c3, rfl⟩ := own_form hown3
        have H3 := hid (show w3.ownsRow w.heap.size 5 1 (.slice A3 ((m + 1) + 1) c3) ((m + 1) + 1) ((b ++ [0]).map (Value.int .u8)) by simpa using hown3)
        have HK3 := hid (show Keep (fun _ => False) w w3 from (HK1.out.alloc _).grown hg3 (fun k hk => .inr (H1.out.lt k hk).1))
        clear hown3 hg3 _hat3 _hold3
      )
    go_ret
    rw [HM.out]
    exact bytesP_mk H3.out HK3.out
set_option maxHeartbeats 1600000 in
theorem rbytes_free (w : World) (base W : Nat) (A : Option Addr) (c : Nat) (b : List Int) (u f : Int) (m : Nat) (h : RW0 w base W A (m + 1) c b u f) (hn : m + 1 ≤ 1073741824) (hz : ¬lastM b=255) :
    Calls Try.prog 19 #[.pointer (some ⟨W, 0, none⟩)] w (BytesP w (rbytesM b u f)) := by
  obtain ⟨i0, hi0, hz0, hz1, hz2⟩ := info_parts info_u8
  have h0 : (w.alloc (.cells #[] 5)).cell? ⟨W, 0, none⟩ = some (.slice A (m + 1) c) := (h.blk.alloc _).cell 0
  have h1 : w.cell? ⟨W, 1, none⟩ = some (.int .i64 u) := h.blk.cell 1
  have h2 : w.cell? ⟨W, 2, none⟩ = some (.int .i64 f) := h.blk.cell 2
  have HR := hid (Rd.of_own h.own)
  have hlb := h.len
  clear h
  have ht : topM b = 8 := by unfold topM; simp [hz]
  have hz' : (lastM b == 255) = false := by simpa using hz
  have wm : IntKind.i64.wrap (((m + 1 : Nat) : Int) - 1) = (m : Int) := by rw [IntWalk.i64_in _ (by omega)]; omega
  by_cases hf : f < 8
  · by_cases hu : u % 256 = 255
    · have HM := hid (show rbytesM b u f = (b ++ [255]) ++ [0] by unfold rbytesM outB; rw [ht, if_pos hf, lastM_snoc, if_pos hu, hu])
      go_enter Try.func19, Try.ntmps19
      go_wp2_with (
        at_builtin
        first
        | refine wpList_append_src _ rfl (.tmp 5) (.tmp 9) _ rfl w.heap.size 5 i0 _ 1 Try.underlying31 hi0 hz0 hz1 hz2 rfl (World.ownsRow_made w #[] 0 (Nat.le_refl _) (by simp [maxLen]) rfl) rfl (HR.out.alloc _) rfl (oneCell_ints _ _) (by simp only [maxLen]; omega) (by omega) (by simp) ?_
          intro v1 w1 hown1 hg1 _hat1 _hold1
          rw [Nat.zero_add, List.nil_append] at hown1
          obtain ⟨A1, c1, rfl⟩ := own_form hown1
          have hk1 : Keep (fun _ => False) w w1 := ((Keep.refl _ w).alloc _).grown hg1 (fun k hk => .inr (by simp [Value.ownBlock] at hk; omega))
          have H1 := hid hown1
          have HK1 := hid hk1
          have g2 := hk1.cell h2 (fun h => h)
          have g1 := hk1.cell h1 (fun h => h)
          have hs1 := hk1.size
          clear hown1 hg1 _hat1 _hold1 hk1
          obtain ⟨gg, rfl, hgc1, hgb1, hgl1, _⟩ := own_at H1.out (by omega)
          have gz := lastM_at hgl1 hlb
          clear hgl1
        | refine wpList_append_one w1 rfl (.tmp 29) (.tmp 35) _ rfl w.heap.size 5 i0 _ 1 Try.underlying31 hi0 hz0 hz1 hz2 rfl H1.out rfl _ rfl rfl (by simp only [maxLen]; omega) (by omega) (by omega) ?_
          intro v2 w2 hown2 hg2 _hat2 _hold2
          obtain ⟨A2, c2, rfl⟩ := own_form hown2
          obtain ⟨g, rfl, hgc, hgb, hgl, hgf⟩ := own_at hown2 (by omega)
          have gu : w2.cell? ⟨g, (m + 1), none⟩ = some (.int .u8 255) := hgl (m + 1) _ (by rw [← hlb]; simp)
          have hk2 : Keep (fun _ => False) w w2 := (HK1.out.alloc _).grown hg2 (fun k hk => .inr (H1.out.lt k hk).1)
          have H2 := hid (show w2.ownsRow w.heap.size 5 1 (.slice (some ⟨g, 0, none⟩) ((m + 1) + 1) c2) ((m + 1) + 1) ((b ++ [255]).map (Value.int .u8)) by simpa using hown2)
          have HK2 := hid hk2
          have hs2 := hk2.size
          clear hown2 hg2 _hat2 _hold2 hk2 hgl hgf
        | refine wpList_append_one w2 rfl (.tmp 49) (.tmp 50) _ rfl w.heap.size 5 i0 _ 1 Try.underlying31 hi0 hz0 hz1 hz2 rfl H2.out rfl _ rfl rfl (by simp only [maxLen]; omega) (by omega) (by omega) ?_
          intro v3 w3 hown3 hg3 _hat3 _hold3
          obtain ⟨A3, c3, rfl⟩ := own_form hown3
          have H3 := hid (show w3.ownsRow w.heap.size 5 1 (.slice A3 (((m + 1) + 1) + 1) c3) (((m + 1) + 1) + 1) (((b ++ [255]) ++ [0]).map (Value.int .u8)) by simpa using hown3)
          have HK3 := hid (show Keep (fun _ => False) w w3 from (HK2.out.alloc _).grown hg3 (fun k hk => .inr (H2.out.lt k hk).1))
          clear hown3 hg3 _hat3 _hold3
        )
      go_ret
      rw [HM.out]
      exact bytesP_mk H3.out HK3.out
    · have HM := hid (show rbytesM b u f = b ++ [u % 256] by unfold rbytesM outB; rw [ht, if_pos hf, lastM_snoc, if_neg hu])
      have hu' : (u % 256 == 255) = false := by simpa using hu
      go_enter Try.func19, Try.ntmps19
      go_wp2_with (
        at_builtin
        first
        | refine wpList_append_src _ rfl (.tmp 5) (.tmp 9) _ rfl w.heap.size 5 i0 _ 1 Try.underlying31 hi0 hz0 hz1 hz2 rfl (World.ownsRow_made w #[] 0 (Nat.le_refl _) (by simp [maxLen]) rfl) rfl (HR.out.alloc _) rfl (oneCell_ints _ _) (by simp only [maxLen]; omega) (by omega) (by simp) ?_
          intro v1 w1 hown1 hg1 _hat1 _hold1
          rw [Nat.zero_add, List.nil_append] at hown1
          obtain ⟨A1, c1, rfl⟩ := own_form hown1
          have hk1 : Keep (fun _ => False) w w1 := ((Keep.refl _ w).alloc _).grown hg1 (fun k hk => .inr (by simp [Value.ownBlock] at hk; omega))
          have H1 := hid hown1
          have HK1 := hid hk1
          have g2 := hk1.cell h2 (fun h => h)
          have g1 := hk1.cell h1 (fun h => h)
          have hs1 := hk1.size
          clear hown1 hg1 _hat1 _hold1 hk1
          obtain ⟨gg, rfl, hgc1, hgb1, hgl1, _⟩ := own_at H1.out (by omega)
          have gz := lastM_at hgl1 hlb
          clear hgl1
        | refine wpList_append_one w1 rfl (.tmp 29) (.tmp 35) _ rfl w.heap.size 5 i0 _ 1 Try.underlying31 hi0 hz0 hz1 hz2 rfl H1.out rfl _ rfl rfl (by simp only [maxLen]; omega) (by omega) (by omega) ?_
          intro v2 w2 hown2 hg2 _hat2 _hold2
          obtain ⟨A2, c2, rfl⟩ := own_form hown2
          obtain ⟨g, rfl, hgc, hgb, hgl, hgf⟩ := own_at hown2 (by omega)
          have gu : w2.cell? ⟨g, (m + 1), none⟩ = some (.int .u8 (u % 256)) := hgl (m + 1) _ (by rw [← hlb]; simp)
          have hk2 : Keep (fun _ => False) w w2 := (HK1.out.alloc _).grown hg2 (fun k hk => .inr (H1.out.lt k hk).1)
          have H2 := hid (show w2.ownsRow w.heap.size 5 1 (.slice (some ⟨g, 0, none⟩) ((m + 1) + 1) c2) ((m + 1) + 1) ((b ++ [(u % 256)]).map (Value.int .u8)) by simpa using hown2)
          have HK2 := hid hk2
          have hs2 := hk2.size
          clear hown2 hg2 _hat2 _hold2 hk2 hgl hgf
        )
      go_ret
      rw [HM.out]
      exact bytesP_mk H2.out HK2.out
  · have HM := hid (show rbytesM b u f = b by unfold rbytesM outB; rw [ht, if_neg hf, if_neg hz])
    go_enter Try.func19, Try.ntmps19
    go_wp2_with (
      at_builtin
      first
      | refine wpList_append_src _ rfl (.tmp 5) (.tmp 9) _ rfl w.heap.size 5 i0 _ 1 Try.underlying31 hi0 hz0 hz1 hz2 rfl (World.ownsRow_made w #[] 0 (Nat.le_refl _) (by simp [maxLen]) rfl) rfl (HR.out.alloc _) rfl (oneCell_ints _ _) (by simp only [maxLen]; omega) (by omega) (by simp) ?_
        intro v1 w1 hown1 hg1 _hat1 _hold1
        rw [Nat.zero_add, List.nil_append] at hown1
        obtain ⟨A1, c1, rfl⟩ := own_form hown1
        have hk1 : Keep (fun _ => False) w w1 := ((Keep.refl _ w).alloc _).grown hg1 (fun k hk => .inr (by simp [Value.ownBlock] at hk; omega))
        have H1 := hid hown1
        have HK1 := hid hk1
        have g2 := hk1.cell h2 (fun h => h)
        have g1 := hk1.cell h1 (fun h => h)
        have hs1 := hk1.size
        clear hown1 hg1 _hat1 _hold1 hk1
        obtain ⟨gg, rfl, hgc1, hgb1, hgl1, _⟩ := own_at H1.out (by omega)
        have gz := lastM_at hgl1 hlb
        clear hgl1
      )
    go_ret
    rw [HM.out]
    exact bytesP_mk H1.out HK1.out

theorem rbytes_any (w : World) (base W : Nat) (A : Option Addr) (n c : Nat) (l : List Int) (r : Int) (h : RWr w base W A n c l r) (hi : BInv l r) (hn : l.length ≤ 1073741824) :
    Calls Try.prog 19 #[.pointer (some ⟨W, 0, none⟩)] w (BytesP w (outB l)) := by
  have e : rbytesM (refB l r) (curM l r) (freeM l r) = outB l := by
    unfold rbytesM
    by_cases hr : r = 0
    · have e1 : refB l r = l := if_pos hr
      have e3 : freeM l r = topM l := if_pos hr
      rw [e1, e3, if_neg (by omega)]
    · have hr0 := hi.r0
      have e1 : refB l r = l.dropLast := if_neg hr
      have e2 : curM l r = lastM l := if_neg hr
      have e3 : freeM l r = r := if_neg hr
      have hb := lastM_byte hi.bytes
      have hm : lastM l % 256 = lastM l := by omega
      rw [e1, e2, e3, if_pos (hi.top (by omega)), hm, snoc_last l (hi.some_ (by omega))]
  rw [← e]
  have hl := refB_le l r
  have hn' := RW0.len h
  rcases Nat.eq_zero_or_pos n with h0 | h0
  · exact rbytes_nil w base W A c _ _ _ n h (by omega)
  · obtain ⟨m, rfl⟩ : ∃ m, n = m + 1 := ⟨n - 1, by omega⟩
    by_cases hz : lastM (refB l r) = 255
    · exact rbytes_full w base W A c _ _ _ m h (by omega) hz
    · exact rbytes_free w base W A c _ _ _ m h (by omega) hz

set_option maxHeartbeats 400000 in
theorem newrw_any (w : World) :
    Calls Try.prog 12 #[] w fun e w' => e = .returned (.pointer (some ⟨w.heap.size, 0, none⟩)) ∧ RWr w' w.heap.size w.heap.size none 0 0 [] 0 ∧ Keep (fun _ => False) w w' := by
  go_enter Try.func12, Try.ntmps12
  go_wp2_with fail
  go_ret
  refine ⟨rfl, ⟨?_, ?_⟩, (Keep.refl _ w).alloc _⟩
  · exact Blk.new _ _ _
  · exact World.ownsRow_nil _ _ _ _

/-! ### two writers, side by side -/
theorem foot_grew {w : World} {W : Nat} {A A1 : Option Addr} (g : Grew w A A1) (k : Nat) (h : foot W A1 k) : foot W A k ∨ w.heap.size ≤ k := by
  rcases h with h | ⟨ad, e, h⟩
  · exact .inl (.inl h)
  · rcases g ad e with ⟨a0, e0, h'⟩ | h'
    · exact .inl (.inr ⟨a0, e0, by omega⟩)
    · exact .inr (by omega)
theorem own_foot_lt {w : World} {base n c : Nat} {A : Option Addr} {xs : List Value} (h : w.ownsRow base 5 1 (.slice A n c) n xs) : ∀ ad, A = some ad → base ≤ ad.block ∧ ad.block < w.heap.size := fun ad e => by
  subst e
  exact h.lt ad.block rfl
theorem Wr.foot_lt {w : World} {base W : Nat} {A : Option Addr} {n c : Nat} {l : List Int} {r : Int} (h : Wr w base W A n c l r) (k : Nat) (hk : foot W A k) : k < w.heap.size := by
  rcases hk with rfl | ⟨ad, e, rfl⟩
  · exact h.blk.lt
  · exact (own_foot_lt h.own ad e).2
theorem RW0.foot_lt {w : World} {base W : Nat} {A : Option Addr} {n c : Nat} {b : List Int} {u f : Int} (h : RW0 w base W A n c b u f) (k : Nat) (hk : foot W A k) : k < w.heap.size := by
  rcases hk with rfl | ⟨ad, e, rfl⟩
  · exact h.blk.lt
  · exact (own_foot_lt h.own ad e).2

/-- The program's writer and the reference's hold the same; all they hold is new. -/
structure Two (w0 : World) (W X : Nat) (A B : Option Addr) (n c m d : Nat) (l : List Int) (r : Int) (w : World) : Prop where
  wr : Wr w w0.heap.size W A n c l r
  rw_ : RWr w w0.heap.size X B m d l r
  apart : ∀ k, foot W A k → ¬ foot X B k
  hW : w0.heap.size ≤ W
  hX : w0.heap.size ≤ X
  keep : Keep (fun _ => False) w0 w
  inv : BInv l r

theorem Two.footW {w0 w : World} {W X : Nat} {A B : Option Addr} {n c m d : Nat} {l : List Int} {r : Int} (h : Two w0 W X A B n c m d l r w) (k : Nat) (hk : foot W A k) : w0.heap.size ≤ k := by
  rcases hk with rfl | ⟨ad, e, rfl⟩
  · exact h.hW
  · exact (own_foot_lt h.wr.own ad e).1
theorem Two.footX {w0 w : World} {W X : Nat} {A B : Option Addr} {n c m d : Nat} {l : List Int} {r : Int} (h : Two w0 W X A B n c m d l r w) (k : Nat) (hk : foot X B k) : w0.heap.size ≤ k := by
  rcases hk with rfl | ⟨ad, e, rfl⟩
  · exact h.hX
  · exact (own_foot_lt h.rw_.own ad e).1
/-- The program's writer has gone on; the reference's is as it was. -/
theorem Two.ref1 {w0 w w1 : World} {W X : Nat} {A B : Option Addr} {n c m d : Nat} {l : List Int} {r : Int} (h : Two w0 W X A B n c m d l r w) (hk : Keep (foot W A) w w1) : RWr w1 w0.heap.size X B m d l r :=
  RW0.keep h.rw_ hk (fun hf => h.apart X hf (.inl rfl)) (fun ad e hf => h.apart _ hf (.inr ⟨ad, e, rfl⟩))
theorem Two.next {w0 w w1 w2 : World} {W X : Nat} {A B A1 B2 : Option Addr} {n c m d n1 c1 m2 d2 : Nat} {l l1 : List Int} {r r1 : Int} (h : Two w0 W X A B n c m d l r w)
    (h1 : Wr w1 w0.heap.size W A1 n1 c1 l1 r1) (g1 : Grew w A A1) (k1 : Keep (foot W A) w w1) (h2 : RWr w2 w0.heap.size X B2 m2 d2 l1 r1) (g2 : Grew w1 B B2) (k2 : Keep (foot X B) w1 w2) (hi : BInv l1 r1) :
    Two w0 W X A1 B2 n1 c1 m2 d2 l1 r1 w2 := by
  have hap : ∀ k, foot W A1 k → ¬ foot X B k := fun k hf hg => by
    rcases foot_grew g1 k hf with hf | hf
    · exact h.apart k hf hg
    · have := RW0.foot_lt h.rw_ k hg; omega
  refine ⟨h1.keep k2 (hap W (.inl rfl)) (fun ad e => hap _ (.inr ⟨ad, e, rfl⟩)), h2, fun k hf hg => ?_, h.hW, h.hX, (h.keep.new k1 h.footW).new k2 h.footX, hi⟩
  rcases foot_grew g2 k hg with hg | hg
  · exact hap k hf hg
  · have := h1.foot_lt k hf; omega
/-- Elsewhere something was made. -/
theorem Two.aside {w0 w w1 : World} {W X : Nat} {A B : Option Addr} {n c m d : Nat} {l : List Int} {r : Int} (h : Two w0 W X A B n c m d l r w) (hk : Keep (fun _ => False) w w1) : Two w0 W X A B n c m d l r w1 :=
  ⟨h.wr.keep hk (fun h => h) (fun _ _ h => h), RW0.keep h.rw_ hk (fun h => h) (fun _ _ h => h), h.apart, h.hW, h.hX, h.keep.trans hk (fun _ _ h => h), h.inv⟩
theorem Two.drew {w0 w : World} {W X : Nat} {A B : Option Addr} {n c m d : Nat} {l : List Int} {r : Int} (h : Two w0 W X A B n c m d l r w) : Two w0 W X A B n c m d l r w.drew := h.aside (Keep.refl _ w).drew
end Go.Proofs.Ytnhciiljdmgcjaa
