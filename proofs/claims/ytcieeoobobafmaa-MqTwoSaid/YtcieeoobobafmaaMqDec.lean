/-
  The program's decoder: a byte, what comes in. Conditions: at most 2^30 bytes.
-/
import Derived.Test.YtcieeoobobafmaaMqFlush
namespace Go.Proofs.Ytcieeoobobafmaa
open Go.RowKit

/-- The decoder: A, C (on the machine's words: what is no stream may outgrow them), doublings to the next byte, the current byte's place, the bytes. -/
structure DS where
  a : Int
  c : Int
  ct : Int
  p : Nat
def byteM (l : List Int) (k : Nat) : Int := if l.length ≤ k then 255 else l.getD k 0
def inM (l : List Int) (s : DS) : DS :=
  if byteM l s.p = 255 then
    if 143 < byteM l (s.p + 1) then ⟨s.a, wrap64 (s.c + 65280), 8, s.p⟩
    else ⟨s.a, wrap64 (s.c + byteM l (s.p + 1) * 512), 7, s.p + 1⟩
  else ⟨s.a, wrap64 (s.c + byteM l (s.p + 1) * 256), 8, s.p + 1⟩
theorem byteM_range {l : List Int} (h : Bytes l) (k : Nat) : 0 ≤ byteM l k ∧ byteM l k ≤ 255 := by
  unfold byteM
  split
  · omega
  · rename_i hk
    rw [List.getD_eq_getElem?_getD, List.getElem?_eq_getElem (by omega)]
    exact h _ (List.getElem_mem _)
theorem inM_p {l : List Int} {s : DS} (h : s.p ≤ l.length) : (inM l s).p ≤ l.length := by
  unfold inM
  split
  · split
    · exact h
    · rename_i h1 h2
      show s.p + 1 ≤ l.length
      have : ¬ l.length ≤ s.p + 1 := fun hle => h2 (by unfold byteM; rw [if_pos hle]; decide)
      omega
  · rename_i h1
    show s.p + 1 ≤ l.length
    have : ¬ l.length ≤ s.p := fun hle => h1 (by unfold byteM; rw [if_pos hle])
    omega
/-- The decoder at block D over bytes l. -/
structure De (w : World) (base D : Nat) (A : Option Addr) (n c : Nat) (l : List Int) (s : DS) : Prop where
  blk : Blk w D 66 #[.slice A n c, .int .i64 s.a, .int .i64 s.c, .int .i64 s.ct, .int .i64 s.p]
  own : w.ownsRow base 5 1 (.slice A n c) n (l.map (Value.int .u8))
theorem De.len {w : World} {base D : Nat} {A : Option Addr} {n c : Nat} {l : List Int} {s : DS} (h : De w base D A n c l s) : l.length = n := by have := h.own.1; simpa using this

set_option maxHeartbeats 400000 in
theorem byte_any (w : World) (base D : Nat) (A : Option Addr) (n c : Nat) (l : List Int) (s : DS) (k : Nat) (h : De w base D A n c l s) (hby : Bytes l) (hn : n ≤ 1073741824) :
    Calls Try.prog 32 #[.pointer (some ⟨D, 0, none⟩), .int .i64 k] w fun e w' => e = .returned (.int .i64 (byteM l k)) ∧ w = w' := by
  have h0 : w.cell? ⟨D, 0, none⟩ = some (.slice A n c) := h.blk.cell 0
  have hlen := h.len
  by_cases hk : n ≤ k
  · have HM := hid (show byteM l k = 255 by unfold byteM; rw [if_pos (by omega)])
    clear h hlen
    go_enter Try.func32, Try.ntmps32
    go_wp2_with fail
    go_ret
    exact ⟨by rw [HM.out]; rfl, rfl⟩
  · have hm : byteM l k = l.getD k 0 := by unfold byteM; rw [if_neg (by omega)]
    obtain ⟨g, rfl, hgc, hgb, hgl, hgf⟩ := own_at h.own (by omega)
    have g0 : w.cell? ⟨g, k, none⟩ = some (.int .u8 (byteM l k)) := by
      rw [hm]
      exact hgl k _ (map_at _ _ k (by rw [hlen]; omega))
    have hr := byteM_range hby k
    clear h hlen hm hgl hgf
    generalize byteM l k = z at *
    have hw : wrap64 z = z := IntWalk.wrap64_in z (by omega)
    go_enter Try.func32, Try.ntmps32
    go_wp2_with fail
    go_ret
    exact ⟨by simp [hw], rfl⟩
theorem De.keep {w w' : World} {base D : Nat} {A : Option Addr} {n c : Nat} {l : List Int} {s : DS} (h : De w base D A n c l s) {S : Nat → Prop} (hk : Keep S w w') (hW : ¬ S D) (hA : ∀ ad, A = some ad → ¬ S ad.block) : De w' base D A n c l s :=
  ⟨h.blk.keep hk hW, own_keep h.own hk (fun k e hs => by
    obtain ⟨ad, rfl, rfl⟩ := own_foot e
    exact hA ad rfl hs)⟩
theorem De.fin {w w' : World} {base D : Nat} {A : Option Addr} {n c : Nat} {l : List Int} {s s' : DS} {cs : Array Value} (h : De w base D A n c l s) (hk : Keep (fun k => k = D) w w') (hb : Blk w' D 66 cs) (e : cs = #[.slice A n c, .int .i64 s'.a, .int .i64 s'.c, .int .i64 s'.ct, .int .i64 s'.p]) :
    De w' base D A n c l s' ∧ Keep (fun k => k = D) w w' := by
  subst e
  exact ⟨⟨hb, own_keep h.own hk (fun k e hk => own_ne h.own h.blk (by decide) (by rw [e, hk]))⟩, hk⟩
set_option maxRecDepth 20000 in
set_option maxHeartbeats 4000000 in
theorem in_any (w : World) (base D : Nat) (A : Option Addr) (n c : Nat) (l : List Int) (s : DS) (h : De w base D A n c l s) (hby : Bytes l) (hp : s.p ≤ n) (hn : n ≤ 1073741000) :
    Calls Try.prog 33 #[.pointer (some ⟨D, 0, none⟩)] w fun e w' => e = .returned (.tuple #[]) ∧ De w' base D A n c l (inM l s) ∧ Keep (fun k => k = D) w w' := by
  have HB := hid h.blk
  have HF := hid (fun (w' : World) (s' : DS) (cs : Array Value) => h.fin (w' := w') (s' := s') (cs := cs))
  have HC := hid (fun k => byte_any w base D A n c l s k h hby (by omega))
  have h0 := byteM_range hby s.p
  have h1 := byteM_range hby (s.p + 1)
  have HM := hid (show inM l s = if byteM l s.p = 255 then
    if 143 < byteM l (s.p + 1) then ⟨s.a, wrap64 (s.c + 65280), 8, s.p⟩
    else ⟨s.a, wrap64 (s.c + byteM l (s.p + 1) * 512), 7, s.p + 1⟩
  else ⟨s.a, wrap64 (s.c + byteM l (s.p + 1) * 256), 8, s.p + 1⟩ from rfl)
  obtain ⟨a, C, ct, p⟩ := s
  simp only at hp h0 h1 HM
  have g2 : w.cell? ⟨D, 2, none⟩ = some (.int .i64 C) := h.blk.cell 2
  have g3 : w.cell? ⟨D, 3, none⟩ = some (.int .i64 ct) := h.blk.cell 3
  have g4 : w.cell? ⟨D, 4, none⟩ = some (.int .i64 p) := h.blk.cell 4
  have f2 := h.blk.frozen 2
  have f3 := h.blk.frozen 3
  have f4 := h.blk.frozen 4
  clear h
  have HC0 := hid (show Calls Try.prog 32 #[.pointer (some ⟨D, 0, none⟩), .int .i64 p] w fun e w' => e = .returned (.int .i64 (byteM l p)) ∧ w = w' from HC.out p)
  have HC1 := hid (show Calls Try.prog 32 #[.pointer (some ⟨D, 0, none⟩), .int .i64 ((p : Int) + 1)] w fun e w' => e = .returned (.int .i64 (byteM l (p + 1))) ∧ w = w' from HC.out (p + 1))
  clear HC hby
  generalize byteM l p = z0 at *
  generalize byteM l (p + 1) = z1 at *
  by_cases hz0 : z0 = 255
  · by_cases hz1 : 143 < z1
    · rw [HM.out, if_pos hz0, if_pos hz1]
      subst hz0
      go_enter Try.func33, Try.ntmps33
      go_wp2_with fail
      refine HC1.out.mono ?_
      rintro e w2 ⟨rfl, rfl⟩
      go_wp2_with fail
      refine HC0.out.mono ?_
      rintro e w2 ⟨rfl, rfl⟩
      go_wp2_with fail
      go_end0
      refine ⟨rfl, ?_⟩
      apply HF.out
      · with_reducible (repeat (first | refine Keep.drew ?_ | refine Keep.setR ?_ _ _ | exact Keep.refl _ _))
      · with_reducible (repeat (first | apply Blk.drew | apply Blk.set_ | exact HB.out))
      · first | rfl | simp
    · rw [HM.out, if_pos hz0, if_neg hz1]
      subst hz0
      go_enter Try.func33, Try.ntmps33
      go_wp2_with fail
      refine HC1.out.mono ?_
      rintro e w2 ⟨rfl, rfl⟩
      go_wp2_with fail
      refine HC0.out.mono ?_
      rintro e w2 ⟨rfl, rfl⟩
      go_wp2_with fail
      refine HC0.out.mono ?_
      rintro e w2 ⟨rfl, rfl⟩
      go_wp2_with fail
      go_end0
      refine ⟨rfl, ?_⟩
      apply HF.out
      · with_reducible (repeat (first | refine Keep.drew ?_ | refine Keep.setR ?_ _ _ | exact Keep.refl _ _))
      · with_reducible (repeat (first | apply Blk.drew | apply Blk.set_ | exact HB.out))
      · first | rfl | simp
  · have hq : (z0 == 255) = false := by simpa using hz0
    rw [HM.out, if_neg hz0]
    clear hz0
    go_enter Try.func33, Try.ntmps33
    go_wp2_with fail
    refine HC1.out.mono ?_
    rintro e w2 ⟨rfl, rfl⟩
    go_wp2_with fail
    refine HC0.out.mono ?_
    rintro e w2 ⟨rfl, rfl⟩
    go_wp2_with fail
    refine HC0.out.mono ?_
    rintro e w2 ⟨rfl, rfl⟩
    go_wp2_with fail
    go_end0
    refine ⟨rfl, ?_⟩
    apply HF.out
    · with_reducible (repeat (first | refine Keep.drew ?_ | refine Keep.setR ?_ _ _ | exact Keep.refl _ _))
    · with_reducible (repeat (first | apply Blk.drew | apply Blk.set_ | exact HB.out))
    · first | rfl | simp
end Go.Proofs.Ytcieeoobobafmaa
