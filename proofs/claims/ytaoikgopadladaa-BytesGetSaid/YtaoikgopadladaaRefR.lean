/-
  The reference's reader of fields. Conditions: none beyond the form's reach.
-/
import Derived.Test.YtaoikgopadladaaReader
import Derived.Test.YtaoikgopadladaaRegion
import Derived.Test.YtaoikgopadladaaArg
namespace Go.Proofs.Ytaoikgopadladaa
open Go.RowKit

theorem Rd.keepN {w w' : World} {n : Nat} {A : Option Addr} {xs : List Value} {S : Nat → Prop} (h : Rd w A n xs) (hk : Keep S w w') (hS : 0 < n → ∀ ad, A = some ad → ¬ S ad.block) : Rd w' A n xs :=
  ⟨h.1, fun hn => by
    obtain ⟨ad, e, hc⟩ := h.2 hn
    exact ⟨ad, e, fun j u hu => hk.cell (hc j u hu) (by rw [block_add]; exact hS hn ad e)⟩⟩
/-- The reader at block X: its bytes zs (at A, elsewhere), p of them taken, the error. -/
structure XB (w : World) (X : Nat) (A : Option Addr) (n c : Nat) (zs : List Int) (p : Nat) (e : Int) : Prop where
  blk : Blk w X 51 #[.slice A n c, .int .i64 p, .int .i64 e]
  rd : Rd w A n (zs.map (Value.int .u8))
  cap : n ≤ c
  far : 0 < n → ∀ ad, A = some ad → ad.block ≠ X
  le : p ≤ n
section
variable {w w' : World} {X : Nat} {A : Option Addr} {n c : Nat} {zs : List Int} {p p' : Nat} {e e' : Int}
theorem XB.keep (h : XB w X A n c zs p e) {S : Nat → Prop} (hk : Keep S w w') (hW : ¬ S X) (hA : 0 < n → ∀ ad, A = some ad → ¬ S ad.block) : XB w' X A n c zs p e :=
  ⟨h.blk.keep hk hW, h.rd.keepN hk hA, h.cap, h.far, h.le⟩
theorem XB.fin {cs : Array Value} (h : XB w X A n c zs p e) (hk : Keep (fun k => k = X) w w') (hb : Blk w' X 51 cs) (hc : cs = #[.slice A n c, .int .i64 p', .int .i64 e']) (hp : p' ≤ n) :
    XB w' X A n c zs p' e' ∧ Keep (fun k => k = X) w w' := ⟨⟨hc ▸ hb, h.rd.keepN hk h.far, h.cap, h.far, hp⟩, hk⟩
theorem XB.left (h : XB w X A n c zs p e) : (zs.drop p).length = n - p := by rw [List.length_drop, h.rd.len]
end
set_option maxHeartbeats 400000 in
theorem xfail_any (w : World) (X : Nat) (A : Option Addr) (n c : Nat) (zs : List Int) (p : Nat) (e f : Int) (h : XB w X A n c zs p e) :
    Calls Try.prog 23 #[.pointer (some ⟨X, 0, none⟩), .int .i64 f] w fun en w' => en = .returned (.tuple #[]) ∧ XB w' X A n c zs p (errOr e f) ∧ Keep (fun k => k = X) w w' := by
  have h0 : w.cell? ⟨X, 0, none⟩ = some (.slice A n c) := h.blk.cell 0
  have h1 : w.cell? ⟨X, 1, none⟩ = some (.int .i64 p) := h.blk.cell 1
  have h2 : w.cell? ⟨X, 2, none⟩ = some (.int .i64 e) := h.blk.cell 2
  have f1 := h.blk.frozen 1
  have f2 := h.blk.frozen 2
  have hle := h.le
  have H := hid h
  have HBL := hid h.blk
  clear h
  by_cases he : e = 0
  · have hx : errOr e f = f := if_pos he
    rw [hx]
    subst he
    go_enter Try.func23, Try.ntmps23
    go_wp2_with fail
    go_end0
    refine ⟨rfl, ?_⟩
    apply XB.fin H.out
    · with_reducible (repeat (first | refine Keep.drew ?_ | refine Keep.drewN ?_ _ | refine Keep.setR ?_ _ _ | exact Keep.refl _ _))
    · with_reducible (repeat (first | apply Blk.drew | apply Blk.drewN | apply Blk.set_ | exact HBL.out))
    · first | rfl | simp
    · omega
  · have he' : (e == 0) = false := by simp [he]
    have hx : errOr e f = e := if_neg he
    rw [hx]
    clear he hx
    go_enter Try.func23, Try.ntmps23
    go_wp2_with fail
    go_end0
    exact ⟨rfl, H.out, Keep.refl _ _⟩

set_option maxHeartbeats 400000 in
theorem xleft_any (w : World) (X : Nat) (A : Option Addr) (n c : Nat) (zs : List Int) (p : Nat) (e : Int) (h : XB w X A n c zs p e) (hn : n ≤ 140737488355328) :
    Calls Try.prog 25 #[.pointer (some ⟨X, 0, none⟩)] w fun en w' => en = .returned (.int .i64 (leftM (zs.drop p) e)) ∧ Keep (fun _ => False) w w' := by
  have h0 : w.cell? ⟨X, 0, none⟩ = some (.slice A n c) := h.blk.cell 0
  have h1 : w.cell? ⟨X, 1, none⟩ = some (.int .i64 p) := h.blk.cell 1
  have h2 : w.cell? ⟨X, 2, none⟩ = some (.int .i64 e) := h.blk.cell 2
  have f1 := h.blk.frozen 1
  have f2 := h.blk.frozen 2
  have hle := h.le
  have H := hid h
  have HBL := hid h.blk
  by_cases he : e = 0
  · have HM := hid (show leftM (zs.drop p) e = (n : Int) - p by unfold leftM; rw [if_pos he, h.left]; omega)
    subst he
    clear h
    have hw : IntKind.i64.wrap ((n : Int) - p) = (n : Int) - p := IntWalk.i64_in _ (by omega)
    go_enter Try.func25, Try.ntmps25
    go_wp2_with fail
    go_region
    go_wp2_with fail
    go_ret
    exact ⟨by rw [HM.out]; rfl, (Keep.refl _ w).drew⟩
  · have HM := hid (show leftM (zs.drop p) e = 0 from if_neg he)
    have he' : (e != 0) = true := by simp [he]
    clear h he
    go_enter Try.func25, Try.ntmps25
    go_wp2_with fail
    go_ret
    exact ⟨by rw [HM.out]; rfl, Keep.refl _ w⟩

set_option maxHeartbeats 800000 in
theorem xend_any (w : World) (X : Nat) (A : Option Addr) (n c : Nat) (zs : List Int) (p : Nat) (e : Int) (h : XB w X A n c zs p e) :
    Calls Try.prog 24 #[.pointer (some ⟨X, 0, none⟩)] w fun en w' => en = .returned (.int .i64 (endM (zs.drop p) e)) ∧ Keep (fun _ => False) w w' := by
  have h0 : w.cell? ⟨X, 0, none⟩ = some (.slice A n c) := h.blk.cell 0
  have h1 : w.cell? ⟨X, 1, none⟩ = some (.int .i64 p) := h.blk.cell 1
  have h2 : w.cell? ⟨X, 2, none⟩ = some (.int .i64 e) := h.blk.cell 2
  have f1 := h.blk.frozen 1
  have f2 := h.blk.frozen 2
  have hle := h.le
  have H := hid h
  have HBL := hid h.blk
  by_cases he : e = 0
  · by_cases hp : p < n
    · have HM := hid (show endM (zs.drop p) e = 9 from if_pos ⟨he, fun hh => by have := h.left; rw [hh] at this; simp at this; omega⟩)
      subst he
      clear h
      go_enter Try.func24, Try.ntmps24
      go_wp2_with fail
      go_region
      go_wp2_with fail
      go_ret
      exact ⟨by rw [HM.out]; rfl, (Keep.refl _ w).drew⟩
    · have HM := hid (show endM (zs.drop p) e = e from if_neg (fun hh => hh.2 (List.eq_nil_of_length_eq_zero (by rw [h.left]; omega))))
      subst he
      clear h
      go_enter Try.func24, Try.ntmps24
      go_wp2_with fail
      go_region
      go_wp2_with fail
      go_ret
      exact ⟨by rw [HM.out]; rfl, (Keep.refl _ w).drew⟩
  · have HM := hid (show endM (zs.drop p) e = e from if_neg (fun hh => he hh.1))
    have he' : (e == 0) = false := by simp [he]
    clear h he
    go_enter Try.func24, Try.ntmps24
    go_wp2_with fail
    go_region
    go_wp2_with fail
    go_ret
    exact ⟨by rw [HM.out]; rfl, (Keep.refl _ w).drew⟩

set_option maxHeartbeats 1600000 in
theorem xtake_no (w : World) (X : Nat) (A : Option Addr) (n c : Nat) (zs : List Int) (p : Nat) (e x : Int) (h : XB w X A n c zs p e) (hn : n ≤ 140737488355328) (hx : takeE (zs.drop p) e x ≠ 0) :
    Calls Try.prog 21 #[.pointer (some ⟨X, 0, none⟩), .int .i64 x] w fun en w' => en = .returned (.slice none 0 0) ∧ XB w' X A n c zs p (takeE (zs.drop p) e x) ∧ Keep (fun k => k = X) w w' := by
  have h0 : w.cell? ⟨X, 0, none⟩ = some (.slice A n c) := h.blk.cell 0
  have h1 : w.cell? ⟨X, 1, none⟩ = some (.int .i64 p) := h.blk.cell 1
  have h2 : w.cell? ⟨X, 2, none⟩ = some (.int .i64 e) := h.blk.cell 2
  have f1 := h.blk.frozen 1
  have f2 := h.blk.frozen 2
  have hle := h.le
  have H := hid h
  have HBL := hid h.blk
  have hl := h.left
  clear h
  have hw : IntKind.i64.wrap ((n : Int) - p) = (n : Int) - p := IntWalk.i64_in _ (by omega)
  by_cases he : e = 0
  · subst he
    by_cases c1 : x < 0
    · have hE : takeE (zs.drop p) 0 x = 1 := by unfold takeE; rw [if_pos rfl, if_pos c1]
      rw [hE]
      clear hE hx hl
      go_enter Try.func21, Try.ntmps21
      go_wp2_with fail
      go_region
      go_wp2_with fail
      go_ret
      refine ⟨rfl, ?_⟩
      apply XB.fin H.out
      · with_reducible (repeat (first | refine Keep.drew ?_ | refine Keep.drewN ?_ _ | refine Keep.setR ?_ _ _ | exact Keep.refl _ _))
      · with_reducible (repeat (first | apply Blk.drew | apply Blk.drewN | apply Blk.set_ | exact HBL.out))
      · first | rfl | simp
      · omega
    · by_cases c2 : (n : Int) - p < x
      · have hE : takeE (zs.drop p) 0 x = 8 := by unfold takeE; rw [if_pos rfl, if_neg c1, hl, if_pos (by omega)]
        rw [hE]
        clear hE hx hl
        go_enter Try.func21, Try.ntmps21
        go_wp2_with fail
        go_region
        go_wp2_with fail
        go_ret
        refine ⟨rfl, ?_⟩
        apply XB.fin H.out
        · with_reducible (repeat (first | refine Keep.drew ?_ | refine Keep.drewN ?_ _ | refine Keep.setR ?_ _ _ | exact Keep.refl _ _))
        · with_reducible (repeat (first | apply Blk.drew | apply Blk.drewN | apply Blk.set_ | exact HBL.out))
        · first | rfl | simp
        · omega
      · exact absurd (by unfold takeE; rw [if_pos rfl, if_neg c1, hl, if_neg (by omega)]) hx
  · have hE : takeE (zs.drop p) e x = e := if_neg he
    rw [hE]
    have he' : (e == 0) = false := by simp [he]
    have he2 : (e != 0) = true := by simp [he]
    clear hE hx hl he
    go_enter Try.func21, Try.ntmps21
    go_wp2_with fail
    go_region
    go_wp2_with fail
    go_ret
    refine ⟨rfl, ?_⟩
    apply XB.fin H.out
    · with_reducible (repeat (first | refine Keep.drew ?_ | refine Keep.drewN ?_ _ | refine Keep.setR ?_ _ _ | exact Keep.refl _ _))
    · with_reducible (repeat (first | apply Blk.drew | apply Blk.drewN | apply Blk.set_ | exact HBL.out))
    · first | rfl | simp
    · omega
end Go.Proofs.Ytaoikgopadladaa
