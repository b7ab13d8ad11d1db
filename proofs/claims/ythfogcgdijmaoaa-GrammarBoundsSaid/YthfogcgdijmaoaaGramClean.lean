/-
  Clean bytes: the program's walk. Conditions: none.
-/
import Derived.Test.YthfogcgdijmaoaaArg
import Derived.Test.YthfogcgdijmaoaaProg
import Derived.Deep.DeepCutAuto
import Derived.WalkLawsBesides
namespace Go.Proofs.Ythfogcgdijmaoaa
open Go.RowKit

/-- The byte ahead of number i; is number i bad behind it? -/
def wasAt (zs : List Int) (i : Nat) : Int := if i = 0 then 0 else zs.getD (i - 1) 0
def badAt (zs : List Int) (i : Nat) : Bool := (wasAt zs i == 255) && decide (143 < zs.getD i 0)
def cleanB (zs : List Int) : Bool := (List.range zs.length).all fun i => !badAt zs i
set_option maxHeartbeats 400000 in
theorem lit_any (w : World) (W : Nat) (x y : Int) (hx : 0 ≤ x ∧ x ≤ 255) (hy : 0 ≤ y ∧ y ≤ 255) (h : Blk w W 5 #[.int .u8 y]) :
    Calls Try.prog 10 #[.int .u8 x, .pointer (some ⟨W, 0, none⟩)] w fun e w' => e = .returned (.bool ((y == 255) && decide (143 < x))) ∧ Blk w' W 5 #[.int .u8 x] ∧ Keep (fun j => j = W) w w' := by
  have g0 : w.cell? ⟨W, 0, none⟩ = some (.int .u8 y) := h.cell 0
  have f0 := h.frozen 0
  have hb := h.set_ 0 (.int .u8 x)
  have hk := (Keep.refl (fun j => j = W) w).setR 0 (.int .u8 x)
  by_cases h255 : y = 255
  · subst h255
    have HB := hid hb
    have HK := hid hk
    clear hb hk h
    go_enter Try.func10, Try.ntmps10
    go_wp2_with fail
    go_ret
    exact ⟨ret_bool (by simp), HB.out, HK.out⟩
  · have hy' : (y == 255) = false := by simpa using h255
    have HB := hid hb
    have HK := hid hk
    clear hb hk h
    go_enter Try.func10, Try.ntmps10
    go_wp2_with fail
    go_ret
    exact ⟨ret_bool (by simp [hy']), HB.out, HK.out⟩
theorem was_byte {zs : List Int} (h : Bytes zs) (i : Nat) : 0 ≤ wasAt zs i ∧ wasAt zs i ≤ 255 := by
  unfold wasAt
  split
  · omega
  · rw [List.getD_eq_getElem?_getD]
    rcases Nat.lt_or_ge (i - 1) zs.length with hk | hk
    · rw [List.getElem?_eq_getElem hk]
      exact h _ (List.getElem_mem hk)
    · rw [List.getElem?_eq_none hk]
      decide
theorem clean_false {zs : List Int} {i : Nat} (hi : i < zs.length) (h : badAt zs i = true) : cleanB zs = false := by
  rw [Bool.eq_false_iff]
  intro hc
  unfold cleanB at hc
  have := List.all_eq_true.1 hc i (List.mem_range.2 hi)
  rw [h] at this
  cases this
theorem clean_true {zs : List Int} (h : ∀ j, j < zs.length → badAt zs j = false) : cleanB zs = true := by
  unfold cleanB
  rw [List.all_eq_true]
  intro i hi
  rw [h i (List.mem_range.1 hi)]
  rfl
set_option maxRecDepth 20000 in
set_option maxHeartbeats 800000 in
theorem index_any (w : World) (W : Nat) (A : Option Addr) (n c : Nat) (zs : List Int) (hW : Blk w W 5 #[.int .u8 0]) (hr : Rd w A n (zs.map (Value.int .u8))) (hA : 0 < n → ∀ ad, A = some ad → ad.block ≠ W) (hby : Bytes zs) (hn : n ≤ 1073741824) :
    Calls Try.prog 13 #[.slice A n c, .func (.func 10) #[] #[.pointer (some ⟨W, 0, none⟩)]] w fun e w' => (∃ x : Int, e = .returned (.int .i64 x) ∧ (decide (0 ≤ x) = !cleanB zs)) ∧ Keep (fun j => j = W) w w' := by
  have HR := hid hr
  have HW0 := hid hW
  have HBY := hid hby
  have hl := hr.len
  clear hr hW hby
  go_enter Try.func13, Try.ntmps13
  go_wp2_with fail
  go_loopw [8] (fun v wr => ∃ i : Nat, i ≤ n ∧ v = .int .i64 i ∧ Hid (Blk wr W 5 #[.int .u8 (wasAt zs i)]) ∧ Hid (∀ j, j < i → badAt zs j = false) ∧ Hid (Keep (fun j => j = W) w wr)) (fun v _ => n - (intOf v).toNat)
  case atStart => exact ⟨0, by omega, rfl, HW0, hid (fun j h => by omega), hid (Keep.refl _ w)⟩
  case round =>
    obtain ⟨i, hi, rfl, HW, HN, HK⟩ := hrel
    by_cases hin : i < n
    · obtain ⟨b, o, rfl, hz⟩ := HR.out.int_ix hin
      have hne : b ≠ W := hA (by omega) _ rfl
      have z0 := HK.out.cell hz (fun h : b = W => hne h)
      have hx := HBY.out (zs.getD i 0) (by rw [List.getD_eq_getElem?_getD, List.getElem?_eq_getElem (by omega)]; exact List.getElem_mem _)
      have hy : 0 ≤ wasAt zs i ∧ wasAt zs i ≤ 255 := was_byte HBY.out i
      have hb : badAt zs i = ((wasAt zs i == 255) && decide (143 < zs.getD i 0)) := rfl
      have hw : wasAt zs (i + 1) = zs.getD i 0 := rfl
      have HC := hid (fun (hbad : badAt zs i = true) => clean_false (zs := zs) (i := i) (by omega) hbad)
      clear hz
      generalize hg : zs.getD i 0 = x at *
      have HG := hid hg
      clear hg
      have HW' := hid HW.out
      generalize wasAt zs i = y at *
      go_wp2_with fail
      refine (lit_any wr W x y hx hy HW.out).mono ?_
      rintro e w2 ⟨rfl, hb2, hk2⟩
      have HB2 := hid (show Blk w2 W 5 #[.int .u8 (wasAt zs (i + 1))] by rw [hw]; exact hb2)
      have HK2 := hid (HK.out.trans hk2 (fun _ _ h => h))
      rw [← hb]
      clear hb2 hk2 hb hw HW HW' z0
      by_cases hbad : badAt zs i = true
      · have hcl := HC.out hbad
        rw [hbad]
        go_wp2_with fail
        go_ret
        exact ⟨⟨i, rfl, by rw [hcl]; simp⟩, HK2.out⟩
      · have hbad' : badAt zs i = false := by simpa using hbad
        rw [hbad']
        have HN2 := hid (show ∀ j, j < i + 1 → badAt zs j = false from fun j hj => by
          by_cases h : j = i
          · subst h; exact hbad'
          · exact HN.out j (by omega))
        clear HC
        go_wp2_with fail
        exact ⟨⟨i + 1, by omega, by go_num, HB2, HN2, HK2⟩, by simp [intOf]; omega⟩
    · obtain rfl : n = i := by omega
      have hcl : cleanB zs = true := clean_true (fun j hj => HN.out j (by omega))
      go_wp2_with fail
      go_ret
      exact ⟨⟨-1, rfl, by rw [hcl]; decide⟩, HK.out⟩
set_option maxRecDepth 20000 in
set_option maxHeartbeats 800000 in
theorem contains_any (w : World) (W : Nat) (A : Option Addr) (n c : Nat) (zs : List Int) (hW : Blk w W 5 #[.int .u8 0]) (hr : Rd w A n (zs.map (Value.int .u8))) (hA : 0 < n → ∀ ad, A = some ad → ad.block ≠ W) (hby : Bytes zs) (hn : n ≤ 1073741824) :
    Calls Try.prog 9 #[.slice A n c, .func (.func 10) #[] #[.pointer (some ⟨W, 0, none⟩)]] w fun e w' => e = .returned (.bool (!cleanB zs)) ∧ Keep (fun j => j = W) w w' := by
  have H := hid (index_any w W A n c zs hW hr hA hby hn)
  clear hW hr hby
  go_enter Try.func9, Try.ntmps9
  go_wp2_with fail
  refine H.out.mono ?_
  rintro e w2 ⟨⟨x, rfl, hx⟩, hk2⟩
  have HK := hid hk2
  have HX := hid hx
  clear hx hk2 H
  go_wp2_with fail
  go_ret
  exact ⟨ret_bool (by rw [← HX.out]), HK.out⟩
set_option maxRecDepth 20000 in
set_option maxHeartbeats 800000 in
theorem clean_any (w : World) (A : Option Addr) (n c : Nat) (zs : List Int) (hr : Rd w A n (zs.map (Value.int .u8))) (hby : Bytes zs) (hn : n ≤ 1073741824) :
    Calls Try.prog 7 #[.slice A n c] w fun e w' => e = .returned (.bool (cleanB zs)) ∧ Keep (fun _ => False) w w' := by
  have hmf : ∀ (fn : Fn) (first cap : Array Value) (w : World), (Instr.makeFunc fn first cap).run Try.prog w = .ok (.func fn first cap) w := fun _ _ _ _ => rfl
  go_enter Try.func7, Try.ntmps7
  go_wp2_with fail
  have hb := Blk.new w 5 #[.int .u8 0]
  have hk := (Keep.refl (fun _ => False) w).alloc (.cells #[.int .u8 0] 5)
  refine (contains_any _ w.heap.size A n c zs hb (hr.alloc _) (fun h0 ad e => by have := hr.lt h0 ad e; omega) hby hn).mono ?_
  rintro e w2 ⟨rfl, hk2⟩
  have HK := hid (hk.trans hk2 (fun j hj h => by omega) : Keep (fun _ => False) w w2)
  clear hb hk hk2
  go_wp2_with fail
  go_ret
  exact ⟨ret_bool (by simp), HK.out⟩
end Go.Proofs.Ythfogcgdijmaoaa
