/-
  BytesPut: the walk. Conditions: none.
-/
import Derived.Test.YtaoikgopadladaaPut
import Derived.Test.YtaoikgopadladaaRegion
import Derived.Test.YtaoikgopadladaaArg
namespace Go.Proofs.Ytaoikgopadladaa
open Go.RowKit

/-- What Put lays behind. -/
def putS (x size : Int) : List Int := if fitsB size = true then putB x size.toNat else []
theorem putS_le (x size : Int) : (putS x size).length ≤ 8 := by
  unfold putS
  split
  · rename_i h
    rw [putB_length]
    have : 1 ≤ size ∧ size ≤ 8 := by simpa [fitsB] using h
    omega
  · simp

set_option maxHeartbeats 400000 in
theorem put_tot (A : Option Addr) (n c : Nat) (zs : List Int) (size x : Int) (w : World) (h : Rd w A n (zs.map (Value.int .u8))) (hn : n ≤ 70368744177664) :
    Calls Try.prog 12 #[.slice A n c, .int .i64 size, .int .i64 x] w fun e w' => ∃ A' n' c', e = .returned (.slice A' n' c') ∧
      w'.ownsRow w.heap.size 5 1 (.slice A' n' c') n' ((zs ++ putS x size).map (Value.int .u8)) ∧ Keep (fun _ => False) w w' := by
  by_cases hs : fitsB size = true
  · refine (put_any A n c zs size x w h hn hs).mono ?_
    rintro e w' ⟨v, rfl, hown, hk⟩
    obtain ⟨A', c', rfl⟩ := own_form hown
    refine ⟨A', _, c', rfl, ?_, hk⟩
    unfold putS
    rw [if_pos hs]
    exact hown
  · go_enter Try.func12, Try.ntmps12
    go_wp2_with fail
    refine (clone_any A n c zs w h (by omega)).mono ?_
    rintro e w1 ⟨v1, rfl, hown1, hk1⟩
    go_wp2_with fail
    refine (fits_any size w1).mono ?_
    rintro e w2 ⟨rfl, rfl⟩
    have hs0 : fitsB size = false := by simpa using hs
    rw [hs0]
    go_wp2_with fail
    go_ret
    obtain ⟨A', c', rfl⟩ := own_form hown1
    refine ⟨A', n, c', rfl, ?_, hk1⟩
    unfold putS
    rw [if_neg hs, List.append_nil]
    exact hown1

set_option maxHeartbeats 400000 in
theorem refput_tot (A : Option Addr) (n c : Nat) (zs : List Int) (size x : Int) (w : World) (base : Nat) (h : w.ownsRow base 5 1 (.slice A n c) n (zs.map (Value.int .u8))) (hb : base ≤ w.heap.size) (hn : n ≤ 70368744177664) :
    Calls Try.prog 13 #[.slice A n c, .int .i64 size, .int .i64 x] w fun e w' => ∃ A' n' c', e = .returned (.slice A' n' c') ∧
      w'.ownsRow base 5 1 (.slice A' n' c') n' ((zs ++ putS x size).map (Value.int .u8)) ∧ w'.ownsRow base 5 1 (.slice A n c) n (zs.map (Value.int .u8)) ∧
      Keep (fun k => (Value.slice A n c).ownBlock = some k) w w' := by
  by_cases hs : 1 ≤ size ∧ size ≤ 8
  · refine (refput_any A n c zs size x w base h hb hn hs.1 hs.2).mono ?_
    rintro e w' ⟨v, rfl, hown, ho, hk⟩
    obtain ⟨A', c', rfl⟩ := own_form hown
    refine ⟨A', _, c', rfl, ?_, ho, hk⟩
    unfold putS fitsB
    rw [if_pos (by simpa using hs)]
    exact hown
  · have hz : putS x size = [] := by
      unfold putS fitsB
      rw [if_neg (by simpa using hs)]
    have HZ := hid hz
    clear hz
    by_cases h1 : size < 1
    · go_enter Try.func13, Try.ntmps13
      go_wp2_with fail
      go_ret
      exact ⟨A, n, c, rfl, by rw [HZ.out]; simpa using h, h, Keep.refl _ _⟩
    · have h2 : 8 < size := by omega
      go_enter Try.func13, Try.ntmps13
      go_wp2_with fail
      go_ret
      exact ⟨A, n, c, rfl, by rw [HZ.out]; simpa using h, h, Keep.refl _ _⟩

set_option maxHeartbeats 400000 in
theorem known_any (w : World) : Calls Try.prog 10 #[] w fun e w' => e = .returned (.bool true) ∧ Keep (fun _ => False) w w' := by
  go_enter Try.func10, Try.ntmps10
  go_wp2_with fail
  refine (put_any none 0 0 [] 2 258 w (Rd.nil _) (by omega) rfl).mono ?_
  rintro e w1 ⟨v1, rfl, hown, hk⟩
  have e2 : ([] ++ putB 258 (Int.toNat 2)).map (Value.int .u8) = [.int .u8 1, .int .u8 2] := by
    have : ([] ++ putB 258 (Int.toNat 2)) = [1, 2] := by decide +kernel
    rw [this]; rfl
  rw [e2] at hown
  obtain ⟨A, c, rfl⟩ := own_form hown
  obtain ⟨g, rfl, hgc, hgb, hc, _⟩ := own_at hown (by omega)
  have hc0 := hc 0 _ rfl
  have hc1 := hc 1 _ rfl
  clear hc hown e2
  go_wp2_with fail
  go_ret
  exact ⟨rfl, hk⟩

set_option linter.unusedSimpArgs false in
set_option maxHeartbeats 4000000 in
theorem bytesPut_short (A : Option Addr) (n c : Nat) (zs : List Int) (size x : Int) (w : World) (h : Rd w A n (zs.map (Value.int .u8))) (hn : n ≤ 200) :
    Calls Try.prog 3 #[.slice A n c, .int .i64 size, .int .i64 x] w fun e w' => e = .returned (.bool true) ∧ Below w.heap.size w w' := by
  obtain ⟨i0, hi0, hz0, hz1, hz2⟩ := info_parts info_u8
  go_enter Try.func3, Try.ntmps3
  go_wp2_with fail
  refine (known_any w).mono ?_
  rintro e w1 ⟨rfl, hk1⟩
  have h1 := h.keep hk1 (fun _ _ h => h)
  clear h
  go_wp2_with (
    at_builtin
    go_must (refine wpList_append_src _ rfl (.tmp 14) (.tmp 15) _ rfl w1.heap.size 5 i0 _ 1 Try.underlying22 hi0 hz0 hz1 hz2 rfl (World.ownsRow_made w1 #[] 0 (Nat.le_refl _) (by simp [maxLen]) rfl) rfl (h1.alloc _) rfl (oneCell_ints _ _) (by simp only [maxLen]; omega) (by omega) (by simp) ?_)
    intro v2 w2 hown2 hg2 _hat2 _hold2)
  refine (within_any size 8 w2 (by omega) (by omega)).mono ?_
  rintro e w3 ⟨rfl, rfl⟩
  have b1 : 0 ≤ size % 8 := by omega
  have b2 : size % 8 < 8 := by omega
  generalize size % 8 = m at *
  have hk2 : Keep (fun _ => False) w1 w2 := ((Keep.refl _ w1).alloc _).grown hg2 (fun k hk => .inr (by simp [Value.ownBlock] at hk; omega))
  have h2 := h1.keep hk2 (fun _ _ h => h)
  have H1 := hid h1
  clear h1
  obtain ⟨A2, c2, rfl⟩ := own_form hown2
  rw [List.nil_append, Nat.zero_add] at hown2
  go_wp2_with fail
  clear _hat2 _hold2 hg2
  have hs2 := hk2.size
  have cv : ∀ (w : World) (A : Option Addr) (n c : Nat) (zs : List Int), Rd w A n (zs.map (Value.int .u8)) → (convert 22 9 (.slice A n c)).run Try.prog w = .ok (.string (strOfNums zs)) w := fun w A n c zs h => run_string_rd _ _ _ Try.underlying22 Try.underlying5 Try.underlying9 h c
  have CV := hid cv
  clear cv
  have hb2 : ∀ k, (Value.slice A2 n c2).ownBlock = some k → w1.heap.size ≤ k ∧ k < w2.heap.size := hown2.lt
  have HB := hid hb2
  clear hb2
  -- region 7: 25 operations
  refine At.start (L := #[false, false, false, false, false, false, false, false, false, false, false, false, false, false, false, false, false, false, false, false, false, false, false, false, false]) (by kernel_rfl) rfl ?_
  refine At.pure 0 (some 20) (v := ?v0) rfl rfl (by kernel_rfl) (fun _ _ _ h => h) rfl (fun w' => ?y0) ?_   
  case y0 => go_simp; try with_reducible rfl
  try simp only [Act.put, List.setIfInBounds_toArray, List.set_cons_zero, List.set_cons_succ]
  refine At.pure 1 (some 21) (v := ?v1) rfl rfl (by kernel_rfl) (fun _ _ _ h => h) rfl (fun w' => ?y1) ?_   
  case y1 => go_simp; try with_reducible rfl
  try simp only [Act.put, List.setIfInBounds_toArray, List.set_cons_zero, List.set_cons_succ]
  refine At.pure 2 (some 22) (v := ?v2) rfl rfl (by kernel_rfl) (fun _ _ _ h => h) rfl (fun w' => ?y2) ?_   
  case y2 => go_simp; try with_reducible rfl
  try simp only [Act.put, List.setIfInBounds_toArray, List.set_cons_zero, List.set_cons_succ]
  refine At.pure 5 (some 25) (v := ?v5) rfl rfl (by kernel_rfl) (fun _ _ _ h => h) rfl (fun w' => ?y5) ?_   
  case y5 => go_simp; try with_reducible rfl
  try simp only [Act.put, List.setIfInBounds_toArray, List.set_cons_zero, List.set_cons_succ]
  refine At.pure 6 (some 26) (v := ?v6) rfl rfl (by kernel_rfl) (fun _ _ _ h => h) rfl (fun w' => ?y6) ?_   
  case y6 => go_simp; try with_reducible rfl
  try simp only [Act.put, List.setIfInBounds_toArray, List.set_cons_zero, List.set_cons_succ]
  refine At.pure 7 (some 27) (v := ?v7) rfl rfl (by kernel_rfl) (fun _ _ _ h => h) rfl (fun w' => ?y7) ?_   
  case y7 => go_simp; try with_reducible rfl
  try simp only [Act.put, List.setIfInBounds_toArray, List.set_cons_zero, List.set_cons_succ]
  refine At.call 3 (pend' := []) rfl (by kernel_rfl) rfl (by kernel_rfl) (fun K hK => ?_)   
  go_simp
  refine (put_tot A n c zs _ _ _ ?_ (by omega)).mono ?_
  · exact h2
  rintro e w4 ⟨A4, n4, c4, rfl, hown4, hk4⟩
  replace hk4 := hk4.undrew
  simp only [World.size_drew] at hown4
  refine hK _ _ all_nil ?_
  clear hK K
  try simp only [Act.put, List.setIfInBounds_toArray, List.set_cons_zero, List.set_cons_succ]
  refine At.read 4 (some 24) (fun w' => Rd w' A4 n4 ((zs ++ putS x size).map (Value.int .u8))) (v := ?v4) rfl rfl (by kernel_rfl) (fun _ _ _ h => h) rfl (Rd.of_own hown4) (fun w' hw' => ?y4) ?_   
  case y4 => have cv := CV.out w' A4 n4 c4 _ hw'; go_simp; try with_reducible rfl
  try simp only [Act.put, List.setIfInBounds_toArray, List.set_cons_zero, List.set_cons_succ]
  refine At.call 8 (pend' := [(4, (fun w' => Rd w' A4 n4 ((zs ++ putS x size).map (Value.int .u8))))]) rfl (by kernel_rfl) rfl (by kernel_rfl) (fun K hK => ?_)   
  go_simp
  refine (refput_tot A2 n c2 zs _ _ _ w1.heap.size (own_keep hown2 hk4 (fun _ _ h => h)) (by have := hk4.size; omega) (by omega)).mono ?_
  rintro e w5 ⟨A5, n5, c5, rfl, hown5, hold5, hk5⟩
  refine hK _ _ (all_cons (Rd.keep_own hown4 hk5 (fun k hk => (HB.out k hk).2)) all_nil) ?_
  clear hK K
  try simp only [Act.put, List.setIfInBounds_toArray, List.set_cons_zero, List.set_cons_succ]
  refine At.read 9 (some 29) (fun w' => Rd w' A5 n5 ((zs ++ putS x size).map (Value.int .u8))) (v := ?v9) rfl rfl (by kernel_rfl) (fun _ _ _ h => h) rfl (Rd.of_own hown5) (fun w' hw' => ?y9) ?_   
  case y9 => have cv := CV.out w' A5 n5 c5 _ hw'; go_simp; try with_reducible rfl
  try simp only [Act.put, List.setIfInBounds_toArray, List.set_cons_zero, List.set_cons_succ]
  refine At.pure 10 (some 30) (v := ?v10) rfl rfl (by kernel_rfl) (fun _ _ _ h => h) rfl (fun w' => ?y10) ?_   
  case y10 => go_simp; try with_reducible rfl
  try simp only [Act.put, List.setIfInBounds_toArray, List.set_cons_zero, List.set_cons_succ]
  refine At.pure 11 (some 31) (v := ?v11) rfl rfl (by kernel_rfl) (fun _ _ _ h => h) rfl (fun w' => ?y11) ?_   
  case y11 => go_simp; try with_reducible rfl
  try simp only [Act.put, List.setIfInBounds_toArray, List.set_cons_zero, List.set_cons_succ]
  refine At.pure 12 (some 32) (v := ?v12) rfl rfl (by kernel_rfl) (fun _ _ _ h => h) rfl (fun w' => ?y12) ?_   
  case y12 => go_simp; try with_reducible rfl
  try simp only [Act.put, List.setIfInBounds_toArray, List.set_cons_zero, List.set_cons_succ]
  refine At.pure 13 (some 33) (v := ?v13) rfl rfl (by kernel_rfl) (fun _ _ _ h => h) rfl (fun w' => ?y13) ?_   
  case y13 => go_simp; try with_reducible rfl
  try simp only [Act.put, List.setIfInBounds_toArray, List.set_cons_zero, List.set_cons_succ]
  refine At.pure 14 (some 34) (v := ?v14) rfl rfl (by kernel_rfl) (fun _ _ _ h => h) rfl (fun w' => ?y14) ?_   
  case y14 => go_simp; try with_reducible rfl
  try simp only [Act.put, List.setIfInBounds_toArray, List.set_cons_zero, List.set_cons_succ]
  refine At.pure 17 (some 37) (v := ?v17) rfl rfl (by kernel_rfl) (fun _ _ _ h => h) rfl (fun w' => ?y17) ?_   
  case y17 => go_simp; try with_reducible rfl
  try simp only [Act.put, List.setIfInBounds_toArray, List.set_cons_zero, List.set_cons_succ]
  refine At.pure 18 (some 38) (v := ?v18) rfl rfl (by kernel_rfl) (fun _ _ _ h => h) rfl (fun w' => ?y18) ?_   
  case y18 => go_simp; try with_reducible rfl
  try simp only [Act.put, List.setIfInBounds_toArray, List.set_cons_zero, List.set_cons_succ]
  refine At.pure 19 (some 39) (v := ?v19) rfl rfl (by kernel_rfl) (fun _ _ _ h => h) rfl (fun w' => ?y19) ?_   
  case y19 => go_simp; try with_reducible rfl
  try simp only [Act.put, List.setIfInBounds_toArray, List.set_cons_zero, List.set_cons_succ]
  refine At.call 15 (pend' := []) rfl (by kernel_rfl) rfl (by kernel_rfl) (fun K hK => ?_)   
  go_simp
  have h5 : Rd w5 A n (zs.map (Value.int .u8)) := Rd.keep0 H1.out (h2.keep hk4 (fun _ _ h => h)) hk5 (fun k hk => (HB.out k hk).1)
  refine (put_tot A n c zs _ _ _ h5 (by omega)).mono ?_
  rintro e w6 ⟨A6, n6, c6, rfl, hown6, hk6⟩
  refine hK _ _ all_nil ?_
  clear hK K
  try simp only [Act.put, List.setIfInBounds_toArray, List.set_cons_zero, List.set_cons_succ]
  refine At.read 16 (some 36) (fun w' => Rd w' A6 n6 ((zs ++ putS x (1 + m)).map (Value.int .u8))) (v := ?v16) rfl rfl (by kernel_rfl) (fun _ _ _ h => h) rfl (Rd.of_own hown6) (fun w' hw' => ?y16) ?_   
  case y16 => have cv := CV.out w' A6 n6 c6 _ hw'; go_simp; try with_reducible rfl
  try simp only [Act.put, List.setIfInBounds_toArray, List.set_cons_zero, List.set_cons_succ]
  refine At.call 20 (pend' := [(16, (fun w' => Rd w' A6 n6 ((zs ++ putS x (1 + m)).map (Value.int .u8))))]) rfl (by kernel_rfl) rfl (by kernel_rfl) (fun K hK => ?_)   
  go_simp
  refine (refput_tot A2 n c2 zs _ _ _ w1.heap.size (own_keep hold5 hk6 (fun _ _ h => h)) (by have := hk4.size; have := hk5.size; have := hk6.size; omega) (by omega)).mono ?_
  rintro e w7 ⟨A7, n7, c7, rfl, hown7, hold7, hk7⟩
  refine hK _ _ (all_cons (Rd.keep_own hown6 hk7 (fun k hk => by have := (HB.out k hk).2; have := hk4.size; have := hk5.size; omega)) all_nil) ?_
  clear hK K
  try simp only [Act.put, List.setIfInBounds_toArray, List.set_cons_zero, List.set_cons_succ]
  refine At.read 21 (some 41) (fun w' => Rd w' A7 n7 ((zs ++ putS x (1 + m)).map (Value.int .u8))) (v := ?v21) rfl rfl (by kernel_rfl) (fun _ _ _ h => h) rfl (Rd.of_own hown7) (fun w' hw' => ?y21) ?_   
  case y21 => have cv := CV.out w' A7 n7 c7 _ hw'; go_simp; try with_reducible rfl
  try simp only [Act.put, List.setIfInBounds_toArray, List.set_cons_zero, List.set_cons_succ]
  refine At.pure 22 (some 42) (v := ?v22) rfl rfl (by kernel_rfl) (fun _ _ _ h => h) rfl (fun w' => ?y22) ?_   
  case y22 => go_simp; try with_reducible rfl
  try simp only [Act.put, List.setIfInBounds_toArray, List.set_cons_zero, List.set_cons_succ]
  refine At.pure 23 (some 43) (v := ?v23) rfl rfl (by kernel_rfl) (fun _ _ _ h => h) rfl (fun w' => ?y23) ?_   
  case y23 => go_simp; try with_reducible rfl
  try simp only [Act.put, List.setIfInBounds_toArray, List.set_cons_zero, List.set_cons_succ]
  refine At.pure 24 (some 6) (v := ?v24) rfl rfl (by kernel_rfl) (fun _ _ _ h => h) rfl (fun w' => ?y24) ?_   
  case y24 => go_simp; try with_reducible rfl
  try simp only [Act.put, List.setIfInBounds_toArray, List.set_cons_zero, List.set_cons_succ]
  refine At.done (by kernel_rfl) ?_
  go_wp2
  go_ret
  refine ⟨rfl, Keep.below (S := fun _ => False) ?_ (Nat.le_refl _) (fun _ h => h.elim)⟩
  have s1 := hk1.size
  refine ((((hk1.trans hk2 (fun _ _ h => h)).trans hk4 (fun _ _ h => h)).trans hk5 (fun i hi h => ?_)).trans hk6 (fun _ _ h => h)).trans hk7 (fun i hi h => ?_)
  · have := (HB.out i h).1; omega
  · have := (HB.out i h).1; omega

set_option maxHeartbeats 400000 in
theorem bytesPut_walk (A : Option Addr) (n c : Nat) (zs : List Int) (size x : Int) (w : World) (h : Arg .u8 1 w A n c zs) (_hs : (Lit.int .i64 size).wf = true) (_hx : (Lit.int .i64 x).wf = true) :
    Calls Try.prog 3 #[.slice A n c, .int .i64 size, .int .i64 x] w fun e w' => e = .returned (.bool true) ∧ Below w.heap.size w w' := by
  by_cases hn : n ≤ 200
  · exact bytesPut_short A n c zs size x w h.rd hn
  · have hn' : ¬ (n : Int) ≤ 200 := by omega
    go_enter Try.func3, Try.ntmps3
    go_wp2_with fail
    refine (known_any w).mono ?_
    rintro e w1 ⟨rfl, hk1⟩
    go_wp2_with fail
    go_ret
    exact ⟨rfl, hk1.below (Nat.le_refl _) (fun _ h => h.elim)⟩
end Go.Proofs.Ytaoikgopadladaa
