/-
  BitsWrite: the walk. Conditions: none.
-/
import Derived.Test.YtnhciiljdmgcjaaBitsRB
import Derived.Test.YtnhciiljdmgcjaaArg
namespace Go.Proofs.Ytnhciiljdmgcjaa
open Go.RowKit

set_option maxHeartbeats 400000 in
theorem within_any (a n : Int) (w : World) (hn : 0 < n) (hn1 : n ≤ 4611686018427387904) :
    Calls Try.prog 13 #[.int .i64 a, .int .i64 n] w fun e w' => e = .returned (.int .i64 (a % n)) ∧ w = w' := by
  obtain ⟨f1, f2, f3, f4⟩ := tmod_fix a n hn
  have F1 := hid f1
  have F2 := hid f2
  clear f1 f2
  have hz : (n == 0) = false := by simp; omega
  go_enter Try.func13, Try.ntmps13
  go_wp2
  · go_ret
    exact ⟨ret_i64 (by rw [← F1.out (by assumption)]), rfl⟩
  · go_ret
    exact ⟨ret_i64 (by rw [← F2.out (by assumption)]), rfl⟩

def TwoS (w0 : World) (W X : Nat) (l : List Int) (r : Int) (w : World) : Prop := ∃ A B n c m d, Two w0 W X A B n c m d l r w

set_option linter.unusedSimpArgs false in
set_option maxHeartbeats 4000000 in
theorem bitsWrite_walk (A : Option Addr) (n c : Nat) (ns : List Int) (A' : Option Addr) (n' c' : Nat) (ss : List Int) (w : World) (h : Arg .i64 8 w A n c ns) (h' : Arg .i64 8 w A' n' c' ss) :
    Calls Try.prog 3 #[.slice A n c, .slice A' n' c'] w fun e w' => e = .returned (.bool true) ∧ Below w.heap.size w w' := by
  go_enter Try.func3, Try.ntmps3
  go_wp2_with fail
  refine (known_any w).mono ?_
  rintro e w1 ⟨rfl, hk1⟩
  go_wp2_with fail
  refine (neww_any w1).mono ?_
  rintro e w2 ⟨W, rfl, hW, hw2, hk2⟩
  go_wp2_with fail
  refine (newrw_any w2).mono ?_
  rintro e w3 ⟨rfl, hw3, hk3⟩
  have hT : TwoS w W w2.heap.size [] 0 w3 := by
    have hs1 := hk1.size
    have hs2 := hk2.size
    have hWl := hw2.blk.lt
    refine ⟨none, none, 0, 0, 0, 0, ⟨?_, ?_⟩, ⟨hw3.blk, own_mono hw3.own (by omega)⟩, ?_, by omega, by omega, (hk1.trans hk2 (fun _ _ h => h)).trans hk3 (fun _ _ h => h), BInv.nil⟩
    · exact (hw2.keep hk3 (fun h => h) (fun _ _ h => h)).blk
    · exact own_mono (hw2.keep hk3 (fun h => h) (fun _ _ h => h)).own (by omega)
    · rintro k (rfl | ⟨_, e, _⟩) (hf | ⟨_, e, _⟩)
      · omega
      · cases e
      · cases e
      · cases e
  have HT := hid hT
  generalize w2.heap.size = X at *
  clear hT hw2 hw3 hk1 hk2 hk3 hW
  have hcn : n ≤ 9223372036854775807 := by have := h.cap; have := h.reach; omega
  have hcn' : n' ≤ 9223372036854775807 := by have := h'.cap; have := h'.reach; omega
  have H := hid h
  have H' := hid h'
  clear h h'
  go_wp2_with fail
  go_loopw [7, 8] (fun v k wr => ∃ i : Nat, i ≤ 40 ∧ v = .int .i64 i ∧ True ∧ ∃ l r, Hid (TwoS w W X l r wr) ∧ Hid (l.length ≤ 32 * i)) (fun v _ _ => 40 - (intOf v).toNat)
  case atStart => exact ⟨0, by omega, rfl, trivial, [], 0, HT, hid (by simp)⟩
  case round =>
    obtain ⟨i, hi, rfl, _, l, r, HTS, HL⟩ := hrel
    clear HT
    by_cases hlt : i < n ∧ i < n' ∧ i < 40
    · obtain ⟨h1, h2, h3⟩ := hlt
      obtain ⟨A1, B1, n1, c1, m1, d1, ht⟩ := HTS.out
      have HT := hid ht
      obtain ⟨b1, o1, rfl, hc1⟩ := (H.out.rd.keep ht.keep (fun _ _ h => h)).int_ix h1
      obtain ⟨b2, o2, rfl, hc2⟩ := (H'.out.rd.keep ht.keep (fun _ _ h => h)).int_ix h2
      clear ht HTS
      generalize ss.getD i 0 = s at *
      generalize ns.getD i 0 = x at *
      have hlr := HL.out
      have hbl : b1 < w.heap.size := H.out.rd.lt (by omega) _ rfl
      by_cases hs : 0 < s.tmod 7
      · go_wp2_with fail
        refine (within_any s 12 wr (by omega) (by omega)).mono ?_
        rintro e w9 ⟨rfl, rfl⟩
        have q1 : 0 ≤ s % 12 := by omega
        have q2 : s % 12 < 12 := by omega
        clear hs
        generalize s % 12 = q at *
        by_cases hq : q = 0
        · subst hq
          go_wp2_with fail
          refine (bit_any wr w.heap.size W A1 n1 c1 l r x HT.out.wr HT.out.inv HT.out.keep.size (by have := HT.out.wr.len; omega)).mono ?_
          rintro e w4 ⟨A2, n2, c2, rfl, h4, hg4, hk4⟩
          have hc1' := hk4.cell hc1 (fun hf => by have := HT.out.footW _ hf; simp at this; omega)
          have hs4 := Nat.le_trans HT.out.keep.size hk4.size
          have hr4 := HT.out.ref1 hk4
          have HR4 := hid hr4
          have H1 := hid (And.intro h4 (And.intro hg4 hk4))
          clear h4 hg4 hk4 hr4
          go_wp2_with fail
          refine (rbit_any w4 w.heap.size X B1 m1 d1 l r x HR4.out HT.out.inv hs4 (by have := refB_le l r; have := RW0.len HR4.out; omega)).mono ?_
          rintro e w5 ⟨B2, m2, d2, rfl, h5, hg5, hk5⟩
          have H2 := hid (And.intro (show RWr w5 w.heap.size X B2 m2 d2 (stepL l r x) (stepR l r) from h5) (And.intro hg5 hk5))
          have HI := hid (HT.out.inv.step x)
          have HL1 := hid (show (stepL l r x).length ≤ l.length + 32 by have := stepL_length l r x; omega)
          clear h5 hg5 hk5 hc1'
          generalize stepL l r x = l2 at *
          generalize stepR l r = r2 at *
          -- both rows of bytes, compared
          have h5 := HT.out.next (H1.out.1) H1.out.2.1 H1.out.2.2 H2.out.1 H2.out.2.1 H2.out.2.2 HI.out
          have H5 := hid h5
          have hl5 := HL1.out
          clear h5
          go_wp2_with fail
          have cv : ∀ (w : World) (A : Option Addr) (n c : Nat) (zs : List Int), Rd w A n (zs.map (Value.int .u8)) → (convert 31 9 (.slice A n c)).run Try.prog w = .ok (.string (strOfNums zs)) w := fun w A n c zs h => run_string_rd _ _ _ Try.underlying31 Try.underlying5 Try.underlying9 h c
          have CV := hid cv
          clear cv
          -- region 15: 7 operations
          refine At.start (L := #[false, false, false, false, false, false, false]) (by kernel_rfl) rfl ?_
          refine At.pure 0 (some 67) (v := ?v0a) rfl rfl (by kernel_rfl) (fun _ _ _ h => h) rfl (fun w' => ?y0a) ?_   
          case y0a => go_simp; try with_reducible rfl
          try simp only [Act.put, List.setIfInBounds_toArray, List.set_cons_zero, List.set_cons_succ]
          refine At.pure 3 (some 70) (v := ?v3a) rfl rfl (by kernel_rfl) (fun _ _ _ h => h) rfl (fun w' => ?y3a) ?_   
          case y3a => go_simp; try with_reducible rfl
          try simp only [Act.put, List.setIfInBounds_toArray, List.set_cons_zero, List.set_cons_succ]
          refine At.call 1 (pend' := []) rfl (by kernel_rfl) rfl (by kernel_rfl) (fun K hK => ?_)   
          go_simp
          refine (bytes_any _ w.heap.size W A2 n2 c2 _ _ H5.out.drew.wr (by have := H5.out.wr.len; omega)).mono ?_
          rintro e w6 ⟨A6, n6, c6, rfl, hown6, hk6⟩
          refine hK _ _ all_nil ?_
          clear hK K
          try simp only [Act.put, List.setIfInBounds_toArray, List.set_cons_zero, List.set_cons_succ]
          refine At.read 2 (some 69) (fun w' => Rd w' A6 n6 ((outB l2).map (Value.int .u8))) (v := ?v2a) rfl rfl (by kernel_rfl) (fun _ _ _ h => h) rfl (Rd.of_own hown6) (fun w' hw' => ?y2a) ?_   
          case y2a => have cv := CV.out w' A6 n6 c6 _ hw'; go_simp; try with_reducible rfl
          try simp only [Act.put, List.setIfInBounds_toArray, List.set_cons_zero, List.set_cons_succ]
          refine At.call 4 (pend' := [(2, (fun w' => Rd w' A6 n6 ((outB l2).map (Value.int .u8))))]) rfl (by kernel_rfl) rfl (by kernel_rfl) (fun K hK => ?_)   
          go_simp
          refine (rbytes_any _ w.heap.size X B2 m2 d2 _ _ (H5.out.drew.aside hk6).rw_ HI.out (by omega)).mono ?_
          rintro e w7 ⟨A7, n7, c7, rfl, hown7, hk7⟩
          refine hK _ _ (all_cons (Rd.keep (Rd.of_own hown6) hk7 (fun _ _ h => h)) all_nil) ?_
          clear hK K
          try simp only [Act.put, List.setIfInBounds_toArray, List.set_cons_zero, List.set_cons_succ]
          refine At.read 5 (some 72) (fun w' => Rd w' A7 n7 ((outB l2).map (Value.int .u8))) (v := ?v5a) rfl rfl (by kernel_rfl) (fun _ _ _ h => h) rfl (Rd.of_own hown7) (fun w' hw' => ?y5a) ?_   
          case y5a => have cv := CV.out w' A7 n7 c7 _ hw'; go_simp; try with_reducible rfl
          try simp only [Act.put, List.setIfInBounds_toArray, List.set_cons_zero, List.set_cons_succ]
          refine At.pure 6 (some 73) (v := ?v6a) rfl rfl (by kernel_rfl) (fun _ _ _ h => h) rfl (fun w' => ?y6a) ?_   
          case y6a => go_simp; try with_reducible rfl
          try simp only [Act.put, List.setIfInBounds_toArray, List.set_cons_zero, List.set_cons_succ]
          refine At.done (by kernel_rfl) ?_
          have h7 := (H5.out.drew.aside hk6).aside hk7
          have H7 := hid h7
          clear h7 hk6 hk7 hown6 hown7
          go_wp2_with fail
          go_roundw
          case rel => exact ⟨i + 1, by omega, by go_num, trivial, l2, r2, hid ⟨_, _, _, _, _, _, H7.out⟩, hid (by omega)⟩
          case measure => simp [intOf]; omega
        · have hq' : (1 + q == 1) = false := by simp; omega
          go_wp2_with fail
          refine (bits_any wr w.heap.size W A1 n1 c1 l r x (1 + q) HT.out.wr HT.out.inv HT.out.keep.size (by have := HT.out.wr.len; omega)).mono ?_
          rintro e w4 ⟨A2, n2, c2, rfl, h4, hg4, hk4⟩
          have hc1' := hk4.cell hc1 (fun hf => by have := HT.out.footW _ hf; simp at this; omega)
          have hs4 := Nat.le_trans HT.out.keep.size hk4.size
          have hr4 := HT.out.ref1 hk4
          have HR4 := hid hr4
          have H1 := hid (And.intro h4 (And.intro hg4 hk4))
          clear h4 hg4 hk4 hr4
          go_wp2_with fail
          refine (rbits_any w4 w.heap.size X B1 m1 d1 l r x (1 + q) HR4.out HT.out.inv hs4 (by omega)).mono ?_
          rintro e w5 ⟨rfl, B2, ⟨m2, d2, h5⟩, hg5, hk5⟩
          have H2 := hid (And.intro h5 (And.intro hg5 hk5))
          have HI := hid (runM_inv (numB x (1 + q)) (l, r) HT.out.inv)
          have HL1 := hid (Nat.le_trans (runM_length (numB x (1 + q)) (l, r)) (Nat.add_le_add_left (numB_le x (1 + q)) _))
          clear h5 hg5 hk5 hc1'
          simp only at HL1
          generalize (runM (l, r) (numB x (1 + q))).1 = l2 at *
          generalize (runM (l, r) (numB x (1 + q))).2 = r2 at *
          -- both rows of bytes, compared
          have h5 := HT.out.next (H1.out.1) H1.out.2.1 H1.out.2.2 H2.out.1 H2.out.2.1 H2.out.2.2 HI.out
          have H5 := hid h5
          have hl5 := HL1.out
          clear h5
          go_wp2_with fail
          have cv : ∀ (w : World) (A : Option Addr) (n c : Nat) (zs : List Int), Rd w A n (zs.map (Value.int .u8)) → (convert 31 9 (.slice A n c)).run Try.prog w = .ok (.string (strOfNums zs)) w := fun w A n c zs h => run_string_rd _ _ _ Try.underlying31 Try.underlying5 Try.underlying9 h c
          have CV := hid cv
          clear cv
          -- region 15: 7 operations
          refine At.start (L := #[false, false, false, false, false, false, false]) (by kernel_rfl) rfl ?_
          refine At.pure 0 (some 67) (v := ?v0b) rfl rfl (by kernel_rfl) (fun _ _ _ h => h) rfl (fun w' => ?y0b) ?_   
          case y0b => go_simp; try with_reducible rfl
          try simp only [Act.put, List.setIfInBounds_toArray, List.set_cons_zero, List.set_cons_succ]
          refine At.pure 3 (some 70) (v := ?v3b) rfl rfl (by kernel_rfl) (fun _ _ _ h => h) rfl (fun w' => ?y3b) ?_   
          case y3b => go_simp; try with_reducible rfl
          try simp only [Act.put, List.setIfInBounds_toArray, List.set_cons_zero, List.set_cons_succ]
          refine At.call 1 (pend' := []) rfl (by kernel_rfl) rfl (by kernel_rfl) (fun K hK => ?_)   
          go_simp
          refine (bytes_any _ w.heap.size W A2 n2 c2 _ _ H5.out.drew.wr (by have := H5.out.wr.len; omega)).mono ?_
          rintro e w6 ⟨A6, n6, c6, rfl, hown6, hk6⟩
          refine hK _ _ all_nil ?_
          clear hK K
          try simp only [Act.put, List.setIfInBounds_toArray, List.set_cons_zero, List.set_cons_succ]
          refine At.read 2 (some 69) (fun w' => Rd w' A6 n6 ((outB l2).map (Value.int .u8))) (v := ?v2b) rfl rfl (by kernel_rfl) (fun _ _ _ h => h) rfl (Rd.of_own hown6) (fun w' hw' => ?y2b) ?_   
          case y2b => have cv := CV.out w' A6 n6 c6 _ hw'; go_simp; try with_reducible rfl
          try simp only [Act.put, List.setIfInBounds_toArray, List.set_cons_zero, List.set_cons_succ]
          refine At.call 4 (pend' := [(2, (fun w' => Rd w' A6 n6 ((outB l2).map (Value.int .u8))))]) rfl (by kernel_rfl) rfl (by kernel_rfl) (fun K hK => ?_)   
          go_simp
          refine (rbytes_any _ w.heap.size X B2 m2 d2 _ _ (H5.out.drew.aside hk6).rw_ HI.out (by omega)).mono ?_
          rintro e w7 ⟨A7, n7, c7, rfl, hown7, hk7⟩
          refine hK _ _ (all_cons (Rd.keep (Rd.of_own hown6) hk7 (fun _ _ h => h)) all_nil) ?_
          clear hK K
          try simp only [Act.put, List.setIfInBounds_toArray, List.set_cons_zero, List.set_cons_succ]
          refine At.read 5 (some 72) (fun w' => Rd w' A7 n7 ((outB l2).map (Value.int .u8))) (v := ?v5b) rfl rfl (by kernel_rfl) (fun _ _ _ h => h) rfl (Rd.of_own hown7) (fun w' hw' => ?y5b) ?_   
          case y5b => have cv := CV.out w' A7 n7 c7 _ hw'; go_simp; try with_reducible rfl
          try simp only [Act.put, List.setIfInBounds_toArray, List.set_cons_zero, List.set_cons_succ]
          refine At.pure 6 (some 73) (v := ?v6b) rfl rfl (by kernel_rfl) (fun _ _ _ h => h) rfl (fun w' => ?y6b) ?_   
          case y6b => go_simp; try with_reducible rfl
          try simp only [Act.put, List.setIfInBounds_toArray, List.set_cons_zero, List.set_cons_succ]
          refine At.done (by kernel_rfl) ?_
          have h7 := (H5.out.drew.aside hk6).aside hk7
          have H7 := hid h7
          clear h7 hk6 hk7 hown6 hown7
          go_wp2_with fail
          go_roundw
          case rel => exact ⟨i + 1, by omega, by go_num, trivial, l2, r2, hid ⟨_, _, _, _, _, _, H7.out⟩, hid (by omega)⟩
          case measure => simp [intOf]; omega
      · have hq' : (s == 1) = false := by
          simp
          intro h
          subst h
          exact hs (by decide)
        go_wp2_with fail
        refine (bits_any wr w.heap.size W A1 n1 c1 l r x s HT.out.wr HT.out.inv HT.out.keep.size (by have := HT.out.wr.len; omega)).mono ?_
        rintro e w4 ⟨A2, n2, c2, rfl, h4, hg4, hk4⟩
        have hc1' := hk4.cell hc1 (fun hf => by have := HT.out.footW _ hf; simp at this; omega)
        have hs4 := Nat.le_trans HT.out.keep.size hk4.size
        have hr4 := HT.out.ref1 hk4
        have HR4 := hid hr4
        have H1 := hid (And.intro h4 (And.intro hg4 hk4))
        clear h4 hg4 hk4 hr4
        go_wp2_with fail
        refine (rbits_any w4 w.heap.size X B1 m1 d1 l r x s HR4.out HT.out.inv hs4 (by omega)).mono ?_
        rintro e w5 ⟨rfl, B2, ⟨m2, d2, h5⟩, hg5, hk5⟩
        have H2 := hid (And.intro h5 (And.intro hg5 hk5))
        have HI := hid (runM_inv (numB x s) (l, r) HT.out.inv)
        have HL1 := hid (Nat.le_trans (runM_length (numB x s) (l, r)) (Nat.add_le_add_left (numB_le x s) _))
        clear h5 hg5 hk5 hc1'
        simp only at HL1
        generalize (runM (l, r) (numB x s)).1 = l2 at *
        generalize (runM (l, r) (numB x s)).2 = r2 at *
        -- both rows of bytes, compared
        have h5 := HT.out.next (H1.out.1) H1.out.2.1 H1.out.2.2 H2.out.1 H2.out.2.1 H2.out.2.2 HI.out
        have H5 := hid h5
        have hl5 := HL1.out
        clear h5
        go_wp2_with fail
        have cv : ∀ (w : World) (A : Option Addr) (n c : Nat) (zs : List Int), Rd w A n (zs.map (Value.int .u8)) → (convert 31 9 (.slice A n c)).run Try.prog w = .ok (.string (strOfNums zs)) w := fun w A n c zs h => run_string_rd _ _ _ Try.underlying31 Try.underlying5 Try.underlying9 h c
        have CV := hid cv
        clear cv
        -- region 15: 7 operations
        refine At.start (L := #[false, false, false, false, false, false, false]) (by kernel_rfl) rfl ?_
        refine At.pure 0 (some 67) (v := ?v0c) rfl rfl (by kernel_rfl) (fun _ _ _ h => h) rfl (fun w' => ?y0c) ?_   
        case y0c => go_simp; try with_reducible rfl
        try simp only [Act.put, List.setIfInBounds_toArray, List.set_cons_zero, List.set_cons_succ]
        refine At.pure 3 (some 70) (v := ?v3c) rfl rfl (by kernel_rfl) (fun _ _ _ h => h) rfl (fun w' => ?y3c) ?_   
        case y3c => go_simp; try with_reducible rfl
        try simp only [Act.put, List.setIfInBounds_toArray, List.set_cons_zero, List.set_cons_succ]
        refine At.call 1 (pend' := []) rfl (by kernel_rfl) rfl (by kernel_rfl) (fun K hK => ?_)   
        go_simp
        refine (bytes_any _ w.heap.size W A2 n2 c2 _ _ H5.out.drew.wr (by have := H5.out.wr.len; omega)).mono ?_
        rintro e w6 ⟨A6, n6, c6, rfl, hown6, hk6⟩
        refine hK _ _ all_nil ?_
        clear hK K
        try simp only [Act.put, List.setIfInBounds_toArray, List.set_cons_zero, List.set_cons_succ]
        refine At.read 2 (some 69) (fun w' => Rd w' A6 n6 ((outB l2).map (Value.int .u8))) (v := ?v2c) rfl rfl (by kernel_rfl) (fun _ _ _ h => h) rfl (Rd.of_own hown6) (fun w' hw' => ?y2c) ?_   
        case y2c => have cv := CV.out w' A6 n6 c6 _ hw'; go_simp; try with_reducible rfl
        try simp only [Act.put, List.setIfInBounds_toArray, List.set_cons_zero, List.set_cons_succ]
        refine At.call 4 (pend' := [(2, (fun w' => Rd w' A6 n6 ((outB l2).map (Value.int .u8))))]) rfl (by kernel_rfl) rfl (by kernel_rfl) (fun K hK => ?_)   
        go_simp
        refine (rbytes_any _ w.heap.size X B2 m2 d2 _ _ (H5.out.drew.aside hk6).rw_ HI.out (by omega)).mono ?_
        rintro e w7 ⟨A7, n7, c7, rfl, hown7, hk7⟩
        refine hK _ _ (all_cons (Rd.keep (Rd.of_own hown6) hk7 (fun _ _ h => h)) all_nil) ?_
        clear hK K
        try simp only [Act.put, List.setIfInBounds_toArray, List.set_cons_zero, List.set_cons_succ]
        refine At.read 5 (some 72) (fun w' => Rd w' A7 n7 ((outB l2).map (Value.int .u8))) (v := ?v5c) rfl rfl (by kernel_rfl) (fun _ _ _ h => h) rfl (Rd.of_own hown7) (fun w' hw' => ?y5c) ?_   
        case y5c => have cv := CV.out w' A7 n7 c7 _ hw'; go_simp; try with_reducible rfl
        try simp only [Act.put, List.setIfInBounds_toArray, List.set_cons_zero, List.set_cons_succ]
        refine At.pure 6 (some 73) (v := ?v6c) rfl rfl (by kernel_rfl) (fun _ _ _ h => h) rfl (fun w' => ?y6c) ?_   
        case y6c => go_simp; try with_reducible rfl
        try simp only [Act.put, List.setIfInBounds_toArray, List.set_cons_zero, List.set_cons_succ]
        refine At.done (by kernel_rfl) ?_
        have h7 := (H5.out.drew.aside hk6).aside hk7
        have H7 := hid h7
        clear h7 hk6 hk7 hown6 hown7
        go_wp2_with fail
        go_roundw
        case rel => exact ⟨i + 1, by omega, by go_num, trivial, l2, r2, hid ⟨_, _, _, _, _, _, H7.out⟩, hid (by omega)⟩
        case measure => simp [intOf]; omega
    · have HT := HTS.out
      obtain ⟨A1, B1, n1, c1, m1, d1, ht⟩ := HT
      have hk := ht.keep
      clear ht
      by_cases h1 : i < n
      · by_cases h2 : i < n'
        · have h3 : ¬ i < 40 := fun h3 => hlt ⟨h1, h2, h3⟩
          go_wp2_with fail
          go_ret
          exact ⟨rfl, hk.below (Nat.le_refl _) (fun _ h => h.elim)⟩
        · go_wp2_with fail
          go_ret
          exact ⟨rfl, hk.below (Nat.le_refl _) (fun _ h => h.elim)⟩
      · go_wp2_with fail
        go_ret
        exact ⟨rfl, hk.below (Nat.le_refl _) (fun _ h => h.elim)⟩
end Go.Proofs.Ytnhciiljdmgcjaa
