/-
  TreeTwo: the walk. Conditions: none.
-/
import Derived.Test.YtbkffpedigeflaaTreeKn
import Derived.Test.YtbkffpedigeflaaArg
namespace Go.Proofs.Ytbkffpedigeflaa
open Go.RowKit

theorem lev33 : Lev 3 3 3 := ⟨by omega, by omega, by omega, by omega, by omega, by omega, rfl, rfl, fun i h => by
  obtain rfl | rfl : i = 0 ∨ i = 1 := by omega
  · simp [upN]
  · simp [upN]⟩
def rA (NA : Nat → Nat → Nd) (k : Nat) : (Nat → Nat → Nd) × (List Int × Int) := runT 3 3 (fun k => k) (fun _ => 5) NA ([], 0) k
def rB (NB : Nat → Nat → Nd) (k : Nat) : (Nat → Nat → Nd) × (List Int × Int) := runT 3 3 (fun k => 8 - k) (fun _ => 7) NB ([], 0) k
theorem rA_len (NA : Nat → Nat → Nd) (k : Nat) : (rA NA k).2.1.length ≤ 7007 * k := by
  have := runT_len 3 3 (fun k => k) (fun _ => 5) NA ([], 0) (by omega) (fun _ => by omega) k
  simpa [rA] using this
theorem rB_len (NA : Nat → Nat → Nd) (k : Nat) : (rB NA k).2.1.length ≤ 7007 * k := by
  have := runT_len 3 3 (fun k => 8 - k) (fun _ => 7) NA ([], 0) (by omega) (fun _ => by omega) k
  simpa [rB] using this
/-- The first two trees' row, the others untouched. -/
structure TwoR (NA NB : Nat → Nat → Nd) (N : Nat → Nat → Nat → Nd) (st : Nat → List Int × Int) (k j : Nat) : Prop where
  a : N 0 = (rA NA k).1
  b : st 0 = (rA NA k).2
  c : N 1 = (rB NB k).1
  d : st 1 = (rB NB k).2
  e : N 2 = NA
  f : st 2 = ([], 0)
  g : N 3 = NB
  h : st 3 = ([], 0)
theorem TwoR.l0 {NA NB : Nat → Nat → Nd} {N : Nat → Nat → Nat → Nd} {st : Nat → List Int × Int} {k j : Nat} (h : TwoR NA NB N st k j) (hk : k ≤ 9) : (st 0).1.length ≤ 1000000 := by
  have := rA_len NA k
  rw [h.b]; omega
theorem TwoR.l1 {NA NB : Nat → Nat → Nd} {N : Nat → Nat → Nat → Nd} {st : Nat → List Int × Int} {k j : Nat} (h : TwoR NA NB N st k j) (hk : k ≤ 9) : (st 1).1.length ≤ 1000000 := by
  have := rB_len NB k
  rw [h.d]; omega
theorem TwoR.both {NA NB : Nat → Nat → Nd} {N : Nat → Nat → Nat → Nd} {st : Nat → List Int × Int} {k : Nat} (h : TwoR NA NB N st k 0) :
    TwoR NA NB (put (put N 0 (encI 3 3 k 5 (N 0) 3).2.1) 1 (encI 3 3 (8 - k) 7 (put N 0 (encI 3 3 k 5 (N 0) 3).2.1 1) 3).2.1)
      (put (put st 0 (runM (st 0) (encI 3 3 k 5 (N 0) 3).2.2)) 1 (runM (put st 0 (runM (st 0) (encI 3 3 k 5 (N 0) 3).2.2) 1) (encI 3 3 (8 - k) 7 (put N 0 (encI 3 3 k 5 (N 0) 3).2.1 1) 3).2.2)) (k + 1) 0 := by
  have e1 : put N 0 (encI 3 3 k 5 (N 0) 3).2.1 1 = N 1 := put_ne _ _ (by decide)
  have e2 : put st 0 (runM (st 0) (encI 3 3 k 5 (N 0) 3).2.2) 1 = st 1 := put_ne _ _ (by decide)
  rw [e1, e2]
  refine ⟨?_, ?_, ?_, ?_, ?_, ?_, ?_, ?_⟩
  · rw [put_ne _ _ (by decide), put_at, h.a]; rfl
  · rw [put_ne _ _ (by decide), put_at, h.a, h.b]; rfl
  · rw [put_at, h.c]; rfl
  · rw [put_at, h.c, h.d]; rfl
  · rw [put_ne _ _ (by decide), put_ne _ _ (by decide)]; exact h.e
  · rw [put_ne _ _ (by decide), put_ne _ _ (by decide)]; exact h.f
  · rw [put_ne _ _ (by decide), put_ne _ _ (by decide)]; exact h.g
  · rw [put_ne _ _ (by decide), put_ne _ _ (by decide)]; exact h.h
/-- The first two are done; the others' rows. -/
structure ThreeR (NA NB : Nat → Nat → Nd) (N : Nat → Nat → Nat → Nd) (st : Nat → List Int × Int) (k j : Nat) : Prop where
  q0 : st 0 = (rA NA 9).2
  q1 : st 1 = (rB NB 9).2
  c : N 2 = (rA NA k).1
  q2 : st 2 = (rA NA k).2
  e : N 3 = (rB NB j).1
  q3 : st 3 = (rB NB j).2
theorem ThreeR.l2 {NA NB : Nat → Nat → Nd} {N : Nat → Nat → Nat → Nd} {st : Nat → List Int × Int} {k j : Nat} (h : ThreeR NA NB N st k j) (hk : k ≤ 9) : (st 2).1.length ≤ 1000000 := by
  have := rA_len NA k
  rw [h.q2]; omega
theorem ThreeR.l3 {NA NB : Nat → Nat → Nd} {N : Nat → Nat → Nat → Nd} {st : Nat → List Int × Int} {k j : Nat} (h : ThreeR NA NB N st k j) (hk : j ≤ 9) : (st 3).1.length ≤ 1000000 := by
  have := rB_len NB j
  rw [h.q3]; omega
theorem ThreeR.step2 {NA NB : Nat → Nat → Nd} {N : Nat → Nat → Nat → Nd} {st : Nat → List Int × Int} {k j : Nat} (h : ThreeR NA NB N st k j) :
    ThreeR NA NB (put N 2 (encI 3 3 k 5 (N 2) 3).2.1) (put st 2 (runM (st 2) (encI 3 3 k 5 (N 2) 3).2.2)) (k + 1) j := by
  refine ⟨?_, ?_, ?_, ?_, ?_, ?_⟩
  · rw [put_ne _ _ (by decide)]; exact h.q0
  · rw [put_ne _ _ (by decide)]; exact h.q1
  · rw [put_at, h.c]; rfl
  · rw [put_at, h.c, h.q2]; rfl
  · rw [put_ne _ _ (by decide)]; exact h.e
  · rw [put_ne _ _ (by decide)]; exact h.q3
theorem ThreeR.step3 {NA NB : Nat → Nat → Nd} {N : Nat → Nat → Nat → Nd} {st : Nat → List Int × Int} {k j : Nat} (h : ThreeR NA NB N st k j) :
    ThreeR NA NB (put N 3 (encI 3 3 (8 - j) 7 (N 3) 3).2.1) (put st 3 (runM (st 3) (encI 3 3 (8 - j) 7 (N 3) 3).2.2)) k (j + 1) := by
  refine ⟨?_, ?_, ?_, ?_, ?_, ?_⟩
  · rw [put_ne _ _ (by decide)]; exact h.q0
  · rw [put_ne _ _ (by decide)]; exact h.q1
  · rw [put_ne _ _ (by decide)]; exact h.c
  · rw [put_ne _ _ (by decide)]; exact h.q2
  · rw [put_at, h.e]; rfl
  · rw [put_at, h.e, h.q3]; rfl
set_option maxHeartbeats 8000000 in
theorem treeTwo_walk (A : Option Addr) (n c : Nat) (zs : List Int) (A' : Option Addr) (n' c' : Nat) (ys : List Int) (w : World) (h : Arg .i64 8 w A n c zs) (h' : Arg .i64 8 w A' n' c' ys) :
    Calls Try.prog 3 #[.slice A n c, .slice A' n' c'] w fun e w' => e = .returned (.bool true) ∧ Below w.heap.size w w' := by
  have HR := hid h.rd
  have HR' := hid h'.rd
  have HI := hid h.ints
  have HI' := hid h'.ints
  clear h h'
  go_enter Try.func3, Try.ntmps3
  go_wp2_with fail
  refine (known_ok w).mono ?_
  rintro e w1 ⟨rfl, hk1⟩
  have H0 := hid (TrS.start (p := fun _ => 0) (L := 3) (W := 3) (H := 3) (N := fun _ _ _ => nd0) (Q := fun _ => 0) (st := fun _ => ([], 0)) hk1)
  clear hk1
  go_wp2_with fail
  refine (new_any w1 3 3 (by omega) (by omega) (by omega) (by omega)).mono ?_
  rintro e w2 ⟨a, G, c, L, B, rfl, ht, hn, hkk⟩
  obtain rfl : L = 3 := ht.lev.same lev33
  have H1 := hid (TrS.tree (m := 0) H0.out ht hn hkk (p' := (fun _ => a)) (N' := fun _ _ _ => nd0) (fun i hi => (by omega)) rfl (fun _ _ => rfl) rfl)
  clear ht hn hkk H0
  go_wp2_with fail
  refine (new_any w2 3 3 (by omega) (by omega) (by omega) (by omega)).mono ?_
  rintro e w3 ⟨b, G, c, L, B, rfl, ht, hn, hkk⟩
  obtain rfl : L = 3 := ht.lev.same lev33
  have H2 := hid (TrS.tree (m := 1) H1.out ht hn hkk (p' := (put (fun _ => a) 1 b)) (N' := fun _ _ _ => nd0) (fun i hi => (put_ne _ _ (by omega))) (put_at _ _ _) (fun _ _ => rfl) rfl)
  clear ht hn hkk H1
  go_wp2_with fail
  refine (new_any w3 3 3 (by omega) (by omega) (by omega) (by omega)).mono ?_
  rintro e w4 ⟨d, G, c, L, B, rfl, ht, hn, hkk⟩
  obtain rfl : L = 3 := ht.lev.same lev33
  have H3 := hid (TrS.tree (m := 2) H2.out ht hn hkk (p' := (put (put (fun _ => a) 1 b) 2 d)) (N' := fun _ _ _ => nd0) (fun i hi => (put_ne _ _ (by omega))) (put_at _ _ _) (fun _ _ => rfl) rfl)
  clear ht hn hkk H2
  go_wp2_with fail
  refine (new_any w4 3 3 (by omega) (by omega) (by omega) (by omega)).mono ?_
  rintro e w5 ⟨f, G, c, L, B, rfl, ht, hn, hkk⟩
  obtain rfl : L = 3 := ht.lev.same lev33
  have H4 := hid (TrS.tree (m := 3) H3.out ht hn hkk (p' := (put (put (put (fun _ => a) 1 b) 2 d) 3 f)) (N' := fun _ _ _ => nd0) (fun i hi => (put_ne _ _ (by omega))) (put_at _ _ _) (fun _ _ => rfl) rfl)
  clear ht hn hkk H3
  go_wp2_with fail
  refine (neww_any w5).mono ?_
  rintro e w6 ⟨q, rfl, hQ, hw2, hkk⟩
  have H5 := hid (TrS.writer (r := 0) H4.out hw2 hQ hkk (Q' := (fun _ => q)) (st' := fun _ => ([], 0)) (fun i hi => (by omega)) rfl (fun _ _ => rfl) rfl)
  clear hQ hw2 hkk H4
  go_wp2_with fail
  refine (neww_any w6).mono ?_
  rintro e w7 ⟨s, rfl, hQ, hw2, hkk⟩
  have H6 := hid (TrS.writer (r := 1) H5.out hw2 hQ hkk (Q' := (put (fun _ => q) 1 s)) (st' := fun _ => ([], 0)) (fun i hi => (put_ne _ _ (by omega))) (put_at _ _ _) (fun _ _ => rfl) rfl)
  clear hQ hw2 hkk H5
  go_wp2_with fail
  refine (neww_any w7).mono ?_
  rintro e w8 ⟨t, rfl, hQ, hw2, hkk⟩
  have H7 := hid (TrS.writer (r := 2) H6.out hw2 hQ hkk (Q' := (put (put (fun _ => q) 1 s) 2 t)) (st' := fun _ => ([], 0)) (fun i hi => (put_ne _ _ (by omega))) (put_at _ _ _) (fun _ _ => rfl) rfl)
  clear hQ hw2 hkk H6
  go_wp2_with fail
  refine (neww_any w8).mono ?_
  rintro e w9 ⟨v, rfl, hQ, hw2, hkk⟩
  have H8 := hid (TrS.writer (r := 3) H7.out hw2 hQ hkk (Q' := put (put (put (fun _ => q) 1 s) 2 t) 3 v) (st' := fun _ => ([], 0)) (fun i hi => put_ne _ _ (by omega)) (put_at _ _ _) (fun _ _ => rfl) rfl)
  clear hQ hw2 hkk H7
  obtain ⟨p, Q, HT0, e0, e1, e2, e3, f0, f1, f2, f3⟩ : ∃ p Q : Nat → Nat, Hid (TrS w 4 4 p 3 3 3 (fun _ _ _ => nd0) Q (fun _ => ([], 0)) w9) ∧ p 0 = a ∧ p 1 = b ∧ p 2 = d ∧ p 3 = f ∧ Q 0 = q ∧ Q 1 = s ∧ Q 2 = t ∧ Q 3 = v :=
    ⟨_, _, H8, rfl, rfl, rfl, rfl, rfl, rfl, rfl, rfl⟩
  subst e0 e1 e2 e3 f0 f1 f2 f3
  clear H8
  go_wp2_with fail
  go_loopw [13] (fun v wr => ∃ (k : Nat) (N : Nat → Nat → Nat → Nd), k ≤ 9 ∧ v = .int .i64 k ∧ Hid (TrS w 4 4 p 3 3 3 N Q (fun _ => ([], 0)) wr) ∧ Hid (N 0 = N 2 ∧ N 1 = N 3)) (fun v _ => 9 - (intOf v).toNat)
  case atStart => exact ⟨0, _, by omega, rfl, HT0, hid ⟨rfl, rfl⟩⟩
  case round =>
    obtain ⟨k, N, hk, rfl, HT, HE⟩ := hrel
    clear HT0
    by_cases hk9 : k < 9
    · have HK := hid HT.out.keeps
      by_cases hkn : k < n
      · skip
        have hz := (HI.out (zs.getD k 0)) (by
          have hl : k < zs.length := by rw [HR.out.len]; exact hkn
          rw [List.getD_eq_getElem?_getD, List.getElem?_eq_getElem hl]
          exact List.getElem_mem hl)
        obtain ⟨b1, o1, rfl, hc⟩ := HR.out.int_ix hkn
        have HC1 := hid hc
        have HZ1 := hid hz
        clear hz hc
        generalize zs.getD k 0 = z1 at *
        have d1 := HT.out.keeps.cell HC1.out (fun h => h)
        by_cases hkm : k < n'
        · skip
          have hz := (HI'.out (ys.getD k 0)) (by
            have hl : k < ys.length := by rw [HR'.out.len]; exact hkm
            rw [List.getD_eq_getElem?_getD, List.getElem?_eq_getElem hl]
            exact List.getElem_mem hl)
          obtain ⟨b2, o2, rfl, hc⟩ := HR'.out.int_ix hkm
          have HC2 := hid hc
          have HZ2 := hid hz
          clear hz hc
          generalize ys.getD k 0 = z2 at *
          go_wp2_with fail
          refine (within_any _ z1 9 HZ1.out.1 HZ1.out.2 (by omega) (by omega)).mono ?_
          rintro e w5 ⟨rfl, rfl⟩
          go_wp2_with fail
          refine (TrS.set HT.out (i := 0) (by omega) k (z1 % 9) (by omega)).mono ?_
          rintro e w6 ⟨rfl, h6⟩
          have HT6 := hid h6
          have d2 := h6.keeps.cell HC1.out (fun h => h)
          clear h6 HT d1
          go_wp2_with fail
          refine (within_any _ z1 9 HZ1.out.1 HZ1.out.2 (by omega) (by omega)).mono ?_
          rintro e w7 ⟨rfl, rfl⟩
          go_wp2_with fail
          refine (TrS.set HT6.out (i := 2) (by omega) k (z1 % 9) (by omega)).mono ?_
          rintro e w8 ⟨rfl, h8⟩
          have HT8 := hid h8
          clear h8 HT6 d2
          have d3 := HT8.out.keeps.cell HC2.out (fun h => h)
          go_wp2_with fail
          refine (within_any _ z2 9 HZ2.out.1 HZ2.out.2 (by omega) (by omega)).mono ?_
          rintro e w5 ⟨rfl, rfl⟩
          go_wp2_with fail
          refine (TrS.set HT8.out (i := 1) (by omega) k (z2 % 9) (by omega)).mono ?_
          rintro e w6 ⟨rfl, h6⟩
          have HT6 := hid h6
          have d2 := h6.keeps.cell HC2.out (fun h => h)
          clear h6 HT8 d3
          go_wp2_with fail
          refine (within_any _ z2 9 HZ2.out.1 HZ2.out.2 (by omega) (by omega)).mono ?_
          rintro e w7 ⟨rfl, rfl⟩
          go_wp2_with fail
          refine (TrS.set HT6.out (i := 3) (by omega) k (z2 % 9) (by omega)).mono ?_
          rintro e w8 ⟨rfl, h8⟩
          have HT8 := hid h8
          clear h8 HT6 d2
          go_wp2_with fail
          go_roundw
          case rel => exact ⟨k + 1, _, by omega, by go_num, HT8, hid ⟨by simp only [put]; simp [HE.out.1, HE.out.2], by simp only [put]; simp [HE.out.1, HE.out.2]⟩⟩
          case measure => simp [intOf]; omega
        · go_wp2_with fail
          refine (within_any _ z1 9 HZ1.out.1 HZ1.out.2 (by omega) (by omega)).mono ?_
          rintro e w5 ⟨rfl, rfl⟩
          go_wp2_with fail
          refine (TrS.set HT.out (i := 0) (by omega) k (z1 % 9) (by omega)).mono ?_
          rintro e w6 ⟨rfl, h6⟩
          have HT6 := hid h6
          have d2 := h6.keeps.cell HC1.out (fun h => h)
          clear h6 HT d1
          go_wp2_with fail
          refine (within_any _ z1 9 HZ1.out.1 HZ1.out.2 (by omega) (by omega)).mono ?_
          rintro e w7 ⟨rfl, rfl⟩
          go_wp2_with fail
          refine (TrS.set HT6.out (i := 2) (by omega) k (z1 % 9) (by omega)).mono ?_
          rintro e w8 ⟨rfl, h8⟩
          have HT8 := hid h8
          clear h8 HT6 d2
          go_wp2_with fail
          go_roundw
          case rel => exact ⟨k + 1, _, by omega, by go_num, HT8, hid ⟨by simp only [put]; simp [HE.out.1, HE.out.2], by simp only [put]; simp [HE.out.1, HE.out.2]⟩⟩
          case measure => simp [intOf]; omega
      · by_cases hkm : k < n'
        · skip
          have hz := (HI'.out (ys.getD k 0)) (by
            have hl : k < ys.length := by rw [HR'.out.len]; exact hkm
            rw [List.getD_eq_getElem?_getD, List.getElem?_eq_getElem hl]
            exact List.getElem_mem hl)
          obtain ⟨b2, o2, rfl, hc⟩ := HR'.out.int_ix hkm
          have HC2 := hid hc
          have HZ2 := hid hz
          clear hz hc
          generalize ys.getD k 0 = z2 at *
          have d3 := HT.out.keeps.cell HC2.out (fun h => h)
          go_wp2_with fail
          refine (within_any _ z2 9 HZ2.out.1 HZ2.out.2 (by omega) (by omega)).mono ?_
          rintro e w5 ⟨rfl, rfl⟩
          go_wp2_with fail
          refine (TrS.set HT.out (i := 1) (by omega) k (z2 % 9) (by omega)).mono ?_
          rintro e w6 ⟨rfl, h6⟩
          have HT6 := hid h6
          have d2 := h6.keeps.cell HC2.out (fun h => h)
          clear h6 HT d3
          go_wp2_with fail
          refine (within_any _ z2 9 HZ2.out.1 HZ2.out.2 (by omega) (by omega)).mono ?_
          rintro e w7 ⟨rfl, rfl⟩
          go_wp2_with fail
          refine (TrS.set HT6.out (i := 3) (by omega) k (z2 % 9) (by omega)).mono ?_
          rintro e w8 ⟨rfl, h8⟩
          have HT8 := hid h8
          clear h8 HT6 d2
          go_wp2_with fail
          go_roundw
          case rel => exact ⟨k + 1, _, by omega, by go_num, HT8, hid ⟨by simp only [put]; simp [HE.out.1, HE.out.2], by simp only [put]; simp [HE.out.1, HE.out.2]⟩⟩
          case measure => simp [intOf]; omega
        · go_wp2_with fail
          go_roundw
          case rel => exact ⟨k + 1, _, by omega, by go_num, HT, HE⟩
          case measure => simp [intOf]; omega
    · obtain rfl : k = 9 := by omega
      have HE0 : Hid (TwoR (N 0) (N 1) N (fun _ => ([], 0)) 0 0) := hid ⟨rfl, rfl, rfl, rfl, HE.out.1.symm, rfl, HE.out.2.symm, rfl⟩
      have HT1 := hid HT.out
      clear HT HE
      generalize N 0 = NA at *
      generalize N 1 = NB at *
      go_wp2_with fail
      go_loopw [14] (fun v wr => ∃ (k : Nat) (N : Nat → Nat → Nat → Nd) (st : Nat → List Int × Int), k ≤ 9 ∧ v = .int .i64 k ∧ Hid (TrS w 4 4 p 3 3 3 N Q st wr) ∧ Hid (TwoR NA NB N st k 0)) (fun v _ => 9 - (intOf v).toNat)
      case atStart => exact ⟨0, N, _, by omega, rfl, HT1, HE0⟩
      case round =>
        clear HT1 HE0 N
        obtain ⟨k, N, st, hk, rfl, HT, HE⟩ := hrel
        have hl0 := HE.out.l0 (by omega)
        have hl1 := HE.out.l1 (by omega)
        by_cases hk9 : k < 9
        · go_wp2_with fail
          refine (TrS.enc HT.out (i := 0) (j := 0) (by omega) (by omega) k 5 (by omega) (by omega) (by omega)).mono ?_
          rintro e w5 ⟨rfl, h5⟩
          have HT5 := hid h5
          clear h5 HT
          go_wp2_with fail
          rw [show (8 : Int) - (k : Int) = ((8 - k : Nat) : Int) by omega]
          refine (TrS.enc HT5.out (i := 1) (j := 1) (by omega) (by omega) (8 - k) 7 (by omega) (by omega) (by rw [put_ne _ _ (by decide)]; omega)).mono ?_
          rintro e w6 ⟨rfl, h6⟩
          have HT6 := hid h6
          clear h6 HT5
          go_wp2_with fail
          go_roundw
          case rel =>
            (repeat apply Exists.intro)
            refine ⟨?_, rfl⟩
            exact ⟨k + 1, _, _, by omega, by go_num, HT6, hid HE.out.both⟩
          case measure => simp [intOf]; omega
        · obtain rfl : k = 9 := by omega
          have HE0 := HE
          have HT0 := HT
          clear HT HE
          go_wp2_with fail
          go_loopw [15] (fun v wr => ∃ (k : Nat) (N : Nat → Nat → Nat → Nd) (st : Nat → List Int × Int), k ≤ 9 ∧ v = .int .i64 k ∧ Hid (TrS w 4 4 p 3 3 3 N Q st wr) ∧ Hid (ThreeR NA NB N st k 0)) (fun v _ => 9 - (intOf v).toNat)
          case atStart => exact ⟨0, N, st, by omega, rfl, HT0, hid ⟨HE0.out.b, HE0.out.d, HE0.out.e, HE0.out.f, HE0.out.g, HE0.out.h⟩⟩
          case round =>
            clear HT0 HE0 N st hl0 hl1
            obtain ⟨k, N, st, hk, rfl, HT, HE⟩ := hrel
            have hl2 := HE.out.l2 (by omega)
            by_cases hk9 : k < 9
            · go_wp2_with fail
              refine (TrS.enc HT.out (i := 2) (j := 2) (by omega) (by omega) k 5 (by omega) (by omega) (by omega)).mono ?_
              rintro e w5 ⟨rfl, h5⟩
              have HT5 := hid h5
              clear h5 HT
              go_wp2_with fail
              go_roundw
              case rel =>
                (repeat apply Exists.intro)
                refine ⟨?_, rfl⟩
                exact ⟨k + 1, _, _, by omega, by go_num, HT5, hid HE.out.step2⟩
              case measure => simp [intOf]; omega
            · obtain rfl : k = 9 := by omega
              have HE0 := HE
              have HT0 := HT
              clear HT HE
              go_wp2_with fail
              go_loopw [16] (fun v wr => ∃ (k : Nat) (N : Nat → Nat → Nat → Nd) (st : Nat → List Int × Int), k ≤ 9 ∧ v = .int .i64 k ∧ Hid (TrS w 4 4 p 3 3 3 N Q st wr) ∧ Hid (ThreeR NA NB N st 9 k)) (fun v _ => 9 - (intOf v).toNat)
              case atStart => exact ⟨0, N, st, by omega, rfl, HT0, HE0⟩
              case round =>
                clear HT0 HE0 N st hl2
                obtain ⟨k, N, st, hk, rfl, HT, HE⟩ := hrel
                have hl3 := HE.out.l3 (by omega)
                by_cases hk9 : k < 9
                · go_wp2_with fail
                  rw [show (8 : Int) - (k : Int) = ((8 - k : Nat) : Int) by omega]
                  refine (TrS.enc HT.out (i := 3) (j := 3) (by omega) (by omega) (8 - k) 7 (by omega) (by omega) (by omega)).mono ?_
                  rintro e w5 ⟨rfl, h5⟩
                  have HT5 := hid h5
                  clear h5 HT
                  go_wp2_with fail
                  go_roundw
                  case rel =>
                    (repeat apply Exists.intro)
                    refine ⟨?_, rfl⟩
                    exact ⟨k + 1, _, _, by omega, by go_num, HT5, hid HE.out.step3⟩
                  case measure => simp [intOf]; omega
                · obtain rfl : k = 9 := by omega
                  have hq0 := HE.out.q0
                  have hq1 := HE.out.q1
                  have hl2 := HE.out.l2 (by omega)
                  have HQ2 := hid (HE.out.q0.trans HE.out.q2.symm)
                  have HQ3 := hid (HE.out.q1.trans HE.out.q3.symm)
                  have hl0 : (st 0).1.length ≤ 1000000 := by rw [HQ2.out]; omega
                  have hl1 : (st 1).1.length ≤ 1000000 := by rw [HQ3.out]; omega
                  clear hq0 hq1
                  go_wp2_with fail
                  have CV := hid (fun (w : World) (A : Option Addr) (n c : Nat) (zs : List Int) (h : Rd w A n (zs.map (Value.int .u8))) => (run_string_rd _ _ _ Try.underlying31 Try.underlying5 Try.underlying9 h c : (convert 31 9 (.slice A n c)).run Try.prog w = .ok (.string (strOfNums zs)) w))
                  -- region 28: 17 operations
                  refine At.start (L := #[false, false, false, false, false, false, false, false, false, false, false, false, false, false, false, false, false]) (by kernel_rfl) rfl ?_
                  refine At.pure 0 (some 101) (v := ?v0z) rfl rfl (by kernel_rfl) (fun _ _ _ h => h) rfl (fun w' => ?y0z) ?_   
                  case y0z => go_simp; try with_reducible rfl
                  try simp only [Act.put, List.setIfInBounds_toArray, List.set_cons_zero, List.set_cons_succ]
                  refine At.pure 3 (some 104) (v := ?v3z) rfl rfl (by kernel_rfl) (fun _ _ _ h => h) rfl (fun w' => ?y3z) ?_   
                  case y3z => go_simp; try with_reducible rfl
                  try simp only [Act.put, List.setIfInBounds_toArray, List.set_cons_zero, List.set_cons_succ]
                  refine At.call 1 (pend' := []) rfl (by kernel_rfl) rfl (by kernel_rfl) (fun K hK => ?_)   
                  go_simp
                  refine (TrS.bytes (HT.out.aside ((Keep.refl (fun _ => False) wr).drew)) (j := 0) (by omega) (by omega)).mono ?_
                  rintro e wA ⟨A6, n6, c6, rfl, hr6, hkA⟩
                  have hmA := (HT.out.aside ((Keep.refl (fun _ => False) wr).drew)).aside hkA
                  have hr6 := Rd.of_own hr6
                  refine hK _ _ all_nil ?_
                  clear hK K
                  try simp only [Act.put, List.setIfInBounds_toArray, List.set_cons_zero, List.set_cons_succ]
                  refine At.read 2 (some 103) (fun w' => Rd w' A6 n6 ((outB (st 0).1).map (Value.int .u8))) (v := ?v2z) rfl rfl (by kernel_rfl) (fun _ _ _ h => h) rfl hr6 (fun w' hw' => ?y2z) ?_   
                  case y2z => have cv := CV.out w' A6 n6 c6 _ hw'; go_simp; try with_reducible rfl
                  try simp only [Act.put, List.setIfInBounds_toArray, List.set_cons_zero, List.set_cons_succ]
                  refine At.call 4 (pend' := [(2, (fun w' => Rd w' A6 n6 ((outB (st 0).1).map (Value.int .u8))))]) rfl (by kernel_rfl) rfl (by kernel_rfl) (fun K hK => ?_)   
                  go_simp
                  refine (TrS.bytes hmA (j := 2) (by omega) (by omega)).mono ?_
                  rintro e wB ⟨A7, n7, c7, rfl, hr7, hkB⟩
                  have hmB := hmA.aside hkB
                  have hr7 := Rd.of_own hr7
                  rw [← HQ2.out] at hr7
                  refine hK _ _ (all_cons (hr6.keep hkB (fun _ _ h => h)) all_nil) ?_
                  clear hK K
                  try simp only [Act.put, List.setIfInBounds_toArray, List.set_cons_zero, List.set_cons_succ]
                  refine At.read 5 (some 106) (fun w' => Rd w' A7 n7 ((outB (st 0).1).map (Value.int .u8))) (v := ?v5z) rfl rfl (by kernel_rfl) (fun _ _ _ h => h) rfl hr7 (fun w' hw' => ?y5z) ?_   
                  case y5z => have cv := CV.out w' A7 n7 c7 _ hw'; go_simp; try with_reducible rfl
                  try simp only [Act.put, List.setIfInBounds_toArray, List.set_cons_zero, List.set_cons_succ]
                  refine At.pure 6 (some 107) (v := ?v6z) rfl rfl (by kernel_rfl) (fun _ _ _ h => h) rfl (fun w' => ?y6z) ?_   
                  case y6z => go_simp; try with_reducible rfl
                  try simp only [Act.put, List.setIfInBounds_toArray, List.set_cons_zero, List.set_cons_succ]
                  refine At.pure 7 (some 108) (v := ?v7z) rfl rfl (by kernel_rfl) (fun _ _ _ h => h) rfl (fun w' => ?y7z) ?_   
                  case y7z => go_simp; try with_reducible rfl
                  try simp only [Act.put, List.setIfInBounds_toArray, List.set_cons_zero, List.set_cons_succ]
                  refine At.pure 8 (some 109) (v := ?v8z) rfl rfl (by kernel_rfl) (fun _ _ _ h => h) rfl (fun w' => ?y8z) ?_   
                  case y8z => go_simp; try with_reducible rfl
                  try simp only [Act.put, List.setIfInBounds_toArray, List.set_cons_zero, List.set_cons_succ]
                  refine At.pure 11 (some 112) (v := ?v11z) rfl rfl (by kernel_rfl) (fun _ _ _ h => h) rfl (fun w' => ?y11z) ?_   
                  case y11z => go_simp; try with_reducible rfl
                  try simp only [Act.put, List.setIfInBounds_toArray, List.set_cons_zero, List.set_cons_succ]
                  refine At.call 9 (pend' := []) rfl (by kernel_rfl) rfl (by kernel_rfl) (fun K hK => ?_)   
                  go_simp
                  refine (TrS.bytes hmB (j := 1) (by omega) (by omega)).mono ?_
                  rintro e wC ⟨A8, n8, c8, rfl, hr8, hkC⟩
                  have hmC := hmB.aside hkC
                  have hr8 := Rd.of_own hr8
                  refine hK _ _ all_nil ?_
                  clear hK K
                  try simp only [Act.put, List.setIfInBounds_toArray, List.set_cons_zero, List.set_cons_succ]
                  refine At.read 10 (some 111) (fun w' => Rd w' A8 n8 ((outB (st 1).1).map (Value.int .u8))) (v := ?v10z) rfl rfl (by kernel_rfl) (fun _ _ _ h => h) rfl hr8 (fun w' hw' => ?y10z) ?_   
                  case y10z => have cv := CV.out w' A8 n8 c8 _ hw'; go_simp; try with_reducible rfl
                  try simp only [Act.put, List.setIfInBounds_toArray, List.set_cons_zero, List.set_cons_succ]
                  refine At.call 12 (pend' := [(10, (fun w' => Rd w' A8 n8 ((outB (st 1).1).map (Value.int .u8))))]) rfl (by kernel_rfl) rfl (by kernel_rfl) (fun K hK => ?_)   
                  go_simp
                  refine (TrS.bytes hmC (j := 3) (by omega) (by omega)).mono ?_
                  rintro e wD ⟨A9, n9, c9, rfl, hr9, hkD⟩
                  have hmD := hmC.aside hkD
                  have hr9 := Rd.of_own hr9
                  rw [← HQ3.out] at hr9
                  refine hK _ _ (all_cons (hr8.keep hkD (fun _ _ h => h)) all_nil) ?_
                  clear hK K
                  try simp only [Act.put, List.setIfInBounds_toArray, List.set_cons_zero, List.set_cons_succ]
                  refine At.read 13 (some 114) (fun w' => Rd w' A9 n9 ((outB (st 1).1).map (Value.int .u8))) (v := ?v13z) rfl rfl (by kernel_rfl) (fun _ _ _ h => h) rfl hr9 (fun w' hw' => ?y13z) ?_   
                  case y13z => have cv := CV.out w' A9 n9 c9 _ hw'; go_simp; try with_reducible rfl
                  try simp only [Act.put, List.setIfInBounds_toArray, List.set_cons_zero, List.set_cons_succ]
                  refine At.pure 14 (some 115) (v := ?v14z) rfl rfl (by kernel_rfl) (fun _ _ _ h => h) rfl (fun w' => ?y14z) ?_   
                  case y14z => go_simp; try with_reducible rfl
                  try simp only [Act.put, List.setIfInBounds_toArray, List.set_cons_zero, List.set_cons_succ]
                  refine At.pure 15 (some 116) (v := ?v15z) rfl rfl (by kernel_rfl) (fun _ _ _ h => h) rfl (fun w' => ?y15z) ?_   
                  case y15z => go_simp; try with_reducible rfl
                  try simp only [Act.put, List.setIfInBounds_toArray, List.set_cons_zero, List.set_cons_succ]
                  refine At.pure 16 (some 4) (v := ?v16z) rfl rfl (by kernel_rfl) (fun _ _ _ h => h) rfl (fun w' => ?y16z) ?_   
                  case y16z => go_simp; try with_reducible rfl
                  try simp only [Act.put, List.setIfInBounds_toArray, List.set_cons_zero, List.set_cons_succ]
                  refine At.done (by kernel_rfl) ?_
                  go_wp2_with fail
                  go_ret
                  exact ⟨ret_bool (by simp), hmD.keeps.below (Nat.le_refl _) (fun _ h => h.elim)⟩
end Go.Proofs.Ytbkffpedigeflaa
