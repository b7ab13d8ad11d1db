/-
  The program's decoder: a bit. Conditions: at most 2^30 bytes.
-/
import Derived.Test.YtcieeoobobafmaaMqDec3
namespace Go.Proofs.Ytcieeoobobafmaa
open Go.RowKit

/-- The decoder behind a bit of a state with that Qe; is the bit the more likely one; the context behind it. -/
def decS (l : List Int) (s : DS) (q : Nat) : DS :=
  if s.c / 65536 < q then renD l 16 ⟨q, s.c, s.ct, s.p⟩
  else if 32768 ≤ s.a - q then ⟨s.a - q, wrap64 (s.c - q * 65536), s.ct, s.p⟩
  else renD l 16 ⟨s.a - q, wrap64 (s.c - q * 65536), s.ct, s.p⟩
def decIs (a c : Int) (q : Nat) : Bool :=
  if c / 65536 < q then decide (a - q < q) else if 32768 ≤ a - q then true else !decide (a - q < q)
def decC (a c : Int) (p : Nat × Nat) (t : Nat × Nat × Nat × Bool) : Nat × Nat :=
  if ¬ c / 65536 < t.1 ∧ 32768 ≤ a - t.1 then p
  else if decIs a c t.1 = true then (t.2.1, p.2) else lessM p t.2.2.1 t.2.2.2
def decB (p : Nat × Nat) (is : Bool) : Int := if is = true then p.2 else 1 - p.2

set_option maxHeartbeats 800000 in
theorem dec_none (w : World) (D K : Nat) (x : Int) (h : x < 0 ∨ 18 < x) :
    Calls Try.prog 18 #[.pointer (some ⟨D, 0, none⟩), .pointer (some ⟨K, 0, none⟩), .int .i64 x] w fun e w' => e = .returned (.int .i64 0) ∧ Keep (fun _ => False) w w' := by
  go_enter Try.func18, Try.ntmps18
  go_wp2_with fail
  refine (state_none _ K x h).mono ?_
  rintro e w1 ⟨rfl, hk1⟩
  have hk1' := hid hk1
  clear hk1 h
  go_wp2_with fail
  go_ret
  exact ⟨rfl, hk1'.out.alloc _⟩
/-- What Decode leaves. -/
def DecP (w : World) (base D K : Nat) (A : Option Addr) (n c : Nat) (l : List Int) (s : DS) (cx : List (Nat × Nat)) (bit : Int) (e : Ending) (w' : World) : Prop :=
  e = .returned (.int .i64 bit) ∧ De w' base D A n c l s ∧ Ctx w' K cx ∧ Keep (fun j => j = D ∨ j = K) w w'
set_option maxRecDepth 20000 in
set_option maxHeartbeats 8000000 in
theorem dec_any (w : World) (base D K k : Nat) (A : Option Addr) (n c : Nat) (l : List Int) (s : DS) (cx : List (Nat × Nat)) (h : De w base D A n c l s) (hi : DInv l s) (ha : 32768 ≤ s.a) (ha2 : s.a < 65536) (hC : Ctx w K cx) (hl : Cxs cx) (hk : k < 19) (hby : Bytes l) (hn : n ≤ 1073741000)
    (q m lp : Nat) (sw : Bool) (ht : tabAt (cxAt cx k).1 = (q, m, lp, sw)) :
    Calls Try.prog 18 #[.pointer (some ⟨D, 0, none⟩), .pointer (some ⟨K, 0, none⟩), .int .i64 k] w (DecP w base D K A n c l (decS l s q) (cx.set k (decC s.a s.c (cxAt cx k) (q, m, lp, sw))) (decB (cxAt cx k) (decIs s.a s.c q))) := by
  have HT := hid ((valM_tab _ (hl.st k)).trans ht)
  obtain ⟨hq1, hq2⟩ := tab_q _ (hl.st k)
  rw [ht] at hq1 hq2
  simp only at hq1 hq2
  have hM2 := hl.sg k
  have HE := hid h
  have HI := hid hi
  have HC := hid hC
  have HL := hid hl
  have HBY := hid hby
  clear h hi hC hl ht hby
  obtain ⟨a, C, ct, p⟩ := s
  simp only at ha ha2
  have hnE : K ≠ D := Blk.ne_ HC.out HE.out.blk (by decide)
  have hM2' : ((cxAt cx k).2 : Int) < 2 := by omega
  have HAK := hid (show ∀ ad, A = some ad → ad.block ≠ K from fun ad e he => own_ne HE.out.own HC.out (by decide) (by subst e; simp [Value.ownBlock]; exact he))
  have hand := and_half (a - q) (by omega) (by omega)
  by_cases hlo : C / 65536 < q
  · by_cases hsm : a - q < q
    · have hB : decB (cxAt cx k) (decIs a C q) = (cxAt cx k).2 := by unfold decB decIs; rw [if_pos hlo, decide_eq_true hsm, if_pos rfl]
      have hN : decC a C (cxAt cx k) (q, m, lp, sw) = (m, (cxAt cx k).2) := by
        unfold decC decIs
        rw [if_neg (fun h => h.1 hlo), if_pos hlo, if_pos (decide_eq_true hsm)]
      have hS : decS l ⟨a, C, ct, p⟩ q = renD l 16 ⟨q, C, ct, p⟩ := by unfold decS; rw [if_pos hlo]
      rw [hB, hN, hS]
      clear hB hN hS
      go_enter Try.func18, Try.ntmps18
      go_wp2_with fail
      refine (state_any w K k cx HC.out HL.out hk _ q m lp sw rfl HT.out).mono ?_
      rintro e w1 ⟨rfl, hk1⟩
      have hd : decide (0 < q) = true := decide_eq_true hq1
      rw [hd]
      have HW := hid (fun (w2 : World) (h2 : w2 = w1.alloc (.cells #[.int .i64 q, .int .i64 m, .int .i64 lp, .bool sw] 68)) => by
        have hk2 : Keep (fun _ => False) w w2 := by rw [h2]; exact hk1.alloc _
        have hS : Blk w2 w1.heap.size 68 #[.int .i64 q, .int .i64 m, .int .i64 lp, .bool sw] := by rw [h2]; exact Blk.new w1 _ _
        exact (⟨hk2, hS, HE.out.keep hk2 (fun h => h) (fun _ _ h => h), Blk.keep HC.out hk2 (fun h => h)⟩ : Keep (fun _ => False) w w2 ∧ Blk w2 w1.heap.size 68 #[.int .i64 q, .int .i64 m, .int .i64 lp, .bool sw] ∧ De w2 base D A n c l ⟨a, C, ct, p⟩ ∧ Ctx w2 K cx))
      have hsz : w.heap.size ≤ w1.heap.size := hk1.size
      clear hk1
      have k1' : (w1.alloc (.cells #[.int .i64 q, .int .i64 m, .int .i64 lp, .bool sw] 68)).cell? ⟨K, k * 2 + 1, none⟩ = some (.int .i64 (cxAt cx k).2) := (Blk.cell (HW.out _ rfl).2.2.2 (k * 2 + 1)).trans (cx_M (by rw [HL.out.len]; omega))
      go_wp2_with fail
      generalize w1.alloc (.cells #[.int .i64 q, .int .i64 m, .int .i64 lp, .bool sw] 68) = w2 at *
      obtain ⟨hk2, hS, hE2, hC2⟩ := HW.out w2 rfl
      clear HW
      generalize w1.heap.size = S at *
      have s0 : w2.cell? ⟨S, 0, none⟩ = some (.int .i64 q) := hS.cell 0
      have s1 : w2.cell? ⟨S, 1, none⟩ = some (.int .i64 m) := hS.cell 1
      have s2 : w2.cell? ⟨S, 2, none⟩ = some (.int .i64 lp) := hS.cell 2
      have s3 : w2.cell? ⟨S, 3, none⟩ = some (.bool sw) := hS.cell 3
      have e1 : w2.cell? ⟨D, 1, none⟩ = some (.int .i64 a) := hE2.blk.cell 1
      have e2 : w2.cell? ⟨D, 2, none⟩ = some (.int .i64 C) := hE2.blk.cell 2
      have f1 := hE2.blk.frozen 1
      have f2 := hE2.blk.frozen 2
      have hSE : S ≠ D := Blk.ne_ hS hE2.blk (by decide)
      have HX := hid (fun (w3 : World) (a' C' : Int) (h3 : Keep (fun j => j = D) w2 w3) (b3 : Blk w3 D 66 #[.slice A n c, .int .i64 a', .int .i64 C', .int .i64 ct, .int .i64 p]) => (⟨(hE2.fin (s' := ⟨a', C', ct, p⟩) h3 b3 rfl).1, Blk.keep hC2 h3 hnE, (hk2.mono (fun _ _ h => h.elim)).trans h3 (fun _ _ h => h)⟩ : De w3 base D A n c l ⟨a', C', ct, p⟩ ∧ Ctx w3 K cx ∧ Keep (fun j => j = D) w w3))
      have HB2 := hid hE2.blk
      clear hk2 hS hE2 hC2
      go_region
      go_wp2_with fail
      go_region
      go_wp2_with fail
      go_region
      go_wp2_with fail
      apply with_blk (w2 := w2) (E := D) (t := 66) (cs' := #[.slice A n c, .int .i64 ((q : Int)), .int .i64 (C), .int .i64 ct, .int .i64 p])
      · with_reducible (repeat (first | refine Keep.drew ?_ | refine Keep.setR ?_ _ _ | exact Keep.refl _ _))
      · with_reducible (repeat (first | apply Blk.drew | apply Blk.set_ | exact HB2.out))
      · first | rfl | simp
      intro w3 h3 b3
      obtain ⟨hE3, hC3, hk3⟩ := HX.out w3 ((q : Int)) (C) h3 b3
      refine (more_any w3 K k cx hC3 HL.out.len hk   q m lp sw).mono ?_
      rintro e w4 ⟨rfl, hC4, hk4⟩
      have HE4 := hid (hE3.keep hk4 (fun h => hnE h.symm) HAK.out)
      have HC4 := hid hC4
      have HK4 := hid ((hk3.mono (fun _ _ h => .inl h)).trans hk4 (fun _ _ h => .inr h) : Keep (fun j => j = D ∨ j = K) w w4)
      clear hE3 hC3 hk3 h3 b3 hC4 hk4
      go_wp2_with fail
      refine (rend_any w4 base D A n c l ⟨(q : Int), C, ct, p⟩ HE4.out ⟨by show 0 < ((q : Int) : Int); omega, HI.out.ct0, HI.out.ct8, HI.out.p⟩ HBY.out hn (by show ((q : Int) : Int) < 32768; omega)).mono ?_
      rintro e w5 ⟨rfl, h5, k5⟩
      have HZ := hid (show De w5 base D A n c l _ ∧ Ctx w5 K _ ∧ Keep (fun j => j = D ∨ j = K) w w5 from ⟨h5, Blk.keep HC4.out k5 hnE, HK4.out.trans k5 (fun _ _ h => .inl h)⟩)
      clear h5 k5
      go_wp2_with fail
      go_ret
      exact ⟨rfl, HZ.out⟩
    · have hB : decB (cxAt cx k) (decIs a C q) = 1 - (cxAt cx k).2 := by unfold decB decIs; rw [if_pos hlo, decide_eq_false hsm, if_neg (by simp)]
      have hN : decC a C (cxAt cx k) (q, m, lp, sw) = lessM (cxAt cx k) lp sw := by
        unfold decC decIs
        rw [if_neg (fun h => h.1 hlo), if_pos hlo, if_neg (by simpa using hsm)]
      have hS : decS l ⟨a, C, ct, p⟩ q = renD l 16 ⟨q, C, ct, p⟩ := by unfold decS; rw [if_pos hlo]
      rw [hB, hN, hS]
      clear hB hN hS
      go_enter Try.func18, Try.ntmps18
      go_wp2_with fail
      refine (state_any w K k cx HC.out HL.out hk _ q m lp sw rfl HT.out).mono ?_
      rintro e w1 ⟨rfl, hk1⟩
      have hd : decide (0 < q) = true := decide_eq_true hq1
      rw [hd]
      have HW := hid (fun (w2 : World) (h2 : w2 = w1.alloc (.cells #[.int .i64 q, .int .i64 m, .int .i64 lp, .bool sw] 68)) => by
        have hk2 : Keep (fun _ => False) w w2 := by rw [h2]; exact hk1.alloc _
        have hS : Blk w2 w1.heap.size 68 #[.int .i64 q, .int .i64 m, .int .i64 lp, .bool sw] := by rw [h2]; exact Blk.new w1 _ _
        exact (⟨hk2, hS, HE.out.keep hk2 (fun h => h) (fun _ _ h => h), Blk.keep HC.out hk2 (fun h => h)⟩ : Keep (fun _ => False) w w2 ∧ Blk w2 w1.heap.size 68 #[.int .i64 q, .int .i64 m, .int .i64 lp, .bool sw] ∧ De w2 base D A n c l ⟨a, C, ct, p⟩ ∧ Ctx w2 K cx))
      have hsz : w.heap.size ≤ w1.heap.size := hk1.size
      clear hk1
      have k1' : (w1.alloc (.cells #[.int .i64 q, .int .i64 m, .int .i64 lp, .bool sw] 68)).cell? ⟨K, k * 2 + 1, none⟩ = some (.int .i64 (cxAt cx k).2) := (Blk.cell (HW.out _ rfl).2.2.2 (k * 2 + 1)).trans (cx_M (by rw [HL.out.len]; omega))
      go_wp2_with fail
      generalize w1.alloc (.cells #[.int .i64 q, .int .i64 m, .int .i64 lp, .bool sw] 68) = w2 at *
      obtain ⟨hk2, hS, hE2, hC2⟩ := HW.out w2 rfl
      clear HW
      generalize w1.heap.size = S at *
      have s0 : w2.cell? ⟨S, 0, none⟩ = some (.int .i64 q) := hS.cell 0
      have s1 : w2.cell? ⟨S, 1, none⟩ = some (.int .i64 m) := hS.cell 1
      have s2 : w2.cell? ⟨S, 2, none⟩ = some (.int .i64 lp) := hS.cell 2
      have s3 : w2.cell? ⟨S, 3, none⟩ = some (.bool sw) := hS.cell 3
      have e1 : w2.cell? ⟨D, 1, none⟩ = some (.int .i64 a) := hE2.blk.cell 1
      have e2 : w2.cell? ⟨D, 2, none⟩ = some (.int .i64 C) := hE2.blk.cell 2
      have f1 := hE2.blk.frozen 1
      have f2 := hE2.blk.frozen 2
      have hSE : S ≠ D := Blk.ne_ hS hE2.blk (by decide)
      have HX := hid (fun (w3 : World) (a' C' : Int) (h3 : Keep (fun j => j = D) w2 w3) (b3 : Blk w3 D 66 #[.slice A n c, .int .i64 a', .int .i64 C', .int .i64 ct, .int .i64 p]) => (⟨(hE2.fin (s' := ⟨a', C', ct, p⟩) h3 b3 rfl).1, Blk.keep hC2 h3 hnE, (hk2.mono (fun _ _ h => h.elim)).trans h3 (fun _ _ h => h)⟩ : De w3 base D A n c l ⟨a', C', ct, p⟩ ∧ Ctx w3 K cx ∧ Keep (fun j => j = D) w w3))
      have HB2 := hid hE2.blk
      clear hk2 hS hE2 hC2
      go_region
      go_wp2_with fail
      go_region
      go_wp2_with fail
      go_region
      go_wp2_with fail
      apply with_blk (w2 := w2) (E := D) (t := 66) (cs' := #[.slice A n c, .int .i64 ((q : Int)), .int .i64 (C), .int .i64 ct, .int .i64 p])
      · with_reducible (repeat (first | refine Keep.drew ?_ | refine Keep.setR ?_ _ _ | exact Keep.refl _ _))
      · with_reducible (repeat (first | apply Blk.drew | apply Blk.set_ | exact HB2.out))
      · first | rfl | simp
      intro w3 h3 b3
      obtain ⟨hE3, hC3, hk3⟩ := HX.out w3 ((q : Int)) (C) h3 b3
      refine (less_any w3 K k cx hC3 HL.out.len hk hM2 q m lp sw).mono ?_
      rintro e w4 ⟨rfl, hC4, hk4⟩
      have HE4 := hid (hE3.keep hk4 (fun h => hnE h.symm) HAK.out)
      have HC4 := hid hC4
      have HK4 := hid ((hk3.mono (fun _ _ h => .inl h)).trans hk4 (fun _ _ h => .inr h) : Keep (fun j => j = D ∨ j = K) w w4)
      clear hE3 hC3 hk3 h3 b3 hC4 hk4
      go_wp2_with fail
      refine (rend_any w4 base D A n c l ⟨(q : Int), C, ct, p⟩ HE4.out ⟨by show 0 < ((q : Int) : Int); omega, HI.out.ct0, HI.out.ct8, HI.out.p⟩ HBY.out hn (by show ((q : Int) : Int) < 32768; omega)).mono ?_
      rintro e w5 ⟨rfl, h5, k5⟩
      have HZ := hid (show De w5 base D A n c l _ ∧ Ctx w5 K _ ∧ Keep (fun j => j = D ∨ j = K) w w5 from ⟨h5, Blk.keep HC4.out k5 hnE, HK4.out.trans k5 (fun _ _ h => .inl h)⟩)
      clear h5 k5
      go_wp2_with fail
      go_ret
      exact ⟨rfl, HZ.out⟩
  · by_cases h32 : 32768 ≤ a - q
    · have hB : decB (cxAt cx k) (decIs a C q) = (cxAt cx k).2 := by unfold decB decIs; rw [if_neg hlo, if_pos h32, if_pos rfl]
      have hN : decC a C (cxAt cx k) (q, m, lp, sw) = cxAt cx k := by unfold decC; rw [if_pos ⟨hlo, h32⟩]
      have hS : decS l ⟨a, C, ct, p⟩ q = ⟨a - q, wrap64 (C - q * 65536), ct, p⟩ := by unfold decS; rw [if_neg hlo, if_pos h32]
      have hSet : cx.set k (cxAt cx k) = cx := by
        unfold cxAt
        rw [List.getD_eq_getElem?_getD, List.getElem?_eq_getElem (by rw [HL.out.len]; omega), Option.getD_some, List.set_getElem_self]
      rw [hB, hN, hS, hSet]
      rw [if_pos h32] at hand
      clear hB hN hS hSet
      go_enter Try.func18, Try.ntmps18
      go_wp2_with fail
      refine (state_any w K k cx HC.out HL.out hk _ q m lp sw rfl HT.out).mono ?_
      rintro e w1 ⟨rfl, hk1⟩
      have hd : decide (0 < q) = true := decide_eq_true hq1
      rw [hd]
      have HW := hid (fun (w2 : World) (h2 : w2 = w1.alloc (.cells #[.int .i64 q, .int .i64 m, .int .i64 lp, .bool sw] 68)) => by
        have hk2 : Keep (fun _ => False) w w2 := by rw [h2]; exact hk1.alloc _
        have hS : Blk w2 w1.heap.size 68 #[.int .i64 q, .int .i64 m, .int .i64 lp, .bool sw] := by rw [h2]; exact Blk.new w1 _ _
        exact (⟨hk2, hS, HE.out.keep hk2 (fun h => h) (fun _ _ h => h), Blk.keep HC.out hk2 (fun h => h)⟩ : Keep (fun _ => False) w w2 ∧ Blk w2 w1.heap.size 68 #[.int .i64 q, .int .i64 m, .int .i64 lp, .bool sw] ∧ De w2 base D A n c l ⟨a, C, ct, p⟩ ∧ Ctx w2 K cx))
      have hsz : w.heap.size ≤ w1.heap.size := hk1.size
      clear hk1
      have k1' : (w1.alloc (.cells #[.int .i64 q, .int .i64 m, .int .i64 lp, .bool sw] 68)).cell? ⟨K, k * 2 + 1, none⟩ = some (.int .i64 (cxAt cx k).2) := (Blk.cell (HW.out _ rfl).2.2.2 (k * 2 + 1)).trans (cx_M (by rw [HL.out.len]; omega))
      go_wp2_with fail
      generalize w1.alloc (.cells #[.int .i64 q, .int .i64 m, .int .i64 lp, .bool sw] 68) = w2 at *
      obtain ⟨hk2, hS, hE2, hC2⟩ := HW.out w2 rfl
      clear HW
      generalize w1.heap.size = S at *
      have s0 : w2.cell? ⟨S, 0, none⟩ = some (.int .i64 q) := hS.cell 0
      have s1 : w2.cell? ⟨S, 1, none⟩ = some (.int .i64 m) := hS.cell 1
      have s2 : w2.cell? ⟨S, 2, none⟩ = some (.int .i64 lp) := hS.cell 2
      have s3 : w2.cell? ⟨S, 3, none⟩ = some (.bool sw) := hS.cell 3
      have e1 : w2.cell? ⟨D, 1, none⟩ = some (.int .i64 a) := hE2.blk.cell 1
      have e2 : w2.cell? ⟨D, 2, none⟩ = some (.int .i64 C) := hE2.blk.cell 2
      have f1 := hE2.blk.frozen 1
      have f2 := hE2.blk.frozen 2
      have hSE : S ≠ D := Blk.ne_ hS hE2.blk (by decide)
      have HX := hid (fun (w3 : World) (a' C' : Int) (h3 : Keep (fun j => j = D) w2 w3) (b3 : Blk w3 D 66 #[.slice A n c, .int .i64 a', .int .i64 C', .int .i64 ct, .int .i64 p]) => (⟨(hE2.fin (s' := ⟨a', C', ct, p⟩) h3 b3 rfl).1, Blk.keep hC2 h3 hnE, (hk2.mono (fun _ _ h => h.elim)).trans h3 (fun _ _ h => h)⟩ : De w3 base D A n c l ⟨a', C', ct, p⟩ ∧ Ctx w3 K cx ∧ Keep (fun j => j = D) w w3))
      have HB2 := hid hE2.blk
      clear hk2 hS hE2 hC2
      have HR : Hid (∀ (w3 : World) (cs : Array Value), Keep (fun j => j = D) w2 w3 → Blk w3 D 66 cs → cs = #[.slice A n c, .int .i64 (a - q), .int .i64 (wrap64 (C - q * 65536)), .int .i64 ct, .int .i64 p] → De w3 base D A n c l ⟨a - q, wrap64 (C - q * 65536), ct, p⟩ ∧ Ctx w3 K cx ∧ Keep (fun j => j = D ∨ j = K) w w3) := hid (fun w3 cs h3 b3 e3 => by
        have hr := HX.out w3 (a - q) (wrap64 (C - q * 65536)) h3 (Blk.as b3 e3)
        exact ⟨hr.1, hr.2.1, hr.2.2.mono (fun _ _ h => .inl h)⟩)
      go_region
      go_wp2_with fail
      go_region
      go_wp2_with fail
      go_region
      go_wp2_with fail
      go_region
      go_wp2_with fail
      go_ret
      refine ⟨rfl, ?_⟩
      apply HR.out
      · with_reducible (repeat (first | refine Keep.drew ?_ | refine Keep.setR ?_ _ _ | exact Keep.refl _ _))
      · with_reducible (repeat (first | apply Blk.drew | apply Blk.set_ | exact HB2.out))
      · first | rfl | simp
    · rw [if_neg h32] at hand
      have hS : decS l ⟨a, C, ct, p⟩ q = renD l 16 ⟨a - q, wrap64 (C - q * 65536), ct, p⟩ := by unfold decS; rw [if_neg hlo, if_neg h32]
      rw [hS]
      clear hS
      by_cases hsm : a - q < q
      · have hB : decB (cxAt cx k) (decIs a C q) = 1 - (cxAt cx k).2 := by unfold decB decIs; rw [if_neg hlo, if_neg h32, decide_eq_true hsm, if_neg (by simp)]
        have hN : decC a C (cxAt cx k) (q, m, lp, sw) = lessM (cxAt cx k) lp sw := by
          unfold decC decIs
          rw [if_neg (fun h => h32 h.2), if_neg hlo, if_neg h32, if_neg (by simpa using hsm)]
        rw [hB, hN]
        clear hB hN
        go_enter Try.func18, Try.ntmps18
        go_wp2_with fail
        refine (state_any w K k cx HC.out HL.out hk _ q m lp sw rfl HT.out).mono ?_
        rintro e w1 ⟨rfl, hk1⟩
        have hd : decide (0 < q) = true := decide_eq_true hq1
        rw [hd]
        have HW := hid (fun (w2 : World) (h2 : w2 = w1.alloc (.cells #[.int .i64 q, .int .i64 m, .int .i64 lp, .bool sw] 68)) => by
          have hk2 : Keep (fun _ => False) w w2 := by rw [h2]; exact hk1.alloc _
          have hS : Blk w2 w1.heap.size 68 #[.int .i64 q, .int .i64 m, .int .i64 lp, .bool sw] := by rw [h2]; exact Blk.new w1 _ _
          exact (⟨hk2, hS, HE.out.keep hk2 (fun h => h) (fun _ _ h => h), Blk.keep HC.out hk2 (fun h => h)⟩ : Keep (fun _ => False) w w2 ∧ Blk w2 w1.heap.size 68 #[.int .i64 q, .int .i64 m, .int .i64 lp, .bool sw] ∧ De w2 base D A n c l ⟨a, C, ct, p⟩ ∧ Ctx w2 K cx))
        have hsz : w.heap.size ≤ w1.heap.size := hk1.size
        clear hk1
        have k1' : (w1.alloc (.cells #[.int .i64 q, .int .i64 m, .int .i64 lp, .bool sw] 68)).cell? ⟨K, k * 2 + 1, none⟩ = some (.int .i64 (cxAt cx k).2) := (Blk.cell (HW.out _ rfl).2.2.2 (k * 2 + 1)).trans (cx_M (by rw [HL.out.len]; omega))
        go_wp2_with fail
        generalize w1.alloc (.cells #[.int .i64 q, .int .i64 m, .int .i64 lp, .bool sw] 68) = w2 at *
        obtain ⟨hk2, hS, hE2, hC2⟩ := HW.out w2 rfl
        clear HW
        generalize w1.heap.size = S at *
        have s0 : w2.cell? ⟨S, 0, none⟩ = some (.int .i64 q) := hS.cell 0
        have s1 : w2.cell? ⟨S, 1, none⟩ = some (.int .i64 m) := hS.cell 1
        have s2 : w2.cell? ⟨S, 2, none⟩ = some (.int .i64 lp) := hS.cell 2
        have s3 : w2.cell? ⟨S, 3, none⟩ = some (.bool sw) := hS.cell 3
        have e1 : w2.cell? ⟨D, 1, none⟩ = some (.int .i64 a) := hE2.blk.cell 1
        have e2 : w2.cell? ⟨D, 2, none⟩ = some (.int .i64 C) := hE2.blk.cell 2
        have f1 := hE2.blk.frozen 1
        have f2 := hE2.blk.frozen 2
        have hSE : S ≠ D := Blk.ne_ hS hE2.blk (by decide)
        have HX := hid (fun (w3 : World) (a' C' : Int) (h3 : Keep (fun j => j = D) w2 w3) (b3 : Blk w3 D 66 #[.slice A n c, .int .i64 a', .int .i64 C', .int .i64 ct, .int .i64 p]) => (⟨(hE2.fin (s' := ⟨a', C', ct, p⟩) h3 b3 rfl).1, Blk.keep hC2 h3 hnE, (hk2.mono (fun _ _ h => h.elim)).trans h3 (fun _ _ h => h)⟩ : De w3 base D A n c l ⟨a', C', ct, p⟩ ∧ Ctx w3 K cx ∧ Keep (fun j => j = D) w w3))
        have HB2 := hid hE2.blk
        clear hk2 hS hE2 hC2
        go_region
        go_wp2_with fail
        go_region
        go_wp2_with fail
        go_region
        go_wp2_with fail
        go_region
        go_wp2_with fail
        apply with_blk (w2 := w2) (E := D) (t := 66) (cs' := #[.slice A n c, .int .i64 (a - q), .int .i64 (wrap64 (C - q * 65536)), .int .i64 ct, .int .i64 p])
        · with_reducible (repeat (first | refine Keep.drew ?_ | refine Keep.setR ?_ _ _ | exact Keep.refl _ _))
        · with_reducible (repeat (first | apply Blk.drew | apply Blk.set_ | exact HB2.out))
        · first | rfl | simp
        intro w3 h3 b3
        obtain ⟨hE3, hC3, hk3⟩ := HX.out w3 (a - q) (wrap64 (C - q * 65536)) h3 b3
        refine (less_any w3 K k cx hC3 HL.out.len hk hM2 q m lp sw).mono ?_
        rintro e w4 ⟨rfl, hC4, hk4⟩
        have HE4 := hid (hE3.keep hk4 (fun h => hnE h.symm) HAK.out)
        have HC4 := hid hC4
        have HK4 := hid ((hk3.mono (fun _ _ h => .inl h)).trans hk4 (fun _ _ h => .inr h) : Keep (fun j => j = D ∨ j = K) w w4)
        clear hE3 hC3 hk3 h3 b3 hC4 hk4
        go_wp2_with fail
        refine (rend_any w4 base D A n c l ⟨a - q, wrap64 (C - q * 65536), ct, p⟩ HE4.out ⟨by show 0 < (a - q : Int); omega, HI.out.ct0, HI.out.ct8, HI.out.p⟩ HBY.out hn (by show (a - q : Int) < 32768; omega)).mono ?_
        rintro e w5 ⟨rfl, h5, k5⟩
        have HZ := hid (show De w5 base D A n c l _ ∧ Ctx w5 K _ ∧ Keep (fun j => j = D ∨ j = K) w w5 from ⟨h5, Blk.keep HC4.out k5 hnE, HK4.out.trans k5 (fun _ _ h => .inl h)⟩)
        clear h5 k5
        go_wp2_with fail
        go_ret
        exact ⟨rfl, HZ.out⟩
      · have hB : decB (cxAt cx k) (decIs a C q) = (cxAt cx k).2 := by unfold decB decIs; rw [if_neg hlo, if_neg h32, decide_eq_false hsm, if_pos (by simp)]
        have hN : decC a C (cxAt cx k) (q, m, lp, sw) = (m, (cxAt cx k).2) := by
          unfold decC decIs
          rw [if_neg (fun h => h32 h.2), if_neg hlo, if_neg h32, if_pos (by simpa using hsm)]
        rw [hB, hN]
        clear hB hN
        have hsd : decide (a - (q : Int) < q) = false := decide_eq_false hsm
        go_enter Try.func18, Try.ntmps18
        go_wp2_with fail
        refine (state_any w K k cx HC.out HL.out hk _ q m lp sw rfl HT.out).mono ?_
        rintro e w1 ⟨rfl, hk1⟩
        have hd : decide (0 < q) = true := decide_eq_true hq1
        rw [hd]
        have HW := hid (fun (w2 : World) (h2 : w2 = w1.alloc (.cells #[.int .i64 q, .int .i64 m, .int .i64 lp, .bool sw] 68)) => by
          have hk2 : Keep (fun _ => False) w w2 := by rw [h2]; exact hk1.alloc _
          have hS : Blk w2 w1.heap.size 68 #[.int .i64 q, .int .i64 m, .int .i64 lp, .bool sw] := by rw [h2]; exact Blk.new w1 _ _
          exact (⟨hk2, hS, HE.out.keep hk2 (fun h => h) (fun _ _ h => h), Blk.keep HC.out hk2 (fun h => h)⟩ : Keep (fun _ => False) w w2 ∧ Blk w2 w1.heap.size 68 #[.int .i64 q, .int .i64 m, .int .i64 lp, .bool sw] ∧ De w2 base D A n c l ⟨a, C, ct, p⟩ ∧ Ctx w2 K cx))
        have hsz : w.heap.size ≤ w1.heap.size := hk1.size
        clear hk1
        have k1' : (w1.alloc (.cells #[.int .i64 q, .int .i64 m, .int .i64 lp, .bool sw] 68)).cell? ⟨K, k * 2 + 1, none⟩ = some (.int .i64 (cxAt cx k).2) := (Blk.cell (HW.out _ rfl).2.2.2 (k * 2 + 1)).trans (cx_M (by rw [HL.out.len]; omega))
        go_wp2_with fail
        generalize w1.alloc (.cells #[.int .i64 q, .int .i64 m, .int .i64 lp, .bool sw] 68) = w2 at *
        obtain ⟨hk2, hS, hE2, hC2⟩ := HW.out w2 rfl
        clear HW
        generalize w1.heap.size = S at *
        have s0 : w2.cell? ⟨S, 0, none⟩ = some (.int .i64 q) := hS.cell 0
        have s1 : w2.cell? ⟨S, 1, none⟩ = some (.int .i64 m) := hS.cell 1
        have s2 : w2.cell? ⟨S, 2, none⟩ = some (.int .i64 lp) := hS.cell 2
        have s3 : w2.cell? ⟨S, 3, none⟩ = some (.bool sw) := hS.cell 3
        have e1 : w2.cell? ⟨D, 1, none⟩ = some (.int .i64 a) := hE2.blk.cell 1
        have e2 : w2.cell? ⟨D, 2, none⟩ = some (.int .i64 C) := hE2.blk.cell 2
        have f1 := hE2.blk.frozen 1
        have f2 := hE2.blk.frozen 2
        have hSE : S ≠ D := Blk.ne_ hS hE2.blk (by decide)
        have HX := hid (fun (w3 : World) (a' C' : Int) (h3 : Keep (fun j => j = D) w2 w3) (b3 : Blk w3 D 66 #[.slice A n c, .int .i64 a', .int .i64 C', .int .i64 ct, .int .i64 p]) => (⟨(hE2.fin (s' := ⟨a', C', ct, p⟩) h3 b3 rfl).1, Blk.keep hC2 h3 hnE, (hk2.mono (fun _ _ h => h.elim)).trans h3 (fun _ _ h => h)⟩ : De w3 base D A n c l ⟨a', C', ct, p⟩ ∧ Ctx w3 K cx ∧ Keep (fun j => j = D) w w3))
        have HB2 := hid hE2.blk
        clear hk2 hS hE2 hC2
        go_region
        go_wp2_with fail
        go_region
        go_wp2_with fail
        go_region
        go_wp2_with fail
        go_region
        go_wp2_with fail
        apply with_blk (w2 := w2) (E := D) (t := 66) (cs' := #[.slice A n c, .int .i64 (a - q), .int .i64 (wrap64 (C - q * 65536)), .int .i64 ct, .int .i64 p])
        · with_reducible (repeat (first | refine Keep.drew ?_ | refine Keep.setR ?_ _ _ | exact Keep.refl _ _))
        · with_reducible (repeat (first | apply Blk.drew | apply Blk.set_ | exact HB2.out))
        · first | rfl | simp
        intro w3 h3 b3
        obtain ⟨hE3, hC3, hk3⟩ := HX.out w3 (a - q) (wrap64 (C - q * 65536)) h3 b3
        refine (more_any w3 K k cx hC3 HL.out.len hk   q m lp sw).mono ?_
        rintro e w4 ⟨rfl, hC4, hk4⟩
        have HE4 := hid (hE3.keep hk4 (fun h => hnE h.symm) HAK.out)
        have HC4 := hid hC4
        have HK4 := hid ((hk3.mono (fun _ _ h => .inl h)).trans hk4 (fun _ _ h => .inr h) : Keep (fun j => j = D ∨ j = K) w w4)
        clear hE3 hC3 hk3 h3 b3 hC4 hk4
        go_wp2_with fail
        refine (rend_any w4 base D A n c l ⟨a - q, wrap64 (C - q * 65536), ct, p⟩ HE4.out ⟨by show 0 < (a - q : Int); omega, HI.out.ct0, HI.out.ct8, HI.out.p⟩ HBY.out hn (by show (a - q : Int) < 32768; omega)).mono ?_
        rintro e w5 ⟨rfl, h5, k5⟩
        have HZ := hid (show De w5 base D A n c l _ ∧ Ctx w5 K _ ∧ Keep (fun j => j = D ∨ j = K) w w5 from ⟨h5, Blk.keep HC4.out k5 hnE, HK4.out.trans k5 (fun _ _ h => .inl h)⟩)
        clear h5 k5
        go_wp2_with fail
        go_ret
        exact ⟨rfl, HZ.out⟩
end Go.Proofs.Ytcieeoobobafmaa
