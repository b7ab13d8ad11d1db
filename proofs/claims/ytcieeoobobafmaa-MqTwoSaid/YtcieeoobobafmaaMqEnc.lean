/-
  The program's encoder: a bit. Conditions: at most 2^30 bytes.
-/
import Derived.Test.YtcieeoobobafmaaMqCx2
namespace Go.Proofs.Ytcieeoobobafmaa
open Go.RowKit

/-- The encoder behind a bit (is it the more likely one?) of a state with that Qe; the context behind it. -/
def encM (s : ES) (q : Nat) (is : Bool) : ES :=
  if is = true then
    if 32768 ≤ s.a - q then ⟨s.a - q, s.c + q, s.ct, s.b⟩
    else renM 16 (if s.a - q < q then ⟨q, s.c, s.ct, s.b⟩ else ⟨s.a - q, s.c + q, s.ct, s.b⟩)
  else renM 16 (if s.a - q < q then ⟨s.a - q, s.c + q, s.ct, s.b⟩ else ⟨q, s.c, s.ct, s.b⟩)
def encC (a : Int) (p : Nat × Nat) (t : Nat × Nat × Nat × Bool) (is : Bool) : Nat × Nat :=
  if is = true then
    if 32768 ≤ a - t.1 then p else (t.2.1, p.2)
  else lessM p t.2.2.1 t.2.2.2
/-- What Encode leaves. -/
def EncP (w : World) (base E K : Nat) (A : Option Addr) (s : ES) (l : List (Nat × Nat)) (e : Ending) (w' : World) : Prop :=
  ∃ A' n' c', e = .returned (.tuple #[]) ∧ En w' base E A' n' c' s ∧ Ctx w' K l ∧ Grew w A A' ∧ Keep (fun j => foot E A j ∨ j = K) w w'
theorem tab_q (i : Nat) (h : i < 47) : 1 ≤ (tabAt i).1 ∧ (tabAt i).1 ≤ 22017 := by
  have : ∀ i, i < 47 → 1 ≤ (tabAt i).1 ∧ (tabAt i).1 ≤ 22017 := by decide +kernel
  exact this i h
theorem valM_tab (i : Nat) (h : i < 47) : valM i = tabAt i := by
  unfold valM
  rw [if_pos (by omega)]; rfl
theorem bit_and (x : Int) : bits .and .i64 x 1 = x % 2 := and_low x 1 (by omega)
theorem EInv.step {s : ES} (h : EInv s) {a C : Int} (ha : 0 < a) (hC : 0 ≤ C) (ht : C + a ≤ s.c + s.a) : EInv ⟨a, C, s.ct, s.b⟩ :=
  ⟨h.bytes, h.some_, hC, ha, h.ct1, h.ct12, Int.le_trans ht h.top⟩
theorem with_blk {P : Program} {f : FuncId} {args : Array Value} {W w2 : World} {Q : Ending → World → Prop} {E : Nat} {t : TypeId} {cs cs' : Array Value} (h : Keep (fun j => j = E) w2 W) (b : Blk W E t cs) (e : cs = cs') (k : ∀ w3, Keep (fun j => j = E) w2 w3 → Blk w3 E t cs' → Calls P f args w3 Q) : Calls P f args W Q := k W h (e ▸ b)

set_option maxHeartbeats 800000 in
theorem enc_none (w : World) (E K : Nat) (x bit : Int) (h : x < 0 ∨ 18 < x) :
    Calls Try.prog 21 #[.pointer (some ⟨E, 0, none⟩), .pointer (some ⟨K, 0, none⟩), .int .i64 x, .int .i64 bit] w fun e w' => e = .returned (.tuple #[]) ∧ Keep (fun _ => False) w w' := by
  go_enter Try.func21, Try.ntmps21
  go_wp2_with fail
  refine (state_none _ K x h).mono ?_
  rintro e w1 ⟨rfl, hk1⟩
  have hk1' := hid hk1
  clear hk1 h
  go_wp2_with fail
  refine bodyPost_ret (results_none rfl _ _ _) rfl ?_
  exact ⟨rfl, hk1'.out.alloc _⟩

theorem enc_fin {w w3 w4 w5 : World} {base E K : Nat} {A A5 : Option Addr} {n5 c5 : Nat} {s : ES} {l : List (Nat × Nat)} (hk3 : Keep (fun j => j = E) w w3) (hk4 : Keep (fun j => j = K) w3 w4) (hC4 : Ctx w4 K l) (h5 : En w5 base E A5 n5 c5 s) (g5 : Grew w4 A A5) (k5 : Keep (foot E A) w4 w5) (hnf : ¬ foot E A K) :
    EncP w base E K A s l (.returned (.tuple #[])) w5 := by
  have k34 : Keep (fun j => foot E A j ∨ j = K) w w4 := (hk3.mono (fun _ _ h => .inl (.inl h))).trans hk4 (fun _ _ h => .inr h)
  exact ⟨A5, n5, c5, rfl, h5, Blk.keep hC4 k5 hnf, g5.lift k34.size, k34.trans k5 (fun _ _ h => .inl h)⟩
theorem Blk.as {w : World} {g : Nat} {t : TypeId} {cs cs' : Array Value} (h : Blk w g t cs) (e : cs = cs') : Blk w g t cs' := e ▸ h
set_option maxHeartbeats 4000000 in
theorem enc_any (w : World) (base E K k : Nat) (A : Option Addr) (n c : Nat) (s : ES) (l : List (Nat × Nat)) (bit : Int) (h : En w base E A n c s) (hi : EInv s) (ha : 32768 ≤ s.a) (ha2 : s.a < 65536) (hC : Ctx w K l) (hl : Cxs l) (hk : k < 19) (hb : base ≤ w.heap.size) (hn : n ≤ 1073741000)
    (is : Bool) (his : is = (bit % 2 == ((cxAt l k).2 : Int))) (q m lp : Nat) (sw : Bool) (ht : tabAt (cxAt l k).1 = (q, m, lp, sw)) :
    Calls Try.prog 21 #[.pointer (some ⟨E, 0, none⟩), .pointer (some ⟨K, 0, none⟩), .int .i64 k, .int .i64 bit] w (EncP w base E K A (encM s q is) (l.set k (encC s.a (cxAt l k) (q, m, lp, sw) is))) := by
  have HT := hid ((valM_tab _ (hl.st k)).trans ht)
  obtain ⟨hq1, hq2⟩ := tab_q _ (hl.st k)
  rw [ht] at hq1 hq2
  simp only at hq1 hq2
  have hM2 := hl.sg k
  have HE := hid h
  have HI := hid hi
  have HC := hid hC
  have HL := hid hl
  have hC0 := hi.c0
  have hC1 : s.c < 4611686018427387904 := by
    have h1 := hi.top
    have : (2 : Int) ^ (24 - s.ct).toNat ≤ 2 ^ 24 := by
      have h1 := hi.ct1
      have : (2 : Nat) ^ (24 - s.ct).toNat ≤ 2 ^ 24 := Nat.pow_le_pow_right (by omega) (by omega)
      exact_mod_cast this
    omega
  have hbit := bit_and bit
  clear h hi hC hl ht
  obtain ⟨a, C, ct, b⟩ := s
  simp only at ha ha2 hC0 hC1
  have hnE : K ≠ E := Blk.ne_ HC.out HE.out.blk (by decide)
  have hM2' : ((cxAt l k).2 : Int) < 2 := by omega
  have HAK := hid (show ∀ ad, A = some ad → ad.block ≠ K from fun ad e he => own_ne HE.out.own HC.out (by decide) (by subst e; simp [Value.ownBlock]; exact he))
  have HNF := hid (show ¬ foot E A K from fun h => by
    rcases h with h | ⟨ad, e, h⟩
    · exact hnE h
    · exact HAK.out ad e h)
  have hand := and_half (a - q) (by omega) (by omega)
  by_cases hm : is = true
  · subst hm
    have hbe : (bit % 2 == ((cxAt l k).2 : Int)) = true := his.symm
    clear his
    by_cases h32 : 32768 ≤ a - q
    · have hM : encM ⟨a, C, ct, b⟩ q true = ⟨a - q, C + q, ct, b⟩ := by unfold encM; rw [if_pos rfl, if_pos h32]
      have hN : encC a (cxAt l k) (q, m, lp, sw) true = cxAt l k := by unfold encC; rw [if_pos rfl, if_pos h32]
      have hS : l.set k (cxAt l k) = l := by
        unfold cxAt
        rw [List.getD_eq_getElem?_getD, List.getElem?_eq_getElem (by rw [HL.out.len]; omega), Option.getD_some, List.set_getElem_self]
      rw [hM, hN, hS]
      rw [if_pos h32] at hand
      clear hM hN hS
      go_enter Try.func21, Try.ntmps21
      go_wp2_with fail
      refine (state_any w K k l HC.out HL.out hk _ q m lp sw rfl HT.out).mono ?_
      rintro e w1 ⟨rfl, hk1⟩
      have hd : decide (0 < q) = true := decide_eq_true hq1
      rw [hd]
      have HW := hid (fun (w2 : World) (h2 : w2 = w1.alloc (.cells #[.int .i64 q, .int .i64 m, .int .i64 lp, .bool sw] 68)) => by
        have hk2 : Keep (fun _ => False) w w2 := by rw [h2]; exact hk1.alloc _
        have hS : Blk w2 w1.heap.size 68 #[.int .i64 q, .int .i64 m, .int .i64 lp, .bool sw] := by rw [h2]; exact Blk.new w1 _ _
        exact (⟨hk2, hS, HE.out.keep hk2 (fun h => h) (fun _ _ h => h), Blk.keep HC.out hk2 (fun h => h)⟩ : Keep (fun _ => False) w w2 ∧ Blk w2 w1.heap.size 68 #[.int .i64 q, .int .i64 m, .int .i64 lp, .bool sw] ∧ En w2 base E A n c ⟨a, C, ct, b⟩ ∧ Ctx w2 K l))
      have hsz : w.heap.size ≤ w1.heap.size := hk1.size
      clear hk1
      go_wp2_with fail
      generalize w1.alloc (.cells #[.int .i64 q, .int .i64 m, .int .i64 lp, .bool sw] 68) = w2 at *
      obtain ⟨hk2, hS, hE2, hC2⟩ := HW.out w2 rfl
      clear HW
      generalize w1.heap.size = S at *
      have s0 : w2.cell? ⟨S, 0, none⟩ = some (.int .i64 q) := hS.cell 0
      have s1 : w2.cell? ⟨S, 1, none⟩ = some (.int .i64 m) := hS.cell 1
      have s2 : w2.cell? ⟨S, 2, none⟩ = some (.int .i64 lp) := hS.cell 2
      have s3 : w2.cell? ⟨S, 3, none⟩ = some (.bool sw) := hS.cell 3
      have e1 : w2.cell? ⟨E, 1, none⟩ = some (.int .i64 a) := hE2.blk.cell 1
      have e2 : w2.cell? ⟨E, 2, none⟩ = some (.int .i64 C) := hE2.blk.cell 2
      have f1 := hE2.blk.frozen 1
      have f2 := hE2.blk.frozen 2
      have k1 : w2.cell? ⟨K, k * 2 + 1, none⟩ = some (.int .i64 (cxAt l k).2) := (Blk.cell hC2 (k * 2 + 1)).trans (cx_M (by rw [HL.out.len]; omega))
      have hSE : S ≠ E := Blk.ne_ hS hE2.blk (by decide)
      have HX := hid (fun (w3 : World) (a' C' : Int) (h3 : Keep (fun j => j = E) w2 w3) (b3 : Blk w3 E 73 #[.slice A n c, .int .i64 a', .int .i64 C', .int .i64 ct]) => (⟨⟨b3, own_keep hE2.own h3 (fun k e hk => own_ne hE2.own hE2.blk (by decide) (by rw [e, hk]))⟩, Blk.keep hC2 h3 hnE, (hk2.mono (fun _ _ h => h.elim)).trans h3 (fun _ _ h => h)⟩ : En w3 base E A n c ⟨a', C', ct, b⟩ ∧ Ctx w3 K l ∧ Keep (fun j => j = E) w w3))
      have HB2 := hid hE2.blk
      clear hk2 hS hE2 hC2
      have HR : Hid (∀ (w3 : World) (cs : Array Value), Keep (fun j => j = E) w2 w3 → Blk w3 E 73 cs → cs = #[.slice A n c, .int .i64 (a - q), .int .i64 (C + q), .int .i64 ct] → EncP w base E K A ⟨a - q, C + q, ct, b⟩ l (.returned (.tuple #[])) w3) := hid (fun w3 cs h3 b3 e3 => by
        have hr := HX.out w3 (a - q) (C + q) h3 (Blk.as b3 e3)
        exact ⟨A, n, c, rfl, hr.1, hr.2.1, Grew.refl w A, hr.2.2.mono (fun _ _ h => .inl (.inl h))⟩)
      go_region
      go_wp2_with fail
      go_region
      go_wp2_with fail
      go_region
      go_wp2_with fail
      refine bodyPost_ret (results_none rfl _ _ _) rfl ?_
      apply HR.out
      · with_reducible (repeat (first | refine Keep.drew ?_ | refine Keep.setR ?_ _ _ | exact Keep.refl _ _))
      · with_reducible (repeat (first | apply Blk.drew | apply Blk.set_ | exact HB2.out))
      · first | rfl | simp
    · rw [if_neg h32] at hand
      have hN : encC a (cxAt l k) (q, m, lp, sw) true = (m, (cxAt l k).2) := by unfold encC; rw [if_pos rfl, if_neg h32]
      by_cases hsm : a - q < q
      · have hM : encM ⟨a, C, ct, b⟩ q true = renM 16 ⟨q, C, ct, b⟩ := by unfold encM; rw [if_pos rfl, if_neg h32, if_pos hsm]
        rw [hM, hN]
        clear hM hN
        go_enter Try.func21, Try.ntmps21
        go_wp2_with fail
        refine (state_any w K k l HC.out HL.out hk _ q m lp sw rfl HT.out).mono ?_
        rintro e w1 ⟨rfl, hk1⟩
        have hd : decide (0 < q) = true := decide_eq_true hq1
        rw [hd]
        have HW := hid (fun (w2 : World) (h2 : w2 = w1.alloc (.cells #[.int .i64 q, .int .i64 m, .int .i64 lp, .bool sw] 68)) => by
          have hk2 : Keep (fun _ => False) w w2 := by rw [h2]; exact hk1.alloc _
          have hS : Blk w2 w1.heap.size 68 #[.int .i64 q, .int .i64 m, .int .i64 lp, .bool sw] := by rw [h2]; exact Blk.new w1 _ _
          exact (⟨hk2, hS, HE.out.keep hk2 (fun h => h) (fun _ _ h => h), Blk.keep HC.out hk2 (fun h => h)⟩ : Keep (fun _ => False) w w2 ∧ Blk w2 w1.heap.size 68 #[.int .i64 q, .int .i64 m, .int .i64 lp, .bool sw] ∧ En w2 base E A n c ⟨a, C, ct, b⟩ ∧ Ctx w2 K l))
        have hsz : w.heap.size ≤ w1.heap.size := hk1.size
        clear hk1
        go_wp2_with fail
        generalize w1.alloc (.cells #[.int .i64 q, .int .i64 m, .int .i64 lp, .bool sw] 68) = w2 at *
        obtain ⟨hk2, hS, hE2, hC2⟩ := HW.out w2 rfl
        clear HW
        generalize w1.heap.size = S at *
        have s0 : w2.cell? ⟨S, 0, none⟩ = some (.int .i64 q) := hS.cell 0
        have s1 : w2.cell? ⟨S, 1, none⟩ = some (.int .i64 m) := hS.cell 1
        have s2 : w2.cell? ⟨S, 2, none⟩ = some (.int .i64 lp) := hS.cell 2
        have s3 : w2.cell? ⟨S, 3, none⟩ = some (.bool sw) := hS.cell 3
        have e1 : w2.cell? ⟨E, 1, none⟩ = some (.int .i64 a) := hE2.blk.cell 1
        have e2 : w2.cell? ⟨E, 2, none⟩ = some (.int .i64 C) := hE2.blk.cell 2
        have f1 := hE2.blk.frozen 1
        have f2 := hE2.blk.frozen 2
        have k1 : w2.cell? ⟨K, k * 2 + 1, none⟩ = some (.int .i64 (cxAt l k).2) := (Blk.cell hC2 (k * 2 + 1)).trans (cx_M (by rw [HL.out.len]; omega))
        have hSE : S ≠ E := Blk.ne_ hS hE2.blk (by decide)
        have HX := hid (fun (w3 : World) (a' C' : Int) (h3 : Keep (fun j => j = E) w2 w3) (b3 : Blk w3 E 73 #[.slice A n c, .int .i64 a', .int .i64 C', .int .i64 ct]) => (⟨⟨b3, own_keep hE2.own h3 (fun k e hk => own_ne hE2.own hE2.blk (by decide) (by rw [e, hk]))⟩, Blk.keep hC2 h3 hnE, (hk2.mono (fun _ _ h => h.elim)).trans h3 (fun _ _ h => h)⟩ : En w3 base E A n c ⟨a', C', ct, b⟩ ∧ Ctx w3 K l ∧ Keep (fun j => j = E) w w3))
        have HB2 := hid hE2.blk
        clear hk2 hS hE2 hC2
        go_region
        go_wp2_with fail
        go_region
        go_wp2_with fail
        apply with_blk (w2 := w2) (E := E) (t := 73) (cs' := #[.slice A n c, .int .i64 ((q : Int)), .int .i64 (C), .int .i64 ct])
        · with_reducible (repeat (first | refine Keep.drew ?_ | refine Keep.setR ?_ _ _ | exact Keep.refl _ _))
        · with_reducible (repeat (first | apply Blk.drew | apply Blk.set_ | exact HB2.out))
        · first | rfl | simp
        intro w3 h3 b3
        obtain ⟨hE3, hC3, hk3⟩ := HX.out w3 ((q : Int)) (C) h3 b3
        have HK3 := hid hk3
        refine (more_any w3 K k l hC3 HL.out.len hk   q m lp sw).mono ?_
        rintro e w4 ⟨rfl, hC4, hk4⟩
        have HE4 := hid (hE3.keep hk4 (fun h => hnE h.symm) HAK.out)
        have HC4 := hid hC4
        have HK4 := hid hk4
        have hb4 : base ≤ w4.heap.size := Nat.le_trans hb (Nat.le_trans hk3.size hk4.size)
        clear hE3 hC3 hk3 h3 b3 hC4 hk4
        go_wp2_with fail
        refine (ren_any w4 base E A n c ⟨(q : Int), C, ct, b⟩ HE4.out (HI.out.step (by omega) (by omega) (by simp only; omega)) hb4 hn (by simp only; omega)).mono ?_
        rintro e w5 ⟨A5, n5, c5, rfl, h5, g5, k5⟩
        have HZ := hid (enc_fin HK3.out HK4.out HC4.out h5 g5 k5 HNF.out)
        clear h5 g5 k5
        go_wp2_with fail
        go_end0
        exact HZ.out
      · have hM : encM ⟨a, C, ct, b⟩ q true = renM 16 ⟨a - q, C + q, ct, b⟩ := by unfold encM; rw [if_pos rfl, if_neg h32, if_neg hsm]
        rw [hM, hN]
        clear hM hN
        go_enter Try.func21, Try.ntmps21
        go_wp2_with fail
        refine (state_any w K k l HC.out HL.out hk _ q m lp sw rfl HT.out).mono ?_
        rintro e w1 ⟨rfl, hk1⟩
        have hd : decide (0 < q) = true := decide_eq_true hq1
        rw [hd]
        have HW := hid (fun (w2 : World) (h2 : w2 = w1.alloc (.cells #[.int .i64 q, .int .i64 m, .int .i64 lp, .bool sw] 68)) => by
          have hk2 : Keep (fun _ => False) w w2 := by rw [h2]; exact hk1.alloc _
          have hS : Blk w2 w1.heap.size 68 #[.int .i64 q, .int .i64 m, .int .i64 lp, .bool sw] := by rw [h2]; exact Blk.new w1 _ _
          exact (⟨hk2, hS, HE.out.keep hk2 (fun h => h) (fun _ _ h => h), Blk.keep HC.out hk2 (fun h => h)⟩ : Keep (fun _ => False) w w2 ∧ Blk w2 w1.heap.size 68 #[.int .i64 q, .int .i64 m, .int .i64 lp, .bool sw] ∧ En w2 base E A n c ⟨a, C, ct, b⟩ ∧ Ctx w2 K l))
        have hsz : w.heap.size ≤ w1.heap.size := hk1.size
        clear hk1
        go_wp2_with fail
        generalize w1.alloc (.cells #[.int .i64 q, .int .i64 m, .int .i64 lp, .bool sw] 68) = w2 at *
        obtain ⟨hk2, hS, hE2, hC2⟩ := HW.out w2 rfl
        clear HW
        generalize w1.heap.size = S at *
        have s0 : w2.cell? ⟨S, 0, none⟩ = some (.int .i64 q) := hS.cell 0
        have s1 : w2.cell? ⟨S, 1, none⟩ = some (.int .i64 m) := hS.cell 1
        have s2 : w2.cell? ⟨S, 2, none⟩ = some (.int .i64 lp) := hS.cell 2
        have s3 : w2.cell? ⟨S, 3, none⟩ = some (.bool sw) := hS.cell 3
        have e1 : w2.cell? ⟨E, 1, none⟩ = some (.int .i64 a) := hE2.blk.cell 1
        have e2 : w2.cell? ⟨E, 2, none⟩ = some (.int .i64 C) := hE2.blk.cell 2
        have f1 := hE2.blk.frozen 1
        have f2 := hE2.blk.frozen 2
        have k1 : w2.cell? ⟨K, k * 2 + 1, none⟩ = some (.int .i64 (cxAt l k).2) := (Blk.cell hC2 (k * 2 + 1)).trans (cx_M (by rw [HL.out.len]; omega))
        have hSE : S ≠ E := Blk.ne_ hS hE2.blk (by decide)
        have HX := hid (fun (w3 : World) (a' C' : Int) (h3 : Keep (fun j => j = E) w2 w3) (b3 : Blk w3 E 73 #[.slice A n c, .int .i64 a', .int .i64 C', .int .i64 ct]) => (⟨⟨b3, own_keep hE2.own h3 (fun k e hk => own_ne hE2.own hE2.blk (by decide) (by rw [e, hk]))⟩, Blk.keep hC2 h3 hnE, (hk2.mono (fun _ _ h => h.elim)).trans h3 (fun _ _ h => h)⟩ : En w3 base E A n c ⟨a', C', ct, b⟩ ∧ Ctx w3 K l ∧ Keep (fun j => j = E) w w3))
        have HB2 := hid hE2.blk
        clear hk2 hS hE2 hC2
        go_region
        go_wp2_with fail
        go_region
        go_wp2_with fail
        go_region
        go_wp2_with fail
        apply with_blk (w2 := w2) (E := E) (t := 73) (cs' := #[.slice A n c, .int .i64 (a - q), .int .i64 (C + q), .int .i64 ct])
        · with_reducible (repeat (first | refine Keep.drew ?_ | refine Keep.setR ?_ _ _ | exact Keep.refl _ _))
        · with_reducible (repeat (first | apply Blk.drew | apply Blk.set_ | exact HB2.out))
        · first | rfl | simp
        intro w3 h3 b3
        obtain ⟨hE3, hC3, hk3⟩ := HX.out w3 (a - q) (C + q) h3 b3
        have HK3 := hid hk3
        refine (more_any w3 K k l hC3 HL.out.len hk   q m lp sw).mono ?_
        rintro e w4 ⟨rfl, hC4, hk4⟩
        have HE4 := hid (hE3.keep hk4 (fun h => hnE h.symm) HAK.out)
        have HC4 := hid hC4
        have HK4 := hid hk4
        have hb4 : base ≤ w4.heap.size := Nat.le_trans hb (Nat.le_trans hk3.size hk4.size)
        clear hE3 hC3 hk3 h3 b3 hC4 hk4
        go_wp2_with fail
        refine (ren_any w4 base E A n c ⟨a - q, C + q, ct, b⟩ HE4.out (HI.out.step (by omega) (by omega) (by simp only; omega)) hb4 hn (by simp only; omega)).mono ?_
        rintro e w5 ⟨A5, n5, c5, rfl, h5, g5, k5⟩
        have HZ := hid (enc_fin HK3.out HK4.out HC4.out h5 g5 k5 HNF.out)
        clear h5 g5 k5
        go_wp2_with fail
        go_end0
        exact HZ.out
  · obtain rfl : is = false := by simpa using hm
    have hbe : (bit % 2 == ((cxAt l k).2 : Int)) = false := his.symm
    clear his hm
    have hN : encC a (cxAt l k) (q, m, lp, sw) false = lessM (cxAt l k) lp sw := by unfold encC; rw [if_neg (by simp)]
    by_cases hsm : a - q < q
    · have hM : encM ⟨a, C, ct, b⟩ q false = renM 16 ⟨a - q, C + q, ct, b⟩ := by unfold encM; rw [if_neg (by simp), if_pos hsm]
      rw [hM, hN]
      clear hM hN
      go_enter Try.func21, Try.ntmps21
      go_wp2_with fail
      refine (state_any w K k l HC.out HL.out hk _ q m lp sw rfl HT.out).mono ?_
      rintro e w1 ⟨rfl, hk1⟩
      have hd : decide (0 < q) = true := decide_eq_true hq1
      rw [hd]
      have HW := hid (fun (w2 : World) (h2 : w2 = w1.alloc (.cells #[.int .i64 q, .int .i64 m, .int .i64 lp, .bool sw] 68)) => by
        have hk2 : Keep (fun _ => False) w w2 := by rw [h2]; exact hk1.alloc _
        have hS : Blk w2 w1.heap.size 68 #[.int .i64 q, .int .i64 m, .int .i64 lp, .bool sw] := by rw [h2]; exact Blk.new w1 _ _
        exact (⟨hk2, hS, HE.out.keep hk2 (fun h => h) (fun _ _ h => h), Blk.keep HC.out hk2 (fun h => h)⟩ : Keep (fun _ => False) w w2 ∧ Blk w2 w1.heap.size 68 #[.int .i64 q, .int .i64 m, .int .i64 lp, .bool sw] ∧ En w2 base E A n c ⟨a, C, ct, b⟩ ∧ Ctx w2 K l))
      have hsz : w.heap.size ≤ w1.heap.size := hk1.size
      clear hk1
      go_wp2_with fail
      generalize w1.alloc (.cells #[.int .i64 q, .int .i64 m, .int .i64 lp, .bool sw] 68) = w2 at *
      obtain ⟨hk2, hS, hE2, hC2⟩ := HW.out w2 rfl
      clear HW
      generalize w1.heap.size = S at *
      have s0 : w2.cell? ⟨S, 0, none⟩ = some (.int .i64 q) := hS.cell 0
      have s1 : w2.cell? ⟨S, 1, none⟩ = some (.int .i64 m) := hS.cell 1
      have s2 : w2.cell? ⟨S, 2, none⟩ = some (.int .i64 lp) := hS.cell 2
      have s3 : w2.cell? ⟨S, 3, none⟩ = some (.bool sw) := hS.cell 3
      have e1 : w2.cell? ⟨E, 1, none⟩ = some (.int .i64 a) := hE2.blk.cell 1
      have e2 : w2.cell? ⟨E, 2, none⟩ = some (.int .i64 C) := hE2.blk.cell 2
      have f1 := hE2.blk.frozen 1
      have f2 := hE2.blk.frozen 2
      have k1 : w2.cell? ⟨K, k * 2 + 1, none⟩ = some (.int .i64 (cxAt l k).2) := (Blk.cell hC2 (k * 2 + 1)).trans (cx_M (by rw [HL.out.len]; omega))
      have hSE : S ≠ E := Blk.ne_ hS hE2.blk (by decide)
      have HX := hid (fun (w3 : World) (a' C' : Int) (h3 : Keep (fun j => j = E) w2 w3) (b3 : Blk w3 E 73 #[.slice A n c, .int .i64 a', .int .i64 C', .int .i64 ct]) => (⟨⟨b3, own_keep hE2.own h3 (fun k e hk => own_ne hE2.own hE2.blk (by decide) (by rw [e, hk]))⟩, Blk.keep hC2 h3 hnE, (hk2.mono (fun _ _ h => h.elim)).trans h3 (fun _ _ h => h)⟩ : En w3 base E A n c ⟨a', C', ct, b⟩ ∧ Ctx w3 K l ∧ Keep (fun j => j = E) w w3))
      have HB2 := hid hE2.blk
      clear hk2 hS hE2 hC2
      go_region
      go_wp2_with fail
      go_region
      go_wp2_with fail
      go_region
      go_wp2_with fail
      apply with_blk (w2 := w2) (E := E) (t := 73) (cs' := #[.slice A n c, .int .i64 (a - q), .int .i64 (C + q), .int .i64 ct])
      · with_reducible (repeat (first | refine Keep.drew ?_ | refine Keep.setR ?_ _ _ | exact Keep.refl _ _))
      · with_reducible (repeat (first | apply Blk.drew | apply Blk.set_ | exact HB2.out))
      · first | rfl | simp
      intro w3 h3 b3
      obtain ⟨hE3, hC3, hk3⟩ := HX.out w3 (a - q) (C + q) h3 b3
      have HK3 := hid hk3
      refine (less_any w3 K k l hC3 HL.out.len hk hM2 q m lp sw).mono ?_
      rintro e w4 ⟨rfl, hC4, hk4⟩
      have HE4 := hid (hE3.keep hk4 (fun h => hnE h.symm) HAK.out)
      have HC4 := hid hC4
      have HK4 := hid hk4
      have hb4 : base ≤ w4.heap.size := Nat.le_trans hb (Nat.le_trans hk3.size hk4.size)
      clear hE3 hC3 hk3 h3 b3 hC4 hk4
      go_wp2_with fail
      refine (ren_any w4 base E A n c ⟨a - q, C + q, ct, b⟩ HE4.out (HI.out.step (by omega) (by omega) (by simp only; omega)) hb4 hn (by simp only; omega)).mono ?_
      rintro e w5 ⟨A5, n5, c5, rfl, h5, g5, k5⟩
      have HZ := hid (enc_fin HK3.out HK4.out HC4.out h5 g5 k5 HNF.out)
      clear h5 g5 k5
      go_wp2_with fail
      go_end0
      exact HZ.out
    · have hM : encM ⟨a, C, ct, b⟩ q false = renM 16 ⟨q, C, ct, b⟩ := by unfold encM; rw [if_neg (by simp), if_neg hsm]
      rw [hM, hN]
      clear hM hN
      go_enter Try.func21, Try.ntmps21
      go_wp2_with fail
      refine (state_any w K k l HC.out HL.out hk _ q m lp sw rfl HT.out).mono ?_
      rintro e w1 ⟨rfl, hk1⟩
      have hd : decide (0 < q) = true := decide_eq_true hq1
      rw [hd]
      have HW := hid (fun (w2 : World) (h2 : w2 = w1.alloc (.cells #[.int .i64 q, .int .i64 m, .int .i64 lp, .bool sw] 68)) => by
        have hk2 : Keep (fun _ => False) w w2 := by rw [h2]; exact hk1.alloc _
        have hS : Blk w2 w1.heap.size 68 #[.int .i64 q, .int .i64 m, .int .i64 lp, .bool sw] := by rw [h2]; exact Blk.new w1 _ _
        exact (⟨hk2, hS, HE.out.keep hk2 (fun h => h) (fun _ _ h => h), Blk.keep HC.out hk2 (fun h => h)⟩ : Keep (fun _ => False) w w2 ∧ Blk w2 w1.heap.size 68 #[.int .i64 q, .int .i64 m, .int .i64 lp, .bool sw] ∧ En w2 base E A n c ⟨a, C, ct, b⟩ ∧ Ctx w2 K l))
      have hsz : w.heap.size ≤ w1.heap.size := hk1.size
      clear hk1
      go_wp2_with fail
      generalize w1.alloc (.cells #[.int .i64 q, .int .i64 m, .int .i64 lp, .bool sw] 68) = w2 at *
      obtain ⟨hk2, hS, hE2, hC2⟩ := HW.out w2 rfl
      clear HW
      generalize w1.heap.size = S at *
      have s0 : w2.cell? ⟨S, 0, none⟩ = some (.int .i64 q) := hS.cell 0
      have s1 : w2.cell? ⟨S, 1, none⟩ = some (.int .i64 m) := hS.cell 1
      have s2 : w2.cell? ⟨S, 2, none⟩ = some (.int .i64 lp) := hS.cell 2
      have s3 : w2.cell? ⟨S, 3, none⟩ = some (.bool sw) := hS.cell 3
      have e1 : w2.cell? ⟨E, 1, none⟩ = some (.int .i64 a) := hE2.blk.cell 1
      have e2 : w2.cell? ⟨E, 2, none⟩ = some (.int .i64 C) := hE2.blk.cell 2
      have f1 := hE2.blk.frozen 1
      have f2 := hE2.blk.frozen 2
      have k1 : w2.cell? ⟨K, k * 2 + 1, none⟩ = some (.int .i64 (cxAt l k).2) := (Blk.cell hC2 (k * 2 + 1)).trans (cx_M (by rw [HL.out.len]; omega))
      have hSE : S ≠ E := Blk.ne_ hS hE2.blk (by decide)
      have HX := hid (fun (w3 : World) (a' C' : Int) (h3 : Keep (fun j => j = E) w2 w3) (b3 : Blk w3 E 73 #[.slice A n c, .int .i64 a', .int .i64 C', .int .i64 ct]) => (⟨⟨b3, own_keep hE2.own h3 (fun k e hk => own_ne hE2.own hE2.blk (by decide) (by rw [e, hk]))⟩, Blk.keep hC2 h3 hnE, (hk2.mono (fun _ _ h => h.elim)).trans h3 (fun _ _ h => h)⟩ : En w3 base E A n c ⟨a', C', ct, b⟩ ∧ Ctx w3 K l ∧ Keep (fun j => j = E) w w3))
      have HB2 := hid hE2.blk
      clear hk2 hS hE2 hC2
      go_region
      go_wp2_with fail
      go_region
      go_wp2_with fail
      apply with_blk (w2 := w2) (E := E) (t := 73) (cs' := #[.slice A n c, .int .i64 ((q : Int)), .int .i64 (C), .int .i64 ct])
      · with_reducible (repeat (first | refine Keep.drew ?_ | refine Keep.setR ?_ _ _ | exact Keep.refl _ _))
      · with_reducible (repeat (first | apply Blk.drew | apply Blk.set_ | exact HB2.out))
      · first | rfl | simp
      intro w3 h3 b3
      obtain ⟨hE3, hC3, hk3⟩ := HX.out w3 ((q : Int)) (C) h3 b3
      have HK3 := hid hk3
      refine (less_any w3 K k l hC3 HL.out.len hk hM2 q m lp sw).mono ?_
      rintro e w4 ⟨rfl, hC4, hk4⟩
      have HE4 := hid (hE3.keep hk4 (fun h => hnE h.symm) HAK.out)
      have HC4 := hid hC4
      have HK4 := hid hk4
      have hb4 : base ≤ w4.heap.size := Nat.le_trans hb (Nat.le_trans hk3.size hk4.size)
      clear hE3 hC3 hk3 h3 b3 hC4 hk4
      go_wp2_with fail
      refine (ren_any w4 base E A n c ⟨(q : Int), C, ct, b⟩ HE4.out (HI.out.step (by omega) (by omega) (by simp only; omega)) hb4 hn (by simp only; omega)).mono ?_
      rintro e w5 ⟨A5, n5, c5, rfl, h5, g5, k5⟩
      have HZ := hid (enc_fin HK3.out HK4.out HC4.out h5 g5 k5 HNF.out)
      clear h5 g5 k5
      go_wp2_with fail
      go_end0
      exact HZ.out
end Go.Proofs.Ytcieeoobobafmaa
