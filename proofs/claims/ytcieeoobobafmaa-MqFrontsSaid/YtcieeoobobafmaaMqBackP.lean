/-
  Bits that were encoded are decoded, of all bytes, and of a front of them. In plain Lean. Conditions: none.
-/
import Derived.Test.YtcieeoobobafmaaMqDR
namespace Go.Proofs.Ytcieeoobobafmaa
open Go.RowKit

theorem runE_ci (zs bs : List Int) : ∀ i, CI (runE (kL zs) bs i).1.a (runE (kL zs) bs i).1
  | 0 => CI.new
  | i + 1 => (runE_ci zs bs i).step (runE_ok zs bs i).1 _ _
theorem vk_0 {f : List Int} (h : 0 < f.length) : vk f 0 = f.getD 0 0 ∧ wk f 0 = 8 := by
  unfold vk wk
  rw [take_snoc h, List.take_zero, List.nil_append]
  constructor
  · show (vwS (0, 0, 0) (f.getD 0 0)).1 = _
    unfold vwS
    rw [if_neg (by decide)]
    show 0 * 256 + f.getD 0 0 = _
    omega
  · show (vwS (0, 0, 0) (f.getD 0 0)).2.1 = _
    unfold vwS
    rw [if_neg (by decide)]
theorem dr_new {f : List Int} {m : Nat} {l : List Int} (hst : St f m l) (hF : Fits f m newM) : DR f m l newM (newD l) := by
  have hm := hst.len
  have h1 := hst.one
  obtain ⟨v0, w0⟩ := vk_0 (f := f) (by omega)
  have hr0 := hst.rng 0
  have hlow : low newM = 0 := by decide +kernel
  have hres : res newM = 23 := by decide +kernel
  have hh := hF.hi 0 (by omega)
  rw [v0, w0, hlow, hres] at hh
  have q23 : (2 : Int) ^ 23 = 8388608 := by decide
  have q8 : (2 : Int) ^ 8 = 256 := by decide
  have q16 : (2 : Int) ^ 16 = 65536 := by decide
  have na : newM.a = 32768 := rfl
  rw [q23, q8, na] at hh
  have f0 : f.getD 0 0 = 0 := by omega
  obtain ⟨-, s2⟩ := vk_step (f := f) (k := 0) (by omega)
  obtain ⟨e1, e2⟩ := s2 (by rw [f0]; decide)
  rw [v0, f0] at e1
  rw [w0] at e2
  have e1 : vk f 1 = 0 * 256 + f.getD 1 0 := e1
  have hb : byteM l 0 = f.getD 1 0 := hst.at_ 0 (by omega)
  have hR : Rds f m l (byteM l 0) 16 0 := .inl ⟨1, Nat.le_refl _, h1, by rw [hb]; omega, e2.symm, rfl⟩
  have hr1 := hst.rng 1
  obtain ⟨u, x, p', hu, x0, x1, hr, he⟩ := hR.in_ hst 32768 (byteM l 0 * 65536)
  have hin := he 0
  have hw1 : wrap64 (byteM l 0 * 65536 + x * 2 ^ (16 - u)) = byteM l 0 * 65536 + x * 2 ^ (16 - u) := by
    refine IntWalk.wrap64_in _ ?_
    rw [hb]
    rcases hu with rfl | rfl
    · have : (2 : Int) ^ (16 - 7) = 512 := by decide
      rw [this]; omega
    · have : (2 : Int) ^ (16 - 8) = 256 := by decide
      rw [this]; omega
  rw [hw1] at hin
  have hw2 : wrap64 ((byteM l 0 * 65536 + x * 2 ^ (16 - u)) * 128) = (byteM l 0 * 65536 + x * 2 ^ (16 - u)) * 128 := by
    refine IntWalk.wrap64_in _ ?_
    rw [hb]
    rcases hu with rfl | rfl
    · have : (2 : Int) ^ (16 - 7) = 512 := by decide
      rw [this]; omega
    · have : (2 : Int) ^ (16 - 8) = 256 := by decide
      rw [this]; omega
  have hN : newD l = ⟨32768, (byteM l 0 * 65536 + x * 2 ^ (16 - u)) * 128, (u : Int) - 7, p'⟩ := by
    unfold newD
    rw [hin]
    simp only
    rw [hw2]
  rw [hN]
  refine ⟨rfl, byteM l 0 * 2 ^ u + x, 16 + u, u - 7, by show (u : Int) - 7 = _; omega, by omega, hr, by rw [hres]; omega, ?_⟩
  show (byteM l 0 * 65536 + x * 2 ^ (16 - u)) * 128 = _
  rw [hlow]
  rcases hu with rfl | rfl
  · have e1 : (2 : Int) ^ 9 = 512 := by decide
    have e2 : (2 : Int) ^ 7 = 128 := by decide
    show (byteM l 0 * 65536 + x * 2 ^ 9) * 128 = (byteM l 0 * 2 ^ 7 + x) * 2 ^ 16 - 0 * 65536
    rw [e1, e2, q16]; omega
  · have e1 : (2 : Int) ^ 15 = 32768 := by decide
    show (byteM l 0 * 65536 + x * 2 ^ 8) * 128 = (byteM l 0 * 2 ^ 8 + x) * 2 ^ 15 - 0 * 65536
    rw [q8, e1]; omega
theorem After.enc {u : ES} {s : ES × List (Nat × Nat)} (h : After u s.1) (hu : 0 < u.b.length) (hr : Run s) (k : Nat) (bit : Int) : After u (encR s k bit).1 := by
  obtain ⟨q1, q2⟩ := tab_q _ (hr.cx.st k)
  have hi := hr.inv
  have hlo := hr.lo
  have hhi := hr.hi
  have h0 := hi.c0
  show After u (encM s.1 (tabAt (cxAt s.2 k).1).1 _)
  generalize (tabAt (cxAt s.2 k).1).1 = q at *
  have iL : EInv ⟨(q : Int), s.1.c, s.1.ct, s.1.b⟩ := hi.step (by omega) (by omega) (by omega)
  have iU : EInv ⟨s.1.a - q, s.1.c + q, s.1.ct, s.1.b⟩ := hi.step (by omega) (by omega) (by omega)
  have aL := h.split (a := q) (c := s.1.c) (by omega) (by omega)
  have aU := h.split (a := s.1.a - q) (c := s.1.c + q) (by omega) (by omega)
  unfold encM
  split
  · split
    · exact aU
    · split
      · exact After.ren hu 16 _ aL iL (by show (q : Int) < _; omega)
      · rename_i hc _
        exact After.ren hu 16 _ aU iU (by show s.1.a - q < _; omega)
  · split
    · rename_i hc
      exact After.ren hu 16 _ aU iU (by show s.1.a - q < _; omega)
    · exact After.ren hu 16 _ aL iL (by show (q : Int) < _; omega)
theorem After.run {u : ES} (hu : 0 < u.b.length) (zs bs : List Int) {i : Nat} (h : After u (runE (kL zs) bs i).1) : ∀ j, After u (runE (kL zs) bs (i + j)).1
  | 0 => h
  | j + 1 => (After.run hu zs bs h j).enc hu (runE_ok zs bs (i + j)).1 _ _
theorem Q.le {f : List Int} {m : Nat} {zs bs : List Int} {n i : Nat} (hi : i ≤ n) (h : Q f m (runE (kL zs) bs n).1) : Q f m (runE (kL zs) bs i).1 := fun u hu hl => by
  have := After.run hl zs bs hu (n - i)
  rw [show i + (n - i) = n by omega] at this
  exact h u this hl
theorem back_run {f : List Int} {m : Nat} {l : List Int} (hst : St f m l) (zs bs : List Int) (n : Nat) (hQ : Q f m (runE (kL zs) bs n).1) : ∀ i, i ≤ n → DR f m l (runE (kL zs) bs i).1 (runD l (kL zs) i).1 ∧ (runD l (kL zs) i).2 = (runE (kL zs) bs i).2
  | 0, h => ⟨dr_new hst (hQ.le h _ (After.refl _) (by decide)), rfl⟩
  | i + 1, h => by
    obtain ⟨h1, h2⟩ := back_run hst zs bs n hQ i (by omega)
    obtain ⟨h3, h4, _⟩ := back_step hst (runE_ok zs bs i).1 h1 h2 (kL_at zs i).2 (bs.getD i 0) (hQ.le h)
    exact ⟨h3, h4⟩
theorem back_bit {f : List Int} {m : Nat} {l : List Int} (hst : St f m l) (zs : List Int) (n : Nat) (hQ : Q f m (runE (kL zs) (bL zs) n).1) {i : Nat} (hi : i < n) : decV (runD l (kL zs) i) ((kL zs).getD i 0).toNat = (bL zs).getD i 0 := by
  obtain ⟨h1, h2⟩ := back_run hst zs (bL zs) n hQ i (by omega)
  obtain ⟨b0, b1⟩ := bL_at zs i
  exact (back_step hst (runE_ok zs (bL zs) i).1 h1 h2 (kL_at zs i).2 ((bL zs).getD i 0) (hQ.le hi)).2.2 b0 b1
/-! ### the streams -/
theorem flushM_byte (g : List Int) (k : Nat) : byteM (flushM g) k = byteM g k := by
  unfold flushM
  by_cases h : lastM g = 255
  · rw [if_pos h]
    have hl : 0 < g.length := by
      rcases Nat.eq_zero_or_pos g.length with h0 | h0
      · rw [List.length_eq_zero_iff] at h0
        subst h0
        exact absurd h (by decide)
      · exact h0
    have e := snoc_last g hl
    rw [h] at e
    have := byteM_behind g.dropLast 1 k
    rw [show List.replicate 1 (255 : Int) = [255] from rfl, e] at this
    exact this.symm
  · rw [if_neg h]
theorem getD_tail (f : List Int) (k : Nat) : f.tail.getD k 0 = f.getD (k + 1) 0 := by rw [List.getD_eq_getElem?_getD, List.getElem?_tail, List.getD_eq_getElem?_getD]
theorem fin_inv {s : ES} (hi : EInv s) (ha : 32768 ≤ s.a) : Bytes (finB s) ∧ (finB s).length = s.b.length + 2 := by
  have h := (hi.fl ha).fl.fl
  refine ⟨h.bytes, ?_⟩
  unfold finB
  rw [flM_len, flM_len]
theorem getD_byte {l : List Int} (h : Bytes l) (k : Nat) : 0 ≤ l.getD k 0 ∧ l.getD k 0 ≤ 255 := by
  rw [List.getD_eq_getElem?_getD]
  rcases Nat.lt_or_ge k l.length with hk | hk
  · rw [List.getElem?_eq_getElem hk]
    exact h _ (List.getElem_mem hk)
  · rw [List.getElem?_eq_none hk]
    decide
theorem fin_cln {s : ES} (h : CI s.a s) (hi : EInv s) (hlo : 32768 ≤ s.a) : Cln (finB s) := by
  have h1 := hi.ct1
  have h12 := hi.ct12
  have hc := endC_lt s.c s.a hlo hi.c0
  have hf := hi.fl hlo
  have hf2 := hf.fl
  have hp : (0 : Int) < 2 ^ s.ct.toNat := Int.pow_pos (by decide)
  have hp12 : (2 : Int) ^ s.ct.toNat ≤ 4096 := by
    have h0 : (2 : Nat) ^ s.ct.toNat ≤ 2 ^ 12 := Nat.pow_le_pow_right (by omega) (by omega)
    have h1 : (2 : Int) ^ s.ct.toNat ≤ 2 ^ 12 := by exact_mod_cast h0
    have h2 : (2 : Int) ^ 12 = 4096 := by decide
    omega
  have htop := hi.top
  obtain ⟨p, y, e, hcl, ht⟩ := h
  have e24 : (2 : Int) ^ (24 - s.ct).toNat * 2 ^ s.ct.toNat = 16777216 := by
    rw [← Int.pow_add, show (24 - s.ct).toNat + s.ct.toNat = 24 by omega]; decide
  have e27 : (2 : Int) ^ (27 - s.ct).toNat * 2 ^ s.ct.toNat = 134217728 := by
    rw [← Int.pow_add, show (27 - s.ct).toNat + s.ct.toNat = 27 by omega]; decide
  have hm : (endC s.c s.a + 1) * 2 ^ s.ct.toNat ≤ 150994944 := by
    have := Int.mul_le_mul_of_nonneg_right (show endC s.c s.a + 1 ≤ 9 * 2 ^ (24 - s.ct).toNat by omega) (Int.le_of_lt hp)
    rw [Int.mul_assoc, e24] at this
    omega
  rw [Int.add_mul, Int.one_mul] at hm
  have g1 : CI (2 ^ s.ct.toNat) (flM ⟨s.a, endC s.c s.a, s.ct, s.b⟩) := by
    refine clean_out (s := ⟨s.a, endC s.c s.a * 2 ^ s.ct.toNat, s.ct, s.b⟩) (p := p) (y := y) e hcl (fun hl => ?_) (Int.mul_nonneg hc.1 (Int.le_of_lt hp)) hp hm
    have := Int.mul_le_mul_of_nonneg_right (show y * 2 ^ (27 - s.ct).toNat + (endC s.c s.a + 1) ≤ 144 * 2 ^ (27 - s.ct).toNat by have := ht hl; omega) (Int.le_of_lt hp)
    rw [Int.add_mul, Int.mul_assoc, Int.mul_assoc, e27, Int.add_mul, Int.one_mul] at this
    show y * 134217728 + endC s.c s.a * 2 ^ s.ct.toNat + 2 ^ s.ct.toNat ≤ _
    omega
  have g2 : CI (2 ^ s.ct.toNat * 2 ^ (flM ⟨s.a, endC s.c s.a, s.ct, s.b⟩).ct.toNat) (flM (flM ⟨s.a, endC s.c s.a, s.ct, s.b⟩)) := by
    have hr := outM_c ⟨s.a, endC s.c s.a * 2 ^ s.ct.toNat, s.ct, s.b⟩
    have hr' : (flM ⟨s.a, endC s.c s.a, s.ct, s.b⟩).c < 524288 ∧ (flM ⟨s.a, endC s.c s.a, s.ct, s.b⟩).ct = 8 ∨ (flM ⟨s.a, endC s.c s.a, s.ct, s.b⟩).c < 1048576 ∧ (flM ⟨s.a, endC s.c s.a, s.ct, s.b⟩).ct = 7 := hr
    have hc2 := hf2.c0
    generalize flM ⟨s.a, endC s.c s.a, s.ct, s.b⟩ = t at *
    obtain ⟨p2, y2, e2, hcl2, ht2⟩ := g1
    rcases hr' with ⟨hr1, hr2⟩ | ⟨hr1, hr2⟩
    · have e8 : (2 : Int) ^ (8 : Int).toNat = 256 := by decide
      have e19 : (2 : Int) ^ (27 - 8 : Int).toNat = 524288 := by decide
      rw [hr2, e19] at ht2
      have ee : (flM t) = outM ⟨t.a, t.c * 256, t.ct, t.b⟩ := by unfold flM; rw [hr2, e8]
      rw [hr2, e8, ee]
      refine clean_out (s := ⟨t.a, t.c * 256, t.ct, t.b⟩) (p := p2) (y := y2) e2 hcl2 (fun hl => ?_) (by show 0 ≤ t.c * 256; omega) (by omega) (by show t.c * 256 + _ ≤ _; omega)
      have := ht2 hl
      show y2 * 134217728 + t.c * 256 + _ ≤ _
      omega
    · have e8 : (2 : Int) ^ (7 : Int).toNat = 128 := by decide
      have e19 : (2 : Int) ^ (27 - 7 : Int).toNat = 1048576 := by decide
      rw [hr2, e19] at ht2
      have ee : (flM t) = outM ⟨t.a, t.c * 128, t.ct, t.b⟩ := by unfold flM; rw [hr2, e8]
      rw [hr2, e8, ee]
      refine clean_out (s := ⟨t.a, t.c * 128, t.ct, t.b⟩) (p := p2) (y := y2) e2 hcl2 (fun hl => ?_) (by show 0 ≤ t.c * 128; omega) (by omega) (by show t.c * 128 + _ ≤ _; omega)
      have := ht2 hl
      show y2 * 134217728 + t.c * 128 + _ ≤ _
      omega
  exact g2.cln (Int.mul_pos hp (Int.pow_pos (by decide))) hf2.fl.c0
theorem st_all {s : ES} (hi : EInv s) (ha : 32768 ≤ s.a) (hc : CI s.a s) : St (finB s) ((finB s).length - 1) (flushM (flushE s)) := by
  obtain ⟨hb, hl⟩ := fin_inv hi ha
  have hn := hi.some_
  have ht : flushE s = (finB s).tail := rfl
  have hfl : (finB s).tail.length = (finB s).length - 1 := List.length_tail
  refine ⟨by omega, by omega, fin_cln hc hi ha, fun k => getD_byte hb k, fun k hk => ?_, fun k hk => ?_⟩
  · rw [flushM_byte, ht]
    unfold byteM
    rw [if_neg (by omega), getD_tail]
  · rw [flushM_byte, ht]
    unfold byteM
    rw [if_pos (by omega)]
theorem st_front {s : ES} (hi : EInv s) (ha : 32768 ≤ s.a) (hc : CI s.a s) {m : Nat} (h1 : 1 ≤ m) (hm : m < (flushM (flushE s)).length) : St (finB s) m ((flushM (flushE s)).take m) := by
  have h := st_all hi ha hc
  obtain ⟨hb, hl⟩ := fin_inv hi ha
  have hle := mqFlush_le (flushE s)
  have hfe := flushE_len s
  have hln := h.len
  refine ⟨by omega, h1, h.cln, h.rng, fun k hk => ?_, fun k hk => ?_⟩
  · rw [← h.at_ k (by omega)]
    unfold byteM
    rw [List.length_take, if_neg (by omega), if_neg (by omega), List.getD_eq_getElem?_getD, List.getElem?_take, if_pos hk, List.getD_eq_getElem?_getD]
  · unfold byteM
    rw [List.length_take, if_pos (by omega)]
theorem mq_back (zs : List Int) (n : Nat) : (∀ i, i < n → decV (runD (flushM (flushE (runE (kL zs) (bL zs) n).1)) (kL zs) i) ((kL zs).getD i 0).toNat = (bL zs).getD i 0) ∧
    (runD (flushM (flushE (runE (kL zs) (bL zs) n).1)) (kL zs) n).2 = (runE (kL zs) (bL zs) n).2 := by
  obtain ⟨hr, -⟩ := runE_ok zs (bL zs) n
  have hst := st_all hr.inv hr.lo (runE_ci zs (bL zs) n)
  have hQ : Q (finB (runE (kL zs) (bL zs) n).1) ((finB (runE (kL zs) (bL zs) n).1).length - 1) (runE (kL zs) (bL zs) n).1 := fun u hu hl => fits_all (ends_of hu hl hr.inv hr.lo) hl (fun k => (hst.rng k).1)
  exact ⟨fun i hi => back_bit hst zs n hQ hi, (back_run hst zs (bL zs) n hQ n (Nat.le_refl _)).2⟩
theorem mq_front (zs : List Int) (N n : Nat) (hn : n ≤ N) {i : Nat} (hi : i < n) :
    decV (runD ((flushM (flushE (runE (kL zs) (bL zs) N).1)).take (min ((runE (kL zs) (bL zs) n).1.b.length - 1 + 5) (flushM (flushE (runE (kL zs) (bL zs) N).1)).length)) (kL zs) i) ((kL zs).getD i 0).toNat = (bL zs).getD i 0 := by
  obtain ⟨hr, -⟩ := runE_ok zs (bL zs) N
  obtain ⟨hrn, -⟩ := runE_ok zs (bL zs) n
  have hsm := hrn.inv.some_
  by_cases hc : (flushM (flushE (runE (kL zs) (bL zs) N).1)).length ≤ (runE (kL zs) (bL zs) n).1.b.length - 1 + 5
  · rw [Nat.min_eq_right hc, List.take_of_length_le (Nat.le_refl _)]
    exact (mq_back zs N).1 i (by omega)
  · rw [Nat.min_eq_left (by omega)]
    have hm : (runE (kL zs) (bL zs) n).1.b.length - 1 + 5 = (runE (kL zs) (bL zs) n).1.b.length + 4 := by omega
    rw [hm] at hc ⊢
    have hst := st_front hr.inv hr.lo (runE_ci zs (bL zs) N) (m := (runE (kL zs) (bL zs) n).1.b.length + 4) (by omega) (by omega)
    have hA : ∀ u, After u (runE (kL zs) (bL zs) n).1 → 0 < u.b.length → Ends (finB (runE (kL zs) (bL zs) N).1) u := fun u hu hl => by
      have := After.run hl zs (bL zs) hu (N - n)
      rw [show n + (N - n) = N by omega] at this
      exact ends_of this hl hr.inv hr.lo
    have hQ : Q (finB (runE (kL zs) (bL zs) N).1) ((runE (kL zs) (bL zs) n).1.b.length + 4) (runE (kL zs) (bL zs) n).1 := fun u hu hl =>
      fits_front (hA u hu hl) hl (fun k => (hst.rng k).1) hu (hA _ (After.refl _) hsm) hrn.inv.ct1 hst.len
    exact back_bit hst zs n hQ hi
end Go.Proofs.Ytcieeoobobafmaa
