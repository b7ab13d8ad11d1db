/-
  Decode: what it hears of a node, of a way. Conditions: bounds up to 1000.
-/
import Derived.Test.YtbkffpedigeflaaTreeKnown
import Derived.Test.YtbkffpedigeflaaBitsR2
import Derived.WalkLawsBesides
namespace Go.Proofs.Ytbkffpedigeflaa
open Go.RowKit

/-- What is heard of a node that is not said, so many bits at most. -/
def decF (l : List Int) : Nat → Nd → RS → Nd × RS
  | 0, x, t => (x, t)
  | f + 1, x, t => if rdV l t = 1 then (⟨x.low, x.low, true⟩, rdS l t) else decF l f ⟨x.n, x.low + 1, false⟩ (rdS l t)
def decN (l : List Int) (b : Int) (x : Nd) (t : RS) : Nd × RS := if x.said = true then (x, t) else decF l (b - x.low).toNat x t
/-- Behind r nodes of the way. -/
def decI (l : List Int) (W L k : Nat) (b : Int) (N : Nat → Nat → Nd) (t : RS) : Nat → Int × (Nat → Nat → Nd) × RS
  | 0 => (0, N, t)
  | r + 1 =>
    let s := decI l W L k b N t r
    let y := decN l b ⟨(s.2.1 (L - 1 - r) (idx W (L - 1 - r) k)).n, max (s.2.1 (L - 1 - r) (idx W (L - 1 - r) k)).low s.1, (s.2.1 (L - 1 - r) (idx W (L - 1 - r) k)).said⟩ s.2.2
    (y.1.low, updT s.2.1 (L - 1 - r) (idx W (L - 1 - r) k) y.1, y.2)
theorem decI_next {l : List Int} {W L k : Nat} {b : Int} {N : Nat → Nat → Nd} {t : RS} {r i j : Nat} (hi : L - 1 - r = i) (hj : idx W i k = j) :
    decI l W L k b N t (r + 1) = ((decN l b ⟨((decI l W L k b N t r).2.1 i j).n, max ((decI l W L k b N t r).2.1 i j).low (decI l W L k b N t r).1, ((decI l W L k b N t r).2.1 i j).said⟩ (decI l W L k b N t r).2.2).1.low,
      updT (decI l W L k b N t r).2.1 i j (decN l b ⟨((decI l W L k b N t r).2.1 i j).n, max ((decI l W L k b N t r).2.1 i j).low (decI l W L k b N t r).1, ((decI l W L k b N t r).2.1 i j).said⟩ (decI l W L k b N t r).2.2).1,
      (decN l b ⟨((decI l W L k b N t r).2.1 i j).n, max ((decI l W L k b N t r).2.1 i j).low (decI l W L k b N t r).1, ((decI l W L k b N t r).2.1 i j).said⟩ (decI l W L k b N t r).2.2).2) := by
  subst hi hj
  rfl
theorem decF_low (l : List Int) : ∀ (f : Nat) (x : Nd) (t : RS), x.low ≤ (decF l f x t).1.low
  | 0, _, _ => Int.le_refl _
  | f + 1, x, t => by
    unfold decF
    split
    · exact Int.le_refl _
    · have := decF_low l f ⟨x.n, x.low + 1, false⟩ (rdS l t)
      simp only at this
      omega
theorem decN_low (l : List Int) (b : Int) (x : Nd) (t : RS) : x.low ≤ (decN l b x t).1.low := by
  unfold decN
  split
  · exact Int.le_refl _
  · exact decF_low l _ x t
theorem decI_low (l : List Int) (W L k : Nat) (b : Int) (N : Nat → Nat → Nd) (t : RS) : ∀ r, 0 ≤ (decI l W L k b N t r).1
  | 0 => Int.le_refl _
  | r + 1 => by
    have h := decI_low l W L k b N t r
    rw [decI_next rfl rfl]
    have := decN_low l b ⟨((decI l W L k b N t r).2.1 (L - 1 - r) (idx W (L - 1 - r) k)).n, max ((decI l W L k b N t r).2.1 (L - 1 - r) (idx W (L - 1 - r) k)).low (decI l W L k b N t r).1, ((decI l W L k b N t r).2.1 (L - 1 - r) (idx W (L - 1 - r) k)).said⟩ (decI l W L k b N t r).2.2
    simp only at this ⊢
    omega
/-- A reader's state that may be. -/
def RSok (t : RS) : Prop := 0 ≤ t.2.1 ∧ t.2.1 ≤ 8
theorem RSok.step {l : List Int} {t : RS} (h : RSok t) : RSok (rdS l t) := rdL_le l t.1 t.2.1 h.1 h.2
theorem decF_rs (l : List Int) : ∀ (f : Nat) (x : Nd) (t : RS), RSok t → RSok (decF l f x t).2 ∧ (decF l f x t).2.1 ≤ t.1 + f
  | 0, _, _, h => ⟨h, Nat.le_refl _⟩
  | f + 1, x, t, h => by
    have h1 := rdP_le t.1 t.2.1
    have h2 : (rdS l t).1 ≤ t.1 + 1 := h1
    unfold decF
    split
    · exact ⟨h.step, by simp only; omega⟩
    · have := decF_rs l f ⟨x.n, x.low + 1, false⟩ (rdS l t) h.step
      exact ⟨this.1, by omega⟩
theorem decN_rs (l : List Int) (b : Int) (x : Nd) (t : RS) (h : RSok t) (h0 : 0 ≤ x.low) (hb : b ≤ 1000) : RSok (decN l b x t).2 ∧ (decN l b x t).2.1 ≤ t.1 + 1000 := by
  unfold decN
  split
  · exact ⟨h, by simp only; omega⟩
  · have := decF_rs l (b - x.low).toNat x t h
    exact ⟨this.1, by omega⟩
theorem decI_rs (l : List Int) (W L k : Nat) (b : Int) (N : Nat → Nat → Nd) (t : RS) (h : RSok t) (hb : b ≤ 1000) : ∀ r, RSok (decI l W L k b N t r).2.2 ∧ (decI l W L k b N t r).2.2.1 ≤ t.1 + 1000 * r
  | 0 => ⟨h, by simp [decI]⟩
  | r + 1 => by
    have h1 := decI_rs l W L k b N t h hb r
    have h0 := decI_low l W L k b N t r
    rw [decI_next rfl rfl]
    have := decN_rs l b ⟨((decI l W L k b N t r).2.1 (L - 1 - r) (idx W (L - 1 - r) k)).n, max ((decI l W L k b N t r).2.1 (L - 1 - r) (idx W (L - 1 - r) k)).low (decI l W L k b N t r).1, ((decI l W L k b N t r).2.1 (L - 1 - r) (idx W (L - 1 - r) k)).said⟩ (decI l W L k b N t r).2.2 h1.1 (by simp only; omega) hb
    exact ⟨this.1, by simp only; omega⟩
theorem decN_done (l : List Int) (b : Int) (x : Nd) (t : RS) (h : x.said = true ∨ b ≤ x.low) : decN l b x t = (x, t) := by
  unfold decN
  split
  · rfl
  · rename_i hn
    rcases h with h | h
    · exact absurd h hn
    · rw [show (b - x.low).toNat = 0 by omega]
      rfl
theorem decN_one (l : List Int) (b n low : Int) (t : RS) (h : low < b) (h2 : rdV l t = 1) : decN l b ⟨n, low, false⟩ t = (⟨low, low, true⟩, rdS l t) := by
  unfold decN
  rw [if_neg (by simp), show (b - (⟨n, low, false⟩ : Nd).low).toNat = (b - (low + 1)).toNat + 1 by simp only; omega]
  unfold decF
  rw [if_pos h2]
theorem decN_zero (l : List Int) (b n low : Int) (t : RS) (h : low < b) (h2 : rdV l t ≠ 1) : decN l b ⟨n, low, false⟩ t = decN l b ⟨n, low + 1, false⟩ (rdS l t) := by
  unfold decN
  rw [if_neg (by simp), if_neg (by simp), show (b - (⟨n, low, false⟩ : Nd).low).toNat = (b - (low + 1)).toNat + 1 by simp only; omega]
  conv => lhs; unfold decF
  rw [if_neg h2]
/-- How far a node is from its bound. -/
def farD (b : Int) (g o : Nat) (w : World) : Nat := match w.cell? ⟨g, o, none⟩ with | some v => (b - intOf v).toNat | none => 0
def NFd (L : Nat) (B : Nat → Nat) (R g : Nat) : Prop := (∃ i, i < L ∧ B i = g) ∨ g = R
/-- In the midst of Decode. -/
structure DecM (w0 : World) (base p G c L W H : Nat) (B : Nat → Nat) (R : Nat) (A : Option Addr) (n c' : Nat) (l : List Int) (V k : Nat) (N : Nat → Nat → Nd) (t : RS) (w : World) : Prop where
  tr : TrG w p G c L W H B N
  way : Blk w V 69 (wayTo W L k B L)
  rd : RrS w base R A n c' l t
  ok : RSok t
  keep : Keep (NFd L B R) w0 w
section
variable {w0 w : World} {base p G c L W H R n c' V k : Nat} {B : Nat → Nat} {A : Option Addr} {l : List Int} {N : Nat → Nat → Nd} {t : RS}
theorem DecM.put (h : DecM w0 base p G c L W H B R A n c' l V k N t w) {i j o : Nat} {v : Value} {x : Nd} (hi : i < L) (ht : TrG (w.setCell ⟨B i, o, none⟩ v) p G c L W H B (updT N i j x)) :
    DecM w0 base p G c L W H B R A n c' l V k (updT N i j x) t (w.setCell ⟨B i, o, none⟩ v) := by
  have hk := Keep.set1 w (B i) o v
  refine ⟨ht, h.way.keep hk (fun e => Blk.ne_ h.way (h.tr.nd i hi) (by decide) e), ?_, h.ok, h.keep.trans hk (fun a _ e => ?_)⟩
  · exact Rr.keep h.rd hk (fun e => Blk.ne_ (Rr.blk h.rd) (h.tr.nd i hi) (by decide) e) (fun ad e e' => own_ne (Rr.own h.rd) (h.tr.nd i hi) (by decide) (by rw [e, ← e']; rfl))
  · subst e
    exact .inl ⟨i, hi, rfl⟩
theorem DecM.bit (h : DecM w0 base p G c L W H B R A n c' l V k N t w) (hl : Bytes l) (hp : t.1 ≤ 1099511627776) :
    Calls Try.prog 16 #[.pointer (some ⟨R, 0, none⟩)] w fun e w' => e = .returned (.int .i64 (rdV l t)) ∧ DecM w0 base p G c L W H B R A n c' l V k N (rdS l t) w' := by
  refine (rdS_any w base R A n c' l t h.rd hl h.ok hp).mono ?_
  rintro e w' ⟨rfl, hr', hk'⟩
  have hb := Rr.blk h.rd
  have key : ∀ {g : Nat} {ty : TypeId} {cs : Array Value}, Blk w g ty cs → ty ≠ 75 → ¬ g = R := fun hg hn e => Blk.ne_ hg hb hn e
  obtain ⟨cs, hg⟩ := h.tr.gt
  refine ⟨rfl, h.tr.keep hk' (key h.tr.blk (by decide)) (key hg (by decide)) (fun i hi => key (h.tr.nd i hi) (by decide)), h.way.keep hk' (key h.way (by decide)), hr', h.ok.step, h.keep.trans hk' (fun a _ e => .inr e)⟩
end

set_option maxHeartbeats 8000000 in
theorem dec_any (w : World) (base p G c L W H : Nat) (B : Nat → Nat) (N : Nat → Nat → Nd) (R : Nat) (A : Option Addr) (n c' : Nat) (l : List Int) (t : RS) (k : Nat) (b : Int)
    (h : TrG w p G c L W H B N) (hr : RrS w base R A n c' l t) (hok : RSok t) (hl : Bytes l) (hk : k < W * H) (hb0 : -1000 ≤ b ∧ b ≤ 1000) (hp : t.1 ≤ 536870912) :
    Calls Try.prog 20 #[.pointer (some ⟨p, 0, none⟩), .pointer (some ⟨R, 0, none⟩), .int .i64 k, .int .i64 b] w fun e w' =>
      e = .returned (.bool (((decI l W L k b N t L).2.1 0 k).said && decide (((decI l W L k b N t L).2.1 0 k).n < b))) ∧
      TrG w' p G c L W H B (decI l W L k b N t L).2.1 ∧ RrS w' base R A n c' l (decI l W L k b N t L).2.2 ∧ Keep (NFd L B R) w w' := by
  have hL := h.lev.pos
  have hL7 := h.lev.le
  have HLev := hid h.lev
  have H0 := hid h
  have HR0 := hid hr
  have HL0 := hid hl
  have HKZ := hid (show k < sz W H 0 from hk)
  have HWL := hid (way_leaf W L k B hL)
  go_enter Try.func20, Try.ntmps20
  go_wp2_with fail
  refine (way_in w p G c L W H B N k H0.out hk).mono ?_
  rintro e w1 ⟨V, rfl, hV, hVs, hk1⟩
  have HM0 : Hid (DecM w base p G c L W H B R A n c' l V k (decI l W L k b N t 0).2.1 (decI l W L k b N t 0).2.2 w1) := hid
    ⟨H0.out.aside hk1, hV, Rr.aside hr hk1, hok, hk1.mono (fun _ _ h => h.elim)⟩
  clear hV hVs hk1 h hr H0 HR0 hl
  go_wp2_with fail
  go_loopw [9, 18] (fun u v wr => ∃ r : Nat, r ≤ L ∧ u = .int .i64 (decI l W L k b N t r).1 ∧ v = .int .i64 r ∧ Hid (DecM w base p G c L W H B R A n c' l V k (decI l W L k b N t r).2.1 (decI l W L k b N t r).2.2 wr)) (fun _ v _ => L - (intOf v).toNat)
  case atStart => exact ⟨0, by omega, rfl, rfl, HM0⟩
  case round =>
    obtain ⟨r, hr, rfl, rfl, HM⟩ := hrel
    clear HM0
    by_cases hrL : r < L
    · obtain ⟨i, hi, hiL⟩ : ∃ i, L - 1 - r = i ∧ i < L := ⟨_, rfl, by omega⟩
      have hlow0 := decI_low l W L k b N t r
      have hrs0 := (decI_rs l W L k b N t hok hb0.2 r).2
      have HJ := hid (idx_lt HLev.out hk i)
      obtain ⟨j, hj⟩ : ∃ j, idx W i k = j := ⟨_, rfl⟩
      have HE := hid (decI_next (l := l) (t := t) (W := W) (L := L) (k := k) (b := b) (N := N) hi hj)
      rw [hj] at HJ
      generalize hP : decI l W L k b N t r = P1 at *
      obtain ⟨low, N1, t1⟩ := P1
      dsimp only at *
      have t0 : wr.cell? ⟨V, r, none⟩ = some (.pointer (some ⟨B i, 3 * j, none⟩)) := by
        have := (HM.out.way.cell r).trans (wayTo_at W L k B r hrL)
        unfold ptrW at this
        rw [hi, hj] at this
        exact this
      have c0 := (HM.out.tr.cells hiL HJ.out).1
      have c1 := (HM.out.tr.cells hiL HJ.out).2.1
      have c2 := (HM.out.tr.cells hiL HJ.out).2.2
      have fz := HM.out.tr.frozen hiL
      have f1 := fz (3 * j + 1)
      have HZ : Hid (∀ (x : Nd) (t2 : RS) (w5 : World), DecM w base p G c L W H B R A n c' l V k (updT N1 i j x) t2 w5 → decN l b ⟨(N1 i j).n, max (N1 i j).low low, (N1 i j).said⟩ t1 = (x, t2) →
          x.low = (decI l W L k b N t (r + 1)).1 ∧ DecM w base p G c L W H B R A n c' l V k (decI l W L k b N t (r + 1)).2.1 (decI l W L k b N t (r + 1)).2.2 w5) := hid (fun x t2 w5 h1 h2 => by
        rw [HE.out]
        dsimp only
        rw [h2]
        exact ⟨rfl, h1⟩)
      clear HE hP
      go_wp2_with fail
      case inl =>
        have hlt := h
        clear h
        have hm : max (N1 i j).low low = low := by omega
        rw [hm] at HZ
        have hM0 : 0 ≤ low := by omega
        have HM1 : Hid (DecM w base p G c L W H B R A n c' l V k (updT N1 i j ⟨(N1 i j).n, low, (N1 i j).said⟩) t1 (wr.setCell ⟨B i, 3 * j + 1, none⟩ (.int .i64 (low)))) := hid (HM.out.put hiL (HM.out.tr.setLow hiL HJ.out (low)))
        clear HM c0 c1 c2 f1 fz t0 hm hlt
        generalize wr.setCell ⟨B i, 3 * j + 1, none⟩ (.int .i64 (low)) = w3 at *
        generalize hx0 : (⟨(N1 i j).n, low, (N1 i j).said⟩ : Nd) = x0 at *
        have hx0l : 0 ≤ x0.low := by rw [← hx0]; exact hM0
        clear hx0 hM0
        go_loopw [] (fun wr => ∃ (x : Nd) (t2 : RS), Hid (DecM w base p G c L W H B R A n c' l V k (updT N1 i j x) t2 wr) ∧ Hid (decN l b x t2 = decN l b x0 t1 ∧ 0 ≤ x.low ∧ t2.1 + (b - x.low).toNat ≤ t1.1 + (b - x0.low).toNat)) (fun wr => farD b (B i) (3 * j + 1) wr)
        case atStart => exact ⟨x0, t1, HM1, hid ⟨rfl, hx0l, Nat.le_refl _⟩⟩
        case round =>
          obtain ⟨x, t2, HN, HQ⟩ := hrel
          clear HM1
          have HC := hid (HN.out.tr.cells hiL HJ.out)
          rw [updT_same] at HC
          have fz := HN.out.tr.frozen hiL
          have f1 := fz (3 * j + 1)
          have f2 := fz (3 * j + 2)
          obtain ⟨n1, l1, sd⟩ := x
          obtain ⟨c0, c1, c2⟩ := HC.out
          dsimp only at c0 c1 c2
          clear fz HC
          have hl0 : 0 ≤ l1 := HQ.out.2.1
          have hfar : farD b (B i) (3 * j + 1) wr = (b - l1).toNat := by unfold farD; rw [c1]; rfl
          by_cases hlb : l1 < b
          · cases sd
            · go_wp2_with fail
              have hq3 := HQ.out.2.2
              refine (HN.out.bit HL0.out (by omega)).mono ?_
              rintro e w4 ⟨rfl, hN4⟩
              have d0 := (hN4.tr.cells hiL HJ.out).1
              have d1 := (hN4.tr.cells hiL HJ.out).2.1
              have d2 := (hN4.tr.cells hiL HJ.out).2.2
              have g0 := hN4.tr.frozen hiL (3 * j)
              have g1 := hN4.tr.frozen hiL (3 * j + 1)
              have g2 := hN4.tr.frozen hiL (3 * j + 2)
              rw [updT_same] at d0 d1 d2
              have hRP : (rdS l t2).1 ≤ t2.1 + 1 := rdP_le t2.1 t2.2.1
              have HN4 := hid hN4
              clear hN4 HN
              by_cases hv : rdV l t2 = 1
              · have HO := hid (decN_one l b n1 l1 t2 hlb hv)
                rw [hv]
                have HN5 : Hid (DecM w base p G c L W H B R A n c' l V k (updT N1 i j ⟨l1, l1, true⟩) (rdS l t2) ((w4.setCell ⟨B i, 3 * j + 2, none⟩ (.bool true)).setCell ⟨B i, 3 * j, none⟩ (.int .i64 l1))) := hid (by
                  have h5 := HN4.out.put hiL (HN4.out.tr.setSaid hiL HJ.out true)
                  rw [updT_same, updT_updT] at h5
                  have h6 := h5.put hiL (h5.tr.setN hiL HJ.out l1)
                  rw [updT_same, updT_updT] at h6
                  exact h6)
                have HV := hid hv
                have hz := HZ.out ⟨l1, l1, true⟩ (rdS l t2) ((w4.setCell ⟨B i, 3 * j + 2, none⟩ (.bool true)).setCell ⟨B i, 3 * j, none⟩ (.int .i64 l1)) HN5.out (by rw [← HQ.out.1, HO.out])
                have HL := hid hz.1
                have HN6 := hid hz.2
                clear hv hz HN5 HZ HQ HO HN4 c0 c1 c2 f1 f2 hfar
                go_wp2_with fail
                go_roundw
                case rel => exact ⟨r + 1, by omega, by rw [← HL.out], by go_num, HN6⟩
                case measure => simp [intOf]; omega
              · have HO := hid (decN_zero l b n1 l1 t2 hlb hv)
                have hv' : (rdV l t2 == 1) = false := by simpa using hv
                have HN6 : Hid (DecM w base p G c L W H B R A n c' l V k (updT N1 i j ⟨n1, l1 + 1, false⟩) (rdS l t2) ((w4.setCell ⟨B i, 3 * j + 2, none⟩ (.bool false)).setCell ⟨B i, 3 * j + 1, none⟩ (.int .i64 (l1 + 1)))) := hid (by
                  have h5 := HN4.out.put hiL (HN4.out.tr.setSaid hiL HJ.out false)
                  rw [updT_same, updT_updT] at h5
                  have h6 := h5.put hiL (h5.tr.setLow hiL HJ.out (l1 + 1))
                  rw [updT_same, updT_updT] at h6
                  exact h6)
                have HFAR := hid (show farD b (B i) (3 * j + 1) ((w4.setCell ⟨B i, 3 * j + 2, none⟩ (.bool false)).setCell ⟨B i, 3 * j + 1, none⟩ (.int .i64 (l1 + 1))) < farD b (B i) (3 * j + 1) wr by
                  have d3 := (HN6.out.tr.cells hiL HJ.out).2.1
                  rw [updT_same] at d3
                  rw [hfar]
                  unfold farD
                  rw [d3]
                  show (b - (l1 + 1)).toNat < (b - l1).toNat
                  omega)
                have hQ := HQ.out
                rw [HO.out] at hQ
                have HQ2 : Hid (decN l b ⟨n1, l1 + 1, false⟩ (rdS l t2) = decN l b x0 t1 ∧ 0 ≤ l1 + 1 ∧ (rdS l t2).1 + (b - (l1 + 1)).toNat ≤ t1.1 + (b - x0.low).toNat) := hid ⟨hQ.1, by omega, by omega⟩
                clear hv hQ HQ HO HZ HN4 c0 c1 c2 f1 f2 hfar
                generalize rdV l t2 = bit at *
                go_wp2_with fail
                exact ⟨⟨⟨n1, l1 + 1, false⟩, rdS l t2, HN6, HQ2⟩, HFAR.out⟩
            · have HO := hid (decN_done l b ⟨n1, l1, true⟩ t2 (.inl rfl))
              have hz := HZ.out ⟨n1, l1, true⟩ t2 wr HN.out (by rw [← HQ.out.1, HO.out])
              have HL := hid hz.1
              have HN6 := hid hz.2
              clear hz HN HZ HQ HO
              go_wp2_with fail
              go_roundw
              case rel => exact ⟨r + 1, by omega, by rw [← HL.out], by go_num, HN6⟩
              case measure => simp [intOf]; omega
          · have hlb : b ≤ l1 := by omega
            have HO := hid (decN_done l b ⟨n1, l1, sd⟩ t2 (.inr hlb))
            have hz := HZ.out ⟨n1, l1, sd⟩ t2 wr HN.out (by rw [← HQ.out.1, HO.out])
            have HL := hid hz.1
            have HN6 := hid hz.2
            clear hz HN HZ HQ HO
            go_wp2_with fail
            go_roundw
            case rel => exact ⟨r + 1, by omega, by rw [← HL.out], by go_num, HN6⟩
            case measure => simp [intOf]; omega
      case inr =>
        have hlt := h
        clear h
        have hm : max (N1 i j).low low = (N1 i j).low := by omega
        rw [hm] at HZ
        have hM0 : 0 ≤ (N1 i j).low := by omega
        have HM1 : Hid (DecM w base p G c L W H B R A n c' l V k (updT N1 i j ⟨(N1 i j).n, (N1 i j).low, (N1 i j).said⟩) t1 (wr.setCell ⟨B i, 3 * j + 1, none⟩ (.int .i64 ((N1 i j).low)))) := hid (HM.out.put hiL (HM.out.tr.setLow hiL HJ.out ((N1 i j).low)))
        clear HM c0 c1 c2 f1 fz t0 hm hlt
        generalize wr.setCell ⟨B i, 3 * j + 1, none⟩ (.int .i64 ((N1 i j).low)) = w3 at *
        generalize hx0 : (⟨(N1 i j).n, (N1 i j).low, (N1 i j).said⟩ : Nd) = x0 at *
        have hx0l : 0 ≤ x0.low := by rw [← hx0]; exact hM0
        clear hx0 hM0
        go_loopw [] (fun wr => ∃ (x : Nd) (t2 : RS), Hid (DecM w base p G c L W H B R A n c' l V k (updT N1 i j x) t2 wr) ∧ Hid (decN l b x t2 = decN l b x0 t1 ∧ 0 ≤ x.low ∧ t2.1 + (b - x.low).toNat ≤ t1.1 + (b - x0.low).toNat)) (fun wr => farD b (B i) (3 * j + 1) wr)
        case atStart => exact ⟨x0, t1, HM1, hid ⟨rfl, hx0l, Nat.le_refl _⟩⟩
        case round =>
          obtain ⟨x, t2, HN, HQ⟩ := hrel
          clear HM1
          have HC := hid (HN.out.tr.cells hiL HJ.out)
          rw [updT_same] at HC
          have fz := HN.out.tr.frozen hiL
          have f1 := fz (3 * j + 1)
          have f2 := fz (3 * j + 2)
          obtain ⟨n1, l1, sd⟩ := x
          obtain ⟨c0, c1, c2⟩ := HC.out
          dsimp only at c0 c1 c2
          clear fz HC
          have hl0 : 0 ≤ l1 := HQ.out.2.1
          have hfar : farD b (B i) (3 * j + 1) wr = (b - l1).toNat := by unfold farD; rw [c1]; rfl
          by_cases hlb : l1 < b
          · cases sd
            · go_wp2_with fail
              have hq3 := HQ.out.2.2
              refine (HN.out.bit HL0.out (by omega)).mono ?_
              rintro e w4 ⟨rfl, hN4⟩
              have d0 := (hN4.tr.cells hiL HJ.out).1
              have d1 := (hN4.tr.cells hiL HJ.out).2.1
              have d2 := (hN4.tr.cells hiL HJ.out).2.2
              have g0 := hN4.tr.frozen hiL (3 * j)
              have g1 := hN4.tr.frozen hiL (3 * j + 1)
              have g2 := hN4.tr.frozen hiL (3 * j + 2)
              rw [updT_same] at d0 d1 d2
              have hRP : (rdS l t2).1 ≤ t2.1 + 1 := rdP_le t2.1 t2.2.1
              have HN4 := hid hN4
              clear hN4 HN
              by_cases hv : rdV l t2 = 1
              · have HO := hid (decN_one l b n1 l1 t2 hlb hv)
                rw [hv]
                have HN5 : Hid (DecM w base p G c L W H B R A n c' l V k (updT N1 i j ⟨l1, l1, true⟩) (rdS l t2) ((w4.setCell ⟨B i, 3 * j + 2, none⟩ (.bool true)).setCell ⟨B i, 3 * j, none⟩ (.int .i64 l1))) := hid (by
                  have h5 := HN4.out.put hiL (HN4.out.tr.setSaid hiL HJ.out true)
                  rw [updT_same, updT_updT] at h5
                  have h6 := h5.put hiL (h5.tr.setN hiL HJ.out l1)
                  rw [updT_same, updT_updT] at h6
                  exact h6)
                have HV := hid hv
                have hz := HZ.out ⟨l1, l1, true⟩ (rdS l t2) ((w4.setCell ⟨B i, 3 * j + 2, none⟩ (.bool true)).setCell ⟨B i, 3 * j, none⟩ (.int .i64 l1)) HN5.out (by rw [← HQ.out.1, HO.out])
                have HL := hid hz.1
                have HN6 := hid hz.2
                clear hv hz HN5 HZ HQ HO HN4 c0 c1 c2 f1 f2 hfar
                go_wp2_with fail
                go_roundw
                case rel => exact ⟨r + 1, by omega, by rw [← HL.out], by go_num, HN6⟩
                case measure => simp [intOf]; omega
              · have HO := hid (decN_zero l b n1 l1 t2 hlb hv)
                have hv' : (rdV l t2 == 1) = false := by simpa using hv
                have HN6 : Hid (DecM w base p G c L W H B R A n c' l V k (updT N1 i j ⟨n1, l1 + 1, false⟩) (rdS l t2) ((w4.setCell ⟨B i, 3 * j + 2, none⟩ (.bool false)).setCell ⟨B i, 3 * j + 1, none⟩ (.int .i64 (l1 + 1)))) := hid (by
                  have h5 := HN4.out.put hiL (HN4.out.tr.setSaid hiL HJ.out false)
                  rw [updT_same, updT_updT] at h5
                  have h6 := h5.put hiL (h5.tr.setLow hiL HJ.out (l1 + 1))
                  rw [updT_same, updT_updT] at h6
                  exact h6)
                have HFAR := hid (show farD b (B i) (3 * j + 1) ((w4.setCell ⟨B i, 3 * j + 2, none⟩ (.bool false)).setCell ⟨B i, 3 * j + 1, none⟩ (.int .i64 (l1 + 1))) < farD b (B i) (3 * j + 1) wr by
                  have d3 := (HN6.out.tr.cells hiL HJ.out).2.1
                  rw [updT_same] at d3
                  rw [hfar]
                  unfold farD
                  rw [d3]
                  show (b - (l1 + 1)).toNat < (b - l1).toNat
                  omega)
                have hQ := HQ.out
                rw [HO.out] at hQ
                have HQ2 : Hid (decN l b ⟨n1, l1 + 1, false⟩ (rdS l t2) = decN l b x0 t1 ∧ 0 ≤ l1 + 1 ∧ (rdS l t2).1 + (b - (l1 + 1)).toNat ≤ t1.1 + (b - x0.low).toNat) := hid ⟨hQ.1, by omega, by omega⟩
                clear hv hQ HQ HO HZ HN4 c0 c1 c2 f1 f2 hfar
                generalize rdV l t2 = bit at *
                go_wp2_with fail
                exact ⟨⟨⟨n1, l1 + 1, false⟩, rdS l t2, HN6, HQ2⟩, HFAR.out⟩
            · have HO := hid (decN_done l b ⟨n1, l1, true⟩ t2 (.inl rfl))
              have hz := HZ.out ⟨n1, l1, true⟩ t2 wr HN.out (by rw [← HQ.out.1, HO.out])
              have HL := hid hz.1
              have HN6 := hid hz.2
              clear hz HN HZ HQ HO
              go_wp2_with fail
              go_roundw
              case rel => exact ⟨r + 1, by omega, by rw [← HL.out], by go_num, HN6⟩
              case measure => simp [intOf]; omega
          · have hlb : b ≤ l1 := by omega
            have HO := hid (decN_done l b ⟨n1, l1, sd⟩ t2 (.inr hlb))
            have hz := HZ.out ⟨n1, l1, sd⟩ t2 wr HN.out (by rw [← HQ.out.1, HO.out])
            have HL := hid hz.1
            have HN6 := hid hz.2
            clear hz HN HZ HQ HO
            go_wp2_with fail
            go_roundw
            case rel => exact ⟨r + 1, by omega, by rw [← HL.out], by go_num, HN6⟩
            case measure => simp [intOf]; omega
    · obtain rfl : r = L := by omega
      have HX := hid (show ∃ x, (decI l W r k b N t r).2.1 0 k = x from ⟨_, rfl⟩)
      obtain ⟨x, hx⟩ := HX.out
      have c0 := (HM.out.tr.cells hL HKZ.out).1
      have c2 := (HM.out.tr.cells hL HKZ.out).2.2
      rw [hx] at c0 c2
      have HX := hid hx
      clear hx
      obtain ⟨M, rfl⟩ : ∃ M, r = M + 1 := ⟨r - 1, by omega⟩
      have t0 : wr.cell? ⟨V, M, none⟩ = some (.pointer (some ⟨B 0, 3 * k, none⟩)) := (HM.out.way.cell _).trans HWL.out
      have e0 : decide (((M + 1 : Nat) : Int) > 0) = true := by simp
      obtain ⟨n1, l1, sd⟩ := x
      cases sd
      · go_wp2_with fail
        go_ret
        exact ⟨by rw [HX.out]; rfl, HM.out.tr, HM.out.rd, HM.out.keep⟩
      · go_wp2_with fail
        go_ret
        exact ⟨by rw [HX.out]; rfl, HM.out.tr, HM.out.rd, HM.out.keep⟩
end Go.Proofs.Ytbkffpedigeflaa
