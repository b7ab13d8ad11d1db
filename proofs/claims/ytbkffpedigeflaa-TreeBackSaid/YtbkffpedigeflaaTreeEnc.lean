/-
  Encode: what it says of a node, of a way. Conditions: numbers up to 2^40.
-/
import Derived.Test.YtbkffpedigeflaaTreeWay
import Derived.WalkLawsBesides
namespace Go.Proofs.Ytbkffpedigeflaa
open Go.RowKit

/-- What is said of a node, up to a bound: the node behind it, the bits. -/
def encN (b : Int) (x : Nd) : Nd × List Int :=
  if x.said = true ∨ b ≤ x.low then (x, [])
  else if x.n < b then (⟨x.n, max x.low x.n, true⟩, List.replicate (x.n - x.low).toNat 0 ++ [1])
  else (⟨x.n, b, false⟩, List.replicate (b - x.low).toNat 0)
/-- Behind r nodes of the way. -/
def encI (W L k : Nat) (b : Int) (N : Nat → Nat → Nd) : Nat → Int × (Nat → Nat → Nd) × List Int
  | 0 => (0, N, [])
  | r + 1 =>
    let s := encI W L k b N r
    let y := encN b ⟨(s.2.1 (L - 1 - r) (idx W (L - 1 - r) k)).n, max (s.2.1 (L - 1 - r) (idx W (L - 1 - r) k)).low s.1, (s.2.1 (L - 1 - r) (idx W (L - 1 - r) k)).said⟩
    (y.1.low, updT s.2.1 (L - 1 - r) (idx W (L - 1 - r) k) y.1, s.2.2 ++ y.2)
theorem encI_pre (W L k : Nat) (b : Int) (N : Nat → Nat → Nd) (r : Nat) : ∀ r', r ≤ r' → (encI W L k b N r).2.2.length ≤ (encI W L k b N r').2.2.length
  | 0, h => by obtain rfl : r = 0 := by omega
               exact Nat.le_refl _
  | r' + 1, h => by
    by_cases e : r = r' + 1
    · subst e; exact Nat.le_refl _
    · have := encI_pre W L k b N r r' (by omega)
      show _ ≤ ((encI W L k b N r').2.2 ++ _).length
      rw [List.length_append]
      omega

section
variable {w w' : World} {p G c L W H base Q n c' : Nat} {A : Option Addr} {B : Nat → Nat} {N : Nat → Nat → Nd} {l : List Int} {r : Int}
/-- A writer's blocks are none of a tree's. -/
theorem TrG.keepW (h : TrG w p G c L W H B N) (hw : Wr w base Q A n c' l r) (hk : Keep (foot Q A) w w') : TrG w' p G c L W H B N := by
  have key : ∀ {g : Nat} {t : TypeId} {cs : Array Value}, Blk w g t cs → t ≠ 65 → t ≠ 5 → ¬ foot Q A g := by
    intro g t cs hb h1 h2 hf
    rcases hf with rfl | ⟨ad, rfl, rfl⟩
    · exact Blk.ne_ hb hw.blk h1 rfl
    · exact own_ne hw.own hb (Ne.symm h2) rfl
  obtain ⟨cs, hg⟩ := h.gt
  exact h.keep hk (key h.blk (by decide) (by decide)) (key hg (by decide) (by decide)) (fun i hi => key (h.nd i hi) (by decide) (by decide))
theorem Wr.keepN (hw : Wr w base Q A n c' l r) {g : Nat} {cs : Array Value} (hb : Blk w g 61 cs) (hk : Keep (fun k => k = g) w w') : Wr w' base Q A n c' l r :=
  hw.keep hk (fun e => Blk.ne_ hw.blk hb (by decide) e) (fun ad e e' => own_ne hw.own hb (by decide) (by rw [e, ← e']; rfl))
theorem way_keepW {V : Nat} {cs : Array Value} (hv : Blk w V 69 cs) (hw : Wr w base Q A n c' l r) (hk : Keep (foot Q A) w w') : Blk w' V 69 cs :=
  hv.keep hk (fun hf => by
    rcases hf with rfl | ⟨ad, rfl, rfl⟩
    · exact Blk.ne_ hv hw.blk (by decide) rfl
    · exact own_ne hw.own hv (by decide) rfl)
end
/-- What Encode writes to: the nodes, the writer. -/
def EF (L : Nat) (B : Nat → Nat) (Q : Nat) (A : Option Addr) (k : Nat) : Prop := (∃ i, i < L ∧ B i = k) ∨ foot Q A k
/-- In the midst of Encode. -/
structure EncM (w0 : World) (base p G c L W H : Nat) (B : Nat → Nat) (Q : Nat) (A0 : Option Addr) (V k : Nat) (N : Nat → Nat → Nd) (s : List Int × Int) (w : World) : Prop where
  tr : TrG w p G c L W H B N
  way : Blk w V 69 (wayTo W L k B L)
  wr : ∃ A n c', Wr w base Q A n c' s.1 s.2 ∧ Grew w0 A0 A
  inv : BInv s.1 s.2
  keep : Keep (EF L B Q A0) w0 w
  b : base ≤ w.heap.size
section
variable {w0 w : World} {base p G c L W H Q V k : Nat} {B : Nat → Nat} {A0 : Option Addr} {N : Nat → Nat → Nd} {s : List Int × Int}
theorem EncM.put (h : EncM w0 base p G c L W H B Q A0 V k N s w) {i j o : Nat} {v : Value} {x : Nd} (hi : i < L) (ht : TrG (w.setCell ⟨B i, o, none⟩ v) p G c L W H B (updT N i j x)) :
    EncM w0 base p G c L W H B Q A0 V k (updT N i j x) s (w.setCell ⟨B i, o, none⟩ v) := by
  have hk := Keep.set1 w (B i) o v
  obtain ⟨A, n, c', hw, hg⟩ := h.wr
  refine ⟨ht, h.way.keep hk (fun e => Blk.ne_ h.way (h.tr.nd i hi) (by decide) e), ⟨A, n, c', hw.keepN (h.tr.nd i hi) hk, hg⟩, h.inv, h.keep.trans hk (fun a _ e => ?_), by rw [World.size_setCell]; exact h.b⟩
  subst e
  exact .inl ⟨i, hi, rfl⟩
theorem EncM.drew (h : EncM w0 base p G c L W H B Q A0 V k N s w) : EncM w0 base p G c L W H B Q A0 V k N s w.drew := by
  obtain ⟨A, n, c', hw, hg⟩ := h.wr
  exact ⟨h.tr.drew, h.way.drew, ⟨A, n, c', ⟨hw.blk.drew, hw.own.drew⟩, hg⟩, h.inv, h.keep.drew, h.b⟩
theorem EncM.bit (h : EncM w0 base p G c L W H B Q A0 V k N s w) (x : Int) (hl : s.1.length ≤ 1099511627776) :
    Calls Try.prog 29 #[.pointer (some ⟨Q, 0, none⟩), .int .i64 x] w fun e w' => e = .returned (.tuple #[]) ∧ EncM w0 base p G c L W H B Q A0 V k N (stepM s x) w' := by
  obtain ⟨A, n, c', hw, hg⟩ := h.wr
  refine (bit_any w base Q A n c' s.1 s.2 x hw h.inv h.b (by rw [← hw.len]; exact hl)).mono ?_
  rintro e w' ⟨A', n', c'', rfl, hw', hg', hk'⟩
  have hg2 : Grew w0 A0 A' := fun ad e => by
    rcases hg' ad e with ⟨a1, e1, h1⟩ | h1
    · rcases hg a1 e1 with ⟨a0, e0, h0⟩ | h0
      · exact .inl ⟨a0, e0, h0.trans h1⟩
      · exact .inr (by omega)
    · exact .inr (Nat.le_trans h.keep.size h1)
  refine ⟨rfl, h.tr.keepW hw hk', way_keepW h.way hw hk', ⟨A', n', c'', hw', hg2⟩, h.inv.step x, h.keep.trans hk' (fun a ha hf => ?_), Nat.le_trans h.b hk'.size⟩
  rcases hf with rfl | ⟨a1, e1, h1⟩
  · exact .inr (.inl rfl)
  · rcases hg a1 e1 with ⟨a0, e0, h0⟩ | h0
    · exact .inr (.inr ⟨a0, e0, h0.trans h1⟩)
    · omega
end

theorem encN_low (b : Int) (x : Nd) : x.low ≤ (encN b x).1.low := by
  unfold encN
  split
  · exact Int.le_refl _
  · split
    · show _ ≤ max x.low x.n; omega
    · show _ ≤ b; omega
theorem encN_len (b : Int) (x : Nd) (h0 : 0 ≤ x.low) (hb : b ≤ 1000) : (encN b x).2.length ≤ 1001 := by
  unfold encN
  split
  · simp
  · split
    · simp; omega
    · simp; omega
theorem encI_low (W L k : Nat) (b : Int) (N : Nat → Nat → Nd) : ∀ r, 0 ≤ (encI W L k b N r).1
  | 0 => Int.le_refl _
  | r + 1 => by
    have h := encI_low W L k b N r
    have := encN_low b ⟨((encI W L k b N r).2.1 (L - 1 - r) (idx W (L - 1 - r) k)).n, max ((encI W L k b N r).2.1 (L - 1 - r) (idx W (L - 1 - r) k)).low (encI W L k b N r).1, ((encI W L k b N r).2.1 (L - 1 - r) (idx W (L - 1 - r) k)).said⟩
    show 0 ≤ (encN b _).1.low
    simp only at this
    omega
theorem encI_len (W L k : Nat) (b : Int) (N : Nat → Nat → Nd) (hb : b ≤ 1000) : ∀ r, (encI W L k b N r).2.2.length ≤ 1001 * r
  | 0 => by simp [encI]
  | r + 1 => by
    have h := encI_len W L k b N hb r
    have h0 := encI_low W L k b N r
    have := encN_len b ⟨((encI W L k b N r).2.1 (L - 1 - r) (idx W (L - 1 - r) k)).n, max ((encI W L k b N r).2.1 (L - 1 - r) (idx W (L - 1 - r) k)).low (encI W L k b N r).1, ((encI W L k b N r).2.1 (L - 1 - r) (idx W (L - 1 - r) k)).said⟩ (by simp only; omega) hb
    show ((encI W L k b N r).2.2 ++ (encN b _).2).length ≤ _
    rw [List.length_append]
    omega
theorem encN_done (b : Int) (x : Nd) (h : x.said = true ∨ b ≤ x.low) : encN b x = (x, []) := if_pos h
theorem encN_one (b n low : Int) (h : low < b) (h2 : n ≤ low) : encN b ⟨n, low, false⟩ = (⟨n, low, true⟩, [1]) := by
  unfold encN
  rw [if_neg (by simp; omega), if_pos (by simp only; omega)]
  simp only [show max low n = low by omega, show (n - low).toNat = 0 by omega, List.replicate_zero, List.nil_append]
theorem encN_zero (b n low : Int) (h : low < b) (h2 : low < n) : encN b ⟨n, low, false⟩ = ((encN b ⟨n, low + 1, false⟩).1, 0 :: (encN b ⟨n, low + 1, false⟩).2) := by
  unfold encN
  rw [if_neg (by simp; omega)]
  by_cases hn : n < b
  · rw [if_pos hn, if_neg (by simp; omega), if_pos hn]
    simp only [show max low n = max (low + 1) n by omega, show (n - low).toNat = (n - (low + 1)).toNat + 1 by omega, List.replicate_succ, List.cons_append]
  · rw [if_neg hn]
    by_cases hb : low + 1 = b
    · rw [if_pos (by simp; omega)]
      simp [hb, show b - low = 1 by omega]
    · rw [if_neg (by simp; omega), if_neg hn]
      simp only [show (b - low).toNat = (b - (low + 1)).toNat + 1 by omega, List.replicate_succ]
theorem encI_next {W L k : Nat} {b : Int} {N : Nat → Nat → Nd} {r i j : Nat} (hi : L - 1 - r = i) (hj : idx W i k = j) :
    encI W L k b N (r + 1) = ((encN b ⟨((encI W L k b N r).2.1 i j).n, max ((encI W L k b N r).2.1 i j).low (encI W L k b N r).1, ((encI W L k b N r).2.1 i j).said⟩).1.low,
      updT (encI W L k b N r).2.1 i j (encN b ⟨((encI W L k b N r).2.1 i j).n, max ((encI W L k b N r).2.1 i j).low (encI W L k b N r).1, ((encI W L k b N r).2.1 i j).said⟩).1,
      (encI W L k b N r).2.2 ++ (encN b ⟨((encI W L k b N r).2.1 i j).n, max ((encI W L k b N r).2.1 i j).low (encI W L k b N r).1, ((encI W L k b N r).2.1 i j).said⟩).2) := by
  subst hi hj
  rfl
/-- How far a node is from its bound. -/
def farN (b : Int) (g o : Nat) (w : World) : Nat := match w.cell? ⟨g, o, none⟩ with | some v => (b - intOf v).toNat | none => 0

set_option maxHeartbeats 8000000 in
theorem enc_any (w : World) (base p G c L W H : Nat) (B : Nat → Nat) (N : Nat → Nat → Nd) (Q : Nat) (A : Option Addr) (n c' : Nat) (s : List Int × Int) (k : Nat) (b : Int)
    (h : TrG w p G c L W H B N) (hw : Wr w base Q A n c' s.1 s.2) (hinv : BInv s.1 s.2) (hb : base ≤ w.heap.size) (hk : k < W * H)
    (hb0 : -1000 ≤ b ∧ b ≤ 1000) (hl : s.1.length ≤ 536870912) :
    Calls Try.prog 13 #[.pointer (some ⟨p, 0, none⟩), .pointer (some ⟨Q, 0, none⟩), .int .i64 k, .int .i64 b] w fun e w' => e = .returned (.tuple #[]) ∧
      TrG w' p G c L W H B (encI W L k b N L).2.1 ∧ (∃ A' n' c'', Wr w' base Q A' n' c'' (runM s (encI W L k b N L).2.2).1 (runM s (encI W L k b N L).2.2).2 ∧ Grew w A A') ∧ Keep (EF L B Q A) w w' := by
  have hL := h.lev.pos
  have hL7 := h.lev.le
  have HLev := hid h.lev
  have H0 := hid h
  have HW0 := hid hw
  go_enter Try.func13, Try.ntmps13
  go_wp2_with fail
  refine (way_in w p G c L W H B N k H0.out hk).mono ?_
  rintro e w1 ⟨V, rfl, hV, hVs, hk1⟩
  have HM0 : Hid (EncM w base p G c L W H B Q A V k (encI W L k b N 0).2.1 (runM s (encI W L k b N 0).2.2) w1) := hid
    ⟨H0.out.aside hk1, hV, ⟨A, n, c', hw.keep hk1 (fun h => h) (fun _ _ h => h), Grew.refl w A⟩, hinv, hk1.mono (fun _ _ h => h.elim), Nat.le_trans hb hk1.size⟩
  clear hV hVs hk1 h hw hinv H0 HW0
  go_wp2_with fail
  go_loopw [8, 15] (fun u v wr => ∃ r : Nat, r ≤ L ∧ u = .int .i64 (encI W L k b N r).1 ∧ v = .int .i64 r ∧ Hid (EncM w base p G c L W H B Q A V k (encI W L k b N r).2.1 (runM s (encI W L k b N r).2.2) wr)) (fun _ v _ => L - (intOf v).toNat)
  case atStart => exact ⟨0, by omega, rfl, rfl, HM0⟩
  case round =>
    obtain ⟨r, hr, rfl, rfl, HM⟩ := hrel
    clear HM0
    by_cases hrL : r < L
    · obtain ⟨i, hi, hiL⟩ : ∃ i, L - 1 - r = i ∧ i < L := ⟨_, rfl, by omega⟩
      have hlow0 := encI_low W L k b N r
      have hlen0 := encI_len W L k b N hb0.2 r
      have HJ := hid (idx_lt HLev.out hk i)
      have hrl := runM_length (encI W L k b N r).2.2 s
      have HR := hid (runM_append s (encI W L k b N r).2.2)
      obtain ⟨j, hj⟩ : ∃ j, idx W i k = j := ⟨_, rfl⟩
      have HE := hid (encI_next (W := W) (L := L) (k := k) (b := b) (N := N) hi hj)
      rw [hj] at HJ
      generalize hP : encI W L k b N r = P1 at *
      obtain ⟨low, N1, bs1⟩ := P1
      dsimp only at *
      generalize (runM s bs1) = s1 at *
      have t0 : wr.cell? ⟨V, r, none⟩ = some (.pointer (some ⟨B i, 3 * j, none⟩)) := by
        have := (HM.out.way.cell r).trans (wayTo_at W L k B r hrL)
        unfold ptrW at this
        rw [hi, hj] at this
        exact this
      have c0 := (HM.out.tr.cells hiL HJ.out).1
      have c1 := (HM.out.tr.cells hiL HJ.out).2.1
      have c2 := (HM.out.tr.cells hiL HJ.out).2.2
      have fz := HM.out.tr.frozen hiL
      have f1 := fz (3 * j + 1)
      have HZ : Hid (∀ (x : Nd) (s2 : List Int × Int) (w5 : World), EncM w base p G c L W H B Q A V k (updT N1 i j x) s2 w5 → (encN b ⟨(N1 i j).n, max (N1 i j).low low, (N1 i j).said⟩).1 = x → runM s1 (encN b ⟨(N1 i j).n, max (N1 i j).low low, (N1 i j).said⟩).2 = s2 →
          x.low = (encI W L k b N (r + 1)).1 ∧ EncM w base p G c L W H B Q A V k (encI W L k b N (r + 1)).2.1 (runM s (encI W L k b N (r + 1)).2.2) w5) := hid (fun x s2 w5 h1 h2 h3 => by
        rw [HE.out]
        dsimp only
        rw [HR.out, h2, h3]
        exact ⟨rfl, h1⟩)
      have hsl := encN_len b ⟨(N1 i j).n, max (N1 i j).low low, (N1 i j).said⟩ (by simp only; omega) hb0.2
      clear HE HR hP
      go_wp2_with fail
      case inl =>
        have hlt := h
        clear h
        have hm : max (N1 i j).low low = low := by omega
        rw [hm] at HZ hsl
        have hM0 : 0 ≤ low := by omega
        have HM1 : Hid (EncM w base p G c L W H B Q A V k (updT N1 i j ⟨(N1 i j).n, low, (N1 i j).said⟩) s1 (wr.setCell ⟨B i, 3 * j + 1, none⟩ (.int .i64 (low)))) := hid (HM.out.put hiL (HM.out.tr.setLow hiL HJ.out (low)))
        clear HM c0 c1 c2 f1 fz t0 hm hlt
        generalize wr.setCell ⟨B i, 3 * j + 1, none⟩ (.int .i64 (low)) = w3 at *
        generalize hx0 : (⟨(N1 i j).n, low, (N1 i j).said⟩ : Nd) = x0 at *
        have hx0l : 0 ≤ x0.low := by rw [← hx0]; exact hM0
        clear hx0 hM0
        go_loopw [] (fun wr => ∃ (x : Nd) (s2 : List Int × Int), Hid (EncM w base p G c L W H B Q A V k (updT N1 i j x) s2 wr) ∧ Hid ((encN b x).1 = (encN b x0).1 ∧ runM s2 (encN b x).2 = runM s1 (encN b x0).2 ∧ 0 ≤ x.low ∧ s2.1.length + (encN b x).2.length ≤ s1.1.length + (encN b x0).2.length)) (fun wr => farN b (B i) (3 * j + 1) wr)
        case atStart => exact ⟨x0, s1, HM1, hid ⟨rfl, rfl, hx0l, Nat.le_refl _⟩⟩
        case round =>
          obtain ⟨x, s2, HN, HQ⟩ := hrel
          clear HM1
          have HC := hid (HN.out.tr.cells hiL HJ.out)
          rw [updT_same] at HC
          have fz := HN.out.tr.frozen hiL
          have f1 := fz (3 * j + 1)
          have f2 := fz (3 * j + 2)
          obtain ⟨n1, l1, sd⟩ := x
          obtain ⟨c0, c1, c2⟩ := HC.out
          dsimp only at c0 c1 c2
          clear fz HC
          have hl0 : 0 ≤ l1 := HQ.out.2.2.1
          have hfar : farN b (B i) (3 * j + 1) wr = (b - l1).toNat := by unfold farN; rw [c1]; rfl
          by_cases hlb : l1 < b
          · cases sd
            · by_cases hnl : n1 ≤ l1
              · have HO := hid (encN_one b n1 l1 hlb hnl)
                have HN4 : Hid (EncM w base p G c L W H B Q A V k (updT N1 i j ⟨n1, l1, true⟩) s2 (wr.setCell ⟨B i, 3 * j + 2, none⟩ (.bool true)).drew) := hid (by
                  have := (HN.out.put hiL (HN.out.tr.setSaid hiL HJ.out true)).drew
                  rw [updT_same, updT_updT] at this
                  exact this)
                clear HN
                go_wp2_with fail
                go_region
                go_wp2_with fail
                have hl2 := HQ.out.2.2.2
                refine (HN4.out.bit 1 (by omega)).mono ?_
                rintro e w4 ⟨rfl, hN5⟩
                have d1 := (hN5.tr.cells hiL HJ.out).2.1
                rw [updT_same] at d1
                have HN5 := hid hN5
                clear hN5 HN4 c0 c1 c2 f1 f2 hfar
                have hz := HZ.out ⟨n1, l1, true⟩ (stepM s2 1) w4 HN5.out (by rw [← HQ.out.1, HO.out]) (by rw [← HQ.out.2.1, HO.out]; rfl)
                have HL := hid hz.1
                have HN6 := hid hz.2
                clear hz HN5 HZ HQ HO
                go_wp2_with fail
                go_roundw
                case rel => exact ⟨r + 1, by omega, by rw [← HL.out], by go_num, HN6⟩
                case measure => simp [intOf]; omega
              · have hnl : l1 < n1 := by omega
                have HO := hid (encN_zero b n1 l1 hlb hnl)
                have hd : decide (n1 ≤ l1) = false := by simp; omega
                have HN4 : Hid (EncM w base p G c L W H B Q A V k (updT N1 i j ⟨n1, l1, false⟩) s2 (wr.setCell ⟨B i, 3 * j + 2, none⟩ (.bool false)).drew) := hid (by
                  have := (HN.out.put hiL (HN.out.tr.setSaid hiL HJ.out false)).drew
                  rw [updT_same, updT_updT] at this
                  exact this)
                clear HN
                go_wp2_with fail
                go_region
                go_wp2_with fail
                have hl2 := HQ.out.2.2.2
                refine (HN4.out.bit 0 (by omega)).mono ?_
                rintro e w4 ⟨rfl, hN5⟩
                have d1 := (hN5.tr.cells hiL HJ.out).2.1
                have g1 := hN5.tr.frozen hiL (3 * j + 1)
                rw [updT_same] at d1
                have HN6 : Hid (EncM w base p G c L W H B Q A V k (updT N1 i j ⟨n1, l1 + 1, false⟩) (stepM s2 0) (w4.setCell ⟨B i, 3 * j + 1, none⟩ (.int .i64 (l1 + 1)))) := hid (by
                  have := (hN5.put hiL (hN5.tr.setLow hiL HJ.out (l1 + 1)))
                  rw [updT_same, updT_updT] at this
                  exact this)
                have HFAR := hid (show farN b (B i) (3 * j + 1) (w4.setCell ⟨B i, 3 * j + 1, none⟩ (.int .i64 (l1 + 1))) < farN b (B i) (3 * j + 1) wr by
                  have d2 := (HN6.out.tr.cells hiL HJ.out).2.1
                  rw [updT_same] at d2
                  rw [hfar]
                  unfold farN
                  rw [d2]
                  show (b - (l1 + 1)).toNat < (b - l1).toNat
                  omega)
                have hQ := HQ.out
                rw [HO.out] at hQ
                have hsl := stepL_length s2.1 s2.2 0
                have HQ2 : Hid ((encN b ⟨n1, l1 + 1, false⟩).1 = (encN b x0).1 ∧ runM (stepM s2 0) (encN b ⟨n1, l1 + 1, false⟩).2 = runM s1 (encN b x0).2 ∧ 0 ≤ l1 + 1 ∧ (stepM s2 0).1.length + (encN b ⟨n1, l1 + 1, false⟩).2.length ≤ s1.1.length + (encN b x0).2.length) := hid ⟨hQ.1, hQ.2.1, by omega, by
                  have h4 := hQ.2.2.2
                  simp only [List.length_cons] at h4
                  show (stepL s2.1 s2.2 0).length + _ ≤ _
                  omega⟩
                clear hN5 HN4 c0 c1 c2 f1 f2 hfar hQ HQ HO HZ hsl
                go_wp2_with fail
                exact ⟨⟨⟨n1, l1 + 1, false⟩, stepM s2 0, HN6, HQ2⟩, HFAR.out⟩
            · have HO := hid (encN_done b ⟨n1, l1, true⟩ (.inl rfl))
              have hz := HZ.out ⟨n1, l1, true⟩ s2 wr HN.out (by rw [← HQ.out.1, HO.out]) (by rw [← HQ.out.2.1, HO.out]; rfl)
              have HL := hid hz.1
              have HN6 := hid hz.2
              clear hz HN HZ HQ HO
              go_wp2_with fail
              go_roundw
              case rel => exact ⟨r + 1, by omega, by rw [← HL.out], by go_num, HN6⟩
              case measure => simp [intOf]; omega
          · have hlb : b ≤ l1 := by omega
            have HO := hid (encN_done b ⟨n1, l1, sd⟩ (.inr hlb))
            have hz := HZ.out ⟨n1, l1, sd⟩ s2 wr HN.out (by rw [← HQ.out.1, HO.out]) (by rw [← HQ.out.2.1, HO.out]; rfl)
            have HL := hid hz.1
            have HN6 := hid hz.2
            clear hz HN HZ HQ HO
            go_wp2_with fail
            go_roundw
            case rel => exact ⟨r + 1, by omega, by rw [← HL.out], by go_num, HN6⟩
            case measure => simp [intOf]; omega
      case inr =>
        have hlt := h
        clear h
        have hm : max (N1 i j).low low = (N1 i j).low := by omega
        rw [hm] at HZ hsl
        have hM0 : 0 ≤ (N1 i j).low := by omega
        have HM1 : Hid (EncM w base p G c L W H B Q A V k (updT N1 i j ⟨(N1 i j).n, (N1 i j).low, (N1 i j).said⟩) s1 (wr.setCell ⟨B i, 3 * j + 1, none⟩ (.int .i64 ((N1 i j).low)))) := hid (HM.out.put hiL (HM.out.tr.setLow hiL HJ.out ((N1 i j).low)))
        clear HM c0 c1 c2 f1 fz t0 hm hlt
        generalize wr.setCell ⟨B i, 3 * j + 1, none⟩ (.int .i64 ((N1 i j).low)) = w3 at *
        generalize hx0 : (⟨(N1 i j).n, (N1 i j).low, (N1 i j).said⟩ : Nd) = x0 at *
        have hx0l : 0 ≤ x0.low := by rw [← hx0]; exact hM0
        clear hx0 hM0
        go_loopw [] (fun wr => ∃ (x : Nd) (s2 : List Int × Int), Hid (EncM w base p G c L W H B Q A V k (updT N1 i j x) s2 wr) ∧ Hid ((encN b x).1 = (encN b x0).1 ∧ runM s2 (encN b x).2 = runM s1 (encN b x0).2 ∧ 0 ≤ x.low ∧ s2.1.length + (encN b x).2.length ≤ s1.1.length + (encN b x0).2.length)) (fun wr => farN b (B i) (3 * j + 1) wr)
        case atStart => exact ⟨x0, s1, HM1, hid ⟨rfl, rfl, hx0l, Nat.le_refl _⟩⟩
        case round =>
          obtain ⟨x, s2, HN, HQ⟩ := hrel
          clear HM1
          have HC := hid (HN.out.tr.cells hiL HJ.out)
          rw [updT_same] at HC
          have fz := HN.out.tr.frozen hiL
          have f1 := fz (3 * j + 1)
          have f2 := fz (3 * j + 2)
          obtain ⟨n1, l1, sd⟩ := x
          obtain ⟨c0, c1, c2⟩ := HC.out
          dsimp only at c0 c1 c2
          clear fz HC
          have hl0 : 0 ≤ l1 := HQ.out.2.2.1
          have hfar : farN b (B i) (3 * j + 1) wr = (b - l1).toNat := by unfold farN; rw [c1]; rfl
          by_cases hlb : l1 < b
          · cases sd
            · by_cases hnl : n1 ≤ l1
              · have HO := hid (encN_one b n1 l1 hlb hnl)
                have HN4 : Hid (EncM w base p G c L W H B Q A V k (updT N1 i j ⟨n1, l1, true⟩) s2 (wr.setCell ⟨B i, 3 * j + 2, none⟩ (.bool true)).drew) := hid (by
                  have := (HN.out.put hiL (HN.out.tr.setSaid hiL HJ.out true)).drew
                  rw [updT_same, updT_updT] at this
                  exact this)
                clear HN
                go_wp2_with fail
                go_region
                go_wp2_with fail
                have hl2 := HQ.out.2.2.2
                refine (HN4.out.bit 1 (by omega)).mono ?_
                rintro e w4 ⟨rfl, hN5⟩
                have d1 := (hN5.tr.cells hiL HJ.out).2.1
                rw [updT_same] at d1
                have HN5 := hid hN5
                clear hN5 HN4 c0 c1 c2 f1 f2 hfar
                have hz := HZ.out ⟨n1, l1, true⟩ (stepM s2 1) w4 HN5.out (by rw [← HQ.out.1, HO.out]) (by rw [← HQ.out.2.1, HO.out]; rfl)
                have HL := hid hz.1
                have HN6 := hid hz.2
                clear hz HN5 HZ HQ HO
                go_wp2_with fail
                go_roundw
                case rel => exact ⟨r + 1, by omega, by rw [← HL.out], by go_num, HN6⟩
                case measure => simp [intOf]; omega
              · have hnl : l1 < n1 := by omega
                have HO := hid (encN_zero b n1 l1 hlb hnl)
                have hd : decide (n1 ≤ l1) = false := by simp; omega
                have HN4 : Hid (EncM w base p G c L W H B Q A V k (updT N1 i j ⟨n1, l1, false⟩) s2 (wr.setCell ⟨B i, 3 * j + 2, none⟩ (.bool false)).drew) := hid (by
                  have := (HN.out.put hiL (HN.out.tr.setSaid hiL HJ.out false)).drew
                  rw [updT_same, updT_updT] at this
                  exact this)
                clear HN
                go_wp2_with fail
                go_region
                go_wp2_with fail
                have hl2 := HQ.out.2.2.2
                refine (HN4.out.bit 0 (by omega)).mono ?_
                rintro e w4 ⟨rfl, hN5⟩
                have d1 := (hN5.tr.cells hiL HJ.out).2.1
                have g1 := hN5.tr.frozen hiL (3 * j + 1)
                rw [updT_same] at d1
                have HN6 : Hid (EncM w base p G c L W H B Q A V k (updT N1 i j ⟨n1, l1 + 1, false⟩) (stepM s2 0) (w4.setCell ⟨B i, 3 * j + 1, none⟩ (.int .i64 (l1 + 1)))) := hid (by
                  have := (hN5.put hiL (hN5.tr.setLow hiL HJ.out (l1 + 1)))
                  rw [updT_same, updT_updT] at this
                  exact this)
                have HFAR := hid (show farN b (B i) (3 * j + 1) (w4.setCell ⟨B i, 3 * j + 1, none⟩ (.int .i64 (l1 + 1))) < farN b (B i) (3 * j + 1) wr by
                  have d2 := (HN6.out.tr.cells hiL HJ.out).2.1
                  rw [updT_same] at d2
                  rw [hfar]
                  unfold farN
                  rw [d2]
                  show (b - (l1 + 1)).toNat < (b - l1).toNat
                  omega)
                have hQ := HQ.out
                rw [HO.out] at hQ
                have hsl := stepL_length s2.1 s2.2 0
                have HQ2 : Hid ((encN b ⟨n1, l1 + 1, false⟩).1 = (encN b x0).1 ∧ runM (stepM s2 0) (encN b ⟨n1, l1 + 1, false⟩).2 = runM s1 (encN b x0).2 ∧ 0 ≤ l1 + 1 ∧ (stepM s2 0).1.length + (encN b ⟨n1, l1 + 1, false⟩).2.length ≤ s1.1.length + (encN b x0).2.length) := hid ⟨hQ.1, hQ.2.1, by omega, by
                  have h4 := hQ.2.2.2
                  simp only [List.length_cons] at h4
                  show (stepL s2.1 s2.2 0).length + _ ≤ _
                  omega⟩
                clear hN5 HN4 c0 c1 c2 f1 f2 hfar hQ HQ HO HZ hsl
                go_wp2_with fail
                exact ⟨⟨⟨n1, l1 + 1, false⟩, stepM s2 0, HN6, HQ2⟩, HFAR.out⟩
            · have HO := hid (encN_done b ⟨n1, l1, true⟩ (.inl rfl))
              have hz := HZ.out ⟨n1, l1, true⟩ s2 wr HN.out (by rw [← HQ.out.1, HO.out]) (by rw [← HQ.out.2.1, HO.out]; rfl)
              have HL := hid hz.1
              have HN6 := hid hz.2
              clear hz HN HZ HQ HO
              go_wp2_with fail
              go_roundw
              case rel => exact ⟨r + 1, by omega, by rw [← HL.out], by go_num, HN6⟩
              case measure => simp [intOf]; omega
          · have hlb : b ≤ l1 := by omega
            have HO := hid (encN_done b ⟨n1, l1, sd⟩ (.inr hlb))
            have hz := HZ.out ⟨n1, l1, sd⟩ s2 wr HN.out (by rw [← HQ.out.1, HO.out]) (by rw [← HQ.out.2.1, HO.out]; rfl)
            have HL := hid hz.1
            have HN6 := hid hz.2
            clear hz HN HZ HQ HO
            go_wp2_with fail
            go_roundw
            case rel => exact ⟨r + 1, by omega, by rw [← HL.out], by go_num, HN6⟩
            case measure => simp [intOf]; omega
    · obtain rfl : r = L := by omega
      go_wp2_with fail
      go_end0
      obtain ⟨A', n', c'', hw', hg'⟩ := HM.out.wr
      exact ⟨rfl, HM.out.tr, ⟨A', n', c'', hw', hg'⟩, HM.out.keep⟩
end Go.Proofs.Ytbkffpedigeflaa
