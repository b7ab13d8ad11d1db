/-
  BitsCut: the walk. Conditions: none.
-/
import Derived.Test.YtnhciiljdmgcjaaLawRead
import Derived.Test.YtnhciiljdmgcjaaCutM
namespace Go.Proofs.Ytnhciiljdmgcjaa
open Go.RowKit

/-- All bits of the first i numbers, eight a number. -/
def cutB (ns : List Int) (i : Nat) : List Int := allB (fun i => ns.getD i 0) (fun _ => 8) i
theorem cutB_length (ns : List Int) : ∀ i, (cutB ns i).length = 8 * i
  | 0 => rfl
  | i + 1 => by show (cutB ns i ++ bitsOf _ 8).length = _; rw [List.length_append, bitsOf_length, cutB_length ns i]; omega
def cutS (ns : List Int) (i : Nat) : List Int × Int := runM ([], 0) (cutB ns i)
theorem cutS_succ (ns : List Int) (i : Nat) : cutS ns (i + 1) = runM (cutS ns i) (bitsOf (ns.getD i 0) 8) := allB_next _ _ i
theorem cutS_inv (ns : List Int) (i : Nat) : BInv (cutS ns i).1 (cutS ns i).2 := runM_inv _ ([], 0) BInv.nil
theorem cutS_le (ns : List Int) (i : Nat) : (cutS ns i).1.length ≤ 8 * i := by
  have := runM_length (cutB ns i) ([], 0)
  rw [cutB_length] at this
  unfold cutS
  simpa using this
theorem cutS_front (ns : List Int) (i : Nat) : (frontM (cutB ns i) (cutB ns i).length).1 = (cutS ns i).1 := by rw [frontM_all]; rfl
/-- What the statement's second loop has made of the bytes. -/
def Mark (b xs : List Int) (st : Bool) : Prop := (st = false ∧ xs = b) ∨ (st = true ∧ ∃ i, Turned b xs i)
theorem Mark.len {b xs : List Int} {st : Bool} (h : Mark b xs st) : xs.length = b.length := by
  rcases h with ⟨_, h⟩ | ⟨_, i, h⟩
  · rw [h]
  · rw [h.eq, List.length_set]
theorem Mark.bytes {b xs : List Int} {st : Bool} (h : Mark b xs st) (hb : Bytes b) (hs : Stuffed b) : Bytes xs := by
  rcases h with ⟨_, h⟩ | ⟨_, i, h⟩
  · rw [h]; exact hb
  · rw [h.eq]
    intro z hz
    have h2 := hs.1 (i - 1) (by have := h.i1; have := h.il; omega) h.full
    have e : i - 1 + 1 = i := by have := h.i1; omega
    rw [e] at h2
    have h3 := getD_nonneg hb i
    rcases List.mem_or_eq_of_mem_set hz with hz | hz
    · exact hb z hz
    · omega
theorem Mark.turn {b : List Int} (hs : Stuffed b) (hb : Bytes b) (j : Nat) (hj : 1 ≤ j) (hl : j < b.length) (h1 : b.getD (j - 1) 0 = 255) (h2 : b.getD j 0 ≠ 127) : Mark b (b.set j (bits .or .u8 (b.getD j 0) 128)) true := by
  have h3 := hs.1 (j - 1) (by omega) h1
  have e : j - 1 + 1 = j := by omega
  rw [e] at h3
  rw [or_128 _ (getD_nonneg hb j).1 h3]
  exact .inr ⟨rfl, j, hj, hl, h1, h2, rfl⟩
theorem end_r (ns : List Int) (N m : Nat) (hm : m < (outB (cutS ns N).1).length) : endM ((outB (cutS ns N).1).take m) (rdIt ((outB (cutS ns N).1).take m) (8 * N) s0).1 (rdIt ((outB (cutS ns N).1).take m) (8 * N) s0).2.2 = (0, 8) := by
  have := cut_end (cutB ns N) m
  rw [cutS_front, cutB_length] at this
  exact this hm
theorem end_s0 (ns : List Int) (N : Nat) : endM (outB (cutS ns N).1) (rdIt (outB (cutS ns N).1) (8 * N) s0).1 (rdIt (outB (cutS ns N).1) (8 * N) s0).2.2 = (((outB (cutS ns N).1).length : Int), (0 : Int)) := by
  have := plain_end (cutB ns N)
  rw [cutS_front, cutB_length] at this
  exact this
theorem end_s1 (ns : List Int) (N : Nat) (xs : List Int) (i : Nat) (h : Turned (outB (cutS ns N).1) xs i) : endM xs (rdIt xs (8 * N) s0).1 (rdIt xs (8 * N) s0).2.2 = (0, 10) := by
  have := turn_end (cutB ns N) (x := xs) (i := i) (by rw [cutS_front]; exact h)
  rw [cutB_length] at this
  exact this
theorem end_s (ns : List Int) (N : Nat) (xs : List Int) (st : Bool) (h : Mark (outB (cutS ns N).1) xs st) : (endM xs (rdIt xs (8 * N) s0).1 (rdIt xs (8 * N) s0).2.2).2 = (if st then 10 else 0) := by
  rcases h with ⟨h1, h⟩ | ⟨h1, i, h⟩
  · rw [h1, h, end_s0]; rfl
  · rw [h1, end_s1 ns N xs i h]; rfl

/-- The two readers of the statement. -/
structure CutTwo (w0 : World) (R1 R2 : Nat) (A1 A2 : Option Addr) (n1 c1 n2 c2 : Nat) (l1 l2 : List Int) (mid : Nat) (i : Nat) (w : World) : Prop where
  r1 : RrS w w0.heap.size R1 A1 n1 c1 l1 (rdIt l1 (8 * i) s0)
  r2 : RrS w mid R2 A2 n2 c2 l2 (rdIt l2 (8 * i) s0)
  hR1 : w0.heap.size ≤ R1
  low1 : R1 < mid
  lowA : ∀ ad, A1 = some ad → ad.block < mid
  hR2 : mid ≤ R2
  keep : Keep (fun _ => False) w0 w
section
variable {w0 w w1 : World} {R1 R2 : Nat} {A1 A2 : Option Addr} {n1 c1 n2 c2 : Nat} {l1 l2 : List Int} {mid i : Nat}
theorem CutTwo.next (h : CutTwo w0 R1 R2 A1 A2 n1 c1 n2 c2 l1 l2 mid i w) {w2 : World} (h1 : RrS w1 w0.heap.size R1 A1 n1 c1 l1 (rdIt l1 (8 * (i + 1)) s0)) (k1 : Keep (fun k => k = R1) w w1)
    (h2 : RrS w2 mid R2 A2 n2 c2 l2 (rdIt l2 (8 * (i + 1)) s0)) (k2 : Keep (fun k => k = R2) w1 w2) : CutTwo w0 R1 R2 A1 A2 n1 c1 n2 c2 l1 l2 mid (i + 1) w2 :=
  ⟨Rr.keep h1 k2 (fun e => by have := h.low1; have := h.hR2; omega) (fun ad e hx => by have := h.lowA ad e; have := h.hR2; omega), h2, h.hR1, h.low1, h.lowA, h.hR2,
   (h.keep.new k1 (fun k e => by rw [e]; exact h.hR1)).new k2 (fun k e => by have := h.hR1; have := h.low1; have := h.hR2; omega)⟩
theorem CutTwo.mid2 (h : CutTwo w0 R1 R2 A1 A2 n1 c1 n2 c2 l1 l2 mid i w) (k1 : Keep (fun k => k = R1) w w1) : RrS w1 mid R2 A2 n2 c2 l2 (rdIt l2 (8 * i) s0) :=
  Rr.keep h.r2 k1 (fun e => by have := h.low1; have := h.hR2; omega) (fun ad e hx => by have := (own_foot_lt h.r2.own ad e).1; have := h.low1; omega)
end

set_option maxRecDepth 100000 in
set_option linter.unusedSimpArgs false in
set_option maxHeartbeats 4000000 in
theorem bitsCut_walk (A : Option Addr) (n c : Nat) (ns : List Int) (a : Int) (w : World) (h : Arg .i64 8 w A n c ns) (_ha : (Lit.int .i64 a).wf = true) :
    Calls Try.prog 8 #[.slice A n c, .int .i64 a] w fun e w' => e = .returned (.bool true) ∧ Below w.heap.size w w' := by
  obtain ⟨i0, hi0, hz0, hz1, hz2⟩ := info_parts info_u8
  have hcn : n ≤ 9223372036854775807 := by have := h.cap; have := h.reach; omega
  have H := hid h
  clear h
  obtain ⟨N, hN⟩ : ∃ N : Nat, N = min n 20 := ⟨_, rfl⟩
  have hN1 : N ≤ n := by omega
  have hN2 : N ≤ 20 := by omega
  have HN0 := hid (fun (i : Nat) (h1 : i < n) (h2 : i < 20) => show i < N by omega)
  have HN9 := hid (show n ≤ N ∨ 20 ≤ N by omega)
  clear hN
  go_enter Try.func8, Try.ntmps8
  go_wp2_with fail
  refine (known_any w).mono ?_
  rintro e w1 ⟨rfl, hk1⟩
  go_wp2_with fail
  refine (neww_any w1).mono ?_
  rintro e w2 ⟨W, rfl, hW, hw2, hk2⟩
  have hT : OneS w W (cutS ns 0).1 (cutS ns 0).2 w2 := by
    have hs1 := hk1.size
    exact ⟨none, 0, 0, ⟨hw2.blk, own_mono hw2.own hs1⟩, by omega, hk1.trans hk2 (fun _ _ h => h), BInv.nil⟩
  have HT0 := hid hT
  clear hT hw2 hk1 hk2 hW
  go_wp2_with fail
  go_loopw [6] (fun v wr => ∃ i : Nat, i ≤ N ∧ v = .int .i64 i ∧ Hid (OneS w W (cutS ns i).1 (cutS ns i).2 wr)) (fun v _ => N - (intOf v).toNat)
  case atStart => exact ⟨0, by omega, rfl, HT0⟩
  case round =>
    obtain ⟨i, hi, rfl, HTS⟩ := hrel
    clear HT0
    obtain ⟨A1, n1, c1, ht⟩ := HTS.out
    have HT := hid ht
    have hlr := cutS_le ns i
    by_cases hlt : i < N
    · have hin : i < n := by omega
      have hi20 : i < 20 := by omega
      obtain ⟨b1, o1, rfl, hc1⟩ := (H.out.rd.keep ht.keep (fun _ _ h => h)).int_ix hin
      clear ht HTS
      have HS := hid (cutS_succ ns i)
      have HNB := hid (show numB (ns.getD i 0) 8 = bitsOf (ns.getD i 0) 8 by unfold numB; rw [if_pos (by omega)]; rfl)
      generalize ns.getD i 0 = x at *
      generalize hs2 : cutS ns (i + 1) = S2 at *
      have HS2 := hid hs2
      clear hs2
      generalize cutS ns i = S at *
      go_wp2_with fail
      refine (bits_any wr w.heap.size W A1 n1 c1 S.1 S.2 x 8 HT.out.wr HT.out.inv HT.out.keep.size (by have := HT.out.wr.len; omega)).mono ?_
      rintro e w4 ⟨A3, n3, c3, rfl, h4, hg4, hk4⟩
      rw [HNB.out] at h4
      have hrun : runM (S.1, S.2) (bitsOf x 8) = S2 := HS.out.symm
      rw [hrun] at h4
      have HI := hid (show BInv S2.1 S2.2 by rw [← HS2.out]; exact cutS_inv ns (i + 1))
      have HO := hid (HT.out.next h4 hk4 HI.out)
      clear h4 hk4 hg4 hrun
      go_wp2_with fail
      go_roundw
      case rel => exact ⟨i + 1, by omega, by go_num, hid ⟨_, _, _, by rw [HS2.out]; exact HO.out⟩⟩
      case measure => simp [intOf]; omega
    · obtain rfl : N = i := by omega
      clear ht HTS
      have hout : ¬ (N < n ∧ N < 20) := by rcases HN9.out with h | h <;> omega
      have hlr2 : (cutS ns N).1.length ≤ 160 := by omega
      by_cases hNn : N < n
      · have hN20 : ¬ N < 20 := fun h => hout ⟨hNn, h⟩
        go_wp2_with fail
        refine (bytes_any wr w.heap.size W A1 n1 c1 _ _ HT.out.wr (by have := HT.out.wr.len; omega)).mono ?_
        rintro e w3 ⟨A3, n3, c3, rfl, hown3, hk3⟩
        have hk03 := HT.out.keep.trans hk3 (fun _ _ h => h)
        have hn3 : (outB (cutS ns N).1).length = n3 := by have := hown3.1; simpa using this
        have hl3 : (outB (cutS ns N).1).length ≤ 200 := by have := outB_le (cutS ns N).1; omega
        have hs03 := hk03.size
        have HST := hid (cutS_inv ns N).out
        have HB := hid (outB_bytes (cutS_inv ns N).bytes)
        have HER := hid (fun m hm => end_r ns N m hm)
        have HES := hid (fun xs st hx => end_s ns N xs st hx)
        have HOW := hid hown3
        have HK := hid hk03
        clear hown3 hk3 hk03 HT
        generalize outB (cutS ns N).1 = b at *
        have HN := hid hn3
        rw [hn3] at hl3
        clear hn3
        by_cases h0 : n3 = 0
        · subst h0
          go_wp2_with fail
          go_ret
          exact ⟨rfl, HK.out.below (Nat.le_refl _) (fun _ h => h.elim)⟩
        · have hpos : 0 < n3 := by omega
          have h0' : ((n3 : Int) == 0) = false := by simp; omega
          clear h0
          obtain ⟨g3, rfl, hnc, hgb3, hgl3, _⟩ := own_at HOW.out hpos
          clear hgl3
          go_wp2_with fail
          refine (within_any a n3 w3 (by omega) (by omega)).mono ?_
          rintro e w3' ⟨rfl, rfl⟩
          have q1 : 0 ≤ a % (n3 : Int) := Int.emod_nonneg _ (by omega)
          have q2 : a % (n3 : Int) < n3 := Int.emod_lt_of_pos _ (by omega)
          generalize a % (n3 : Int) = mm at *
          obtain ⟨m, rfl⟩ := Int.eq_ofNat_of_zero_le q1
          have hm : m < n3 := by omega
          clear q1 q2
          go_wp2_with fail
          refine (newr_any w3 (some ⟨g3, 0, none⟩) m c3 (b.take m) (by rw [List.map_take]; exact (Rd.of_own HOW.out).take (by omega)) (by omega)).mono ?_
          rintro e w4 ⟨R1, A4, c4, rfl, hR1, hr4, hk4⟩
          have hs34 := hk4.size
          have HK4 := hid (HK.out.trans hk4 (fun _ _ h => h))
          have hlow1 : R1 < w4.heap.size := hr4.blk.lt
          have hlowA := fun ad (e : A4 = some ad) => (own_foot_lt hr4.own ad e).2
          have HR4 := hid (show RrS w4 w.heap.size R1 A4 m c4 (b.take m) (rdIt (b.take m) (8 * 0) s0) from ⟨hr4.blk, own_mono hr4.own hs03⟩)
          have HLA := hid hlowA
          have hrd4 := Rd.of_own (own_keep HOW.out hk4 (fun _ _ h => h))
          have hR1w : w.heap.size ≤ R1 := by omega
          clear hr4 hk4 hlowA hR1
          have hx0 := HN.out
          have HX0 := hid hx0
          clear hx0
          go_wp2_with (
            at_builtin
            refine wpList_append_src _ rfl (.tmp 49) (.tmp 50) _ rfl w4.heap.size 5 i0 _ 1 Try.underlying31 hi0 hz0 hz1 hz2 rfl
              (World.ownsRow_made w4 #[] 0 (Nat.le_refl _) (by simp [maxLen]) rfl) rfl (hrd4.alloc _) rfl (oneCell_ints _ _) (by simp only [maxLen]; omega) (by omega) (by simp) ?_
            intro v5 w5 hown5 hg5 hat5 _hold5
            simp only [Nat.zero_add, List.nil_append] at hown5
            obtain ⟨A5, c5, rfl⟩ := own_form hown5)
          have hk5 : Keep (fun k => w4.heap.size ≤ k) w4 w5 := ((Keep.refl _ w4).alloc _).grown hg5 (fun k hk => by simp [Value.ownBlock] at hk; right; omega)
          have HO5 := hid hown5
          have HK5 := hid hk5
          clear hown5 hg5 hat5 hk5 hrd4
          go_loopw [10, 11] (fun st v wr => ∃ (s : Bool) (j : Nat) (xs : List Int), 1 ≤ j ∧ j ≤ n3 ∧ st = .bool s ∧ v = .int .i64 j ∧ Hid (Mark b xs s) ∧ Hid (wr.ownsRow w4.heap.size 5 1 (.slice A5 n3 c5) n3 (xs.map (Value.int .u8))) ∧ Hid (Keep (fun k => w4.heap.size ≤ k) w4 wr)) (fun _ v _ => n3 - (intOf v).toNat)
          case atStart => exact ⟨false, 1, b, by omega, by omega, rfl, rfl, hid (.inl ⟨rfl, rfl⟩), HO5, HK5⟩
          case round =>
            clear HO5 HK5
            obtain ⟨s, j, xs, hj1, hj2, rfl, rfl, HM, HX, HKX⟩ := hrel
            by_cases hjn : j < n3
            · obtain ⟨q, rfl⟩ : ∃ q, j = q + 1 := ⟨j - 1, by omega⟩
              have hxl : xs.length = n3 := by rw [HM.out.len, HN.out]
              obtain ⟨g, rfl, hgc, hgb, hgl, hgf⟩ := own_at HX.out hpos
              have hg0 : wr.cell? ⟨g, q, none⟩ = some (.int .u8 (xs.getD q 0)) := hgl q _ (map_at _ _ q (by omega))
              have hg1 : wr.cell? ⟨g, q + 1, none⟩ = some (.int .u8 (xs.getD (q + 1) 0)) := hgl (q + 1) _ (map_at _ _ (q + 1) (by omega))
              have fg := hgf (q + 1)
              have wq : IntKind.i64.wrap (((q + 1 : Nat) : Int) - 1) = (q : Int) := by rw [IntWalk.i64_in _ (by omega)]; omega
              have HSET := hid (fun (hs : s = false) (h1 : xs.getD q 0 = 255) (h2 : ¬ xs.getD (q + 1) 0 = 127) => show Mark b (xs.set (q + 1) (bits .or .u8 (xs.getD (q + 1) 0) 128)) true by
                rcases HM.out with ⟨_, he⟩ | ⟨ht, _⟩
                · rw [he] at h1 h2 ⊢
                  exact Mark.turn HST.out HB.out (q + 1) (by omega) (by rw [HN.out]; omega) h1 h2
                · rw [hs] at ht; cases ht)
              have HSTO := hid (fun (v : Int) => World.ownsRow.stored HX.out (q + 1) (.int .u8 v))
              have HXL := hid hxl
              clear hgl hgf hxl
              generalize hX : xs.getD q 0 = X at *
              generalize hY : xs.getD (q + 1) 0 = Y at *
              clear hX hY
              by_cases hx : X = 255
              · subst hx
                by_cases hy : Y = 127
                · subst hy
                  go_wp2_with fail
                  go_roundw
                  case rel => exact ⟨s, q + 2, xs, by omega, by omega, rfl, by go_num, HM, HX, HKX⟩
                  case measure => simp [intOf]; omega
                · have hy' : (Y != 127) = true := by simpa using hy
                  have HY := hid hy
                  clear hy
                  cases s with
                  | true =>
                    go_wp2_with fail
                    go_roundw
                    case rel => exact ⟨true, q + 2, xs, by omega, by omega, rfl, by go_num, HM, HX, HKX⟩
                    case measure => simp [intOf]; omega
                  | false =>
                    go_wp2_with fail
                    go_roundw
                    case rel =>
                      refine ⟨true, q + 2, xs.set (q + 1) (bits .or .u8 Y 128), by omega, by omega, rfl, by go_num, hid (HSET.out rfl rfl HY.out), hid ?_, hid (HKX.out.setCell (p := ⟨g, q + 1, none⟩) (.inl hgb) _)⟩
                      have := (HSTO.out (bits .or .u8 Y 128)).1
                      rw [← List.map_set] at this
                      exact this
                    case measure => simp [intOf]; omega
              · have hx' : (X == 255) = false := by simpa using hx
                clear hx
                go_wp2_with fail
                go_roundw
                case rel => exact ⟨s, q + 2, xs, by omega, by omega, rfl, by go_num, HM, HX, HKX⟩
                case measure => simp [intOf]; omega
            · obtain rfl : n3 = j := by omega
              have hxl : xs.length = n3 := by rw [HM.out.len, HN.out]
              have HES2 := hid (HES.out xs s HM.out)
              have HER2 := hid (HER.out m (by rw [HN.out]; exact hm))
              have HBX := hid (HM.out.bytes HB.out HST.out)
              have HBM := hid (show Bytes (b.take m) from fun z hz => HB.out z (List.mem_of_mem_take hz))
              clear hxl
              go_wp2_with fail
              refine (newr_any wr A5 n3 c5 xs (Rd.of_own HX.out) (by omega)).mono ?_
              rintro e w6 ⟨R2, A6, c6, rfl, hR2, hr6, hk6⟩
              have hmid := HKX.out.size
              have hct : CutTwo w R1 R2 A4 A6 m c4 n3 c6 (b.take m) xs wr.heap.size 0 w6 := by
                refine ⟨?_, hr6, hR1w, by omega, fun ad e => by have := HLA.out ad e; omega, hR2, ?_⟩
                · exact Rr.aside (Rr.keep HR4.out HKX.out (fun h => by omega) (fun ad e h => by have := HLA.out ad e; omega)) hk6
                · exact (HK4.out.new HKX.out (fun k hk => by omega)).trans hk6 (fun _ _ h => h)
              have HCT0 := hid hct
              generalize wr.heap.size = MID at *
              clear hct hr6 hk6
              go_wp2_with fail
              go_loopw [13] (fun v wr => ∃ i : Nat, i ≤ N ∧ v = .int .i64 i ∧ Hid (CutTwo w R1 R2 A4 A6 m c4 n3 c6 (b.take m) xs MID i wr)) (fun v _ => N - (intOf v).toNat)
              case atStart => exact ⟨0, by omega, rfl, HCT0⟩
              case round =>
                obtain ⟨i, hi, rfl, HCT⟩ := hrel
                clear HCT0
                have hv1 := rdIt_inv (b.take m) (8 * i)
                have hv2 := rdIt_inv xs (8 * i)
                by_cases hlt : i < N
                · have hin : i < n := by omega
                  have hi20 : i < 20 := by omega
                  go_wp2_with fail
                  refine (rdbits_any wr w.heap.size R1 A4 m c4 (b.take m) _ 8 HCT.out.r1 HBM.out hv1.1 (by omega)).mono ?_
                  rintro e w7 ⟨rfl, h7, hk7⟩
                  rw [rdNum_8] at h7
                  generalize (rdNum (b.take m) 8 (rdIt (b.take m) (8 * i) s0)).1 = v1 at *
                  have H7 := hid (And.intro h7 hk7)
                  clear h7 hk7
                  go_wp2_with fail
                  refine (rdbits_any w7 MID R2 A6 n3 c6 xs _ 8 (HCT.out.mid2 H7.out.2) HBX.out hv2.1 (by omega)).mono ?_
                  rintro e w8 ⟨rfl, h8, hk8⟩
                  rw [rdNum_8] at h8
                  generalize (rdNum xs 8 (rdIt xs (8 * i) s0)).1 = v2 at *
                  have H8 := hid (HCT.out.next H7.out.1 H7.out.2 h8 hk8)
                  clear h8 hk8
                  go_wp2_with fail
                  go_roundw
                  case rel => exact ⟨i + 1, by omega, by go_num, H8⟩
                  case measure => simp [intOf]; omega
                · obtain rfl : N = i := by omega
                  skip
                  go_wp2_with fail
                  refine (end_any wr w.heap.size R1 A4 m c4 (b.take m) _ _ _ HCT.out.r1 (by omega)).mono ?_
                  rintro e w8 ⟨rfl, _, hk8⟩
                  rw [HER2.out]
                  have HR2 := hid (Rr.aside HCT.out.r2 hk8)
                  have HK8 := hid (HCT.out.keep.trans hk8 (fun _ _ h => h))
                  clear hk8
                  go_wp2_with fail
                  refine (end_any w8 MID R2 A6 n3 c6 xs _ _ _ HR2.out (by omega)).mono ?_
                  rintro e w9 ⟨rfl, _, hk9⟩
                  rw [HES2.out]
                  have HK9 := hid (HK8.out.trans hk9 (fun _ _ h => h))
                  generalize (endM xs (rdIt xs (8 * N) s0).1 (rdIt xs (8 * N) s0).2.2).1 = e1 at *
                  clear hk9
                  cases s with
                  | true =>
                    go_wp2_with fail
                    go_ret
                    exact ⟨rfl, HK9.out.below (Nat.le_refl _) (fun _ h => h.elim)⟩
                  | false =>
                    go_wp2_with fail
                    go_ret
                    exact ⟨rfl, HK9.out.below (Nat.le_refl _) (fun _ h => h.elim)⟩
      · clear hout
        go_wp2_with fail
        refine (bytes_any wr w.heap.size W A1 n1 c1 _ _ HT.out.wr (by have := HT.out.wr.len; omega)).mono ?_
        rintro e w3 ⟨A3, n3, c3, rfl, hown3, hk3⟩
        have hk03 := HT.out.keep.trans hk3 (fun _ _ h => h)
        have hn3 : (outB (cutS ns N).1).length = n3 := by have := hown3.1; simpa using this
        have hl3 : (outB (cutS ns N).1).length ≤ 200 := by have := outB_le (cutS ns N).1; omega
        have hs03 := hk03.size
        have HST := hid (cutS_inv ns N).out
        have HB := hid (outB_bytes (cutS_inv ns N).bytes)
        have HER := hid (fun m hm => end_r ns N m hm)
        have HES := hid (fun xs st hx => end_s ns N xs st hx)
        have HOW := hid hown3
        have HK := hid hk03
        clear hown3 hk3 hk03 HT
        generalize outB (cutS ns N).1 = b at *
        have HN := hid hn3
        rw [hn3] at hl3
        clear hn3
        by_cases h0 : n3 = 0
        · subst h0
          go_wp2_with fail
          go_ret
          exact ⟨rfl, HK.out.below (Nat.le_refl _) (fun _ h => h.elim)⟩
        · have hpos : 0 < n3 := by omega
          have h0' : ((n3 : Int) == 0) = false := by simp; omega
          clear h0
          obtain ⟨g3, rfl, hnc, hgb3, hgl3, _⟩ := own_at HOW.out hpos
          clear hgl3
          go_wp2_with fail
          refine (within_any a n3 w3 (by omega) (by omega)).mono ?_
          rintro e w3' ⟨rfl, rfl⟩
          have q1 : 0 ≤ a % (n3 : Int) := Int.emod_nonneg _ (by omega)
          have q2 : a % (n3 : Int) < n3 := Int.emod_lt_of_pos _ (by omega)
          generalize a % (n3 : Int) = mm at *
          obtain ⟨m, rfl⟩ := Int.eq_ofNat_of_zero_le q1
          have hm : m < n3 := by omega
          clear q1 q2
          go_wp2_with fail
          refine (newr_any w3 (some ⟨g3, 0, none⟩) m c3 (b.take m) (by rw [List.map_take]; exact (Rd.of_own HOW.out).take (by omega)) (by omega)).mono ?_
          rintro e w4 ⟨R1, A4, c4, rfl, hR1, hr4, hk4⟩
          have hs34 := hk4.size
          have HK4 := hid (HK.out.trans hk4 (fun _ _ h => h))
          have hlow1 : R1 < w4.heap.size := hr4.blk.lt
          have hlowA := fun ad (e : A4 = some ad) => (own_foot_lt hr4.own ad e).2
          have HR4 := hid (show RrS w4 w.heap.size R1 A4 m c4 (b.take m) (rdIt (b.take m) (8 * 0) s0) from ⟨hr4.blk, own_mono hr4.own hs03⟩)
          have HLA := hid hlowA
          have hrd4 := Rd.of_own (own_keep HOW.out hk4 (fun _ _ h => h))
          have hR1w : w.heap.size ≤ R1 := by omega
          clear hr4 hk4 hlowA hR1
          have hx0 := HN.out
          have HX0 := hid hx0
          clear hx0
          go_wp2_with (
            at_builtin
            refine wpList_append_src _ rfl (.tmp 49) (.tmp 50) _ rfl w4.heap.size 5 i0 _ 1 Try.underlying31 hi0 hz0 hz1 hz2 rfl
              (World.ownsRow_made w4 #[] 0 (Nat.le_refl _) (by simp [maxLen]) rfl) rfl (hrd4.alloc _) rfl (oneCell_ints _ _) (by simp only [maxLen]; omega) (by omega) (by simp) ?_
            intro v5 w5 hown5 hg5 hat5 _hold5
            simp only [Nat.zero_add, List.nil_append] at hown5
            obtain ⟨A5, c5, rfl⟩ := own_form hown5)
          have hk5 : Keep (fun k => w4.heap.size ≤ k) w4 w5 := ((Keep.refl _ w4).alloc _).grown hg5 (fun k hk => by simp [Value.ownBlock] at hk; right; omega)
          have HO5 := hid hown5
          have HK5 := hid hk5
          clear hown5 hg5 hat5 hk5 hrd4
          go_loopw [10, 11] (fun st v wr => ∃ (s : Bool) (j : Nat) (xs : List Int), 1 ≤ j ∧ j ≤ n3 ∧ st = .bool s ∧ v = .int .i64 j ∧ Hid (Mark b xs s) ∧ Hid (wr.ownsRow w4.heap.size 5 1 (.slice A5 n3 c5) n3 (xs.map (Value.int .u8))) ∧ Hid (Keep (fun k => w4.heap.size ≤ k) w4 wr)) (fun _ v _ => n3 - (intOf v).toNat)
          case atStart => exact ⟨false, 1, b, by omega, by omega, rfl, rfl, hid (.inl ⟨rfl, rfl⟩), HO5, HK5⟩
          case round =>
            clear HO5 HK5
            obtain ⟨s, j, xs, hj1, hj2, rfl, rfl, HM, HX, HKX⟩ := hrel
            by_cases hjn : j < n3
            · obtain ⟨q, rfl⟩ : ∃ q, j = q + 1 := ⟨j - 1, by omega⟩
              have hxl : xs.length = n3 := by rw [HM.out.len, HN.out]
              obtain ⟨g, rfl, hgc, hgb, hgl, hgf⟩ := own_at HX.out hpos
              have hg0 : wr.cell? ⟨g, q, none⟩ = some (.int .u8 (xs.getD q 0)) := hgl q _ (map_at _ _ q (by omega))
              have hg1 : wr.cell? ⟨g, q + 1, none⟩ = some (.int .u8 (xs.getD (q + 1) 0)) := hgl (q + 1) _ (map_at _ _ (q + 1) (by omega))
              have fg := hgf (q + 1)
              have wq : IntKind.i64.wrap (((q + 1 : Nat) : Int) - 1) = (q : Int) := by rw [IntWalk.i64_in _ (by omega)]; omega
              have HSET := hid (fun (hs : s = false) (h1 : xs.getD q 0 = 255) (h2 : ¬ xs.getD (q + 1) 0 = 127) => show Mark b (xs.set (q + 1) (bits .or .u8 (xs.getD (q + 1) 0) 128)) true by
                rcases HM.out with ⟨_, he⟩ | ⟨ht, _⟩
                · rw [he] at h1 h2 ⊢
                  exact Mark.turn HST.out HB.out (q + 1) (by omega) (by rw [HN.out]; omega) h1 h2
                · rw [hs] at ht; cases ht)
              have HSTO := hid (fun (v : Int) => World.ownsRow.stored HX.out (q + 1) (.int .u8 v))
              have HXL := hid hxl
              clear hgl hgf hxl
              generalize hX : xs.getD q 0 = X at *
              generalize hY : xs.getD (q + 1) 0 = Y at *
              clear hX hY
              by_cases hx : X = 255
              · subst hx
                by_cases hy : Y = 127
                · subst hy
                  go_wp2_with fail
                  go_roundw
                  case rel => exact ⟨s, q + 2, xs, by omega, by omega, rfl, by go_num, HM, HX, HKX⟩
                  case measure => simp [intOf]; omega
                · have hy' : (Y != 127) = true := by simpa using hy
                  have HY := hid hy
                  clear hy
                  cases s with
                  | true =>
                    go_wp2_with fail
                    go_roundw
                    case rel => exact ⟨true, q + 2, xs, by omega, by omega, rfl, by go_num, HM, HX, HKX⟩
                    case measure => simp [intOf]; omega
                  | false =>
                    go_wp2_with fail
                    go_roundw
                    case rel =>
                      refine ⟨true, q + 2, xs.set (q + 1) (bits .or .u8 Y 128), by omega, by omega, rfl, by go_num, hid (HSET.out rfl rfl HY.out), hid ?_, hid (HKX.out.setCell (p := ⟨g, q + 1, none⟩) (.inl hgb) _)⟩
                      have := (HSTO.out (bits .or .u8 Y 128)).1
                      rw [← List.map_set] at this
                      exact this
                    case measure => simp [intOf]; omega
              · have hx' : (X == 255) = false := by simpa using hx
                clear hx
                go_wp2_with fail
                go_roundw
                case rel => exact ⟨s, q + 2, xs, by omega, by omega, rfl, by go_num, HM, HX, HKX⟩
                case measure => simp [intOf]; omega
            · obtain rfl : n3 = j := by omega
              have hxl : xs.length = n3 := by rw [HM.out.len, HN.out]
              have HES2 := hid (HES.out xs s HM.out)
              have HER2 := hid (HER.out m (by rw [HN.out]; exact hm))
              have HBX := hid (HM.out.bytes HB.out HST.out)
              have HBM := hid (show Bytes (b.take m) from fun z hz => HB.out z (List.mem_of_mem_take hz))
              clear hxl
              go_wp2_with fail
              refine (newr_any wr A5 n3 c5 xs (Rd.of_own HX.out) (by omega)).mono ?_
              rintro e w6 ⟨R2, A6, c6, rfl, hR2, hr6, hk6⟩
              have hmid := HKX.out.size
              have hct : CutTwo w R1 R2 A4 A6 m c4 n3 c6 (b.take m) xs wr.heap.size 0 w6 := by
                refine ⟨?_, hr6, hR1w, by omega, fun ad e => by have := HLA.out ad e; omega, hR2, ?_⟩
                · exact Rr.aside (Rr.keep HR4.out HKX.out (fun h => by omega) (fun ad e h => by have := HLA.out ad e; omega)) hk6
                · exact (HK4.out.new HKX.out (fun k hk => by omega)).trans hk6 (fun _ _ h => h)
              have HCT0 := hid hct
              generalize wr.heap.size = MID at *
              clear hct hr6 hk6
              go_wp2_with fail
              go_loopw [13] (fun v wr => ∃ i : Nat, i ≤ N ∧ v = .int .i64 i ∧ Hid (CutTwo w R1 R2 A4 A6 m c4 n3 c6 (b.take m) xs MID i wr)) (fun v _ => N - (intOf v).toNat)
              case atStart => exact ⟨0, by omega, rfl, HCT0⟩
              case round =>
                obtain ⟨i, hi, rfl, HCT⟩ := hrel
                clear HCT0
                have hv1 := rdIt_inv (b.take m) (8 * i)
                have hv2 := rdIt_inv xs (8 * i)
                by_cases hlt : i < N
                · have hin : i < n := by omega
                  have hi20 : i < 20 := by omega
                  go_wp2_with fail
                  refine (rdbits_any wr w.heap.size R1 A4 m c4 (b.take m) _ 8 HCT.out.r1 HBM.out hv1.1 (by omega)).mono ?_
                  rintro e w7 ⟨rfl, h7, hk7⟩
                  rw [rdNum_8] at h7
                  generalize (rdNum (b.take m) 8 (rdIt (b.take m) (8 * i) s0)).1 = v1 at *
                  have H7 := hid (And.intro h7 hk7)
                  clear h7 hk7
                  go_wp2_with fail
                  refine (rdbits_any w7 MID R2 A6 n3 c6 xs _ 8 (HCT.out.mid2 H7.out.2) HBX.out hv2.1 (by omega)).mono ?_
                  rintro e w8 ⟨rfl, h8, hk8⟩
                  rw [rdNum_8] at h8
                  generalize (rdNum xs 8 (rdIt xs (8 * i) s0)).1 = v2 at *
                  have H8 := hid (HCT.out.next H7.out.1 H7.out.2 h8 hk8)
                  clear h8 hk8
                  go_wp2_with fail
                  go_roundw
                  case rel => exact ⟨i + 1, by omega, by go_num, H8⟩
                  case measure => simp [intOf]; omega
                · obtain rfl : N = i := by omega
                  skip
                  go_wp2_with fail
                  refine (end_any wr w.heap.size R1 A4 m c4 (b.take m) _ _ _ HCT.out.r1 (by omega)).mono ?_
                  rintro e w8 ⟨rfl, _, hk8⟩
                  rw [HER2.out]
                  have HR2 := hid (Rr.aside HCT.out.r2 hk8)
                  have HK8 := hid (HCT.out.keep.trans hk8 (fun _ _ h => h))
                  clear hk8
                  go_wp2_with fail
                  refine (end_any w8 MID R2 A6 n3 c6 xs _ _ _ HR2.out (by omega)).mono ?_
                  rintro e w9 ⟨rfl, _, hk9⟩
                  rw [HES2.out]
                  have HK9 := hid (HK8.out.trans hk9 (fun _ _ h => h))
                  generalize (endM xs (rdIt xs (8 * N) s0).1 (rdIt xs (8 * N) s0).2.2).1 = e1 at *
                  clear hk9
                  cases s with
                  | true =>
                    go_wp2_with fail
                    go_ret
                    exact ⟨rfl, HK9.out.below (Nat.le_refl _) (fun _ h => h.elim)⟩
                  | false =>
                    go_wp2_with fail
                    go_ret
                    exact ⟨rfl, HK9.out.below (Nat.le_refl _) (fun _ h => h.elim)⟩
end Go.Proofs.Ytnhciiljdmgcjaa
