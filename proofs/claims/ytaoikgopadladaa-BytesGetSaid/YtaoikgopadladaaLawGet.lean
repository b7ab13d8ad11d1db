/-
  BytesGet: the walk. Conditions: none.
-/
import Derived.Test.YtaoikgopadladaaRefR2
import Derived.WalkLawsBesides
namespace Go.Proofs.Ytaoikgopadladaa
open Go.RowKit

/-- What a Get, a Take answers, and where both readers stand then. -/
def gOk (zs : List Int) (p : Nat) (e K : Int) : Bool := fitsB K && decide (takeE (zs.drop p) e K = 0)
def gV (zs : List Int) (p : Nat) (e K : Int) : Int := if gOk zs p e K = true then getV ((zs.drop p).take K.toNat) else 0
def gP (zs : List Int) (p : Nat) (e K : Int) : Nat := if gOk zs p e K = true then p + K.toNat else p
def gE (zs : List Int) (p : Nat) (e K : Int) : Int := if fitsB K = true then takeE (zs.drop p) e K else errOr e 1
def tV (zs : List Int) (p : Nat) (e K : Int) : List Int := if takeE (zs.drop p) e K = 0 then (zs.drop p).take K.toNat else []
def tP (zs : List Int) (p : Nat) (e K : Int) : Nat := if takeE (zs.drop p) e K = 0 then p + K.toNat else p
theorem takeE_0 {l : List Int} {e K : Int} (h : takeE l e K = 0) : e = 0 ∧ 0 ≤ K ∧ K.toNat ≤ l.length := by
  unfold takeE at h
  by_cases he : e = 0
  · rw [if_pos he] at h
    by_cases h1 : K < 0
    · rw [if_pos h1] at h; omega
    · rw [if_neg h1] at h
      by_cases h2 : (l.length : Int) < K
      · rw [if_pos h2] at h; omega
      · exact ⟨he, by omega, by omega⟩
  · rw [if_neg he] at h; exact absurd h he

def RdrS (w : World) (R : Nat) (zs : List Int) (p : Nat) (e : Int) : Prop := ∃ A n c, Rdr w R A n c (zs.drop p) e
theorem RdrS.keep {w w' : World} {R : Nat} {zs : List Int} {p : Nat} {e : Int} (h : RdrS w R zs p e) {S : Nat → Prop} (hk : Keep S w w') (hS : ∀ k, k ≤ R → ¬ S k) : RdrS w' R zs p e := by
  obtain ⟨A, n, c, h⟩ := h
  exact ⟨A, n, c, h.keep hk (hS R (Nat.le_refl _)) (fun ad e => hS _ (Nat.le_of_lt (h.low ad e)))⟩

theorem pget (w : World) (R : Nat) (zs : List Int) (p : Nat) (e K : Int) (h : RdrS w R zs p e) (hz : zs.length ≤ 140737488355328) :
    Calls Try.prog 19 #[.pointer (some ⟨R, 0, none⟩), .int .i64 K] w fun en w' => en = .returned (.int .i64 (gV zs p e K)) ∧ RdrS w' R zs (gP zs p e K) (gE zs p e K) ∧ Keep (fun k => k = R) w w' := by
  obtain ⟨A, n, c, h⟩ := h
  have hl := h.rd.len
  by_cases hf : fitsB K = true
  · by_cases ht : takeE (zs.drop p) e K = 0
    · have ho : gOk zs p e K = true := by unfold gOk; rw [hf, ht]; rfl
      unfold gV gP gE
      rw [if_pos ho, if_pos ho, if_pos hf, ht]
      obtain ⟨rfl, hK0, hKl⟩ := takeE_0 ht
      obtain ⟨x, rfl⟩ := Int.eq_ofNat_of_zero_le hK0
      rw [Int.toNat_natCast] at hKl ⊢
      refine (get_yes w R A n c (zs.drop p) x h hf (by omega) (by rw [← hl, List.length_drop]; omega)).mono ?_
      rintro en w' ⟨A2, rfl, hr, hA, hk⟩
      rw [List.drop_drop] at hr
      exact ⟨rfl, ⟨A2, _, _, hr⟩, hk⟩
    · have ho : ¬ gOk zs p e K = true := by unfold gOk; simp [ht]
      unfold gV gP gE
      rw [if_neg ho, if_neg ho, if_pos hf]
      refine (get_cut w R A n c (zs.drop p) e K h hf ht).mono ?_
      rintro en w' ⟨rfl, hr, hk⟩
      exact ⟨rfl, ⟨A, n, c, hr⟩, hk⟩
  · have hf' : fitsB K = false := by simpa using hf
    have ho : ¬ gOk zs p e K = true := by unfold gOk; simp [hf']
    unfold gV gP gE
    rw [if_neg ho, if_neg ho, if_neg hf]
    refine (get_no w R A n c (zs.drop p) e K h hf').mono ?_
    rintro en w' ⟨rfl, hr, hk⟩
    exact ⟨rfl, ⟨A, n, c, hr⟩, hk⟩
theorem xget (w : World) (X : Nat) (A : Option Addr) (n c : Nat) (zs : List Int) (p : Nat) (e K : Int) (h : XB w X A n c zs p e) (hc : c ≤ 140737488351232) :
    Calls Try.prog 20 #[.pointer (some ⟨X, 0, none⟩), .int .i64 K] w fun en w' => en = .returned (.int .i64 (gV zs p e K)) ∧ XB w' X A n c zs (gP zs p e K) (gE zs p e K) ∧ Keep (fun k => k = X) w w' := by
  have hl := h.left
  have hcap := h.cap
  by_cases hf : fitsB K = true
  · have hK : 1 ≤ K ∧ K ≤ 8 := by simpa [fitsB] using hf
    by_cases ht : takeE (zs.drop p) e K = 0
    · have ho : gOk zs p e K = true := by unfold gOk; rw [hf, ht]; rfl
      unfold gV gP gE
      rw [if_pos ho, if_pos ho, if_pos hf, ht]
      obtain ⟨rfl, hK0, hKl⟩ := takeE_0 ht
      obtain ⟨x, rfl⟩ := Int.eq_ofNat_of_zero_le hK0
      rw [Int.toNat_natCast] at hKl ⊢
      exact xget_yes w X A n c zs p x h (by omega) (by omega) (by omega) hc
    · have ho : ¬ gOk zs p e K = true := by unfold gOk; simp [ht]
      unfold gV gP gE
      rw [if_neg ho, if_neg ho, if_pos hf]
      exact xget_cut w X A n c zs p e K h (by omega) hf ht
  · have hf' : fitsB K = false := by simpa using hf
    have ho : ¬ gOk zs p e K = true := by unfold gOk; simp [hf']
    unfold gV gP gE
    rw [if_neg ho, if_neg ho, if_neg hf]
    exact xget_no w X A n c zs p e K h hf'
theorem ptake (w : World) (R : Nat) (zs : List Int) (p : Nat) (e K : Int) (h : RdrS w R zs p e) (hz : zs.length ≤ 140737488355328) :
    Calls Try.prog 15 #[.pointer (some ⟨R, 0, none⟩), .int .i64 K] w fun en w' => ∃ A1 m c1, en = .returned (.slice A1 m c1) ∧ Rd w' A1 m ((tV zs p e K).map (Value.int .u8)) ∧ (∀ ad, A1 = some ad → w.heap.size ≤ ad.block) ∧
      RdrS w' R zs (tP zs p e K) (takeE (zs.drop p) e K) ∧ Keep (fun k => k = R) w w' := by
  obtain ⟨A, n, c, h⟩ := h
  have hl := h.rd.len
  by_cases ht : takeE (zs.drop p) e K = 0
  · unfold tV tP
    rw [if_pos ht, if_pos ht, ht]
    obtain ⟨rfl, hK0, hKl⟩ := takeE_0 ht
    obtain ⟨x, rfl⟩ := Int.eq_ofNat_of_zero_le hK0
    rw [Int.toNat_natCast] at hKl ⊢
    refine (take_yes w R A n c (zs.drop p) x h (by omega) (by rw [← hl, List.length_drop]; omega)).mono ?_
    rintro en w' ⟨A1, c1, A2, rfl, hown, hr, hA, hk⟩
    rw [List.drop_drop] at hr
    exact ⟨A1, x, c1, rfl, Rd.of_own hown, fun ad e => (hown.lt ad.block (by rw [e]; rfl)).1, ⟨A2, _, _, hr⟩, hk⟩
  · unfold tV tP
    rw [if_neg ht, if_neg ht]
    refine (take_no w R A n c (zs.drop p) e K h ht).mono ?_
    rintro en w' ⟨rfl, hr, hk⟩
    exact ⟨none, 0, 0, rfl, Rd.nil _, (fun ad h => by cases h), ⟨A, n, c, hr⟩, hk⟩
theorem xtake (w : World) (X : Nat) (A : Option Addr) (n c : Nat) (zs : List Int) (p : Nat) (e K : Int) (h : XB w X A n c zs p e) (hc : c ≤ 140737488351232) :
    Calls Try.prog 21 #[.pointer (some ⟨X, 0, none⟩), .int .i64 K] w fun en w' => ∃ A1 m c1, en = .returned (.slice A1 m c1) ∧ Rd w' A1 m ((tV zs p e K).map (Value.int .u8)) ∧
      XB w' X A n c zs (tP zs p e K) (takeE (zs.drop p) e K) ∧ Keep (fun k => k = X) w w' := by
  have hl := h.left
  have hcap := h.cap
  by_cases ht : takeE (zs.drop p) e K = 0
  · unfold tV tP
    rw [if_pos ht, if_pos ht, ht]
    obtain ⟨rfl, hK0, hKl⟩ := takeE_0 ht
    obtain ⟨x, rfl⟩ := Int.eq_ofNat_of_zero_le hK0
    rw [Int.toNat_natCast] at hKl ⊢
    refine (xtake_yes w X A n c zs p x h (by omega) hc).mono ?_
    rintro en w' ⟨A1, c1, rfl, hown, hr, hk⟩
    exact ⟨A1, x, c1, rfl, Rd.of_own hown, hr, hk⟩
  · unfold tV tP
    rw [if_neg ht, if_neg ht]
    refine (xtake_no w X A n c zs p e K h (by omega) ht).mono ?_
    rintro en w' ⟨rfl, hr, hk⟩
    exact ⟨none, 0, 0, rfl, Rd.nil _, hr, hk⟩

/-- Both readers at one place. -/
structure GT (w0 : World) (R X : Nat) (A : Option Addr) (n c : Nat) (zs : List Int) (p : Nat) (e : Int) (w : World) : Prop where
  rr : RdrS w R zs p e
  xb : XB w X A n c zs p e
  hR : w0.heap.size ≤ R
  hX : R < X
  low : 0 < n → ∀ ad, A = some ad → ad.block < w0.heap.size
  keep : Keep (fun _ => False) w0 w
section
variable {w0 w w1 w2 : World} {R X : Nat} {A : Option Addr} {n c : Nat} {zs : List Int} {p p' : Nat} {e e' : Int}
theorem GT.ref1 (h : GT w0 R X A n c zs p e w) (hk : Keep (fun k => k = R) w w1) : XB w1 X A n c zs p e :=
  h.xb.keep hk (fun hx => by have := h.hX; omega) (fun hn ad e => by have := h.low hn ad e; have := h.hR; omega)
theorem GT.next (h : GT w0 R X A n c zs p e w) (h1 : RdrS w1 R zs p' e') (k1 : Keep (fun k => k = R) w w1) (h2 : XB w2 X A n c zs p' e') (k2 : Keep (fun k => k = X) w1 w2) : GT w0 R X A n c zs p' e' w2 :=
  ⟨h1.keep k2 (fun k hk hx => by have := h.hX; omega), h2, h.hR, h.hX, h.low, (h.keep.new k1 (fun i hi => by have := h.hR; omega)).new k2 (fun i hi => by have := h.hR; have := h.hX; omega)⟩
theorem GT.aside (h : GT w0 R X A n c zs p e w) (hk : Keep (fun _ => False) w w1) : GT w0 R X A n c zs p e w1 :=
  ⟨h.rr.keep hk (fun _ _ h => h), h.xb.keep hk (fun h => h) (fun _ _ _ h => h), h.hR, h.hX, h.low, h.keep.trans hk (fun _ _ h => h)⟩
end

set_option maxRecDepth 100000 in
set_option linter.unusedSimpArgs false in
set_option maxHeartbeats 8000000 in
theorem bytesGet_short (A : Option Addr) (n c : Nat) (zs : List Int) (A1 : Option Addr) (n1 c1 : Nat) (qs : List Int) (A2 : Option Addr) (n2 c2 : Nat) (ns : List Int) (w : World) (h : Arg .u8 1 w A n c zs) (h1 : Arg .i64 8 w A1 n1 c1 qs) (h2 : Arg .i64 8 w A2 n2 c2 ns) (hn : n ≤ 300) :
    Calls Try.prog 6 #[.slice A n c, .slice A1 n1 c1, .slice A2 n2 c2] w fun e w' => e = .returned (.bool true) ∧ Below w.heap.size w w' := by
  obtain ⟨i0, hi0, hz0, hz1, hz2⟩ := info_parts info_u8
  have HL := hid h.len
  have hc : c ≤ 140737488351232 := by have := h.reach; omega
  have hcap := h.cap
  have hcn1 : n1 ≤ 9223372036854775807 := by have := h1.cap; have := h1.reach; omega
  have hcn2 : n2 ≤ 9223372036854775807 := by have := h2.cap; have := h2.reach; omega
  have H1 := hid h1
  have H2 := hid h2
  clear h1 h2
  go_enter Try.func6, Try.ntmps6
  go_wp2_with fail
  refine (known_any w).mono ?_
  rintro e w1 ⟨rfl, hk1⟩
  have hrd1 := h.rd.keep hk1 (fun _ _ h => h)
  have hs1 := hk1.size
  go_wp2_with (
    at_builtin
    refine wpList_append_src _ rfl (.tmp 17) (.tmp 18) _ rfl w1.heap.size 5 i0 _ 1 Try.underlying22 hi0 hz0 hz1 hz2 rfl
      (World.ownsRow_made w1 #[] 0 (Nat.le_refl _) (by simp [maxLen]) rfl) rfl (hrd1.alloc _) rfl (oneCell_ints _ _) (by simp only [maxLen]; omega) (by omega) (by simp) ?_
    intro v2 w2 hown2 hg2 hat2 _hold
    simp only [Nat.zero_add, List.nil_append] at hown2
    obtain ⟨A3, c3, rfl⟩ := own_form hown2)
  have hk2 : Keep (fun _ => False) w1 w2 := ((Keep.refl _ w1).alloc _).grown hg2 (fun k hk => by simp [Value.ownBlock] at hk; omega)
  refine (new_any A3 n c3 zs w2 (Rd.of_own hown2) (by omega)).mono ?_
  rintro en w3 ⟨R, A4, c4, rfl, hR, hA4, hr3, hk3⟩
  have hk13 := (hk1.trans hk2 (fun _ _ h => h)).trans hk3 (fun _ _ h => h)
  have hlow1 : R < w3.heap.size := hr3.blk.lt
  have hs13 := hk13.size
  go_wp2_with fail
  refine (newx_any w3 A n c zs (h.rd.keep hk13 (fun _ _ h => h)) h.cap (fun hn ad e => by have := h.rd.lt hn ad e; omega)).mono ?_
  rintro en w4 ⟨rfl, hx4, hk4⟩
  have hs2 := hk2.size
  have hT : GT w R w3.heap.size A n c zs 0 0 w4 :=
    ⟨RdrS.keep ⟨A4, n, c4, hr3⟩ hk4 (fun _ _ h => h), hx4, by omega, hlow1, fun hn ad e => h.rd.lt hn ad e, hk13.trans hk4 (fun _ _ h => h)⟩
  have HT0 := hid hT
  generalize w3.heap.size = X at *
  clear hT hx4 hk4 hk13 hk3 hr3 hR hk2 hown2 hg2 hat2 hk1 hrd1 h hs1 hs2 hlow1 hA4 hs13
  go_wp2_with fail
  go_loopw [9] (fun v wr => ∃ (i : Nat) (p : Nat) (e : Int), i ≤ 30 ∧ v = .int .i64 i ∧ Hid (GT w R X A n c zs p e wr)) (fun v _ => 30 - (intOf v).toNat)
  case atStart => exact ⟨0, 0, 0, by omega, rfl, HT0⟩
  case round =>
    obtain ⟨i, p, e, hi, rfl, HT⟩ := hrel
    clear HT0
    by_cases hlt : i < n1 ∧ i < n2 ∧ i < 30
    · obtain ⟨hi1, hi2, hi3⟩ := hlt
      obtain ⟨b1, o1, rfl, hc1⟩ := (H1.out.rd.keep HT.out.keep (fun _ _ h => h)).int_ix hi1
      obtain ⟨b2, o2, rfl, hc2⟩ := (H2.out.rd.keep HT.out.keep (fun _ _ h => h)).int_ix hi2
      have hb1 : b1 < w.heap.size := H1.out.rd.lt (by omega) _ rfl
      have hb2 : b2 < w.heap.size := H2.out.rd.lt (by omega) _ rfl
      generalize qs.getD i 0 = a at *
      generalize ns.getD i 0 = y at *
      go_wp2_with fail
      refine (within_any a 6 wr (by omega) (by omega)).mono ?_
      rintro en w9 ⟨rfl, rfl⟩
      have q1 : 0 ≤ a % 6 := by omega
      have q2 : a % 6 < 6 := by omega
      generalize a % 6 = q at *
      have hy1 : 0 ≤ y % 8 := by omega
      have hy2 : y % 8 < 8 := by omega
      by_cases c3 : q < 3
      · have hq : q = 0 ∨ q = 1 ∨ q = 2 := by omega
        rcases hq with rfl | rfl | rfl
        all_goals
          clear q1 q2 c3
          go_wp2_with fail
          refine (within_any y 8 wr (by omega) (by omega)).mono ?_
          rintro en w9 ⟨rfl, rfl⟩
          go_wp2_with fail
          -- both Get 1 + y % 8
          refine (pget wr R zs p e (1 + y % 8) HT.out.rr (by rw [HL.out]; omega)).mono ?_
          rintro en w4 ⟨rfl, h4, hk4⟩
          have HX4 := hid (xget w4 X A n c zs p e (1 + y % 8) (HT.out.ref1 hk4) (by omega))
          have H1 := hid (And.intro h4 hk4)
          clear h4 hk4
          generalize gV zs p e (1 + y % 8) = v at *
          generalize gP zs p e (1 + y % 8) = p2 at *
          generalize gE zs p e (1 + y % 8) = e2 at *
          go_wp2_with fail
          refine HX4.out.mono ?_
          rintro en w5 ⟨rfl, h5, hk5⟩
          have H5 := hid (HT.out.next H1.out.1 H1.out.2 h5 hk5)
          clear h5 hk5 HX4 H1
          go_wp2_with fail
          -- H5: both readers at one place
          obtain ⟨A5, n5, c5, hr5⟩ := H5.out.rr
          have HR5 := hid hr5
          clear hr5
          go_wp2_with fail
          refine (end_any _ R A5 n5 c5 _ e2 HR5.out).mono ?_
          rintro en w6 ⟨rfl, rfl⟩
          have HXE := hid (xend_any _ X A n c zs p2 e2 H5.out.xb)
          generalize endM (zs.drop p2) e2 = v6 at *
          go_wp2_with fail
          refine HXE.out.mono ?_
          rintro en w6 ⟨rfl, hk6⟩
          have H6 := hid (H5.out.aside hk6)
          clear HXE hk6 HR5
          obtain ⟨A5, n5, c5, hr5⟩ := H6.out.rr
          have HR5 := hid hr5
          clear hr5
          go_wp2_with fail
          refine (left_any w6 R A5 n5 c5 _ e2 HR5.out).mono ?_
          rintro en w7 ⟨rfl, rfl⟩
          have HXL := hid (xleft_any w6 X A n c zs p2 e2 H6.out.xb (by omega))
          generalize leftM (zs.drop p2) e2 = v7 at *
          go_wp2_with fail
          refine HXL.out.mono ?_
          rintro en w7 ⟨rfl, hk7⟩
          have H7 := hid (H6.out.aside hk7)
          clear HXL hk7 HR5 H6 H5
          go_wp2_with fail
          go_roundw
          case rel => exact ⟨i + 1, p2, e2, by omega, by go_num, H7⟩
          case measure => simp [intOf]; omega
      · have hq : q = 3 ∨ q = 4 ∨ q = 5 := by omega
        rcases hq with rfl | rfl | rfl
        · clear q1 q2 c3
          go_wp2_with fail
          have HT' := hid (HT.out.aside (Keep.refl (fun _ => False) wr).drew)
          have HPT := hid (pget wr.drew R zs p e y HT'.out.rr (by rw [HL.out]; omega))
          have HXT := hid (fun (w' : World) (h' : XB w' X A n c zs p e) => xget w' X A n c zs p e y h' (by omega))
          have hRw := HT.out.hR
          generalize gV zs p e y = v at *
          generalize gP zs p e y = p2 at *
          generalize gE zs p e y = e2 at *
          -- region 17: 13 operations
          refine At.start (L := #[false, false, false, false, false, false, false, false, false, false, false, false, false]) (by kernel_rfl) rfl ?_
          refine At.pure 0 (some 63) (v := ?v0) rfl rfl (by kernel_rfl) (fun _ _ _ h => h) rfl (fun w' => ?y0) ?_   
          case y0 => go_simp; try with_reducible rfl
          try simp only [Act.put, List.setIfInBounds_toArray, List.set_cons_zero, List.set_cons_succ]
          refine At.pure 1 (some 64) (v := ?v1) rfl rfl (by kernel_rfl) (fun _ _ _ h => h) rfl (fun w' => ?y1) ?_   
          case y1 => go_simp; try with_reducible rfl
          try simp only [Act.put, List.setIfInBounds_toArray, List.set_cons_zero, List.set_cons_succ]
          refine At.pure 2 (some 65) (v := ?v2) rfl rfl (by kernel_rfl) (fun _ _ _ h => h) rfl (fun w' => ?y2) ?_   
          case y2 => go_simp; try with_reducible rfl
          try simp only [Act.put, List.setIfInBounds_toArray, List.set_cons_zero, List.set_cons_succ]
          refine At.pure 3 (some 66) (v := ?v3) rfl rfl (by kernel_rfl) (fun _ _ _ h => h) rfl (fun w' => ?y3) ?_   
          case y3 => go_simp; try with_reducible rfl
          try simp only [Act.put, List.setIfInBounds_toArray, List.set_cons_zero, List.set_cons_succ]
          refine At.read 4 (some 67) (fun w' => w'.cell? ⟨b2, o2 + i, none⟩ = some (.int .i64 y)) (v := (.int .i64 y)) rfl rfl (by kernel_rfl) (fun _ _ _ h => h) rfl hc2 (fun w' hw' => ?y4) ?_   
          case y4 => skip; go_simp; try with_reducible rfl
          try simp only [Act.put, List.setIfInBounds_toArray, List.set_cons_zero, List.set_cons_succ]
          refine At.pure 6 (some 69) (v := ?v6) rfl rfl (by kernel_rfl) (fun _ _ _ h => h) rfl (fun w' => ?y6) ?_   
          case y6 => go_simp; try with_reducible rfl
          try simp only [Act.put, List.setIfInBounds_toArray, List.set_cons_zero, List.set_cons_succ]
          refine At.pure 7 (some 70) (v := ?v7) rfl rfl (by kernel_rfl) (fun _ _ _ h => h) rfl (fun w' => ?y7) ?_   
          case y7 => go_simp; try with_reducible rfl
          try simp only [Act.put, List.setIfInBounds_toArray, List.set_cons_zero, List.set_cons_succ]
          refine At.pure 8 (some 71) (v := ?v8) rfl rfl (by kernel_rfl) (fun _ _ _ h => h) rfl (fun w' => ?y8) ?_   
          case y8 => go_simp; try with_reducible rfl
          try simp only [Act.put, List.setIfInBounds_toArray, List.set_cons_zero, List.set_cons_succ]
          refine At.pure 9 (some 72) (v := ?v9) rfl rfl (by kernel_rfl) (fun _ _ _ h => h) rfl (fun w' => ?y9) ?_   
          case y9 => go_simp; try with_reducible rfl
          try simp only [Act.put, List.setIfInBounds_toArray, List.set_cons_zero, List.set_cons_succ]
          refine At.read 10 (some 73) (fun w' => w'.cell? ⟨b2, o2 + i, none⟩ = some (.int .i64 y)) (v := (.int .i64 y)) rfl rfl (by kernel_rfl) (fun _ _ _ h => h) rfl hc2 (fun w' hw' => ?y10) ?_   
          case y10 => skip; go_simp; try with_reducible rfl
          try simp only [Act.put, List.setIfInBounds_toArray, List.set_cons_zero, List.set_cons_succ]
          refine At.call 5 (pend' := [(10, (fun w' => w'.cell? ⟨b2, o2 + i, none⟩ = some (.int .i64 y)))]) rfl (by kernel_rfl) rfl (by kernel_rfl) (fun K hK => ?_)   
          go_simp
          refine HPT.out.mono ?_
          rintro en w4 ⟨rfl, h4, hk4⟩
          refine hK _ _ (all_cons (hk4.cell hc2 (fun hx => by simp at hx; omega)) all_nil) ?_
          clear hK K
          try simp only [Act.put, List.setIfInBounds_toArray, List.set_cons_zero, List.set_cons_succ]
          refine At.call 11 (pend' := []) rfl (by kernel_rfl) rfl (by kernel_rfl) (fun K hK => ?_)   
          go_simp
          refine (HXT.out _ (HT'.out.ref1 hk4)).mono ?_
          rintro en w5 ⟨rfl, h5, hk5⟩
          refine hK _ _ all_nil ?_
          clear hK K
          try simp only [Act.put, List.setIfInBounds_toArray, List.set_cons_zero, List.set_cons_succ]
          refine At.pure 12 (some 75) (v := ?v12) rfl rfl (by kernel_rfl) (fun _ _ _ h => h) rfl (fun w' => ?y12) ?_   
          case y12 => go_simp; try with_reducible rfl
          try simp only [Act.put, List.setIfInBounds_toArray, List.set_cons_zero, List.set_cons_succ]
          refine At.done (by kernel_rfl) ?_
          have H5 := hid (HT'.out.next h4 hk4 h5 hk5)
          clear h4 hk4 h5 hk5
          go_wp2_with fail
          -- H5: both readers at one place
          obtain ⟨A5, n5, c5, hr5⟩ := H5.out.rr
          have HR5 := hid hr5
          clear hr5
          go_wp2_with fail
          refine (end_any _ R A5 n5 c5 _ e2 HR5.out).mono ?_
          rintro en w6 ⟨rfl, rfl⟩
          have HXE := hid (xend_any _ X A n c zs p2 e2 H5.out.xb)
          generalize endM (zs.drop p2) e2 = v6 at *
          go_wp2_with fail
          refine HXE.out.mono ?_
          rintro en w6 ⟨rfl, hk6⟩
          have H6 := hid (H5.out.aside hk6)
          clear HXE hk6 HR5
          obtain ⟨A5, n5, c5, hr5⟩ := H6.out.rr
          have HR5 := hid hr5
          clear hr5
          go_wp2_with fail
          refine (left_any w6 R A5 n5 c5 _ e2 HR5.out).mono ?_
          rintro en w7 ⟨rfl, rfl⟩
          have HXL := hid (xleft_any w6 X A n c zs p2 e2 H6.out.xb (by omega))
          generalize leftM (zs.drop p2) e2 = v7 at *
          go_wp2_with fail
          refine HXL.out.mono ?_
          rintro en w7 ⟨rfl, hk7⟩
          have H7 := hid (H6.out.aside hk7)
          clear HXL hk7 HR5 H6 H5
          go_wp2_with fail
          go_roundw
          case rel => exact ⟨i + 1, p2, e2, by omega, by go_num, H7⟩
          case measure => simp [intOf]; omega
        · clear q1 q2 c3
          by_cases ha : 0 < a.tmod 5
          · go_wp2_with fail
            refine (within_any y 9 wr (by omega) (by omega)).mono ?_
            rintro en w9 ⟨rfl, rfl⟩
            go_wp2_with fail
            have cv : ∀ (w : World) (A : Option Addr) (n c : Nat) (zs : List Int), Rd w A n (zs.map (Value.int .u8)) → (convert 22 9 (.slice A n c)).run Try.prog w = .ok (.string (strOfNums zs)) w := fun w A n c zs h => run_string_rd _ _ _ Try.underlying22 Try.underlying5 Try.underlying9 h c
            have CV := hid cv
            clear cv
            have HT' := hid (HT.out.aside (Keep.refl (fun _ => False) wr).drew)
            have HPT := hid (ptake wr.drew R zs p e ((y % 9)) HT'.out.rr (by rw [HL.out]; omega))
            have HXT := hid (fun (w' : World) (h' : XB w' X A n c zs p e) => xtake w' X A n c zs p e ((y % 9)) h' (by omega))
            generalize tV zs p e ((y % 9)) = bs at *
            generalize tP zs p e ((y % 9)) = p2 at *
            generalize takeE (zs.drop p) e ((y % 9)) = e2 at *
            -- region 23: 9 operations
            refine At.start (L := #[false, false, false, false, false, false, false, false, false]) (by kernel_rfl) rfl ?_
            refine At.pure 0 (some 90) (v := ?v0a) rfl rfl (by kernel_rfl) (fun _ _ _ h => h) rfl (fun w' => ?y0a) ?_   
            case y0a => go_simp; try with_reducible rfl
            try simp only [Act.put, List.setIfInBounds_toArray, List.set_cons_zero, List.set_cons_succ]
            refine At.pure 1 (some 91) (v := ?v1a) rfl rfl (by kernel_rfl) (fun _ _ _ h => h) rfl (fun w' => ?y1a) ?_   
            case y1a => go_simp; try with_reducible rfl
            try simp only [Act.put, List.setIfInBounds_toArray, List.set_cons_zero, List.set_cons_succ]
            refine At.pure 4 (some 94) (v := ?v4a) rfl rfl (by kernel_rfl) (fun _ _ _ h => h) rfl (fun w' => ?y4a) ?_   
            case y4a => go_simp; try with_reducible rfl
            try simp only [Act.put, List.setIfInBounds_toArray, List.set_cons_zero, List.set_cons_succ]
            refine At.pure 5 (some 95) (v := ?v5a) rfl rfl (by kernel_rfl) (fun _ _ _ h => h) rfl (fun w' => ?y5a) ?_   
            case y5a => go_simp; try with_reducible rfl
            try simp only [Act.put, List.setIfInBounds_toArray, List.set_cons_zero, List.set_cons_succ]
            refine At.call 2 (pend' := []) rfl (by kernel_rfl) rfl (by kernel_rfl) (fun K hK => ?_)   
            go_simp
            refine HPT.out.mono ?_
            rintro en w4 ⟨A4, m4, c4, rfl, hrd4, hA4, h4, hk4⟩
            refine hK _ _ all_nil ?_
            clear hK K
            try simp only [Act.put, List.setIfInBounds_toArray, List.set_cons_zero, List.set_cons_succ]
            refine At.read 3 (some 93) (fun w' => Rd w' A4 m4 (bs.map (Value.int .u8))) (v := ?v3a) rfl rfl (by kernel_rfl) (fun _ _ _ h => h) rfl hrd4 (fun w' hw' => ?y3a) ?_   
            case y3a => have cv := CV.out w' A4 m4 c4 _ hw'; go_simp; try with_reducible rfl
            try simp only [Act.put, List.setIfInBounds_toArray, List.set_cons_zero, List.set_cons_succ]
            refine At.call 6 (pend' := [(3, (fun w' => Rd w' A4 m4 (bs.map (Value.int .u8))))]) rfl (by kernel_rfl) rfl (by kernel_rfl) (fun K hK => ?_)   
            go_simp
            refine (HXT.out _ (HT'.out.ref1 hk4)).mono ?_
            rintro en w5 ⟨A5, m5, c5, rfl, hrd5, h5, hk5⟩
            refine hK _ _ (all_cons (hrd4.keep hk5 (fun ad e hx => by have := hA4 ad e; have := HT'.out.xb.blk.lt; omega)) all_nil) ?_
            clear hK K
            try simp only [Act.put, List.setIfInBounds_toArray, List.set_cons_zero, List.set_cons_succ]
            refine At.read 7 (some 97) (fun w' => Rd w' A5 m5 (bs.map (Value.int .u8))) (v := ?v7a) rfl rfl (by kernel_rfl) (fun _ _ _ h => h) rfl hrd5 (fun w' hw' => ?y7a) ?_   
            case y7a => have cv := CV.out w' A5 m5 c5 _ hw'; go_simp; try with_reducible rfl
            try simp only [Act.put, List.setIfInBounds_toArray, List.set_cons_zero, List.set_cons_succ]
            refine At.pure 8 (some 98) (v := ?v8a) rfl rfl (by kernel_rfl) (fun _ _ _ h => h) rfl (fun w' => ?y8a) ?_   
            case y8a => go_simp; try with_reducible rfl
            try simp only [Act.put, List.setIfInBounds_toArray, List.set_cons_zero, List.set_cons_succ]
            refine At.done (by kernel_rfl) ?_
            have H5 := hid (HT'.out.next h4 hk4 h5 hk5)
            clear h4 hk4 h5 hk5 hrd4 hrd5 hA4
            go_wp2_with fail
            -- H5: both readers at one place
            obtain ⟨A5, n5, c5, hr5⟩ := H5.out.rr
            have HR5 := hid hr5
            clear hr5
            go_wp2_with fail
            refine (end_any _ R A5 n5 c5 _ e2 HR5.out).mono ?_
            rintro en w6 ⟨rfl, rfl⟩
            have HXE := hid (xend_any _ X A n c zs p2 e2 H5.out.xb)
            generalize endM (zs.drop p2) e2 = v6 at *
            go_wp2_with fail
            refine HXE.out.mono ?_
            rintro en w6 ⟨rfl, hk6⟩
            have H6 := hid (H5.out.aside hk6)
            clear HXE hk6 HR5
            obtain ⟨A5, n5, c5, hr5⟩ := H6.out.rr
            have HR5 := hid hr5
            clear hr5
            go_wp2_with fail
            refine (left_any w6 R A5 n5 c5 _ e2 HR5.out).mono ?_
            rintro en w7 ⟨rfl, rfl⟩
            have HXL := hid (xleft_any w6 X A n c zs p2 e2 H6.out.xb (by omega))
            generalize leftM (zs.drop p2) e2 = v7 at *
            go_wp2_with fail
            refine HXL.out.mono ?_
            rintro en w7 ⟨rfl, hk7⟩
            have H7 := hid (H6.out.aside hk7)
            clear HXL hk7 HR5 H6 H5
            go_wp2_with fail
            go_roundw
            case rel => exact ⟨i + 1, p2, e2, by omega, by go_num, H7⟩
            case measure => simp [intOf]; omega
          · go_wp2_with fail
            have cv : ∀ (w : World) (A : Option Addr) (n c : Nat) (zs : List Int), Rd w A n (zs.map (Value.int .u8)) → (convert 22 9 (.slice A n c)).run Try.prog w = .ok (.string (strOfNums zs)) w := fun w A n c zs h => run_string_rd _ _ _ Try.underlying22 Try.underlying5 Try.underlying9 h c
            have CV := hid cv
            clear cv
            have HT' := hid (HT.out.aside (Keep.refl (fun _ => False) wr).drew)
            have HPT := hid (ptake wr.drew R zs p e (y) HT'.out.rr (by rw [HL.out]; omega))
            have HXT := hid (fun (w' : World) (h' : XB w' X A n c zs p e) => xtake w' X A n c zs p e (y) h' (by omega))
            generalize tV zs p e (y) = bs at *
            generalize tP zs p e (y) = p2 at *
            generalize takeE (zs.drop p) e (y) = e2 at *
            -- region 23: 9 operations
            refine At.start (L := #[false, false, false, false, false, false, false, false, false]) (by kernel_rfl) rfl ?_
            refine At.pure 0 (some 90) (v := ?v0b) rfl rfl (by kernel_rfl) (fun _ _ _ h => h) rfl (fun w' => ?y0b) ?_   
            case y0b => go_simp; try with_reducible rfl
            try simp only [Act.put, List.setIfInBounds_toArray, List.set_cons_zero, List.set_cons_succ]
            refine At.pure 1 (some 91) (v := ?v1b) rfl rfl (by kernel_rfl) (fun _ _ _ h => h) rfl (fun w' => ?y1b) ?_   
            case y1b => go_simp; try with_reducible rfl
            try simp only [Act.put, List.setIfInBounds_toArray, List.set_cons_zero, List.set_cons_succ]
            refine At.pure 4 (some 94) (v := ?v4b) rfl rfl (by kernel_rfl) (fun _ _ _ h => h) rfl (fun w' => ?y4b) ?_   
            case y4b => go_simp; try with_reducible rfl
            try simp only [Act.put, List.setIfInBounds_toArray, List.set_cons_zero, List.set_cons_succ]
            refine At.pure 5 (some 95) (v := ?v5b) rfl rfl (by kernel_rfl) (fun _ _ _ h => h) rfl (fun w' => ?y5b) ?_   
            case y5b => go_simp; try with_reducible rfl
            try simp only [Act.put, List.setIfInBounds_toArray, List.set_cons_zero, List.set_cons_succ]
            refine At.call 2 (pend' := []) rfl (by kernel_rfl) rfl (by kernel_rfl) (fun K hK => ?_)   
            go_simp
            refine HPT.out.mono ?_
            rintro en w4 ⟨A4, m4, c4, rfl, hrd4, hA4, h4, hk4⟩
            refine hK _ _ all_nil ?_
            clear hK K
            try simp only [Act.put, List.setIfInBounds_toArray, List.set_cons_zero, List.set_cons_succ]
            refine At.read 3 (some 93) (fun w' => Rd w' A4 m4 (bs.map (Value.int .u8))) (v := ?v3b) rfl rfl (by kernel_rfl) (fun _ _ _ h => h) rfl hrd4 (fun w' hw' => ?y3b) ?_   
            case y3b => have cv := CV.out w' A4 m4 c4 _ hw'; go_simp; try with_reducible rfl
            try simp only [Act.put, List.setIfInBounds_toArray, List.set_cons_zero, List.set_cons_succ]
            refine At.call 6 (pend' := [(3, (fun w' => Rd w' A4 m4 (bs.map (Value.int .u8))))]) rfl (by kernel_rfl) rfl (by kernel_rfl) (fun K hK => ?_)   
            go_simp
            refine (HXT.out _ (HT'.out.ref1 hk4)).mono ?_
            rintro en w5 ⟨A5, m5, c5, rfl, hrd5, h5, hk5⟩
            refine hK _ _ (all_cons (hrd4.keep hk5 (fun ad e hx => by have := hA4 ad e; have := HT'.out.xb.blk.lt; omega)) all_nil) ?_
            clear hK K
            try simp only [Act.put, List.setIfInBounds_toArray, List.set_cons_zero, List.set_cons_succ]
            refine At.read 7 (some 97) (fun w' => Rd w' A5 m5 (bs.map (Value.int .u8))) (v := ?v7b) rfl rfl (by kernel_rfl) (fun _ _ _ h => h) rfl hrd5 (fun w' hw' => ?y7b) ?_   
            case y7b => have cv := CV.out w' A5 m5 c5 _ hw'; go_simp; try with_reducible rfl
            try simp only [Act.put, List.setIfInBounds_toArray, List.set_cons_zero, List.set_cons_succ]
            refine At.pure 8 (some 98) (v := ?v8b) rfl rfl (by kernel_rfl) (fun _ _ _ h => h) rfl (fun w' => ?y8b) ?_   
            case y8b => go_simp; try with_reducible rfl
            try simp only [Act.put, List.setIfInBounds_toArray, List.set_cons_zero, List.set_cons_succ]
            refine At.done (by kernel_rfl) ?_
            have H5 := hid (HT'.out.next h4 hk4 h5 hk5)
            clear h4 hk4 h5 hk5 hrd4 hrd5 hA4
            go_wp2_with fail
            -- H5: both readers at one place
            obtain ⟨A5, n5, c5, hr5⟩ := H5.out.rr
            have HR5 := hid hr5
            clear hr5
            go_wp2_with fail
            refine (end_any _ R A5 n5 c5 _ e2 HR5.out).mono ?_
            rintro en w6 ⟨rfl, rfl⟩
            have HXE := hid (xend_any _ X A n c zs p2 e2 H5.out.xb)
            generalize endM (zs.drop p2) e2 = v6 at *
            go_wp2_with fail
            refine HXE.out.mono ?_
            rintro en w6 ⟨rfl, hk6⟩
            have H6 := hid (H5.out.aside hk6)
            clear HXE hk6 HR5
            obtain ⟨A5, n5, c5, hr5⟩ := H6.out.rr
            have HR5 := hid hr5
            clear hr5
            go_wp2_with fail
            refine (left_any w6 R A5 n5 c5 _ e2 HR5.out).mono ?_
            rintro en w7 ⟨rfl, rfl⟩
            have HXL := hid (xleft_any w6 X A n c zs p2 e2 H6.out.xb (by omega))
            generalize leftM (zs.drop p2) e2 = v7 at *
            go_wp2_with fail
            refine HXL.out.mono ?_
            rintro en w7 ⟨rfl, hk7⟩
            have H7 := hid (H6.out.aside hk7)
            clear HXL hk7 HR5 H6 H5
            go_wp2_with fail
            go_roundw
            case rel => exact ⟨i + 1, p2, e2, by omega, by go_num, H7⟩
            case measure => simp [intOf]; omega
        · clear q1 q2 c3
          by_cases ha : a.tmod 4 = 0
          · have ha' : (a.tmod 4 == 0) = true := by simp [ha]
            clear ha
            have HT' := HT
            obtain ⟨A5, n5, c5, hr5⟩ := HT.out.rr
            have HR5 := hid hr5
            clear hr5
            go_wp2_with fail
            refine (within_any y 16 wr (by omega) (by omega)).mono ?_
            rintro en w9 ⟨rfl, rfl⟩
            go_wp2_with fail
            refine (fail_any wr R A5 n5 c5 _ e (y % 16) HR5.out).mono ?_
            rintro en w4 ⟨rfl, h4, hk4⟩
            have HX4 := hid (xfail_any w4 X A n c zs p e (y % 16) (HT'.out.ref1 hk4))
            have H4 := hid (And.intro (show RdrS w4 R zs p (errOr e (y % 16)) from ⟨A5, n5, c5, h4⟩) hk4)
            have hc2' := hk4.cell hc2 (fun hx => by have := HT'.out.hR; simp at hx; omega)
            clear h4 hk4 HR5
            generalize errOr e (y % 16) = e2 at *
            go_wp2_with fail
            refine (within_any y 16 w4 (by omega) (by omega)).mono ?_
            rintro en w9 ⟨rfl, rfl⟩
            go_wp2_with fail
            refine HX4.out.mono ?_
            rintro en w5 ⟨rfl, h5, hk5⟩
            have H5 := hid (HT'.out.next H4.out.1 H4.out.2 h5 hk5)
            clear h5 hk5 HX4 H4
            go_wp2_with fail
            -- H5: both readers at one place
            obtain ⟨A5, n5, c5, hr5⟩ := H5.out.rr
            have HR5 := hid hr5
            clear hr5
            go_wp2_with fail
            refine (end_any _ R A5 n5 c5 _ e2 HR5.out).mono ?_
            rintro en w6 ⟨rfl, rfl⟩
            have HXE := hid (xend_any _ X A n c zs p e2 H5.out.xb)
            generalize endM (zs.drop p) e2 = v6 at *
            go_wp2_with fail
            refine HXE.out.mono ?_
            rintro en w6 ⟨rfl, hk6⟩
            have H6 := hid (H5.out.aside hk6)
            clear HXE hk6 HR5
            obtain ⟨A5, n5, c5, hr5⟩ := H6.out.rr
            have HR5 := hid hr5
            clear hr5
            go_wp2_with fail
            refine (left_any w6 R A5 n5 c5 _ e2 HR5.out).mono ?_
            rintro en w7 ⟨rfl, rfl⟩
            have HXL := hid (xleft_any w6 X A n c zs p e2 H6.out.xb (by omega))
            generalize leftM (zs.drop p) e2 = v7 at *
            go_wp2_with fail
            refine HXL.out.mono ?_
            rintro en w7 ⟨rfl, hk7⟩
            have H7 := hid (H6.out.aside hk7)
            clear HXL hk7 HR5 H6 H5
            go_wp2_with fail
            go_roundw
            case rel => exact ⟨i + 1, p, e2, by omega, by go_num, H7⟩
            case measure => simp [intOf]; omega
          · have ha' : (a.tmod 4 == 0) = false := by simp [ha]
            clear ha
            have H5 := HT
            go_wp2_with fail
            -- H5: both readers at one place
            obtain ⟨A5, n5, c5, hr5⟩ := H5.out.rr
            have HR5 := hid hr5
            clear hr5
            go_wp2_with fail
            refine (end_any _ R A5 n5 c5 _ e HR5.out).mono ?_
            rintro en w6 ⟨rfl, rfl⟩
            have HXE := hid (xend_any _ X A n c zs p e H5.out.xb)
            generalize endM (zs.drop p) e = v6 at *
            go_wp2_with fail
            refine HXE.out.mono ?_
            rintro en w6 ⟨rfl, hk6⟩
            have H6 := hid (H5.out.aside hk6)
            clear HXE hk6 HR5
            obtain ⟨A5, n5, c5, hr5⟩ := H6.out.rr
            have HR5 := hid hr5
            clear hr5
            go_wp2_with fail
            refine (left_any w6 R A5 n5 c5 _ e HR5.out).mono ?_
            rintro en w7 ⟨rfl, rfl⟩
            have HXL := hid (xleft_any w6 X A n c zs p e H6.out.xb (by omega))
            generalize leftM (zs.drop p) e = v7 at *
            go_wp2_with fail
            refine HXL.out.mono ?_
            rintro en w7 ⟨rfl, hk7⟩
            have H7 := hid (H6.out.aside hk7)
            clear HXL hk7 HR5 H6 H5
            go_wp2_with fail
            go_roundw
            case rel => exact ⟨i + 1, p, e, by omega, by go_num, H7⟩
            case measure => simp [intOf]; omega
    · have hk := HT.out.keep
      by_cases h1 : i < n1
      · by_cases h2 : i < n2
        · have h3 : ¬ i < 30 := fun h3 => hlt ⟨h1, h2, h3⟩
          go_wp2_with fail
          go_ret
          exact ⟨rfl, hk.below (Nat.le_refl _) (fun _ h => h.elim)⟩
        · go_wp2_with fail
          go_ret
          exact ⟨rfl, hk.below (Nat.le_refl _) (fun _ h => h.elim)⟩
      · go_wp2_with fail
        go_ret
        exact ⟨rfl, hk.below (Nat.le_refl _) (fun _ h => h.elim)⟩

set_option maxHeartbeats 400000 in
theorem bytesGet_walk (A : Option Addr) (n c : Nat) (zs : List Int) (A1 : Option Addr) (n1 c1 : Nat) (qs : List Int) (A2 : Option Addr) (n2 c2 : Nat) (ns : List Int) (w : World) (h : Arg .u8 1 w A n c zs) (h1 : Arg .i64 8 w A1 n1 c1 qs) (h2 : Arg .i64 8 w A2 n2 c2 ns) :
    Calls Try.prog 6 #[.slice A n c, .slice A1 n1 c1, .slice A2 n2 c2] w fun e w' => e = .returned (.bool true) ∧ Below w.heap.size w w' := by
  by_cases hn : n ≤ 300
  · exact bytesGet_short A n c zs A1 n1 c1 qs A2 n2 c2 ns w h h1 h2 hn
  · have hn' : ¬ (n : Int) ≤ 300 := by omega
    go_enter Try.func6, Try.ntmps6
    go_wp2_with fail
    refine (known_any w).mono ?_
    rintro e w1 ⟨rfl, hk1⟩
    go_wp2_with fail
    go_ret
    exact ⟨rfl, hk1.below (Nat.le_refl _) (fun _ h => h.elim)⟩
end Go.Proofs.Ytaoikgopadladaa
