/-
  The reference's reader of fields: what goes well; what Get does. Conditions: none beyond the form's reach.
-/
import Derived.Test.YtaoikgopadladaaRefR
namespace Go.Proofs.Ytaoikgopadladaa
open Go.RowKit

/-- What a Take that goes well leaves. -/
def XTakeP (w : World) (X : Nat) (A : Option Addr) (n c : Nat) (zs : List Int) (p x : Nat) (en : Ending) (w' : World) : Prop :=
  ∃ A1 c1, en = .returned (.slice A1 x c1) ∧ w'.ownsRow w.heap.size 5 1 (.slice A1 x c1) x (((zs.drop p).take x).map (Value.int .u8)) ∧ XB w' X A n c zs (p + x) 0 ∧ Keep (fun k => k = X) w w'

set_option linter.unusedSimpArgs false in
set_option maxHeartbeats 1600000 in
theorem xtake_yes (w : World) (X : Nat) (A : Option Addr) (n c : Nat) (zs : List Int) (p x : Nat) (h : XB w X A n c zs p 0) (hx : x ≤ n - p) (hc : c ≤ 140737488351232) :
    Calls Try.prog 21 #[.pointer (some ⟨X, 0, none⟩), .int .i64 x] w (XTakeP w X A n c zs p x) := by
  obtain ⟨i0, hi0, hz0, hz1, hz2⟩ := info_parts info_u8
  have h0 : w.cell? ⟨X, 0, none⟩ = some (.slice A n c) := h.blk.cell 0
  have h1 : w.cell? ⟨X, 1, none⟩ = some (.int .i64 p) := h.blk.cell 1
  have h2 : w.cell? ⟨X, 2, none⟩ = some (.int .i64 0) := h.blk.cell 2
  have f1 := h.blk.frozen 1
  have f2 := h.blk.frozen 2
  have hle := h.le
  have hcap := h.cap
  have H := hid h
  have HBL := hid h.blk
  clear h
  have hw : IntKind.i64.wrap ((n : Int) - p) = (n : Int) - p := IntWalk.i64_in _ (by omega)
  have hcut : ¬ (n : Int) - p < x := by omega
  go_enter Try.func21, Try.ntmps21
  go_wp2_with fail
  go_region
  go_wp2_with fail
  have HF := hid (XB.fin (w' := (w.setCell ⟨X, 1, none⟩ (.int .i64 ((p : Int) + x))).drew) (p' := p + x) (e' := 0) H.out ((Keep.refl _ w).setR 1 _).drew ((HBL.out.set_ 1 (.int .i64 ((p : Int) + x))).drew) rfl (by omega))
  generalize hw3 : (w.setCell ⟨X, 1, none⟩ (.int .i64 ((p : Int) + x))).drew = w3 at *
  have g0 : w3.cell? ⟨X, 0, none⟩ = some (.slice A n c) := HF.out.1.blk.cell 0
  have g1 : w3.cell? ⟨X, 1, none⟩ = some (.int .i64 ((p : Int) + x)) := HF.out.1.blk.cell 1
  clear hw3 h0 h1 h2 hw hcut f1 f2
  have w1' : IntKind.i64.wrap (p : Int) = (p : Int) := IntWalk.i64_in _ (by omega)
  have w2' : ((p : Int) + (x : Int)).toNat = p + x := by omega
  have w3' : (0 : Int) ≤ (p : Int) + (x : Int) := by omega
  have w4' : (p : Int) + (x : Int) ≤ (c : Int) := by omega
  have w5' : (p : Int) ≤ (p : Int) + (x : Int) := by omega
  have hrd : Rd w3 (if c = p then A else A.map (fun y => Addr.add y p)) x (((zs.drop p).take x).map (Value.int .u8)) := by
    rw [List.map_take, List.map_drop]
    exact (HF.out.1.rd.drop hle hcap).take hx
  have HRD := hid hrd
  clear hrd
  -- region 8: 18 operations
  refine At.start (L := #[false, false, false, false, false, false, false, false, false, false, false, false, false, false, false, false, false, false]) (by kernel_rfl) rfl ?_
  refine At.pure 1 (some 54) (v := ?v1) rfl rfl (by kernel_rfl) (fun _ _ _ h => h) rfl (fun w' => ?y1) ?_   
  case y1 => go_simp; try with_reducible rfl
  try simp only [Act.put, List.setIfInBounds_toArray, List.set_cons_zero, List.set_cons_succ]
  refine At.pure 2 (some 55) (v := ?v2) rfl rfl (by kernel_rfl) (fun _ _ _ h => h) rfl (fun w' => ?y2) ?_   
  case y2 => go_simp; try with_reducible rfl
  try simp only [Act.put, List.setIfInBounds_toArray, List.set_cons_zero, List.set_cons_succ]
  refine At.pure 3 (some 56) (v := ?v3) rfl rfl (by kernel_rfl) (fun _ _ _ h => h) rfl (fun w' => ?y3) ?_   
  case y3 => go_simp; try with_reducible rfl
  try simp only [Act.put, List.setIfInBounds_toArray, List.set_cons_zero, List.set_cons_succ]
  refine At.read 4 (some 57) (fun w' => w'.cell? ⟨X, 0, none⟩ = some (.slice A n c)) (v := (.slice A n c)) rfl rfl (by kernel_rfl) (fun _ _ _ h => h) rfl g0 (fun w' hw' => ?y4) ?_   
  case y4 => skip; go_simp; try with_reducible rfl
  try simp only [Act.put, List.setIfInBounds_toArray, List.set_cons_zero, List.set_cons_succ]
  refine At.pure 5 (some 58) (v := ?v5) rfl rfl (by kernel_rfl) (fun _ _ _ h => h) rfl (fun w' => ?y5) ?_   
  case y5 => go_simp; try with_reducible rfl
  try simp only [Act.put, List.setIfInBounds_toArray, List.set_cons_zero, List.set_cons_succ]
  refine At.pure 6 (some 59) (v := ?v6) rfl rfl (by kernel_rfl) (fun _ _ _ h => h) rfl (fun w' => ?y6) ?_   
  case y6 => go_simp; try with_reducible rfl
  try simp only [Act.put, List.setIfInBounds_toArray, List.set_cons_zero, List.set_cons_succ]
  refine At.pure 7 (some 60) (v := ?v7) rfl rfl (by kernel_rfl) (fun _ _ _ h => h) rfl (fun w' => ?y7) ?_   
  case y7 => go_simp; try with_reducible rfl
  try simp only [Act.put, List.setIfInBounds_toArray, List.set_cons_zero, List.set_cons_succ]
  refine At.read 8 (some 61) (fun w' => w'.cell? ⟨X, 1, none⟩ = some (.int .i64 ((p : Int) + x))) (v := (.int .i64 ((p : Int) + x))) rfl rfl (by kernel_rfl) (fun _ _ _ h => h) rfl g1 (fun w' hw' => ?y8) ?_   
  case y8 => skip; go_simp; try with_reducible rfl
  try simp only [Act.put, List.setIfInBounds_toArray, List.set_cons_zero, List.set_cons_succ]
  refine At.pure 9 (some 62) (v := ?v9) rfl rfl (by kernel_rfl) (fun _ _ _ h => h) rfl (fun w' => ?y9) ?_   
  case y9 => go_simp; try with_reducible rfl
  try simp only [Act.put, List.setIfInBounds_toArray, List.set_cons_zero, List.set_cons_succ]
  refine At.pure 10 (some 63) (v := ?v10) rfl rfl (by kernel_rfl) (fun _ _ _ h => h) rfl (fun w' => ?y10) ?_   
  case y10 => go_simp; try with_reducible rfl
  try simp only [Act.put, List.setIfInBounds_toArray, List.set_cons_zero, List.set_cons_succ]
  refine At.pure 11 (some 64) (v := ?v11) rfl rfl (by kernel_rfl) (fun _ _ _ h => h) rfl (fun w' => ?y11) ?_   
  case y11 => go_simp; try with_reducible rfl
  try simp only [Act.put, List.setIfInBounds_toArray, List.set_cons_zero, List.set_cons_succ]
  refine At.pure 12 (some 65) (v := ?v12) rfl rfl (by kernel_rfl) (fun _ _ _ h => h) rfl (fun w' => ?y12) ?_   
  case y12 => go_simp; try with_reducible rfl
  try simp only [Act.put, List.setIfInBounds_toArray, List.set_cons_zero, List.set_cons_succ]
  refine At.pure 13 (some 66) (v := ?v13) rfl rfl (by kernel_rfl) (fun _ _ _ h => h) rfl (fun w' => ?y13) ?_   
  case y13 => go_simp; try with_reducible rfl
  try simp only [Act.put, List.setIfInBounds_toArray, List.set_cons_zero, List.set_cons_succ]
  refine At.read 14 (some 67) (fun w' => w'.cell? ⟨X, 1, none⟩ = some (.int .i64 ((p : Int) + x))) (v := (.int .i64 ((p : Int) + x))) rfl rfl (by kernel_rfl) (fun _ _ _ h => h) rfl g1 (fun w' hw' => ?y14) ?_   
  case y14 => skip; go_simp; try with_reducible rfl
  try simp only [Act.put, List.setIfInBounds_toArray, List.set_cons_zero, List.set_cons_succ]
  refine At.pure 15 (some 68) (v := ?v15) rfl rfl (by kernel_rfl) (fun _ _ _ h => h) rfl (fun w' => ?y15) ?_   
  case y15 => go_simp; try with_reducible rfl
  try simp only [Act.put, List.setIfInBounds_toArray, List.set_cons_zero, List.set_cons_succ]
  refine At.call 0 (pend' := [(14, (fun w' => w'.cell? ⟨X, 1, none⟩ = some (.int .i64 ((p : Int) + x)))), (8, (fun w' => w'.cell? ⟨X, 1, none⟩ = some (.int .i64 ((p : Int) + x)))), (4, (fun w' => w'.cell? ⟨X, 0, none⟩ = some (.slice A n c)))]) rfl (by kernel_rfl) rfl (by kernel_rfl) (fun K hK => ?_)   
  go_simp
  skip
  refine hK _ _ (all_cons (((Keep.refl (fun _ => False) _).alloc _).cell g1 (fun h => h)) (all_cons (((Keep.refl (fun _ => False) _).alloc _).cell g1 (fun h => h)) (all_cons (((Keep.refl (fun _ => False) _).alloc _).cell g0 (fun h => h)) all_nil))) ?_
  clear hK K
  try simp only [Act.put, List.setIfInBounds_toArray, List.set_cons_zero, List.set_cons_succ]
  refine At.call 16 (pend' := []) rfl (by kernel_rfl) rfl (by kernel_rfl) (fun K hK => ?_)   
  refine wp_append_src _ (.tmp 53) (.tmp 68) _ rfl w3.drew.heap.size 5 i0 _ 1 Try.underlying22 hi0 hz0 hz1 hz2 rfl _ 0 [] rfl (World.ownsRow_made w3.drew #[] 0 (Nat.le_refl _) (by simp [maxLen]) rfl) _ x _ _ rfl (HRD.out.drew.alloc _) (oneCell_ints _ _) (by simp only [maxLen]; omega) (by omega) (by simp) ?_
  intro v5 w5 hown5 hg5 hat5 _hold5
  simp only [Nat.zero_add, List.nil_append] at hown5
  obtain ⟨A5, c5, rfl⟩ := own_form hown5
  have hk5 : Keep (fun _ => False) w3 w5 := ((Keep.refl _ w3).alloc (.cells #[] 5)).drew.grown hg5 (fun k hk => by
    have hh : some w3.heap.size = some k := hk
    injection hh with hh
    right; omega)
  have HO5 := hid (own_mono hown5 (show w.heap.size ≤ w3.drew.heap.size from HF.out.2.size))
  have HK5 := hid hk5
  clear hg5 hat5 _hold5 hown5 hk5
  refine hK _ _ all_nil ?_
  clear hK K
  try simp only [Act.put, List.setIfInBounds_toArray, List.set_cons_zero, List.set_cons_succ]
  refine At.pure 17 (some 4) (v := ?v17) rfl rfl (by kernel_rfl) (fun _ _ _ h => h) rfl (fun w' => ?y17) ?_   
  case y17 => go_simp; try with_reducible rfl
  try simp only [Act.put, List.setIfInBounds_toArray, List.set_cons_zero, List.set_cons_succ]
  refine At.done (by kernel_rfl) ?_
  have HFIN := hid (show XTakeP w X A n c zs p x (.returned (.slice A5 x c5)) w5 from ⟨A5, c5, rfl, HO5.out, HF.out.1.keep HK5.out (fun h => h) (fun _ _ _ h => h), HF.out.2.trans HK5.out (fun _ _ h => h.elim)⟩)
  go_wp2_with fail
  all_goals go_ret
  all_goals first
    | exact HFIN.out
    | (have e : c = p := by assumption
       have hf := HFIN.out
       rw [e] at hf
       exact hf)

/-- What a Get that goes well leaves. -/
def XGetP (w : World) (X : Nat) (A : Option Addr) (n c : Nat) (zs : List Int) (p x : Nat) (en : Ending) (w' : World) : Prop :=
  en = .returned (.int .i64 (getV ((zs.drop p).take x))) ∧ XB w' X A n c zs (p + x) 0 ∧ Keep (fun k => k = X) w w'

set_option maxHeartbeats 1600000 in
theorem xget_yes (w : World) (X : Nat) (A : Option Addr) (n c : Nat) (zs : List Int) (p x : Nat) (h : XB w X A n c zs p 0) (h1x : 1 ≤ x) (hx8 : x ≤ 8) (hx : x ≤ n - p) (hc : c ≤ 140737488351232) :
    Calls Try.prog 20 #[.pointer (some ⟨X, 0, none⟩), .int .i64 x] w (XGetP w X A n c zs p x) := by
  have h2 : w.cell? ⟨X, 2, none⟩ = some (.int .i64 0) := h.blk.cell 2
  have htl : ((zs.drop p).take x).length = x := by rw [List.length_take, h.left]; omega
  have HTK := hid (xtake_yes w X A n c zs p x h hx hc)
  clear h
  go_enter Try.func20, Try.ntmps20
  go_wp2_with fail
  refine HTK.out.mono ?_
  rintro en w1 ⟨A1, c1, rfl, hown, hr, hk⟩
  have HP : Hid (∀ v, v = foldU ((zs.drop p).take x) → XGetP w X A n c zs p x (.returned (.int .i64 (wrap64 v))) w1) := fun v hv => by subst hv; exact ⟨rfl, hr, hk⟩
  generalize (zs.drop p).take x = t at *
  have HO := hid hown
  have HT := hid htl
  clear hown hr hk htl HTK
  go_wp2_with fail
  go_loop [5, 7] (fun u i => ∃ (j : Nat), j ≤ x ∧ i = .int .i64 j ∧ u = .int .u64 (foldU (t.take j))) (fun _ i => x - (intOf i).toNat)
  case atStart => exact ⟨0, by omega, rfl, rfl⟩
  case round =>
    obtain ⟨j, hj, rfl, rfl⟩ := hrel
    by_cases hlt : j < x
    · obtain ⟨g, rfl, hg1, hg2, hg3, _⟩ := own_at HO.out (by omega)
      have hjl : j < t.length := by rw [HT.out]; exact hlt
      have hcell : w1.cell? ⟨g, j, none⟩ = some (.int .u8 (t.getD j 0)) := hg3 j _ (by simp [hjl])
      have HS : Hid (foldU (t.take (j + 1)) = accU (foldU (t.take j)) (t.getD j 0)) := by
        show foldU (t.take (j + 1)) = _
        rw [take_snoc t j hjl, foldU_snoc]
      clear hg3 hjl
      generalize t.getD j 0 = z at *
      generalize hq : foldU (t.take j) = q at *
      clear hq
      go_wp2_with fail
      go_round
      case rel => exact ⟨j + 1, by omega, by go_num, by rw [HS.out]; rfl⟩
      case measure => simp [intOf]; omega
    · have hjx : x ≤ j := by omega
      have hv : foldU (t.take j) = foldU t := by rw [List.take_of_length_le (by rw [HT.out]; exact hjx)]
      have HV := hid hv
      clear hv
      generalize foldU (t.take j) = q at *
      go_wp2_with fail
      go_ret
      exact HP.out q HV.out

set_option maxHeartbeats 1600000 in
theorem xget_no (w : World) (X : Nat) (A : Option Addr) (n c : Nat) (zs : List Int) (p : Nat) (e x : Int) (h : XB w X A n c zs p e) (hx : fitsB x = false) :
    Calls Try.prog 20 #[.pointer (some ⟨X, 0, none⟩), .int .i64 x] w fun en w' => en = .returned (.int .i64 0) ∧ XB w' X A n c zs p (errOr e 1) ∧ Keep (fun k => k = X) w w' := by
  have h2 : w.cell? ⟨X, 2, none⟩ = some (.int .i64 e) := h.blk.cell 2
  have f2 := h.blk.frozen 2
  have hle := h.le
  have H := hid h
  have HBL := hid h.blk
  clear h
  have hx' : ¬ (1 ≤ x ∧ x ≤ 8) := by simpa [fitsB] using hx
  clear hx
  by_cases he : e = 0
  · subst he
    have hE : errOr 0 1 = 1 := rfl
    rw [hE]
    by_cases c1 : x < 1
    ·
      go_enter Try.func20, Try.ntmps20
      go_wp2_with fail
      go_ret
      refine ⟨rfl, ?_⟩
      apply XB.fin H.out
      · with_reducible (repeat (first | refine Keep.drew ?_ | refine Keep.drewN ?_ _ | refine Keep.setR ?_ _ _ | exact Keep.refl _ _))
      · with_reducible (repeat (first | apply Blk.drew | apply Blk.drewN | apply Blk.set_ | exact HBL.out))
      · first | rfl | simp
      · omega
    · have c2 : 8 < x := by omega
      go_enter Try.func20, Try.ntmps20
      go_wp2_with fail
      go_ret
      refine ⟨rfl, ?_⟩
      apply XB.fin H.out
      · with_reducible (repeat (first | refine Keep.drew ?_ | refine Keep.drewN ?_ _ | refine Keep.setR ?_ _ _ | exact Keep.refl _ _))
      · with_reducible (repeat (first | apply Blk.drew | apply Blk.drewN | apply Blk.set_ | exact HBL.out))
      · first | rfl | simp
      · omega
  · have hE : errOr e 1 = e := if_neg he
    rw [hE]
    have he' : (e == 0) = false := by simp [he]
    have he2 : (e != 0) = true := by simp [he]
    clear he hE
    go_enter Try.func20, Try.ntmps20
    go_wp2_with fail
    go_ret
    refine ⟨rfl, ?_⟩
    apply XB.fin H.out
    · with_reducible (repeat (first | refine Keep.drew ?_ | refine Keep.drewN ?_ _ | refine Keep.setR ?_ _ _ | exact Keep.refl _ _))
    · with_reducible (repeat (first | apply Blk.drew | apply Blk.drewN | apply Blk.set_ | exact HBL.out))
    · first | rfl | simp
    · omega
set_option maxHeartbeats 1600000 in
theorem xget_cut (w : World) (X : Nat) (A : Option Addr) (n c : Nat) (zs : List Int) (p : Nat) (e x : Int) (h : XB w X A n c zs p e) (hn : n ≤ 140737488355328) (hf : fitsB x = true) (hx : takeE (zs.drop p) e x ≠ 0) :
    Calls Try.prog 20 #[.pointer (some ⟨X, 0, none⟩), .int .i64 x] w fun en w' => en = .returned (.int .i64 0) ∧ XB w' X A n c zs p (takeE (zs.drop p) e x) ∧ Keep (fun k => k = X) w w' := by
  have h2 : w.cell? ⟨X, 2, none⟩ = some (.int .i64 e) := h.blk.cell 2
  have f2 := h.blk.frozen 2
  have hle := h.le
  have H := hid h
  have HBL := hid h.blk
  have hx' : 1 ≤ x ∧ x ≤ 8 := by simpa [fitsB] using hf
  obtain ⟨x1, x2⟩ := hx'
  by_cases he : e = 0
  · subst he
    have HTK := hid (xtake_no w X A n c zs p 0 x h hn hx)
    clear h hx hf
    go_enter Try.func20, Try.ntmps20
    go_wp2_with fail
    refine HTK.out.mono ?_
    rintro en w1 ⟨rfl, hr, hk⟩
    have HR := hid hr
    clear hr HTK
    go_wp2_with fail
    refine wp_loop_rounds 1 ?_
    rw [rounds_succ]
    go_wp2_with fail
    go_ret
    exact ⟨rfl, HR.out, hk⟩
  · have hE : takeE (zs.drop p) e x = e := if_neg he
    rw [hE]
    have he' : (e == 0) = false := by simp [he]
    have he2 : (e != 0) = true := by simp [he]
    clear he hE hx hf h
    go_enter Try.func20, Try.ntmps20
    go_wp2_with fail
    go_ret
    refine ⟨rfl, ?_⟩
    apply XB.fin H.out
    · with_reducible (repeat (first | refine Keep.drew ?_ | refine Keep.drewN ?_ _ | refine Keep.setR ?_ _ _ | exact Keep.refl _ _))
    · with_reducible (repeat (first | apply Blk.drew | apply Blk.drewN | apply Blk.set_ | exact HBL.out))
    · first | rfl | simp
    · omega
set_option maxHeartbeats 400000 in
theorem newx_any (w : World) (A : Option Addr) (n c : Nat) (zs : List Int) (h : Rd w A n (zs.map (Value.int .u8))) (hcap : n ≤ c) (hlow : 0 < n → ∀ ad, A = some ad → ad.block < w.heap.size) :
    Calls Try.prog 18 #[.slice A n c] w fun en w' => en = .returned (.pointer (some ⟨w.heap.size, 0, none⟩)) ∧ XB w' w.heap.size A n c zs 0 0 ∧ Keep (fun _ => False) w w' := by
  go_enter Try.func18, Try.ntmps18
  go_wp2_with fail
  go_ret
  exact ⟨rfl, ⟨Blk.new _ _ _, h.alloc _, hcap, fun hn ad e => by have := hlow hn ad e; omega, Nat.zero_le _⟩, (Keep.refl _ w).alloc _⟩
end Go.Proofs.Ytaoikgopadladaa
