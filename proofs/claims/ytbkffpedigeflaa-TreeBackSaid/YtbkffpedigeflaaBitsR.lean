/-
  The program's reader of bits. Conditions: at most 2^40 bytes are read.
-/
import Derived.Test.YtbkffpedigeflaaBitsW
namespace Go.Proofs.Ytbkffpedigeflaa
open Go.RowKit

/-- The reader at block R: bytes l (at A, with n and c), how many bytes were begun, how many bits are left, whether it is bad. -/
structure Rr (w : World) (base R : Nat) (A : Option Addr) (n c : Nat) (l : List Int) (p : Nat) (r : Int) (bad : Bool) : Prop where
  blk : Blk w R 75 #[.slice A n c, .int .i64 p, .int .i64 r, .bool bad]
  own : w.ownsRow base 5 1 (.slice A n c) n (l.map (Value.int .u8))
theorem Rr.len {w : World} {base R : Nat} {A : Option Addr} {n c : Nat} {l : List Int} {r : Int} {p : Nat} {bad : Bool} (h : Rr w base R A n c l p r bad) : l.length = n := by have := h.own.1; simpa using this
theorem Rr.keep {w w' : World} {base R : Nat} {A : Option Addr} {n c : Nat} {l : List Int} {r : Int} {p : Nat} {bad : Bool} (h : Rr w base R A n c l p r bad) {S : Nat → Prop} (hk : Keep S w w') (hW : ¬ S R) (hA : ∀ ad, A = some ad → ¬ S ad.block) : Rr w' base R A n c l p r bad :=
  ⟨h.blk.keep hk hW, own_keep h.own hk (fun k e hs => by
    obtain ⟨ad, rfl, rfl⟩ := own_foot e
    exact hA ad rfl hs)⟩
theorem Rr.set {w w' : World} {base R : Nat} {A : Option Addr} {n c : Nat} {l : List Int} {r r' : Int} {p p' : Nat} {bad bad' : Bool} (h : Rr w base R A n c l p r bad) (hk : Keep (fun k => k = R) w w') (hb : Blk w' R 75 #[.slice A n c, .int .i64 p', .int .i64 r', .bool bad']) : Rr w' base R A n c l p' r' bad' :=
  ⟨hb, own_keep h.own hk (fun k e hs => own_ne h.own h.blk (by decide) (by rw [e, hs]))⟩
theorem Rr.aside {w w' : World} {base R : Nat} {A : Option Addr} {n c : Nat} {l : List Int} {r : Int} {p : Nat} {bad : Bool} (h : Rr w base R A n c l p r bad) (hk : Keep (fun _ => False) w w') : Rr w' base R A n c l p r bad := h.keep hk (fun h => h) (fun _ _ h => h)

/-- The byte at a place; outside: 0. -/
def atM (l : List Int) (k : Int) : Int := if k < 0 then 0 else l.getD k.toNat 0
theorem atM_byte {l : List Int} (h : Bytes l) (k : Int) : 0 ≤ atM l k ∧ atM l k ≤ 255 := by
  unfold atM
  split
  · omega
  · rcases Nat.lt_or_ge k.toNat l.length with hk | hk
    · rw [List.getD_eq_getElem?_getD, List.getElem?_eq_getElem hk]
      exact h _ (List.getElem_mem hk)
    · rw [List.getD_eq_getElem?_getD, List.getElem?_eq_none hk]; simp
/-- How many bits a byte has behind another one. -/
def roomM (z : Int) : Int := if z = 255 then 7 else 8
theorem room_le (z : Int) : 7 ≤ roomM z ∧ roomM z ≤ 8 := by unfold roomM; split <;> omega

set_option maxHeartbeats 400000 in
theorem at_any (w : World) (base R : Nat) (A : Option Addr) (n c : Nat) (l : List Int) (p : Nat) (r : Int) (bad : Bool) (k : Int) (h : Rr w base R A n c l p r bad) :
    Calls Try.prog 32 #[.pointer (some ⟨R, 0, none⟩), .int .i64 k] w fun e w' => e = .returned (.int .u8 (atM l k)) ∧ w = w' := by
  have h0 : w.cell? ⟨R, 0, none⟩ = some (.slice A n c) := h.blk.cell 0
  by_cases h1 : k < 0
  · have HM := hid (show atM l k = 0 from if_pos h1)
    clear h
    go_enter Try.func32, Try.ntmps32
    go_wp2_with fail
    go_ret
    exact ⟨by rw [HM.out]; rfl, rfl⟩
  · by_cases h2 : (n : Int) ≤ k
    · have HM := hid (show atM l k = 0 by
        unfold atM
        rw [if_neg h1, List.getD_eq_getElem?_getD, List.getElem?_eq_none (by rw [h.len]; omega)]; rfl)
      clear h
      go_enter Try.func32, Try.ntmps32
      go_wp2_with fail
      go_ret
      exact ⟨by rw [HM.out]; rfl, rfl⟩
    · obtain ⟨j, rfl⟩ := Int.eq_ofNat_of_zero_le (show 0 ≤ k by omega)
      have hj : j < n := by omega
      obtain ⟨g, rfl, hgc, hgb, hgl, _⟩ := own_at h.own (by omega)
      have g0 : w.cell? ⟨g, j, none⟩ = some (.int .u8 (atM l j)) := by
        have := hgl j _ (map_at _ _ j (by rw [h.len]; omega))
        unfold atM
        rw [if_neg h1]
        exact this
      clear h hgl
      generalize atM l j = z at *
      go_enter Try.func32, Try.ntmps32
      go_wp2_with fail
      go_ret
      exact ⟨rfl, rfl⟩

def rdL (l : List Int) (p : Nat) (r : Int) : Int := (if r = 0 then roomM (atM l ((p : Int) - 1)) else r) - 1
def rdP (p : Nat) (r : Int) : Nat := if r = 0 then p + 1 else p
def badM (l : List Int) (p : Nat) (r : Int) (bad : Bool) : Bool := bad || (decide (r = 0 ∧ atM l ((p : Int) - 1) = 255 ∧ 128 ≤ atM l p))
def rdB (l : List Int) (p : Nat) (r : Int) : Int := atM l ((rdP p r : Int) - 1) / 2 ^ (rdL l p r).toNat % 2

theorem bit_at (z r : Int) (hz : 0 ≤ z ∧ z ≤ 255) (hr : 0 < r) : bits BinOp.and IntKind.i64 (IntKind.i64.wrap (z / 2 ^ (r.toNat - 1))) 1 = z / 2 ^ (r - 1).toNat % 2 := by
  have e : r.toNat - 1 = (r - 1).toNat := by omega
  have hp : (0 : Int) < 2 ^ (r - 1).toNat := Int.pow_pos (by omega)
  have h1 : 0 ≤ z / 2 ^ (r - 1).toNat := Int.ediv_nonneg hz.1 (by omega)
  have h2 : z / 2 ^ (r - 1).toNat ≤ z := Int.ediv_le_self _ hz.1
  rw [e, and_one, IntWalk.i64_in _ (by omega)]

set_option maxHeartbeats 800000 in
theorem rd_more (w : World) (base R : Nat) (A : Option Addr) (n c : Nat) (l : List Int) (p : Nat) (r : Int) (bad : Bool) (h : Rr w base R A n c l p r bad) (hb : Bytes l) (hr : 0 < r) (hr8 : r ≤ 8) (hp : p ≤ 1099511627776) :
    Calls Try.prog 16 #[.pointer (some ⟨R, 0, none⟩)] w fun e w' => e = .returned (.int .i64 (atM l ((p : Int) - 1) / 2 ^ (r - 1).toNat % 2)) ∧ Rr w' base R A n c l p (r - 1) bad ∧ Keep (fun k => k = R) w w' := by
  have h1 : w.cell? ⟨R, 1, none⟩ = some (.int .i64 p) := h.blk.cell 1
  have h2 : w.cell? ⟨R, 2, none⟩ = some (.int .i64 r) := h.blk.cell 2
  have f2 := h.blk.frozen 2
  have hr0 : (r == 0) = false := by simp; omega
  have hz := atM_byte hb ((p : Int) - 1)
  have hk : Keep (fun k => k = R) w (w.setCell ⟨R, 2, none⟩ (.int .i64 (r - 1))) := (Keep.refl _ w).setR 2 _
  have HS := hid (h.set hk (h.blk.set_ 2 (.int .i64 (r - 1))))
  have HK := hid hk
  clear h hk
  have wp : IntKind.i64.wrap ((p : Int) - 1) = (p : Int) - 1 := IntWalk.i64_in _ (by omega)
  have HB := hid (fun (w' : World) (hw' : Rr w' base R A n c l p (r - 1) bad) => at_any w' base R A n c l p (r - 1) bad ((p : Int) - 1) hw')
  generalize hzz : atM l ((p : Int) - 1) = z at *
  clear hzz
  go_enter Try.func16, Try.ntmps16
  go_wp2_with fail
  generalize hw6 : w.setCell ⟨R, 2, none⟩ (.int .i64 (r - 1)) = w6 at *
  clear hw6 h1 h2
  -- w6: the reader with Q - 1 in slot 1 and L bits left; HB: at's contract there
  have g1 : w6.cell? ⟨R, 2, none⟩ = some (.int .i64 (r - 1)) := HS.out.blk.cell 2
  have g2 : w6.cell? ⟨R, 1, none⟩ = some (.int .i64 (p)) := HS.out.blk.cell 1
  -- region 8: 15 operations
  refine At.start (L := #[false, false, false, false, false, false, false, false, false, false, false, false, false, false, false]) (by kernel_rfl) rfl ?_
  refine At.pure 0 (some 52) (v := ?v0a) rfl rfl (by kernel_rfl) (fun _ _ _ h => h) rfl (fun w' => ?y0a) ?_   
  case y0a => go_simp; try with_reducible rfl
  try simp only [Act.put, List.setIfInBounds_toArray, List.set_cons_zero, List.set_cons_succ]
  refine At.pure 1 (some 53) (v := ?v1a) rfl rfl (by kernel_rfl) (fun _ _ _ h => h) rfl (fun w' => ?y1a) ?_   
  case y1a => go_simp; try with_reducible rfl
  try simp only [Act.put, List.setIfInBounds_toArray, List.set_cons_zero, List.set_cons_succ]
  refine At.pure 2 (some 54) (v := ?v2a) rfl rfl (by kernel_rfl) (fun _ _ _ h => h) rfl (fun w' => ?y2a) ?_   
  case y2a => go_simp; try with_reducible rfl
  try simp only [Act.put, List.setIfInBounds_toArray, List.set_cons_zero, List.set_cons_succ]
  refine At.pure 3 (some 55) (v := ?v3a) rfl rfl (by kernel_rfl) (fun _ _ _ h => h) rfl (fun w' => ?y3a) ?_   
  case y3a => go_simp; try with_reducible rfl
  try simp only [Act.put, List.setIfInBounds_toArray, List.set_cons_zero, List.set_cons_succ]
  refine At.read 4 (some 56) (fun w' => w'.cell? ⟨R, 1, none⟩ = some (.int .i64 (p))) (v := (.int .i64 (p))) rfl rfl (by kernel_rfl) (fun _ _ _ h => h) rfl g2 (fun w' hw' => ?y4a) ?_   
  case y4a => skip; go_simp; try with_reducible rfl
  try simp only [Act.put, List.setIfInBounds_toArray, List.set_cons_zero, List.set_cons_succ]
  refine At.pure 5 (some 57) (v := ?v5a) rfl rfl (by kernel_rfl) (fun _ _ _ h => h) rfl (fun w' => ?y5a) ?_   
  case y5a => go_simp; try with_reducible rfl
  try simp only [Act.put, List.setIfInBounds_toArray, List.set_cons_zero, List.set_cons_succ]
  refine At.pure 7 (some 59) (v := ?v7a) rfl rfl (by kernel_rfl) (fun _ _ _ h => h) rfl (fun w' => ?y7a) ?_   
  case y7a => go_simp; try with_reducible rfl
  try simp only [Act.put, List.setIfInBounds_toArray, List.set_cons_zero, List.set_cons_succ]
  refine At.pure 8 (some 60) (v := ?v8a) rfl rfl (by kernel_rfl) (fun _ _ _ h => h) rfl (fun w' => ?y8a) ?_   
  case y8a => go_simp; try with_reducible rfl
  try simp only [Act.put, List.setIfInBounds_toArray, List.set_cons_zero, List.set_cons_succ]
  refine At.pure 9 (some 61) (v := ?v9a) rfl rfl (by kernel_rfl) (fun _ _ _ h => h) rfl (fun w' => ?y9a) ?_   
  case y9a => go_simp; try with_reducible rfl
  try simp only [Act.put, List.setIfInBounds_toArray, List.set_cons_zero, List.set_cons_succ]
  refine At.read 10 (some 62) (fun w' => w'.cell? ⟨R, 2, none⟩ = some (.int .i64 (r - 1))) (v := (.int .i64 (r - 1))) rfl rfl (by kernel_rfl) (fun _ _ _ h => h) rfl g1 (fun w' hw' => ?y10a) ?_   
  case y10a => skip; go_simp; try with_reducible rfl
  try simp only [Act.put, List.setIfInBounds_toArray, List.set_cons_zero, List.set_cons_succ]
  refine At.call 6 (pend' := [(10, (fun w' => w'.cell? ⟨R, 2, none⟩ = some (.int .i64 (r - 1))))]) rfl (by kernel_rfl) rfl (by kernel_rfl) (fun K hK => ?_)   
  go_simp
  refine (HB.out _ (HS.out.aside (Keep.refl (fun _ => False) w6).drew)).mono ?_
  rintro e w7 ⟨rfl, rfl⟩
  refine hK _ _ (all_cons g1 all_nil) ?_
  clear hK K
  try simp only [Act.put, List.setIfInBounds_toArray, List.set_cons_zero, List.set_cons_succ]
  refine At.pure 11 (some 63) (v := ?v11a) rfl rfl (by kernel_rfl) (fun _ _ _ h => h) rfl (fun w' => ?y11a) ?_   
  case y11a => go_simp; try with_reducible rfl
  try simp only [Act.put, List.setIfInBounds_toArray, List.set_cons_zero, List.set_cons_succ]
  refine At.pure 12 (some 64) (v := ?v12a) rfl rfl (by kernel_rfl) (fun _ _ _ h => h) rfl (fun w' => ?y12a) ?_   
  case y12a => go_simp; try with_reducible rfl
  try simp only [Act.put, List.setIfInBounds_toArray, List.set_cons_zero, List.set_cons_succ]
  refine At.pure 13 (some 65) (v := ?v13a) rfl rfl (by kernel_rfl) (fun _ _ _ h => h) rfl (fun w' => ?y13a) ?_   
  case y13a => go_simp; try with_reducible rfl
  try simp only [Act.put, List.setIfInBounds_toArray, List.set_cons_zero, List.set_cons_succ]
  refine At.pure 14 (some 2) (v := ?v14a) rfl rfl (by kernel_rfl) (fun _ _ _ h => h) rfl (fun w' => ?y14a) ?_   
  case y14a => go_simp; try with_reducible rfl
  try simp only [Act.put, List.setIfInBounds_toArray, List.set_cons_zero, List.set_cons_succ]
  refine At.done (by kernel_rfl) ?_
  go_wp2_with fail
  go_ret
  exact ⟨ret_i64 (bit_at z r hz hr), HS.out.aside (Keep.refl (fun _ => False) w6).drew, HK.out.drew⟩

theorem two_sets {w : World} {R : Nat} {t : TypeId} {s x y b : Value} (u v y' : Value) (h : Blk w R t #[s, x, y, b]) : Blk (((w.setCell ⟨R, 2, none⟩ u).setCell ⟨R, 1, none⟩ v).setCell ⟨R, 2, none⟩ y') R t #[s, v, y', b] :=
  ((h.set_ 2 u).set_ 1 v).set_ 2 y'
theorem bit_lit (z : Int) (t : Nat) (hz : 0 ≤ z ∧ z ≤ 255) : bits BinOp.and IntKind.i64 (IntKind.i64.wrap (z / 2 ^ t)) 1 = z / 2 ^ t % 2 := by
  have := bit_at z (t + 1) hz (by omega)
  have e1 : ((t : Int) + 1).toNat - 1 = t := by omega
  have e2 : ((t : Int) + 1 - 1).toNat = t := by omega
  rw [e1, e2] at this
  exact this
set_option maxHeartbeats 1600000 in
theorem rd_8 (w : World) (base R : Nat) (A : Option Addr) (n c : Nat) (l : List Int) (p : Nat) (bad : Bool) (h : Rr w base R A n c l p 0 bad) (hb : Bytes l) (hz0 : atM l ((p : Int) - 1) ≠ 255) (hp : p ≤ 1099511627776) :
    Calls Try.prog 16 #[.pointer (some ⟨R, 0, none⟩)] w fun e w' => e = .returned (.int .i64 (atM l p / 2 ^ 7 % 2)) ∧ Rr w' base R A n c l (p + 1) 7 bad ∧ Keep (fun k => k = R) w w' := by
  have h1 : w.cell? ⟨R, 1, none⟩ = some (.int .i64 p) := h.blk.cell 1
  have h2 : w.cell? ⟨R, 2, none⟩ = some (.int .i64 0) := h.blk.cell 2
  have h3 : w.cell? ⟨R, 3, none⟩ = some (.bool bad) := h.blk.cell 3
  have f3 := h.blk.frozen 3
  have f2 := h.blk.frozen 2
  have f1 := h.blk.frozen 1
  have H := hid h
  have hz := atM_byte hb p
  have hk6 : Keep (fun k => k = R) w (((w.setCell ⟨R, 2, none⟩ (.int .i64 8)).setCell ⟨R, 1, none⟩ (.int .i64 ((p : Int) + 1))).setCell ⟨R, 2, none⟩ (.int .i64 7)) := (((Keep.refl _ w).setR (R := R) 2 (.int .i64 8)).setR 1 (.int .i64 ((p : Int) + 1))).setR 2 (.int .i64 7)
  have HS := hid (h.set (p' := p + 1) (r' := 7) (bad' := bad) hk6 (by have := two_sets (.int .i64 8) (.int .i64 ((p : Int) + 1)) (.int .i64 7) h.blk; simpa using this))
  have HK := hid hk6
  have HB0 := hid (at_any (w.setCell ⟨R, 2, none⟩ (.int .i64 8)) base R A n c l p 8 bad ((p : Int) - 1) (h.set ((Keep.refl _ w).setR 2 _) (h.blk.set_ 2 (.int .i64 8))))
  have hzf : (atM l ((p : Int) - 1) == 255) = false := by simpa using hz0
  clear h hz0 hk6
  have wp : IntKind.i64.wrap ((p : Int) - 1) = (p : Int) - 1 := IntWalk.i64_in _ (by omega)
  generalize atM l ((p : Int) - 1) = z0 at *
  have HB := hid (fun (w' : World) (hw' : Rr w' base R A n c l (p + 1) 7 bad) => at_any w' base R A n c l (p + 1) 7 bad (p : Int) hw')
  generalize hzz : atM l p = z at *
  clear hzz
  go_enter Try.func16, Try.ntmps16
  go_wp2_with fail
  refine HB0.out.mono ?_
  rintro e w7 ⟨rfl, rfl⟩
  go_wp2_with fail
  generalize hw6 : ((w.setCell ⟨R, 2, none⟩ (.int .i64 8)).setCell ⟨R, 1, none⟩ (.int .i64 ((p : Int) + 1))).setCell ⟨R, 2, none⟩ (.int .i64 7) = w6 at *
  clear hw6 h1 h2 h3
  have wp1 : IntKind.i64.wrap (p : Int) = (p : Int) := IntWalk.i64_in _ (by omega)
  -- w6: the reader with Q - 1 in slot 1 and L bits left; HB: at's contract there
  have g1 : w6.cell? ⟨R, 2, none⟩ = some (.int .i64 (7)) := HS.out.blk.cell 2
  have g2 : w6.cell? ⟨R, 1, none⟩ = some (.int .i64 (p + 1)) := HS.out.blk.cell 1
  -- region 8: 15 operations
  refine At.start (L := #[false, false, false, false, false, false, false, false, false, false, false, false, false, false, false]) (by kernel_rfl) rfl ?_
  refine At.pure 0 (some 52) (v := ?v0b) rfl rfl (by kernel_rfl) (fun _ _ _ h => h) rfl (fun w' => ?y0b) ?_   
  case y0b => go_simp; try with_reducible rfl
  try simp only [Act.put, List.setIfInBounds_toArray, List.set_cons_zero, List.set_cons_succ]
  refine At.pure 1 (some 53) (v := ?v1b) rfl rfl (by kernel_rfl) (fun _ _ _ h => h) rfl (fun w' => ?y1b) ?_   
  case y1b => go_simp; try with_reducible rfl
  try simp only [Act.put, List.setIfInBounds_toArray, List.set_cons_zero, List.set_cons_succ]
  refine At.pure 2 (some 54) (v := ?v2b) rfl rfl (by kernel_rfl) (fun _ _ _ h => h) rfl (fun w' => ?y2b) ?_   
  case y2b => go_simp; try with_reducible rfl
  try simp only [Act.put, List.setIfInBounds_toArray, List.set_cons_zero, List.set_cons_succ]
  refine At.pure 3 (some 55) (v := ?v3b) rfl rfl (by kernel_rfl) (fun _ _ _ h => h) rfl (fun w' => ?y3b) ?_   
  case y3b => go_simp; try with_reducible rfl
  try simp only [Act.put, List.setIfInBounds_toArray, List.set_cons_zero, List.set_cons_succ]
  refine At.read 4 (some 56) (fun w' => w'.cell? ⟨R, 1, none⟩ = some (.int .i64 (p + 1))) (v := (.int .i64 (p + 1))) rfl rfl (by kernel_rfl) (fun _ _ _ h => h) rfl g2 (fun w' hw' => ?y4b) ?_   
  case y4b => skip; go_simp; try with_reducible rfl
  try simp only [Act.put, List.setIfInBounds_toArray, List.set_cons_zero, List.set_cons_succ]
  refine At.pure 5 (some 57) (v := ?v5b) rfl rfl (by kernel_rfl) (fun _ _ _ h => h) rfl (fun w' => ?y5b) ?_   
  case y5b => go_simp; try with_reducible rfl
  try simp only [Act.put, List.setIfInBounds_toArray, List.set_cons_zero, List.set_cons_succ]
  refine At.pure 7 (some 59) (v := ?v7b) rfl rfl (by kernel_rfl) (fun _ _ _ h => h) rfl (fun w' => ?y7b) ?_   
  case y7b => go_simp; try with_reducible rfl
  try simp only [Act.put, List.setIfInBounds_toArray, List.set_cons_zero, List.set_cons_succ]
  refine At.pure 8 (some 60) (v := ?v8b) rfl rfl (by kernel_rfl) (fun _ _ _ h => h) rfl (fun w' => ?y8b) ?_   
  case y8b => go_simp; try with_reducible rfl
  try simp only [Act.put, List.setIfInBounds_toArray, List.set_cons_zero, List.set_cons_succ]
  refine At.pure 9 (some 61) (v := ?v9b) rfl rfl (by kernel_rfl) (fun _ _ _ h => h) rfl (fun w' => ?y9b) ?_   
  case y9b => go_simp; try with_reducible rfl
  try simp only [Act.put, List.setIfInBounds_toArray, List.set_cons_zero, List.set_cons_succ]
  refine At.read 10 (some 62) (fun w' => w'.cell? ⟨R, 2, none⟩ = some (.int .i64 (7))) (v := (.int .i64 (7))) rfl rfl (by kernel_rfl) (fun _ _ _ h => h) rfl g1 (fun w' hw' => ?y10b) ?_   
  case y10b => skip; go_simp; try with_reducible rfl
  try simp only [Act.put, List.setIfInBounds_toArray, List.set_cons_zero, List.set_cons_succ]
  refine At.call 6 (pend' := [(10, (fun w' => w'.cell? ⟨R, 2, none⟩ = some (.int .i64 (7))))]) rfl (by kernel_rfl) rfl (by kernel_rfl) (fun K hK => ?_)   
  go_simp
  refine (HB.out _ (HS.out.aside (Keep.refl (fun _ => False) w6).drew)).mono ?_
  rintro e w7 ⟨rfl, rfl⟩
  refine hK _ _ (all_cons g1 all_nil) ?_
  clear hK K
  try simp only [Act.put, List.setIfInBounds_toArray, List.set_cons_zero, List.set_cons_succ]
  refine At.pure 11 (some 63) (v := ?v11b) rfl rfl (by kernel_rfl) (fun _ _ _ h => h) rfl (fun w' => ?y11b) ?_   
  case y11b => go_simp; try with_reducible rfl
  try simp only [Act.put, List.setIfInBounds_toArray, List.set_cons_zero, List.set_cons_succ]
  refine At.pure 12 (some 64) (v := ?v12b) rfl rfl (by kernel_rfl) (fun _ _ _ h => h) rfl (fun w' => ?y12b) ?_   
  case y12b => go_simp; try with_reducible rfl
  try simp only [Act.put, List.setIfInBounds_toArray, List.set_cons_zero, List.set_cons_succ]
  refine At.pure 13 (some 65) (v := ?v13b) rfl rfl (by kernel_rfl) (fun _ _ _ h => h) rfl (fun w' => ?y13b) ?_   
  case y13b => go_simp; try with_reducible rfl
  try simp only [Act.put, List.setIfInBounds_toArray, List.set_cons_zero, List.set_cons_succ]
  refine At.pure 14 (some 2) (v := ?v14b) rfl rfl (by kernel_rfl) (fun _ _ _ h => h) rfl (fun w' => ?y14b) ?_   
  case y14b => go_simp; try with_reducible rfl
  try simp only [Act.put, List.setIfInBounds_toArray, List.set_cons_zero, List.set_cons_succ]
  refine At.done (by kernel_rfl) ?_
  go_wp2_with fail
  go_ret
  exact ⟨ret_i64 (bit_lit z 7 hz), HS.out.aside (Keep.refl (fun _ => False) w6).drew, HK.out.drew⟩

theorem three_sets {w : World} {R : Nat} {t : TypeId} {s x y b : Value} (u u' v y' b' : Value) (h : Blk w R t #[s, x, y, b]) : Blk (((((w.setCell ⟨R, 2, none⟩ u).setCell ⟨R, 2, none⟩ u').setCell ⟨R, 3, none⟩ b').setCell ⟨R, 1, none⟩ v).setCell ⟨R, 2, none⟩ y') R t #[s, v, y', b'] :=
  ((((h.set_ 2 u).set_ 2 u').set_ 3 b').set_ 1 v).set_ 2 y'
set_option maxHeartbeats 1600000 in
theorem rd_7t (w : World) (base R : Nat) (A : Option Addr) (n c : Nat) (l : List Int) (p : Nat) (h : Rr w base R A n c l p 0 true) (hb : Bytes l) (hz0 : atM l ((p : Int) - 1) = 255) (hp : p ≤ 1099511627776) :
    Calls Try.prog 16 #[.pointer (some ⟨R, 0, none⟩)] w fun e w' => e = .returned (.int .i64 (atM l p / 2 ^ 6 % 2)) ∧ Rr w' base R A n c l (p + 1) 6 true ∧ Keep (fun k => k = R) w w' := by
  obtain ⟨bad, hbad⟩ : ∃ b, b = true := ⟨true, rfl⟩
  have h : Rr w base R A n c l p 0 bad := by rw [hbad]; exact h
  have h1 : w.cell? ⟨R, 1, none⟩ = some (.int .i64 p) := h.blk.cell 1
  have h2 : w.cell? ⟨R, 2, none⟩ = some (.int .i64 0) := h.blk.cell 2
  have h3 : w.cell? ⟨R, 3, none⟩ = some (.bool bad) := h.blk.cell 3
  have f3 := h.blk.frozen 3
  have f2 := h.blk.frozen 2
  have f1 := h.blk.frozen 1
  have H := hid h
  have hz := atM_byte hb p
  subst hbad
  have hk6 : Keep (fun k => k = R) w (((((w.setCell ⟨R, 2, none⟩ (.int .i64 8)).setCell ⟨R, 2, none⟩ (.int .i64 7)).setCell ⟨R, 3, none⟩ (.bool true)).setCell ⟨R, 1, none⟩ (.int .i64 ((p : Int) + 1))).setCell ⟨R, 2, none⟩ (.int .i64 6)) := (((((Keep.refl _ w).setR (R := R) 2 (.int .i64 8)).setR 2 (.int .i64 7)).setR 3 (.bool true)).setR 1 (.int .i64 ((p : Int) + 1))).setR 2 (.int .i64 6)
  have HS := hid (h.set (p' := p + 1) (r' := 6) (bad' := true) hk6 (by have := three_sets (.int .i64 8) (.int .i64 7) (.int .i64 ((p : Int) + 1)) (.int .i64 6) (.bool true) h.blk; simpa using this))
  have HK := hid hk6
  have HB0 := hid (at_any (w.setCell ⟨R, 2, none⟩ (.int .i64 8)) base R A n c l p 8 true ((p : Int) - 1) (h.set ((Keep.refl _ w).setR 2 _) (h.blk.set_ 2 (.int .i64 8))))
  have HB1 := hid (at_any ((w.setCell ⟨R, 2, none⟩ (.int .i64 8)).setCell ⟨R, 2, none⟩ (.int .i64 7)) base R A n c l p 7 true p (h.set (((Keep.refl _ w).setR 2 (.int .i64 8)).setR 2 _) ((h.blk.set_ 2 (.int .i64 8)).set_ 2 (.int .i64 7))))
  rw [hz0] at HB0
  clear h hz0 hk6
  have wp : IntKind.i64.wrap ((p : Int) - 1) = (p : Int) - 1 := IntWalk.i64_in _ (by omega)
  have HB := hid (fun (w' : World) (hw' : Rr w' base R A n c l (p + 1) 6 true) => at_any w' base R A n c l (p + 1) 6 true (p : Int) hw')
  generalize hzz : atM l p = z at *
  clear hzz
  go_enter Try.func16, Try.ntmps16
  go_wp2_with fail
  refine HB0.out.mono ?_
  rintro e w7 ⟨rfl, rfl⟩
  go_wp2_with fail
  generalize hw6 : ((((w.setCell ⟨R, 2, none⟩ (.int .i64 8)).setCell ⟨R, 2, none⟩ (.int .i64 7)).setCell ⟨R, 3, none⟩ (.bool true)).setCell ⟨R, 1, none⟩ (.int .i64 ((p : Int) + 1))).setCell ⟨R, 2, none⟩ (.int .i64 6) = w6 at *
  clear hw6 h1 h2 h3
  have wp1 : IntKind.i64.wrap (p : Int) = (p : Int) := IntWalk.i64_in _ (by omega)
  -- w6: the reader with Q - 1 in slot 1 and L bits left; HB: at's contract there
  have g1 : w6.cell? ⟨R, 2, none⟩ = some (.int .i64 (6)) := HS.out.blk.cell 2
  have g2 : w6.cell? ⟨R, 1, none⟩ = some (.int .i64 (p + 1)) := HS.out.blk.cell 1
  -- region 8: 15 operations
  refine At.start (L := #[false, false, false, false, false, false, false, false, false, false, false, false, false, false, false]) (by kernel_rfl) rfl ?_
  refine At.pure 0 (some 52) (v := ?v0c) rfl rfl (by kernel_rfl) (fun _ _ _ h => h) rfl (fun w' => ?y0c) ?_   
  case y0c => go_simp; try with_reducible rfl
  try simp only [Act.put, List.setIfInBounds_toArray, List.set_cons_zero, List.set_cons_succ]
  refine At.pure 1 (some 53) (v := ?v1c) rfl rfl (by kernel_rfl) (fun _ _ _ h => h) rfl (fun w' => ?y1c) ?_   
  case y1c => go_simp; try with_reducible rfl
  try simp only [Act.put, List.setIfInBounds_toArray, List.set_cons_zero, List.set_cons_succ]
  refine At.pure 2 (some 54) (v := ?v2c) rfl rfl (by kernel_rfl) (fun _ _ _ h => h) rfl (fun w' => ?y2c) ?_   
  case y2c => go_simp; try with_reducible rfl
  try simp only [Act.put, List.setIfInBounds_toArray, List.set_cons_zero, List.set_cons_succ]
  refine At.pure 3 (some 55) (v := ?v3c) rfl rfl (by kernel_rfl) (fun _ _ _ h => h) rfl (fun w' => ?y3c) ?_   
  case y3c => go_simp; try with_reducible rfl
  try simp only [Act.put, List.setIfInBounds_toArray, List.set_cons_zero, List.set_cons_succ]
  refine At.read 4 (some 56) (fun w' => w'.cell? ⟨R, 1, none⟩ = some (.int .i64 (p + 1))) (v := (.int .i64 (p + 1))) rfl rfl (by kernel_rfl) (fun _ _ _ h => h) rfl g2 (fun w' hw' => ?y4c) ?_   
  case y4c => skip; go_simp; try with_reducible rfl
  try simp only [Act.put, List.setIfInBounds_toArray, List.set_cons_zero, List.set_cons_succ]
  refine At.pure 5 (some 57) (v := ?v5c) rfl rfl (by kernel_rfl) (fun _ _ _ h => h) rfl (fun w' => ?y5c) ?_   
  case y5c => go_simp; try with_reducible rfl
  try simp only [Act.put, List.setIfInBounds_toArray, List.set_cons_zero, List.set_cons_succ]
  refine At.pure 7 (some 59) (v := ?v7c) rfl rfl (by kernel_rfl) (fun _ _ _ h => h) rfl (fun w' => ?y7c) ?_   
  case y7c => go_simp; try with_reducible rfl
  try simp only [Act.put, List.setIfInBounds_toArray, List.set_cons_zero, List.set_cons_succ]
  refine At.pure 8 (some 60) (v := ?v8c) rfl rfl (by kernel_rfl) (fun _ _ _ h => h) rfl (fun w' => ?y8c) ?_   
  case y8c => go_simp; try with_reducible rfl
  try simp only [Act.put, List.setIfInBounds_toArray, List.set_cons_zero, List.set_cons_succ]
  refine At.pure 9 (some 61) (v := ?v9c) rfl rfl (by kernel_rfl) (fun _ _ _ h => h) rfl (fun w' => ?y9c) ?_   
  case y9c => go_simp; try with_reducible rfl
  try simp only [Act.put, List.setIfInBounds_toArray, List.set_cons_zero, List.set_cons_succ]
  refine At.read 10 (some 62) (fun w' => w'.cell? ⟨R, 2, none⟩ = some (.int .i64 (6))) (v := (.int .i64 (6))) rfl rfl (by kernel_rfl) (fun _ _ _ h => h) rfl g1 (fun w' hw' => ?y10c) ?_   
  case y10c => skip; go_simp; try with_reducible rfl
  try simp only [Act.put, List.setIfInBounds_toArray, List.set_cons_zero, List.set_cons_succ]
  refine At.call 6 (pend' := [(10, (fun w' => w'.cell? ⟨R, 2, none⟩ = some (.int .i64 (6))))]) rfl (by kernel_rfl) rfl (by kernel_rfl) (fun K hK => ?_)   
  go_simp
  refine (HB.out _ (HS.out.aside (Keep.refl (fun _ => False) w6).drew)).mono ?_
  rintro e w7 ⟨rfl, rfl⟩
  refine hK _ _ (all_cons g1 all_nil) ?_
  clear hK K
  try simp only [Act.put, List.setIfInBounds_toArray, List.set_cons_zero, List.set_cons_succ]
  refine At.pure 11 (some 63) (v := ?v11c) rfl rfl (by kernel_rfl) (fun _ _ _ h => h) rfl (fun w' => ?y11c) ?_   
  case y11c => go_simp; try with_reducible rfl
  try simp only [Act.put, List.setIfInBounds_toArray, List.set_cons_zero, List.set_cons_succ]
  refine At.pure 12 (some 64) (v := ?v12c) rfl rfl (by kernel_rfl) (fun _ _ _ h => h) rfl (fun w' => ?y12c) ?_   
  case y12c => go_simp; try with_reducible rfl
  try simp only [Act.put, List.setIfInBounds_toArray, List.set_cons_zero, List.set_cons_succ]
  refine At.pure 13 (some 65) (v := ?v13c) rfl rfl (by kernel_rfl) (fun _ _ _ h => h) rfl (fun w' => ?y13c) ?_   
  case y13c => go_simp; try with_reducible rfl
  try simp only [Act.put, List.setIfInBounds_toArray, List.set_cons_zero, List.set_cons_succ]
  refine At.pure 14 (some 2) (v := ?v14c) rfl rfl (by kernel_rfl) (fun _ _ _ h => h) rfl (fun w' => ?y14c) ?_   
  case y14c => go_simp; try with_reducible rfl
  try simp only [Act.put, List.setIfInBounds_toArray, List.set_cons_zero, List.set_cons_succ]
  refine At.done (by kernel_rfl) ?_
  go_wp2_with fail
  go_ret
  exact ⟨ret_i64 (bit_lit z 6 hz), HS.out.aside (Keep.refl (fun _ => False) w6).drew, HK.out.drew⟩
set_option maxHeartbeats 1600000 in
theorem rd_7f (w : World) (base R : Nat) (A : Option Addr) (n c : Nat) (l : List Int) (p : Nat) (h : Rr w base R A n c l p 0 false) (hb : Bytes l) (hz0 : atM l ((p : Int) - 1) = 255) (hp : p ≤ 1099511627776) :
    Calls Try.prog 16 #[.pointer (some ⟨R, 0, none⟩)] w fun e w' => e = .returned (.int .i64 (atM l p / 2 ^ 6 % 2)) ∧ Rr w' base R A n c l (p + 1) 6 (decide (128 ≤ atM l p)) ∧ Keep (fun k => k = R) w w' := by
  obtain ⟨bad, hbad⟩ : ∃ b, b = false := ⟨false, rfl⟩
  have h : Rr w base R A n c l p 0 bad := by rw [hbad]; exact h
  have h1 : w.cell? ⟨R, 1, none⟩ = some (.int .i64 p) := h.blk.cell 1
  have h2 : w.cell? ⟨R, 2, none⟩ = some (.int .i64 0) := h.blk.cell 2
  have h3 : w.cell? ⟨R, 3, none⟩ = some (.bool bad) := h.blk.cell 3
  have f3 := h.blk.frozen 3
  have f2 := h.blk.frozen 2
  have f1 := h.blk.frozen 1
  have H := hid h
  have hz := atM_byte hb p
  subst hbad
  have hk6 : Keep (fun k => k = R) w (((((w.setCell ⟨R, 2, none⟩ (.int .i64 8)).setCell ⟨R, 2, none⟩ (.int .i64 7)).setCell ⟨R, 3, none⟩ (.bool (decide (128 ≤ atM l p)))).setCell ⟨R, 1, none⟩ (.int .i64 ((p : Int) + 1))).setCell ⟨R, 2, none⟩ (.int .i64 6)) := (((((Keep.refl _ w).setR (R := R) 2 (.int .i64 8)).setR 2 (.int .i64 7)).setR 3 (.bool (decide (128 ≤ atM l p)))).setR 1 (.int .i64 ((p : Int) + 1))).setR 2 (.int .i64 6)
  have HS := hid (h.set (p' := p + 1) (r' := 6) (bad' := (decide (128 ≤ atM l p))) hk6 (by have := three_sets (.int .i64 8) (.int .i64 7) (.int .i64 ((p : Int) + 1)) (.int .i64 6) (.bool (decide (128 ≤ atM l p))) h.blk; simpa using this))
  have HK := hid hk6
  have HB0 := hid (at_any (w.setCell ⟨R, 2, none⟩ (.int .i64 8)) base R A n c l p 8 false ((p : Int) - 1) (h.set ((Keep.refl _ w).setR 2 _) (h.blk.set_ 2 (.int .i64 8))))
  have HB1 := hid (at_any ((w.setCell ⟨R, 2, none⟩ (.int .i64 8)).setCell ⟨R, 2, none⟩ (.int .i64 7)) base R A n c l p 7 false p (h.set (((Keep.refl _ w).setR 2 (.int .i64 8)).setR 2 _) ((h.blk.set_ 2 (.int .i64 8)).set_ 2 (.int .i64 7))))
  rw [hz0] at HB0
  clear h hz0 hk6
  have wp : IntKind.i64.wrap ((p : Int) - 1) = (p : Int) - 1 := IntWalk.i64_in _ (by omega)
  have HB := hid (fun (w' : World) (hw' : Rr w' base R A n c l (p + 1) 6 (decide (128 ≤ atM l p))) => at_any w' base R A n c l (p + 1) 6 (decide (128 ≤ atM l p)) (p : Int) hw')
  generalize hzz : atM l p = z at *
  clear hzz
  go_enter Try.func16, Try.ntmps16
  go_wp2_with fail
  refine HB0.out.mono ?_
  rintro e w7 ⟨rfl, rfl⟩
  go_wp2_with fail
  refine HB1.out.mono ?_
  rintro e w7 ⟨rfl, rfl⟩
  go_wp2_with fail
  generalize hw6 : ((((w.setCell ⟨R, 2, none⟩ (.int .i64 8)).setCell ⟨R, 2, none⟩ (.int .i64 7)).setCell ⟨R, 3, none⟩ (.bool (decide (128 ≤ z)))).setCell ⟨R, 1, none⟩ (.int .i64 ((p : Int) + 1))).setCell ⟨R, 2, none⟩ (.int .i64 6) = w6 at *
  clear hw6 h1 h2 h3
  have wp1 : IntKind.i64.wrap (p : Int) = (p : Int) := IntWalk.i64_in _ (by omega)
  -- w6: the reader with Q - 1 in slot 1 and L bits left; HB: at's contract there
  have g1 : w6.cell? ⟨R, 2, none⟩ = some (.int .i64 (6)) := HS.out.blk.cell 2
  have g2 : w6.cell? ⟨R, 1, none⟩ = some (.int .i64 (p + 1)) := HS.out.blk.cell 1
  -- region 8: 15 operations
  refine At.start (L := #[false, false, false, false, false, false, false, false, false, false, false, false, false, false, false]) (by kernel_rfl) rfl ?_
  refine At.pure 0 (some 52) (v := ?v0d) rfl rfl (by kernel_rfl) (fun _ _ _ h => h) rfl (fun w' => ?y0d) ?_   
  case y0d => go_simp; try with_reducible rfl
  try simp only [Act.put, List.setIfInBounds_toArray, List.set_cons_zero, List.set_cons_succ]
  refine At.pure 1 (some 53) (v := ?v1d) rfl rfl (by kernel_rfl) (fun _ _ _ h => h) rfl (fun w' => ?y1d) ?_   
  case y1d => go_simp; try with_reducible rfl
  try simp only [Act.put, List.setIfInBounds_toArray, List.set_cons_zero, List.set_cons_succ]
  refine At.pure 2 (some 54) (v := ?v2d) rfl rfl (by kernel_rfl) (fun _ _ _ h => h) rfl (fun w' => ?y2d) ?_   
  case y2d => go_simp; try with_reducible rfl
  try simp only [Act.put, List.setIfInBounds_toArray, List.set_cons_zero, List.set_cons_succ]
  refine At.pure 3 (some 55) (v := ?v3d) rfl rfl (by kernel_rfl) (fun _ _ _ h => h) rfl (fun w' => ?y3d) ?_   
  case y3d => go_simp; try with_reducible rfl
  try simp only [Act.put, List.setIfInBounds_toArray, List.set_cons_zero, List.set_cons_succ]
  refine At.read 4 (some 56) (fun w' => w'.cell? ⟨R, 1, none⟩ = some (.int .i64 (p + 1))) (v := (.int .i64 (p + 1))) rfl rfl (by kernel_rfl) (fun _ _ _ h => h) rfl g2 (fun w' hw' => ?y4d) ?_   
  case y4d => skip; go_simp; try with_reducible rfl
  try simp only [Act.put, List.setIfInBounds_toArray, List.set_cons_zero, List.set_cons_succ]
  refine At.pure 5 (some 57) (v := ?v5d) rfl rfl (by kernel_rfl) (fun _ _ _ h => h) rfl (fun w' => ?y5d) ?_   
  case y5d => go_simp; try with_reducible rfl
  try simp only [Act.put, List.setIfInBounds_toArray, List.set_cons_zero, List.set_cons_succ]
  refine At.pure 7 (some 59) (v := ?v7d) rfl rfl (by kernel_rfl) (fun _ _ _ h => h) rfl (fun w' => ?y7d) ?_   
  case y7d => go_simp; try with_reducible rfl
  try simp only [Act.put, List.setIfInBounds_toArray, List.set_cons_zero, List.set_cons_succ]
  refine At.pure 8 (some 60) (v := ?v8d) rfl rfl (by kernel_rfl) (fun _ _ _ h => h) rfl (fun w' => ?y8d) ?_   
  case y8d => go_simp; try with_reducible rfl
  try simp only [Act.put, List.setIfInBounds_toArray, List.set_cons_zero, List.set_cons_succ]
  refine At.pure 9 (some 61) (v := ?v9d) rfl rfl (by kernel_rfl) (fun _ _ _ h => h) rfl (fun w' => ?y9d) ?_   
  case y9d => go_simp; try with_reducible rfl
  try simp only [Act.put, List.setIfInBounds_toArray, List.set_cons_zero, List.set_cons_succ]
  refine At.read 10 (some 62) (fun w' => w'.cell? ⟨R, 2, none⟩ = some (.int .i64 (6))) (v := (.int .i64 (6))) rfl rfl (by kernel_rfl) (fun _ _ _ h => h) rfl g1 (fun w' hw' => ?y10d) ?_   
  case y10d => skip; go_simp; try with_reducible rfl
  try simp only [Act.put, List.setIfInBounds_toArray, List.set_cons_zero, List.set_cons_succ]
  refine At.call 6 (pend' := [(10, (fun w' => w'.cell? ⟨R, 2, none⟩ = some (.int .i64 (6))))]) rfl (by kernel_rfl) rfl (by kernel_rfl) (fun K hK => ?_)   
  go_simp
  refine (HB.out _ (HS.out.aside (Keep.refl (fun _ => False) w6).drew)).mono ?_
  rintro e w7 ⟨rfl, rfl⟩
  refine hK _ _ (all_cons g1 all_nil) ?_
  clear hK K
  try simp only [Act.put, List.setIfInBounds_toArray, List.set_cons_zero, List.set_cons_succ]
  refine At.pure 11 (some 63) (v := ?v11d) rfl rfl (by kernel_rfl) (fun _ _ _ h => h) rfl (fun w' => ?y11d) ?_   
  case y11d => go_simp; try with_reducible rfl
  try simp only [Act.put, List.setIfInBounds_toArray, List.set_cons_zero, List.set_cons_succ]
  refine At.pure 12 (some 64) (v := ?v12d) rfl rfl (by kernel_rfl) (fun _ _ _ h => h) rfl (fun w' => ?y12d) ?_   
  case y12d => go_simp; try with_reducible rfl
  try simp only [Act.put, List.setIfInBounds_toArray, List.set_cons_zero, List.set_cons_succ]
  refine At.pure 13 (some 65) (v := ?v13d) rfl rfl (by kernel_rfl) (fun _ _ _ h => h) rfl (fun w' => ?y13d) ?_   
  case y13d => go_simp; try with_reducible rfl
  try simp only [Act.put, List.setIfInBounds_toArray, List.set_cons_zero, List.set_cons_succ]
  refine At.pure 14 (some 2) (v := ?v14d) rfl rfl (by kernel_rfl) (fun _ _ _ h => h) rfl (fun w' => ?y14d) ?_   
  case y14d => go_simp; try with_reducible rfl
  try simp only [Act.put, List.setIfInBounds_toArray, List.set_cons_zero, List.set_cons_succ]
  refine At.done (by kernel_rfl) ?_
  go_wp2_with fail
  go_ret
  exact ⟨ret_i64 (bit_lit z 6 hz), HS.out.aside (Keep.refl (fun _ => False) w6).drew, HK.out.drew⟩

/-- A reading, whatever is left. -/
theorem rd_any (w : World) (base R : Nat) (A : Option Addr) (n c : Nat) (l : List Int) (p : Nat) (r : Int) (bad : Bool) (h : Rr w base R A n c l p r bad) (hb : Bytes l) (hr : 0 ≤ r) (hr8 : r ≤ 8) (hp : p ≤ 1099511627776) :
    Calls Try.prog 16 #[.pointer (some ⟨R, 0, none⟩)] w fun e w' => e = .returned (.int .i64 (rdB l p r)) ∧ Rr w' base R A n c l (rdP p r) (rdL l p r) (badM l p r bad) ∧ Keep (fun k => k = R) w w' := by
  by_cases h0 : r = 0
  · subst h0
    have e2 : rdP p 0 = p + 1 := if_pos rfl
    have e3 : ((p + 1 : Nat) : Int) - 1 = p := by omega
    unfold rdB
    rw [e2, e3]
    by_cases hz : atM l ((p : Int) - 1) = 255
    · have e1 : rdL l p 0 = 6 := by unfold rdL roomM; rw [if_pos rfl, if_pos hz]; rfl
      rw [e1]
      cases bad with
      | true =>
        have e4 : badM l p 0 true = true := rfl
        rw [e4]
        exact rd_7t w base R A n c l p h hb hz hp
      | false =>
        have e4 : badM l p 0 false = decide (128 ≤ atM l p) := by simp [badM, hz]
        rw [e4]
        exact rd_7f w base R A n c l p h hb hz hp
    · have e1 : rdL l p 0 = 7 := by unfold rdL roomM; rw [if_pos rfl, if_neg hz]; rfl
      have e4 : badM l p 0 bad = bad := by simp [badM, hz]
      rw [e1, e4]
      exact rd_8 w base R A n c l p bad h hb hz hp
  · have e1 : rdL l p r = r - 1 := by unfold rdL; rw [if_neg h0]
    have e2 : rdP p r = p := if_neg h0
    have e4 : badM l p r bad = bad := by simp [badM, h0]
    unfold rdB
    rw [e1, e2, e4]
    exact rd_more w base R A n c l p r bad h hb (by omega) hr8 hp
end Go.Proofs.Ytbkffpedigeflaa
