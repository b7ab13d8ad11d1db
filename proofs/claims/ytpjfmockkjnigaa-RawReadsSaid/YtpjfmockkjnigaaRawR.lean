/-
  The program's and the reference's readers of raw bits. Conditions: at most 2^40 bytes are read.
-/
import Derived.Test.YtpjfmockkjnigaaRawW
namespace Go.Proofs.Ytpjfmockkjnigaa
open Go.RowKit

/-- The reader at block R: bytes l (at A, with n and c), how many bits are left, how many bytes were begun. -/
structure Rr (w : World) (base R : Nat) (A : Option Addr) (n c : Nat) (l : List Int) (r : Int) (p : Nat) : Prop where
  blk : Blk w R 52 #[.slice A n c, .int .i64 r, .int .i64 p]
  own : w.ownsRow base 5 1 (.slice A n c) n (l.map (Value.int .u8))
theorem Rr.len {w : World} {base R : Nat} {A : Option Addr} {n c : Nat} {l : List Int} {r : Int} {p : Nat} (h : Rr w base R A n c l r p) : l.length = n := by have := h.own.1; simpa using this
theorem Rr.keep {w w' : World} {base R : Nat} {A : Option Addr} {n c : Nat} {l : List Int} {r : Int} {p : Nat} (h : Rr w base R A n c l r p) {S : Nat → Prop} (hk : Keep S w w') (hW : ¬ S R) (hA : ∀ ad, A = some ad → ¬ S ad.block) : Rr w' base R A n c l r p :=
  ⟨h.blk.keep hk hW, own_keep h.own hk (fun k e hs => by
    obtain ⟨ad, rfl, rfl⟩ := own_foot e
    exact hA ad rfl hs)⟩
theorem Rr.set {w w' : World} {base R : Nat} {A : Option Addr} {n c : Nat} {l : List Int} {r r' : Int} {p p' : Nat} (h : Rr w base R A n c l r p) (hk : Keep (fun k => k = R) w w') (hb : Blk w' R 52 #[.slice A n c, .int .i64 r', .int .i64 p']) : Rr w' base R A n c l r' p' :=
  ⟨hb, own_keep h.own hk (fun k e hs => own_ne h.own h.blk (by decide) (by rw [e, hs]))⟩

/-- The byte at a place: behind the end all ones. -/
def byteM (l : List Int) (k : Int) : Int := if k < 0 then 0 else if (l.length : Int) ≤ k then 255 else l.getD k.toNat 0
theorem byteM_byte {l : List Int} (h : Bytes l) (k : Int) : 0 ≤ byteM l k ∧ byteM l k ≤ 255 := by
  unfold byteM
  split
  · omega
  · split
    · omega
    · rename_i h1 h2
      have hk : k.toNat < l.length := by omega
      rw [List.getD_eq_getElem?_getD, List.getElem?_eq_getElem hk]
      exact h _ (List.getElem_mem hk)

set_option maxHeartbeats 400000 in
theorem byte_any (w : World) (base R : Nat) (A : Option Addr) (n c : Nat) (l : List Int) (r : Int) (p : Nat) (k : Int) (h : Rr w base R A n c l r p) :
    Calls Try.prog 26 #[.pointer (some ⟨R, 0, none⟩), .int .i64 k] w fun e w' => e = .returned (.int .u8 (byteM l k)) ∧ w = w' := by
  have h0 : w.cell? ⟨R, 0, none⟩ = some (.slice A n c) := h.blk.cell 0
  by_cases h1 : k < 0
  · have HM := hid (show byteM l k = 0 from if_pos h1)
    clear h
    go_enter Try.func26, Try.ntmps26
    go_wp2_with fail
    go_ret
    exact ⟨by rw [HM.out]; rfl, rfl⟩
  · by_cases h2 : (n : Int) ≤ k
    · have HM := hid (show byteM l k = 255 by unfold byteM; rw [if_neg h1, h.len, if_pos h2])
      clear h
      go_enter Try.func26, Try.ntmps26
      go_wp2_with fail
      go_ret
      exact ⟨by rw [HM.out]; rfl, rfl⟩
    · obtain ⟨j, rfl⟩ := Int.eq_ofNat_of_zero_le (show 0 ≤ k by omega)
      have hj : j < n := by omega
      obtain ⟨g, rfl, hgc, hgb, hgl, _⟩ := own_at h.own (by omega)
      have g0 : w.cell? ⟨g, j, none⟩ = some (.int .u8 (byteM l j)) := by
        have := hgl j _ (map_at _ _ j (by rw [h.len]; omega))
        unfold byteM
        rw [if_neg h1, h.len, if_neg h2]
        exact this
      clear h hgl
      generalize byteM l j = z at *
      go_enter Try.func26, Try.ntmps26
      go_wp2_with fail
      go_ret
      exact ⟨rfl, rfl⟩

def rdL (l : List Int) (r : Int) (p : Nat) : Int := (if r = 0 then roomM (byteM l ((p : Int) - 1)) else r) - 1
def rdP (l : List Int) (r : Int) (p : Nat) : Nat := if r = 0 then min (p + 1) (l.length + 1) else p
def rdB (l : List Int) (r : Int) (p : Nat) : Int := byteM l ((rdP l r p : Int) - 1) / 2 ^ (rdL l r p).toNat % 2

theorem bit_at (z r : Int) (hz : 0 ≤ z ∧ z ≤ 255) (hr : 0 < r) : bits BinOp.and IntKind.i64 (IntKind.i64.wrap (z / 2 ^ (r.toNat - 1))) 1 = z / 2 ^ (r - 1).toNat % 2 := by
  have e : r.toNat - 1 = (r - 1).toNat := by omega
  have hp : (0 : Int) < 2 ^ (r - 1).toNat := Int.pow_pos (by omega)
  have h1 : 0 ≤ z / 2 ^ (r - 1).toNat := Int.ediv_nonneg hz.1 (by omega)
  have h2 : z / 2 ^ (r - 1).toNat ≤ z := Int.ediv_le_self _ hz.1
  rw [e, and_one, IntWalk.i64_in _ (by omega)]

set_option maxHeartbeats 800000 in
theorem rd_more (w : World) (base R : Nat) (A : Option Addr) (n c : Nat) (l : List Int) (r : Int) (p : Nat) (h : Rr w base R A n c l r p) (hn : n ≤ 1099511627776) (hb : Bytes l) (hr : 0 < r) (hr8 : r ≤ 8) (hp : p ≤ n + 1) :
    Calls Try.prog 21 #[.pointer (some ⟨R, 0, none⟩)] w fun e w' => e = .returned (.int .i64 (byteM l ((p : Int) - 1) / 2 ^ (r - 1).toNat % 2)) ∧ Rr w' base R A n c l (r - 1) p ∧ Keep (fun k => k = R) w w' := by
  have h0 : w.cell? ⟨R, 0, none⟩ = some (.slice A n c) := h.blk.cell 0
  have h1 : w.cell? ⟨R, 1, none⟩ = some (.int .i64 r) := h.blk.cell 1
  have h2 : w.cell? ⟨R, 2, none⟩ = some (.int .i64 p) := h.blk.cell 2
  have f1 := h.blk.frozen 1
  have hr0 : (r == 0) = false := by simp; omega
  have H := hid h
  have hz := byteM_byte hb ((p : Int) - 1)
  have hk : Keep (fun k => k = R) w (w.setCell ⟨R, 1, none⟩ (.int .i64 (r - 1))) := (Keep.refl _ w).setR 1 _
  have HS := hid (h.set hk (h.blk.set_ 1 (.int .i64 (r - 1))))
  have HK := hid hk
  clear h hk
  have wp : IntKind.i64.wrap ((p : Int) - 1) = (p : Int) - 1 := IntWalk.i64_in _ (by omega)
  go_enter Try.func21, Try.ntmps21
  go_wp2_with fail
  generalize hw3 : w.setCell ⟨R, 1, none⟩ (.int .i64 (r - 1)) = w3 at *
  have g1 : w3.cell? ⟨R, 1, none⟩ = some (.int .i64 (r - 1)) := HS.out.blk.cell 1
  have g2 : w3.cell? ⟨R, 2, none⟩ = some (.int .i64 p) := HS.out.blk.cell 2
  have HB := hid (fun (w' : World) (hw' : Rr w' base R A n c l (r - 1) p) => byte_any w' base R A n c l (r - 1) p ((p : Int) - 1) hw')
  generalize hzz : byteM l ((p : Int) - 1) = z at *
  have HZZ := hid hzz
  clear hw3 h0 h1 h2 hzz
  -- region 5: 16 operations
  refine At.start (L := #[false, false, false, false, false, false, false, false, false, false, false, false, false, false, false, false]) (by kernel_rfl) rfl ?_
  refine At.pure 0 (some 45) (v := ?v0) rfl rfl (by kernel_rfl) (fun _ _ _ h => h) rfl (fun w' => ?y0) ?_   
  case y0 => go_simp; try with_reducible rfl
  try simp only [Act.put, List.setIfInBounds_toArray, List.set_cons_zero, List.set_cons_succ]
  refine At.pure 1 (some 46) (v := ?v1) rfl rfl (by kernel_rfl) (fun _ _ _ h => h) rfl (fun w' => ?y1) ?_   
  case y1 => go_simp; try with_reducible rfl
  try simp only [Act.put, List.setIfInBounds_toArray, List.set_cons_zero, List.set_cons_succ]
  refine At.pure 2 (some 47) (v := ?v2) rfl rfl (by kernel_rfl) (fun _ _ _ h => h) rfl (fun w' => ?y2) ?_   
  case y2 => go_simp; try with_reducible rfl
  try simp only [Act.put, List.setIfInBounds_toArray, List.set_cons_zero, List.set_cons_succ]
  refine At.pure 3 (some 48) (v := ?v3) rfl rfl (by kernel_rfl) (fun _ _ _ h => h) rfl (fun w' => ?y3) ?_   
  case y3 => go_simp; try with_reducible rfl
  try simp only [Act.put, List.setIfInBounds_toArray, List.set_cons_zero, List.set_cons_succ]
  refine At.read 4 (some 49) (fun w' => w'.cell? ⟨R, 2, none⟩ = some (.int .i64 p)) (v := (.int .i64 p)) rfl rfl (by kernel_rfl) (fun _ _ _ h => h) rfl g2 (fun w' hw' => ?y4) ?_   
  case y4 => skip; go_simp; try with_reducible rfl
  try simp only [Act.put, List.setIfInBounds_toArray, List.set_cons_zero, List.set_cons_succ]
  refine At.pure 5 (some 50) (v := ?v5) rfl rfl (by kernel_rfl) (fun _ _ _ h => h) rfl (fun w' => ?y5) ?_   
  case y5 => go_simp; try with_reducible rfl
  try simp only [Act.put, List.setIfInBounds_toArray, List.set_cons_zero, List.set_cons_succ]
  refine At.pure 7 (some 52) (v := ?v7) rfl rfl (by kernel_rfl) (fun _ _ _ h => h) rfl (fun w' => ?y7) ?_   
  case y7 => go_simp; try with_reducible rfl
  try simp only [Act.put, List.setIfInBounds_toArray, List.set_cons_zero, List.set_cons_succ]
  refine At.pure 8 (some 53) (v := ?v8) rfl rfl (by kernel_rfl) (fun _ _ _ h => h) rfl (fun w' => ?y8) ?_   
  case y8 => go_simp; try with_reducible rfl
  try simp only [Act.put, List.setIfInBounds_toArray, List.set_cons_zero, List.set_cons_succ]
  refine At.pure 9 (some 54) (v := ?v9) rfl rfl (by kernel_rfl) (fun _ _ _ h => h) rfl (fun w' => ?y9) ?_   
  case y9 => go_simp; try with_reducible rfl
  try simp only [Act.put, List.setIfInBounds_toArray, List.set_cons_zero, List.set_cons_succ]
  refine At.pure 10 (some 55) (v := ?v10) rfl rfl (by kernel_rfl) (fun _ _ _ h => h) rfl (fun w' => ?y10) ?_   
  case y10 => go_simp; try with_reducible rfl
  try simp only [Act.put, List.setIfInBounds_toArray, List.set_cons_zero, List.set_cons_succ]
  refine At.read 11 (some 56) (fun w' => w'.cell? ⟨R, 1, none⟩ = some (.int .i64 (r - 1))) (v := (.int .i64 (r - 1))) rfl rfl (by kernel_rfl) (fun _ _ _ h => h) rfl g1 (fun w' hw' => ?y11) ?_   
  case y11 => skip; go_simp; try with_reducible rfl
  try simp only [Act.put, List.setIfInBounds_toArray, List.set_cons_zero, List.set_cons_succ]
  refine At.call 6 (pend' := [(11, (fun w' => w'.cell? ⟨R, 1, none⟩ = some (.int .i64 (r - 1))))]) rfl (by kernel_rfl) rfl (by kernel_rfl) (fun K hK => ?_)   
  go_simp
  refine (HB.out _ (HS.out.keep (Keep.refl (fun _ => False) w3).drew (fun h => h) (fun _ _ h => h))).mono ?_
  rintro e w5 ⟨rfl, rfl⟩
  refine hK _ _ (all_cons g1 all_nil) ?_
  clear hK K
  try simp only [Act.put, List.setIfInBounds_toArray, List.set_cons_zero, List.set_cons_succ]
  refine At.pure 12 (some 57) (v := ?v12) rfl rfl (by kernel_rfl) (fun _ _ _ h => h) rfl (fun w' => ?y12) ?_   
  case y12 => go_simp; try with_reducible rfl
  try simp only [Act.put, List.setIfInBounds_toArray, List.set_cons_zero, List.set_cons_succ]
  refine At.pure 13 (some 58) (v := ?v13) rfl rfl (by kernel_rfl) (fun _ _ _ h => h) rfl (fun w' => ?y13) ?_   
  case y13 => go_simp; try with_reducible rfl
  try simp only [Act.put, List.setIfInBounds_toArray, List.set_cons_zero, List.set_cons_succ]
  refine At.pure 14 (some 59) (v := ?v14) rfl rfl (by kernel_rfl) (fun _ _ _ h => h) rfl (fun w' => ?y14) ?_   
  case y14 => go_simp; try with_reducible rfl
  try simp only [Act.put, List.setIfInBounds_toArray, List.set_cons_zero, List.set_cons_succ]
  refine At.pure 15 (some 2) (v := ?v15) rfl rfl (by kernel_rfl) (fun _ _ _ h => h) rfl (fun w' => ?y15) ?_   
  case y15 => go_simp; try with_reducible rfl
  try simp only [Act.put, List.setIfInBounds_toArray, List.set_cons_zero, List.set_cons_succ]
  refine At.done (by kernel_rfl) ?_
  go_wp2_with fail
  go_ret
  have h5 := HS.out.keep (Keep.refl (fun _ => False) w3).drew (fun h => h) (fun _ _ h => h)
  refine ⟨?_, h5, HK.out.drew⟩
  rw [HZZ.out]
  exact ret_i64 (bit_at z r hz hr)

theorem room_le (z : Int) : 7 ≤ roomM z ∧ roomM z ≤ 8 := by unfold roomM; split <;> omega

set_option maxHeartbeats 1600000 in
theorem rd_0 (w : World) (base R : Nat) (A : Option Addr) (n c : Nat) (l : List Int) (p q : Nat) (h : Rr w base R A n c l 0 p) (hn : n ≤ 1099511627776) (hb : Bytes l) (hp : p ≤ n + 1) (hq : q = min (p + 1) (n + 1)) :
    Calls Try.prog 21 #[.pointer (some ⟨R, 0, none⟩)] w fun e w' => e = .returned (.int .i64 (byteM l ((q : Int) - 1) / 2 ^ (roomM (byteM l ((p : Int) - 1)) - 1).toNat % 2)) ∧ Rr w' base R A n c l (roomM (byteM l ((p : Int) - 1)) - 1) q ∧ Keep (fun k => k = R) w w' := by
  have h0 : w.cell? ⟨R, 0, none⟩ = some (.slice A n c) := h.blk.cell 0
  have h1 : w.cell? ⟨R, 1, none⟩ = some (.int .i64 0) := h.blk.cell 1
  have h2 : w.cell? ⟨R, 2, none⟩ = some (.int .i64 p) := h.blk.cell 2
  have H := hid h
  have HH := hid h0
  have hz := byteM_byte hb ((q : Int) - 1)
  have wp : IntKind.i64.wrap ((p : Int) - 1) = (p : Int) - 1 := IntWalk.i64_in _ (by omega)
  have wq : IntKind.i64.wrap ((q : Int) - 1) = (q : Int) - 1 := IntWalk.i64_in _ (by omega)
  have HB0 := hid (fun (w' : World) (hw' : Rr w' base R A n c l 0 p) => byte_any w' base R A n c l 0 p ((p : Int) - 1) hw')
  have ht := room_le (byteM l ((p : Int) - 1))
  generalize hz0 : byteM l ((p : Int) - 1) = z0 at *
  generalize htt : roomM z0 = t at *
  have HT := hid htt
  have HB := hid (fun (w' : World) (hw' : Rr w' base R A n c l (t - 1) q) => byte_any w' base R A n c l (t - 1) q ((q : Int) - 1) hw')
  generalize hzz : byteM l ((q : Int) - 1) = z at *
  clear h hz0 htt hzz
  go_enter Try.func21, Try.ntmps21
  go_wp2_with fail
  have h2' : w.drew.cell? ⟨R, 2, none⟩ = some (.int .i64 p) := h2
  -- region 2: 11 operations
  refine At.start (L := #[false, false, false, false, false, false, false, false, false, false, false]) (by kernel_rfl) rfl ?_
  refine At.pure 0 (some 9) (v := ?v0) rfl rfl (by kernel_rfl) (fun _ _ _ h => h) rfl (fun w' => ?y0) ?_   
  case y0 => go_simp; try with_reducible rfl
  try simp only [Act.put, List.setIfInBounds_toArray, List.set_cons_zero, List.set_cons_succ]
  refine At.pure 1 (some 10) (v := ?v1) rfl rfl (by kernel_rfl) (fun _ _ _ h => h) rfl (fun w' => ?y1) ?_   
  case y1 => go_simp; try with_reducible rfl
  try simp only [Act.put, List.setIfInBounds_toArray, List.set_cons_zero, List.set_cons_succ]
  refine At.pure 2 (some 11) (v := ?v2) rfl rfl (by kernel_rfl) (fun _ _ _ h => h) rfl (fun w' => ?y2) ?_   
  case y2 => go_simp; try with_reducible rfl
  try simp only [Act.put, List.setIfInBounds_toArray, List.set_cons_zero, List.set_cons_succ]
  refine At.pure 3 (some 12) (v := ?v3) rfl rfl (by kernel_rfl) (fun _ _ _ h => h) rfl (fun w' => ?y3) ?_   
  case y3 => go_simp; try with_reducible rfl
  try simp only [Act.put, List.setIfInBounds_toArray, List.set_cons_zero, List.set_cons_succ]
  refine At.pure 4 (some 13) (v := ?v4) rfl rfl (by kernel_rfl) (fun _ _ _ h => h) rfl (fun w' => ?y4) ?_   
  case y4 => go_simp; try with_reducible rfl
  try simp only [Act.put, List.setIfInBounds_toArray, List.set_cons_zero, List.set_cons_succ]
  refine At.pure 5 (some 14) (v := ?v5) rfl rfl (by kernel_rfl) (fun _ _ _ h => h) rfl (fun w' => ?y5) ?_   
  case y5 => go_simp; try with_reducible rfl
  try simp only [Act.put, List.setIfInBounds_toArray, List.set_cons_zero, List.set_cons_succ]
  refine At.pure 6 (some 15) (v := ?v6) rfl rfl (by kernel_rfl) (fun _ _ _ h => h) rfl (fun w' => ?y6) ?_   
  case y6 => go_simp; try with_reducible rfl
  try simp only [Act.put, List.setIfInBounds_toArray, List.set_cons_zero, List.set_cons_succ]
  refine At.read 7 (some 16) (fun w' => w'.cell? ⟨R, 2, none⟩ = some (.int .i64 p)) (v := (.int .i64 p)) rfl rfl (by kernel_rfl) (fun _ _ _ h => h) rfl h2' (fun w' hw' => ?y7) ?_   
  case y7 => skip; go_simp; try with_reducible rfl
  try simp only [Act.put, List.setIfInBounds_toArray, List.set_cons_zero, List.set_cons_succ]
  refine At.pure 8 (some 17) (v := ?v8) rfl rfl (by kernel_rfl) (fun _ _ _ h => h) rfl (fun w' => ?y8) ?_   
  case y8 => go_simp; try with_reducible rfl
  try simp only [Act.put, List.setIfInBounds_toArray, List.set_cons_zero, List.set_cons_succ]
  refine At.call 9 (pend' := []) rfl (by kernel_rfl) rfl (by kernel_rfl) (fun K hK => ?_)   
  go_simp
  refine (HB0.out _ (H.out.keep (Keep.refl (fun _ => False) w).drew (fun h => h) (fun _ _ h => h))).mono ?_
  rintro e w5 ⟨rfl, rfl⟩
  refine hK _ _ all_nil ?_
  clear hK K
  try simp only [Act.put, List.setIfInBounds_toArray, List.set_cons_zero, List.set_cons_succ]
  refine At.call 10 (pend' := []) rfl (by kernel_rfl) rfl (by kernel_rfl) (fun K hK => ?_)   
  go_simp
  refine (begin_any w.drew R 52 #[.slice A n c, .int .i64 0, .int .i64 p] _ z0 H.out.blk.drew rfl).mono ?_
  rintro e w3 ⟨rfl, hb3, hk3⟩
  rw [HT.out] at hb3
  have HB3 := hid (show Blk w3 R 52 #[.slice A n c, .int .i64 t, .int .i64 p] from hb3)
  have HK3 := hid hk3.undrew
  clear hb3 hk3
  refine hK _ _ all_nil ?_
  clear hK K
  try simp only [Act.put, List.setIfInBounds_toArray, List.set_cons_zero, List.set_cons_succ]
  refine At.done (by kernel_rfl) ?_
  have c30 : w3.cell? ⟨R, 0, none⟩ = some (.slice A n c) := HB3.out.cell 0
  have c31 : w3.cell? ⟨R, 1, none⟩ = some (.int .i64 t) := HB3.out.cell 1
  have c32 : w3.cell? ⟨R, 2, none⟩ = some (.int .i64 p) := HB3.out.cell 2
  have f31 := HB3.out.frozen 1
  have f32 := HB3.out.frozen 2
  have hmin : (if n < p then (n : Int) + 1 else (p : Int) + 1) = (q : Int) := by
    split <;> omega
  have HMIN := hid hmin
  have hq1 : q ≤ n + 1 := by omega
  clear hmin hq
  go_wp2_with fail
  go_region
  rw [HMIN.out]
  generalize hw4 : World.drew _ = w4
  have hk4 : Keep (fun k => k = R) w3 w4 := by
    rw [← hw4]
    exact ((Keep.refl _ w3).setR 2 _).drew
  have hb4 : Blk w4 R 52 #[.slice A n c, .int .i64 t, .int .i64 q] := by
    rw [← hw4]
    exact (HB3.out.set_ 2 (.int .i64 q)).drew
  clear hw4 c30 c31 c32 f31 f32 h2'
  have c41 : w4.cell? ⟨R, 1, none⟩ = some (.int .i64 t) := hb4.cell 1
  have c42 : w4.cell? ⟨R, 2, none⟩ = some (.int .i64 q) := hb4.cell 2
  have f41 := hb4.frozen 1
  have HB4 := hid hb4
  have HK4 := hid hk4
  clear hb4 hk4
  go_wp2_with fail
  have hk6 : Keep (fun k => k = R) w (w4.setCell ⟨R, 1, none⟩ (.int .i64 (t - 1))) := (HK3.out.trans HK4.out (fun _ _ h => h)).setR 1 _
  have HS := hid (H.out.set hk6 (HB4.out.set_ 1 (.int .i64 (t - 1))))
  have HK := hid hk6
  clear hk6
  generalize hw6 : w4.setCell ⟨R, 1, none⟩ (.int .i64 (t - 1)) = w6 at *
  have g1 : w6.cell? ⟨R, 1, none⟩ = some (.int .i64 (t - 1)) := HS.out.blk.cell 1
  have g2 : w6.cell? ⟨R, 2, none⟩ = some (.int .i64 q) := HS.out.blk.cell 2
  clear hw6
  -- region 5: 16 operations
  refine At.start (L := #[false, false, false, false, false, false, false, false, false, false, false, false, false, false, false, false]) (by kernel_rfl) rfl ?_
  refine At.pure 0 (some 45) (v := ?v0b) rfl rfl (by kernel_rfl) (fun _ _ _ h => h) rfl (fun w' => ?y0b) ?_   
  case y0b => go_simp; try with_reducible rfl
  try simp only [Act.put, List.setIfInBounds_toArray, List.set_cons_zero, List.set_cons_succ]
  refine At.pure 1 (some 46) (v := ?v1b) rfl rfl (by kernel_rfl) (fun _ _ _ h => h) rfl (fun w' => ?y1b) ?_   
  case y1b => go_simp; try with_reducible rfl
  try simp only [Act.put, List.setIfInBounds_toArray, List.set_cons_zero, List.set_cons_succ]
  refine At.pure 2 (some 47) (v := ?v2b) rfl rfl (by kernel_rfl) (fun _ _ _ h => h) rfl (fun w' => ?y2b) ?_   
  case y2b => go_simp; try with_reducible rfl
  try simp only [Act.put, List.setIfInBounds_toArray, List.set_cons_zero, List.set_cons_succ]
  refine At.pure 3 (some 48) (v := ?v3b) rfl rfl (by kernel_rfl) (fun _ _ _ h => h) rfl (fun w' => ?y3b) ?_   
  case y3b => go_simp; try with_reducible rfl
  try simp only [Act.put, List.setIfInBounds_toArray, List.set_cons_zero, List.set_cons_succ]
  refine At.read 4 (some 49) (fun w' => w'.cell? ⟨R, 2, none⟩ = some (.int .i64 q)) (v := (.int .i64 q)) rfl rfl (by kernel_rfl) (fun _ _ _ h => h) rfl g2 (fun w' hw' => ?y4b) ?_   
  case y4b => skip; go_simp; try with_reducible rfl
  try simp only [Act.put, List.setIfInBounds_toArray, List.set_cons_zero, List.set_cons_succ]
  refine At.pure 5 (some 50) (v := ?v5b) rfl rfl (by kernel_rfl) (fun _ _ _ h => h) rfl (fun w' => ?y5b) ?_   
  case y5b => go_simp; try with_reducible rfl
  try simp only [Act.put, List.setIfInBounds_toArray, List.set_cons_zero, List.set_cons_succ]
  refine At.pure 7 (some 52) (v := ?v7b) rfl rfl (by kernel_rfl) (fun _ _ _ h => h) rfl (fun w' => ?y7b) ?_   
  case y7b => go_simp; try with_reducible rfl
  try simp only [Act.put, List.setIfInBounds_toArray, List.set_cons_zero, List.set_cons_succ]
  refine At.pure 8 (some 53) (v := ?v8b) rfl rfl (by kernel_rfl) (fun _ _ _ h => h) rfl (fun w' => ?y8b) ?_   
  case y8b => go_simp; try with_reducible rfl
  try simp only [Act.put, List.setIfInBounds_toArray, List.set_cons_zero, List.set_cons_succ]
  refine At.pure 9 (some 54) (v := ?v9b) rfl rfl (by kernel_rfl) (fun _ _ _ h => h) rfl (fun w' => ?y9b) ?_   
  case y9b => go_simp; try with_reducible rfl
  try simp only [Act.put, List.setIfInBounds_toArray, List.set_cons_zero, List.set_cons_succ]
  refine At.pure 10 (some 55) (v := ?v10b) rfl rfl (by kernel_rfl) (fun _ _ _ h => h) rfl (fun w' => ?y10b) ?_   
  case y10b => go_simp; try with_reducible rfl
  try simp only [Act.put, List.setIfInBounds_toArray, List.set_cons_zero, List.set_cons_succ]
  refine At.read 11 (some 56) (fun w' => w'.cell? ⟨R, 1, none⟩ = some (.int .i64 (t - 1))) (v := (.int .i64 (t - 1))) rfl rfl (by kernel_rfl) (fun _ _ _ h => h) rfl g1 (fun w' hw' => ?y11b) ?_   
  case y11b => skip; go_simp; try with_reducible rfl
  try simp only [Act.put, List.setIfInBounds_toArray, List.set_cons_zero, List.set_cons_succ]
  refine At.call 6 (pend' := [(11, (fun w' => w'.cell? ⟨R, 1, none⟩ = some (.int .i64 (t - 1))))]) rfl (by kernel_rfl) rfl (by kernel_rfl) (fun K hK => ?_)   
  go_simp
  refine (HB.out _ (HS.out.keep (Keep.refl (fun _ => False) w6).drew (fun h => h) (fun _ _ h => h))).mono ?_
  rintro e w7 ⟨rfl, rfl⟩
  refine hK _ _ (all_cons g1 all_nil) ?_
  clear hK K
  try simp only [Act.put, List.setIfInBounds_toArray, List.set_cons_zero, List.set_cons_succ]
  refine At.pure 12 (some 57) (v := ?v12b) rfl rfl (by kernel_rfl) (fun _ _ _ h => h) rfl (fun w' => ?y12b) ?_   
  case y12b => go_simp; try with_reducible rfl
  try simp only [Act.put, List.setIfInBounds_toArray, List.set_cons_zero, List.set_cons_succ]
  refine At.pure 13 (some 58) (v := ?v13b) rfl rfl (by kernel_rfl) (fun _ _ _ h => h) rfl (fun w' => ?y13b) ?_   
  case y13b => go_simp; try with_reducible rfl
  try simp only [Act.put, List.setIfInBounds_toArray, List.set_cons_zero, List.set_cons_succ]
  refine At.pure 14 (some 59) (v := ?v14b) rfl rfl (by kernel_rfl) (fun _ _ _ h => h) rfl (fun w' => ?y14b) ?_   
  case y14b => go_simp; try with_reducible rfl
  try simp only [Act.put, List.setIfInBounds_toArray, List.set_cons_zero, List.set_cons_succ]
  refine At.pure 15 (some 2) (v := ?v15b) rfl rfl (by kernel_rfl) (fun _ _ _ h => h) rfl (fun w' => ?y15b) ?_   
  case y15b => go_simp; try with_reducible rfl
  try simp only [Act.put, List.setIfInBounds_toArray, List.set_cons_zero, List.set_cons_succ]
  refine At.done (by kernel_rfl) ?_
  go_wp2_with fail
  go_ret
  refine ⟨ret_i64 (bit_at z t hz (by omega)), ?_, HK.out.drew⟩
  exact HS.out.keep (Keep.refl (fun _ => False) w6).drew (fun h => h) (fun _ _ h => h)

/-- A reading, whatever is left. -/
theorem rd_any (w : World) (base R : Nat) (A : Option Addr) (n c : Nat) (l : List Int) (r : Int) (p : Nat) (h : Rr w base R A n c l r p) (hn : n ≤ 1099511627776) (hb : Bytes l) (hr : 0 ≤ r) (hr8 : r ≤ 8) (hp : p ≤ n + 1) :
    Calls Try.prog 21 #[.pointer (some ⟨R, 0, none⟩)] w fun e w' => e = .returned (.int .i64 (rdB l r p)) ∧ Rr w' base R A n c l (rdL l r p) (rdP l r p) ∧ Keep (fun k => k = R) w w' := by
  by_cases h0 : r = 0
  · subst h0
    have e1 : rdL l 0 p = roomM (byteM l ((p : Int) - 1)) - 1 := by unfold rdL; rw [if_pos rfl]
    have e2 : rdP l 0 p = min (p + 1) (l.length + 1) := if_pos rfl
    unfold rdB
    rw [e1, e2]
    exact rd_0 w base R A n c l p _ h hn hb hp (by rw [h.len])
  · have e1 : rdL l r p = r - 1 := by unfold rdL; rw [if_neg h0]
    have e2 : rdP l r p = p := if_neg h0
    unfold rdB
    rw [e1, e2]
    exact rd_more w base R A n c l r p h hn hb (by omega) hr8 hp

set_option maxHeartbeats 400000 in
theorem newr_any (w : World) (A : Option Addr) (n c : Nat) (l : List Int) (h : Rd w A n (l.map (Value.int .u8))) (hn : n ≤ 1099511627776) :
    Calls Try.prog 19 #[.slice A n c] w fun e w' => ∃ R A' c', e = .returned (.pointer (some ⟨R, 0, none⟩)) ∧ w.heap.size ≤ R ∧ Rr w' w.heap.size R A' n c' l 0 0 ∧ Keep (fun _ => False) w w' := by
  go_enter Try.func19, Try.ntmps19
  go_wp2_with fail
  refine (clone_any A n c l w h (by omega)).mono ?_
  rintro e w1 ⟨v1, rfl, hown1, hk1⟩
  obtain ⟨A1, c1, rfl⟩ := own_form hown1
  go_wp2_with fail
  go_ret
  exact ⟨w1.heap.size, A1, c1, rfl, hk1.size, ⟨Blk.new _ _ _, hown1.alloc _⟩, hk1.alloc _⟩

set_option maxHeartbeats 1600000 in
theorem known_any (w : World) : Calls Try.prog 10 #[] w fun e w' => e = .returned (.bool true) ∧ Keep (fun _ => False) w w' := by
  go_enter Try.func10, Try.ntmps10
  go_wp2_with fail
  refine (neww_any w).mono ?_
  rintro e w1 ⟨W, rfl, hW, h1, hk1⟩
  have H1 := hid h1
  have HK1 := hid hk1
  clear h1 hk1
  go_wp2_with fail
  go_loopw [2] (fun v wr => ∃ i : Nat, i ≤ 8 ∧ v = .int .i64 i ∧ ∃ A n c, Hid (Wr wr w.heap.size W A n c (runM ([], 0) (List.replicate i 1)).1 (runM ([], 0) (List.replicate i 1)).2) ∧ Hid (Keep (fun _ => False) w wr)) (fun v _ => 8 - (intOf v).toNat)
  case atStart => exact ⟨0, by omega, rfl, none, 0, 0, H1, HK1⟩
  case round =>
    obtain ⟨i, hi, rfl, A, n, c, HW, HK⟩ := hrel
    clear H1 HK1
    have hinv : BInv (runM ([], 0) (List.replicate i 1)).1 (runM ([], 0) (List.replicate i 1)).2 := runM_inv _ ([], 0) BInv.nil
    have hlen := runM_length (List.replicate i 1) ([], 0)
    have HI := hid hinv
    by_cases hlt : i < 8
    · have e2 : runM ([], 0) (List.replicate (i + 1) 1) = stepM (runM ([], 0) (List.replicate i 1)) 1 := by
        rw [List.replicate_succ', runM_append]; rfl
      have hn : n ≤ 1099511627776 := by
        have := HW.out.len
        simp at hlen
        omega
      have HE := hid e2
      clear e2 hinv hlen
      generalize runM ([], 0) (List.replicate i 1) = s at *
      have hf : ∀ k, foot W A k → w.heap.size ≤ k := by
        rintro k (rfl | ⟨ad, e, rfl⟩)
        · exact hW
        · subst e
          exact (HW.out.own.lt ad.block rfl).1
      have HF := hid hf
      clear hf
      go_wp2_with fail
      refine (bit_any wr w.heap.size W A n c s.1 s.2 1 HW.out HI.out HK.out.size hn).mono ?_
      rintro e w3 ⟨rfl, A3, ⟨n3, c3, h3⟩, hg3, hk3⟩
      have H3 := hid h3
      have HK3 := hid (HK.out.new hk3 HF.out)
      clear h3 hg3 hk3
      go_wp2_with fail
      go_roundw
      case rel => exact ⟨i + 1, by omega, by go_num, A3, n3, c3, by rw [HE.out]; exact H3, HK3⟩
      case measure => simp [intOf]; omega
    · have hi8 : i = 8 := by omega
      subst hi8
      have e2 : runM ([], 0) (List.replicate 8 1) = ([255], 0) := by decide +kernel
      rw [e2] at HW
      have HW' := HW
      clear hlen hinv HI
      go_wp2_with fail
      refine (out_any wr w.heap.size W A n c [255] 0 HW.out).mono ?_
      rintro e w3 ⟨rfl, rfl⟩
      go_wp2_with fail
      refine (flush_any wr w.heap.size W A n c [255] 0 HW.out (by have := HW.out.len; simp at this; omega)).mono ?_
      rintro e w4 ⟨A4, n4, c4, rfl, hown4, hk4⟩
      have hn4 : n4 = 0 := by have := hown4.1; have e : flushM [255] = [] := by decide
                              rw [e] at this; simpa using this.symm
      subst hn4
      clear hown4
      go_wp2_with fail
      refine (newr_any w4 none 0 0 [] (Rd.nil _) (by omega)).mono ?_
      rintro e w5 ⟨R, A5, c5, rfl, hR, h5, hk5⟩
      go_wp2_with fail
      refine (rd_any w5 w4.heap.size R A5 0 c5 [] 0 0 h5 (by omega) (fun z hz => (by cases hz)) (by omega) (by omega) (by omega)).mono ?_
      rintro e w6 ⟨rfl, h6, hk6⟩
      have e6 : rdB [] 0 0 = 1 := by decide +kernel
      rw [e6]
      have hs4 := Nat.le_trans HK.out.size hk4.size
      go_wp2_with fail
      go_ret
      exact ⟨rfl, ((HK.out.trans hk4 (fun _ _ h => h)).trans hk5 (fun _ _ h => h)).new hk6 (fun k e => by omega)⟩
end Go.Proofs.Ytpjfmockkjnigaa
