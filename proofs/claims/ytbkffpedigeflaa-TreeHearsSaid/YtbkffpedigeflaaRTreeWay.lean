/-
  The reference's way, Known; trees that are none. Conditions: none.
-/
import Derived.Test.YtbkffpedigeflaaRTree
import Derived.Test.YtbkffpedigeflaaTreeKnown
namespace Go.Proofs.Ytbkffpedigeflaa
open Go.RowKit

def lenS (v : Value) : Nat := match v with | .slice _ n _ => n | _ => 0
/-- The node above leaf k in level i, in the row. -/
def flat (W H k i : Nat) : Nat := off W H i + idx W i k
/-- Those of the lowest r levels, the topmost of them first. -/
def rflat (W H k : Nat) : Nat → List Int
  | 0 => []
  | r + 1 => (flat W H k r : Int) :: rflat W H k r
theorem rflat_len (W H k : Nat) : ∀ r, (rflat W H k r).length = r
  | 0 => rfl
  | r + 1 => by show (_ :: rflat W H k r).length = _; rw [List.length_cons, rflat_len W H k r]
theorem rflat_at (W H k : Nat) : ∀ L r, r < L → (rflat W H k L).getD r 0 = (flat W H k (L - 1 - r) : Int)
  | 0, r, h => by omega
  | L + 1, 0, _ => by show (flat W H k L : Int) = _; rw [show L + 1 - 1 - 0 = L by omega]
  | L + 1, r + 1, h => by
    show (rflat W H k L).getD r 0 = _
    rw [rflat_at W H k L r (by omega), show L + 1 - 1 - (r + 1) = L - 1 - r by omega]
theorem flat_up {W H L k i : Nat} (hL : Lev W H L) (hk : k < W * H) (hi : i < L) : upIx W H i (idx W i k) = if i + 1 < L then (flat W H k (i + 1) : Int) else -1 := by
  have hX : k % W / 2 ^ i < upN i W := div_lt_up (Nat.mod_lt k hL.w0) i
  have hw := upN_pos hL.w0 i
  unfold upIx
  by_cases h : i + 1 < L
  · have hn := hL.least i h
    have hh := upN_pos hL.h0 i
    have hs : 1 < sz W H i := by
      unfold sz
      by_cases h2 : 2 ≤ upN i W
      · exact Nat.lt_of_lt_of_le (by omega : 1 < 2 * 1) (Nat.mul_le_mul h2 hh)
      · exact Nat.lt_of_lt_of_le (by omega : 1 < 1 * 2) (Nat.mul_le_mul hw (by omega : 2 ≤ upN i H))
    rw [if_pos hs, if_pos h]
    congr 1
    have e1 : idx W i k / upN i W = k / W / 2 ^ i := by
      unfold idx
      rw [Nat.mul_comm, Nat.mul_add_div hw, Nat.div_eq_of_lt hX, Nat.add_zero]
    have e2 : idx W i k % upN i W = k % W / 2 ^ i := by
      unfold idx
      rw [Nat.mul_comm, Nat.mul_add_mod, Nat.mod_eq_of_lt hX]
    rw [e1, e2]
    unfold flat idx
    rw [Nat.pow_succ, ← Nat.div_div_eq_div_mul, ← Nat.div_div_eq_div_mul]
    omega
  · have hs : ¬ 1 < sz W H i := by
      have hi2 : i = L - 1 := by omega
      unfold sz
      rw [hi2, hL.topw, hL.toph]; omega
    rw [if_neg hs, if_neg h]
theorem off_lt {W H L k i : Nat} (hL : Lev W H L) (hk : k < W * H) (hi : i < L) : flat W H k i < off W H L := by
  have h1 := idx_lt hL hk i
  have hmono : ∀ a b, a ≤ b → off W H a ≤ off W H b := fun a b hab => by
    induction hab with
    | refl => exact Nat.le_refl _
    | step _ ih => exact Nat.le_trans ih (Nat.le_add_right _ _)
  have h2 := hmono (i + 1) L hi
  have h3 : off W H (i + 1) = off W H i + sz W H i := rfl
  unfold flat
  omega
section
variable {w w' : World} {T g tot cap L W H : Nat} {N : Nat → Nat → Nd}
theorem RT.keep (h : RT w T g tot cap L W H N) {S : Nat → Prop} (hk : Keep S w w') (hT : ¬ S T) (hg : ¬ S g) : RT w' T g tot cap L W H N := by
  obtain ⟨cs, hr⟩ := h.row
  exact ⟨h.lev, h.htot, h.hcap, h.blk.keep hk hT, ⟨cs, hr.keep hk hg⟩, fun i j hi hj r u hu => hk.cell (h.cell i j hi hj r u hu) hg⟩
theorem RT.aside (h : RT w T g tot cap L W H N) (hk : Keep (fun _ => False) w w') : RT w' T g tot cap L W H N := h.keep hk (fun h => h) (fun h => h)
theorem RT.cells (h : RT w T g tot cap L W H N) {k i : Nat} (hk : k < W * H) (hi : i < L) :
    w.cell? ⟨g, 4 * flat W H k i, none⟩ = some (.int .i64 (N i (idx W i k)).n) ∧ w.cell? ⟨g, 4 * flat W H k i + 1, none⟩ = some (.int .i64 (N i (idx W i k)).low) ∧
    w.cell? ⟨g, 4 * flat W H k i + 2, none⟩ = some (.bool (N i (idx W i k)).said) ∧ w.cell? ⟨g, 4 * flat W H k i + 3, none⟩ = some (.int .i64 (if i + 1 < L then (flat W H k (i + 1) : Int) else -1)) := by
  have hj := idx_lt h.lev hk i
  have hc := h.cell i (idx W i k) hi hj
  exact ⟨hc 0 _ rfl, hc 1 _ rfl, hc 2 _ rfl, by rw [← flat_up h.lev hk hi]; exact hc 3 _ rfl⟩
theorem RT.frozen (h : RT w T g tot cap L W H N) (o : Nat) : w.frozen? ⟨g, o, none⟩ = false := by
  obtain ⟨cs, hr⟩ := h.row
  exact hr.frozen o
end
theorem info_rint : (Try.prog.info? 3).map (fun i => (i.zero, i.size, i.bytes)) = some (some (.int .i64 0), 1, 8) := by kernel_rfl
theorem own_one (w : World) (base : Nat) (e : TypeId) (z : Value) (hb : base ≤ w.heap.size) : (w.alloc (.cells #[z] e)).ownsRow base e 1 (.slice (some ⟨w.heap.size, 0, none⟩) 1 1) 1 [z] :=
  ⟨rfl, .inr ⟨w.heap.size, 1, #[z], rfl, hb, Blk.new w e #[z], Nat.le_refl _, by decide, rfl, rfl⟩⟩

set_option maxHeartbeats 4000000 in
theorem rway_in (w : World) (T g tot cap L W H : Nat) (N : Nat → Nat → Nd) (k : Nat) (h : RT w T g tot cap L W H N) (hk : k < W * H) :
    Calls Try.prog 33 #[.pointer (some ⟨T, 0, none⟩), .int .i64 k] w fun e w' => ∃ A c, e = .returned (.slice A L c) ∧ Rd w' A L ((rflat W H k L).map (Value.int .i64)) ∧ (∀ ad, A = some ad → w.heap.size ≤ ad.block) ∧ Keep (fun _ => False) w w' := by
  obtain ⟨i0, hi0, hz0, hz1, hz2⟩ := info_parts info_rint
  have hL := h.lev.pos
  have hL7 := h.lev.le
  have hf0 : (flat W H k 0 : Int) = (k : Int) := by unfold flat; rw [idx0]; show ((0 + k : Nat) : Int) = _; omega
  have HF0 := hid hf0
  have HK := hid hk
  have H0 := hid h
  have hcap := h.hcap
  have HTOT := hid h.htot
  clear h hf0 hk
  go_enter Try.func33, Try.ntmps33
  go_wp2_with fail
  go_loopw [1, 5] (fun u v wr => ∃ (r : Nat) (A : Option Addr) (c : Nat), r ≤ L ∧ u = .int .i64 (if r < L then (flat W H k r : Int) else -1) ∧ v = .slice A r c ∧ Hid (Rd wr A r ((rflat W H k r).map (Value.int .i64))) ∧ Hid (∀ ad, A = some ad → w.heap.size ≤ ad.block) ∧ Hid (Keep (fun _ => False) w wr)) (fun _ v _ => L - lenS v)
  case atStart => exact ⟨0, none, 0, by omega, by rw [if_pos hL, HF0.out], rfl, hid (Rd.nil _), hid (fun ad e => by cases e), hid (Keep.refl _ _)⟩
  case round =>
    obtain ⟨r, A, c, hr, rfl, rfl, HR, HAN, HKr⟩ := hrel
    by_cases hrL : r < L
    · have HTr := hid (H0.out.aside HKr.out)
      have hc := (HTr.out.cells HK.out hrL)
      have c3 := hc.2.2.2
      have p0 : wr.cell? ⟨T, 0, none⟩ = some (.slice (some ⟨g, 0, none⟩) tot cap) := HTr.out.blk.cell 0
      have hft := off_lt HTr.out.lev HK.out hrL
      rw [← HTOT.out] at hft
      have HRF := hid (show rflat W H k (r + 1) = (flat W H k r : Int) :: rflat W H k r from rfl)
      clear hc
      rw [if_pos hrL]
      obtain ⟨nx, hnx⟩ : ∃ nx : Int, (if r + 1 < L then (flat W H k (r + 1) : Int) else -1) = nx := ⟨_, rfl⟩
      rw [hnx] at c3
      have HNX := hid hnx
      clear hnx
      generalize flat W H k r = fl at *
      rw [Nat.mul_comm 4 fl] at c3
      have HOWN := hid (own_one wr wr.heap.size 3 (.int .i64 fl) (Nat.le_refl _))
      have HRD := hid (HR.out.alloc (.cells #[.int .i64 fl] 3))
      have HKA := hid ((Keep.refl (fun _ => False) wr).alloc (.cells #[.int .i64 fl] 3))
      have HLT := hid (fun k hk => (HOWN.out.lt k hk).1)
      go_wp2_with (
        at_builtin
        go_must (refine wpList_append_src _ rfl (.tmp 9) (.tmp 10) 22 rfl wr.heap.size 3 i0 _ 8 Try.underlying22 hi0 hz0 hz1 hz2 rfl HOWN.out rfl HRD.out rfl (oneCell_ints _ _) (by simp only [maxLen]; omega) (by omega) (by rw [World.size_alloc]; omega) ?_)
        intro v6 w6 hown6 hg6 _h6 _h7
        obtain ⟨A6, c6, rfl⟩ := own_form hown6
        have HK6 := hid (HKr.out.trans (HKA.out.grown hg6 (fun k hk => .inr (HLT.out k hk))) (fun _ _ h => h))
        have HT6 := hid (H0.out.aside HK6.out)
        have p6 : w6.cell? ⟨T, 0, none⟩ = some (.slice (some ⟨g, 0, none⟩) tot cap) := HT6.out.blk.cell 0
        have c6' := HKA.out.cell c3 (fun h => h)
        have HC6 := hid ((HKA.out.grown hg6 (fun k hk => .inr (HLT.out k hk))).cell c3 (fun h => h))
        have c7 := HC6.out
        have HR6 := hid (Rd.of_own hown6)
        have HAN6 := hid (fun ad (e : A6 = some ad) => Nat.le_trans HKr.out.size (hown6.lt ad.block (by rw [e]; rfl)).1)
        clear hown6 hg6 _h6 _h7 c6')
      have HR7 : Hid (Rd w6 A6 (r + 1) ((rflat W H k (r + 1)).map (Value.int .i64))) := hid (by
        rw [HRF.out, Nat.add_comm r 1]
        exact HR6.out)
      go_roundw
      case rel => exact ⟨r + 1, A6, c6, by omega, by rw [HNX.out], by congr 1; omega, HR7, HAN6, HK6⟩
      case measure => simp [lenS]; omega
    · obtain rfl : r = L := by omega
      rw [if_neg (by omega)]
      go_wp2_with fail
      go_ret
      exact ⟨A, c, rfl, HR.out, HAN.out, HKr.out⟩
end Go.Proofs.Ytbkffpedigeflaa
