/-
  The program's decoder: new ones. Conditions: at most 2^30 bytes.
-/
import Derived.Test.YtcieeoobobafmaaMqDec2
namespace Go.Proofs.Ytcieeoobobafmaa
open Go.RowKit

def newD (l : List Int) : DS :=
  ⟨32768, wrap64 ((inM l ⟨32768, byteM l 0 * 65536, 0, 0⟩).c * 128), (inM l ⟨32768, byteM l 0 * 65536, 0, 0⟩).ct - 7, (inM l ⟨32768, byteM l 0 * 65536, 0, 0⟩).p⟩
theorem newD_inv (l : List Int) : DInv l (newD l) := by
  have h := inM_ct l ⟨32768, byteM l 0 * 65536, 0, 0⟩
  refine ⟨by show (0 : Int) < 32768; decide, ?_, ?_, inM_p (Nat.zero_le _)⟩
  · show 0 ≤ (inM l ⟨32768, byteM l 0 * 65536, 0, 0⟩).ct - 7; omega
  · show (inM l ⟨32768, byteM l 0 * 65536, 0, 0⟩).ct - 7 ≤ 8; omega
set_option maxRecDepth 20000 in
set_option maxHeartbeats 2000000 in
theorem newd_any (w : World) (A : Option Addr) (n c : Nat) (l : List Int) (h : Rd w A n (l.map (Value.int .u8))) (hby : Bytes l) (hn : n ≤ 1073741000) :
    Calls Try.prog 17 #[.slice A n c] w fun e w' => ∃ D A' c', e = .returned (.pointer (some ⟨D, 0, none⟩)) ∧ w.heap.size ≤ D ∧ De w' w.heap.size D A' n c' l (newD l) ∧ Keep (fun _ => False) w w' := by
  have hr := byteM_range hby 0
  go_enter Try.func17, Try.ntmps17
  go_wp2_with fail
  refine (clone_any A n c l w h (by omega)).mono ?_
  rintro e w1 ⟨v1, rfl, hown1, hk1⟩
  obtain ⟨A1, c1, rfl⟩ := own_form hown1
  go_wp2_with fail
  have hD : De (w1.alloc (.cells #[.slice A1 n c1, .int .i64 32768, .int .i64 0, .int .i64 0, .int .i64 0] 66)) w.heap.size w1.heap.size A1 n c1 l ⟨32768, 0, 0, 0⟩ :=
    ⟨Blk.new w1 _ _, own_keep hown1 ((Keep.refl (fun _ => False) w1).alloc _) (fun _ _ h => h)⟩
  have hk2 := hk1.alloc (.cells #[.slice A1 n c1, .int .i64 32768, .int .i64 0, .int .i64 0, .int .i64 0] 66)
  have hsz := hk1.size
  generalize w1.alloc (.cells #[.slice A1 n c1, .int .i64 32768, .int .i64 0, .int .i64 0, .int .i64 0] 66) = w2 at *
  generalize w1.heap.size = D at *
  have HD := hid hD
  have HK2 := hid hk2
  have HBY := hid hby
  clear hk1 hown1 hk2 h hD
  refine (byte_any w2 _ D A1 n c1 l ⟨32768, 0, 0, 0⟩ 0 HD.out hby (by omega)).mono ?_
  rintro e w3 ⟨rfl, rfl⟩
  have g2 : w2.cell? ⟨D, 2, none⟩ = some (.int .i64 0) := HD.out.blk.cell 2
  have f2 := HD.out.blk.frozen 2
  have HN := hid (show newD l = ⟨32768, wrap64 ((inM l ⟨32768, byteM l 0 * 65536, 0, 0⟩).c * 128), (inM l ⟨32768, byteM l 0 * 65536, 0, 0⟩).ct - 7, (inM l ⟨32768, byteM l 0 * 65536, 0, 0⟩).p⟩ from rfl)
  clear hby
  generalize byteM l 0 = z at *
  have h3 := HD.out.fin (s' := ⟨32768, z * 65536, 0, 0⟩) ((Keep.refl (fun k => k = D) w2).setR 2 (.int .i64 (z * 65536))) (HD.out.blk.set_ 2 (.int .i64 (z * 65536))) (by simp)
  have H3 := hid h3
  clear h3
  go_wp2_with fail
  refine (in_any _ w.heap.size D A1 n c1 l ⟨32768, z * 65536, 0, 0⟩ H3.out.1 HBY.out (Nat.zero_le _) hn).mono ?_
  rintro e w4 ⟨rfl, hE4, hK4⟩
  have hct := inM_ct l ⟨32768, z * 65536, 0, 0⟩
  have ha := inM_a l ⟨32768, z * 65536, 0, 0⟩
  generalize inM l ⟨32768, z * 65536, 0, 0⟩ = s1 at *
  obtain ⟨a1, c4, t1, p1⟩ := s1
  simp only at hct ha
  subst ha
  have g2' : w4.cell? ⟨D, 2, none⟩ = some (.int .i64 c4) := hE4.blk.cell 2
  have f2' := hE4.blk.frozen 2
  have g3' : w4.cell? ⟨D, 3, none⟩ = some (.int .i64 t1) := hE4.blk.cell 3
  have f3' := hE4.blk.frozen 3
  have HE4 := hid hE4
  have HK4 := hid hK4
  clear hE4 hK4
  go_wp2_with fail
  go_ret
  have hf := HE4.out.fin (s' := ⟨32768, wrap64 (c4 * 128), t1 - 7, p1⟩) (((Keep.refl (fun k => k = D) w4).setR 2 (.int .i64 (wrap64 (c4 * 128)))).setR 3 (.int .i64 (t1 - 7))) ((HE4.out.blk.set_ 2 (.int .i64 (wrap64 (c4 * 128)))).set_ 3 (.int .i64 (t1 - 7))) (by simp)
  refine ⟨D, A1, c1, rfl, hsz, ?_, ?_⟩
  · rw [HN.out]; exact hf.1
  · exact (HK2.out.trans ((H3.out.2.trans HK4.out (fun _ _ h => h)).trans hf.2 (fun _ _ h => h)) (fun i hi h => by subst h; omega))
end Go.Proofs.Ytcieeoobobafmaa
