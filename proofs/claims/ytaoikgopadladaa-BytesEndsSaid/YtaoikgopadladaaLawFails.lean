/-
  BytesFails and BytesEnds: the walks. Conditions: none.
-/
import Derived.Test.YtaoikgopadladaaReader
namespace Go.Proofs.Ytaoikgopadladaa
open Go.RowKit

theorem errOr_ne {e : Int} (f : Int) (h : e ≠ 0) : errOr e f = e := if_neg h
theorem endM_ne (l : List Int) {e : Int} (h : e ≠ 0) : endM l e = e := if_neg (fun hh => h hh.1)
theorem leftM_ne (l : List Int) {e : Int} (h : e ≠ 0) : leftM l e = 0 := if_neg h
theorem takeE_ne (l : List Int) {e : Int} (n : Int) (h : e ≠ 0) : takeE l e n = e := if_neg h

set_option maxHeartbeats 1000000 in
theorem bytesFails_walk (A : Option Addr) (n c : Nat) (zs : List Int) (e f : Int) (w : World) (h : Arg .u8 1 w A n c zs) (_he : (Lit.int .i64 e).wf = true) (_hf : (Lit.int .i64 f).wf = true) :
    Calls Try.prog 9 #[.slice A n c, .int .i64 e, .int .i64 f] w fun en w' => en = .returned (.bool true) ∧ Below w.heap.size w w' := by
  have hnr : n ≤ 140737488355328 := by have := h.cap; have := h.reach; omega
  go_enter Try.func9, Try.ntmps9
  go_wp2_with fail
  refine (known_any w).mono ?_
  rintro en w1 ⟨rfl, hk1⟩
  go_wp2_with fail
  refine (within_any e 15 w1 (by omega) (by omega)).mono ?_
  rintro en w2 ⟨rfl, rfl⟩
  have b1 : 0 ≤ e % 15 := by omega
  have b2 : e % 15 < 15 := by omega
  generalize e % 15 = p at *
  go_wp2_with fail
  refine (within_any f 15 w1 (by omega) (by omega)).mono ?_
  rintro en w2 ⟨rfl, rfl⟩
  have b3 : 0 ≤ f % 15 := by omega
  have b4 : f % 15 < 15 := by omega
  generalize f % 15 = q at *
  have hp : (1 + p) ≠ 0 := by omega
  have HP := hid hp
  clear hp
  go_wp2_with fail
  refine (new_any A n c zs w1 (h.rd.keep hk1 (fun _ _ h => h)) hnr).mono ?_
  rintro en w2 ⟨R, A', c', rfl, hR, hA', hr, hk2⟩
  have hlf : leftM zs 0 = n := by unfold leftM; rw [if_pos rfl, h.len]
  have HLF := hid hlf
  have hs1 := hk1.size
  have hs2 := hk2.size
  have HR := hid hr
  have HK1 := hid (hk1.trans hk2 (fun _ _ h => h))
  clear hlf hr hk1 hk2 hA'
  go_wp2_with fail
  refine (fail_any w2 R A' n c' zs 0 0 HR.out).mono ?_
  rintro en w3 ⟨rfl, hr3, hk3⟩
  have HR3 : Hid (Rdr w3 R A' n c' zs 0) := hr3
  clear hr3
  go_wp2_with fail
  refine (left_any w3 R A' n c' zs 0 HR3.out).mono ?_
  rintro en w4 ⟨rfl, rfl⟩
  rw [HLF.out]
  go_wp2_with fail
  refine (fail_any w3 R A' n c' zs 0 (1 + p) HR3.out).mono ?_
  rintro en w4 ⟨rfl, hr4, hk4⟩
  have HR4 : Hid (Rdr w4 R A' n c' zs (1 + p)) := hr4
  clear hr4
  go_wp2_with fail
  refine (fail_any w4 R A' n c' zs (1 + p) (1 + q) HR4.out).mono ?_
  rintro en w5 ⟨rfl, hr5, hk5⟩
  rw [errOr_ne _ HP.out] at hr5
  have HR5 := hid hr5
  clear hr5
  go_wp2_with fail
  refine (end_any w5 R A' n c' zs (1 + p) HR5.out).mono ?_
  rintro en w6 ⟨rfl, rfl⟩
  rw [endM_ne _ HP.out]
  go_wp2_with fail
  refine (left_any w5 R A' n c' zs (1 + p) HR5.out).mono ?_
  rintro en w6 ⟨rfl, rfl⟩
  rw [leftM_ne _ HP.out]
  go_wp2_with fail
  refine (get_cut w5 R A' n c' zs (1 + p) 1 HR5.out rfl (by rw [takeE_ne _ _ HP.out]; exact HP.out)).mono ?_
  rintro en w6 ⟨rfl, hr6, hk6⟩
  rw [takeE_ne _ _ HP.out] at hr6
  have HR6 := hid hr6
  clear hr6
  go_wp2_with fail
  refine (take_no w6 R A' n c' zs (1 + p) 0 HR6.out (by rw [takeE_ne _ _ HP.out]; exact HP.out)).mono ?_
  rintro en w7 ⟨rfl, hr7, hk7⟩
  clear hr7
  go_wp2_with fail
  go_ret
  have hR0 : w.heap.size ≤ R := by omega
  refine ⟨rfl, Keep.below (S := fun k => k = R) ?_ (Nat.le_refl _) (fun k h => by omega)⟩
  exact ((((HK1.out.mono (fun _ _ h => h.elim)).trans hk3 (fun _ _ h => h)).trans hk4 (fun _ _ h => h)).trans hk5 (fun _ _ h => h)).trans hk6 (fun _ _ h => h) |>.trans hk7 (fun _ _ h => h)

set_option maxHeartbeats 1000000 in
theorem bytesEnds_walk (A : Option Addr) (n c : Nat) (zs : List Int) (k : Int) (w : World) (h : Arg .u8 1 w A n c zs) (_he : (Lit.int .i64 k).wf = true) :
    Calls Try.prog 8 #[.slice A n c, .int .i64 k] w fun en w' => en = .returned (.bool true) ∧ Below w.heap.size w w' := by
  by_cases hn : n ≤ 100
  · have hzl := h.len
    have HZ := hid hzl
    clear hzl
    go_enter Try.func8, Try.ntmps8
    go_wp2_with fail
    refine (known_any w).mono ?_
    rintro en w1 ⟨rfl, hk1⟩
    have hs1 := hk1.size
    go_wp2_with fail
    have h1 := h.rd.keep hk1 (fun _ _ h => h)
    refine (new_any A n c zs w1 h1 (by omega)).mono ?_
    rintro en w2 ⟨R, A', c', rfl, hR, hA', hr, hk2⟩
    have hs2 := hk2.size
    go_wp2_with fail
    have h2 := h1.keep hk2 (fun _ _ h => h)
    refine (new_any A n c zs w2 h2 (by omega)).mono ?_
    rintro en w3 ⟨R2, A2, c2, rfl, hR2, hA2, hr2, hk3⟩
    have hs3 := hk3.size
    go_wp2_with fail
    refine (new_any A n c zs w3 (h2.keep hk3 (fun _ _ h => h)) (by omega)).mono ?_
    rintro en w4 ⟨R3, A3, c3, rfl, hR3, hA3, hr3, hk4⟩
    have hs4 := hk4.size
    have HR := hid ((hr.keep hk3 id (fun _ _ => id)).keep hk4 id (fun _ _ => id))
    have HR2 := hid (hr2.keep hk4 id (fun _ _ => id))
    have HR3 := hid hr3
    have l1 := hr.blk.lt
    have l2 := hr2.blk.lt
    have HA2 := hid hA2
    have HA3 := hid hA3
    have HK := hid (((hk1.trans hk2 (fun _ _ h => h)).trans hk3 (fun _ _ h => h)).trans hk4 (fun _ _ h => h))
    clear hr hr2 hr3 hA' hA2 hA3 h1 h2 hk1 hk2 hk3 hk4 h
    go_wp2_with fail
    refine (within_any k 9 w4 (by omega) (by omega)).mono ?_
    rintro en w5 ⟨rfl, rfl⟩
    have b1 : 0 ≤ k % 9 := by omega
    have b2 : k % 9 < 9 := by omega
    have hm : k % 9 = k % 9 := rfl
    generalize hgm : k % 9 = m at *
    have HM := hid hgm
    clear hgm hm
    go_wp2_with fail
    have te : takeE zs 0 ((n : Int) + 1 + m) = 8 := by
      unfold takeE
      rw [if_pos rfl, if_neg (by omega), if_pos (by rw [HZ.out]; omega)]
    refine (take_no w4 R A' n c' zs 0 ((n : Int) + 1 + m) HR.out (by rw [te]; decide)).mono ?_
    rw [te]
    rintro en w5 ⟨rfl, hr5, hk5⟩
    have HR5 := hid hr5
    have HR25 := hid (HR2.out.keep hk5 (fun e => by omega) (fun ad e hb => by have := HA2.out ad e; omega))
    have HR35 := hid (HR3.out.keep hk5 (fun e => by omega) (fun ad e hb => by have := HA3.out ad e; omega))
    clear te hr5
    go_wp2_with fail
    refine (within_any k 9 w5 (by omega) (by omega)).mono ?_
    rw [HM.out]
    rintro en w6 ⟨rfl, rfl⟩
    go_wp2_with fail
    refine (get_no w5 R2 A2 n c2 zs 0 (9 + m) HR25.out (by simp [fitsB]; omega)).mono ?_
    rintro en w6 ⟨rfl, hr6, hk6⟩
    have HR26 : Hid (Rdr w6 R2 A2 n c2 zs 1) := hr6
    have HR6 := hid (HR5.out.keep hk6 (fun e => by omega) (fun ad e hb => by have := HR5.out.low ad e; omega))
    have HR36 := hid (HR35.out.keep hk6 (fun e => by omega) (fun ad e hb => by have := HA3.out ad e; omega))
    clear hr6
    go_wp2_with fail
    refine (within_any k 9 w6 (by omega) (by omega)).mono ?_
    rw [HM.out]
    rintro en w7 ⟨rfl, rfl⟩
    go_wp2_with fail
    have te : takeE zs 0 (-1 - m) = 1 := by
      unfold takeE
      rw [if_pos rfl, if_pos (by omega)]
    refine (take_no w6 R3 A3 n c3 zs 0 (-1 - m) HR36.out (by rw [te]; decide)).mono ?_
    rw [te]
    rintro en w7 ⟨rfl, hr7, hk7⟩
    have HR37 := hid hr7
    have HR7 := hid (HR6.out.keep hk7 (fun e => by omega) (fun ad e hb => by have := HR6.out.low ad e; omega))
    have HR27 := hid (HR26.out.keep hk7 (fun e => by omega) (fun ad e hb => by have := HR26.out.low ad e; omega))
    clear te hr7
    go_wp2_with fail
    refine (end_any w7 R A' n c' zs 8 HR7.out).mono ?_
    rintro en w8 ⟨rfl, rfl⟩
    rw [endM_ne _ (by decide)]
    go_wp2_with fail
    refine (end_any w7 R2 A2 n c2 zs 1 HR27.out).mono ?_
    rintro en w8 ⟨rfl, rfl⟩
    rw [endM_ne _ (by decide)]
    go_wp2_with fail
    refine (end_any w7 R3 A3 n c3 zs 1 HR37.out).mono ?_
    rintro en w8 ⟨rfl, rfl⟩
    rw [endM_ne _ (by decide)]
    go_wp2_with fail
    refine (left_any w7 R A' n c' zs 8 HR7.out).mono ?_
    rintro en w8 ⟨rfl, rfl⟩
    rw [leftM_ne _ (by decide)]
    go_wp2_with fail
    refine (get_cut w7 R A' n c' zs 8 1 HR7.out rfl (by rw [takeE_ne _ _ (by decide)]; decide)).mono ?_
    rintro en w8 ⟨rfl, hr8, hk8⟩
    have HR28 := hid (HR27.out.keep hk8 (fun e => by omega) (fun ad e hb => by have := HA2.out ad e; omega))
    clear hr8
    go_wp2_with fail
    refine (take_no w8 R2 A2 n c2 zs 1 0 HR28.out (by rw [takeE_ne _ _ (by decide)]; decide)).mono ?_
    rintro en w9 ⟨rfl, hr9, hk9⟩
    clear hr9
    go_wp2_with fail
    go_ret
    refine ⟨rfl, Keep.below (S := fun k => k = R ∨ k = R2 ∨ k = R3) ?_ (Nat.le_refl _) (fun k h => by omega)⟩
    exact (((((HK.out.mono (fun _ _ h => h.elim)).trans hk5 (fun _ _ h => .inl h)).trans hk6 (fun _ _ h => .inr (.inl h))).trans hk7 (fun _ _ h => .inr (.inr h))).trans hk8 (fun _ _ h => .inl h)).trans hk9 (fun _ _ h => .inr (.inl h))
  · have hn' : ¬ (n : Int) ≤ 100 := by omega
    go_enter Try.func8, Try.ntmps8
    go_wp2_with fail
    refine (known_any w).mono ?_
    rintro e w1 ⟨rfl, hk1⟩
    go_wp2_with fail
    go_ret
    exact ⟨rfl, hk1.below (Nat.le_refl _) (fun _ h => h.elim)⟩
end Go.Proofs.Ytaoikgopadladaa
