/-
  Fields are put: within, fits, Put of the program and of the reference. Conditions: at most 2^46 bytes ahead.
-/
import Derived.Test.YtaoikgopadladaaClone
import Derived.IntWalk
namespace Go.Proofs.Ytaoikgopadladaa
open Go.RowKit

set_option maxHeartbeats 400000 in
theorem within_any (a n : Int) (w : World) (hn : 0 < n) (hn1 : n ≤ 4611686018427387904) :
    Calls Try.prog 11 #[.int .i64 a, .int .i64 n] w fun e w' => e = .returned (.int .i64 (a % n)) ∧ w = w' := by
  obtain ⟨f1, f2, f3, f4⟩ := tmod_fix a n hn
  have F1 := hid f1
  have F2 := hid f2
  clear f1 f2
  have hz : (n == 0) = false := by simp; omega
  go_enter Try.func11, Try.ntmps11
  go_wp2
  · go_ret
    exact ⟨ret_i64 (by rw [← F1.out (by assumption)]), rfl⟩
  · go_ret
    exact ⟨ret_i64 (by rw [← F2.out (by assumption)]), rfl⟩

/-- May a field have so many bytes? -/
def fitsB (a : Int) : Bool := decide (1 ≤ a ∧ a ≤ 8)
set_option maxHeartbeats 400000 in
theorem fits_any (a : Int) (w : World) :
    Calls Try.prog 27 #[.int .i64 a] w fun e w' => e = .returned (.bool (fitsB a)) ∧ w = w' := by
  go_enter Try.func27, Try.ntmps27
  go_wp2
  · go_ret
    refine ⟨ret_bool ?_, rfl⟩
    simp [fitsB]; omega
  · go_ret
    refine ⟨ret_bool ?_, rfl⟩
    simp [fitsB]; omega

/-- The j bytes of a number, the highest first. -/
def putB (x : Int) : Nat → List Int
  | 0 => []
  | j + 1 => (IntKind.u64.wrap x / 2 ^ (8 * j) % 256) :: putB x j
theorem putB_length (x : Int) (j : Nat) : (putB x j).length = j := by induction j with | zero => rfl | succ j ih => simp [putB, ih]
/-- What the loop of Put has done when j bytes are still to come. -/
def PutR (zs : List Int) (x : Int) (s : Nat) (base : Nat) (w1 : World) (n j : Nat) (v : Value) (wr : World) : Prop :=
  ∃ pre : List Int, pre ++ putB x j = putB x s ∧ wr.ownsRow base 5 1 v (n + pre.length) ((zs ++ pre).map (Value.int .u8)) ∧ Keep (fun k => base ≤ k) w1 wr

theorem PutR.next {zs : List Int} {x : Int} {s base n j : Nat} {w1 wr w2 : World} {v v2 : Value} {o : Obj} {pre : List Int} (he : pre ++ putB x (j + 1) = putB x s)
    (hown : wr.ownsRow base 5 1 v (n + pre.length) ((zs ++ pre).map (Value.int .u8))) (hk : Keep (fun k => base ≤ k) w1 wr)
    (hown2 : w2.ownsRow base 5 1 v2 (n + pre.length + 1) ((zs ++ pre).map (Value.int .u8) ++ [.int .u8 (IntKind.u64.wrap x / 2 ^ (8 * j) % 256)])) (hg : (wr.alloc o).grownBy w2 v.ownBlock) :
    PutR zs x s base w1 n j v2 w2 := by
  refine ⟨pre ++ [IntKind.u64.wrap x / 2 ^ (8 * j) % 256], by rw [← he]; simp [putB], by simpa [Nat.add_assoc] using hown2, (hk.alloc o).grown hg fun k hk' => .inl (hown.lt k hk').1⟩

set_option maxHeartbeats 400000 in
theorem put_any (A : Option Addr) (n c : Nat) (zs : List Int) (size x : Int) (w : World) (h : Rd w A n (zs.map (Value.int .u8))) (hn : n ≤ 70368744177664) (hs : fitsB size = true) :
    Calls Try.prog 12 #[.slice A n c, .int .i64 size, .int .i64 x] w fun e w' => ∃ v', e = .returned v' ∧
      w'.ownsRow w.heap.size 5 1 v' (n + size.toNat) ((zs ++ putB x size.toNat).map (Value.int .u8)) ∧ Keep (fun _ => False) w w' := by
  have hs' : 1 ≤ size ∧ size ≤ 8 := by simpa [fitsB] using hs
  obtain ⟨s, rfl⟩ := Int.eq_ofNat_of_zero_le (show 0 ≤ size by omega)
  obtain ⟨i0, hi0, hz0, hz1, hz2⟩ := info_parts info_u8
  go_enter Try.func12, Try.ntmps12
  go_wp2_with fail
  refine (clone_any A n c zs w h (by omega)).mono ?_
  rintro e w1 ⟨v1, rfl, hown1, hk1⟩
  go_wp2_with fail
  refine (fits_any s w1).mono ?_
  rintro e w2 ⟨rfl, rfl⟩
  rw [hs]
  go_wp2_with fail
  go_loopw [7, 8] (fun v k wr => ∃ j : Nat, j ≤ 8 ∧ PutR zs x s w.heap.size w1 n j v wr ∧ k = .int .i64 ((j : Int) - 1)) (fun _ k _ => (intOf k + 1).toNat)
  case atStart => exact ⟨s, by omega, ⟨[], by simp, by simpa using hown1, Keep.refl _ _⟩, rfl⟩
  case round =>
    obtain ⟨j, hj, ⟨pre, hpre, hown, hk⟩, rfl⟩ := hrel
    have hs1 := hk.size
    have hs2 := hk1.size
    obtain ⟨A7, c7, rfl⟩ := own_form hown
    have hpl : pre.length + j = s := by
      have := congrArg List.length hpre
      simpa [putB_length] using this
    have HP := hid hpre
    have HO := hid hown1
    clear hpre hown1
    cases j with
    | zero =>
      go_wp2_with fail
      have hpl' : pre.length ≤ 8 := by omega
      have HL := hid hpl
      clear hpl
      refine (clone_any A7 (n + pre.length) c7 (zs ++ pre) wr (Rd.of_own hown) (by omega)).mono ?_
      rintro e w3 ⟨v3, rfl, hown3, hk3⟩
      go_wp2_with fail
      go_ret
      have := HL.out
      have hp := HP.out
      simp [putB] at hp
      subst hp
      refine ⟨v3, rfl, ?_, ((hk1.trans hk (fun i hi h => by omega)).trans hk3 (fun _ _ h => h))⟩
      rw [putB_length] at hown3
      exact own_mono hown3 (by omega)
    | succ j =>
      have hpl' : pre.length ≤ 8 := by omega
      clear hpl
      go_wp2_with (
        at_builtin
        go_must (refine wpList_append_one wr rfl (.tmp 21) (.tmp 28) _ rfl w.heap.size 5 i0 _ 1 Try.underlying22 hi0 hz0 hz1 hz2 rfl hown rfl _ rfl rfl (by simp only [maxLen]; omega) (by omega) (by omega) ?_)
        intro v2 w2 hown2 hg2 _hat2 _hold2)
      go_roundw
      case rel => exact ⟨j, by omega, PutR.next HP.out hown hk hown2 hg2, by go_num⟩
      case measure => simp [intOf]

/-- What the loop of the reference's Put has done. -/
def RefR (o : Value) (zs : List Int) (x : Int) (s : Nat) (base : Nat) (w : World) (n j : Nat) (v : Value) (wr : World) : Prop :=
  ∃ pre : List Int, pre ++ putB x j = putB x s ∧ wr.ownsRow base 5 1 v (n + pre.length) ((zs ++ pre).map (Value.int .u8)) ∧ wr.ownsRow base 5 1 o n (zs.map (Value.int .u8)) ∧
    Keep (fun k => o.ownBlock = some k) w wr ∧ (v.ownBlock = o.ownBlock ∨ ∃ k, v.ownBlock = some k ∧ w.heap.size ≤ k)

theorem RefR.next {o : Value} {zs : List Int} {x : Int} {s base n j : Nat} {w wr w2 : World} {v v2 : Value} {ob : Obj} {pre : List Int} (he : pre ++ putB x (j + 1) = putB x s)
    (hown : wr.ownsRow base 5 1 v (n + pre.length) ((zs ++ pre).map (Value.int .u8))) (ho : wr.ownsRow base 5 1 o n (zs.map (Value.int .u8))) (hk : Keep (fun k => o.ownBlock = some k) w wr)
    (hv : v.ownBlock = o.ownBlock ∨ ∃ k, v.ownBlock = some k ∧ w.heap.size ≤ k) (hz : zs.length = n)
    (hown2 : w2.ownsRow base 5 1 v2 (n + pre.length + 1) ((zs ++ pre).map (Value.int .u8) ++ [.int .u8 (IntKind.u64.wrap x / 2 ^ (8 * j) % 256)])) (hg : (wr.alloc ob).grownBy w2 v.ownBlock)
    (hat : v2.ownBlock = v.ownBlock ∨ v2.ownBlock = some (wr.heap.size + 1)) (hold : w2.ownsRow base 5 1 v (n + pre.length) ((zs ++ pre).map (Value.int .u8))) :
    RefR o zs x s base w n j v2 w2 := by
  refine ⟨pre ++ [IntKind.u64.wrap x / 2 ^ (8 * j) % 256], by rw [← he]; simp [putB], by simpa [Nat.add_assoc] using hown2, ?_, (hk.alloc ob).grown hg ?_, ?_⟩
  · exact own_hold ho hown (by omega) (by simp [hz]) hold (((Keep.refl _ wr).alloc ob).grown hg (fun k hk => .inl hk))
  · intro k hk'
    rcases hv with hv | ⟨k', hv, hle⟩
    · exact .inl (by rw [← hv]; exact hk')
    · rw [hv] at hk'; injection hk' with hk'; subst hk'; exact .inr hle
  · rcases hat with h | h
    · rw [h]; exact hv
    · exact .inr ⟨_, h, by have := hk.size; omega⟩

set_option maxHeartbeats 400000 in
theorem refput_any (A : Option Addr) (n c : Nat) (zs : List Int) (size x : Int) (w : World) (base : Nat) (h : w.ownsRow base 5 1 (.slice A n c) n (zs.map (Value.int .u8))) (hb : base ≤ w.heap.size) (hn : n ≤ 70368744177664) (hs1 : 1 ≤ size) (hs2 : size ≤ 8) :
    Calls Try.prog 13 #[.slice A n c, .int .i64 size, .int .i64 x] w fun e w' => ∃ v', e = .returned v' ∧
      w'.ownsRow base 5 1 v' (n + size.toNat) ((zs ++ putB x size.toNat).map (Value.int .u8)) ∧ w'.ownsRow base 5 1 (.slice A n c) n (zs.map (Value.int .u8)) ∧
      Keep (fun k => (Value.slice A n c).ownBlock = some k) w w' := by
  obtain ⟨s, rfl⟩ := Int.eq_ofNat_of_zero_le (show 0 ≤ size by omega)
  obtain ⟨i0, hi0, hz0, hz1, hz2⟩ := info_parts info_u8
  have hzl : zs.length = n := by have := h.1; simpa using this
  have HZ := hid hzl
  clear hzl
  go_enter Try.func13, Try.ntmps13
  go_wp2_with fail
  generalize ho : (Value.slice A n c) = o at *
  have HO := hid ho
  clear ho
  go_loopw [0, 7] (fun v k wr => ∃ j : Nat, j ≤ 8 ∧ RefR o zs x s base w n j v wr ∧ k = .int .i64 ((j : Int) - 1)) (fun _ k _ => (intOf k + 1).toNat)
  case atStart => exact ⟨s, by omega, ⟨[], by simp, by simpa using h, h, Keep.refl _ _, .inl rfl⟩, rfl⟩
  case round =>
    obtain ⟨j, hj, ⟨pre, hpre, hown, ho2, hk, hv⟩, rfl⟩ := hrel
    have hs1 := hk.size
    have hpl : pre.length + j = s := by
      have := congrArg List.length hpre
      simpa [putB_length] using this
    have HP := hid hpre
    have HV := hid hv
    have HL := hid hpl
    have hpl' : pre.length ≤ 8 := by omega
    clear hpre hv hpl
    cases j with
    | zero =>
      go_wp2_with fail
      go_ret
      have := HL.out
      have hp := HP.out
      simp [putB] at hp
      subst hp
      rw [putB_length] at hown
      exact ⟨_, rfl, hown, by rw [HO.out]; exact ho2, by rw [HO.out]; exact hk⟩
    | succ j =>
      go_wp2_with (
        at_builtin
        go_must (refine wpList_append_one wr rfl (.tmp 21) (.tmp 29) _ rfl base 5 i0 _ 1 Try.underlying22 hi0 hz0 hz1 hz2 rfl hown rfl _ rfl rfl (by simp only [maxLen]; omega) (by omega) (by omega) ?_)
        intro v2 w2 hown2 hg2 hat2 hold2)
      go_roundw
      case rel => exact ⟨j, by omega, RefR.next HP.out hown ho2 hk HV.out HZ.out hown2 hg2 hat2 hold2, by go_num⟩
      case measure => simp [intOf]
end Go.Proofs.Ytaoikgopadladaa
