/-
  The program's reader of bits: numbers, the end, a new one. Conditions: at most 2^40 bytes are read.
-/
import Derived.Test.YtbkffpedigeflaaBitsR
namespace Go.Proofs.Ytbkffpedigeflaa
open Go.RowKit

/-- A reader's state: how many bytes were begun, how many bits are left, whether it is bad. -/
abbrev RS := Nat × Int × Bool
def rdS (l : List Int) (s : RS) : RS := (rdP s.1 s.2.1, rdL l s.1 s.2.1, badM l s.1 s.2.1 s.2.2)
def rdV (l : List Int) (s : RS) : Int := rdB l s.1 s.2.1
/-- Many bits, one number. -/
def rdRun (l : List Int) : Nat → Int → RS → Int × RS
  | 0, a, s => (a, s)
  | j + 1, a, s => rdRun l j (a * 2 + rdV l s) (rdS l s)
/-- A number of a size; none: 0, and nothing is read. -/
def rdNum (l : List Int) (size : Int) (s : RS) : Int × RS := if 1 ≤ size ∧ size ≤ 32 then rdRun l size.toNat 0 s else (0, s)
theorem rdV_bit (l : List Int) (s : RS) : 0 ≤ rdV l s ∧ rdV l s ≤ 1 := by unfold rdV rdB; omega
theorem rdL_le (l : List Int) (p : Nat) (r : Int) (h0 : 0 ≤ r) (h8 : r ≤ 8) : 0 ≤ rdL l p r ∧ rdL l p r ≤ 8 := by
  have := room_le (atM l ((p : Int) - 1))
  unfold rdL
  split <;> omega
theorem rdP_le (p : Nat) (r : Int) : rdP p r ≤ p + 1 := by unfold rdP; split <;> omega
theorem rdRun_inv (l : List Int) : ∀ (j : Nat) (a : Int) (s : RS), 0 ≤ s.2.1 ∧ s.2.1 ≤ 8 → (0 ≤ (rdRun l j a s).2.2.1 ∧ (rdRun l j a s).2.2.1 ≤ 8) ∧ (rdRun l j a s).2.1 ≤ s.1 + j
  | 0, a, s, h => ⟨h, Nat.le_refl _⟩
  | j + 1, a, s, h => by
    have h1 := rdRun_inv l j (a * 2 + rdV l s) (rdS l s) (rdL_le l s.1 s.2.1 h.1 h.2)
    have h2 := rdP_le s.1 s.2.1
    refine ⟨h1.1, ?_⟩
    have h3 := h1.2
    show (rdRun l j _ (rdS l s)).2.1 ≤ _
    have : (rdS l s).1 = rdP s.1 s.2.1 := rfl
    omega
theorem rdNum_inv (l : List Int) (size : Int) (s : RS) (h : 0 ≤ s.2.1 ∧ s.2.1 ≤ 8) : (0 ≤ (rdNum l size s).2.2.1 ∧ (rdNum l size s).2.2.1 ≤ 8) ∧ (rdNum l size s).2.1 ≤ s.1 + 32 := by
  unfold rdNum
  split
  · rename_i hs
    have := rdRun_inv l size.toNat 0 s h
    exact ⟨this.1, by omega⟩
  · exact ⟨h, by show s.1 ≤ s.1 + 32; omega⟩
theorem or_bit (a b : Int) (h0 : 0 ≤ a) (h1 : a ≤ 2147483647) (hb : 0 ≤ b ∧ b ≤ 1) : bits .or .i64 (a * 2) b = a * 2 + b := by
  obtain ⟨A, rfl⟩ := Int.eq_ofNat_of_zero_le h0
  obtain ⟨B, rfl⟩ := Int.eq_ofNat_of_zero_le hb.1
  have e : (A : Int) * 2 = ((A * 2 : Nat) : Int) := by omega
  rw [e, i64_or_nat (A * 2) B (by omega) (by omega)]
  have h2 := nat_or_add (A * 2) B 0 (by simp) (by omega)
  simp at h2
  rw [h2]
  omega

/-- The reader, its state as one. -/
def RrS (w : World) (base R : Nat) (A : Option Addr) (n c : Nat) (l : List Int) (s : RS) : Prop := Rr w base R A n c l s.1 s.2.1 s.2.2
theorem rdS_any (w : World) (base R : Nat) (A : Option Addr) (n c : Nat) (l : List Int) (s : RS) (h : RrS w base R A n c l s) (hb : Bytes l) (hr : 0 ≤ s.2.1 ∧ s.2.1 ≤ 8) (hp : s.1 ≤ 1099511627776) :
    Calls Try.prog 16 #[.pointer (some ⟨R, 0, none⟩)] w fun e w' => e = .returned (.int .i64 (rdV l s)) ∧ RrS w' base R A n c l (rdS l s) ∧ Keep (fun k => k = R) w w' :=
  rd_any w base R A n c l s.1 s.2.1 s.2.2 h hb hr.1 hr.2 hp

/-- How many bytes were read, and the error. -/
def endM (l : List Int) (p : Nat) (bad : Bool) : Int × Int :=
  if l.length < (if atM l ((p : Int) - 1) = 255 then p + 1 else p) then (0, 8)
  else if bad = true ∨ (atM l ((p : Int) - 1) = 255 ∧ 128 ≤ atM l p) then (0, 10) else (((if atM l ((p : Int) - 1) = 255 then p + 1 else p) : Nat), 0)
set_option maxHeartbeats 1600000 in
theorem end_any (w : World) (base R : Nat) (A : Option Addr) (n c : Nat) (l : List Int) (p : Nat) (r : Int) (bad : Bool) (h : Rr w base R A n c l p r bad) (hp : p ≤ 1099511627776) :
    Calls Try.prog 23 #[.pointer (some ⟨R, 0, none⟩)] w fun e w' => e = .returned (.tuple #[.int .i64 (endM l p bad).1, .int .i64 (endM l p bad).2]) ∧ Rr w' base R A n c l p r bad ∧ Keep (fun _ => False) w w' := by
  have h0 : w.cell? ⟨R, 0, none⟩ = some (.slice A n c) := h.blk.cell 0
  have h1 : w.cell? ⟨R, 1, none⟩ = some (.int .i64 p) := h.blk.cell 1
  have h3 : w.cell? ⟨R, 3, none⟩ = some (.bool bad) := h.blk.cell 3
  have HL := hid h.len
  have H := hid h
  have wp : IntKind.i64.wrap ((p : Int) - 1) = (p : Int) - 1 := IntWalk.i64_in _ (by omega)
  by_cases hz : atM l ((p : Int) - 1) = 255
  · by_cases hlen : n < p + 1
    · have HM := hid (show endM l p bad = (0, 8) by unfold endM; rw [if_pos hz, HL.out, if_pos hlen])
      cases bad with
      | true =>
        clear h
        go_enter Try.func23, Try.ntmps23
        go_wp2_with fail
        go_quiet (fail)
        go_wp2_with fail
        refine (at_any _ base R A n c l p r true ((p : Int) - 1) (H.out.aside ((Keep.refl _ w).drewN _))).mono ?_
        rintro e w7 ⟨rfl, rfl⟩
        rw [hz]
        go_wp2_with fail
        go_ret2
        exact ⟨by rw [HM.out]; rfl, H.out.aside ((Keep.refl _ w).drewN _), (Keep.refl _ w).drewN _⟩
      | false =>
        clear h
        go_enter Try.func23, Try.ntmps23
        go_wp2_with fail
        go_quiet (fail)
        go_wp2_with fail
        refine (at_any _ base R A n c l p r false ((p : Int) - 1) (H.out.aside ((Keep.refl _ w).drewN _))).mono ?_
        rintro e w7 ⟨rfl, rfl⟩
        rw [hz]
        clear hz
        go_wp2_with fail
        refine (at_any _ base R A n c l p r false p (H.out.aside ((Keep.refl _ w).drewN _))).mono ?_
        rintro e w7 ⟨rfl, rfl⟩
        generalize atM l p = z at *
        go_wp2_with fail
        go_ret2
        exact ⟨by rw [HM.out]; rfl, H.out.aside ((Keep.refl _ w).drewN _), (Keep.refl _ w).drewN _⟩
    · have hn : p + 1 ≤ n := by omega
      cases bad with
      | true =>
        have HM := hid (show endM l p true = (0, 10) by unfold endM; rw [if_pos hz, HL.out, if_neg hlen, if_pos (.inl rfl)])
        clear h
        go_enter Try.func23, Try.ntmps23
        go_wp2_with fail
        go_quiet (fail)
        go_wp2_with fail
        refine (at_any _ base R A n c l p r true ((p : Int) - 1) (H.out.aside ((Keep.refl _ w).drewN _))).mono ?_
        rintro e w7 ⟨rfl, rfl⟩
        rw [hz]
        go_wp2_with fail
        go_ret2
        exact ⟨by rw [HM.out]; rfl, H.out.aside ((Keep.refl _ w).drewN _), (Keep.refl _ w).drewN _⟩
      | false =>
        by_cases hg : 128 ≤ atM l p
        · have HM := hid (show endM l p false = (0, 10) by unfold endM; rw [if_pos hz, HL.out, if_neg hlen, if_pos (.inr ⟨hz, hg⟩)])
          clear h
          go_enter Try.func23, Try.ntmps23
          go_wp2_with fail
          go_quiet (fail)
          go_wp2_with fail
          refine (at_any _ base R A n c l p r false ((p : Int) - 1) (H.out.aside ((Keep.refl _ w).drewN _))).mono ?_
          rintro e w7 ⟨rfl, rfl⟩
          rw [hz]
          clear hz
          go_wp2_with fail
          refine (at_any _ base R A n c l p r false p (H.out.aside ((Keep.refl _ w).drewN _))).mono ?_
          rintro e w7 ⟨rfl, rfl⟩
          generalize atM l p = z at *
          go_wp2_with fail
          go_ret2
          exact ⟨by rw [HM.out]; rfl, H.out.aside ((Keep.refl _ w).drewN _), (Keep.refl _ w).drewN _⟩
        · have HM := hid (show endM l p false = (((p + 1 : Nat) : Int), (0 : Int)) by unfold endM; rw [if_pos hz, HL.out, if_neg hlen, if_neg (by simp [hg])])
          clear h
          go_enter Try.func23, Try.ntmps23
          go_wp2_with fail
          go_quiet (fail)
          go_wp2_with fail
          refine (at_any _ base R A n c l p r false ((p : Int) - 1) (H.out.aside ((Keep.refl _ w).drewN _))).mono ?_
          rintro e w7 ⟨rfl, rfl⟩
          rw [hz]
          clear hz
          go_wp2_with fail
          refine (at_any _ base R A n c l p r false p (H.out.aside ((Keep.refl _ w).drewN _))).mono ?_
          rintro e w7 ⟨rfl, rfl⟩
          generalize atM l p = z at *
          go_wp2_with fail
          go_ret2
          exact ⟨by rw [HM.out]; rfl, H.out.aside ((Keep.refl _ w).drewN _), (Keep.refl _ w).drewN _⟩
  · have hzf : (atM l ((p : Int) - 1) == 255) = false := by simpa using hz
    by_cases hlen : n < p
    · have HM := hid (show endM l p bad = (0, 8) by unfold endM; rw [if_neg hz, HL.out, if_pos hlen])
      clear h
      go_enter Try.func23, Try.ntmps23
      go_wp2_with fail
      go_quiet (fail)
      go_wp2_with fail
      refine (at_any _ base R A n c l p r bad ((p : Int) - 1) (H.out.aside ((Keep.refl _ w).drewN _))).mono ?_
      rintro e w7 ⟨rfl, rfl⟩
      clear hz
      generalize atM l ((p : Int) - 1) = z at *
      go_wp2_with fail
      go_ret2
      exact ⟨by rw [HM.out]; rfl, H.out.aside ((Keep.refl _ w).drewN _), (Keep.refl _ w).drewN _⟩
    · have hn : p ≤ n := by omega
      cases bad with
      | true =>
        have HM := hid (show endM l p true = (0, 10) by unfold endM; rw [if_neg hz, HL.out, if_neg hlen, if_pos (.inl rfl)])
        clear h
        go_enter Try.func23, Try.ntmps23
        go_wp2_with fail
        go_quiet (fail)
        go_wp2_with fail
        refine (at_any _ base R A n c l p r true ((p : Int) - 1) (H.out.aside ((Keep.refl _ w).drewN _))).mono ?_
        rintro e w7 ⟨rfl, rfl⟩
        clear hz
        generalize atM l ((p : Int) - 1) = z at *
        go_wp2_with fail
        go_ret2
        exact ⟨by rw [HM.out]; rfl, H.out.aside ((Keep.refl _ w).drewN _), (Keep.refl _ w).drewN _⟩
      | false =>
        have HM := hid (show endM l p false = ((p : Int), (0 : Int)) by unfold endM; rw [if_neg hz, HL.out, if_neg hlen, if_neg (by simp [hz])])
        clear h
        go_enter Try.func23, Try.ntmps23
        go_wp2_with fail
        go_quiet (fail)
        go_wp2_with fail
        refine (at_any _ base R A n c l p r false ((p : Int) - 1) (H.out.aside ((Keep.refl _ w).drewN _))).mono ?_
        rintro e w7 ⟨rfl, rfl⟩
        clear hz
        generalize atM l ((p : Int) - 1) = z at *
        go_wp2_with fail
        go_ret2
        exact ⟨by rw [HM.out]; rfl, H.out.aside ((Keep.refl _ w).drewN _), (Keep.refl _ w).drewN _⟩

set_option maxHeartbeats 400000 in
theorem newr_any (w : World) (A : Option Addr) (n c : Nat) (l : List Int) (h : Rd w A n (l.map (Value.int .u8))) (hn : n ≤ 1099511627776) :
    Calls Try.prog 15 #[.slice A n c] w fun e w' => ∃ R A' c', e = .returned (.pointer (some ⟨R, 0, none⟩)) ∧ w.heap.size ≤ R ∧ RrS w' w.heap.size R A' n c' l (0, 0, false) ∧ Keep (fun _ => False) w w' := by
  go_enter Try.func15, Try.ntmps15
  go_wp2_with fail
  refine (clone_any A n c l w h (by omega)).mono ?_
  rintro e w1 ⟨v1, rfl, hown1, hk1⟩
  obtain ⟨A1, c1, rfl⟩ := own_form hown1
  go_wp2_with fail
  go_ret
  exact ⟨w1.heap.size, A1, c1, rfl, hk1.size, ⟨Blk.new _ _ _, hown1.alloc _⟩, hk1.alloc _⟩
end Go.Proofs.Ytbkffpedigeflaa
