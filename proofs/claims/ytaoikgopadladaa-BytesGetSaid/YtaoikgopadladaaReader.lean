/-
  The program's reader of fields: what it holds, and what each of its methods does. Conditions: what is read lies in at most 2^46 bytes.
-/
import Derived.Test.YtaoikgopadladaaLawPut
import Derived.Deep.QuietTactic
import Derived.BigQuiet
namespace Go.Proofs.Ytaoikgopadladaa
open Go.RowKit

/-- The reader at block R: the rest l (at A, with n and c), the error e. -/
structure Rdr (w : World) (R : Nat) (A : Option Addr) (n c : Nat) (l : List Int) (e : Int) : Prop where
  blk : Blk w R 49 #[.slice A n c, .int .i64 e]
  rd : Rd w A n (l.map (Value.int .u8))
  cap : n ≤ c
  low : ∀ ad, A = some ad → ad.block < R

theorem Rdr.keep {w w' : World} {R : Nat} {A : Option Addr} {n c : Nat} {l : List Int} {e : Int} (h : Rdr w R A n c l e) {S : Nat → Prop} (hk : Keep S w w') (hR : ¬ S R) (hA : ∀ ad, A = some ad → ¬ S ad.block) : Rdr w' R A n c l e :=
  ⟨h.blk.keep hk hR, h.rd.keep hk hA, h.cap, h.low⟩

theorem Rdr.drew {w : World} {R : Nat} {A : Option Addr} {n c : Nat} {l : List Int} {e : Int} (h : Rdr w R A n c l e) : Rdr w.drew R A n c l e := ⟨h.blk, h.rd, h.cap, h.low⟩
theorem Rdr.undrew {w : World} {R : Nat} {A : Option Addr} {n c : Nat} {l : List Int} {e : Int} (h : Rdr w.drew R A n c l e) : Rdr w R A n c l e := ⟨h.blk, h.rd, h.cap, h.low⟩
def errOr (e f : Int) : Int := if e = 0 then f else e
def endM (l : List Int) (e : Int) : Int := if e = 0 ∧ l ≠ [] then 9 else e
def leftM (l : List Int) (e : Int) : Int := if e = 0 then l.length else 0

set_option maxHeartbeats 400000 in
theorem fail_any (w : World) (R : Nat) (A : Option Addr) (n c : Nat) (l : List Int) (e f : Int) (h : Rdr w R A n c l e) :
    Calls Try.prog 22 #[.pointer (some ⟨R, 0, none⟩), .int .i64 f] w fun en w' => en = .returned (.tuple #[]) ∧ Rdr w' R A n c l (errOr e f) ∧ Keep (fun k => k = R) w w' := by
  have h1 : w.cell? ⟨R, 1, none⟩ = some (.int .i64 e) := h.blk.cell 1
  have f1 := h.blk.frozen 1
  have H := hid h
  by_cases he : e = 0
  · have he' : (e == 0) = true := by simp [he]
    have hx : errOr e f = f := if_pos he
    have HX := hid hx
    clear h he hx
    go_enter Try.func22, Try.ntmps22
    go_wp2
    go_end0
    have h := H.out
    have hk : Keep (fun k => k = R) w (w.setCell ⟨R, 1, none⟩ (.int .i64 f)) := Keep.set1 w R 1 _
    refine ⟨rfl, ?_, hk⟩
    rw [HX.out]
    exact ⟨h.blk.set_ 1 _, h.rd.keep hk (fun ad e he => by have := h.low ad e; omega), h.cap, h.low⟩
  · have he' : (e == 0) = false := by simp [he]
    have hx : errOr e f = e := if_neg he
    have HX := hid hx
    clear h he hx
    go_enter Try.func22, Try.ntmps22
    go_wp2
    go_end0
    exact ⟨rfl, by rw [HX.out]; exact H.out, Keep.refl _ _⟩

set_option maxHeartbeats 400000 in
theorem left_any (w : World) (R : Nat) (A : Option Addr) (n c : Nat) (l : List Int) (e : Int) (h : Rdr w R A n c l e) :
    Calls Try.prog 16 #[.pointer (some ⟨R, 0, none⟩)] w fun en w' => en = .returned (.int .i64 (leftM l e)) ∧ w = w' := by
  have h0 : w.cell? ⟨R, 0, none⟩ = some (.slice A n c) := h.blk.cell 0
  have h1 : w.cell? ⟨R, 1, none⟩ = some (.int .i64 e) := h.blk.cell 1
  have hl := h.rd.len
  clear h
  by_cases he : e = 0
  · have he' : (e != 0) = false := by simp [he]
    have hx : leftM l e = n := by unfold leftM; rw [if_pos he, hl]
    have HX := hid hx
    clear he hx hl
    go_enter Try.func16, Try.ntmps16
    go_wp2
    go_ret
    exact ⟨ret_i64 HX.out.symm, rfl⟩
  · have he' : (e != 0) = true := by simp [he]
    have hx : leftM l e = 0 := if_neg he
    have HX := hid hx
    clear he hx hl
    go_enter Try.func16, Try.ntmps16
    go_wp2
    go_ret
    exact ⟨ret_i64 HX.out.symm, rfl⟩

set_option maxHeartbeats 400000 in
theorem end_any (w : World) (R : Nat) (A : Option Addr) (n c : Nat) (l : List Int) (e : Int) (h : Rdr w R A n c l e) :
    Calls Try.prog 17 #[.pointer (some ⟨R, 0, none⟩)] w fun en w' => en = .returned (.int .i64 (endM l e)) ∧ w = w' := by
  have h0 : w.cell? ⟨R, 0, none⟩ = some (.slice A n c) := h.blk.cell 0
  have h1 : w.cell? ⟨R, 1, none⟩ = some (.int .i64 e) := h.blk.cell 1
  have hl := h.rd.len
  clear h
  by_cases he : e = 0
  · have he' : (e == 0) = true := by simp [he]
    by_cases hn : 0 < n
    · have hx : endM l e = 9 := if_pos ⟨he, fun h => by subst h; simp at hl; omega⟩
      have HX := hid hx
      clear he hx hl
      go_enter Try.func17, Try.ntmps17
      go_wp2
      go_ret
      exact ⟨ret_i64 HX.out.symm, rfl⟩
    · have hx : endM l e = e := if_neg (fun h => h.2 (List.eq_nil_of_length_eq_zero (by omega)))
      have HX := hid hx
      clear he hx hl
      go_enter Try.func17, Try.ntmps17
      go_wp2
      go_ret
      exact ⟨ret_i64 HX.out.symm, rfl⟩
  · have he' : (e == 0) = false := by simp [he]
    have hx : endM l e = e := if_neg (fun h => he h.1)
    have HX := hid hx
    clear he hx hl
    go_enter Try.func17, Try.ntmps17
    go_wp2
    go_ret
    exact ⟨ret_i64 HX.out.symm, rfl⟩

set_option maxHeartbeats 400000 in
theorem new_any (A : Option Addr) (n c : Nat) (l : List Int) (w : World) (h : Rd w A n (l.map (Value.int .u8))) (hn : n ≤ 140737488355328) :
    Calls Try.prog 14 #[.slice A n c] w fun en w' => ∃ R A' c', en = .returned (.pointer (some ⟨R, 0, none⟩)) ∧ w.heap.size ≤ R ∧ (∀ ad, A' = some ad → w.heap.size ≤ ad.block) ∧ Rdr w' R A' n c' l 0 ∧ Keep (fun _ => False) w w' := by
  go_enter Try.func14, Try.ntmps14
  go_wp2_with fail
  refine (clone_any A n c l w h hn).mono ?_
  rintro e w1 ⟨v1, rfl, hown1, hk1⟩
  obtain ⟨A1, c1, rfl⟩ := own_form hown1
  go_wp2_with fail
  go_ret
  have hs := hk1.size
  have hw : ∀ ad, A1 = some ad → w.heap.size ≤ ad.block ∧ ad.block < w1.heap.size := fun ad e => by subst e; exact hown1.lt ad.block rfl
  have hcap : n ≤ c1 := by
    rcases Nat.eq_zero_or_pos n with h0 | h0
    · omega
    · obtain ⟨_, _, hc, _⟩ := own_at hown1 h0
      exact hc
  exact ⟨w1.heap.size, A1, c1, rfl, hs, fun ad e => (hw ad e).1, ⟨Blk.new _ _ _, (Rd.of_own hown1).alloc _, hcap, fun ad e => (hw ad e).2⟩, hk1.alloc _⟩

/-- The error behind a Take. -/
def takeE (l : List Int) (e n : Int) : Int := if e = 0 then (if n < 0 then 1 else if (l.length : Int) < n then 8 else 0) else e

set_option maxHeartbeats 800000 in
/-- A Take that fails, or comes behind an error. -/
theorem take_no (w : World) (R : Nat) (A : Option Addr) (n c : Nat) (l : List Int) (e x : Int) (h : Rdr w R A n c l e) (hx : takeE l e x ≠ 0) :
    Calls Try.prog 15 #[.pointer (some ⟨R, 0, none⟩), .int .i64 x] w fun en w' => en = .returned (.slice none 0 0) ∧ Rdr w' R A n c l (takeE l e x) ∧ Keep (fun k => k = R) w w' := by
  have hmf : ∀ (fn : Fn) (first cap : Array Value) (w : World), (Instr.makeFunc fn first cap).run Try.prog w = .ok (.func fn first cap) w := fun _ _ _ _ => rfl
  have h0 : w.cell? ⟨R, 0, none⟩ = some (.slice A n c) := h.blk.cell 0
  have hl := h.rd.len
  generalize hEE : takeE l e x = E at *
  have he : (E != 0) = true := by simpa using hx
  by_cases c1 : x < 0
  · have hE : errOr e 1 = E := by rw [← hEE]; unfold errOr takeE; rw [if_pos c1]
    clear hEE hx hl
    go_enter Try.func15, Try.ntmps15
    go_wp2_with fail
    refine (fail_any w R A n c l e 1 h).mono ?_
    rintro en w1 ⟨rfl, h1, hk1⟩
    rw [hE] at h1
    have g1 : w1.cell? ⟨R, 1, none⟩ = some (.int .i64 E) := h1.blk.cell 1
    have HL := hid h1
    clear h h1 hE
    go_wp2_with fail
    go_ret
    exact ⟨rfl, HL.out, hk1⟩
  · by_cases c2 : (n : Int) < x
    · have hE : errOr e 8 = E := by rw [← hEE]; unfold errOr takeE; rw [if_neg c1, hl, if_pos c2]
      clear hEE hx hl
      go_enter Try.func15, Try.ntmps15
      go_wp2_with fail
      refine (fail_any w R A n c l e 8 h).mono ?_
      rintro en w1 ⟨rfl, h1, hk1⟩
      rw [hE] at h1
      have g1 : w1.cell? ⟨R, 1, none⟩ = some (.int .i64 E) := h1.blk.cell 1
      have HL := hid h1
      clear h h1 hE
      go_wp2_with fail
      go_ret
      exact ⟨rfl, HL.out, hk1⟩
    · have hE : e = E := by
        rw [← hEE]; unfold takeE; rw [if_neg c1, hl, if_neg c2]
        split
        · assumption
        · rfl
      subst hE
      have g1 : w.cell? ⟨R, 1, none⟩ = some (.int .i64 e) := h.blk.cell 1
      have HL := hid h
      clear h hEE hx hl
      go_enter Try.func15, Try.ntmps15
      go_wp2_with fail
      go_ret
      exact ⟨rfl, HL.out, Keep.refl _ _⟩

/-- What a Take that goes well leaves. -/
def TakeP (w : World) (R : Nat) (A : Option Addr) (n c : Nat) (l : List Int) (x : Nat) (en : Ending) (w' : World) : Prop :=
  ∃ A1 c1 A2, en = .returned (.slice A1 x c1) ∧ w'.ownsRow w.heap.size 5 1 (.slice A1 x c1) x ((l.take x).map (Value.int .u8)) ∧
      Rdr w' R A2 (n - x) (c - x) (l.drop x) 0 ∧ (∀ ad, A2 = some ad → ∃ ad', A = some ad' ∧ ad.block = ad'.block) ∧ Keep (fun k => k = R) w w'

theorem takeP_mk {w w1 : World} {R : Nat} {A A1 : Option Addr} {n c c1 x : Nat} {l : List Int} (h : Rdr w R A n c l 0) (hx : x ≤ n) (hk1 : Keep (fun _ => False) w w1)
    (hown : w1.ownsRow w.heap.size 5 1 (.slice A1 x c1) x ((l.take x).map (Value.int .u8))) :
    TakeP w R A n c l x (.returned (.slice A1 x c1)) (w1.setCell ⟨R, 0, none⟩ (.slice (if c = x then A else A.map (·.add x)) (n - x) (c - x))) := by
  have hk : Keep (fun k => k = R) w (w1.setCell ⟨R, 0, none⟩ (.slice (if c = x then A else A.map (·.add x)) (n - x) (c - x))) := (hk1.mono (fun _ _ h => h.elim)).setR 0 _
  have hRlt := h.blk.lt
  have hbl : ∀ ad, (if c = x then A else A.map (·.add x)) = some ad → ∃ ad', A = some ad' ∧ ad.block = ad'.block := by
    intro ad e
    split at e
    · exact ⟨ad, e, rfl⟩
    · cases A with
      | none => cases e
      | some a => simp at e; subst e; exact ⟨a, rfl, block_add _ _⟩
  have hlow : ∀ ad, (if c = x then A else A.map (·.add x)) = some ad → ad.block < R := fun ad e => by
    obtain ⟨a, ha, hb⟩ := hbl ad e
    rw [hb]; exact h.low a ha
  refine ⟨A1, c1, _, rfl, ?_, ⟨?_, ?_, by have := h.cap; omega, hlow⟩, hbl, hk⟩
  · refine own_keep hown (Keep.set1 w1 R 0 _) (fun k e hR => ?_)
    have := (hown.lt k e).1
    omega
  · have := (h.blk.keep hk1 (fun h => h)).set_ 0 (.slice (if c = x then A else A.map (·.add x)) (n - x) (c - x))
    exact this
  · have := h.rd.drop hx h.cap
    rw [List.map_drop]
    refine (this.keep hk1 (fun _ _ h => h)).keep (Keep.set1 w1 R 0 _) (fun ad e hR => ?_)
    have := hlow ad e
    omega

set_option maxHeartbeats 800000 in
/-- A Take that goes well. -/
theorem take_yes (w : World) (R : Nat) (A : Option Addr) (n c : Nat) (l : List Int) (x : Nat) (h : Rdr w R A n c l 0) (hx : x ≤ n) (hn : n ≤ 140737488355328) :
    Calls Try.prog 15 #[.pointer (some ⟨R, 0, none⟩), .int .i64 x] w (TakeP w R A n c l x) := by
  have hmf : ∀ (fn : Fn) (first cap : Array Value) (w : World), (Instr.makeFunc fn first cap).run Try.prog w = .ok (.func fn first cap) w := fun _ _ _ _ => rfl
  have h0 : w.cell? ⟨R, 0, none⟩ = some (.slice A n c) := h.blk.cell 0
  have h1 : w.cell? ⟨R, 1, none⟩ = some (.int .i64 0) := h.blk.cell 1
  have hc := h.cap
  have HL := hid h
  clear h
  go_enter Try.func15, Try.ntmps15
  go_wp2_with fail
  have ht : Rd w A x ((l.take x).map (Value.int .u8)) := by rw [List.map_take]; exact HL.out.rd.take hx
  refine (clone_any A x c (l.take x) w ht (by omega)).mono ?_
  clear ht
  rintro en w1 ⟨v1, rfl, hown1, hk1⟩
  obtain ⟨A1, c1, rfl⟩ := own_form hown1
  have HO := hid hown1
  have g0 := hk1.cell h0 (fun h => h)
  have g1 := hk1.cell h1 (fun h => h)
  have f0 : w1.frozen? ⟨R, 0, none⟩ = false := (HL.out.blk.keep hk1 (fun h => h)).frozen 0
  clear hown1 h0 h1
  go_wp2_with fail
  all_goals go_ret
  · have hcx : c = x := by assumption
    have := takeP_mk HL.out hx hk1 HO.out
    rw [if_pos hcx] at this
    subst hcx
    simpa using this
  · have := takeP_mk HL.out hx hk1 HO.out
    rw [if_neg (by assumption)] at this
    exact this

/-- One byte behind a number. -/
def accU (q z : Int) : Int := bits .or .u64 (IntKind.u64.wrap (q * 256)) (IntKind.u64.wrap z)
def foldU (l : List Int) : Int := l.foldl accU 0
/-- Bytes as Get tells them. -/
def getV (l : List Int) : Int := wrap64 (foldU l)
theorem foldU_snoc (l : List Int) (z : Int) : foldU (l ++ [z]) = accU (foldU l) z := by simp [foldU]
theorem take_snoc (l : List Int) (j : Nat) (h : j < l.length) : l.take (j + 1) = l.take j ++ [l.getD j 0] := by
  rw [List.take_add_one, List.getElem?_eq_getElem h]; simp [h]

/-- What a Get that goes well leaves. -/
def GetP (w : World) (R : Nat) (A : Option Addr) (n c : Nat) (l : List Int) (x : Nat) (en : Ending) (w' : World) : Prop :=
  ∃ A2, en = .returned (.int .i64 (getV (l.take x))) ∧ Rdr w' R A2 (n - x) (c - x) (l.drop x) 0 ∧ (∀ ad, A2 = some ad → ∃ ad', A = some ad' ∧ ad.block = ad'.block) ∧ Keep (fun k => k = R) w w'

set_option maxHeartbeats 800000 in
theorem get_yes (w : World) (R : Nat) (A : Option Addr) (n c : Nat) (l : List Int) (x : Nat) (h : Rdr w R A n c l 0) (hf : fitsB x = true) (hx : x ≤ n) (hn : n ≤ 140737488355328) :
    Calls Try.prog 19 #[.pointer (some ⟨R, 0, none⟩), .int .i64 x] w (GetP w R A n c l x) := by
  have hx8 : x ≤ 8 := by
    have : 1 ≤ (x : Int) ∧ (x : Int) ≤ 8 := by simpa [fitsB] using hf
    omega
  have hll := h.rd.len
  go_enter Try.func19, Try.ntmps19
  go_wp2_with fail
  refine (fits_any x w).mono ?_
  rintro en w1 ⟨rfl, rfl⟩
  rw [hf]
  go_wp2_with fail
  refine (take_yes w R A n c l x h hx hn).mono ?_
  rintro en w1 ⟨A1, c1, A2, rfl, hown, hr, hA, hk⟩
  have htl : (l.take x).length = x := by simp; omega
  have HP : Hid (∀ v, v = foldU (l.take x) → GetP w R A n c l x (.returned (.int .i64 (wrap64 v))) w1) := fun v hv => by subst hv; exact ⟨A2, rfl, hr, hA, hk⟩
  generalize l.take x = t at *
  have HO := hid hown
  have HT := hid htl
  clear hown hr h hA hk hll htl
  go_wp2_with fail
  go_loop [5, 17] (fun u i => ∃ (j : Nat), j ≤ x ∧ i = .int .i64 j ∧ u = .int .u64 (foldU (t.take j))) (fun _ i => x - (intOf i).toNat)
  case atStart => exact ⟨0, by omega, rfl, rfl⟩
  case round =>
    obtain ⟨j, hj, rfl, rfl⟩ := hrel
    by_cases hlt : j < x
    · obtain ⟨g, rfl, hg1, hg2, hg3, _⟩ := own_at HO.out (by omega)
      have hjl : j < t.length := by rw [HT.out]; exact hlt
      have hcell : w1.cell? ⟨g, j, none⟩ = some (.int .u8 (t.getD j 0)) := hg3 j _ (by simp [hjl])
      have HS : Hid (foldU (t.take (j + 1)) = accU (foldU (t.take j)) (t.getD j 0)) := by
        show foldU (t.take (j + 1)) = _
        rw [take_snoc t j hjl, foldU_snoc]
      clear hg3 hjl
      generalize t.getD j 0 = z at *
      generalize hq : foldU (t.take j) = q at *
      clear hq
      go_wp2_with fail
      go_round
      case rel => exact ⟨j + 1, by omega, by go_num, by rw [HS.out]; rfl⟩
      case measure => simp [intOf]; omega
    · have hjx : x ≤ j := by omega
      have hv : foldU (t.take j) = foldU t := by rw [List.take_of_length_le (by rw [HT.out]; exact hjx)]
      have HV := hid hv
      clear hv
      generalize foldU (t.take j) = q at *
      go_wp2_with fail
      go_ret
      exact HP.out q HV.out

set_option maxHeartbeats 400000 in
/-- A Get of a size that is none. -/
theorem get_no (w : World) (R : Nat) (A : Option Addr) (n c : Nat) (l : List Int) (e x : Int) (h : Rdr w R A n c l e) (hf : fitsB x = false) :
    Calls Try.prog 19 #[.pointer (some ⟨R, 0, none⟩), .int .i64 x] w fun en w' => en = .returned (.int .i64 0) ∧ Rdr w' R A n c l (errOr e 1) ∧ Keep (fun k => k = R) w w' := by
  go_enter Try.func19, Try.ntmps19
  go_wp2_with fail
  refine (fits_any x w).mono ?_
  rintro en w1 ⟨rfl, rfl⟩
  rw [hf]
  go_wp2_with fail
  refine (fail_any w R A n c l e 1 h).mono ?_
  rintro en w1 ⟨rfl, hr, hk⟩
  have HR := hid hr
  clear hr h
  go_wp2_with fail
  go_ret
  exact ⟨rfl, HR.out, hk⟩

set_option maxHeartbeats 400000 in
/-- A Get for which bytes lack, or that comes behind an error. -/
theorem get_cut (w : World) (R : Nat) (A : Option Addr) (n c : Nat) (l : List Int) (e x : Int) (h : Rdr w R A n c l e) (hf : fitsB x = true) (hx : takeE l e x ≠ 0) :
    Calls Try.prog 19 #[.pointer (some ⟨R, 0, none⟩), .int .i64 x] w fun en w' => en = .returned (.int .i64 0) ∧ Rdr w' R A n c l (takeE l e x) ∧ Keep (fun k => k = R) w w' := by
  go_enter Try.func19, Try.ntmps19
  go_wp2_with fail
  refine (fits_any x w).mono ?_
  rintro en w1 ⟨rfl, rfl⟩
  rw [hf]
  go_wp2_with fail
  refine (take_no w R A n c l e x h hx).mono ?_
  rintro en w1 ⟨rfl, hr, hk⟩
  have HR := hid hr
  clear hr h hx
  go_wp2_with fail
  refine wp_loop_rounds 1 ?_
  rw [rounds_succ]
  go_wp2_with fail
  go_ret
  exact ⟨rfl, HR.out, hk⟩
end Go.Proofs.Ytaoikgopadladaa
