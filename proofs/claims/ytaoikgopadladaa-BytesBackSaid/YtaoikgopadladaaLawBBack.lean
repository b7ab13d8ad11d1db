/-
  BytesBack: the walk. Conditions: none.
-/
import Derived.Test.YtaoikgopadladaaReader
import Derived.Test.YtaoikgopadladaaArg
import Derived.Test.YtaoikgopadladaaRegion
import Derived.Deep.DeepCutAuto
import Derived.WalkLawsBesides
namespace Go.Proofs.Ytaoikgopadladaa
open Go.RowKit

theorem u64_or_nat (a b : Nat) (ha : a < 18446744073709551616) (hb : b < 18446744073709551616) : bits .or .u64 (a : Int) (b : Int) = ((a ||| b : Nat) : Int) := by
  have hx : a ||| b < 2 ^ 64 := Nat.or_lt_two_pow (by omega) (by omega)
  have e : ∀ a : Nat, a < 18446744073709551616 → (BitVec.ofInt 64 (a : Int)).toNat = a := fun a ha => by
    rw [BitVec.ofInt_natCast, BitVec.toNat_ofNat]; exact Nat.mod_eq_of_lt (by omega)
  show IntKind.u64.wrap ((BitVec.ofInt 64 (a : Int) ||| BitVec.ofInt 64 (b : Int)).toNat : Int) = _
  rw [BitVec.toNat_or, e a ha, e b hb, IntWalk.u64_in _ (by omega)]
theorem accU_eq (q z : Int) (h0 : 0 ≤ q) (h1 : q < 72057594037927936) (hz : 0 ≤ z ∧ z ≤ 255) : accU q z = q * 256 + z := by
  unfold accU
  rw [IntWalk.u64_in _ (by omega), IntWalk.u64_in _ (by omega)]
  obtain ⟨Q, rfl⟩ := Int.eq_ofNat_of_zero_le h0
  obtain ⟨Z, rfl⟩ := Int.eq_ofNat_of_zero_le hz.1
  have e : (Q : Int) * 256 = ((2 ^ 8 * Q : Nat) : Int) := by omega
  rw [e, u64_or_nat _ _ (by omega) (by omega), ← Nat.two_pow_add_eq_or_of_lt (by omega)]
  omega
theorem pow8_succ (j : Nat) : (2 : Int) ^ (8 * (j + 1)) = 256 * 2 ^ (8 * j) := by
  rw [show 8 * (j + 1) = 8 * j + 8 from by omega, Int.pow_add]
  have : (2 : Int) ^ 8 = 256 := by decide
  rw [this, Int.mul_comm]
theorem mod8_succ (X : Int) (j : Nat) : X % 2 ^ (8 * (j + 1)) = X / 2 ^ (8 * j) % 256 * 2 ^ (8 * j) + X % 2 ^ (8 * j) := by
  have hp : (0 : Int) < 2 ^ (8 * j) := Int.pow_pos (by omega)
  rw [pow8_succ]
  generalize (2 : Int) ^ (8 * j) = P at *
  have h1 := Int.mul_ediv_add_emod X P
  have h2 : X / P = 256 * (X / P / 256) + X / P % 256 := by omega
  have h3 : 0 ≤ X % P := Int.emod_nonneg _ (by omega)
  have h4 : X % P < P := Int.emod_lt_of_pos _ hp
  have hb : 0 ≤ X / P % 256 ∧ X / P % 256 ≤ 255 := by omega
  generalize X / P % 256 = b at *
  generalize X / P / 256 = h at *
  generalize X % P = r at *
  have hx : X = 256 * P * h + (b * P + r) := by
    rw [h2, Int.mul_add, Int.mul_comm P b, ← Int.mul_assoc, Int.mul_comm P 256] at h1
    omega
  have hbp : 0 ≤ b * P := Int.mul_nonneg hb.1 (by omega)
  have hbp2 : b * P ≤ 255 * P := Int.mul_le_mul_of_nonneg_right hb.2 (by omega)
  rw [hx, Int.mul_add_emod_self_left, Int.emod_eq_of_lt (by omega) (by omega)]
theorem fold_put (x : Int) : ∀ (j : Nat) (a : Int), 0 ≤ a → (a + 1) * 2 ^ (8 * j) ≤ 18446744073709551616 → (putB x j).foldl accU a = a * 2 ^ (8 * j) + IntKind.u64.wrap x % 2 ^ (8 * j)
  | 0, a, _, _ => by simp [putB, Int.emod_one]
  | j + 1, a, h0, h1 => by
    have hp : (1 : Int) ≤ 2 ^ (8 * j) := by
      have := Nat.one_le_two_pow (n := 8 * j)
      have e : ((2 ^ (8 * j) : Nat) : Int) = (2 : Int) ^ (8 * j) := by simp
      omega
    rw [pow8_succ] at h1
    have hz : 0 ≤ IntKind.u64.wrap x / 2 ^ (8 * j) % 256 ∧ IntKind.u64.wrap x / 2 ^ (8 * j) % 256 ≤ 255 := by omega
    show (putB x j).foldl accU (accU a (IntKind.u64.wrap x / 2 ^ (8 * j) % 256)) = _
    rw [mod8_succ, pow8_succ]
    generalize IntKind.u64.wrap x / 2 ^ (8 * j) % 256 = z at *
    have ha : (a + 1) * 256 ≤ 18446744073709551616 := by
      have : (a + 1) * 256 * 1 ≤ (a + 1) * 256 * 2 ^ (8 * j) := Int.mul_le_mul_of_nonneg_left hp (by omega)
      rw [← Int.mul_assoc] at h1
      omega
    rw [accU_eq a z h0 (by omega) hz, fold_put x j (a * 256 + z) (by omega) ?_]
    · generalize (2 : Int) ^ (8 * j) = P at *
      rw [Int.add_mul, Int.mul_assoc]
      omega
    · refine Int.le_trans ?_ h1
      rw [← Int.mul_assoc]
      exact Int.mul_le_mul_of_nonneg_right (by omega) (by omega)
/-- What Get tells of what Put laid. -/
theorem getV_put (x : Int) (k : Nat) (hk : k ≤ 8) (hx : -9223372036854775808 ≤ x ∧ x ≤ 9223372036854775807) : getV (putB x k) = if k < 8 then x % 2 ^ (8 * k) else x := by
  have hp : (2 : Int) ^ (8 * k) ≤ 18446744073709551616 := by
    have : ∀ k : Nat, k < 9 → (2 : Int) ^ (8 * k) ≤ 18446744073709551616 := by decide +kernel
    exact this k (by omega)
  have hf := fold_put x k 0 (by omega) (by rw [Int.zero_add, Int.one_mul]; exact hp)
  rw [Int.zero_mul, Int.zero_add] at hf
  unfold getV foldU
  rw [hf]
  have hw : IntKind.u64.wrap x = x % 18446744073709551616 := by simp [IntKind.wrap, IntKind.bits, IntKind.signed]
  rw [hw]
  by_cases h8 : k < 8
  · rw [if_pos h8]
    have hd : (2 : Int) ^ (8 * k) ∣ 18446744073709551616 := by
      have : ∀ k : Nat, k < 8 → (18446744073709551616 : Int) % 2 ^ (8 * k) = 0 := by decide +kernel
      exact Int.dvd_of_emod_eq_zero (this k h8)
    have hb : (2 : Int) ^ (8 * k) ≤ 72057594037927936 ∧ (0 : Int) < 2 ^ (8 * k) := by
      have : ∀ k : Nat, k < 8 → (2 : Int) ^ (8 * k) ≤ 72057594037927936 ∧ (0 : Int) < 2 ^ (8 * k) := by decide +kernel
      exact this k h8
    rw [Int.emod_emod_of_dvd _ hd]
    have h3 : 0 ≤ x % 2 ^ (8 * k) := Int.emod_nonneg _ (by omega)
    have h4 : x % 2 ^ (8 * k) < 2 ^ (8 * k) := Int.emod_lt_of_pos _ hb.2
    generalize x % 2 ^ (8 * k) = y at *
    exact IntWalk.wrap64_in _ (by omega)
  · rw [if_neg h8]
    have : k = 8 := by omega
    subst this
    have e : (2 : Int) ^ (8 * 8) = 18446744073709551616 := by decide +kernel
    rw [e]
    unfold wrap64
    omega

theorem and_mask (x : Int) (k : Nat) (hk : k ≤ 62) : bits .and .i64 x (2 ^ k - 1) = x % 2 ^ k := by
  have hp : (2 : Nat) ^ k ≤ 2 ^ 62 := Nat.pow_le_pow_right (by omega) hk
  have hp1 : 1 ≤ (2 : Nat) ^ k := Nat.one_le_two_pow
  have e : (2 : Int) ^ k - 1 = ((2 ^ k - 1 : Nat) : Int) := by
    have : ((2 ^ k : Nat) : Int) = (2 : Int) ^ k := by simp
    omega
  have e2 : (2 : Int) ^ k = ((2 ^ k : Nat) : Int) := by simp
  have h1 : ((BitVec.ofInt 64 x &&& BitVec.ofInt 64 ((2 ^ k - 1 : Nat) : Int)).toNat : Int) = x % 2 ^ k := by
    rw [BitVec.toNat_and, BitVec.ofInt_natCast, BitVec.toNat_ofNat, Nat.mod_eq_of_lt (show 2 ^ k - 1 < 2 ^ 64 by omega), Nat.and_two_pow_sub_one_eq_mod, BitVec.toNat_ofInt, e2]
    have hd : ((2 ^ k : Nat) : Int) ∣ ((2 ^ 64 : Nat) : Int) := Int.natCast_dvd_natCast.2 (Nat.pow_dvd_pow 2 (by omega))
    have h0 : 0 ≤ x % ((2 ^ 64 : Nat) : Int) := Int.emod_nonneg _ (by decide)
    rw [Int.natCast_emod, Int.toNat_of_nonneg h0, Int.emod_emod_of_dvd _ hd]
  show IntKind.i64.wrap ((BitVec.ofInt 64 x &&& BitVec.ofInt 64 ((2 : Int) ^ k - 1)).toNat : Int) = _
  rw [e, h1]
  have h2 : 0 ≤ x % 2 ^ k := Int.emod_nonneg _ (by omega)
  have h3 : x % 2 ^ k < 2 ^ k := Int.emod_lt_of_pos _ (by omega)
  rw [IntWalk.i64_in _ (by omega)]
theorem mask8 (x : Int) (k : Nat) (hk : k < 8) : bits .and .i64 x (wrap64 (wrap64 (2 ^ (8 * k)) - 1)) = x % 2 ^ (8 * k) := by
  have hb : (2 : Int) ^ (8 * k) ≤ 72057594037927936 ∧ (0 : Int) < 2 ^ (8 * k) := by
    have : ∀ k : Nat, k < 8 → (2 : Int) ^ (8 * k) ≤ 72057594037927936 ∧ (0 : Int) < 2 ^ (8 * k) := by decide +kernel
    exact this k hk
  have h1 : wrap64 (2 ^ (8 * k)) = (2 : Int) ^ (8 * k) := IntWalk.wrap64_in _ (by omega)
  have h2 : wrap64 (2 ^ (8 * k) - 1) = (2 : Int) ^ (8 * k) - 1 := IntWalk.wrap64_in _ (by clear h1; omega)
  rw [h1, h2, and_mask x (8 * k) (by omega)]
/-- How wide the i-th field is. -/
def wide (ss : List Int) (i : Nat) : Nat := (1 + ss.getD i 0 % 8).toNat
theorem wide_eq (ss : List Int) (i : Nat) : ((wide ss i : Nat) : Int) = 1 + ss.getD i 0 % 8 := by unfold wide; omega
theorem wide_le (ss : List Int) (i : Nat) : 1 ≤ wide ss i ∧ wide ss i ≤ 8 := by unfold wide; omega
def allP (ns ss : List Int) : Nat → List Int
  | 0 => []
  | i + 1 => allP ns ss i ++ putB (ns.getD i 0) (wide ss i)
theorem allP_length (ns ss : List Int) : ∀ i, (allP ns ss i).length ≤ 8 * i
  | 0 => by simp [allP]
  | i + 1 => by
    have := allP_length ns ss i
    have := wide_le ss i
    show (allP ns ss i ++ _).length ≤ _
    rw [List.length_append, putB_length]
    omega
theorem allP_pre (ns ss : List Int) (i : Nat) : ∀ n, i ≤ n → ∃ t, allP ns ss n = allP ns ss i ++ t := by
  intro n
  induction n with
  | zero => intro h; have : i = 0 := by omega
            subst this; exact ⟨[], by simp⟩
  | succ n ih =>
    intro h
    by_cases he : i = n + 1
    · subst he; exact ⟨[], by simp⟩
    · obtain ⟨t, ht⟩ := ih (by omega)
      exact ⟨t ++ putB (ns.getD n 0) (wide ss n), by show allP ns ss n ++ _ = _; rw [ht, List.append_assoc]⟩
/-- What is left behind i fields. -/
def rest (ns ss : List Int) (n i : Nat) : List Int := (allP ns ss n).drop (allP ns ss i).length
theorem rest_get (ns ss : List Int) (n i : Nat) (h : i < n) : (rest ns ss n i).take (wide ss i) = putB (ns.getD i 0) (wide ss i) ∧ (rest ns ss n i).drop (wide ss i) = rest ns ss n (i + 1) ∧ wide ss i ≤ (rest ns ss n i).length := by
  obtain ⟨t, ht⟩ := allP_pre ns ss (i + 1) n (by omega)
  have ht' : allP ns ss n = allP ns ss i ++ (putB (ns.getD i 0) (wide ss i) ++ t) := by rw [ht]; show (allP ns ss i ++ _) ++ t = _; rw [List.append_assoc]
  have e : rest ns ss n i = putB (ns.getD i 0) (wide ss i) ++ t := by unfold rest; rw [ht', List.drop_left]
  refine ⟨?_, ?_, ?_⟩
  · rw [e, List.take_left' (putB_length _ _)]
  · have e2 : rest ns ss n (i + 1) = t := by unfold rest; rw [ht, List.drop_left]
    rw [e, e2, List.drop_left' (putB_length _ _)]
  · rw [e, List.length_append, putB_length]; omega
theorem rest_end (ns ss : List Int) (n : Nat) : rest ns ss n n = [] := by unfold rest; exact List.drop_length

set_option maxRecDepth 100000 in
set_option linter.unusedSimpArgs false in
set_option maxHeartbeats 4000000 in
theorem bytesBack_walk (A : Option Addr) (n c : Nat) (ns : List Int) (A' : Option Addr) (n' c' : Nat) (ss : List Int) (w : World) (h : Arg .i64 8 w A n c ns) (h' : Arg .i64 8 w A' n' c' ss) :
    Calls Try.prog 7 #[.slice A n c, .slice A' n' c'] w fun e w' => e = .returned (.bool true) ∧ Below w.heap.size w w' := by
  have hcn : n ≤ 9223372036854775807 := by have := h.cap; have := h.reach; omega
  have hcn' : n' ≤ 9223372036854775807 := by have := h'.cap; have := h'.reach; omega
  have H := hid h
  have H' := hid h'
  clear h h'
  go_enter Try.func7, Try.ntmps7
  go_wp2_with fail
  refine (known_any w).mono ?_
  rintro e w1 ⟨rfl, hk1⟩
  have HK0 := hid hk1
  clear hk1
  go_upto_region 4 with fail
  go_cut [6] (fun v wx => ∃ N : Nat, v = .int .i64 N ∧ N ≤ n ∧ N ≤ n' ∧ N ≤ 20 ∧ wx = w1)
  case first =>
    go_wp2_with fail
    all_goals (go_meet; first | exact ⟨20, rfl, by omega, by omega, by omega, rfl⟩ | exact ⟨n, rfl, by omega, by omega, by omega, rfl⟩ | exact ⟨n', rfl, by omega, by omega, by omega, rfl⟩)
  case rest =>
    obtain ⟨N, rfl, hN1, hN2, hN3, hw⟩ := hcut
    obtain rfl : w1 = wc := hw.symm
    clear hw
    go_wp2_with fail
    go_loopw [5, 7] (fun u v wr => ∃ (i : Nat) (A1 : Option Addr) (n1 c1 : Nat), i ≤ N ∧ u = .slice A1 n1 c1 ∧ v = .int .i64 i ∧ Hid (wr.ownsRow w.heap.size 5 1 (.slice A1 n1 c1) n1 ((allP ns ss i).map (Value.int .u8))) ∧ Hid (Keep (fun _ => False) w wr)) (fun _ v _ => N - (intOf v).toNat)
    case atStart => exact ⟨0, none, 0, 0, by omega, rfl, rfl, hid (World.ownsRow_nil _ _ _ _), HK0⟩
    case round =>
      obtain ⟨i, A1, n1, c1, hi, rfl, rfl, HO, HK⟩ := hrel
      clear HK0
      have hl1 := allP_length ns ss i
      have hn1 : (allP ns ss i).length = n1 := by have := HO.out.1; simpa using this
      rw [hn1] at hl1
      have HN1 := hid hn1
      clear hn1
      by_cases hlt : i < N
      · have hin : i < n := by omega
        have hin' : i < n' := by omega
        obtain ⟨b1, o1, rfl, hc1⟩ := (H.out.rd.keep HK.out (fun _ _ h => h)).int_ix hin
        obtain ⟨b2, o2, rfl, hc2⟩ := (H'.out.rd.keep HK.out (fun _ _ h => h)).int_ix hin'
        have hwd := wide_eq ss i
        have hwl := wide_le ss i
        have HS := hid (show allP ns ss (i + 1) = allP ns ss i ++ putB (ns.getD i 0) (wide ss i) from rfl)
        have HF := hid (show putS (ns.getD i 0) (wide ss i : Nat) = putB (ns.getD i 0) (wide ss i) by unfold putS; rw [if_pos (by simp [fitsB]; omega)]; simp)
        generalize wide ss i = k at *
        generalize ns.getD i 0 = x at *
        generalize ss.getD i 0 = s at *
        generalize hs2 : allP ns ss (i + 1) = l2 at *
        have HS2 := hid hs2
        clear hs2
        generalize allP ns ss i = l at *
        have HWD := hid hwd
        have hq1 : 0 ≤ s % 8 := by omega
        have hq2 : s % 8 < 8 := by omega
        have hqw : IntKind.i64.wrap (1 + s % 8) = 1 + s % 8 := IntWalk.i64_in _ (by omega)
        clear hwd
        go_wp2_with fail
        -- region 8: 13 operations
        refine At.start (L := #[false, false, false, false, false, false, false, false, false, false, false, false, false]) (by kernel_rfl) rfl ?_
        refine At.pure 0 (some 24) (v := ?v0) rfl rfl (by kernel_rfl) (fun _ _ _ h => h) rfl (fun w' => ?y0) ?_   
        case y0 => go_simp; try with_reducible rfl
        try simp only [Act.put, List.setIfInBounds_toArray, List.set_cons_zero, List.set_cons_succ]
        refine At.pure 1 (some 25) (v := ?v1) rfl rfl (by kernel_rfl) (fun _ _ _ h => h) rfl (fun w' => ?y1) ?_   
        case y1 => go_simp; try with_reducible rfl
        try simp only [Act.put, List.setIfInBounds_toArray, List.set_cons_zero, List.set_cons_succ]
        refine At.pure 2 (some 26) (v := ?v2) rfl rfl (by kernel_rfl) (fun _ _ _ h => h) rfl (fun w' => ?y2) ?_   
        case y2 => go_simp; try with_reducible rfl
        try simp only [Act.put, List.setIfInBounds_toArray, List.set_cons_zero, List.set_cons_succ]
        refine At.pure 3 (some 27) (v := ?v3) rfl rfl (by kernel_rfl) (fun _ _ _ h => h) rfl (fun w' => ?y3) ?_   
        case y3 => go_simp; try with_reducible rfl
        try simp only [Act.put, List.setIfInBounds_toArray, List.set_cons_zero, List.set_cons_succ]
        refine At.read 4 (some 28) (fun w' => w'.cell? ⟨b2, o2 + i, none⟩ = some (.int .i64 s)) (v := (.int .i64 s)) rfl rfl (by kernel_rfl) (fun _ _ _ h => h) rfl hc2 (fun w' hw' => ?y4) ?_   
        case y4 => skip; go_simp; try with_reducible rfl
        try simp only [Act.put, List.setIfInBounds_toArray, List.set_cons_zero, List.set_cons_succ]
        refine At.pure 7 (some 31) (v := ?v7) rfl rfl (by kernel_rfl) (fun _ _ _ h => h) rfl (fun w' => ?y7) ?_   
        case y7 => go_simp; try with_reducible rfl
        try simp only [Act.put, List.setIfInBounds_toArray, List.set_cons_zero, List.set_cons_succ]
        refine At.pure 8 (some 32) (v := ?v8) rfl rfl (by kernel_rfl) (fun _ _ _ h => h) rfl (fun w' => ?y8) ?_   
        case y8 => go_simp; try with_reducible rfl
        try simp only [Act.put, List.setIfInBounds_toArray, List.set_cons_zero, List.set_cons_succ]
        refine At.pure 9 (some 33) (v := ?v9) rfl rfl (by kernel_rfl) (fun _ _ _ h => h) rfl (fun w' => ?y9) ?_   
        case y9 => go_simp; try with_reducible rfl
        try simp only [Act.put, List.setIfInBounds_toArray, List.set_cons_zero, List.set_cons_succ]
        refine At.read 10 (some 34) (fun w' => w'.cell? ⟨b1, o1 + i, none⟩ = some (.int .i64 x)) (v := (.int .i64 x)) rfl rfl (by kernel_rfl) (fun _ _ _ h => h) rfl hc1 (fun w' hw' => ?y10) ?_   
        case y10 => skip; go_simp; try with_reducible rfl
        try simp only [Act.put, List.setIfInBounds_toArray, List.set_cons_zero, List.set_cons_succ]
        refine At.call 5 (pend' := [(10, (fun w' => w'.cell? ⟨b1, o1 + i, none⟩ = some (.int .i64 x)))]) rfl (by kernel_rfl) rfl (by kernel_rfl) (fun K hK => ?_)   
        go_simp
        refine (within_any s 8 _ (by omega) (by omega)).mono ?_
        rintro e w9 ⟨rfl, rfl⟩
        refine hK _ _ (all_cons hc1 all_nil) ?_
        clear hK K
        try simp only [Act.put, List.setIfInBounds_toArray, List.set_cons_zero, List.set_cons_succ]
        refine At.pure 6 (some 30) (v := ?v6) rfl rfl (by kernel_rfl) (fun _ _ _ h => h) rfl (fun w' => ?y6) ?_   
        case y6 => go_simp; try with_reducible rfl
        try simp only [Act.put, List.setIfInBounds_toArray, List.set_cons_zero, List.set_cons_succ]
        refine At.call 11 (pend' := []) rfl (by kernel_rfl) rfl (by kernel_rfl) (fun K hK => ?_)   
        go_simp
        refine (put_tot A1 n1 c1 l (1 + s % 8) x _ (Rd.of_own HO.out).drew (by omega)).mono ?_
        rintro e w4 ⟨A2, n2, c2, rfl, hown2, hk2⟩
        refine hK _ _ all_nil ?_
        clear hK K
        try simp only [Act.put, List.setIfInBounds_toArray, List.set_cons_zero, List.set_cons_succ]
        refine At.pure 12 (some 5) (v := ?v12) rfl rfl (by kernel_rfl) (fun _ _ _ h => h) rfl (fun w' => ?y12) ?_   
        case y12 => go_simp; try with_reducible rfl
        try simp only [Act.put, List.setIfInBounds_toArray, List.set_cons_zero, List.set_cons_succ]
        refine At.done (by kernel_rfl) ?_
        rw [← HWD.out, HF.out, ← HS.out] at hown2
        have HO2 := hid (own_mono hown2 HK.out.size)
        have HK2 := hid (HK.out.trans hk2.undrew (fun _ _ h => h))
        clear hown2 hk2 hqw
        go_wp2_with fail
        go_roundw
        case rel => exact ⟨i + 1, A2, n2, c2, by omega, rfl, by go_num, by rw [HS2.out]; exact HO2, HK2⟩
        case measure => simp [intOf]; omega
      · obtain rfl : N = i := by omega
        go_wp2_with fail
        refine (new_any A1 n1 c1 (allP ns ss N) wr (Rd.of_own HO.out) (by omega)).mono ?_
        rintro e w3 ⟨R, A3, c3, rfl, hR, hA3, hr3, hk3⟩
        have hks := HK.out.size
        have hRw : w.heap.size ≤ R := by omega
        have HR0 := hid (show Rdr w3 R A3 n1 c3 (rest ns ss N 0) 0 from hr3)
        have HK3 := hid (HK.out.trans hk3 (fun _ _ h => h))
        clear hr3 hk3 hA3
        go_wp2_with fail
        go_loopw [9] (fun v wr => ∃ (j : Nat) (A4 : Option Addr) (n4 c4 : Nat), j ≤ N ∧ v = .int .i64 j ∧ n4 ≤ 160 ∧ Hid (Rdr wr R A4 n4 c4 (rest ns ss N j) 0) ∧ Hid (Keep (fun _ => False) w wr)) (fun v _ => N - (intOf v).toNat)
        case atStart => exact ⟨0, A3, n1, c3, by omega, rfl, by omega, HR0, HK3⟩
        case round =>
          clear HR0 HK3
          obtain ⟨j, A4, n4, c4, hj, rfl, hn4, HR, HKJ⟩ := hrel
          by_cases hjn : j < N
          · have hin : j < n := by omega
            have hin' : j < n' := by omega
            obtain ⟨b1, o1, rfl, hc1⟩ := (H.out.rd.keep HKJ.out (fun _ _ h => h)).int_ix hin
            obtain ⟨b2, o2, rfl, hc2⟩ := (H'.out.rd.keep HKJ.out (fun _ _ h => h)).int_ix hin'
            have hwd := wide_eq ss j
            have hwl := wide_le ss j
            obtain ⟨r1, r2, r3⟩ := rest_get ns ss N j hjn
            have hx := wf_i64 (H.out.elem hin)
            have hgv := getV_put (ns.getD j 0) (wide ss j) hwl.2 hx
            rw [← r1] at hgv
            have hl4 := HR.out.rd.len
            rw [hl4] at r3
            have hget := get_yes wr R A4 n4 c4 (rest ns ss N j) (wide ss j) HR.out (by simp [fitsB]; omega) r3 (by omega)
            unfold GetP at hget
            rw [hgv, r2] at hget
            have HGET := hid hget
            clear hget hgv r1 r2 hl4
            generalize wide ss j = k at *
            generalize ns.getD j 0 = x at *
            generalize ss.getD j 0 = s at *
            have HWD := hid hwd
            clear hwd
            go_wp2_with fail
            refine (within_any s 8 _ (by omega) (by omega)).mono ?_
            rintro e w9 ⟨rfl, rfl⟩
            have hq1 : 0 ≤ s % 8 := by omega
            have hq2 : s % 8 < 8 := by omega
            go_upto_region 15 with fail
            rw [← HWD.out]
            by_cases hk8 : k < 8
            · have hget := HGET.out
              rw [if_pos hk8] at hget
              have HG := hid hget
              have HM := hid (mask8 x k hk8)
              clear hget
              go_wp2_with fail
              rw [HM.out]
              refine HG.out.mono ?_
              rintro e w5 ⟨A5, rfl, hr5, hA5, hk5⟩
              have HR5 := hid hr5
              have HK5 := hid (HKJ.out.new hk5 (fun i hi => by omega))
              clear hr5 hA5 hk5
              go_wp2_with fail
              go_roundw
              case rel => exact ⟨j + 1, A5, n4 - k, c4 - k, by omega, by go_num, by omega, HR5, HK5⟩
              case measure => simp [intOf]; omega
            · have hget := HGET.out
              rw [if_neg hk8] at hget
              have HG := hid hget
              clear hget
              go_wp2_with fail
              refine HG.out.mono ?_
              rintro e w5 ⟨A5, rfl, hr5, hA5, hk5⟩
              have HR5 := hid hr5
              have HK5 := hid (HKJ.out.new hk5 (fun i hi => by omega))
              clear hr5 hA5 hk5
              go_wp2_with fail
              go_roundw
              case rel => exact ⟨j + 1, A5, n4 - k, c4 - k, by omega, by go_num, by omega, HR5, HK5⟩
              case measure => simp [intOf]; omega
          · obtain rfl : N = j := by omega
            have hre := HR.out
            rw [rest_end] at hre
            have hn0 : n4 = 0 := by have := hre.rd.len; simpa using this.symm
            subst hn0
            have HRE := hid hre
            have e1 : endM [] 0 = 0 := by decide
            have e2 : leftM [] 0 = 0 := by decide
            clear hre
            go_wp2_with fail
            refine (end_any wr R A4 0 c4 [] 0 HRE.out).mono ?_
            rintro e w9 ⟨rfl, rfl⟩
            rw [e1]
            go_wp2_with fail
            refine (left_any wr R A4 0 c4 [] 0 HRE.out).mono ?_
            rintro e w9 ⟨rfl, rfl⟩
            rw [e2]
            go_wp2_with fail
            go_ret
            exact ⟨rfl, HKJ.out.below (Nat.le_refl _) (fun _ h => h.elim)⟩
end Go.Proofs.Ytaoikgopadladaa
