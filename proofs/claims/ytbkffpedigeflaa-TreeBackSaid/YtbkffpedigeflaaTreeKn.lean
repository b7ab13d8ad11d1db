/-
  The laws' own example, over a tree and a writer; numbers within bounds. Conditions: none.
-/
import Derived.Test.YtbkffpedigeflaaTrees
namespace Go.Proofs.Ytbkffpedigeflaa
open Go.RowKit

set_option maxHeartbeats 400000 in
theorem within_any (w : World) (x n : Int) (h0 : -9223372036854775808 ≤ x) (h1 : x ≤ 9223372036854775807) (hn : 0 < n) (hn2 : n ≤ 4294967296) :
    Calls Try.prog 12 #[.int .i64 x, .int .i64 n] w fun e w' => e = .returned (.int .i64 (x % n)) ∧ w = w' := by
  obtain ⟨t1, t2, t3, t4⟩ := tmod_fix x n hn
  have hz : (n == 0) = false := by simp; omega
  have hw : wrap64 (x.tmod n) = x.tmod n := IntWalk.wrap64_in _ (by omega)
  have hw2 : IntKind.i64.wrap (x.tmod n) = x.tmod n := IntWalk.i64_in _ (by omega)
  by_cases hc : x.tmod n < 0
  · have e := t1 hc
    have HE := hid e
    clear t1 t2 e
    go_enter Try.func12, Try.ntmps12
    go_wp2_with fail
    go_ret
    exact ⟨by rw [← HE.out]; rfl, rfl⟩
  · have e := t2 (by omega)
    have HE := hid e
    clear t1 t2 e
    go_enter Try.func12, Try.ntmps12
    go_wp2_with fail
    go_ret
    exact ⟨by rw [← HE.out]; rfl, rfl⟩
theorem lev11 : Lev 1 1 1 := ⟨by omega, by omega, by omega, by omega, by omega, by omega, rfl, rfl, fun i h => by omega⟩
theorem kn_enc : (encI 1 1 0 1 (fun _ _ => nd0) 1).2.2 = [1] ∧ (encI 1 1 0 1 (fun _ _ => nd0) 1).2.1 0 0 = ⟨0, 0, true⟩ := ⟨by decide +kernel, by rfl⟩
set_option maxHeartbeats 1600000 in
theorem known_ok (w : World) : Calls Try.prog 8 #[] w fun e w' => e = .returned (.bool true) ∧ Keep (fun _ => False) w w' := by
  go_enter Try.func8, Try.ntmps8
  go_wp2_with fail
  refine (new_any w 1 1 (by omega) (by omega) (by omega) (by omega)).mono ?_
  rintro e w1 ⟨p, G, c, L, B, rfl, ht, hn, hk1⟩
  obtain rfl : L = 1 := ht.lev.same lev11
  have H1 := hid (TrS.tree (m := 0) (TrS.start (p := fun _ => p) (L := 1) (W := 1) (H := 1) (N := fun _ _ _ => nd0) (Q := fun _ => 0) (st := fun _ => ([], 0)) (Keep.refl _ w)) ht hn hk1 (p' := fun _ => p) (N' := fun _ _ _ => nd0) (fun _ _ => rfl) rfl (fun _ _ => rfl) rfl)
  clear ht hn hk1
  go_wp2_with fail
  refine (neww_any w1).mono ?_
  rintro e w2 ⟨Q, rfl, hQ, hw2, hk2⟩
  have H2 := hid (TrS.writer H1.out hw2 hQ hk2 (Q' := fun _ => Q) (st' := fun _ => ([], 0)) (fun i hi => by omega) rfl (fun _ _ => rfl) rfl)
  clear hw2 hQ hk2 H1
  go_wp2_with fail
  refine (TrS.enc H2.out (i := 0) (j := 0) (by omega) (by omega) 0 1 (by omega) (by omega) (by simp)).mono ?_
  rintro e w3 ⟨rfl, h3⟩
  rw [kn_enc.1] at h3
  have H3 := hid h3
  clear h3 H2
  go_wp2_with fail
  refine (TrS.bytes H3.out (j := 0) (by omega) (by rw [put_at]; decide)).mono ?_
  rintro e w4 ⟨A', n', c', rfl, hown, hk4⟩
  have e1 : outB (put (fun _ => (([], 0) : List Int × Int)) 0 (runM ([], 0) [1]) 0).1 = [128] := by rw [put_at]; decide
  rw [e1] at hown
  have hn3 : n' = 1 := by have := hown.1; simpa using this.symm
  subst hn3
  obtain ⟨g, rfl, hgc, hgb, hc, _⟩ := own_at hown (by omega)
  have hc0 := hc 0 _ rfl
  have H4 := hid (H3.out.aside hk4)
  have HK := hid (show knownM ((put (fun _ _ _ => nd0) 0 (encI 1 1 0 1 (fun _ _ => nd0) 1).2.1 : Nat → Nat → Nat → Nd) 0 0 0) = 0 by rw [put_at, kn_enc.2]; rfl)
  clear hc hown e1 hk4 H3
  go_wp2_with fail
  refine (TrS.knows H4.out (i := 0) (by omega) 0 (by omega)).mono ?_
  rintro e w5 ⟨rfl, hk5⟩
  rw [HK.out]
  have HKK := hid (H4.out.keeps.trans hk5 (fun _ _ h => h))
  clear H4 hk5
  go_wp2_with fail
  go_ret
  exact ⟨rfl, HKK.out⟩
end Go.Proofs.Ytbkffpedigeflaa
