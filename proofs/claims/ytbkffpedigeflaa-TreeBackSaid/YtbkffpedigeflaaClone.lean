/-
  slices.Clone at bytes: a copy of its own, whatever came in. Conditions: at most 2^47 bytes.
-/
import Derived.Test.YtbkffpedigeflaaProg
import Derived.Test.YtbkffpedigeflaaMem
namespace Go.Proofs.Ytbkffpedigeflaa
open Go.RowKit

theorem info_u8 : (Try.prog.info? 5).map (fun i => (i.zero, i.size, i.bytes)) = some (some (.int .u8 0), 1, 1) := by kernel_rfl

set_option maxHeartbeats 400000 in
/-- slices.Clone. -/
theorem clone_any (A : Option Addr) (n c : Nat) (zs : List Int) (w : World) (h : Rd w A n (zs.map (Value.int .u8))) (hn : n ≤ 140737488355328) :
    Calls Try.prog 30 #[.slice A n c] w fun e w' => ∃ v', e = .returned v' ∧ w'.ownsRow w.heap.size 5 1 v' n (zs.map (Value.int .u8)) ∧ Keep (fun _ => False) w w' := by
  obtain ⟨i0, hi0, hz0, hz1, hz2⟩ := info_parts info_u8
  have q : ∀ (w : World) (a : Option Addr) (n c : Nat), (binOp .eql 31 (.slice a n c) (.slice none 0 0)).run Try.prog w = .ok (.bool a.isNone) w := fun w a n c => Lib.run_eql_slice_nil w _ _ a n c 0 0 Try.underlying31
  rcases A with _ | ad
  · have hn0 : n = 0 := by
      rcases Nat.eq_zero_or_pos n with h0 | h0
      · exact h0
      · obtain ⟨_, h, _⟩ := h.2 h0; cases h
    subst hn0
    have hz : zs = [] := List.eq_nil_of_length_eq_zero h.len
    subst hz
    go_enter Try.func30, Try.ntmps30
    go_wp2
    go_ret
    exact ⟨_, rfl, World.ownsRow_nil _ _ _ _, Keep.refl _ _⟩
  · go_enter Try.func30, Try.ntmps30
    go_wp2_with (
      at_builtin
      refine wpList_append_src _ rfl (.tmp 5) (.tmp 6) _ rfl w.heap.size 5 i0 _ 1 Try.underlying31 hi0 hz0 hz1 hz2 rfl
        (World.ownsRow_made w #[] 0 (Nat.le_refl _) (by simp [maxLen]) rfl) rfl (h.alloc _) rfl (oneCell_ints _ _) (by simp only [maxLen]; omega) (by omega) (by simp) ?_
      intro v1 w1 hown hg hat _hold)
    go_ret
    refine ⟨v1, rfl, by simpa using hown, ((Keep.refl _ w).alloc _).grown hg (fun k hk => ?_)⟩
    simp [Value.ownBlock] at hk
    omega
end Go.Proofs.Ytbkffpedigeflaa
