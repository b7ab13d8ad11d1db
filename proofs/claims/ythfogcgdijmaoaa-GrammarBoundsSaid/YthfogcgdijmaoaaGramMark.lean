/-
  The laws' own example's walk over four bytes. Conditions: none.
-/
import Derived.Test.YthfogcgdijmaoaaGramClean
import Derived.Test.YthfogcgdijmaoaaRegion2
namespace Go.Proofs.Ythfogcgdijmaoaa
open Go.RowKit

theorem info_int : (Try.prog.info? 3).map (fun i => (i.zero, i.size, i.bytes)) = some (some (.int .i64 0), 1, 8) := by kernel_rfl
set_option maxHeartbeats 800000 in
theorem number_two (w : World) (g o c : Nat) (y z : Int) (hy : y = 79 ∨ y = 217) (hz : z = 65280 + y) (h0 : w.cell? ⟨g, o, none⟩ = some (.int .u8 255)) (h1 : w.cell? ⟨g, o + 1, none⟩ = some (.int .u8 y)) :
    Calls Try.prog 17 #[.slice (some ⟨g, o, none⟩) 2 c] w fun e w' => e = .returned (.int .i64 z) ∧ w = w' := by
  have ho0 : bits .or .i64 0 255 = 255 := by decide +kernel
  have ho1 : bits .or .i64 65280 y = z := by
    rcases hy with rfl | rfl
    · rw [hz]; decide +kernel
    · rw [hz]; decide +kernel
  clear hz
  have hyr : 0 ≤ y ∧ y ≤ 255 := by omega
  clear hy
  go_enter Try.func17, Try.ntmps17
  go_wp2_with fail
  go_loop [3, 8] (fun u v => (u = .int .i64 0 ∧ v = .int .i64 0) ∨ (u = .int .i64 255 ∧ v = .int .i64 1) ∨ (u = .int .i64 z ∧ v = .int .i64 2)) (fun _ v => 2 - (intOf v).toNat)
  case atStart => exact .inl ⟨rfl, rfl⟩
  case round =>
    rcases hrel with ⟨rfl, rfl⟩ | ⟨rfl, rfl⟩ | ⟨rfl, rfl⟩
    · go_wp2_with fail
      exact ⟨.inr (.inl ⟨rfl, rfl⟩), by simp [intOf]⟩
    · go_wp2_with fail
      exact ⟨.inr (.inr ⟨rfl, rfl⟩), by simp [intOf]⟩
    · go_wp2_with fail
      go_ret
      exact ⟨rfl, rfl⟩
/-- A walker over four bytes, with what it has met. -/
structure Wk (w : World) (base V g : Nat) (x m : Nat) (M : Option Addr) (cm : Nat) (T : Option Addr) (ct : Nat) (xs ys : List Value) : Prop where
  blk : Blk w V 36 #[.slice (some ⟨g, 0, none⟩) 4 4, .int .i64 x, .slice M m cm, .slice T m ct, .bool false]
  buf : Blk w g 5 #[.int .u8 255, .int .u8 79, .int .u8 255, .int .u8 217]
  oM : w.ownsRow base 3 1 (.slice M m cm) m xs
  oT : w.ownsRow base 3 1 (.slice T m ct) m ys
  dj : ∀ j, (Value.slice M m cm).ownBlock = some j → (Value.slice T m ct).ownBlock ≠ some j
theorem src_one (w : World) (u : Value) (e : TypeId) : Rd (w.alloc (.cells #[u] e)) (some ⟨w.heap.size, 0, none⟩) 1 [u] :=
  ⟨rfl, fun _ => ⟨_, rfl, fun j v hj => by
    match j, hj with
    | 0, hj => simp at hj; subst hj; simp [Addr.add]⟩⟩
theorem src_two (w : World) (u u' : Value) (e : TypeId) : Rd ((w.alloc (.cells #[u'] e)).alloc (.cells #[u] e)) (some ⟨w.heap.size + 1, 0, none⟩) 1 [u] := by
  have h := src_one (w.alloc (.cells #[u'] e)) u e
  rw [World.size_alloc] at h
  exact h
theorem own_blk {A : Option Addr} {n c : Nat} {k : Nat} (h : (Value.slice A n c).ownBlock = some k) : ∃ ad, A = some ad ∧ ad.block = k := by
  cases A with
  | none => simp [Value.ownBlock] at h
  | some a => exact ⟨a, rfl, by simpa [Value.ownBlock] using h⟩
theorem own_lt_int {w : World} {base n c : Nat} {e : TypeId} {A : Option Addr} {xs : List Value} (h : w.ownsRow base e 1 (.slice A n c) n xs) : ∀ ad, A = some ad → base ≤ ad.block ∧ ad.block < w.heap.size := fun ad e => by
  subst e
  exact h.lt ad.block rfl
theorem keep1 {w : World} {o : Obj} {p : Addr} {u : Value} (h : w.cell? p = some u) : (w.alloc o).cell? p = some u := ((Keep.refl (fun _ => False) w).alloc o).cell h (fun h => h)
theorem keep2 {w : World} {o o' : Obj} {p : Addr} {u : Value} (h : w.cell? p = some u) : ((w.alloc o).alloc o').cell? p = some u := keep1 (keep1 h)
set_option maxRecDepth 20000 in
set_option maxHeartbeats 8000000 in
theorem mark_any (w : World) (base V g x m : Nat) (M : Option Addr) (cm : Nat) (T : Option Addr) (ct : Nat) (xs ys : List Value) (y z : Int) (h : Wk w base V g x m M cm T ct xs ys) (hb : base ≤ w.heap.size) (hx : x = 0 ∧ y = 79 ∨ x = 2 ∧ y = 217) (hz : z = 65280 + y) (hm : m ≤ 4) :
    Calls Try.prog 14 #[.pointer (some ⟨V, 0, none⟩)] w fun e w' => e = .returned (.tuple #[.int .i64 z, .bool true]) ∧ (∃ M' cm' T' ct' xs' ys', Wk w' base V g (x + 2) (m + 1) M' cm' T' ct' xs' ys') ∧ Keep (fun j => base ≤ j ∨ j = V) w w' := by
  obtain ⟨i0, hi0, hj0, hj1, hj2⟩ := info_parts info_int
  have hw2 : IntKind.i64.wrap 2 = 2 := by decide +kernel
  have hw4 : IntKind.i64.wrap 4 = 4 := by decide +kernel
  rcases hx with ⟨rfl, rfl⟩ | ⟨rfl, rfl⟩
  · skip
    have HW := hid h
    have c0 : w.cell? ⟨V, 0, none⟩ = some (.slice (some ⟨g, 0, none⟩) 4 4) := h.blk.cell 0
    have c1 : w.cell? ⟨V, 1, none⟩ = some (.int .i64 0) := h.blk.cell 1
    have c2 : w.cell? ⟨V, 2, none⟩ = some (.slice M m cm) := h.blk.cell 2
    have c3 : w.cell? ⟨V, 3, none⟩ = some (.slice T m ct) := h.blk.cell 3
    have b0 : w.cell? ⟨g, 0, none⟩ = some (.int .u8 255) := h.buf.cell 0
    have b1 : w.cell? ⟨g, 1, none⟩ = some (.int .u8 79) := h.buf.cell (0 + 1)
    have HN := hid (fun (w' : World) (h0 : w'.cell? ⟨g, 0, none⟩ = some (.int .u8 255)) (h1 : w'.cell? ⟨g, 1, none⟩ = some (.int .u8 79)) => number_two w' g 0 4 79 z (.inl rfl) hz h0 h1)
    clear h hz
    go_enter Try.func14, Try.ntmps14
    go_wp2_with fail
    -- region 1: 24 operations
    refine At.start (L := #[false, false, false, false, false, false, false, false, false, false, false, false, false, false, false, false, false, false, false, false, false, false, false, false]) (by kernel_rfl) rfl ?_
    refine At.pure 0 (some 5) (v := ?v0pa) rfl rfl (by kernel_rfl) (fun _ _ _ h => h) rfl (fun w' => ?y0pa) ?_   
    case y0pa => go_simp; try with_reducible rfl
    try simp only [Act.put, List.setIfInBounds_toArray, List.set_cons_zero, List.set_cons_succ]
    refine At.pure 1 (some 6) (v := ?v1pa) rfl rfl (by kernel_rfl) (fun _ _ _ h => h) rfl (fun w' => ?y1pa) ?_   
    case y1pa => go_simp; try with_reducible rfl
    try simp only [Act.put, List.setIfInBounds_toArray, List.set_cons_zero, List.set_cons_succ]
    refine At.pure 2 (some 7) (v := ?v2pa) rfl rfl (by kernel_rfl) (fun _ _ _ h => h) rfl (fun w' => ?y2pa) ?_   
    case y2pa => go_simp; try with_reducible rfl
    try simp only [Act.put, List.setIfInBounds_toArray, List.set_cons_zero, List.set_cons_succ]
    refine At.read 3 (some 8) (fun w' => w'.cell? ⟨V, 0, none⟩ = some (.slice (some ⟨g, 0, none⟩) 4 4)) (v := ?v3pa) rfl rfl (by kernel_rfl) (fun _ _ _ h => h) rfl c0 (fun w' hw' => ?y3pa) ?_   
    case y3pa => skip; go_simp; try with_reducible rfl
    try simp only [Act.put, List.setIfInBounds_toArray, List.set_cons_zero, List.set_cons_succ]
    refine At.pure 4 (some 9) (v := ?v4pa) rfl rfl (by kernel_rfl) (fun _ _ _ h => h) rfl (fun w' => ?y4pa) ?_   
    case y4pa => go_simp; try with_reducible rfl
    try simp only [Act.put, List.setIfInBounds_toArray, List.set_cons_zero, List.set_cons_succ]
    refine At.pure 5 (some 10) (v := ?v5pa) rfl rfl (by kernel_rfl) (fun _ _ _ h => h) rfl (fun w' => ?y5pa) ?_   
    case y5pa => go_simp; try with_reducible rfl
    try simp only [Act.put, List.setIfInBounds_toArray, List.set_cons_zero, List.set_cons_succ]
    refine At.pure 6 (some 11) (v := ?v6pa) rfl rfl (by kernel_rfl) (fun _ _ _ h => h) rfl (fun w' => ?y6pa) ?_   
    case y6pa => go_simp; try with_reducible rfl
    try simp only [Act.put, List.setIfInBounds_toArray, List.set_cons_zero, List.set_cons_succ]
    refine At.pure 7 (some 12) (v := ?v7pa) rfl rfl (by kernel_rfl) (fun _ _ _ h => h) rfl (fun w' => ?y7pa) ?_   
    case y7pa => go_simp; try with_reducible rfl
    try simp only [Act.put, List.setIfInBounds_toArray, List.set_cons_zero, List.set_cons_succ]
    refine At.read 8 (some 13) (fun w' => w'.cell? ⟨V, 1, none⟩ = some (.int .i64 0)) (v := ?v8pa) rfl rfl (by kernel_rfl) (fun _ _ _ h => h) rfl c1 (fun w' hw' => ?y8pa) ?_   
    case y8pa => skip; go_simp; try with_reducible rfl
    try simp only [Act.put, List.setIfInBounds_toArray, List.set_cons_zero, List.set_cons_succ]
    refine At.pure 9 (some 14) (v := ?v9pa) rfl rfl (by kernel_rfl) (fun _ _ _ h => h) rfl (fun w' => ?y9pa) ?_   
    case y9pa => go_simp; try with_reducible rfl
    try simp only [Act.put, List.setIfInBounds_toArray, List.set_cons_zero, List.set_cons_succ]
    refine At.pure 10 (some 15) (v := ?v10pa) rfl rfl (by kernel_rfl) (fun _ _ _ h => h) rfl (fun w' => ?y10pa) ?_   
    case y10pa => go_simp; try with_reducible rfl
    try simp only [Act.put, List.setIfInBounds_toArray, List.set_cons_zero, List.set_cons_succ]
    refine At.pure 11 (some 16) (v := ?v11pa) rfl rfl (by kernel_rfl) (fun _ _ _ h => h) rfl (fun w' => ?y11pa) ?_   
    case y11pa => go_simp; try with_reducible rfl
    try simp only [Act.put, List.setIfInBounds_toArray, List.set_cons_zero, List.set_cons_succ]
    refine At.pure 12 (some 17) (v := ?v12pa) rfl rfl (by kernel_rfl) (fun _ _ _ h => h) rfl (fun w' => ?y12pa) ?_   
    case y12pa => go_simp; try with_reducible rfl
    try simp only [Act.put, List.setIfInBounds_toArray, List.set_cons_zero, List.set_cons_succ]
    refine At.pure 13 (some 18) (v := ?v13pa) rfl rfl (by kernel_rfl) (fun _ _ _ h => h) rfl (fun w' => ?y13pa) ?_   
    case y13pa => go_simp; try with_reducible rfl
    try simp only [Act.put, List.setIfInBounds_toArray, List.set_cons_zero, List.set_cons_succ]
    refine At.pure 14 (some 19) (v := ?v14pa) rfl rfl (by kernel_rfl) (fun _ _ _ h => h) rfl (fun w' => ?y14pa) ?_   
    case y14pa => go_simp; try with_reducible rfl
    try simp only [Act.put, List.setIfInBounds_toArray, List.set_cons_zero, List.set_cons_succ]
    refine At.read 15 (some 20) (fun w' => w'.cell? ⟨V, 0, none⟩ = some (.slice (some ⟨g, 0, none⟩) 4 4)) (v := ?v15pa) rfl rfl (by kernel_rfl) (fun _ _ _ h => h) rfl c0 (fun w' hw' => ?y15pa) ?_   
    case y15pa => skip; go_simp; try with_reducible rfl
    try simp only [Act.put, List.setIfInBounds_toArray, List.set_cons_zero, List.set_cons_succ]
    refine At.pure 16 (some 21) (v := ?v16pa) rfl rfl (by kernel_rfl) (fun _ _ _ h => h) rfl (fun w' => ?y16pa) ?_   
    case y16pa => go_simp; try with_reducible rfl
    try simp only [Act.put, List.setIfInBounds_toArray, List.set_cons_zero, List.set_cons_succ]
    refine At.pure 17 (some 22) (v := ?v17pa) rfl rfl (by kernel_rfl) (fun _ _ _ h => h) rfl (fun w' => ?y17pa) ?_   
    case y17pa => go_simp; try with_reducible rfl
    try simp only [Act.put, List.setIfInBounds_toArray, List.set_cons_zero, List.set_cons_succ]
    refine At.pure 18 (some 23) (v := ?v18pa) rfl rfl (by kernel_rfl) (fun _ _ _ h => h) rfl (fun w' => ?y18pa) ?_   
    case y18pa => go_simp; try with_reducible rfl
    try simp only [Act.put, List.setIfInBounds_toArray, List.set_cons_zero, List.set_cons_succ]
    refine At.read 19 (some 24) (fun w' => w'.cell? ⟨V, 1, none⟩ = some (.int .i64 0)) (v := ?v19pa) rfl rfl (by kernel_rfl) (fun _ _ _ h => h) rfl c1 (fun w' hw' => ?y19pa) ?_   
    case y19pa => skip; go_simp; try with_reducible rfl
    try simp only [Act.put, List.setIfInBounds_toArray, List.set_cons_zero, List.set_cons_succ]
    refine At.pure 20 (some 25) (v := ?v20pa) rfl rfl (by kernel_rfl) (fun _ _ _ h => h) rfl (fun w' => ?y20pa) ?_   
    case y20pa => go_simp; try with_reducible rfl
    try simp only [Act.put, List.setIfInBounds_toArray, List.set_cons_zero, List.set_cons_succ]
    refine At.read 21 (some 26) (fun w' => w'.cell? ⟨g, 0, none⟩ = some (.int .u8 255)) (v := ?v21pa) rfl rfl (by kernel_rfl) (fun _ _ _ h => h) rfl b0 (fun w' hw' => ?y21pa) ?_   
    case y21pa => skip; go_simp; try with_reducible rfl
    try simp only [Act.put, List.setIfInBounds_toArray, List.set_cons_zero, List.set_cons_succ]
    refine At.pure 22 (some 27) (v := ?v22pa) rfl rfl (by kernel_rfl) (fun _ _ _ h => h) rfl (fun w' => ?y22pa) ?_   
    case y22pa => go_simp; try with_reducible rfl
    try simp only [Act.put, List.setIfInBounds_toArray, List.set_cons_zero, List.set_cons_succ]
    refine At.pure 23 (some 28) (v := ?v23pa) rfl rfl (by kernel_rfl) (fun _ _ _ h => h) rfl (fun w' => ?y23pa) ?_   
    case y23pa => go_simp; try with_reducible rfl
    try simp only [Act.put, List.setIfInBounds_toArray, List.set_cons_zero, List.set_cons_succ]
    refine At.done (by kernel_rfl) ?_
    go_wp2_with fail
    -- region 3: 16 operations
    refine At.start (L := #[false, false, false, false, false, false, false, false, false, false, false, false, false, false, false, false]) (by kernel_rfl) rfl ?_
    refine At.pure 0 (some 29) (v := ?v0pb) rfl rfl (by kernel_rfl) (fun _ _ _ h => h) rfl (fun w' => ?y0pb) ?_   
    case y0pb => go_simp; try with_reducible rfl
    try simp only [Act.put, List.setIfInBounds_toArray, List.set_cons_zero, List.set_cons_succ]
    refine At.pure 1 (some 30) (v := ?v1pb) rfl rfl (by kernel_rfl) (fun _ _ _ h => h) rfl (fun w' => ?y1pb) ?_   
    case y1pb => go_simp; try with_reducible rfl
    try simp only [Act.put, List.setIfInBounds_toArray, List.set_cons_zero, List.set_cons_succ]
    refine At.pure 2 (some 31) (v := ?v2pb) rfl rfl (by kernel_rfl) (fun _ _ _ h => h) rfl (fun w' => ?y2pb) ?_   
    case y2pb => go_simp; try with_reducible rfl
    try simp only [Act.put, List.setIfInBounds_toArray, List.set_cons_zero, List.set_cons_succ]
    refine At.read 3 (some 32) (fun w' => w'.cell? ⟨V, 0, none⟩ = some (.slice (some ⟨g, 0, none⟩) 4 4)) (v := ?v3pb) rfl rfl (by kernel_rfl) (fun _ _ _ h => h) rfl c0 (fun w' hw' => ?y3pb) ?_   
    case y3pb => skip; go_simp; try with_reducible rfl
    try simp only [Act.put, List.setIfInBounds_toArray, List.set_cons_zero, List.set_cons_succ]
    refine At.pure 4 (some 33) (v := ?v4pb) rfl rfl (by kernel_rfl) (fun _ _ _ h => h) rfl (fun w' => ?y4pb) ?_   
    case y4pb => go_simp; try with_reducible rfl
    try simp only [Act.put, List.setIfInBounds_toArray, List.set_cons_zero, List.set_cons_succ]
    refine At.pure 5 (some 34) (v := ?v5pb) rfl rfl (by kernel_rfl) (fun _ _ _ h => h) rfl (fun w' => ?y5pb) ?_   
    case y5pb => go_simp; try with_reducible rfl
    try simp only [Act.put, List.setIfInBounds_toArray, List.set_cons_zero, List.set_cons_succ]
    refine At.pure 6 (some 35) (v := ?v6pb) rfl rfl (by kernel_rfl) (fun _ _ _ h => h) rfl (fun w' => ?y6pb) ?_   
    case y6pb => go_simp; try with_reducible rfl
    try simp only [Act.put, List.setIfInBounds_toArray, List.set_cons_zero, List.set_cons_succ]
    refine At.read 7 (some 36) (fun w' => w'.cell? ⟨V, 1, none⟩ = some (.int .i64 0)) (v := ?v7pb) rfl rfl (by kernel_rfl) (fun _ _ _ h => h) rfl c1 (fun w' hw' => ?y7pb) ?_   
    case y7pb => skip; go_simp; try with_reducible rfl
    try simp only [Act.put, List.setIfInBounds_toArray, List.set_cons_zero, List.set_cons_succ]
    refine At.pure 8 (some 37) (v := ?v8pb) rfl rfl (by kernel_rfl) (fun _ _ _ h => h) rfl (fun w' => ?y8pb) ?_   
    case y8pb => go_simp; try with_reducible rfl
    try simp only [Act.put, List.setIfInBounds_toArray, List.set_cons_zero, List.set_cons_succ]
    refine At.pure 9 (some 38) (v := ?v9pb) rfl rfl (by kernel_rfl) (fun _ _ _ h => h) rfl (fun w' => ?y9pb) ?_   
    case y9pb => go_simp; try with_reducible rfl
    try simp only [Act.put, List.setIfInBounds_toArray, List.set_cons_zero, List.set_cons_succ]
    refine At.pure 10 (some 39) (v := ?v10pb) rfl rfl (by kernel_rfl) (fun _ _ _ h => h) rfl (fun w' => ?y10pb) ?_   
    case y10pb => go_simp; try with_reducible rfl
    try simp only [Act.put, List.setIfInBounds_toArray, List.set_cons_zero, List.set_cons_succ]
    refine At.read 11 (some 40) (fun w' => w'.cell? ⟨V, 1, none⟩ = some (.int .i64 0)) (v := ?v11pb) rfl rfl (by kernel_rfl) (fun _ _ _ h => h) rfl c1 (fun w' hw' => ?y11pb) ?_   
    case y11pb => skip; go_simp; try with_reducible rfl
    try simp only [Act.put, List.setIfInBounds_toArray, List.set_cons_zero, List.set_cons_succ]
    refine At.pure 12 (some 41) (v := ?v12pb) rfl rfl (by kernel_rfl) (fun _ _ _ h => h) rfl (fun w' => ?y12pb) ?_   
    case y12pb => go_simp; try with_reducible rfl
    try simp only [Act.put, List.setIfInBounds_toArray, List.set_cons_zero, List.set_cons_succ]
    refine At.pure 13 (some 42) (v := ?v13pb) rfl rfl (by kernel_rfl) (fun _ _ _ h => h) rfl (fun w' => ?y13pb) ?_   
    case y13pb => go_simp; try with_reducible rfl
    try simp only [Act.put, List.setIfInBounds_toArray, List.set_cons_zero, List.set_cons_succ]
    refine At.call 14 (pend' := []) rfl (by kernel_rfl) rfl (by kernel_rfl) (fun K hK => ?_)   
    go_simp
    refine (HN.out w.drew.drew b0 b1).mono ?_
    rintro e w2 ⟨rfl, rfl⟩
    refine hK _ _ all_nil ?_
    clear hK K
    try simp only [Act.put, List.setIfInBounds_toArray, List.set_cons_zero, List.set_cons_succ]
    refine At.pure 15 (some 4) (v := ?v15pb) rfl rfl (by kernel_rfl) (fun _ _ _ h => h) rfl (fun w' => ?y15pb) ?_   
    case y15pb => go_simp; try with_reducible rfl
    try simp only [Act.put, List.setIfInBounds_toArray, List.set_cons_zero, List.set_cons_succ]
    refine At.done (by kernel_rfl) ?_
    go_wp2_with fail
    obtain ⟨w1, hw1⟩ : ∃ w1, w.drew.drew = w1 := ⟨_, rfl⟩
    have HW1 : Hid (Wk w1 base V g 0 m M cm T ct xs ys) := hid (by rw [← hw1]; exact ⟨HW.out.blk.drew.drew, HW.out.buf.drew.drew, HW.out.oM.drew.drew, HW.out.oT.drew.drew, HW.out.dj⟩)
    have HK1 := hid (show Keep (fun j => base ≤ j ∨ j = V) w w1 by rw [← hw1]; exact ((Keep.refl _ w).drew).drew)
    rw [hw1]
    clear hw1 c0 c1 c2 c3 b0 b1 HN
    have q1 : w1.cell? ⟨V, 1, none⟩ = some (.int .i64 0) := HW1.out.blk.cell 1
    have q2 : w1.cell? ⟨V, 2, none⟩ = some (.slice M m cm) := HW1.out.blk.cell 2
    have q3 : w1.cell? ⟨V, 3, none⟩ = some (.slice T m ct) := HW1.out.blk.cell 3
    have hb1 : base ≤ w1.heap.size := Nat.le_trans hb HK1.out.size
    have hMlt : ∀ k, (Value.slice M m cm).ownBlock = some k → base ≤ k ∧ k < w1.heap.size := fun k e => by
      obtain ⟨ad, e1, e2⟩ := own_blk e
      have := own_lt_int HW1.out.oM ad e1; omega
    have hTlt : ∀ k, (Value.slice T m ct).ownBlock = some k → base ≤ k ∧ k < w1.heap.size := fun k e => by
      obtain ⟨ad, e1, e2⟩ := own_blk e
      have := own_lt_int HW1.out.oT ad e1; omega
    have hVM : (Value.slice M m cm).ownBlock ≠ some V := own_ne HW1.out.oM HW1.out.blk (by decide)
    have hVT : (Value.slice T m ct).ownBlock ≠ some V := own_ne HW1.out.oT HW1.out.blk (by decide)
    have hGM : (Value.slice M m cm).ownBlock ≠ some g := own_ne HW1.out.oM HW1.out.buf (by decide)
    have hGT : (Value.slice T m ct).ownBlock ≠ some g := own_ne HW1.out.oT HW1.out.buf (by decide)
    clear HW
    -- region 4: 25 operations
    refine At.start (L := #[false, false, false, false, false, false, false, false, false, false, false, false, false, false, false, false, false, false, false, false, false, false, false, false, false]) (by kernel_rfl) rfl ?_
    refine At.pure 0 (some 44) (v := ?v0pc) rfl rfl (by kernel_rfl) (fun _ _ _ h => h) rfl (fun w' => ?y0pc) ?_   
    case y0pc => go_simp; try with_reducible rfl
    try simp only [Act.put, List.setIfInBounds_toArray, List.set_cons_zero, List.set_cons_succ]
    refine At.pure 1 (some 45) (v := ?v1pc) rfl rfl (by kernel_rfl) (fun _ _ _ h => h) rfl (fun w' => ?y1pc) ?_   
    case y1pc => go_simp; try with_reducible rfl
    try simp only [Act.put, List.setIfInBounds_toArray, List.set_cons_zero, List.set_cons_succ]
    refine At.pure 2 (some 46) (v := ?v2pc) rfl rfl (by kernel_rfl) (fun _ _ _ h => h) rfl (fun w' => ?y2pc) ?_   
    case y2pc => go_simp; try with_reducible rfl
    try simp only [Act.put, List.setIfInBounds_toArray, List.set_cons_zero, List.set_cons_succ]
    refine At.pure 3 (some 47) (v := ?v3pc) rfl rfl (by kernel_rfl) (fun _ _ _ h => h) rfl (fun w' => ?y3pc) ?_   
    case y3pc => go_simp; try with_reducible rfl
    try simp only [Act.put, List.setIfInBounds_toArray, List.set_cons_zero, List.set_cons_succ]
    refine At.pure 4 (some 48) (v := ?v4pc) rfl rfl (by kernel_rfl) (fun _ _ _ h => h) rfl (fun w' => ?y4pc) ?_   
    case y4pc => go_simp; try with_reducible rfl
    try simp only [Act.put, List.setIfInBounds_toArray, List.set_cons_zero, List.set_cons_succ]
    refine At.read 5 (some 49) (fun w' => w'.cell? ⟨V, 2, none⟩ = some (.slice M m cm)) (v := (.slice M m cm)) rfl rfl (by kernel_rfl) (fun _ _ _ h => h) rfl q2 (fun w' hw' => ?y5pc) ?_   
    case y5pc => skip; go_simp; try with_reducible rfl
    try simp only [Act.put, List.setIfInBounds_toArray, List.set_cons_zero, List.set_cons_succ]
    refine At.pure 6 (some 50) (v := ?v6pc) rfl rfl (by kernel_rfl) (fun _ _ _ h => h) rfl (fun w' => ?y6pc) ?_   
    case y6pc => go_simp; try with_reducible rfl
    try simp only [Act.put, List.setIfInBounds_toArray, List.set_cons_zero, List.set_cons_succ]
    refine At.pure 9 (some 53) (v := ?v9pc) rfl rfl (by kernel_rfl) (fun _ _ _ h => h) rfl (fun w' => ?y9pc) ?_   
    case y9pc => go_simp; try with_reducible rfl
    try simp only [Act.put, List.setIfInBounds_toArray, List.set_cons_zero, List.set_cons_succ]
    refine At.pure 10 (some 54) (v := ?v10pc) rfl rfl (by kernel_rfl) (fun _ _ _ h => h) rfl (fun w' => ?y10pc) ?_   
    case y10pc => go_simp; try with_reducible rfl
    try simp only [Act.put, List.setIfInBounds_toArray, List.set_cons_zero, List.set_cons_succ]
    refine At.pure 11 (some 55) (v := ?v11pc) rfl rfl (by kernel_rfl) (fun _ _ _ h => h) rfl (fun w' => ?y11pc) ?_   
    case y11pc => go_simp; try with_reducible rfl
    try simp only [Act.put, List.setIfInBounds_toArray, List.set_cons_zero, List.set_cons_succ]
    refine At.read 12 (some 56) (fun w' => w'.cell? ⟨V, 3, none⟩ = some (.slice T m ct)) (v := (.slice T m ct)) rfl rfl (by kernel_rfl) (fun _ _ _ h => h) rfl q3 (fun w' hw' => ?y12pc) ?_   
    case y12pc => skip; go_simp; try with_reducible rfl
    try simp only [Act.put, List.setIfInBounds_toArray, List.set_cons_zero, List.set_cons_succ]
    refine At.pure 13 (some 57) (v := ?v13pc) rfl rfl (by kernel_rfl) (fun _ _ _ h => h) rfl (fun w' => ?y13pc) ?_   
    case y13pc => go_simp; try with_reducible rfl
    try simp only [Act.put, List.setIfInBounds_toArray, List.set_cons_zero, List.set_cons_succ]
    refine At.pure 14 (some 58) (v := ?v14pc) rfl rfl (by kernel_rfl) (fun _ _ _ h => h) rfl (fun w' => ?y14pc) ?_   
    case y14pc => go_simp; try with_reducible rfl
    try simp only [Act.put, List.setIfInBounds_toArray, List.set_cons_zero, List.set_cons_succ]
    refine At.pure 15 (some 59) (v := ?v15pc) rfl rfl (by kernel_rfl) (fun _ _ _ h => h) rfl (fun w' => ?y15pc) ?_   
    case y15pc => go_simp; try with_reducible rfl
    try simp only [Act.put, List.setIfInBounds_toArray, List.set_cons_zero, List.set_cons_succ]
    refine At.read 16 (some 60) (fun w' => w'.cell? ⟨V, 1, none⟩ = some (.int .i64 0)) (v := (.int .i64 0)) rfl rfl (by kernel_rfl) (fun _ _ _ h => h) rfl q1 (fun w' hw' => ?y16pc) ?_   
    case y16pc => skip; go_simp; try with_reducible rfl
    try simp only [Act.put, List.setIfInBounds_toArray, List.set_cons_zero, List.set_cons_succ]
    refine At.two 7 17 (pi := [(16, (fun w' => w'.cell? ⟨V, 1, none⟩ = some (.int .i64 0))), (12, (fun w' => w'.cell? ⟨V, 3, none⟩ = some (.slice T m ct))), (5, (fun w' => w'.cell? ⟨V, 2, none⟩ = some (.slice M m cm)))]) (pj := [(12, (fun w' => w'.cell? ⟨V, 3, none⟩ = some (.slice T m ct))), (5, (fun w' => w'.cell? ⟨V, 2, none⟩ = some (.slice M m cm)))]) rfl rfl (by kernel_rfl) rfl rfl (by kernel_rfl) (by kernel_rfl) (fun K hK => ?_) (fun K hK => ?_)
    · skip
      go_simp
      skip
      refine hK _ _ (all_cons (by (try exact keep1 q1); (try exact keep2 q1)) (all_cons (by (try exact keep1 q3); (try exact keep2 q3)) (all_cons (by (try exact keep1 q2); (try exact keep2 q2)) all_nil))) ?_
      clear hK K
      try simp only [Act.put, List.setIfInBounds_toArray, List.set_cons_zero, List.set_cons_succ]
      refine At.two 8 17 (pi := [(16, (fun w' => w'.cell? ⟨V, 1, none⟩ = some (.int .i64 0))), (12, (fun w' => w'.cell? ⟨V, 3, none⟩ = some (.slice T m ct)))]) (pj := [(12, (fun w' => w'.cell? ⟨V, 3, none⟩ = some (.slice T m ct))), (5, (fun w' => w'.cell? ⟨V, 2, none⟩ = some (.slice M m cm)))]) rfl rfl (by kernel_rfl) rfl rfl (by kernel_rfl) (by kernel_rfl) (fun K hK => ?_) (fun K hK => ?_)
      · skip
        refine wp_append_src _ (.tmp 49) (.tmp 51) _ rfl base 3 i0 _ 8 Try.underlying28 hi0 hj0 hj1 hj2 rfl (.slice M m cm) m xs rfl (by first | exact HW1.out.oM.drew.alloc _ | exact (HW1.out.oM.drew.alloc _).alloc _) _ 1 1 [.int .i64 z] rfl (by first | exact src_one w1.drew _ _ | exact (src_one w1.drew _ _).alloc _ | exact src_two w1.drew _ _ _) (by intro u hu; simp at hu; subst hu; rfl) (by simp only [maxLen]; omega) (by omega) (by simp; omega) ?_
        intro v2 w2 hown2 hg2 hat2 _hold2
        obtain ⟨M2, cm2, rfl⟩ := own_form hown2
        have kk : Keep (fun k => (Value.slice M m cm).ownBlock = some k) w1 w2 := by first | exact (((Keep.refl _ w1).drew).alloc _).grown hg2 (fun k hk => .inl hk) | exact ((((Keep.refl _ w1).drew).alloc _).alloc _).grown hg2 (fun k hk => .inl hk)
        have oT2 := own_keep HW1.out.oT kk (fun k e hk => HW1.out.dj k hk e)
        have bV2 := HW1.out.blk.keep kk hVM
        have bG2 := HW1.out.buf.keep kk hGM
        have r12 : w2.cell? ⟨V, 3, none⟩ = some (.slice T m ct) := bV2.cell 3
        have r16 : w2.cell? ⟨V, 1, none⟩ = some (.int .i64 0) := bV2.cell 1
        try have hsA := ((src_one w1.drew (.int .i64 0) 3).alloc _).keep ((Keep.refl (fun k => (Value.slice M m cm).ownBlock = some k) _).grown hg2 (fun k hk => .inl hk)) (fun ad e h => by injection e with e; subst e; have := hMlt _ h; simp at this)
        try have hsB := (src_two w1.drew (.int .i64 0) (.int .i64 z) 3).keep ((Keep.refl (fun k => (Value.slice M m cm).ownBlock = some k) _).grown hg2 (fun k hk => .inl hk)) (fun ad e h => by injection e with e; subst e; have := hMlt _ h; simp at this; omega)
        have hM2 : ∀ k, (Value.slice M2 (m + 1) cm2).ownBlock = some k → base ≤ k ∧ (Value.slice T m ct).ownBlock ≠ some k := fun k e => by
          rcases hat2 with h | h
          · rw [h] at e; exact ⟨(hMlt k e).1, HW1.out.dj k e⟩
          · rw [h] at e
            injection e with e
            simp at e
            exact ⟨by omega, fun hk => by have := hTlt k hk; omega⟩
        clear hat2 _hold2 hg2
        refine hK _ _ (all_cons r16 (all_cons r12 all_nil)) ?_
        clear hK K
        try simp only [Act.put, List.setIfInBounds_toArray, List.set_cons_zero, List.set_cons_succ]
        refine At.call 17 (pend' := [(12, (fun w' => w'.cell? ⟨V, 3, none⟩ = some (.slice T m ct)))]) rfl (by kernel_rfl) rfl (by kernel_rfl) (fun K hK => ?_)   
        go_simp
        skip
        refine hK _ _ (all_cons (by (try exact keep1 q3); (try exact keep2 q3); (try exact keep1 r12)) all_nil) ?_
        clear hK K
        try simp only [Act.put, List.setIfInBounds_toArray, List.set_cons_zero, List.set_cons_succ]
        refine At.call 18 (pend' := []) rfl (by kernel_rfl) rfl (by kernel_rfl) (fun K hK => ?_)   
        refine wp_append_src _ (.tmp 56) (.tmp 61) _ rfl base 3 i0 _ 8 Try.underlying28 hi0 hj0 hj1 hj2 rfl (.slice T m ct) m ys rfl (by first | exact oT2 | exact oT2.alloc _) _ 1 1 [.int .i64 0] rfl (by first | exact src_one w2 _ _ | exact hsA | exact hsB) (by intro u hu; simp at hu; subst hu; rfl) (by simp only [maxLen]; omega) (by omega) (by have := kk.size; simp; omega) ?_
        intro v3 w3 hown3 hg3 hat3 _hold3
        obtain ⟨T3, ct3, rfl⟩ := own_form hown3
        have k3 : Keep (fun k => (Value.slice T m ct).ownBlock = some k) w2 w3 := by first | exact (Keep.refl _ w2).grown hg3 (fun k hk => .inl hk) | exact ((Keep.refl _ w2).alloc _).grown hg3 (fun k hk => .inl hk)
        have oM3 := own_keep hown2 k3 (fun k e hk => (hM2 k e).2 hk)
        have bV3 := bV2.keep k3 hVT
        have bG3 := bG2.keep k3 hGT
        have dj3 : ∀ j, (Value.slice M2 (m + 1) cm2).ownBlock = some j → (Value.slice T3 (m + 1) ct3).ownBlock ≠ some j := fun j e hk => by
          rcases hat3 with h | h
          · rw [h] at hk; exact (hM2 j e).2 hk
          · rw [h] at hk
            injection hk with hk
            obtain ⟨ad, e1, e2⟩ := own_blk e
            have := (own_lt_int hown2 ad e1).2
            try simp at hk
            omega
        have kW : Keep (fun j => base ≤ j ∨ j = V) w w3 := (HK1.out.trans kk (fun k hk e => .inl (hMlt k e).1)).trans k3 (fun k _ e => .inl (hTlt k e).1)
        have nM3 := own_ne oM3 bV3 (by decide)
        have nT3 := own_ne hown3 bV3 (by decide)
        have nVG : g ≠ V := Blk.ne_ bG3 bV3 (by decide)
        have HF := hid (fun (w5 : World) (cs : Array Value) (h5 : Keep (fun j => j = V) w3 w5) (b5 : Blk w5 V 36 cs) (e5 : cs = #[.slice (some ⟨g, 0, none⟩) 4 4, .int .i64 ((0 + 2 : Nat) : Int), .slice M2 (m + 1) cm2, .slice T3 (m + 1) ct3, .bool false]) => by
          subst e5
          exact (⟨⟨M2, cm2, T3, ct3, _, _, ⟨b5, bG3.keep h5 nVG, own_keep oM3 h5 (fun k e hk => nM3 (by rw [e, hk])), own_keep hown3 h5 (fun k e hk => nT3 (by rw [e, hk])), dj3⟩⟩, kW.trans h5 (fun _ _ h => .inr h)⟩ : (∃ M' cm' T' ct' xs' ys', Wk w5 base V g (0 + 2) (m + 1) M' cm' T' ct' xs' ys') ∧ Keep (fun j => base ≤ j ∨ j = V) w w5))
        have HB3 := hid bV3
        have e2 : w3.cell? ⟨V, 2, none⟩ = some (.slice M m cm) := bV3.cell 2
        have e3 : w3.cell? ⟨V, 3, none⟩ = some (.slice T m ct) := bV3.cell 3
        have e1 : w3.cell? ⟨V, 1, none⟩ = some (.int .i64 0) := bV3.cell 1
        have f1 := bV3.frozen 1
        have f2 := bV3.frozen 2
        have f3 := bV3.frozen 3
        clear oM3 bG3 dj3 kW nM3 nT3 hat3 _hold3 hg3 hown3 k3 bV3 bV2 bG2 oT2 hown2 hM2 kk r12 r16 q1 q2 q3
        refine hK _ _ all_nil ?_
        clear hK K
        try simp only [Act.put, List.setIfInBounds_toArray, List.set_cons_zero, List.set_cons_succ]
        refine At.pure 19 (some 63) (v := ?v19pcxx) rfl rfl (by kernel_rfl) (fun _ _ _ h => h) rfl (fun w' => ?y19pcxx) ?_   
        case y19pcxx => go_simp; try with_reducible rfl
        try simp only [Act.put, List.setIfInBounds_toArray, List.set_cons_zero, List.set_cons_succ]
        refine At.pure 20 (some 64) (v := ?v20pcxx) rfl rfl (by kernel_rfl) (fun _ _ _ h => h) rfl (fun w' => ?y20pcxx) ?_   
        case y20pcxx => go_simp; try with_reducible rfl
        try simp only [Act.put, List.setIfInBounds_toArray, List.set_cons_zero, List.set_cons_succ]
        refine At.call 21 (pend' := []) rfl (by kernel_rfl) rfl (by kernel_rfl) (fun K hK => ?_)   
        go_simp
        skip
        refine hK _ _ all_nil ?_
        clear hK K
        try simp only [Act.put, List.setIfInBounds_toArray, List.set_cons_zero, List.set_cons_succ]
        refine At.pure 22 (some 65) (v := ?v22pcxx) rfl rfl (by kernel_rfl) (fun _ _ _ h => h) rfl (fun w' => ?y22pcxx) ?_   
        case y22pcxx => go_simp; try with_reducible rfl
        try simp only [Act.put, List.setIfInBounds_toArray, List.set_cons_zero, List.set_cons_succ]
        refine At.pure 23 (some 66) (v := ?v23pcxx) rfl rfl (by kernel_rfl) (fun _ _ _ h => h) rfl (fun w' => ?y23pcxx) ?_   
        case y23pcxx => go_simp; try with_reducible rfl
        try simp only [Act.put, List.setIfInBounds_toArray, List.set_cons_zero, List.set_cons_succ]
        refine At.call 24 (pend' := []) rfl (by kernel_rfl) rfl (by kernel_rfl) (fun K hK => ?_)   
        go_simp
        skip
        refine hK _ _ all_nil ?_
        clear hK K
        try simp only [Act.put, List.setIfInBounds_toArray, List.set_cons_zero, List.set_cons_succ]
        refine At.done (by kernel_rfl) ?_
        go_wp2_with fail
        refine bodyPost_ret (v := .tuple #[.int .i64 z, .bool true]) (by simp [results, Try.results14, go_sem]) rfl ⟨rfl, ?_⟩
        apply HF.out
        · with_reducible (repeat (first | refine Keep.drew ?_ | refine Keep.setR ?_ _ _ | exact Keep.refl _ _))
        · with_reducible (repeat (first | apply Blk.drew | apply Blk.set_ | exact HB3.out))
        · first | rfl | simp
      · skip
        go_simp
        skip
        refine hK _ _ (all_cons (by (try exact keep1 q3); (try exact keep2 q3); (try exact keep1 r12)) (all_cons (by (try exact keep1 q2); (try exact keep2 q2)) all_nil)) ?_
        clear hK K
        try simp only [Act.put, List.setIfInBounds_toArray, List.set_cons_zero, List.set_cons_succ]
        refine At.call 8 (pend' := [(12, (fun w' => w'.cell? ⟨V, 3, none⟩ = some (.slice T m ct)))]) rfl (by kernel_rfl) rfl (by kernel_rfl) (fun K hK => ?_)   
        refine wp_append_src _ (.tmp 49) (.tmp 51) _ rfl base 3 i0 _ 8 Try.underlying28 hi0 hj0 hj1 hj2 rfl (.slice M m cm) m xs rfl (by first | exact HW1.out.oM.drew.alloc _ | exact (HW1.out.oM.drew.alloc _).alloc _) _ 1 1 [.int .i64 z] rfl (by first | exact src_one w1.drew _ _ | exact (src_one w1.drew _ _).alloc _ | exact src_two w1.drew _ _ _) (by intro u hu; simp at hu; subst hu; rfl) (by simp only [maxLen]; omega) (by omega) (by simp; omega) ?_
        intro v2 w2 hown2 hg2 hat2 _hold2
        obtain ⟨M2, cm2, rfl⟩ := own_form hown2
        have kk : Keep (fun k => (Value.slice M m cm).ownBlock = some k) w1 w2 := by first | exact (((Keep.refl _ w1).drew).alloc _).grown hg2 (fun k hk => .inl hk) | exact ((((Keep.refl _ w1).drew).alloc _).alloc _).grown hg2 (fun k hk => .inl hk)
        have oT2 := own_keep HW1.out.oT kk (fun k e hk => HW1.out.dj k hk e)
        have bV2 := HW1.out.blk.keep kk hVM
        have bG2 := HW1.out.buf.keep kk hGM
        have r12 : w2.cell? ⟨V, 3, none⟩ = some (.slice T m ct) := bV2.cell 3
        have r16 : w2.cell? ⟨V, 1, none⟩ = some (.int .i64 0) := bV2.cell 1
        try have hsA := ((src_one w1.drew (.int .i64 0) 3).alloc _).keep ((Keep.refl (fun k => (Value.slice M m cm).ownBlock = some k) _).grown hg2 (fun k hk => .inl hk)) (fun ad e h => by injection e with e; subst e; have := hMlt _ h; simp at this)
        try have hsB := (src_two w1.drew (.int .i64 0) (.int .i64 z) 3).keep ((Keep.refl (fun k => (Value.slice M m cm).ownBlock = some k) _).grown hg2 (fun k hk => .inl hk)) (fun ad e h => by injection e with e; subst e; have := hMlt _ h; simp at this; omega)
        have hM2 : ∀ k, (Value.slice M2 (m + 1) cm2).ownBlock = some k → base ≤ k ∧ (Value.slice T m ct).ownBlock ≠ some k := fun k e => by
          rcases hat2 with h | h
          · rw [h] at e; exact ⟨(hMlt k e).1, HW1.out.dj k e⟩
          · rw [h] at e
            injection e with e
            simp at e
            exact ⟨by omega, fun hk => by have := hTlt k hk; omega⟩
        clear hat2 _hold2 hg2
        refine hK _ _ (all_cons r12 all_nil) ?_
        clear hK K
        try simp only [Act.put, List.setIfInBounds_toArray, List.set_cons_zero, List.set_cons_succ]
        refine At.call 18 (pend' := []) rfl (by kernel_rfl) rfl (by kernel_rfl) (fun K hK => ?_)   
        refine wp_append_src _ (.tmp 56) (.tmp 61) _ rfl base 3 i0 _ 8 Try.underlying28 hi0 hj0 hj1 hj2 rfl (.slice T m ct) m ys rfl (by first | exact oT2 | exact oT2.alloc _) _ 1 1 [.int .i64 0] rfl (by first | exact src_one w2 _ _ | exact hsA | exact hsB) (by intro u hu; simp at hu; subst hu; rfl) (by simp only [maxLen]; omega) (by omega) (by have := kk.size; simp; omega) ?_
        intro v3 w3 hown3 hg3 hat3 _hold3
        obtain ⟨T3, ct3, rfl⟩ := own_form hown3
        have k3 : Keep (fun k => (Value.slice T m ct).ownBlock = some k) w2 w3 := by first | exact (Keep.refl _ w2).grown hg3 (fun k hk => .inl hk) | exact ((Keep.refl _ w2).alloc _).grown hg3 (fun k hk => .inl hk)
        have oM3 := own_keep hown2 k3 (fun k e hk => (hM2 k e).2 hk)
        have bV3 := bV2.keep k3 hVT
        have bG3 := bG2.keep k3 hGT
        have dj3 : ∀ j, (Value.slice M2 (m + 1) cm2).ownBlock = some j → (Value.slice T3 (m + 1) ct3).ownBlock ≠ some j := fun j e hk => by
          rcases hat3 with h | h
          · rw [h] at hk; exact (hM2 j e).2 hk
          · rw [h] at hk
            injection hk with hk
            obtain ⟨ad, e1, e2⟩ := own_blk e
            have := (own_lt_int hown2 ad e1).2
            try simp at hk
            omega
        have kW : Keep (fun j => base ≤ j ∨ j = V) w w3 := (HK1.out.trans kk (fun k hk e => .inl (hMlt k e).1)).trans k3 (fun k _ e => .inl (hTlt k e).1)
        have nM3 := own_ne oM3 bV3 (by decide)
        have nT3 := own_ne hown3 bV3 (by decide)
        have nVG : g ≠ V := Blk.ne_ bG3 bV3 (by decide)
        have HF := hid (fun (w5 : World) (cs : Array Value) (h5 : Keep (fun j => j = V) w3 w5) (b5 : Blk w5 V 36 cs) (e5 : cs = #[.slice (some ⟨g, 0, none⟩) 4 4, .int .i64 ((0 + 2 : Nat) : Int), .slice M2 (m + 1) cm2, .slice T3 (m + 1) ct3, .bool false]) => by
          subst e5
          exact (⟨⟨M2, cm2, T3, ct3, _, _, ⟨b5, bG3.keep h5 nVG, own_keep oM3 h5 (fun k e hk => nM3 (by rw [e, hk])), own_keep hown3 h5 (fun k e hk => nT3 (by rw [e, hk])), dj3⟩⟩, kW.trans h5 (fun _ _ h => .inr h)⟩ : (∃ M' cm' T' ct' xs' ys', Wk w5 base V g (0 + 2) (m + 1) M' cm' T' ct' xs' ys') ∧ Keep (fun j => base ≤ j ∨ j = V) w w5))
        have HB3 := hid bV3
        have e2 : w3.cell? ⟨V, 2, none⟩ = some (.slice M m cm) := bV3.cell 2
        have e3 : w3.cell? ⟨V, 3, none⟩ = some (.slice T m ct) := bV3.cell 3
        have e1 : w3.cell? ⟨V, 1, none⟩ = some (.int .i64 0) := bV3.cell 1
        have f1 := bV3.frozen 1
        have f2 := bV3.frozen 2
        have f3 := bV3.frozen 3
        clear oM3 bG3 dj3 kW nM3 nT3 hat3 _hold3 hg3 hown3 k3 bV3 bV2 bG2 oT2 hown2 hM2 kk r12 r16 q1 q2 q3
        refine hK _ _ all_nil ?_
        clear hK K
        try simp only [Act.put, List.setIfInBounds_toArray, List.set_cons_zero, List.set_cons_succ]
        refine At.pure 19 (some 63) (v := ?v19pcxy) rfl rfl (by kernel_rfl) (fun _ _ _ h => h) rfl (fun w' => ?y19pcxy) ?_   
        case y19pcxy => go_simp; try with_reducible rfl
        try simp only [Act.put, List.setIfInBounds_toArray, List.set_cons_zero, List.set_cons_succ]
        refine At.pure 20 (some 64) (v := ?v20pcxy) rfl rfl (by kernel_rfl) (fun _ _ _ h => h) rfl (fun w' => ?y20pcxy) ?_   
        case y20pcxy => go_simp; try with_reducible rfl
        try simp only [Act.put, List.setIfInBounds_toArray, List.set_cons_zero, List.set_cons_succ]
        refine At.call 21 (pend' := []) rfl (by kernel_rfl) rfl (by kernel_rfl) (fun K hK => ?_)   
        go_simp
        skip
        refine hK _ _ all_nil ?_
        clear hK K
        try simp only [Act.put, List.setIfInBounds_toArray, List.set_cons_zero, List.set_cons_succ]
        refine At.pure 22 (some 65) (v := ?v22pcxy) rfl rfl (by kernel_rfl) (fun _ _ _ h => h) rfl (fun w' => ?y22pcxy) ?_   
        case y22pcxy => go_simp; try with_reducible rfl
        try simp only [Act.put, List.setIfInBounds_toArray, List.set_cons_zero, List.set_cons_succ]
        refine At.pure 23 (some 66) (v := ?v23pcxy) rfl rfl (by kernel_rfl) (fun _ _ _ h => h) rfl (fun w' => ?y23pcxy) ?_   
        case y23pcxy => go_simp; try with_reducible rfl
        try simp only [Act.put, List.setIfInBounds_toArray, List.set_cons_zero, List.set_cons_succ]
        refine At.call 24 (pend' := []) rfl (by kernel_rfl) rfl (by kernel_rfl) (fun K hK => ?_)   
        go_simp
        skip
        refine hK _ _ all_nil ?_
        clear hK K
        try simp only [Act.put, List.setIfInBounds_toArray, List.set_cons_zero, List.set_cons_succ]
        refine At.done (by kernel_rfl) ?_
        go_wp2_with fail
        refine bodyPost_ret (v := .tuple #[.int .i64 z, .bool true]) (by simp [results, Try.results14, go_sem]) rfl ⟨rfl, ?_⟩
        apply HF.out
        · with_reducible (repeat (first | refine Keep.drew ?_ | refine Keep.setR ?_ _ _ | exact Keep.refl _ _))
        · with_reducible (repeat (first | apply Blk.drew | apply Blk.set_ | exact HB3.out))
        · first | rfl | simp
    · skip
      go_simp
      skip
      refine hK _ _ (all_cons (by (try exact keep1 q3); (try exact keep2 q3); (try exact keep1 r12)) (all_cons (by (try exact keep1 q2); (try exact keep2 q2)) all_nil)) ?_
      clear hK K
      try simp only [Act.put, List.setIfInBounds_toArray, List.set_cons_zero, List.set_cons_succ]
      refine At.call 7 (pend' := [(12, (fun w' => w'.cell? ⟨V, 3, none⟩ = some (.slice T m ct))), (5, (fun w' => w'.cell? ⟨V, 2, none⟩ = some (.slice M m cm)))]) rfl (by kernel_rfl) rfl (by kernel_rfl) (fun K hK => ?_)   
      go_simp
      skip
      refine hK _ _ (all_cons (by (try exact keep1 q3); (try exact keep2 q3)) (all_cons (by (try exact keep1 q2); (try exact keep2 q2)) all_nil)) ?_
      clear hK K
      try simp only [Act.put, List.setIfInBounds_toArray, List.set_cons_zero, List.set_cons_succ]
      refine At.call 8 (pend' := [(12, (fun w' => w'.cell? ⟨V, 3, none⟩ = some (.slice T m ct)))]) rfl (by kernel_rfl) rfl (by kernel_rfl) (fun K hK => ?_)   
      refine wp_append_src _ (.tmp 49) (.tmp 51) _ rfl base 3 i0 _ 8 Try.underlying28 hi0 hj0 hj1 hj2 rfl (.slice M m cm) m xs rfl (by first | exact HW1.out.oM.drew.alloc _ | exact (HW1.out.oM.drew.alloc _).alloc _) _ 1 1 [.int .i64 z] rfl (by first | exact src_one w1.drew _ _ | exact (src_one w1.drew _ _).alloc _ | exact src_two w1.drew _ _ _) (by intro u hu; simp at hu; subst hu; rfl) (by simp only [maxLen]; omega) (by omega) (by simp; omega) ?_
      intro v2 w2 hown2 hg2 hat2 _hold2
      obtain ⟨M2, cm2, rfl⟩ := own_form hown2
      have kk : Keep (fun k => (Value.slice M m cm).ownBlock = some k) w1 w2 := by first | exact (((Keep.refl _ w1).drew).alloc _).grown hg2 (fun k hk => .inl hk) | exact ((((Keep.refl _ w1).drew).alloc _).alloc _).grown hg2 (fun k hk => .inl hk)
      have oT2 := own_keep HW1.out.oT kk (fun k e hk => HW1.out.dj k hk e)
      have bV2 := HW1.out.blk.keep kk hVM
      have bG2 := HW1.out.buf.keep kk hGM
      have r12 : w2.cell? ⟨V, 3, none⟩ = some (.slice T m ct) := bV2.cell 3
      have r16 : w2.cell? ⟨V, 1, none⟩ = some (.int .i64 0) := bV2.cell 1
      try have hsA := ((src_one w1.drew (.int .i64 0) 3).alloc _).keep ((Keep.refl (fun k => (Value.slice M m cm).ownBlock = some k) _).grown hg2 (fun k hk => .inl hk)) (fun ad e h => by injection e with e; subst e; have := hMlt _ h; simp at this)
      try have hsB := (src_two w1.drew (.int .i64 0) (.int .i64 z) 3).keep ((Keep.refl (fun k => (Value.slice M m cm).ownBlock = some k) _).grown hg2 (fun k hk => .inl hk)) (fun ad e h => by injection e with e; subst e; have := hMlt _ h; simp at this; omega)
      have hM2 : ∀ k, (Value.slice M2 (m + 1) cm2).ownBlock = some k → base ≤ k ∧ (Value.slice T m ct).ownBlock ≠ some k := fun k e => by
        rcases hat2 with h | h
        · rw [h] at e; exact ⟨(hMlt k e).1, HW1.out.dj k e⟩
        · rw [h] at e
          injection e with e
          simp at e
          exact ⟨by omega, fun hk => by have := hTlt k hk; omega⟩
      clear hat2 _hold2 hg2
      refine hK _ _ (all_cons r12 all_nil) ?_
      clear hK K
      try simp only [Act.put, List.setIfInBounds_toArray, List.set_cons_zero, List.set_cons_succ]
      refine At.call 18 (pend' := []) rfl (by kernel_rfl) rfl (by kernel_rfl) (fun K hK => ?_)   
      refine wp_append_src _ (.tmp 56) (.tmp 61) _ rfl base 3 i0 _ 8 Try.underlying28 hi0 hj0 hj1 hj2 rfl (.slice T m ct) m ys rfl (by first | exact oT2 | exact oT2.alloc _) _ 1 1 [.int .i64 0] rfl (by first | exact src_one w2 _ _ | exact hsA | exact hsB) (by intro u hu; simp at hu; subst hu; rfl) (by simp only [maxLen]; omega) (by omega) (by have := kk.size; simp; omega) ?_
      intro v3 w3 hown3 hg3 hat3 _hold3
      obtain ⟨T3, ct3, rfl⟩ := own_form hown3
      have k3 : Keep (fun k => (Value.slice T m ct).ownBlock = some k) w2 w3 := by first | exact (Keep.refl _ w2).grown hg3 (fun k hk => .inl hk) | exact ((Keep.refl _ w2).alloc _).grown hg3 (fun k hk => .inl hk)
      have oM3 := own_keep hown2 k3 (fun k e hk => (hM2 k e).2 hk)
      have bV3 := bV2.keep k3 hVT
      have bG3 := bG2.keep k3 hGT
      have dj3 : ∀ j, (Value.slice M2 (m + 1) cm2).ownBlock = some j → (Value.slice T3 (m + 1) ct3).ownBlock ≠ some j := fun j e hk => by
        rcases hat3 with h | h
        · rw [h] at hk; exact (hM2 j e).2 hk
        · rw [h] at hk
          injection hk with hk
          obtain ⟨ad, e1, e2⟩ := own_blk e
          have := (own_lt_int hown2 ad e1).2
          try simp at hk
          omega
      have kW : Keep (fun j => base ≤ j ∨ j = V) w w3 := (HK1.out.trans kk (fun k hk e => .inl (hMlt k e).1)).trans k3 (fun k _ e => .inl (hTlt k e).1)
      have nM3 := own_ne oM3 bV3 (by decide)
      have nT3 := own_ne hown3 bV3 (by decide)
      have nVG : g ≠ V := Blk.ne_ bG3 bV3 (by decide)
      have HF := hid (fun (w5 : World) (cs : Array Value) (h5 : Keep (fun j => j = V) w3 w5) (b5 : Blk w5 V 36 cs) (e5 : cs = #[.slice (some ⟨g, 0, none⟩) 4 4, .int .i64 ((0 + 2 : Nat) : Int), .slice M2 (m + 1) cm2, .slice T3 (m + 1) ct3, .bool false]) => by
        subst e5
        exact (⟨⟨M2, cm2, T3, ct3, _, _, ⟨b5, bG3.keep h5 nVG, own_keep oM3 h5 (fun k e hk => nM3 (by rw [e, hk])), own_keep hown3 h5 (fun k e hk => nT3 (by rw [e, hk])), dj3⟩⟩, kW.trans h5 (fun _ _ h => .inr h)⟩ : (∃ M' cm' T' ct' xs' ys', Wk w5 base V g (0 + 2) (m + 1) M' cm' T' ct' xs' ys') ∧ Keep (fun j => base ≤ j ∨ j = V) w w5))
      have HB3 := hid bV3
      have e2 : w3.cell? ⟨V, 2, none⟩ = some (.slice M m cm) := bV3.cell 2
      have e3 : w3.cell? ⟨V, 3, none⟩ = some (.slice T m ct) := bV3.cell 3
      have e1 : w3.cell? ⟨V, 1, none⟩ = some (.int .i64 0) := bV3.cell 1
      have f1 := bV3.frozen 1
      have f2 := bV3.frozen 2
      have f3 := bV3.frozen 3
      clear oM3 bG3 dj3 kW nM3 nT3 hat3 _hold3 hg3 hown3 k3 bV3 bV2 bG2 oT2 hown2 hM2 kk r12 r16 q1 q2 q3
      refine hK _ _ all_nil ?_
      clear hK K
      try simp only [Act.put, List.setIfInBounds_toArray, List.set_cons_zero, List.set_cons_succ]
      refine At.pure 19 (some 63) (v := ?v19pcy) rfl rfl (by kernel_rfl) (fun _ _ _ h => h) rfl (fun w' => ?y19pcy) ?_   
      case y19pcy => go_simp; try with_reducible rfl
      try simp only [Act.put, List.setIfInBounds_toArray, List.set_cons_zero, List.set_cons_succ]
      refine At.pure 20 (some 64) (v := ?v20pcy) rfl rfl (by kernel_rfl) (fun _ _ _ h => h) rfl (fun w' => ?y20pcy) ?_   
      case y20pcy => go_simp; try with_reducible rfl
      try simp only [Act.put, List.setIfInBounds_toArray, List.set_cons_zero, List.set_cons_succ]
      refine At.call 21 (pend' := []) rfl (by kernel_rfl) rfl (by kernel_rfl) (fun K hK => ?_)   
      go_simp
      skip
      refine hK _ _ all_nil ?_
      clear hK K
      try simp only [Act.put, List.setIfInBounds_toArray, List.set_cons_zero, List.set_cons_succ]
      refine At.pure 22 (some 65) (v := ?v22pcy) rfl rfl (by kernel_rfl) (fun _ _ _ h => h) rfl (fun w' => ?y22pcy) ?_   
      case y22pcy => go_simp; try with_reducible rfl
      try simp only [Act.put, List.setIfInBounds_toArray, List.set_cons_zero, List.set_cons_succ]
      refine At.pure 23 (some 66) (v := ?v23pcy) rfl rfl (by kernel_rfl) (fun _ _ _ h => h) rfl (fun w' => ?y23pcy) ?_   
      case y23pcy => go_simp; try with_reducible rfl
      try simp only [Act.put, List.setIfInBounds_toArray, List.set_cons_zero, List.set_cons_succ]
      refine At.call 24 (pend' := []) rfl (by kernel_rfl) rfl (by kernel_rfl) (fun K hK => ?_)   
      go_simp
      skip
      refine hK _ _ all_nil ?_
      clear hK K
      try simp only [Act.put, List.setIfInBounds_toArray, List.set_cons_zero, List.set_cons_succ]
      refine At.done (by kernel_rfl) ?_
      go_wp2_with fail
      refine bodyPost_ret (v := .tuple #[.int .i64 z, .bool true]) (by simp [results, Try.results14, go_sem]) rfl ⟨rfl, ?_⟩
      apply HF.out
      · with_reducible (repeat (first | refine Keep.drew ?_ | refine Keep.setR ?_ _ _ | exact Keep.refl _ _))
      · with_reducible (repeat (first | apply Blk.drew | apply Blk.set_ | exact HB3.out))
      · first | rfl | simp
  · skip
    have HW := hid h
    have c0 : w.cell? ⟨V, 0, none⟩ = some (.slice (some ⟨g, 0, none⟩) 4 4) := h.blk.cell 0
    have c1 : w.cell? ⟨V, 1, none⟩ = some (.int .i64 2) := h.blk.cell 1
    have c2 : w.cell? ⟨V, 2, none⟩ = some (.slice M m cm) := h.blk.cell 2
    have c3 : w.cell? ⟨V, 3, none⟩ = some (.slice T m ct) := h.blk.cell 3
    have b0 : w.cell? ⟨g, 2, none⟩ = some (.int .u8 255) := h.buf.cell 2
    have b1 : w.cell? ⟨g, 3, none⟩ = some (.int .u8 217) := h.buf.cell (2 + 1)
    have HN := hid (fun (w' : World) (h0 : w'.cell? ⟨g, 2, none⟩ = some (.int .u8 255)) (h1 : w'.cell? ⟨g, 3, none⟩ = some (.int .u8 217)) => number_two w' g 2 2 217 z (.inr rfl) hz h0 h1)
    clear h hz
    go_enter Try.func14, Try.ntmps14
    go_wp2_with fail
    -- region 1: 24 operations
    refine At.start (L := #[false, false, false, false, false, false, false, false, false, false, false, false, false, false, false, false, false, false, false, false, false, false, false, false]) (by kernel_rfl) rfl ?_
    refine At.pure 0 (some 5) (v := ?v0qa) rfl rfl (by kernel_rfl) (fun _ _ _ h => h) rfl (fun w' => ?y0qa) ?_   
    case y0qa => go_simp; try with_reducible rfl
    try simp only [Act.put, List.setIfInBounds_toArray, List.set_cons_zero, List.set_cons_succ]
    refine At.pure 1 (some 6) (v := ?v1qa) rfl rfl (by kernel_rfl) (fun _ _ _ h => h) rfl (fun w' => ?y1qa) ?_   
    case y1qa => go_simp; try with_reducible rfl
    try simp only [Act.put, List.setIfInBounds_toArray, List.set_cons_zero, List.set_cons_succ]
    refine At.pure 2 (some 7) (v := ?v2qa) rfl rfl (by kernel_rfl) (fun _ _ _ h => h) rfl (fun w' => ?y2qa) ?_   
    case y2qa => go_simp; try with_reducible rfl
    try simp only [Act.put, List.setIfInBounds_toArray, List.set_cons_zero, List.set_cons_succ]
    refine At.read 3 (some 8) (fun w' => w'.cell? ⟨V, 0, none⟩ = some (.slice (some ⟨g, 0, none⟩) 4 4)) (v := ?v3qa) rfl rfl (by kernel_rfl) (fun _ _ _ h => h) rfl c0 (fun w' hw' => ?y3qa) ?_   
    case y3qa => skip; go_simp; try with_reducible rfl
    try simp only [Act.put, List.setIfInBounds_toArray, List.set_cons_zero, List.set_cons_succ]
    refine At.pure 4 (some 9) (v := ?v4qa) rfl rfl (by kernel_rfl) (fun _ _ _ h => h) rfl (fun w' => ?y4qa) ?_   
    case y4qa => go_simp; try with_reducible rfl
    try simp only [Act.put, List.setIfInBounds_toArray, List.set_cons_zero, List.set_cons_succ]
    refine At.pure 5 (some 10) (v := ?v5qa) rfl rfl (by kernel_rfl) (fun _ _ _ h => h) rfl (fun w' => ?y5qa) ?_   
    case y5qa => go_simp; try with_reducible rfl
    try simp only [Act.put, List.setIfInBounds_toArray, List.set_cons_zero, List.set_cons_succ]
    refine At.pure 6 (some 11) (v := ?v6qa) rfl rfl (by kernel_rfl) (fun _ _ _ h => h) rfl (fun w' => ?y6qa) ?_   
    case y6qa => go_simp; try with_reducible rfl
    try simp only [Act.put, List.setIfInBounds_toArray, List.set_cons_zero, List.set_cons_succ]
    refine At.pure 7 (some 12) (v := ?v7qa) rfl rfl (by kernel_rfl) (fun _ _ _ h => h) rfl (fun w' => ?y7qa) ?_   
    case y7qa => go_simp; try with_reducible rfl
    try simp only [Act.put, List.setIfInBounds_toArray, List.set_cons_zero, List.set_cons_succ]
    refine At.read 8 (some 13) (fun w' => w'.cell? ⟨V, 1, none⟩ = some (.int .i64 2)) (v := ?v8qa) rfl rfl (by kernel_rfl) (fun _ _ _ h => h) rfl c1 (fun w' hw' => ?y8qa) ?_   
    case y8qa => skip; go_simp; try with_reducible rfl
    try simp only [Act.put, List.setIfInBounds_toArray, List.set_cons_zero, List.set_cons_succ]
    refine At.pure 9 (some 14) (v := ?v9qa) rfl rfl (by kernel_rfl) (fun _ _ _ h => h) rfl (fun w' => ?y9qa) ?_   
    case y9qa => go_simp; try with_reducible rfl
    try simp only [Act.put, List.setIfInBounds_toArray, List.set_cons_zero, List.set_cons_succ]
    refine At.pure 10 (some 15) (v := ?v10qa) rfl rfl (by kernel_rfl) (fun _ _ _ h => h) rfl (fun w' => ?y10qa) ?_   
    case y10qa => go_simp; try with_reducible rfl
    try simp only [Act.put, List.setIfInBounds_toArray, List.set_cons_zero, List.set_cons_succ]
    refine At.pure 11 (some 16) (v := ?v11qa) rfl rfl (by kernel_rfl) (fun _ _ _ h => h) rfl (fun w' => ?y11qa) ?_   
    case y11qa => go_simp; try with_reducible rfl
    try simp only [Act.put, List.setIfInBounds_toArray, List.set_cons_zero, List.set_cons_succ]
    refine At.pure 12 (some 17) (v := ?v12qa) rfl rfl (by kernel_rfl) (fun _ _ _ h => h) rfl (fun w' => ?y12qa) ?_   
    case y12qa => go_simp; try with_reducible rfl
    try simp only [Act.put, List.setIfInBounds_toArray, List.set_cons_zero, List.set_cons_succ]
    refine At.pure 13 (some 18) (v := ?v13qa) rfl rfl (by kernel_rfl) (fun _ _ _ h => h) rfl (fun w' => ?y13qa) ?_   
    case y13qa => go_simp; try with_reducible rfl
    try simp only [Act.put, List.setIfInBounds_toArray, List.set_cons_zero, List.set_cons_succ]
    refine At.pure 14 (some 19) (v := ?v14qa) rfl rfl (by kernel_rfl) (fun _ _ _ h => h) rfl (fun w' => ?y14qa) ?_   
    case y14qa => go_simp; try with_reducible rfl
    try simp only [Act.put, List.setIfInBounds_toArray, List.set_cons_zero, List.set_cons_succ]
    refine At.read 15 (some 20) (fun w' => w'.cell? ⟨V, 0, none⟩ = some (.slice (some ⟨g, 0, none⟩) 4 4)) (v := ?v15qa) rfl rfl (by kernel_rfl) (fun _ _ _ h => h) rfl c0 (fun w' hw' => ?y15qa) ?_   
    case y15qa => skip; go_simp; try with_reducible rfl
    try simp only [Act.put, List.setIfInBounds_toArray, List.set_cons_zero, List.set_cons_succ]
    refine At.pure 16 (some 21) (v := ?v16qa) rfl rfl (by kernel_rfl) (fun _ _ _ h => h) rfl (fun w' => ?y16qa) ?_   
    case y16qa => go_simp; try with_reducible rfl
    try simp only [Act.put, List.setIfInBounds_toArray, List.set_cons_zero, List.set_cons_succ]
    refine At.pure 17 (some 22) (v := ?v17qa) rfl rfl (by kernel_rfl) (fun _ _ _ h => h) rfl (fun w' => ?y17qa) ?_   
    case y17qa => go_simp; try with_reducible rfl
    try simp only [Act.put, List.setIfInBounds_toArray, List.set_cons_zero, List.set_cons_succ]
    refine At.pure 18 (some 23) (v := ?v18qa) rfl rfl (by kernel_rfl) (fun _ _ _ h => h) rfl (fun w' => ?y18qa) ?_   
    case y18qa => go_simp; try with_reducible rfl
    try simp only [Act.put, List.setIfInBounds_toArray, List.set_cons_zero, List.set_cons_succ]
    refine At.read 19 (some 24) (fun w' => w'.cell? ⟨V, 1, none⟩ = some (.int .i64 2)) (v := ?v19qa) rfl rfl (by kernel_rfl) (fun _ _ _ h => h) rfl c1 (fun w' hw' => ?y19qa) ?_   
    case y19qa => skip; go_simp; try with_reducible rfl
    try simp only [Act.put, List.setIfInBounds_toArray, List.set_cons_zero, List.set_cons_succ]
    refine At.pure 20 (some 25) (v := ?v20qa) rfl rfl (by kernel_rfl) (fun _ _ _ h => h) rfl (fun w' => ?y20qa) ?_   
    case y20qa => go_simp; try with_reducible rfl
    try simp only [Act.put, List.setIfInBounds_toArray, List.set_cons_zero, List.set_cons_succ]
    refine At.read 21 (some 26) (fun w' => w'.cell? ⟨g, 2, none⟩ = some (.int .u8 255)) (v := ?v21qa) rfl rfl (by kernel_rfl) (fun _ _ _ h => h) rfl b0 (fun w' hw' => ?y21qa) ?_   
    case y21qa => skip; go_simp; try with_reducible rfl
    try simp only [Act.put, List.setIfInBounds_toArray, List.set_cons_zero, List.set_cons_succ]
    refine At.pure 22 (some 27) (v := ?v22qa) rfl rfl (by kernel_rfl) (fun _ _ _ h => h) rfl (fun w' => ?y22qa) ?_   
    case y22qa => go_simp; try with_reducible rfl
    try simp only [Act.put, List.setIfInBounds_toArray, List.set_cons_zero, List.set_cons_succ]
    refine At.pure 23 (some 28) (v := ?v23qa) rfl rfl (by kernel_rfl) (fun _ _ _ h => h) rfl (fun w' => ?y23qa) ?_   
    case y23qa => go_simp; try with_reducible rfl
    try simp only [Act.put, List.setIfInBounds_toArray, List.set_cons_zero, List.set_cons_succ]
    refine At.done (by kernel_rfl) ?_
    go_wp2_with fail
    -- region 3: 16 operations
    refine At.start (L := #[false, false, false, false, false, false, false, false, false, false, false, false, false, false, false, false]) (by kernel_rfl) rfl ?_
    refine At.pure 0 (some 29) (v := ?v0qb) rfl rfl (by kernel_rfl) (fun _ _ _ h => h) rfl (fun w' => ?y0qb) ?_   
    case y0qb => go_simp; try with_reducible rfl
    try simp only [Act.put, List.setIfInBounds_toArray, List.set_cons_zero, List.set_cons_succ]
    refine At.pure 1 (some 30) (v := ?v1qb) rfl rfl (by kernel_rfl) (fun _ _ _ h => h) rfl (fun w' => ?y1qb) ?_   
    case y1qb => go_simp; try with_reducible rfl
    try simp only [Act.put, List.setIfInBounds_toArray, List.set_cons_zero, List.set_cons_succ]
    refine At.pure 2 (some 31) (v := ?v2qb) rfl rfl (by kernel_rfl) (fun _ _ _ h => h) rfl (fun w' => ?y2qb) ?_   
    case y2qb => go_simp; try with_reducible rfl
    try simp only [Act.put, List.setIfInBounds_toArray, List.set_cons_zero, List.set_cons_succ]
    refine At.read 3 (some 32) (fun w' => w'.cell? ⟨V, 0, none⟩ = some (.slice (some ⟨g, 0, none⟩) 4 4)) (v := ?v3qb) rfl rfl (by kernel_rfl) (fun _ _ _ h => h) rfl c0 (fun w' hw' => ?y3qb) ?_   
    case y3qb => skip; go_simp; try with_reducible rfl
    try simp only [Act.put, List.setIfInBounds_toArray, List.set_cons_zero, List.set_cons_succ]
    refine At.pure 4 (some 33) (v := ?v4qb) rfl rfl (by kernel_rfl) (fun _ _ _ h => h) rfl (fun w' => ?y4qb) ?_   
    case y4qb => go_simp; try with_reducible rfl
    try simp only [Act.put, List.setIfInBounds_toArray, List.set_cons_zero, List.set_cons_succ]
    refine At.pure 5 (some 34) (v := ?v5qb) rfl rfl (by kernel_rfl) (fun _ _ _ h => h) rfl (fun w' => ?y5qb) ?_   
    case y5qb => go_simp; try with_reducible rfl
    try simp only [Act.put, List.setIfInBounds_toArray, List.set_cons_zero, List.set_cons_succ]
    refine At.pure 6 (some 35) (v := ?v6qb) rfl rfl (by kernel_rfl) (fun _ _ _ h => h) rfl (fun w' => ?y6qb) ?_   
    case y6qb => go_simp; try with_reducible rfl
    try simp only [Act.put, List.setIfInBounds_toArray, List.set_cons_zero, List.set_cons_succ]
    refine At.read 7 (some 36) (fun w' => w'.cell? ⟨V, 1, none⟩ = some (.int .i64 2)) (v := ?v7qb) rfl rfl (by kernel_rfl) (fun _ _ _ h => h) rfl c1 (fun w' hw' => ?y7qb) ?_   
    case y7qb => skip; go_simp; try with_reducible rfl
    try simp only [Act.put, List.setIfInBounds_toArray, List.set_cons_zero, List.set_cons_succ]
    refine At.pure 8 (some 37) (v := ?v8qb) rfl rfl (by kernel_rfl) (fun _ _ _ h => h) rfl (fun w' => ?y8qb) ?_   
    case y8qb => go_simp; try with_reducible rfl
    try simp only [Act.put, List.setIfInBounds_toArray, List.set_cons_zero, List.set_cons_succ]
    refine At.pure 9 (some 38) (v := ?v9qb) rfl rfl (by kernel_rfl) (fun _ _ _ h => h) rfl (fun w' => ?y9qb) ?_   
    case y9qb => go_simp; try with_reducible rfl
    try simp only [Act.put, List.setIfInBounds_toArray, List.set_cons_zero, List.set_cons_succ]
    refine At.pure 10 (some 39) (v := ?v10qb) rfl rfl (by kernel_rfl) (fun _ _ _ h => h) rfl (fun w' => ?y10qb) ?_   
    case y10qb => go_simp; try with_reducible rfl
    try simp only [Act.put, List.setIfInBounds_toArray, List.set_cons_zero, List.set_cons_succ]
    refine At.read 11 (some 40) (fun w' => w'.cell? ⟨V, 1, none⟩ = some (.int .i64 2)) (v := ?v11qb) rfl rfl (by kernel_rfl) (fun _ _ _ h => h) rfl c1 (fun w' hw' => ?y11qb) ?_   
    case y11qb => skip; go_simp; try with_reducible rfl
    try simp only [Act.put, List.setIfInBounds_toArray, List.set_cons_zero, List.set_cons_succ]
    refine At.pure 12 (some 41) (v := ?v12qb) rfl rfl (by kernel_rfl) (fun _ _ _ h => h) rfl (fun w' => ?y12qb) ?_   
    case y12qb => go_simp; try with_reducible rfl
    try simp only [Act.put, List.setIfInBounds_toArray, List.set_cons_zero, List.set_cons_succ]
    refine At.pure 13 (some 42) (v := ?v13qb) rfl rfl (by kernel_rfl) (fun _ _ _ h => h) rfl (fun w' => ?y13qb) ?_   
    case y13qb => go_simp; try with_reducible rfl
    try simp only [Act.put, List.setIfInBounds_toArray, List.set_cons_zero, List.set_cons_succ]
    refine At.call 14 (pend' := []) rfl (by kernel_rfl) rfl (by kernel_rfl) (fun K hK => ?_)   
    go_simp
    refine (HN.out w.drew.drew b0 b1).mono ?_
    rintro e w2 ⟨rfl, rfl⟩
    refine hK _ _ all_nil ?_
    clear hK K
    try simp only [Act.put, List.setIfInBounds_toArray, List.set_cons_zero, List.set_cons_succ]
    refine At.pure 15 (some 4) (v := ?v15qb) rfl rfl (by kernel_rfl) (fun _ _ _ h => h) rfl (fun w' => ?y15qb) ?_   
    case y15qb => go_simp; try with_reducible rfl
    try simp only [Act.put, List.setIfInBounds_toArray, List.set_cons_zero, List.set_cons_succ]
    refine At.done (by kernel_rfl) ?_
    go_wp2_with fail
    obtain ⟨w1, hw1⟩ : ∃ w1, w.drew.drew = w1 := ⟨_, rfl⟩
    have HW1 : Hid (Wk w1 base V g 2 m M cm T ct xs ys) := hid (by rw [← hw1]; exact ⟨HW.out.blk.drew.drew, HW.out.buf.drew.drew, HW.out.oM.drew.drew, HW.out.oT.drew.drew, HW.out.dj⟩)
    have HK1 := hid (show Keep (fun j => base ≤ j ∨ j = V) w w1 by rw [← hw1]; exact ((Keep.refl _ w).drew).drew)
    rw [hw1]
    clear hw1 c0 c1 c2 c3 b0 b1 HN
    have q1 : w1.cell? ⟨V, 1, none⟩ = some (.int .i64 2) := HW1.out.blk.cell 1
    have q2 : w1.cell? ⟨V, 2, none⟩ = some (.slice M m cm) := HW1.out.blk.cell 2
    have q3 : w1.cell? ⟨V, 3, none⟩ = some (.slice T m ct) := HW1.out.blk.cell 3
    have hb1 : base ≤ w1.heap.size := Nat.le_trans hb HK1.out.size
    have hMlt : ∀ k, (Value.slice M m cm).ownBlock = some k → base ≤ k ∧ k < w1.heap.size := fun k e => by
      obtain ⟨ad, e1, e2⟩ := own_blk e
      have := own_lt_int HW1.out.oM ad e1; omega
    have hTlt : ∀ k, (Value.slice T m ct).ownBlock = some k → base ≤ k ∧ k < w1.heap.size := fun k e => by
      obtain ⟨ad, e1, e2⟩ := own_blk e
      have := own_lt_int HW1.out.oT ad e1; omega
    have hVM : (Value.slice M m cm).ownBlock ≠ some V := own_ne HW1.out.oM HW1.out.blk (by decide)
    have hVT : (Value.slice T m ct).ownBlock ≠ some V := own_ne HW1.out.oT HW1.out.blk (by decide)
    have hGM : (Value.slice M m cm).ownBlock ≠ some g := own_ne HW1.out.oM HW1.out.buf (by decide)
    have hGT : (Value.slice T m ct).ownBlock ≠ some g := own_ne HW1.out.oT HW1.out.buf (by decide)
    clear HW
    -- region 4: 25 operations
    refine At.start (L := #[false, false, false, false, false, false, false, false, false, false, false, false, false, false, false, false, false, false, false, false, false, false, false, false, false]) (by kernel_rfl) rfl ?_
    refine At.pure 0 (some 44) (v := ?v0qc) rfl rfl (by kernel_rfl) (fun _ _ _ h => h) rfl (fun w' => ?y0qc) ?_   
    case y0qc => go_simp; try with_reducible rfl
    try simp only [Act.put, List.setIfInBounds_toArray, List.set_cons_zero, List.set_cons_succ]
    refine At.pure 1 (some 45) (v := ?v1qc) rfl rfl (by kernel_rfl) (fun _ _ _ h => h) rfl (fun w' => ?y1qc) ?_   
    case y1qc => go_simp; try with_reducible rfl
    try simp only [Act.put, List.setIfInBounds_toArray, List.set_cons_zero, List.set_cons_succ]
    refine At.pure 2 (some 46) (v := ?v2qc) rfl rfl (by kernel_rfl) (fun _ _ _ h => h) rfl (fun w' => ?y2qc) ?_   
    case y2qc => go_simp; try with_reducible rfl
    try simp only [Act.put, List.setIfInBounds_toArray, List.set_cons_zero, List.set_cons_succ]
    refine At.pure 3 (some 47) (v := ?v3qc) rfl rfl (by kernel_rfl) (fun _ _ _ h => h) rfl (fun w' => ?y3qc) ?_   
    case y3qc => go_simp; try with_reducible rfl
    try simp only [Act.put, List.setIfInBounds_toArray, List.set_cons_zero, List.set_cons_succ]
    refine At.pure 4 (some 48) (v := ?v4qc) rfl rfl (by kernel_rfl) (fun _ _ _ h => h) rfl (fun w' => ?y4qc) ?_   
    case y4qc => go_simp; try with_reducible rfl
    try simp only [Act.put, List.setIfInBounds_toArray, List.set_cons_zero, List.set_cons_succ]
    refine At.read 5 (some 49) (fun w' => w'.cell? ⟨V, 2, none⟩ = some (.slice M m cm)) (v := (.slice M m cm)) rfl rfl (by kernel_rfl) (fun _ _ _ h => h) rfl q2 (fun w' hw' => ?y5qc) ?_   
    case y5qc => skip; go_simp; try with_reducible rfl
    try simp only [Act.put, List.setIfInBounds_toArray, List.set_cons_zero, List.set_cons_succ]
    refine At.pure 6 (some 50) (v := ?v6qc) rfl rfl (by kernel_rfl) (fun _ _ _ h => h) rfl (fun w' => ?y6qc) ?_   
    case y6qc => go_simp; try with_reducible rfl
    try simp only [Act.put, List.setIfInBounds_toArray, List.set_cons_zero, List.set_cons_succ]
    refine At.pure 9 (some 53) (v := ?v9qc) rfl rfl (by kernel_rfl) (fun _ _ _ h => h) rfl (fun w' => ?y9qc) ?_   
    case y9qc => go_simp; try with_reducible rfl
    try simp only [Act.put, List.setIfInBounds_toArray, List.set_cons_zero, List.set_cons_succ]
    refine At.pure 10 (some 54) (v := ?v10qc) rfl rfl (by kernel_rfl) (fun _ _ _ h => h) rfl (fun w' => ?y10qc) ?_   
    case y10qc => go_simp; try with_reducible rfl
    try simp only [Act.put, List.setIfInBounds_toArray, List.set_cons_zero, List.set_cons_succ]
    refine At.pure 11 (some 55) (v := ?v11qc) rfl rfl (by kernel_rfl) (fun _ _ _ h => h) rfl (fun w' => ?y11qc) ?_   
    case y11qc => go_simp; try with_reducible rfl
    try simp only [Act.put, List.setIfInBounds_toArray, List.set_cons_zero, List.set_cons_succ]
    refine At.read 12 (some 56) (fun w' => w'.cell? ⟨V, 3, none⟩ = some (.slice T m ct)) (v := (.slice T m ct)) rfl rfl (by kernel_rfl) (fun _ _ _ h => h) rfl q3 (fun w' hw' => ?y12qc) ?_   
    case y12qc => skip; go_simp; try with_reducible rfl
    try simp only [Act.put, List.setIfInBounds_toArray, List.set_cons_zero, List.set_cons_succ]
    refine At.pure 13 (some 57) (v := ?v13qc) rfl rfl (by kernel_rfl) (fun _ _ _ h => h) rfl (fun w' => ?y13qc) ?_   
    case y13qc => go_simp; try with_reducible rfl
    try simp only [Act.put, List.setIfInBounds_toArray, List.set_cons_zero, List.set_cons_succ]
    refine At.pure 14 (some 58) (v := ?v14qc) rfl rfl (by kernel_rfl) (fun _ _ _ h => h) rfl (fun w' => ?y14qc) ?_   
    case y14qc => go_simp; try with_reducible rfl
    try simp only [Act.put, List.setIfInBounds_toArray, List.set_cons_zero, List.set_cons_succ]
    refine At.pure 15 (some 59) (v := ?v15qc) rfl rfl (by kernel_rfl) (fun _ _ _ h => h) rfl (fun w' => ?y15qc) ?_   
    case y15qc => go_simp; try with_reducible rfl
    try simp only [Act.put, List.setIfInBounds_toArray, List.set_cons_zero, List.set_cons_succ]
    refine At.read 16 (some 60) (fun w' => w'.cell? ⟨V, 1, none⟩ = some (.int .i64 2)) (v := (.int .i64 2)) rfl rfl (by kernel_rfl) (fun _ _ _ h => h) rfl q1 (fun w' hw' => ?y16qc) ?_   
    case y16qc => skip; go_simp; try with_reducible rfl
    try simp only [Act.put, List.setIfInBounds_toArray, List.set_cons_zero, List.set_cons_succ]
    refine At.two 7 17 (pi := [(16, (fun w' => w'.cell? ⟨V, 1, none⟩ = some (.int .i64 2))), (12, (fun w' => w'.cell? ⟨V, 3, none⟩ = some (.slice T m ct))), (5, (fun w' => w'.cell? ⟨V, 2, none⟩ = some (.slice M m cm)))]) (pj := [(12, (fun w' => w'.cell? ⟨V, 3, none⟩ = some (.slice T m ct))), (5, (fun w' => w'.cell? ⟨V, 2, none⟩ = some (.slice M m cm)))]) rfl rfl (by kernel_rfl) rfl rfl (by kernel_rfl) (by kernel_rfl) (fun K hK => ?_) (fun K hK => ?_)
    · skip
      go_simp
      skip
      refine hK _ _ (all_cons (by (try exact keep1 q1); (try exact keep2 q1)) (all_cons (by (try exact keep1 q3); (try exact keep2 q3)) (all_cons (by (try exact keep1 q2); (try exact keep2 q2)) all_nil))) ?_
      clear hK K
      try simp only [Act.put, List.setIfInBounds_toArray, List.set_cons_zero, List.set_cons_succ]
      refine At.two 8 17 (pi := [(16, (fun w' => w'.cell? ⟨V, 1, none⟩ = some (.int .i64 2))), (12, (fun w' => w'.cell? ⟨V, 3, none⟩ = some (.slice T m ct)))]) (pj := [(12, (fun w' => w'.cell? ⟨V, 3, none⟩ = some (.slice T m ct))), (5, (fun w' => w'.cell? ⟨V, 2, none⟩ = some (.slice M m cm)))]) rfl rfl (by kernel_rfl) rfl rfl (by kernel_rfl) (by kernel_rfl) (fun K hK => ?_) (fun K hK => ?_)
      · skip
        refine wp_append_src _ (.tmp 49) (.tmp 51) _ rfl base 3 i0 _ 8 Try.underlying28 hi0 hj0 hj1 hj2 rfl (.slice M m cm) m xs rfl (by first | exact HW1.out.oM.drew.alloc _ | exact (HW1.out.oM.drew.alloc _).alloc _) _ 1 1 [.int .i64 z] rfl (by first | exact src_one w1.drew _ _ | exact (src_one w1.drew _ _).alloc _ | exact src_two w1.drew _ _ _) (by intro u hu; simp at hu; subst hu; rfl) (by simp only [maxLen]; omega) (by omega) (by simp; omega) ?_
        intro v2 w2 hown2 hg2 hat2 _hold2
        obtain ⟨M2, cm2, rfl⟩ := own_form hown2
        have kk : Keep (fun k => (Value.slice M m cm).ownBlock = some k) w1 w2 := by first | exact (((Keep.refl _ w1).drew).alloc _).grown hg2 (fun k hk => .inl hk) | exact ((((Keep.refl _ w1).drew).alloc _).alloc _).grown hg2 (fun k hk => .inl hk)
        have oT2 := own_keep HW1.out.oT kk (fun k e hk => HW1.out.dj k hk e)
        have bV2 := HW1.out.blk.keep kk hVM
        have bG2 := HW1.out.buf.keep kk hGM
        have r12 : w2.cell? ⟨V, 3, none⟩ = some (.slice T m ct) := bV2.cell 3
        have r16 : w2.cell? ⟨V, 1, none⟩ = some (.int .i64 2) := bV2.cell 1
        try have hsA := ((src_one w1.drew (.int .i64 2) 3).alloc _).keep ((Keep.refl (fun k => (Value.slice M m cm).ownBlock = some k) _).grown hg2 (fun k hk => .inl hk)) (fun ad e h => by injection e with e; subst e; have := hMlt _ h; simp at this)
        try have hsB := (src_two w1.drew (.int .i64 2) (.int .i64 z) 3).keep ((Keep.refl (fun k => (Value.slice M m cm).ownBlock = some k) _).grown hg2 (fun k hk => .inl hk)) (fun ad e h => by injection e with e; subst e; have := hMlt _ h; simp at this; omega)
        have hM2 : ∀ k, (Value.slice M2 (m + 1) cm2).ownBlock = some k → base ≤ k ∧ (Value.slice T m ct).ownBlock ≠ some k := fun k e => by
          rcases hat2 with h | h
          · rw [h] at e; exact ⟨(hMlt k e).1, HW1.out.dj k e⟩
          · rw [h] at e
            injection e with e
            simp at e
            exact ⟨by omega, fun hk => by have := hTlt k hk; omega⟩
        clear hat2 _hold2 hg2
        refine hK _ _ (all_cons r16 (all_cons r12 all_nil)) ?_
        clear hK K
        try simp only [Act.put, List.setIfInBounds_toArray, List.set_cons_zero, List.set_cons_succ]
        refine At.call 17 (pend' := [(12, (fun w' => w'.cell? ⟨V, 3, none⟩ = some (.slice T m ct)))]) rfl (by kernel_rfl) rfl (by kernel_rfl) (fun K hK => ?_)   
        go_simp
        skip
        refine hK _ _ (all_cons (by (try exact keep1 q3); (try exact keep2 q3); (try exact keep1 r12)) all_nil) ?_
        clear hK K
        try simp only [Act.put, List.setIfInBounds_toArray, List.set_cons_zero, List.set_cons_succ]
        refine At.call 18 (pend' := []) rfl (by kernel_rfl) rfl (by kernel_rfl) (fun K hK => ?_)   
        refine wp_append_src _ (.tmp 56) (.tmp 61) _ rfl base 3 i0 _ 8 Try.underlying28 hi0 hj0 hj1 hj2 rfl (.slice T m ct) m ys rfl (by first | exact oT2 | exact oT2.alloc _) _ 1 1 [.int .i64 2] rfl (by first | exact src_one w2 _ _ | exact hsA | exact hsB) (by intro u hu; simp at hu; subst hu; rfl) (by simp only [maxLen]; omega) (by omega) (by have := kk.size; simp; omega) ?_
        intro v3 w3 hown3 hg3 hat3 _hold3
        obtain ⟨T3, ct3, rfl⟩ := own_form hown3
        have k3 : Keep (fun k => (Value.slice T m ct).ownBlock = some k) w2 w3 := by first | exact (Keep.refl _ w2).grown hg3 (fun k hk => .inl hk) | exact ((Keep.refl _ w2).alloc _).grown hg3 (fun k hk => .inl hk)
        have oM3 := own_keep hown2 k3 (fun k e hk => (hM2 k e).2 hk)
        have bV3 := bV2.keep k3 hVT
        have bG3 := bG2.keep k3 hGT
        have dj3 : ∀ j, (Value.slice M2 (m + 1) cm2).ownBlock = some j → (Value.slice T3 (m + 1) ct3).ownBlock ≠ some j := fun j e hk => by
          rcases hat3 with h | h
          · rw [h] at hk; exact (hM2 j e).2 hk
          · rw [h] at hk
            injection hk with hk
            obtain ⟨ad, e1, e2⟩ := own_blk e
            have := (own_lt_int hown2 ad e1).2
            try simp at hk
            omega
        have kW : Keep (fun j => base ≤ j ∨ j = V) w w3 := (HK1.out.trans kk (fun k hk e => .inl (hMlt k e).1)).trans k3 (fun k _ e => .inl (hTlt k e).1)
        have nM3 := own_ne oM3 bV3 (by decide)
        have nT3 := own_ne hown3 bV3 (by decide)
        have nVG : g ≠ V := Blk.ne_ bG3 bV3 (by decide)
        have HF := hid (fun (w5 : World) (cs : Array Value) (h5 : Keep (fun j => j = V) w3 w5) (b5 : Blk w5 V 36 cs) (e5 : cs = #[.slice (some ⟨g, 0, none⟩) 4 4, .int .i64 ((2 + 2 : Nat) : Int), .slice M2 (m + 1) cm2, .slice T3 (m + 1) ct3, .bool false]) => by
          subst e5
          exact (⟨⟨M2, cm2, T3, ct3, _, _, ⟨b5, bG3.keep h5 nVG, own_keep oM3 h5 (fun k e hk => nM3 (by rw [e, hk])), own_keep hown3 h5 (fun k e hk => nT3 (by rw [e, hk])), dj3⟩⟩, kW.trans h5 (fun _ _ h => .inr h)⟩ : (∃ M' cm' T' ct' xs' ys', Wk w5 base V g (2 + 2) (m + 1) M' cm' T' ct' xs' ys') ∧ Keep (fun j => base ≤ j ∨ j = V) w w5))
        have HB3 := hid bV3
        have e2 : w3.cell? ⟨V, 2, none⟩ = some (.slice M m cm) := bV3.cell 2
        have e3 : w3.cell? ⟨V, 3, none⟩ = some (.slice T m ct) := bV3.cell 3
        have e1 : w3.cell? ⟨V, 1, none⟩ = some (.int .i64 2) := bV3.cell 1
        have f1 := bV3.frozen 1
        have f2 := bV3.frozen 2
        have f3 := bV3.frozen 3
        clear oM3 bG3 dj3 kW nM3 nT3 hat3 _hold3 hg3 hown3 k3 bV3 bV2 bG2 oT2 hown2 hM2 kk r12 r16 q1 q2 q3
        refine hK _ _ all_nil ?_
        clear hK K
        try simp only [Act.put, List.setIfInBounds_toArray, List.set_cons_zero, List.set_cons_succ]
        refine At.pure 19 (some 63) (v := ?v19qcxx) rfl rfl (by kernel_rfl) (fun _ _ _ h => h) rfl (fun w' => ?y19qcxx) ?_   
        case y19qcxx => go_simp; try with_reducible rfl
        try simp only [Act.put, List.setIfInBounds_toArray, List.set_cons_zero, List.set_cons_succ]
        refine At.pure 20 (some 64) (v := ?v20qcxx) rfl rfl (by kernel_rfl) (fun _ _ _ h => h) rfl (fun w' => ?y20qcxx) ?_   
        case y20qcxx => go_simp; try with_reducible rfl
        try simp only [Act.put, List.setIfInBounds_toArray, List.set_cons_zero, List.set_cons_succ]
        refine At.call 21 (pend' := []) rfl (by kernel_rfl) rfl (by kernel_rfl) (fun K hK => ?_)   
        go_simp
        skip
        refine hK _ _ all_nil ?_
        clear hK K
        try simp only [Act.put, List.setIfInBounds_toArray, List.set_cons_zero, List.set_cons_succ]
        refine At.pure 22 (some 65) (v := ?v22qcxx) rfl rfl (by kernel_rfl) (fun _ _ _ h => h) rfl (fun w' => ?y22qcxx) ?_   
        case y22qcxx => go_simp; try with_reducible rfl
        try simp only [Act.put, List.setIfInBounds_toArray, List.set_cons_zero, List.set_cons_succ]
        refine At.pure 23 (some 66) (v := ?v23qcxx) rfl rfl (by kernel_rfl) (fun _ _ _ h => h) rfl (fun w' => ?y23qcxx) ?_   
        case y23qcxx => go_simp; try with_reducible rfl
        try simp only [Act.put, List.setIfInBounds_toArray, List.set_cons_zero, List.set_cons_succ]
        refine At.call 24 (pend' := []) rfl (by kernel_rfl) rfl (by kernel_rfl) (fun K hK => ?_)   
        go_simp
        skip
        refine hK _ _ all_nil ?_
        clear hK K
        try simp only [Act.put, List.setIfInBounds_toArray, List.set_cons_zero, List.set_cons_succ]
        refine At.done (by kernel_rfl) ?_
        go_wp2_with fail
        refine bodyPost_ret (v := .tuple #[.int .i64 z, .bool true]) (by simp [results, Try.results14, go_sem]) rfl ⟨rfl, ?_⟩
        apply HF.out
        · with_reducible (repeat (first | refine Keep.drew ?_ | refine Keep.setR ?_ _ _ | exact Keep.refl _ _))
        · with_reducible (repeat (first | apply Blk.drew | apply Blk.set_ | exact HB3.out))
        · first | rfl | simp
      · skip
        go_simp
        skip
        refine hK _ _ (all_cons (by (try exact keep1 q3); (try exact keep2 q3); (try exact keep1 r12)) (all_cons (by (try exact keep1 q2); (try exact keep2 q2)) all_nil)) ?_
        clear hK K
        try simp only [Act.put, List.setIfInBounds_toArray, List.set_cons_zero, List.set_cons_succ]
        refine At.call 8 (pend' := [(12, (fun w' => w'.cell? ⟨V, 3, none⟩ = some (.slice T m ct)))]) rfl (by kernel_rfl) rfl (by kernel_rfl) (fun K hK => ?_)   
        refine wp_append_src _ (.tmp 49) (.tmp 51) _ rfl base 3 i0 _ 8 Try.underlying28 hi0 hj0 hj1 hj2 rfl (.slice M m cm) m xs rfl (by first | exact HW1.out.oM.drew.alloc _ | exact (HW1.out.oM.drew.alloc _).alloc _) _ 1 1 [.int .i64 z] rfl (by first | exact src_one w1.drew _ _ | exact (src_one w1.drew _ _).alloc _ | exact src_two w1.drew _ _ _) (by intro u hu; simp at hu; subst hu; rfl) (by simp only [maxLen]; omega) (by omega) (by simp; omega) ?_
        intro v2 w2 hown2 hg2 hat2 _hold2
        obtain ⟨M2, cm2, rfl⟩ := own_form hown2
        have kk : Keep (fun k => (Value.slice M m cm).ownBlock = some k) w1 w2 := by first | exact (((Keep.refl _ w1).drew).alloc _).grown hg2 (fun k hk => .inl hk) | exact ((((Keep.refl _ w1).drew).alloc _).alloc _).grown hg2 (fun k hk => .inl hk)
        have oT2 := own_keep HW1.out.oT kk (fun k e hk => HW1.out.dj k hk e)
        have bV2 := HW1.out.blk.keep kk hVM
        have bG2 := HW1.out.buf.keep kk hGM
        have r12 : w2.cell? ⟨V, 3, none⟩ = some (.slice T m ct) := bV2.cell 3
        have r16 : w2.cell? ⟨V, 1, none⟩ = some (.int .i64 2) := bV2.cell 1
        try have hsA := ((src_one w1.drew (.int .i64 2) 3).alloc _).keep ((Keep.refl (fun k => (Value.slice M m cm).ownBlock = some k) _).grown hg2 (fun k hk => .inl hk)) (fun ad e h => by injection e with e; subst e; have := hMlt _ h; simp at this)
        try have hsB := (src_two w1.drew (.int .i64 2) (.int .i64 z) 3).keep ((Keep.refl (fun k => (Value.slice M m cm).ownBlock = some k) _).grown hg2 (fun k hk => .inl hk)) (fun ad e h => by injection e with e; subst e; have := hMlt _ h; simp at this; omega)
        have hM2 : ∀ k, (Value.slice M2 (m + 1) cm2).ownBlock = some k → base ≤ k ∧ (Value.slice T m ct).ownBlock ≠ some k := fun k e => by
          rcases hat2 with h | h
          · rw [h] at e; exact ⟨(hMlt k e).1, HW1.out.dj k e⟩
          · rw [h] at e
            injection e with e
            simp at e
            exact ⟨by omega, fun hk => by have := hTlt k hk; omega⟩
        clear hat2 _hold2 hg2
        refine hK _ _ (all_cons r12 all_nil) ?_
        clear hK K
        try simp only [Act.put, List.setIfInBounds_toArray, List.set_cons_zero, List.set_cons_succ]
        refine At.call 18 (pend' := []) rfl (by kernel_rfl) rfl (by kernel_rfl) (fun K hK => ?_)   
        refine wp_append_src _ (.tmp 56) (.tmp 61) _ rfl base 3 i0 _ 8 Try.underlying28 hi0 hj0 hj1 hj2 rfl (.slice T m ct) m ys rfl (by first | exact oT2 | exact oT2.alloc _) _ 1 1 [.int .i64 2] rfl (by first | exact src_one w2 _ _ | exact hsA | exact hsB) (by intro u hu; simp at hu; subst hu; rfl) (by simp only [maxLen]; omega) (by omega) (by have := kk.size; simp; omega) ?_
        intro v3 w3 hown3 hg3 hat3 _hold3
        obtain ⟨T3, ct3, rfl⟩ := own_form hown3
        have k3 : Keep (fun k => (Value.slice T m ct).ownBlock = some k) w2 w3 := by first | exact (Keep.refl _ w2).grown hg3 (fun k hk => .inl hk) | exact ((Keep.refl _ w2).alloc _).grown hg3 (fun k hk => .inl hk)
        have oM3 := own_keep hown2 k3 (fun k e hk => (hM2 k e).2 hk)
        have bV3 := bV2.keep k3 hVT
        have bG3 := bG2.keep k3 hGT
        have dj3 : ∀ j, (Value.slice M2 (m + 1) cm2).ownBlock = some j → (Value.slice T3 (m + 1) ct3).ownBlock ≠ some j := fun j e hk => by
          rcases hat3 with h | h
          · rw [h] at hk; exact (hM2 j e).2 hk
          · rw [h] at hk
            injection hk with hk
            obtain ⟨ad, e1, e2⟩ := own_blk e
            have := (own_lt_int hown2 ad e1).2
            try simp at hk
            omega
        have kW : Keep (fun j => base ≤ j ∨ j = V) w w3 := (HK1.out.trans kk (fun k hk e => .inl (hMlt k e).1)).trans k3 (fun k _ e => .inl (hTlt k e).1)
        have nM3 := own_ne oM3 bV3 (by decide)
        have nT3 := own_ne hown3 bV3 (by decide)
        have nVG : g ≠ V := Blk.ne_ bG3 bV3 (by decide)
        have HF := hid (fun (w5 : World) (cs : Array Value) (h5 : Keep (fun j => j = V) w3 w5) (b5 : Blk w5 V 36 cs) (e5 : cs = #[.slice (some ⟨g, 0, none⟩) 4 4, .int .i64 ((2 + 2 : Nat) : Int), .slice M2 (m + 1) cm2, .slice T3 (m + 1) ct3, .bool false]) => by
          subst e5
          exact (⟨⟨M2, cm2, T3, ct3, _, _, ⟨b5, bG3.keep h5 nVG, own_keep oM3 h5 (fun k e hk => nM3 (by rw [e, hk])), own_keep hown3 h5 (fun k e hk => nT3 (by rw [e, hk])), dj3⟩⟩, kW.trans h5 (fun _ _ h => .inr h)⟩ : (∃ M' cm' T' ct' xs' ys', Wk w5 base V g (2 + 2) (m + 1) M' cm' T' ct' xs' ys') ∧ Keep (fun j => base ≤ j ∨ j = V) w w5))
        have HB3 := hid bV3
        have e2 : w3.cell? ⟨V, 2, none⟩ = some (.slice M m cm) := bV3.cell 2
        have e3 : w3.cell? ⟨V, 3, none⟩ = some (.slice T m ct) := bV3.cell 3
        have e1 : w3.cell? ⟨V, 1, none⟩ = some (.int .i64 2) := bV3.cell 1
        have f1 := bV3.frozen 1
        have f2 := bV3.frozen 2
        have f3 := bV3.frozen 3
        clear oM3 bG3 dj3 kW nM3 nT3 hat3 _hold3 hg3 hown3 k3 bV3 bV2 bG2 oT2 hown2 hM2 kk r12 r16 q1 q2 q3
        refine hK _ _ all_nil ?_
        clear hK K
        try simp only [Act.put, List.setIfInBounds_toArray, List.set_cons_zero, List.set_cons_succ]
        refine At.pure 19 (some 63) (v := ?v19qcxy) rfl rfl (by kernel_rfl) (fun _ _ _ h => h) rfl (fun w' => ?y19qcxy) ?_   
        case y19qcxy => go_simp; try with_reducible rfl
        try simp only [Act.put, List.setIfInBounds_toArray, List.set_cons_zero, List.set_cons_succ]
        refine At.pure 20 (some 64) (v := ?v20qcxy) rfl rfl (by kernel_rfl) (fun _ _ _ h => h) rfl (fun w' => ?y20qcxy) ?_   
        case y20qcxy => go_simp; try with_reducible rfl
        try simp only [Act.put, List.setIfInBounds_toArray, List.set_cons_zero, List.set_cons_succ]
        refine At.call 21 (pend' := []) rfl (by kernel_rfl) rfl (by kernel_rfl) (fun K hK => ?_)   
        go_simp
        skip
        refine hK _ _ all_nil ?_
        clear hK K
        try simp only [Act.put, List.setIfInBounds_toArray, List.set_cons_zero, List.set_cons_succ]
        refine At.pure 22 (some 65) (v := ?v22qcxy) rfl rfl (by kernel_rfl) (fun _ _ _ h => h) rfl (fun w' => ?y22qcxy) ?_   
        case y22qcxy => go_simp; try with_reducible rfl
        try simp only [Act.put, List.setIfInBounds_toArray, List.set_cons_zero, List.set_cons_succ]
        refine At.pure 23 (some 66) (v := ?v23qcxy) rfl rfl (by kernel_rfl) (fun _ _ _ h => h) rfl (fun w' => ?y23qcxy) ?_   
        case y23qcxy => go_simp; try with_reducible rfl
        try simp only [Act.put, List.setIfInBounds_toArray, List.set_cons_zero, List.set_cons_succ]
        refine At.call 24 (pend' := []) rfl (by kernel_rfl) rfl (by kernel_rfl) (fun K hK => ?_)   
        go_simp
        skip
        refine hK _ _ all_nil ?_
        clear hK K
        try simp only [Act.put, List.setIfInBounds_toArray, List.set_cons_zero, List.set_cons_succ]
        refine At.done (by kernel_rfl) ?_
        go_wp2_with fail
        refine bodyPost_ret (v := .tuple #[.int .i64 z, .bool true]) (by simp [results, Try.results14, go_sem]) rfl ⟨rfl, ?_⟩
        apply HF.out
        · with_reducible (repeat (first | refine Keep.drew ?_ | refine Keep.setR ?_ _ _ | exact Keep.refl _ _))
        · with_reducible (repeat (first | apply Blk.drew | apply Blk.set_ | exact HB3.out))
        · first | rfl | simp
    · skip
      go_simp
      skip
      refine hK _ _ (all_cons (by (try exact keep1 q3); (try exact keep2 q3); (try exact keep1 r12)) (all_cons (by (try exact keep1 q2); (try exact keep2 q2)) all_nil)) ?_
      clear hK K
      try simp only [Act.put, List.setIfInBounds_toArray, List.set_cons_zero, List.set_cons_succ]
      refine At.call 7 (pend' := [(12, (fun w' => w'.cell? ⟨V, 3, none⟩ = some (.slice T m ct))), (5, (fun w' => w'.cell? ⟨V, 2, none⟩ = some (.slice M m cm)))]) rfl (by kernel_rfl) rfl (by kernel_rfl) (fun K hK => ?_)   
      go_simp
      skip
      refine hK _ _ (all_cons (by (try exact keep1 q3); (try exact keep2 q3)) (all_cons (by (try exact keep1 q2); (try exact keep2 q2)) all_nil)) ?_
      clear hK K
      try simp only [Act.put, List.setIfInBounds_toArray, List.set_cons_zero, List.set_cons_succ]
      refine At.call 8 (pend' := [(12, (fun w' => w'.cell? ⟨V, 3, none⟩ = some (.slice T m ct)))]) rfl (by kernel_rfl) rfl (by kernel_rfl) (fun K hK => ?_)   
      refine wp_append_src _ (.tmp 49) (.tmp 51) _ rfl base 3 i0 _ 8 Try.underlying28 hi0 hj0 hj1 hj2 rfl (.slice M m cm) m xs rfl (by first | exact HW1.out.oM.drew.alloc _ | exact (HW1.out.oM.drew.alloc _).alloc _) _ 1 1 [.int .i64 z] rfl (by first | exact src_one w1.drew _ _ | exact (src_one w1.drew _ _).alloc _ | exact src_two w1.drew _ _ _) (by intro u hu; simp at hu; subst hu; rfl) (by simp only [maxLen]; omega) (by omega) (by simp; omega) ?_
      intro v2 w2 hown2 hg2 hat2 _hold2
      obtain ⟨M2, cm2, rfl⟩ := own_form hown2
      have kk : Keep (fun k => (Value.slice M m cm).ownBlock = some k) w1 w2 := by first | exact (((Keep.refl _ w1).drew).alloc _).grown hg2 (fun k hk => .inl hk) | exact ((((Keep.refl _ w1).drew).alloc _).alloc _).grown hg2 (fun k hk => .inl hk)
      have oT2 := own_keep HW1.out.oT kk (fun k e hk => HW1.out.dj k hk e)
      have bV2 := HW1.out.blk.keep kk hVM
      have bG2 := HW1.out.buf.keep kk hGM
      have r12 : w2.cell? ⟨V, 3, none⟩ = some (.slice T m ct) := bV2.cell 3
      have r16 : w2.cell? ⟨V, 1, none⟩ = some (.int .i64 2) := bV2.cell 1
      try have hsA := ((src_one w1.drew (.int .i64 2) 3).alloc _).keep ((Keep.refl (fun k => (Value.slice M m cm).ownBlock = some k) _).grown hg2 (fun k hk => .inl hk)) (fun ad e h => by injection e with e; subst e; have := hMlt _ h; simp at this)
      try have hsB := (src_two w1.drew (.int .i64 2) (.int .i64 z) 3).keep ((Keep.refl (fun k => (Value.slice M m cm).ownBlock = some k) _).grown hg2 (fun k hk => .inl hk)) (fun ad e h => by injection e with e; subst e; have := hMlt _ h; simp at this; omega)
      have hM2 : ∀ k, (Value.slice M2 (m + 1) cm2).ownBlock = some k → base ≤ k ∧ (Value.slice T m ct).ownBlock ≠ some k := fun k e => by
        rcases hat2 with h | h
        · rw [h] at e; exact ⟨(hMlt k e).1, HW1.out.dj k e⟩
        · rw [h] at e
          injection e with e
          simp at e
          exact ⟨by omega, fun hk => by have := hTlt k hk; omega⟩
      clear hat2 _hold2 hg2
      refine hK _ _ (all_cons r12 all_nil) ?_
      clear hK K
      try simp only [Act.put, List.setIfInBounds_toArray, List.set_cons_zero, List.set_cons_succ]
      refine At.call 18 (pend' := []) rfl (by kernel_rfl) rfl (by kernel_rfl) (fun K hK => ?_)   
      refine wp_append_src _ (.tmp 56) (.tmp 61) _ rfl base 3 i0 _ 8 Try.underlying28 hi0 hj0 hj1 hj2 rfl (.slice T m ct) m ys rfl (by first | exact oT2 | exact oT2.alloc _) _ 1 1 [.int .i64 2] rfl (by first | exact src_one w2 _ _ | exact hsA | exact hsB) (by intro u hu; simp at hu; subst hu; rfl) (by simp only [maxLen]; omega) (by omega) (by have := kk.size; simp; omega) ?_
      intro v3 w3 hown3 hg3 hat3 _hold3
      obtain ⟨T3, ct3, rfl⟩ := own_form hown3
      have k3 : Keep (fun k => (Value.slice T m ct).ownBlock = some k) w2 w3 := by first | exact (Keep.refl _ w2).grown hg3 (fun k hk => .inl hk) | exact ((Keep.refl _ w2).alloc _).grown hg3 (fun k hk => .inl hk)
      have oM3 := own_keep hown2 k3 (fun k e hk => (hM2 k e).2 hk)
      have bV3 := bV2.keep k3 hVT
      have bG3 := bG2.keep k3 hGT
      have dj3 : ∀ j, (Value.slice M2 (m + 1) cm2).ownBlock = some j → (Value.slice T3 (m + 1) ct3).ownBlock ≠ some j := fun j e hk => by
        rcases hat3 with h | h
        · rw [h] at hk; exact (hM2 j e).2 hk
        · rw [h] at hk
          injection hk with hk
          obtain ⟨ad, e1, e2⟩ := own_blk e
          have := (own_lt_int hown2 ad e1).2
          try simp at hk
          omega
      have kW : Keep (fun j => base ≤ j ∨ j = V) w w3 := (HK1.out.trans kk (fun k hk e => .inl (hMlt k e).1)).trans k3 (fun k _ e => .inl (hTlt k e).1)
      have nM3 := own_ne oM3 bV3 (by decide)
      have nT3 := own_ne hown3 bV3 (by decide)
      have nVG : g ≠ V := Blk.ne_ bG3 bV3 (by decide)
      have HF := hid (fun (w5 : World) (cs : Array Value) (h5 : Keep (fun j => j = V) w3 w5) (b5 : Blk w5 V 36 cs) (e5 : cs = #[.slice (some ⟨g, 0, none⟩) 4 4, .int .i64 ((2 + 2 : Nat) : Int), .slice M2 (m + 1) cm2, .slice T3 (m + 1) ct3, .bool false]) => by
        subst e5
        exact (⟨⟨M2, cm2, T3, ct3, _, _, ⟨b5, bG3.keep h5 nVG, own_keep oM3 h5 (fun k e hk => nM3 (by rw [e, hk])), own_keep hown3 h5 (fun k e hk => nT3 (by rw [e, hk])), dj3⟩⟩, kW.trans h5 (fun _ _ h => .inr h)⟩ : (∃ M' cm' T' ct' xs' ys', Wk w5 base V g (2 + 2) (m + 1) M' cm' T' ct' xs' ys') ∧ Keep (fun j => base ≤ j ∨ j = V) w w5))
      have HB3 := hid bV3
      have e2 : w3.cell? ⟨V, 2, none⟩ = some (.slice M m cm) := bV3.cell 2
      have e3 : w3.cell? ⟨V, 3, none⟩ = some (.slice T m ct) := bV3.cell 3
      have e1 : w3.cell? ⟨V, 1, none⟩ = some (.int .i64 2) := bV3.cell 1
      have f1 := bV3.frozen 1
      have f2 := bV3.frozen 2
      have f3 := bV3.frozen 3
      clear oM3 bG3 dj3 kW nM3 nT3 hat3 _hold3 hg3 hown3 k3 bV3 bV2 bG2 oT2 hown2 hM2 kk r12 r16 q1 q2 q3
      refine hK _ _ all_nil ?_
      clear hK K
      try simp only [Act.put, List.setIfInBounds_toArray, List.set_cons_zero, List.set_cons_succ]
      refine At.pure 19 (some 63) (v := ?v19qcy) rfl rfl (by kernel_rfl) (fun _ _ _ h => h) rfl (fun w' => ?y19qcy) ?_   
      case y19qcy => go_simp; try with_reducible rfl
      try simp only [Act.put, List.setIfInBounds_toArray, List.set_cons_zero, List.set_cons_succ]
      refine At.pure 20 (some 64) (v := ?v20qcy) rfl rfl (by kernel_rfl) (fun _ _ _ h => h) rfl (fun w' => ?y20qcy) ?_   
      case y20qcy => go_simp; try with_reducible rfl
      try simp only [Act.put, List.setIfInBounds_toArray, List.set_cons_zero, List.set_cons_succ]
      refine At.call 21 (pend' := []) rfl (by kernel_rfl) rfl (by kernel_rfl) (fun K hK => ?_)   
      go_simp
      skip
      refine hK _ _ all_nil ?_
      clear hK K
      try simp only [Act.put, List.setIfInBounds_toArray, List.set_cons_zero, List.set_cons_succ]
      refine At.pure 22 (some 65) (v := ?v22qcy) rfl rfl (by kernel_rfl) (fun _ _ _ h => h) rfl (fun w' => ?y22qcy) ?_   
      case y22qcy => go_simp; try with_reducible rfl
      try simp only [Act.put, List.setIfInBounds_toArray, List.set_cons_zero, List.set_cons_succ]
      refine At.pure 23 (some 66) (v := ?v23qcy) rfl rfl (by kernel_rfl) (fun _ _ _ h => h) rfl (fun w' => ?y23qcy) ?_   
      case y23qcy => go_simp; try with_reducible rfl
      try simp only [Act.put, List.setIfInBounds_toArray, List.set_cons_zero, List.set_cons_succ]
      refine At.call 24 (pend' := []) rfl (by kernel_rfl) rfl (by kernel_rfl) (fun K hK => ?_)   
      go_simp
      skip
      refine hK _ _ all_nil ?_
      clear hK K
      try simp only [Act.put, List.setIfInBounds_toArray, List.set_cons_zero, List.set_cons_succ]
      refine At.done (by kernel_rfl) ?_
      go_wp2_with fail
      refine bodyPost_ret (v := .tuple #[.int .i64 z, .bool true]) (by simp [results, Try.results14, go_sem]) rfl ⟨rfl, ?_⟩
      apply HF.out
      · with_reducible (repeat (first | refine Keep.drew ?_ | refine Keep.setR ?_ _ _ | exact Keep.refl _ _))
      · with_reducible (repeat (first | apply Blk.drew | apply Blk.set_ | exact HB3.out))
      · first | rfl | simp
end Go.Proofs.Ythfogcgdijmaoaa
