/-
  The program's tree and reader beside the reference's: each hears the same. Conditions: bounds up to 1000.
-/
import Derived.Test.YtbkffpedigeflaaRTreeDec2
import Derived.Test.YtbkffpedigeflaaTreeNew
namespace Go.Proofs.Ytbkffpedigeflaa
open Go.RowKit

/-- One question: the answer, the tree and the reader behind it. -/
def hearD (l : List Int) (W H L : Nat) (k b : Int) (N : Nat → Nat → Nd) (t : RS) : Bool × (Nat → Nat → Nd) × RS :=
  if 0 ≤ k ∧ k < ((W * H : Nat) : Int) then (((decI l W L k.toNat b N t L).2.1 0 k.toNat).said && decide (((decI l W L k.toNat b N t L).2.1 0 k.toNat).n < b), (decI l W L k.toNat b N t L).2.1, (decI l W L k.toNat b N t L).2.2)
  else (false, N, t)
def hearK (W H : Nat) (k : Int) (N : Nat → Nat → Nd) : Int := if 0 ≤ k ∧ k < ((W * H : Nat) : Int) then knownM (N 0 k.toNat) else -1
structure HearS (w0 : World) (p T R X : Nat) (A : Option Addr) (n c : Nat) (l : List Int) (W H L : Nat) (N1 : Nat → Nat → Nd) (t1 : RS) (N2 : Nat → Nat → Nd) (t2 : RS) (w : World) : Prop where
  tr : (∃ G c B, TrG w p G c L W H B N1 ∧ ∀ k, TF p G L B k → w0.heap.size ≤ k) ∨ (TrN w p ∧ W * H = 0)
  rt : (∃ g tot cap, RT w T g tot cap L W H N2 ∧ w0.heap.size ≤ g) ∨ (Blk w T 79 #[.slice none 0 0, .int .i64 0, .bool false] ∧ W * H = 0)
  rd : ∃ A' c', RrS w w0.heap.size R A' n c' l t1
  rx : Xr w X A n c l t2
  rn : w0.heap.size ≤ R
  xn : w0.heap.size ≤ X
  ok1 : RSok t1
  ok2 : RSok t2
  by_ : Bytes l
  old : 0 < n → ∀ ad, A = some ad → ad.block < w0.heap.size
  l7 : L ≤ 7
  keep : Keep (fun _ => False) w0 w
section
variable {w0 w w' : World} {p T R X n c W H L : Nat} {A : Option Addr} {l : List Int} {N1 N2 : Nat → Nat → Nd} {t1 t2 : RS}
theorem HearS.aside (h : HearS w0 p T R X A n c l W H L N1 t1 N2 t2 w) (hk : Keep (fun _ => False) w w') : HearS w0 p T R X A n c l W H L N1 t1 N2 t2 w' := by
  obtain ⟨A', c', hr⟩ := h.rd
  refine ⟨?_, ?_, ⟨A', c', Rr.aside hr hk⟩, Xc.keep h.rx hk (fun h => h) (fun _ _ _ h => h), h.rn, h.xn, h.ok1, h.ok2, h.by_, h.old, h.l7, h.keep.trans hk (fun _ _ h => h)⟩
  · exact h.tr.imp (fun ⟨G, c, B, h1, h2⟩ => ⟨G, c, B, h1.aside hk, h2⟩) (fun ⟨h1, h2⟩ => ⟨Blk.keep h1 hk (fun h => h), h2⟩)
  · exact h.rt.imp (fun ⟨g, tot, cap, h1, h2⟩ => ⟨g, tot, cap, h1.aside hk, h2⟩) (fun ⟨h1, h2⟩ => ⟨h1.keep hk (fun h => h), h2⟩)
theorem toNat_in {k : Int} {m : Nat} (h : 0 ≤ k ∧ k < (m : Int)) : k.toNat < m ∧ ((k.toNat : Nat) : Int) = k := by omega
theorem HearS.dec (h : HearS w0 p T R X A n c l W H L N1 t1 N2 t2 w) (k b : Int) (hb : -1000 ≤ b ∧ b ≤ 1000) (hp : t1.1 ≤ 536870912) :
    Calls Try.prog 20 #[.pointer (some ⟨p, 0, none⟩), .pointer (some ⟨R, 0, none⟩), .int .i64 k, .int .i64 b] w fun e w' =>
      e = .returned (.bool (hearD l W H L k b N1 t1).1) ∧ HearS w0 p T R X A n c l W H L (hearD l W H L k b N1 t1).2.1 (hearD l W H L k b N1 t1).2.2 N2 t2 w' := by
  obtain ⟨A', c', hr⟩ := h.rd
  by_cases hk : 0 ≤ k ∧ k < ((W * H : Nat) : Int)
  · obtain ⟨hk1, hk2⟩ := toNat_in hk
    rcases h.tr with ⟨G, cG, B, ht, hn⟩ | ⟨_, h0⟩
    · have := dec_any w w0.heap.size p G cG L W H B N1 R A' n c' l t1 k.toNat b ht hr h.ok1 h.by_ hk1 hb hp
      rw [hk2] at this
      refine this.mono ?_
      rintro e w' ⟨rfl, ht', hr', hkk⟩
      unfold hearD
      rw [if_pos hk]
      have hR := Rr.blk hr
      have key : ∀ {j : Nat} {ty : TypeId} {cs : Array Value}, Blk w j ty cs → ty ≠ 75 → ty ≠ 61 → ¬ NFd L B R j := fun hj h1 h2 hf => by
        rcases hf with ⟨i, hi, e⟩ | e
        · exact Blk.ne_ hj (ht.nd i hi) h2 e.symm
        · exact Blk.ne_ hj hR h1 e
      have hnew : ∀ j, NFd L B R j → w0.heap.size ≤ j := fun j hf => by
        rcases hf with hf | e
        · exact hn j (.inr (.inr hf))
        · have := h.rn; omega
      refine ⟨rfl, .inl ⟨G, cG, B, ht', hn⟩, ?_, ⟨A', c', hr'⟩, Xc.keep h.rx hkk (key (Xc.blk h.rx) (by decide) (by decide)) (fun hn0 ad e hf => by have h1 := hnew _ hf; have h2 := h.old hn0 ad e; omega), h.rn, h.xn, (decI_rs l W L k.toNat b N1 t1 h.ok1 hb.2 L).1, h.ok2, h.by_, h.old, h.l7, h.keep.trans hkk (fun j hj hf => by have := hnew j hf; omega)⟩
      refine h.rt.imp (fun ⟨g, tot, cap, h1, h2⟩ => ⟨g, tot, cap, ?_, h2⟩) (fun ⟨h1, h2⟩ => ⟨h1.keep hkk (key h1 (by decide) (by decide)), h2⟩)
      obtain ⟨cs, hg⟩ := h1.row
      exact h1.keep hkk (key h1.blk (by decide) (by decide)) (key hg (by decide) (by decide))
    · rw [h0] at hk1; omega
  · have hw : Calls Try.prog 26 #[.pointer (some ⟨p, 0, none⟩), .int .i64 k] w fun e w' => e = .returned (.slice none 0 0) ∧ Keep (fun _ => False) w w' := by
      rcases h.tr with ⟨G, cG, B, ht, hn⟩ | ⟨h1, h0⟩
      · exact way_out w p G cG L W H B N1 k ht (by omega)
      · exact way_none w p k h1
    refine (dec_none w p _ k b hw).mono ?_
    rintro e w' ⟨rfl, hkk⟩
    unfold hearD
    rw [if_neg hk]
    exact ⟨rfl, h.aside hkk⟩
theorem HearS.rdec (h : HearS w0 p T R X A n c l W H L N1 t1 N2 t2 w) (k b : Int) (hb : -1000 ≤ b ∧ b ≤ 1000) (hp : t2.1 ≤ 536870912) :
    Calls Try.prog 21 #[.pointer (some ⟨T, 0, none⟩), .pointer (some ⟨X, 0, none⟩), .int .i64 k, .int .i64 b] w fun e w' =>
      e = .returned (.bool (hearD l W H L k b N2 t2).1) ∧ HearS w0 p T R X A n c l W H L N1 t1 (hearD l W H L k b N2 t2).2.1 (hearD l W H L k b N2 t2).2.2 w' := by
  obtain ⟨A', c', hr⟩ := h.rd
  by_cases hk : 0 ≤ k ∧ k < ((W * H : Nat) : Int)
  · obtain ⟨hk1, hk2⟩ := toNat_in hk
    rcases h.rt with ⟨g, tot, cap, ht, hn⟩ | ⟨_, h0⟩
    · have := rdec_any w T g tot cap L W H X N2 A n c l t2 k.toNat b ht h.rx h.ok2 h.by_ hk1 hb hp (fun hn0 ad e hf => by have h2 := h.old hn0 ad e; omega)
      rw [hk2] at this
      refine this.mono ?_
      rintro e w' ⟨rfl, ht', hr', hkk⟩
      unfold hearD
      rw [if_pos hk]
      obtain ⟨cs, hg⟩ := ht.row
      have hX := Xc.blk h.rx
      have key : ∀ {j : Nat} {ty : TypeId} {cs : Array Value}, Blk w j ty cs → ty ≠ 83 → ty ≠ 81 → ¬ (j = g ∨ j = X) := fun hj h1 h2 hf => hf.elim (Blk.ne_ hj hg h2) (Blk.ne_ hj hX h1)
      refine ⟨rfl, ?_, .inl ⟨g, tot, cap, ht', hn⟩, ⟨A', c', Rr.keep hr hkk (key (Rr.blk hr) (by decide) (by decide)) (fun ad e hf => ?_)⟩, hr', h.rn, h.xn, h.ok1, (decI_rs l W L k.toNat b N2 t2 h.ok2 hb.2 L).1, h.by_, h.old, h.l7, h.keep.trans hkk (fun j hj hf => by have := h.xn; omega)⟩
      · refine h.tr.imp (fun ⟨G, cG, B, h1, h2⟩ => ⟨G, cG, B, ?_, h2⟩) (fun ⟨h1, h2⟩ => ⟨Blk.keep h1 hkk (key h1 (by decide) (by decide)), h2⟩)
        obtain ⟨cs, hgt⟩ := h1.gt
        exact h1.keep hkk (key h1.blk (by decide) (by decide)) (key hgt (by decide) (by decide)) (fun i hi => key (h1.nd i hi) (by decide) (by decide))
      · rcases hf with hf | hf
        · exact own_ne (Rr.own hr) hg (by decide) (by rw [e, ← hf]; rfl)
        · exact own_ne (Rr.own hr) hX (by decide) (by rw [e, ← hf]; rfl)
    · rw [h0] at hk1; omega
  · have hw : ∃ (sl fr : Value) (m : Int), Blk w T 79 #[sl, .int .i64 m, fr] ∧ (k < 0 ∨ m ≤ k) := by
      rcases h.rt with ⟨g, tot, cap, ht, hn⟩ | ⟨h1, h0⟩
      · exact ⟨_, _, _, ht.blk, by omega⟩
      · exact ⟨_, _, _, h1, by rw [h0] at hk; omega⟩
    obtain ⟨sl, fr, m, hb1, hkm⟩ := hw
    refine (rdec_out w T sl fr _ m k b hb1 hkm).mono ?_
    rintro e w' ⟨rfl, hkk⟩
    unfold hearD
    rw [if_neg hk]
    exact ⟨rfl, h.aside hkk⟩
theorem HearS.known (h : HearS w0 p T R X A n c l W H L N1 t1 N2 t2 w) (k : Int) :
    Calls Try.prog 17 #[.pointer (some ⟨p, 0, none⟩), .int .i64 k] w fun e w' => e = .returned (.int .i64 (hearK W H k N1)) ∧ Keep (fun _ => False) w w' := by
  by_cases hk : 0 ≤ k ∧ k < ((W * H : Nat) : Int)
  · obtain ⟨hk1, hk2⟩ := toNat_in hk
    unfold hearK
    rw [if_pos hk]
    rcases h.tr with ⟨G, cG, B, ht, hn⟩ | ⟨_, h0⟩
    · have := known_any w p G cG L W H B N1 k.toNat ht hk1
      rw [hk2] at this
      exact this
    · rw [h0] at hk1; omega
  · unfold hearK
    rw [if_neg hk]
    refine known_none w p k ?_
    rcases h.tr with ⟨G, cG, B, ht, hn⟩ | ⟨h1, h0⟩
    · exact way_out w p G cG L W H B N1 k ht (by omega)
    · exact way_none w p k h1
theorem HearS.rknown (h : HearS w0 p T R X A n c l W H L N1 t1 N2 t2 w) (k : Int) :
    Calls Try.prog 22 #[.pointer (some ⟨T, 0, none⟩), .int .i64 k] w fun e w' => e = .returned (.int .i64 (hearK W H k N2)) ∧ Keep (fun _ => False) w w' := by
  by_cases hk : 0 ≤ k ∧ k < ((W * H : Nat) : Int)
  · obtain ⟨hk1, hk2⟩ := toNat_in hk
    unfold hearK
    rw [if_pos hk]
    rcases h.rt with ⟨g, tot, cap, ht, hn⟩ | ⟨_, h0⟩
    · have := rknown_any w T g tot cap L W H N2 k.toNat ht hk1
      rw [hk2] at this
      exact this
    · rw [h0] at hk1; omega
  · unfold hearK
    rw [if_neg hk]
    rcases h.rt with ⟨g, tot, cap, ht, hn⟩ | ⟨h1, h0⟩
    · exact rknown_out w T _ _ _ k ht.blk (by omega)
    · exact rknown_out w T _ _ _ k h1 (by rw [h0] at hk; omega)
end
theorem hear_rs (l : List Int) (W H L : Nat) (k b : Int) (N : Nat → Nat → Nd) (t : RS) (h : RSok t) (hb : b ≤ 1000) (hL : L ≤ 7) : (hearD l W H L k b N t).2.2.1 ≤ t.1 + 7000 := by
  unfold hearD
  split
  · have := (decI_rs l W L k.toNat b N t h hb L).2
    simp only
    omega
  · simp only; omega
end Go.Proofs.Ytbkffpedigeflaa
