/-
  Trees beside other blocks. Conditions: none.
-/
import Derived.Test.YtbkffpedigeflaaTreesR
namespace Go.Proofs.Ytbkffpedigeflaa
open Go.RowKit

/-- Blocks that are no nodes, no writers and no bytes are as they were. -/
def Oth (w w' : World) : Prop := ∀ g (t : TypeId) cs, t ≠ 61 → t ≠ 65 → t ≠ 5 → Blk w g t cs → Blk w' g t cs
section
variable {w0 w w' : World} {m r L W H : Nat} {p Q : Nat → Nat} {N : Nat → Nat → Nat → Nd} {st : Nat → List Int × Int}
/-- A block that is none of theirs is written. -/
theorem TrS.other {R : Nat} {t : TypeId} {cs : Array Value} (h : TrS w0 m r p L W H N Q st w) (hb : Blk w R t cs) (t1 : 55 ≠ t) (t2 : 61 ≠ t) (t3 : 58 ≠ t) (t4 : 65 ≠ t) (t5 : 5 ≠ t) (hR : w0.heap.size ≤ R) (hk : Keep (fun k => k = R) w w') : TrS w0 m r p L W H N Q st w' := by
  obtain ⟨G, c, B, A, n, c', h⟩ := h
  have key : ∀ {g : Nat} {ty : TypeId} {cs : Array Value}, Blk w g ty cs → ty ≠ t → ¬ g = R := fun hg hn e => Blk.ne_ hg hb hn e
  refine ⟨G, c, B, A, n, c', fun i hi => ?_, h.sep, fun j hj => ?_, h.asep, h.qsep, h.inv, h.tnew, h.qnew, h.keep.trans hk (fun a ha e => by omega)⟩
  · have ht := h.tr i hi
    obtain ⟨cs, hg⟩ := ht.gt
    exact ht.keep hk (key ht.blk t1) (key hg t3) (fun i hi => key (ht.nd i hi) t2)
  · have hw := h.wr j hj
    exact hw.keep hk (key hw.blk t4) (fun ad e e' => own_ne hw.own hb t5 (by rw [e, ← e']; rfl))
/-- Set, on one of them. -/
theorem TrS.setO (h : TrS w0 m r p L W H N Q st w) {i : Nat} (hi : i < m) (k : Nat) (z : Int) (hk : k < W * H) :
    Calls Try.prog 11 #[.pointer (some ⟨p i, 0, none⟩), .int .i64 k, .int .i64 z] w fun e w' => e = .returned (.tuple #[]) ∧ TrS w0 m r p L W H (put N i (setI W H k z (N i) (L - 1))) Q st w' ∧ Oth w w' := by
  obtain ⟨G, c, B, A, n, c', h⟩ := h
  refine (set_any w (p i) (G i) (c i) L W H (B i) (N i) k z (h.tr i hi) hk).mono ?_
  rintro e w' ⟨rfl, ht, hkk⟩
  have hnt : ∀ g, NF L (B i) g → TF (p i) (G i) L (B i) g := fun g hg => .inr (.inr hg)
  have hoth : Oth w w' := fun g t cs h1 h2 h3 hb => hb.keep hkk (node_not (h.tr i hi) hb h1)
  refine ⟨rfl, ⟨G, c, B, A, n, c', fun j hj => ?_, h.sep, fun j hj => ?_, h.asep, h.qsep, h.inv, h.tnew, h.qnew, h.keep.trans hkk (fun a ha hf => by have := h.tnew i hi a (hnt a hf); omega)⟩, hoth⟩
  · by_cases e : j = i
    · subst e; rw [put_at]; exact ht
    · rw [put_ne _ _ e]
      have hs := fun g hg => h.sep j i hj hi e g hg
      exact (h.tr j hj).keep hkk (fun hf => hs _ (.inl rfl) (hnt _ hf)) (fun hf => hs _ (.inr (.inl rfl)) (hnt _ hf)) (fun a ha hf => hs _ (.inr (.inr ⟨a, ha, rfl⟩)) (hnt _ hf))
  · have hw := h.wr j hj
    refine hw.keep hkk (node_not (h.tr i hi) hw.blk (by decide)) (fun ad e hf => ?_)
    obtain ⟨a, ha, e'⟩ := hf
    exact own_ne hw.own ((h.tr i hi).nd a ha) (by decide) (by rw [e, e']; rfl)
/-- Encode, by one tree and one writer. -/
theorem TrS.encO (h : TrS w0 m r p L W H N Q st w) {i j : Nat} (hi : i < m) (hj : j < r) (k : Nat) (b : Int) (hk : k < W * H) (hb : -1000 ≤ b ∧ b ≤ 1000) (hl : (st j).1.length ≤ 536870912) :
    Calls Try.prog 13 #[.pointer (some ⟨p i, 0, none⟩), .pointer (some ⟨Q j, 0, none⟩), .int .i64 k, .int .i64 b] w fun e w' => e = .returned (.tuple #[]) ∧
      TrS w0 m r p L W H (put N i (encI W L k b (N i) L).2.1) Q (put st j (runM (st j) (encI W L k b (N i) L).2.2)) w' ∧ Oth w w' := by
  obtain ⟨G, c, B, A, n, c', h⟩ := h
  refine (enc_any w w0.heap.size (p i) (G i) (c i) L W H (B i) (N i) (Q j) (A j) (n j) (c' j) (st j) k b (h.tr i hi) (h.wr j hj) (h.inv j hj) h.keep.size hk hb hl).mono ?_
  rintro e w' ⟨rfl, ht, ⟨A1, n1, c1, hw', hg⟩, hkk⟩
  have hnt : ∀ g, NF L (B i) g → TF (p i) (G i) L (B i) g := fun g hg => .inr (.inr hg)
  have hwj := h.wr j hj
  have hft : ∀ g (t : TypeId) (cs : Array Value), Blk w g t cs → t ≠ 65 → t ≠ 5 → ¬ foot (Q j) (A j) g := by
    intro g t cs hb h1 h2 hf
    rcases hf with rfl | ⟨ad, e, rfl⟩
    · exact Blk.ne_ hb hwj.blk h1 rfl
    · exact own_ne hwj.own hb (Ne.symm h2) (by rw [e]; rfl)
  have hAn : ∀ j, j < r → ∀ ad, A j = some ad → w0.heap.size ≤ ad.block ∧ ad.block < w.heap.size := fun j hj ad e => (h.wr j hj).own.lt ad.block (by rw [e]; rfl)
  have hoth : Oth w w' := fun g t cs h1 h2 h3 hb => hb.keep hkk (fun hf => hf.elim (node_not (h.tr i hi) hb h1) (hft g t cs hb h2 h3))
  refine ⟨rfl, ⟨G, c, B, put A j A1, put n j n1, put c' j c1, fun i' hi' => ?_, h.sep, fun j' hj' => ?_, fun a b' ha hb' hab => ?_, h.qsep, fun j' hj' => ?_, h.tnew, h.qnew, h.keep.trans hkk (fun a ha hf => ?_)⟩, hoth⟩
  · by_cases e : i' = i
    · subst e; rw [put_at]; exact ht
    · rw [put_ne _ _ e]
      have hs := fun g hg => h.sep i' i hi' hi e g hg
      have h1 := h.tr i' hi'
      obtain ⟨cs, hgt⟩ := h1.gt
      refine h1.keep hkk (fun hf => ?_) (fun hf => ?_) (fun a ha hf => ?_)
      · rcases hf with hf | hf
        · exact hs _ (.inl rfl) (hnt _ hf)
        · exact hft _ _ _ h1.blk (by decide) (by decide) hf
      · rcases hf with hf | hf
        · exact hs _ (.inr (.inl rfl)) (hnt _ hf)
        · exact hft _ _ _ hgt (by decide) (by decide) hf
      · rcases hf with hf | hf
        · exact hs _ (.inr (.inr ⟨a, ha, rfl⟩)) (hnt _ hf)
        · exact hft _ _ _ (h1.nd a ha) (by decide) (by decide) hf
  · by_cases e : j' = j
    · subst e; rw [put_at, put_at, put_at, put_at]; exact hw'
    · rw [put_ne _ _ e, put_ne _ _ e, put_ne _ _ e, put_ne _ _ e]
      have h1 := h.wr j' hj'
      refine h1.keep hkk (fun hf => ?_) (fun ad ea hf => ?_)
      · rcases hf with hf | hf
        · exact node_not (h.tr i hi) h1.blk (by decide) hf
        · rcases hf with hf | ⟨ad, ea, hf⟩
          · exact h.qsep j' j hj' hj e hf
          · exact own_ne hwj.own h1.blk (by decide) (by rw [ea, ← hf]; rfl)
      · rcases hf with ⟨a, ha, hf⟩ | hf
        · exact own_ne h1.own ((h.tr i hi).nd a ha) (by decide) (by rw [ea, hf]; rfl)
        · rcases hf with hf | ⟨ad', ea', hf⟩
          · exact own_ne h1.own hwj.blk (by decide) (by rw [ea, ← hf]; rfl)
          · exact h.asep j' j hj' hj e ad ad' ea ea' hf.symm
  · have new : ∀ x, x < r → x ≠ j → ∀ a1 b1, A1 = some a1 → A x = some b1 → a1.block ≠ b1.block := fun x hx hxj a1 b1 e1 e2 => by
      rcases hg a1 e1 with ⟨a0, e0, h0⟩ | h0
      · rw [← h0]; exact fun hh => h.asep x j hx hj hxj b1 a0 e2 e0 hh.symm
      · have := (hAn x hx b1 e2).2; omega
    by_cases ea : a = j
    · subst ea
      rw [put_at, put_ne _ _ (Ne.symm hab)]
      exact new b' hb' (Ne.symm hab)
    · by_cases eb : b' = j
      · subst eb
        rw [put_at, put_ne _ _ ea]
        exact fun a1 b1 e1 e2 => Ne.symm (new a ha ea b1 a1 e2 e1)
      · rw [put_ne _ _ ea, put_ne _ _ eb]; exact h.asep a b' ha hb' hab
  · by_cases e : j' = j
    · subst e; rw [put_at]; exact runM_inv _ _ (h.inv j' hj')
    · rw [put_ne _ _ e]; exact h.inv j' hj'
  · rcases hf with hf | hf
    · have := h.tnew i hi a (hnt a hf); omega
    · rcases hf with rfl | ⟨ad, ea, rfl⟩
      · have := h.qnew j hj; omega
      · have := (hAn j hj ad ea).1; omega
end
end Go.Proofs.Ytbkffpedigeflaa
