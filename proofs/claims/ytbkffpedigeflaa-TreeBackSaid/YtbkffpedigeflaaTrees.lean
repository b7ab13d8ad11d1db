/-
  Some trees and writers side by side, and what a row of encodings leaves of them. Conditions: none.
-/
import Derived.Test.YtbkffpedigeflaaTreeNew
import Derived.Test.YtbkffpedigeflaaTreeEnc
import Derived.Test.YtbkffpedigeflaaTreeSet
import Derived.Test.YtbkffpedigeflaaTreeKnown
namespace Go.Proofs.Ytbkffpedigeflaa
open Go.RowKit

def put {α : Type} (f : Nat → α) (i : Nat) (x : α) : Nat → α := fun j => if j = i then x else f j
theorem put_at {α : Type} (f : Nat → α) (i : Nat) (x : α) : put f i x i = x := if_pos rfl
theorem put_ne {α : Type} (f : Nat → α) {i j : Nat} (x : α) (h : j ≠ i) : put f i x j = f j := if_neg h
/-- Trees p 0 .. and writers Q 0 .., none of which touches another. -/
structure Trs (w0 : World) (m r : Nat) (p : Nat → Nat) (L W H : Nat) (N : Nat → Nat → Nat → Nd) (Q : Nat → Nat) (st : Nat → List Int × Int) (G c : Nat → Nat) (B : Nat → Nat → Nat) (A : Nat → Option Addr) (n c' : Nat → Nat) (w : World) : Prop where
  tr : ∀ i, i < m → TrG w (p i) (G i) (c i) L W H (B i) (N i)
  sep : ∀ i j, i < m → j < m → i ≠ j → ∀ k, TF (p i) (G i) L (B i) k → ¬ TF (p j) (G j) L (B j) k
  wr : ∀ j, j < r → Wr w w0.heap.size (Q j) (A j) (n j) (c' j) (st j).1 (st j).2
  asep : ∀ i j, i < r → j < r → i ≠ j → ∀ a b, A i = some a → A j = some b → a.block ≠ b.block
  qsep : ∀ i j, i < r → j < r → i ≠ j → Q i ≠ Q j
  inv : ∀ j, j < r → BInv (st j).1 (st j).2
  tnew : ∀ i, i < m → ∀ k, TF (p i) (G i) L (B i) k → w0.heap.size ≤ k
  qnew : ∀ j, j < r → w0.heap.size ≤ Q j
  keep : Keep (fun _ => False) w0 w
/-- The like; where what lies is left open. -/
def TrS (w0 : World) (m r : Nat) (p : Nat → Nat) (L W H : Nat) (N : Nat → Nat → Nat → Nd) (Q : Nat → Nat) (st : Nat → List Int × Int) (w : World) : Prop := ∃ G c B A n c', Trs w0 m r p L W H N Q st G c B A n c' w
theorem TrG.tf_lt {w : World} {p G c L W H : Nat} {B : Nat → Nat} {N : Nat → Nat → Nd} (h : TrG w p G c L W H B N) : ∀ k, TF p G L B k → k < w.heap.size := by
  intro k hk
  rcases hk with rfl | rfl | ⟨i, hi, rfl⟩
  · exact h.blk.lt
  · obtain ⟨cs, hg⟩ := h.gt
    exact hg.lt
  · exact (h.nd i hi).lt
section
variable {w0 w w' : World} {m r L W H : Nat} {p Q : Nat → Nat} {N : Nat → Nat → Nat → Nd} {st : Nat → List Int × Int}
theorem TrS.keeps (h : TrS w0 m r p L W H N Q st w) : Keep (fun _ => False) w0 w := by
  obtain ⟨G, c, B, A, n, c', h⟩ := h
  exact h.keep
theorem TrS.aside (h : TrS w0 m r p L W H N Q st w) (hk : Keep (fun _ => False) w w') : TrS w0 m r p L W H N Q st w' := by
  obtain ⟨G, c, B, A, n, c', h⟩ := h
  exact ⟨G, c, B, A, n, c', fun i hi => (h.tr i hi).aside hk, h.sep, fun j hj => (h.wr j hj).keep hk (fun h => h) (fun _ _ h => h), h.asep, h.qsep, h.inv, h.tnew, h.qnew, h.keep.trans hk (fun _ _ h => h)⟩
theorem TrS.start (hk : Keep (fun _ => False) w0 w) : TrS w0 0 0 p L W H N Q st w :=
  ⟨p, p, fun _ => p, fun _ => none, p, p, fun i hi => by omega, fun i j hi => by omega, fun j hj => by omega, fun i j hi => by omega, fun i j hi => by omega, fun j hj => by omega, fun i hi => by omega, fun j hj => by omega, hk⟩
/-- One tree more. -/
theorem TrS.tree (h : TrS w0 m r p L W H N Q st w) {P G1 c1 : Nat} {B1 : Nat → Nat} {N1 : Nat → Nat → Nd} (ht : TrG w' P G1 c1 L W H B1 N1) (hn : ∀ k, TF P G1 L B1 k → w.heap.size ≤ k) (hk : Keep (fun _ => False) w w') {p' : Nat → Nat} {N' : Nat → Nat → Nat → Nd} (hp : ∀ i, i < m → p' i = p i) (hP : p' m = P) (hN : ∀ i, i < m → N' i = N i) (hN1 : N' m = N1) :
    TrS w0 (m + 1) r p' L W H N' Q st w' := by
  obtain ⟨G, c, B, A, n, c', h⟩ := h
  have ha := fun i hi => (h.tr i hi).aside hk
  have key : ∀ i, i < m → ∀ k, TF (p i) (G i) L (B i) k → ¬ TF P G1 L B1 k := fun i hi k h1 h2 => by
    have := (h.tr i hi).tf_lt k h1
    have := hn k h2
    omega
  have e1 : ∀ {α : Type} (f : Nat → α) (x : α) (i : Nat), i < m → put f m x i = f i := fun f x i hi => put_ne f x (by omega)
  refine ⟨put G m G1, put c m c1, put B m B1, A, n, c', fun i hi => ?_, fun i j hi hj hij => ?_, fun j hj => (h.wr j hj).keep hk (fun h => h) (fun _ _ h => h), h.asep, h.qsep, h.inv, fun i hi => ?_, h.qnew, h.keep.trans hk (fun _ _ h => h)⟩
  · by_cases e : i = m
    · subst e; rw [hP, hN1, put_at, put_at, put_at]; exact ht
    · have hi : i < m := by omega
      rw [hp i hi, hN i hi, e1 _ _ _ hi, e1 _ _ _ hi, e1 _ _ _ hi]; exact ha i hi
  · by_cases ei : i = m
    · subst ei
      have hj : j < i := by omega
      rw [hP, hp j hj, put_at, put_at, e1 _ _ _ hj, e1 _ _ _ hj]
      exact fun k h1 h2 => key j hj k h2 h1
    · have hi : i < m := by omega
      by_cases ej : j = m
      · subst ej
        rw [hP, hp i hi, put_at, put_at, e1 _ _ _ hi, e1 _ _ _ hi]
        exact fun k h1 h2 => key i hi k h1 h2
      · have hj : j < m := by omega
        rw [hp i hi, hp j hj, e1 _ _ _ hi, e1 _ _ _ hj, e1 _ _ _ hi, e1 _ _ _ hj]
        exact h.sep i j hi hj hij
  · by_cases e : i = m
    · subst e; rw [hP, put_at, put_at]; exact fun k hk' => Nat.le_trans h.keep.size (hn k hk')
    · have hi : i < m := by omega
      rw [hp i hi, e1 _ _ _ hi, e1 _ _ _ hi]; exact h.tnew i hi
/-- One writer more. -/
theorem TrS.writer (h : TrS w0 m r p L W H N Q st w) {Q1 : Nat} (hq : Wr w' w.heap.size Q1 .none 0 0 [] 0) (hn : w.heap.size ≤ Q1) (hk : Keep (fun _ => False) w w') {Q' : Nat → Nat} {st' : Nat → List Int × Int} (hp : ∀ i, i < r → Q' i = Q i) (hP : Q' r = Q1) (hN : ∀ i, i < r → st' i = st i) (hN1 : st' r = ([], 0)) :
    TrS w0 m (r + 1) p L W H N Q' st' w' := by
  obtain ⟨G, c, B, A, n, c', h⟩ := h
  have e1 : ∀ {α : Type} (f : Nat → α) (x : α) (i : Nat), i < r → put f r x i = f i := fun f x i hi => put_ne f x (by omega)
  have key : ∀ j, j < r → Q j < w.heap.size := fun j hj => (h.wr j hj).blk.lt
  refine ⟨G, c, B, put A r .none, put n r 0, put c' r 0, fun i hi => (h.tr i hi).aside hk, h.sep, fun j hj => ?_, fun i j hi hj hij => ?_, fun i j hi hj hij => ?_, fun j hj => ?_, h.tnew, fun j hj => ?_, h.keep.trans hk (fun _ _ h => h)⟩
  · by_cases e : j = r
    · subst e; rw [hP, hN1, put_at, put_at, put_at]; exact ⟨hq.blk, own_mono hq.own h.keep.size⟩
    · have hj : j < r := by omega
      rw [hp j hj, hN j hj, e1 _ _ _ hj, e1 _ _ _ hj, e1 _ _ _ hj]; exact (h.wr j hj).keep hk (fun h => h) (fun _ _ h => h)
  · by_cases ei : i = r
    · subst ei; rw [put_at]; intro a b ha; cases ha
    · by_cases ej : j = r
      · subst ej; rw [put_at]; intro a b _ hb; cases hb
      · rw [e1 _ _ _ (show i < r by omega), e1 _ _ _ (show j < r by omega)]; exact h.asep i j (by omega) (by omega) hij
  · by_cases ei : i = r
    · subst ei
      have := key j (by omega)
      rw [hP, hp j (by omega)]; omega
    · by_cases ej : j = r
      · subst ej
        have := key i (by omega)
        rw [hP, hp i (by omega)]; omega
      · rw [hp i (by omega), hp j (by omega)]; exact h.qsep i j (by omega) (by omega) hij
  · by_cases e : j = r
    · subst e; rw [hN1]; exact BInv.nil
    · rw [hN j (by omega)]; exact h.inv j (by omega)
  · by_cases e : j = r
    · subst e; rw [hP]; exact Nat.le_trans h.keep.size hn
    · rw [hp j (by omega)]; exact h.qnew j (by omega)
theorem node_not {g : Nat} {t : TypeId} {cs : Array Value} {pp G c : Nat} {B : Nat → Nat} {N1 : Nat → Nat → Nd} (h : TrG w pp G c L W H B N1) (hb : Blk w g t cs) (ht : t ≠ 61) : ¬ NF L B g := by
  rintro ⟨i, hi, rfl⟩
  exact Blk.ne_ hb (h.nd i hi) ht rfl
/-- Set, on one of them. -/
theorem TrS.set (h : TrS w0 m r p L W H N Q st w) {i : Nat} (hi : i < m) (k : Nat) (z : Int) (hk : k < W * H) :
    Calls Try.prog 11 #[.pointer (some ⟨p i, 0, none⟩), .int .i64 k, .int .i64 z] w fun e w' => e = .returned (.tuple #[]) ∧ TrS w0 m r p L W H (put N i (setI W H k z (N i) (L - 1))) Q st w' := by
  obtain ⟨G, c, B, A, n, c', h⟩ := h
  refine (set_any w (p i) (G i) (c i) L W H (B i) (N i) k z (h.tr i hi) hk).mono ?_
  rintro e w' ⟨rfl, ht, hkk⟩
  have hnt : ∀ g, NF L (B i) g → TF (p i) (G i) L (B i) g := fun g hg => .inr (.inr hg)
  refine ⟨rfl, G, c, B, A, n, c', fun j hj => ?_, h.sep, fun j hj => ?_, h.asep, h.qsep, h.inv, h.tnew, h.qnew, h.keep.trans hkk (fun a ha hf => by have := h.tnew i hi a (hnt a hf); omega)⟩
  · by_cases e : j = i
    · subst e; rw [put_at]; exact ht
    · rw [put_ne _ _ e]
      have hs := fun g hg => h.sep j i hj hi e g hg
      exact (h.tr j hj).keep hkk (fun hf => hs _ (.inl rfl) (hnt _ hf)) (fun hf => hs _ (.inr (.inl rfl)) (hnt _ hf)) (fun a ha hf => hs _ (.inr (.inr ⟨a, ha, rfl⟩)) (hnt _ hf))
  · have hw := h.wr j hj
    refine hw.keep hkk (node_not (h.tr i hi) hw.blk (by decide)) (fun ad e hf => ?_)
    obtain ⟨a, ha, e'⟩ := hf
    exact own_ne hw.own ((h.tr i hi).nd a ha) (by decide) (by rw [e, e']; rfl)
/-- Encode, by one tree and one writer. -/
theorem TrS.enc (h : TrS w0 m r p L W H N Q st w) {i j : Nat} (hi : i < m) (hj : j < r) (k : Nat) (b : Int) (hk : k < W * H) (hb : -1000 ≤ b ∧ b ≤ 1000) (hl : (st j).1.length ≤ 536870912) :
    Calls Try.prog 13 #[.pointer (some ⟨p i, 0, none⟩), .pointer (some ⟨Q j, 0, none⟩), .int .i64 k, .int .i64 b] w fun e w' => e = .returned (.tuple #[]) ∧
      TrS w0 m r p L W H (put N i (encI W L k b (N i) L).2.1) Q (put st j (runM (st j) (encI W L k b (N i) L).2.2)) w' := by
  obtain ⟨G, c, B, A, n, c', h⟩ := h
  refine (enc_any w w0.heap.size (p i) (G i) (c i) L W H (B i) (N i) (Q j) (A j) (n j) (c' j) (st j) k b (h.tr i hi) (h.wr j hj) (h.inv j hj) h.keep.size hk hb hl).mono ?_
  rintro e w' ⟨rfl, ht, ⟨A1, n1, c1, hw', hg⟩, hkk⟩
  have hnt : ∀ g, NF L (B i) g → TF (p i) (G i) L (B i) g := fun g hg => .inr (.inr hg)
  have hwj := h.wr j hj
  have hft : ∀ g (t : TypeId) (cs : Array Value), Blk w g t cs → t ≠ 65 → t ≠ 5 → ¬ foot (Q j) (A j) g := by
    intro g t cs hb h1 h2 hf
    rcases hf with rfl | ⟨ad, e, rfl⟩
    · exact Blk.ne_ hb hwj.blk h1 rfl
    · exact own_ne hwj.own hb (Ne.symm h2) (by rw [e]; rfl)
  have hAn : ∀ j, j < r → ∀ ad, A j = some ad → w0.heap.size ≤ ad.block ∧ ad.block < w.heap.size := fun j hj ad e => (h.wr j hj).own.lt ad.block (by rw [e]; rfl)
  refine ⟨rfl, G, c, B, put A j A1, put n j n1, put c' j c1, fun i' hi' => ?_, h.sep, fun j' hj' => ?_, fun a b' ha hb' hab => ?_, h.qsep, fun j' hj' => ?_, h.tnew, h.qnew, h.keep.trans hkk (fun a ha hf => ?_)⟩
  · by_cases e : i' = i
    · subst e; rw [put_at]; exact ht
    · rw [put_ne _ _ e]
      have hs := fun g hg => h.sep i' i hi' hi e g hg
      have h1 := h.tr i' hi'
      obtain ⟨cs, hgt⟩ := h1.gt
      refine h1.keep hkk (fun hf => ?_) (fun hf => ?_) (fun a ha hf => ?_)
      · rcases hf with hf | hf
        · exact hs _ (.inl rfl) (hnt _ hf)
        · exact hft _ _ _ h1.blk (by decide) (by decide) hf
      · rcases hf with hf | hf
        · exact hs _ (.inr (.inl rfl)) (hnt _ hf)
        · exact hft _ _ _ hgt (by decide) (by decide) hf
      · rcases hf with hf | hf
        · exact hs _ (.inr (.inr ⟨a, ha, rfl⟩)) (hnt _ hf)
        · exact hft _ _ _ (h1.nd a ha) (by decide) (by decide) hf
  · by_cases e : j' = j
    · subst e; rw [put_at, put_at, put_at, put_at]; exact hw'
    · rw [put_ne _ _ e, put_ne _ _ e, put_ne _ _ e, put_ne _ _ e]
      have h1 := h.wr j' hj'
      refine h1.keep hkk (fun hf => ?_) (fun ad ea hf => ?_)
      · rcases hf with hf | hf
        · exact node_not (h.tr i hi) h1.blk (by decide) hf
        · rcases hf with hf | ⟨ad, ea, hf⟩
          · exact h.qsep j' j hj' hj e hf
          · exact own_ne hwj.own h1.blk (by decide) (by rw [ea, ← hf]; rfl)
      · rcases hf with ⟨a, ha, hf⟩ | hf
        · exact own_ne h1.own ((h.tr i hi).nd a ha) (by decide) (by rw [ea, hf]; rfl)
        · rcases hf with hf | ⟨ad', ea', hf⟩
          · exact own_ne h1.own hwj.blk (by decide) (by rw [ea, ← hf]; rfl)
          · exact h.asep j' j hj' hj e ad ad' ea ea' hf.symm
  · have new : ∀ x, x < r → x ≠ j → ∀ a1 b1, A1 = some a1 → A x = some b1 → a1.block ≠ b1.block := fun x hx hxj a1 b1 e1 e2 => by
      rcases hg a1 e1 with ⟨a0, e0, h0⟩ | h0
      · rw [← h0]; exact fun hh => h.asep x j hx hj hxj b1 a0 e2 e0 hh.symm
      · have := (hAn x hx b1 e2).2; omega
    by_cases ea : a = j
    · subst ea
      rw [put_at, put_ne _ _ (Ne.symm hab)]
      exact new b' hb' (Ne.symm hab)
    · by_cases eb : b' = j
      · subst eb
        rw [put_at, put_ne _ _ ea]
        exact fun a1 b1 e1 e2 => Ne.symm (new a ha ea b1 a1 e2 e1)
      · rw [put_ne _ _ ea, put_ne _ _ eb]; exact h.asep a b' ha hb' hab
  · by_cases e : j' = j
    · subst e; rw [put_at]; exact runM_inv _ _ (h.inv j' hj')
    · rw [put_ne _ _ e]; exact h.inv j' hj'
  · rcases hf with hf | hf
    · have := h.tnew i hi a (hnt a hf); omega
    · rcases hf with rfl | ⟨ad, ea, rfl⟩
      · have := h.qnew j hj; omega
      · have := (hAn j hj ad ea).1; omega
/-- Bytes, of one writer. -/
theorem TrS.bytes (h : TrS w0 m r p L W H N Q st w) {j : Nat} (hj : j < r) (hl : (st j).1.length ≤ 1073741824) :
    Calls Try.prog 14 #[.pointer (some ⟨Q j, 0, none⟩)] w fun e w' => ∃ A' n' c', e = .returned (.slice A' n' c') ∧
      w'.ownsRow w.heap.size 5 1 (.slice A' n' c') n' ((outB (st j).1).map (Value.int .u8)) ∧ Keep (fun _ => False) w w' := by
  obtain ⟨G, c, B, A, n, c', h⟩ := h
  have hw := h.wr j hj
  exact bytes_any w w0.heap.size (Q j) (A j) (n j) (c' j) (st j).1 (st j).2 hw (by rw [← hw.len]; exact hl)
/-- Known, of one tree. -/
theorem TrS.knows (h : TrS w0 m r p L W H N Q st w) {i : Nat} (hi : i < m) (k : Nat) (hk : k < W * H) :
    Calls Try.prog 17 #[.pointer (some ⟨p i, 0, none⟩), .int .i64 k] w fun e w' => e = .returned (.int .i64 (knownM (N i 0 k))) ∧ Keep (fun _ => False) w w' := by
  obtain ⟨G, c, B, A, n, c', h⟩ := h
  exact known_any w (p i) (G i) (c i) L W H (B i) (N i) k (h.tr i hi) hk
theorem TrS.lev (h : TrS w0 m r p L W H N Q st w) (hm : 0 < m) : Lev W H L := by
  obtain ⟨G, c, B, A, n, c', h⟩ := h
  exact (h.tr 0 hm).lev
theorem TrS.inv (h : TrS w0 m r p L W H N Q st w) {j : Nat} (hj : j < r) : BInv (st j).1 (st j).2 := by
  obtain ⟨G, c, B, A, n, c', h⟩ := h
  exact h.inv j hj
end
/-- A row of encodings: the tree and the writer behind j of them. -/
def runT (W L : Nat) (f : Nat → Nat) (b : Nat → Int) (N : Nat → Nat → Nd) (s : List Int × Int) : Nat → (Nat → Nat → Nd) × (List Int × Int)
  | 0 => (N, s)
  | j + 1 => ((encI W L (f j) (b j) (runT W L f b N s j).1 L).2.1, runM (runT W L f b N s j).2 (encI W L (f j) (b j) (runT W L f b N s j).1 L).2.2)
theorem runT_len (W L : Nat) (f : Nat → Nat) (b : Nat → Int) (N : Nat → Nat → Nd) (s : List Int × Int) (hL : L ≤ 7) (hb : ∀ j, b j ≤ 1000) : ∀ j, (runT W L f b N s j).2.1.length ≤ s.1.length + 7007 * j
  | 0 => by simp [runT]
  | j + 1 => by
    have h1 := runT_len W L f b N s hL hb j
    have h2 := runM_length (encI W L (f j) (b j) (runT W L f b N s j).1 L).2.2 (runT W L f b N s j).2
    have h3 := encI_len W L (f j) (b j) (runT W L f b N s j).1 (hb j) L
    show (runM (runT W L f b N s j).2 (encI W L (f j) (b j) (runT W L f b N s j).1 L).2.2).1.length ≤ _
    omega
end Go.Proofs.Ytbkffpedigeflaa
