/-
  Part 42 of the proof: FillS. Conditions: those of the statements.
-/
import Derived.Test.YthfogcgdijmaoaaGreatJ16
import Derived.Test.YthfogcgdijmaoaaGreatJ25
import Derived.Test.YthfogcgdijmaoaaGreatJ39
import Derived.Test.YthfogcgdijmaoaaGreatJ41
set_option maxRecDepth 100000
set_option maxHeartbeats 16000000
set_option linter.unusedVariables false
set_option linter.unusedSimpArgs false
namespace Go.Proofs.YthfogcgdijmaoaaGreat
open Go.RowKit
section
variable {t91 :TypeId} {G G':Nat→Option Kd} {w0 w w':World} {us:List Un} {bl:Option (Nat×Array Value)}
theorem Wk.kinds {S:Nat→Prop} (h:Wk t91 G w0 us bl w) (hk:Keep S w w') (hS: ∀j,S j→G j≠none∧G j≠some .ro) (hF:Fits G w0.heap.size w'):Wk t91 G w0 us bl w'∧Nx G w G w':=by
 refine⟨⟨hF,h.keep.new hk (fun j hj=>?_),fun i u hu=>?_,h.ap,fun g cs hg=>?_⟩,Mono.refl,S,hk,fun j hj=>(hS j hj).2⟩
 · cases e:G j with
   |none=>exact absurd e (hS j hj).1
   |some q=>exact(h.fits.at_ j q e).1
 · obtain⟨h1,h2⟩:=h.un i u hu
   refine⟨own_keep h1 hk (fun j e hs=>?_),h2⟩
   obtain⟨a,ea,rfl⟩:=own_some e
   exact(hS _ hs).1 (h2 a ea)
 · obtain⟨h1,h2,h3,h4⟩:=h.bk g cs hg
   exact⟨h1.keep hk (fun hs=>(hS _ hs).1 h2),h2,h3,h4⟩
theorem Wk.store (h:Wk t91 G w0 us none w) (i:Nat) {u:Un} (hu:us[i]?=some u) (hs:u.size=1) {j:Nat} (hj:j<u.n) (v:Value):
 ∃g,u.A=some ⟨g,0,none⟩∧(∀ k x,u.xs[k]?=some x→w.cell? ⟨g,k,none⟩=some x)∧(∀ k,w.frozen? ⟨g,k,none⟩=false)∧Wk t91 G w0 (us.set i { u with xs:=u.xs.set j v }) none (w.setCell ⟨g,j,none⟩ v)∧Nx G w G (w.setCell ⟨g,j,none⟩ v):=by
 obtain⟨h1,h2⟩:=h.un i u hu
 obtain⟨e,size,A,n,c,xs⟩:=u
 subst hs
 obtain⟨g,hA,_,_,hc,hf⟩:=own_at h1 (by show 0<n;exact Nat.lt_of_le_of_lt (Nat.zero_le _) hj)
 have hA':A=some ⟨g,0,none⟩:=hA
 subst hA'
 have hk:=Keep.set1 w g j v
 have hx:=h.row i (u':=⟨e,1,some ⟨g,0,none⟩,n,c,xs.set j v⟩) hu (World.ownsRow.stored h1 j v).1 (hk.mono (fun k _ e=>by rw [show k=g from e];rfl)) (fun k hk'=>.inl hk')
 exact⟨g,rfl,hc,hf,hx.1,hx.2⟩
end
def RowsOk (G:Nat→Option Kd) (w:World) (vs:List Value) (ls:List Int):Prop:=vs.length=ls.length∧ ∀(i:Nat) (v:Value),vs[i]?=some v→ ∃(A:Option Addr) (n c:Nat) (zs:List Int),v=.slice A n c∧ls[i]?=some (n:Int)∧n≤c∧Ro G w A n 1 (zs.map (Value.int .i64))
section
variable {G G':Nat→Option Kd} {w w':World} {vs:List Value} {ls:List Int}
theorem RowsOk.nx (h:RowsOk G w vs ls) (hx:Nx G w G' w'):RowsOk G' w' vs ls:=⟨h.1,fun i v hv=>by
 obtain⟨A,n,c,zs,h1,h2,h3,h4⟩:=h.2 i v hv
 exact⟨A,n,c,zs,h1,h2,h3,h4.nx hx⟩⟩
theorem RowsOk.nil :RowsOk G w [] []:=⟨rfl,fun i v h=>by simp at h⟩
theorem RowsOk.snoc (h:RowsOk G w vs ls) {A:Option Addr} {n c:Nat} {zs:List Int} (hc:n≤c) (hr:Ro G w A n 1 (zs.map (Value.int .i64))):RowsOk G w (vs++[.slice A n c]) (ls++[(n:Int)]):=by
 refine⟨by simp [h.1],fun i v hv=>?_⟩
 rcases Nat.lt_trichotomy i vs.length with h1|h1|h1
 · rw [List.getElem?_append_left h1]at hv
   obtain⟨A',n',c',zs',a1,a2,a3,a4⟩:=h.2 i v hv
   exact⟨A',n',c',zs',a1,by rw [List.getElem?_append_left (by rw [← h.1];exact h1)];exact a2,a3,a4⟩
 · subst h1
   simp at hv
   subst hv
   exact⟨A,n,c,zs,rfl,by rw [h.1];simp,hc,hr⟩
 · rw [List.getElem?_append_right (by omega),List.getElem?_eq_none (by simp;omega)]at hv;cases hv
theorem RowsOk.set (h:RowsOk G w vs ls) {i:Nat} {A:Option Addr} {n c:Nat} {zs:List Int} (hi:ls[i]?=some (n:Int)) (hc:n≤c) (hr:Ro G w A n 1 (zs.map (Value.int .i64))):RowsOk G w (vs.set i (.slice A n c)) ls:=by
 refine⟨by simp [h.1],fun j v hv=>?_⟩
 by_cases e:i=j
 · subst e
   have hl:i<vs.length:=by rw [h.1];exact(List.getElem?_eq_some_iff.1 hi).1
   rw [List.getElem?_set_self hl]at hv
   injection hv with hv
   subst hv
   exact⟨A,n,c,zs,rfl,hi,hc,hr⟩
 · rw [List.getElem?_set_ne e]at hv
   exact h.2 j v hv
theorem RowsOk.of_rr {t91:TypeId} {w0:World} {us:List Un} {bl:Option (Nat×Array Value)} (h:Wk t91 G w0 us bl w) (hr:RR w' w.heap.size vs ls):RowsOk (roF G w.heap.size w'.heap.size) w' vs ls:=
 ⟨hr.len,fun i v hv=>by
  obtain⟨k,h1,n,A,c,e1,e2,hc,zs,_,ho⟩:=hr.at_ i v hv
  subst e1
  exact⟨A,n,c,zs,e2,h1,hc,h.ro (RdS.of_own ho) (fun a e=>own_blt ho e)⟩⟩
end
structure Fl0 (G:Nat→Option Kd) (w:World) (s:Nat) (m:Im) (p:Pm):Prop where
 bm:RoB G w s 29 m.cells
 bp:RoB G w (s+1) 31 p.cells
theorem Fl0.nx {G G':Nat→Option Kd} {w w':World} {s:Nat} {m:Im} {p:Pm} (h:Fl0 G w s m p) (hx:Nx G w G' w'):Fl0 G' w' s m p:=⟨h.bm.nx hx,h.bp.nx hx⟩
structure InOk (G:Nat→Option Kd) (base NB:Nat) (w:World) (lev prec:Nat) (t:Rc) (cs:List Cm) (A:Option Addr) (outs:List Pln):Prop where
 row:Ro G w A outs.length 7 (fl Pln.cells outs)
 ok:OutsOk G base NB w lev prec t cs outs
 len:outs.length=cs.length
theorem InOk.nx {G G':Nat→Option Kd} {base NB:Nat} {w w':World} {lev prec:Nat} {t:Rc} {cs:List Cm} {A:Option Addr} {outs:List Pln} (h:InOk G base NB w lev prec t cs A outs) (hx:Nx G w G' w'):InOk G' base NB w' lev prec t cs A outs:=⟨h.row.nx hx,h.ok.nx hx,h.len⟩
def FillP (G:Nat→Option Kd) (w0 w:World) (e:Ending) (w':World):Prop:=e=.returned (.tuple #[])∧ ∃G',Wk 91 G' w0 [] none w'∧Nx G w G' w'
structure PicOk (w0:World) (m:Im) (p:Pm) (t:Rc) (cs:List Cm):Prop where
 row:RdS w0 m.A m.n 5 (cms cs)
 len:cs.length=m.n
 ok: ∀c∈cs,CmOk c
 d10: ∀c∈cs,c.depth≤10
 area: ∀c∈cs,(m.whole.part c.dx c.dy).area=(c.n:Int)
 cap: ∀c∈cs,c.n≤c.c
 zs: ∀c∈cs,∃zs:List Int,Rd w0 c.A c.n (zs.map (Value.int .i64))
 n4:m.n≤4
 whole:m.whole.ok 12 17
 sub:t.sub m.whole
 pm:PmOk p
 lay:p.lay≤4
 lay1:1≤p.lay
 rct:p.rct=true→3≤m.n∧ ∀c∈cs,c.dx=1∧c.dy=1
end Go.Proofs.YthfogcgdijmaoaaGreat
