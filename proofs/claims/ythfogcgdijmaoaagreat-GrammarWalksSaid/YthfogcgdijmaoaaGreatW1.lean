/-
  Part 1 of the proof: Mem. Conditions: those of the statements.
-/
import Derived.WalkKit
import Derived.WalkSpells
import Derived.Handy
import Derived.Deep.AppendLies
import Derived.Deep.Draws
import Derived.Maps.AppendAt
import Derived.IntWalk
set_option maxRecDepth 100000
set_option maxHeartbeats 16000000
set_option linter.unusedVariables false
set_option linter.unusedSimpArgs false
namespace Go.Proofs.YthfogcgdijmaoaaGreat
open Go.RowKit
theorem hid {p:Prop} (h:p):Hid p:=h
theorem block_add (a:Addr) (n:Nat):(a.add n).block=a.block:=by unfold Addr.add;split<;>rfl
theorem add_add' (a:Addr) (i j:Nat):(a.add i).add j=a.add (i+j):=by
 unfold Addr.add
 by_cases hi:i=0<;>by_cases hj:j=0<;>simp [hi,hj,Nat.add_assoc]
theorem add_lit' (b o j:Nat):(⟨b,o,none⟩:Addr).add j=⟨b,o+j,none⟩:=by unfold Addr.add;split<;>simp_all
structure Keep (S:Nat→Prop) (w w':World):Prop where
 os:w'.os=w.os
 tape:w'.tape=w.tape
 output:w'.output=w.output
 size:w.heap.size≤w'.heap.size
 block: ∀k,k<w.heap.size→ ¬S k→w'.heap[k]? =w.heap[k]?
theorem Keep.refl (S:Nat→Prop) (w:World):Keep S w w:=⟨rfl,rfl,rfl,Nat.le_refl _,fun _ _ _=>rfl⟩
theorem Keep.trans {S T:Nat→Prop} {a b c:World} (h:Keep S a b) (k:Keep T b c) (hT: ∀i,i<a.heap.size→T i→S i):Keep S a c:=
 ⟨k.os.trans h.os,k.tape.trans h.tape,k.output.trans h.output,Nat.le_trans h.size k.size,
  fun i hi hS=>(k.block i (Nat.lt_of_lt_of_le hi h.size) (fun ht=>hS (hT i hi ht))).trans (h.block i hi hS)⟩
theorem Keep.mono {S T:Nat→Prop} {a b:World} (h:Keep S a b) (hT: ∀i,i<a.heap.size→S i→T i):Keep T a b:=
 ⟨h.os,h.tape,h.output,h.size,fun i hi hS=>h.block i hi (fun hs=>hS (hT i hi hs))⟩
theorem Keep.drew {S:Nat→Prop} {a w:World} (h:Keep S a w):Keep S a w.drew:=⟨h.os,h.tape,h.output,h.size,h.block⟩
theorem Keep.undrew {S:Nat→Prop} {w w':World} (h:Keep S w.drew w'):Keep S w w':=⟨h.os,h.tape,h.output,h.size,h.block⟩
theorem Keep.drewN {S:Nat→Prop} {a w:World} (h:Keep S a w) (n:Nat):Keep S a (w.drewN n):=⟨h.os,h.tape,h.output,h.size,h.block⟩
theorem Keep.alloc {S:Nat→Prop} {a w:World} (h:Keep S a w) (o:Obj):Keep S a (w.alloc o):=
 ⟨h.os,h.tape,h.output,Nat.le_trans h.size (by simp),fun i hi hS=>(Below.heap_alloc w o i (Nat.lt_of_lt_of_le hi h.size)).trans (h.block i hi hS)⟩
theorem Keep.setCell {S:Nat→Prop} {a w:World} (h:Keep S a w) {p:Addr} (hp:S p.block∨a.heap.size≤p.block) (u:Value):Keep S a (w.setCell p u):=
 ⟨h.os,h.tape,h.output,by simpa [World.setCell]using h.size,fun i hi hS=>(Below.heap_setCell w p u i (by
  rintro rfl
  rcases hp with hp|hp
  · exact hS hp
  · omega)).trans (h.block i hi hS)⟩
theorem Keep.set1 (w:World) (R i:Nat) (u:Value):Keep (fun k=>k=R) w (w.setCell ⟨R,i,none⟩ u):=Keep.setCell (S:=fun k=>k=R) (Keep.refl _ w) (p:=⟨R,i,none⟩) (.inl rfl) u
theorem Keep.setR {R:Nat} {a w:World} (h:Keep (fun k=>k=R) a w) (i:Nat) (u:Value):Keep (fun k=>k=R) a (w.setCell ⟨R,i,none⟩ u):=Keep.setCell (S:=fun k=>k=R) h (p:=⟨R,i,none⟩) (.inl rfl) u
theorem Keep.grown {S:Nat→Prop} {a w w':World} {row:Option Nat} (h:Keep S a w) (hg:w.grownBy w' row) (hr: ∀k,row=some k→S k∨a.heap.size≤k):Keep S a w':=
 ⟨hg.os.trans h.os,hg.tape.trans h.tape,hg.output.trans h.output,Nat.le_trans h.size hg.size,
  fun i hi hS=>(hg.block i (Nat.lt_of_lt_of_le hi h.size) (fun e=>by
   rcases hr i e.symm with hx|hx
   · exact hS hx
   · omega)).trans (h.block i hi hS)⟩
theorem Keep.below {S:Nat→Prop} {a w:World} (h:Keep S a w) {B:Nat} (hB:B≤a.heap.size) (hS: ∀k,S k→B≤k):Below B a w:=
 ⟨h.os,h.tape,h.output,h.size,fun k hk=>h.block k (by omega) (fun hs=>by have:=hS k hs;omega)⟩
theorem Keep.cell {S:Nat→Prop} {a w:World} (h:Keep S a w) {p:Addr} {u:Value} (hc:a.cell? p=some u) (hS: ¬S p.block):w.cell? p=some u:=
 (World.cell?_of_block (w:=a) (h.block p.block (World.block_lt_of_cell? _ _ hc) hS)).trans hc
theorem Keep.new {T:Nat→Prop} {a b c:World} (h:Keep (fun _=>False) a b) (k:Keep T b c) (hT: ∀i,T i→a.heap.size≤i):Keep (fun _=>False) a c:=
 h.trans k (fun i hi ht=>by have:=hT i ht;omega)
def Rd (w:World) (A:Option Addr) (n:Nat) (xs:List Value):Prop:=
 xs.length=n∧(0<n→ ∃ad,A=some ad∧ ∀j u,xs[j]? =some u→w.cell? (ad.add j)=some u)
section
variable {w w':World} {n:Nat} {A:Option Addr} {xs:List Value}
theorem Rd.nil (A:Option Addr):Rd w A 0 []:=⟨rfl,fun h=>absurd h (by omega)⟩
theorem Rd.at_ {k:Nat} (h:Rd w A n xs) (hk:k<n): ∃ad,A=some ad∧w.cell? (ad.add k)=some (xs.getD k undef):=by
 obtain⟨ad,e,hc⟩:=h.2 (by omega)
 have hl:k<xs.length:=by have:=h.1;omega
 exact⟨ad,e,hc k _ (by simp [hl])⟩
theorem Rd.keep {S:Nat→Prop} (h:Rd w A n xs) (hk:Keep S w w') (hS: ∀ad,A=some ad→ ¬S ad.block):Rd w' A n xs:=
 ⟨h.1,fun hn=>by
  obtain⟨ad,e,hc⟩:=h.2 hn
  exact⟨ad,e,fun j u hu=>hk.cell (hc j u hu) (by rw [block_add];exact hS ad e)⟩⟩
theorem Rd.below {B:Nat} (h:Rd w A n xs) (hb:Below B w w') (hS: ∀ad,A=some ad→ad.block<B):Rd w' A n xs:=
 ⟨h.1,fun hn=>by
  obtain⟨ad,e,hc⟩:=h.2 hn
  exact⟨ad,e,fun j u hu=>(hb.cell (by rw [block_add];exact hS ad e)).trans (hc j u hu)⟩⟩
theorem Rd.keep0 {w0:World} (h0:Rd w0 A n xs) (h:Rd w A n xs) {S:Nat→Prop} (hk:Keep S w w') (hS: ∀k,S k→w0.heap.size≤k):Rd w' A n xs:=
 ⟨h.1,fun hn=>by
  obtain⟨ad,e,hc⟩:=h.2 hn
  obtain⟨ad0,e0,hc0⟩:=h0.2 hn
  rw [e]at e0
  injection e0 with e0
  subst e0
  have hl:0<xs.length:=by have:=h.1;omega
  have hlt:=World.block_lt_of_cell? _ _ (hc0 0 _ (List.getElem?_eq_getElem hl))
  rw [block_add]at hlt
  exact⟨ad,e,fun j u hu=>hk.cell (hc j u hu) (by rw [block_add];intro hs;have:=hS _ hs;omega)⟩⟩
theorem Rd.drew (h:Rd w A n xs):Rd w.drew A n xs:=h
theorem Rd.alloc (h:Rd w A n xs) (o:Obj):Rd (w.alloc o) A n xs:=h.keep (S:=fun _=>False) ((Keep.refl _ w).alloc o) (fun _ _=>id)
theorem Rd.lt (h:Rd w A n xs) (hn:0<n): ∀ad,A=some ad→ad.block<w.heap.size:=by
 intro ad e
 obtain⟨ad',e',hc⟩:=h.at_ hn
 rw [e]at e';injection e' with e';subst e'
 have:=World.block_lt_of_cell? _ _ hc
 simpa [block_add]using this
theorem Rd.drop (h:Rd w A n xs) {k cap:Nat} (hk:k≤n) (hc:n≤cap):Rd w (if cap=k then A else A.map (·.add k)) (n-k) (xs.drop k):=by
 refine⟨by rw [List.length_drop,h.1],fun hn=>?_⟩
 obtain⟨ad,rfl,hcell⟩:=h.2 (by omega)
 rw [if_neg (by omega)]
 refine⟨ad.add k,rfl,fun j u hu=>?_⟩
 rw [add_add']
 exact hcell _ u (by rw [← hu,List.getElem?_drop])
theorem Rd.take (h:Rd w A n xs) {k:Nat} (hk:k≤n):Rd w A k (xs.take k):=by
 refine⟨by rw [List.length_take,h.1];omega,fun hn=>?_⟩
 obtain⟨ad,rfl,hcell⟩:=h.2 (by omega)
 refine⟨ad,rfl,fun j u hu=>hcell j u ?_⟩
 rw [List.getElem?_take]at hu
 split at hu
 · exact hu
 · cases hu
theorem Rd.of_own {base:Nat} {e:TypeId} {c:Nat} (h:w.ownsRow base e 1 (.slice A n c) n xs):Rd w A n xs:=by
 refine⟨by have:=h.1;omega,fun hn=>?_⟩
 rcases h.2 with⟨_,h0⟩|⟨g,cap,cur,hv,_⟩
 · omega
 · have hA:A=some ⟨g,0,none⟩:=by injection hv
   subst hA
   exact⟨_,rfl,h.cells (g:=g) rfl⟩
end
def Blk (w:World) (g:Nat) (t:TypeId) (cs:Array Value):Prop:=w.heap[g]? =some (.cells cs t (0,0))
section
variable {w w':World} {g:Nat} {t:TypeId} {cs:Array Value}
theorem Blk.lt (h:Blk w g t cs):g<w.heap.size:=by
 rcases Nat.lt_or_ge g w.heap.size with hlt|hge
 · exact hlt
 · unfold Blk at h;rw [Array.getElem?_eq_none hge]at h;cases h
theorem Blk.cell (h:Blk w g t cs) (i:Nat):w.cell? ⟨g,i,none⟩=cs[i]?:=cell_of_row w g i cs t (0,0) h
theorem Blk.frozen (h:Blk w g t cs) (i:Nat):w.frozen? ⟨g,i,none⟩=false:=by
 unfold Blk at h
 simp [World.frozen?,h]
theorem Blk.new (w:World) (t:TypeId) (cs:Array Value):Blk (w.alloc (.cells cs t)) w.heap.size t cs:=heap_alloc_new w _
theorem Blk.drew (h:Blk w g t cs):Blk w.drew g t cs:=h
theorem Blk.drewN (h:Blk w g t cs) (n:Nat):Blk (w.drewN n) g t cs:=h
theorem Blk.alloc (h:Blk w g t cs) (o:Obj):Blk (w.alloc o) g t cs:=(Below.heap_alloc w o g h.lt).trans h
theorem Blk.set_ (h:Blk w g t cs) (i:Nat) (u:Value):Blk (w.setCell ⟨g,i,none⟩ u) g t (cs.setIfInBounds i u):=by
 unfold Blk at h ⊢
 simp [World.setCell,Array.getElem?_modify,h]
theorem Blk.far (h:Blk w g t cs) {p:Addr} (hp:g≠p.block) (u:Value):Blk (w.setCell p u) g t cs:=(Below.heap_setCell w p u g hp).trans h
theorem Blk.keep {S:Nat→Prop} (h:Blk w g t cs) (hk:Keep S w w') (hg: ¬S g):Blk w' g t cs:=(hk.block g h.lt hg).trans h
theorem Blk.below {B:Nat} (h:Blk w g t cs) (hb:Below B w w') (hg:g<B):Blk w' g t cs:=(hb.block g hg).trans h
theorem Blk.grown {row:Option Nat} (h:Blk w g t cs) (hb:w.grownBy w' row) (hg:some g≠row):Blk w' g t cs:=(hb.block g h.lt hg).trans h
theorem Blk.ne_ {g':Nat} {t':TypeId} {cs':Array Value} (h:Blk w g t cs) (h':Blk w g' t' cs') (hne:t≠t'):g≠g':=by
 rintro rfl
 unfold Blk at h h'
 rw [h]at h'
 injection h' with h'
 injection h' with _ ht
 exact hne ht
theorem own_ne {base:Nat} {e:TypeId} {size n:Nat} {v:Value} {xs:List Value} (h:w.ownsRow base e size v n xs) (hg:Blk w g t cs) (hne:e≠t):v.ownBlock≠some g:=by
 rcases h.2 with⟨rfl,_⟩|⟨g',cap,cur,rfl,_,hh,_⟩
 · simp [Value.ownBlock]
 · intro he
   have:g'=g:=by simpa [Value.ownBlock]using he
   subst this
   exact Blk.ne_ (t:=e) hh hg hne rfl
theorem own_keep {S:Nat→Prop} {base:Nat} {e:TypeId} {size n:Nat} {v:Value} {xs:List Value} (h:w.ownsRow base e size v n xs) (hk:Keep S w w') (hS: ∀k,v.ownBlock=some k→ ¬S k):w'.ownsRow base e size v n xs:=by
 refine⟨h.1,?_⟩
 rcases h.2 with hn|⟨g,cap,cur,rfl,hb,hgg,rest⟩
 · exact .inl hn
 · refine .inr ⟨g,cap,cur,rfl,hb,?_,rest⟩
   rw [hk.block g (Array.getElem?_eq_some_iff.1 hgg).1 (hS g rfl)]
   exact hgg
end
theorem own_form {w:World} {base:Nat} {e:TypeId} {size n:Nat} {v:Value} {xs:List Value} (h:w.ownsRow base e size v n xs): ∃A c,v=.slice A n c:=by
 rcases h.2 with⟨rfl,rfl⟩|⟨g,cap,cur,rfl,_⟩
 · exact⟨none,0,rfl⟩
 · exact⟨_,_,rfl⟩
theorem own_at {w:World} {base:Nat} {e:TypeId} {n c:Nat} {A:Option Addr} {xs:List Value} (h:w.ownsRow base e 1 (.slice A n c) n xs) (hn:0<n):
 ∃g,A=some ⟨g,0,none⟩∧n≤c∧base≤g∧(∀ j u,xs[j]? =some u→w.cell? ⟨g,j,none⟩=some u)∧(∀ j,w.frozen? ⟨g,j,none⟩=false):=by
 rcases h.2 with⟨_,h0⟩|⟨g,cap,cur,hv,hb,hg,hnc,_⟩
 · omega
 · injection hv with h1 h2 h3
   subst h1 h3
   refine⟨g,rfl,hnc,hb,fun j u hu=>?_,fun j=>?_⟩
   · have:=h.cells (g:=g) rfl j u hu
     rw [add_lit',Nat.zero_add]at this
     exact this
   · simp [World.frozen?,hg]
theorem own_mono {w:World} {base base':Nat} {e:TypeId} {size n:Nat} {v:Value} {xs:List Value} (h:w.ownsRow base e size v n xs) (hb:base'≤base):w.ownsRow base' e size v n xs:=by
 refine⟨h.1,?_⟩
 rcases h.2 with hn|⟨g,cap,cur,rfl,hg,rest⟩
 · exact .inl hn
 · exact .inr ⟨g,cap,cur,rfl,by omega,rest⟩
theorem own_hold {w w2:World} {base:Nat} {e:TypeId} {n0 n:Nat} {o v:Value} {xs0 xs:List Value} (h0:w.ownsRow base e 1 o n0 xs0) (h:w.ownsRow base e 1 v n xs) (hn:n0≤n) (hpre:xs0=xs.take n0)
 (hold:w2.ownsRow base e 1 v n xs) (hk:Keep (fun k=>v.ownBlock=some k) w w2):w2.ownsRow base e 1 o n0 xs0:=by
 by_cases hne: ∀k,o.ownBlock=some k→v.ownBlock≠some k
 · exact own_keep h0 hk hne
 · refine⟨h0.1,?_⟩
   rcases h0.2 with hz|⟨g,c0,cur,rfl,hb,hg,hnc,hcm,hcs,ht⟩
   · exact .inl hz
   · have hv:v.ownBlock=some g:=by
      have: ¬v.ownBlock≠some g:=fun hx=>hne (fun k hk'=>by
       simp [Value.ownBlock]at hk'
       subst hk'
       exact hx)
      simpa using this
     rcases h.2 with⟨rfl,_⟩|⟨g1,c1,cur1,rfl,_,hg1,_,_,hcs1,_⟩
     · simp [Value.ownBlock]at hv
     · simp [Value.ownBlock]at hv
       subst hv
       rw [hg]at hg1
       injection hg1 with hg1
       injection hg1 with hg1
       subst hg1
       rcases hold.2 with⟨h9,_⟩|⟨g2,c2,cur2,hv2,hb2,hg2,hn2,hm2,hcs2,ht2⟩
       · cases h9
       · injection hv2 with h1 h2 h3
         injection h1 with h1
         injection h1 with h1
         subst h1 h3
         refine .inr ⟨g1,c0,cur2,rfl,hb,hg2,hnc,hcm,by omega,?_⟩
         rw [hpre,←ht2,List.take_take,Nat.min_eq_left (by omega),Nat.mul_one]
section
variable {P :Program} (w:World)
theorem run_append_of_nil (base:Nat) (t ty e:TypeId) (i:TypeInfo) (size:Nat) (ht:P.underlying t=some (.slice e)) (hi:P.info? e=some i)
 (v:Value) (n:Nat) (xs:List Value) (hown:w.ownsRow base e size v n xs) (c:Nat):(Builtin.append_ #[t,t] ty #[v,.slice none 0 c]).run P w=.ok v w:=by
 rcases hown.2 with⟨rfl,rfl⟩|⟨g,cap,cur,rfl,_,_,hnc,_⟩
 · simp [Builtin.append_,run_underlying ht,sizeOf,typeInfo,hi,Builtin.lenOf,Builtin.firstCells]
 · simp [Builtin.append_,run_underlying ht,sizeOf,typeInfo,hi,Builtin.lenOf,Builtin.firstCells,hnc,storeCells]
theorem run_append_src (base:Nat) (t ty e:TypeId) (i:TypeInfo) (z:Value) (bytes:Nat) (ht:P.underlying t=some (.slice e)) (hi:P.info? e=some i) (hz:i.zero=some z)
 (hsize:i.size=1) (hby:i.bytes=bytes) (hzs:z.cells.size=1)
 (v:Value) (n:Nat) (xs:List Value) (hown:w.ownsRow base e 1 v n xs)
 (A:Option Addr) (m c:Nat) (news:List Value) (hr:Rd w A m news) (h1: ∀u∈news,u.oneCell'=true)
 (h63:n+m≤maxLen) (hbytes:(n+m)*bytes≤140737488355328) (hbase:base≤w.heap.size):
 ∃v' w',(Builtin.append_ #[t,t] ty #[v,.slice A m c]).run P w=.ok v' w'∧w'.ownsRow base e 1 v' (n+m) (xs++news)∧w.grownBy w' v.ownBlock∧
  (v'.ownBlock=v.ownBlock∨v'.ownBlock=some w.heap.size):=by
 rcases A with _|ad
 · have hm:m=0:=by
    rcases Nat.eq_zero_or_pos m with h0|h0
    · exact h0
    · obtain⟨ad,h,_⟩:=hr.2 h0
      cases h
   subst hm
   have hn:news=[]:=List.eq_nil_of_length_eq_zero hr.1
   subst hn
   exact⟨v,w,run_append_of_nil w base t ty e i 1 ht hi v n xs hown c,by simpa using hown,World.grownBy.refl w _,.inl rfl⟩
 · have hcells: ∀j u,news[j]? =some u→w.cell? (ad.add j)=some u:=by
    intro j u hu
    rcases Nat.eq_zero_or_pos m with h0|h0
    · subst h0
      have hn:news=[]:=List.eq_nil_of_length_eq_zero hr.1
      subst hn
      simp at hu
    · obtain⟨ad',h,hc⟩:=hr.2 h0
      injection h with h
      subst h
      exact hc j u hu
   obtain⟨v',w',hrun,h2,h3,_,h5⟩:=run_append_own_at (P:=P) w base t ty e i z 1 bytes ht hi hz hsize hby hzs (by omega) v n xs hown ad m c news (by have:=hr.1;omega) hcells h1 h63 hbytes hbase
   exact⟨v',w',hrun,h2,h3,h5⟩
theorem run_append_keeps (base:Nat) (t ty e:TypeId) (i:TypeInfo) (z:Value) (bytes:Nat) (ht:P.underlying t=some (.slice e)) (hi:P.info? e=some i) (hz:i.zero=some z)
 (hsize:i.size=1) (hby:i.bytes=bytes)
 (v:Value) (n:Nat) (xs:List Value) (hown:w.ownsRow base e 1 v n xs)
 (A:Option Addr) (m c:Nat) (news:List Value) (hr:Rd w A m news) (h1: ∀u∈news,u.oneCell'=true)
 (h63:n+m≤maxLen) (hbytes:(n+m)*bytes≤140737488355328)
 {v':Value} {w':World} (hrun:(Builtin.append_ #[t,t] ty #[v,.slice A m c]).run P w=.ok v' w') (hown':w'.ownsRow base e 1 v' (n+m) (xs++news)):w'.ownsRow base e 1 v n xs:=by
 rcases A with _|ad
 · have hm:m=0:=by
    rcases Nat.eq_zero_or_pos m with h0|h0
    · exact h0
    · obtain⟨ad,h,_⟩:=hr.2 h0
      cases h
   subst hm
   rw [run_append_of_nil w base t ty e i 1 ht hi v n xs hown c]at hrun
   injection hrun with e1 e2
   subst e1 e2
   exact hown
 · have hcells: ∀j u,news[j]? =some u→w.cell? (ad.add j)=some u:=by
    intro j u hu
    have hj:=(List.getElem?_eq_some_iff.1 hu).1
    obtain⟨ad',h,hc⟩:=hr.2 (by have:=hr.1;omega)
    injection h with h
    subst h
    exact hc j u hu
   have hl:news.length=m:=hr.1
   refine⟨hown.1,?_⟩
   rcases hown.2 with⟨rfl,rfl⟩|⟨g,cap,cur,rfl,hbg,hg,hnc,hcm,hcs,htake⟩
   · exact .inl ⟨rfl,rfl⟩
   · by_cases hroom:n+m≤cap
     · have hr':=run_append_room (P:=P) w t ty e i ht hi g n cap cur hg ad m c news (by rw [hsize];omega) hcells h1 hroom (by rw [hsize,hl];omega)
       rw [hr']at hrun
       injection hrun with e1 e2
       subst e1
       rcases hown'.2 with⟨h0,_⟩|⟨g',cap',cur',hv,hb',hg',hn',hc',hs',ht'⟩
       · cases h0
       · injection hv with h1 h2 h3
         injection h1 with h1
         injection h1 with h1
         subst h1 h3
         refine .inr ⟨g,cap,cur',rfl,hb',hg',hnc,hc',hs',?_⟩
         have:=congrArg (List.take n) ht'
         rw [List.take_take,Nat.min_eq_left (by omega),List.take_left' (by have:=hown.1;omega)]at this
         rw [Nat.mul_one]
         exact this
     · have holds: ∀j u,xs[j]? =some u→w.cell? ((⟨g,0,none⟩:Addr).add j)=some u:=hown.cells (g:=g) rfl
       have hr':=run_append_grow (P:=P) w t ty e i z ht hi hz ⟨g,0,none⟩ n cap xs (by rw [hsize];exact hown.1) holds ad m c news (by rw [hsize];omega) hcells (by omega) (by simp only [maxLen]at h63;omega) (growslice_fits (by omega) (by rw [hby];exact hbytes))
       rw [hr']at hrun
       injection hrun with e1 e2
       subst e2
       exact(own_keep (S:=fun _=>False) hown ((Keep.refl _ w).drew.alloc _) (fun _ _ h=>h)).2
theorem wp_append_src {o:Oper} {a:Act} {K:Act→World→Prop} {Q:Exit→Act→World→Prop} (s x:Operand) (t:TypeId)
 (ho:o.op=.call { callee:=.builtin .append,args:=#[s,x],argTypes:=#[t,t] })
 (base:Nat) (e:TypeId) (i:TypeInfo) (z:Value) (bytes:Nat) (ht:P.underlying t=some (.slice e)) (hi:P.info? e=some i) (hz:i.zero=some z)
 (hsize:i.size=1) (hby:i.bytes=bytes) (hzs:z.cells.size=1)
 (v:Value) (n:Nat) (xs:List Value) (hs:a.eval s=v) (hown:w.ownsRow base e 1 v n xs)
 (A:Option Addr) (m c:Nat) (news:List Value) (hx:a.eval x=.slice A m c) (hr:Rd w A m news) (h1: ∀u∈news,u.oneCell'=true)
 (h63:n+m≤maxLen) (hbytes:(n+m)*bytes≤140737488355328) (hbase:base≤w.heap.size)
 (h: ∀v' w',w'.ownsRow base e 1 v' (n+m) (xs++news)→w.grownBy w' v.ownBlock→(v'.ownBlock=v.ownBlock∨v'.ownBlock=some w.heap.size)→w'.ownsRow base e 1 v n xs→K (a.put o.dst v') w'):o.wp P a w K Q:=by
 obtain⟨v',w',hrun,h2,h3,h4⟩:=run_append_src (P:=P) w base t o.type e i z bytes ht hi hz hsize hby hzs v n xs hown A m c news hr h1 h63 hbytes hbase
 unfold Oper.wp execOp
 simp only [ho,resolve,invoke,builtin,Sem.run_bind,Sem.run_pure,Result.andThen_ok,List.map_toArray,List.map_cons,List.map_nil,hs,hx,hrun]
 exact h v' w' h2 h3 h4 (run_append_keeps w base t o.type e i z bytes ht hi hz hsize hby v n xs hown A m c news hr h1 h63 hbytes hrun h2)
theorem wpList_append_src {ops:Array Oper} {rest:List Oper} {o:Oper} {a:Act} {Q:Exit→Act→World→Prop} (hgd:o.guard=none) (s x:Operand) (t:TypeId)
 (ho:o.op=.call { callee:=.builtin .append,args:=#[s,x],argTypes:=#[t,t] })
 (base:Nat) (e:TypeId) (i:TypeInfo) (z:Value) (bytes:Nat) (ht:P.underlying t=some (.slice e)) (hi:P.info? e=some i) (hz:i.zero=some z)
 (hsize:i.size=1) (hby:i.bytes=bytes) (hzs:z.cells.size=1)
 {v:Value} {n:Nat} {xs:List Value} (hown:w.ownsRow base e 1 v n xs) (hs:a.eval s=v)
 {A:Option Addr} {m c:Nat} {news:List Value} (hr:Rd w A m news) (hx:a.eval x=.slice A m c) (h1: ∀u∈news,u.oneCell'=true)
 (h63:n+m≤maxLen) (hbytes:(n+m)*bytes≤140737488355328) (hbase:base≤w.heap.size)
 (h: ∀v' w',w'.ownsRow base e 1 v' (n+m) (xs++news)→w.grownBy w' v.ownBlock→(v'.ownBlock=v.ownBlock∨v'.ownBlock=some w.heap.size)→w'.ownsRow base e 1 v n xs→wpList P ops Q rest (a.put o.dst v') w'):wpList P ops Q (o::rest) a w:=
 wpList_plain hgd fun _ hK=>wp_append_src w s x t ho base e i z bytes ht hi hz hsize hby hzs v n xs hs hown A m c news hx hr h1 h63 hbytes hbase fun v' w' h2 h3 h4 h5=>hK _ _ (h v' w' h2 h3 h4 h5)
end
theorem wpList_append_one {P:Program} (w:World) {ops:Array Oper} {rest:List Oper} {o:Oper} {a:Act} {Q:Exit→Act→World→Prop} (hgd:o.guard=none) (s x:Operand) (t:TypeId)
 (ho:o.op=.call { callee:=.builtin .append,args:=#[s,x],argTypes:=#[t,t] })
 (base:Nat) (e:TypeId) (i:TypeInfo) (z:Value) (bytes:Nat) (ht:P.underlying t=some (.slice e)) (hi:P.info? e=some i) (hz:i.zero=some z)
 (hsize:i.size=1) (hby:i.bytes=bytes) (hzs:z.cells.size=1)
 {v:Value} {n:Nat} {xs:List Value} (hown:w.ownsRow base e 1 v n xs) (hs:a.eval s=v) (u:Value) (hx:a.eval x=.slice (some ⟨w.heap.size,0,none⟩) 1 1) (h1:u.oneCell'=true)
 (h63:n+1≤maxLen) (hbytes:(n+1)*bytes≤140737488355328) (hbase:base≤w.heap.size)
 (h: ∀v' w',w'.ownsRow base e 1 v' (n+1) (xs++[u])→(w.alloc (.cells #[u] e)).grownBy w' v.ownBlock→(v'.ownBlock=v.ownBlock∨v'.ownBlock=some (w.heap.size+1))→w'.ownsRow base e 1 v n xs→wpList P ops Q rest (a.put o.dst v') w'):
 wpList P ops Q (o::rest) a (w.alloc (.cells #[u] e)):=by
 refine wpList_append_src _ hgd s x t ho base e i z bytes ht hi hz hsize hby hzs (hown.alloc _) hs (A:=some ⟨w.heap.size,0,none⟩) (m:=1) (c:=1) (news:=[u]) ⟨rfl,fun _=>⟨_,rfl,?_⟩⟩ hx ?_ h63 hbytes (by simp;omega) ?_
 · intro j v hj
   match j,hj with
   |0,hj=>simp at hj;subst hj;simp [Addr.add]
 · intro v hv;simp at hv;subst hv;exact h1
 · intro v' w' a b c d
   exact h v' w' a b (by simpa using c) d
theorem wp_append_one {P:Program} (w:World) {o:Oper} {a:Act} {K:Act→World→Prop} {Q:Exit→Act→World→Prop} (s x:Operand) (t:TypeId)
 (ho:o.op=.call { callee:=.builtin .append,args:=#[s,x],argTypes:=#[t,t] })
 (base:Nat) (e:TypeId) (i:TypeInfo) (z:Value) (bytes:Nat) (ht:P.underlying t=some (.slice e)) (hi:P.info? e=some i) (hz:i.zero=some z)
 (hsize:i.size=1) (hby:i.bytes=bytes) (hzs:z.cells.size=1)
 {v:Value} {n:Nat} {xs:List Value} (hown:w.ownsRow base e 1 v n xs) (hs:a.eval s=v) (u:Value) (hx:a.eval x=.slice (some ⟨w.heap.size,0,none⟩) 1 1) (h1:u.oneCell'=true)
 (h63:n+1≤maxLen) (hbytes:(n+1)*bytes≤140737488355328) (hbase:base≤w.heap.size)
 (h: ∀v' w',w'.ownsRow base e 1 v' (n+1) (xs++[u])→(w.alloc (.cells #[u] e)).grownBy w' v.ownBlock→(v'.ownBlock=v.ownBlock∨v'.ownBlock=some (w.heap.size+1))→w'.ownsRow base e 1 v n xs→K (a.put o.dst v') w'):
 o.wp P a (w.alloc (.cells #[u] e)) K Q:=by
 refine wp_append_src _ s x t ho base e i z bytes ht hi hz hsize hby hzs v n xs hs (hown.alloc _) (some ⟨w.heap.size,0,none⟩) 1 1 [u] hx ⟨rfl,fun _=>⟨_,rfl,?_⟩⟩ ?_ h63 hbytes (by simp;omega) ?_
 · intro j v hj
   match j,hj with
   |0,hj=>simp at hj;subst hj;simp [Addr.add]
 · intro v hv;simp at hv;subst hv;exact h1
 · intro v' w' a b c d
   exact h v' w' a b (by simpa using c) d
theorem oneCell_ints (k:IntKind) (zs:List Int): ∀u∈zs.map (Value.int k),u.oneCell'=true:=by
 intro u hu
 obtain⟨z,_,rfl⟩:=List.mem_map.1 hu
 rfl
theorem map_at (f:Int→Value) (zs:List Int) (j:Nat) (h:j<zs.length):(zs.map f)[j]? =some (f (zs.getD j 0)):=by
 simp [h]
theorem Rd.int_at {w:World} {A:Option Addr} {n k:Nat} {K:IntKind} {zs:List Int} (h:Rd w A n (zs.map (Value.int K))) (hk:k<n):
 ∃ad,A=some ad∧w.cell? (ad.add k)=some (.int K (zs.getD k 0)):=by
 obtain⟨ad,e,hc⟩:=h.2 (by omega)
 have hl:k<zs.length:=by have:=h.1;simp at this;omega
 exact⟨ad,e,hc k _ (by simp [hl])⟩
theorem Rd.int_ix {w:World} {A:Option Addr} {n k:Nat} {K:IntKind} {zs:List Int} (h:Rd w A n (zs.map (Value.int K))) (hk:k<n):
 ∃b o,A=some ⟨b,o,none⟩∧w.cell? ⟨b,o+k,none⟩=some (.int K (zs.getD k 0)):=by
 obtain⟨ad,e,hc⟩:=h.int_at hk
 obtain⟨ad0,e0,hc0⟩:=h.int_at (k:=0) (by omega)
 rw [e]at e0
 injection e0 with e0
 subst e0
 have hs:ad.spot=none:=World.cell?_spot hc0
 obtain⟨b,o,s⟩:=ad
 simp only at hs
 subst hs
 rw [add_lit']at hc
 exact⟨b,o,e,hc⟩
theorem Rd.len {w:World} {A:Option Addr} {n:Nat} {K:IntKind} {zs:List Int} (h:Rd w A n (zs.map (Value.int K))):zs.length=n:=by have:=h.1;simpa using this
def Bytes (zs:List Int):Prop:= ∀z∈zs,0≤z∧z≤255
theorem ret_i64 {a b:Int} (h:a=b):Ending.returned (.int .i64 a)=.returned (.int .i64 b):=by rw [h]
theorem ret_bool {a b:Bool} (h:a=b):Ending.returned (.bool a)=.returned (.bool b):=by rw [h]
theorem tmod_fix (a n:Int) (hn:0<n):(a.tmod n<0→a.tmod n+n=a%n)∧(0≤a.tmod n→a.tmod n=a%n)∧-n<a.tmod n∧a.tmod n<n:=by
 have h1:a.tmod n<n:=Int.tmod_lt_of_pos a hn
 have h2:-n<a.tmod n:=by
  have:=Int.tmod_lt_of_pos (-a) hn
  rw [Int.neg_tmod]at this
  omega
 have h3:a%n=a.tmod n%n:=by
  have:a.tmod n=a-n*a.tdiv n:=Int.tmod_def a n
  rw [this,Int.sub_mul_emod_self_left]
 refine⟨fun h=>?_,fun h=>?_,h2,h1⟩
 · rw [h3]
   have:(a.tmod n+n)%n=a.tmod n%n:=Int.add_emod_right _ _
   rw [← this,Int.emod_eq_of_lt (by omega) (by omega)]
 · rw [h3,Int.emod_eq_of_lt h h1]
end Go.Proofs.YthfogcgdijmaoaaGreat
