/-
  Part 12 of the proof: Geo StRow Mid Lift. Conditions: those of the statements.
-/
import Derived.Test.YthfogcgdijmaoaaGreatJ8
import Derived.Test.YthfogcgdijmaoaaGreatJ10
import Derived.Test.YthfogcgdijmaoaaGreatJ11
import Derived.Laws.MakeOwn
set_option maxRecDepth 100000
set_option maxHeartbeats 16000000
set_option linter.unusedVariables false
set_option linter.unusedSimpArgs false
namespace Go.Proofs.YthfogcgdijmaoaaGreat
open Go.RowKit
theorem mul_lt_of {d a b:Int} (hd:0<d) (h:d*a<d*b):a<b:=Int.lt_of_mul_lt_mul_left h (by omega)
theorem ceilI_spec {a d:Int} (hd:0<d):d*(ceilI a d-1)<a∧a≤d*ceilI a d:=by
 unfold ceilI
 split
 · have h1:=Int.mul_ediv_add_emod (-a) d
   have h2:=Int.emod_nonneg (-a) (show d≠0 by omega)
   have h3:=Int.emod_lt_of_pos (-a) hd
   rw [Int.mul_sub,Int.mul_neg]
   omega
 · have h1:=Int.mul_ediv_add_emod (a+d-1) d
   have h2:=Int.emod_nonneg (a+d-1) (show d≠0 by omega)
   have h3:=Int.emod_lt_of_pos (a+d-1) hd
   rw [Int.mul_sub]
   omega
theorem ceilI_unique {a d y:Int} (hd:0<d) (h1:d*(y-1)<a) (h2:a≤d*y):ceilI a d=y:=by
 have hs:=ceilI_spec (a:=a) hd
 have h3:=mul_lt_of hd (Int.lt_of_lt_of_le hs.1 h2)
 have h4:=mul_lt_of hd (Int.lt_of_lt_of_le h1 hs.2)
 omega
theorem ceilI_mono {a b d:Int} (hd:0<d) (h:a≤b):ceilI a d≤ceilI b d:=by
 have h1:=(ceilI_spec (a:=a) hd).1
 have h2:=(ceilI_spec (a:=b) hd).2
 have h3:=mul_lt_of hd (show d*(ceilI a d-1)<d*ceilI b d by omega)
 omega
theorem ceilI_wide {a b d:Int} (hd:0<d) (h:a≤b):ceilI b d-ceilI a d≤b-a:=by
 have h1:=(ceilI_spec (a:=b) hd).1
 have h2:=(ceilI_spec (a:=a) hd).2
 rcases Int.lt_or_le (ceilI b d-1-ceilI a d) 0 with h3|h3
 · omega
 · have h4:1*(ceilI b d-1-ceilI a d)≤d*(ceilI b d-1-ceilI a d):=Int.mul_le_mul_of_nonneg_right (by omega) h3
   rw [show ceilI b d-1-ceilI a d=(ceilI b d-1)-ceilI a d by omega,Int.mul_sub d]at h4
   omega
theorem ceilI_low {a d:Int} (hd:0<d) (h:-d<a):0≤ceilI a d:=by
 have h2:=(ceilI_spec (a:=a) hd).2
 have h3:=mul_lt_of hd (show d*(-1)<d*ceilI a d by omega)
 omega
theorem ceilI_top {a d B:Int} (hd:0<d) (h:a≤B) (hB:0≤B):ceilI a d≤B:=Int.le_trans (ceilI_mono hd h) (ceilI_lim hB hd).2
structure Rc.ok (r:Rc) (S B:Int):Prop where
 x0:0≤r.x0
 xx:r.x0≤r.x1
 x1:r.x1≤B
 xs:r.x1-r.x0≤S
 y0:0≤r.y0
 yy:r.y0≤r.y1
 y1:r.y1≤B
 ys:r.y1-r.y0≤S
section
variable {r :Rc} {S B:Int}
theorem Rc.ok.pos (h:r.ok S B):r.pos B:=by
 obtain⟨h1,h2,h3,h4,h5,h6,h7,h8⟩:=h
 exact⟨⟨by omega,by omega⟩,⟨by omega,by omega⟩,⟨by omega,by omega⟩,by omega,by omega⟩
theorem Rc.pos.mono {C:Int} (h:r.pos B) (hc:B≤C):r.pos C:=by
 obtain⟨h1,h2,h3,h4⟩:=h
 exact⟨⟨by omega,by omega⟩,⟨by omega,by omega⟩,⟨by omega,by omega⟩,by omega,by omega⟩
theorem Rc.ok.fits24 (h:r.ok S B) (hB:B≤16777216):r.fits 16777216:=(h.pos.mono hB).fits
theorem Rc.ok.area_eq (h:r.ok S B):r.area=(r.x1-r.x0)*(r.y1-r.y0):=by
 have:=h.xx
 have:=h.yy
 unfold Rc.area
 rw [Int.max_eq_left (by omega),Int.max_eq_left (by omega)]
theorem Rc.ok.area_le (h:r.ok S B):0≤r.area∧r.area≤S*S:=by
 rw [h.area_eq]
 obtain⟨h1,h2,h3,h4,h5,h6,h7,h8⟩:=h
 exact⟨Int.mul_nonneg (by omega) (by omega),Int.mul_le_mul (by omega) (by omega) (by omega) (by omega)⟩
theorem Rc.ok.over (h:r.ok S B) {dx dy ax ay:Int} (hx:0≤ax∧ax<dx) (hy:0≤ay∧ay<dy):(r.over dx dy ax ay).ok S B:=by
 obtain⟨h1,h2,h3,h4,h5,h6,h7,h8⟩:=h
 refine⟨ceilI_low (by omega) (by omega),ceilI_mono (by omega) (by omega),ceilI_top (by omega) (by omega) (by omega),?_,ceilI_low (by omega) (by omega),ceilI_mono (by omega) (by omega),ceilI_top (by omega) (by omega) (by omega),?_⟩
 · have:=ceilI_wide (a:=r.x0-ax) (b:=r.x1-ax) (d:=dx) (by omega) (by omega)
   show ceilI _ _-ceilI _ _≤S
   omega
 · have:=ceilI_wide (a:=r.y0-ay) (b:=r.y1-ay) (d:=dy) (by omega) (by omega)
   show ceilI _ _-ceilI _ _≤S
   omega
theorem p2_half (d:Nat):p2 d<p2 (d+1):=by have:=p2_pos d;have:=p2_succ d;omega
theorem Rc.ok.bands (h:r.ok S B) (L k:Nat): ∀q∈bandsR r L k,q.ok S B:=by
 intro q hq
 unfold bandsR at hq
 have h0:=p2_pos L
 have h1:=p2_pos (L-k)
 have h2:=p2_half (L-k)
 split at hq
 · rw [List.mem_singleton]at hq
   subst hq
   exact h.over ⟨by omega,by omega⟩ ⟨by omega,by omega⟩
 · simp only [List.mem_cons,List.not_mem_nil,or_false]at hq
   rcases hq with rfl|rfl|rfl<;>exact h.over ⟨by omega,by omega⟩ ⟨by omega,by omega⟩
end
structure Rc.sub (q r:Rc):Prop where
 x0:r.x0≤q.x0
 xx:q.x0≤q.x1
 x1:q.x1≤r.x1
 y0:r.y0≤q.y0
 yy:q.y0≤q.y1
 y1:q.y1≤r.y1
theorem Rc.sub.ok {q r:Rc} {S B:Int} (h:q.sub r) (hr:r.ok S B):q.ok S B:=by
 obtain⟨a1,a2,a3,a4,a5,a6⟩:=h
 obtain⟨h1,h2,h3,h4,h5,h6,h7,h8⟩:=hr
 constructor<;>omega
theorem Rc.sub.trans {q r s:Rc} (h:q.sub r) (k:r.sub s):q.sub s:=by
 obtain⟨a1,a2,a3,a4,a5,a6⟩:=h
 obtain⟨b1,b2,b3,b4,b5,b6⟩:=k
 constructor<;>omega
theorem Rc.sub.part {q r:Rc} (h:q.sub r) {dx dy:Int} (hx:0<dx) (hy:0<dy):(q.part dx dy).sub (r.part dx dy):=by
 obtain⟨a1,a2,a3,a4,a5,a6⟩:=h
 refine⟨ceilI_mono hx (by omega),ceilI_mono hx (by omega),ceilI_mono hx (by omega),ceilI_mono hy (by omega),ceilI_mono hy (by omega),ceilI_mono hy (by omega)⟩
def Rc.half (r:Rc):Rc:=⟨(r.x0+1)/2,(r.y0+1)/2,(r.x1+1)/2,(r.y1+1)/2⟩
def lowsI (a b:Int):Int:=(b+1)/2-(a+1)/2
theorem ceil_half (x:Int) (n:Nat):ceilI x (p2 (n+1))=(ceilI x (p2 n)+1)/2∧ceilI (x-p2 n) (p2 (n+1))=ceilI x (p2 n)/2:=by
 have h0:=p2_pos n
 have hs:=ceilI_spec (a:=x) h0
 rw [p2_succ]
 generalize p2 n=N at*
 generalize hy:ceilI x N=y at*
 have e1:(2*N)*((y+1)/2)=N*(2*((y+1)/2)):=by rw [Int.mul_assoc,Int.mul_left_comm]
 have e2:(2*N)*(y/2)=N*(2*(y/2)):=by rw [Int.mul_assoc,Int.mul_left_comm]
 have h3: ∀k:Int,(2*N)*(k-1)=(2*N)*k-2*N:=fun k=>by rw [Int.mul_sub];omega
 have h4:N*(y-1)=N*y-N:=by rw [Int.mul_sub];omega
 rw [h4]at hs
 rcases (show 2*(y/2)=y∧2*((y+1)/2)=y∨2*(y/2)=y-1∧2*((y+1)/2)=y+1 by omega)with⟨h5,h6⟩|⟨h5,h6⟩
 · rw [h5]at e2
   rw [h6]at e1
   exact⟨ceilI_unique (by omega) (by rw [h3,e1];omega) (by rw [e1];omega),ceilI_unique (by omega) (by rw [h3,e2];omega) (by rw [e2];omega)⟩
 · have h7:N*(y+1)=N*y+N:=by rw [Int.mul_add];omega
   rw [h5,h4]at e2
   rw [h6,h7]at e1
   exact⟨ceilI_unique (by omega) (by rw [h3,e1];omega) (by rw [e1];omega),ceilI_unique (by omega) (by rw [h3,e2];omega) (by rw [e2];omega)⟩
def Rc.down (r:Rc) (n:Nat):Rc:=r.over (p2 n) (p2 n) 0 0
theorem ceilI_one (x:Int):ceilI x 1=x:=ceilI_unique (by omega) (by omega) (by omega)
theorem Rc.down0 (r:Rc):r.down 0=r:=by
 show Rc.mk _ _ _ _=r
 rw [show p2 0=1 from rfl]
 simp [ceilI_one]
theorem Rc.down_succ (r:Rc) (n:Nat):r.down (n+1)=(r.down n).half:=by
 unfold Rc.down Rc.over Rc.half
 simp only [Int.sub_zero]
 rw [(ceil_half r.x0 n).1,(ceil_half r.x1 n).1,(ceil_half r.y0 n).1,(ceil_half r.y1 n).1]
def Rc.three (r:Rc) (n:Nat):List Rc:=[r.over (p2 (n+1)) (p2 (n+1)) (p2 n) 0,r.over (p2 (n+1)) (p2 (n+1)) 0 (p2 n),r.over (p2 (n+1)) (p2 (n+1)) (p2 n) (p2 n)]
def sizes3 (q:Rc):List Int:=[((q.x1-q.x0)-lowsI q.x0 q.x1)*lowsI q.y0 q.y1,lowsI q.x0 q.x1*((q.y1-q.y0)-lowsI q.y0 q.y1),((q.x1-q.x0)-lowsI q.x0 q.x1)*((q.y1-q.y0)-lowsI q.y0 q.y1)]
theorem three_sizes {r:Rc} {S B:Int} (h:r.ok S B) (n:Nat):(r.three n).map Rc.area=sizes3 (r.down n):=by
 have h0:=p2_pos n
 have h1:=p2_half n
 have a1:=(h.over (dx:=p2 (n+1)) (dy:=p2 (n+1)) (ax:=p2 n) (ay:=0) ⟨by omega,by omega⟩ ⟨by omega,by omega⟩).area_eq
 have a2:=(h.over (dx:=p2 (n+1)) (dy:=p2 (n+1)) (ax:=0) (ay:=p2 n) ⟨by omega,by omega⟩ ⟨by omega,by omega⟩).area_eq
 have a3:=(h.over (dx:=p2 (n+1)) (dy:=p2 (n+1)) (ax:=p2 n) (ay:=p2 n) ⟨by omega,by omega⟩ ⟨by omega,by omega⟩).area_eq
 unfold Rc.three sizes3
 simp only [List.map_cons,List.map_nil,a1,a2,a3]
 unfold Rc.down Rc.over lowsI
 simp only [Int.sub_zero]
 rw [(ceil_half r.x0 n).1,(ceil_half r.x1 n).1,(ceil_half r.y0 n).1,(ceil_half r.y1 n).1,(ceil_half r.x0 n).2,(ceil_half r.x1 n).2,(ceil_half r.y0 n).2,(ceil_half r.y1 n).2]
 generalize ceilI r.x0 (p2 n)=p
 generalize ceilI r.x1 (p2 n)=q
 generalize ceilI r.y0 (p2 n)=s
 generalize ceilI r.y1 (p2 n)=t
 rw [show q-p-((q+1)/2-(p+1)/2)=q/2-p/2 by omega,show t-s-((t+1)/2-(s+1)/2)=t/2-s/2 by omega]
def rectsR (r:Rc) (L:Nat):Nat→List Rc
 |0=>bandsR r L 0
 |k+1=>rectsR r L k++bandsR r L (k+1)
def highs (r:Rc):Nat→List Int
 |0=>[]
 |n+1=>sizes3 (r.down n)++highs r n
theorem rects_sizes {r:Rc} {S B:Int} (h:r.ok S B) (L:Nat): ∀k,k≤L→(rectsR r L k).map Rc.area++highs r (L-k)=(r.down L).area::highs r L
 |0,_=>rfl
 |k+1,hk=>by
  have ih:=rects_sizes h L k (by omega)
  have e:bandsR r L (k+1)=r.three (L-(k+1)):=by
   unfold bandsR
   rw [if_neg (by omega)]
   rfl
  show(rectsR r L k++bandsR r L (k+1)).map Rc.area++_=_
  rw [List.map_append,e,three_sizes h,List.append_assoc,←ih]
  congr 1
  rw [show L-k=(L-(k+1))+1 by omega]
  rfl
theorem rects_all {r:Rc} {S B:Int} (h:r.ok S B) (L:Nat):(rectsR r L L).map Rc.area=(r.down L).area::highs r L:=by
 have:=rects_sizes h L L (Nat.le_refl _)
 rwa [Nat.sub_self,show highs r 0=[]from rfl,List.append_nil]at this
theorem rects_ok {r:Rc} {S B:Int} (h:r.ok S B) (L:Nat): ∀k,∀q∈rectsR r L k,q.ok S B
 |0,q,hq=>h.bands L 0 q hq
 |k+1,q,hq=>by
  rcases List.mem_append.1 hq with h1|h1
  · exact rects_ok h L k q h1
  · exact h.bands L (k+1) q h1
theorem bandsR_len (r:Rc) (L k:Nat):(bandsR r L k).length=if k=0 then 1 else 3:=by
 unfold bandsR
 split<;>rfl
theorem rects_len (r:Rc) (L:Nat): ∀k,(rectsR r L k).length=1+3*k
 |0=>rfl
 |k+1=>by
  show(rectsR r L k++bandsR r L (k+1)).length=_
  rw [List.length_append,rects_len r L k,bandsR_len,if_neg (by omega)]
  omega
def RdS (w:World) (A:Option Addr) (n k:Nat) (xs:List Value):Prop:=
 xs.length=n*k∧(0<n→ ∃b o,A=some ⟨b,o,none⟩∧w.rangeAt b o xs)
section
variable {w w':World} {A:Option Addr} {n k c base:Nat} {e:TypeId} {xs:List Value}
theorem RdS.of_own (h:w.ownsRow base e k (.slice A n c) n xs):RdS w A n k xs:=by
 refine⟨h.1,fun hn=>?_⟩
 rcases h.2 with⟨_,h0⟩|⟨g,cap,cur,hv,_⟩
 · omega
 · have hA:A=some ⟨g,0,none⟩:=by injection hv
   subst hA
   refine⟨g,0,rfl,fun j u hj=>?_⟩
   have:=h.cells (g:=g) rfl j u hj
   rwa [add_lit']at this
theorem RdS.keep {S:Nat→Prop} (h:RdS w A n k xs) (hk:Keep S w w') (hS: ∀ad,A=some ad→ ¬S ad.block):RdS w' A n k xs:=
 ⟨h.1,fun hn=>by
  obtain⟨b,o,e,hc⟩:=h.2 hn
  exact⟨b,o,e,range_keep hc hk (hS _ e)⟩⟩
theorem RdS.keep0 (h:RdS w A n k xs) (hk:Keep (fun _=>False) w w'):RdS w' A n k xs:=h.keep hk (fun _ _ h=>h)
theorem RdS.one (h:RdS w A n 1 xs):Rd w A n xs:=⟨by have:=h.1;omega,fun hn=>by
 obtain⟨b,o,e,hc⟩:=h.2 hn
 exact⟨_,e,fun j u hj=>by rw [add_lit'];exact hc j u hj⟩⟩
theorem Rd.keepF (h:Rd w A n xs) (hk:Keep (fun _=>False) w w'):Rd w' A n xs:=h.keep hk (fun _ _ h=>h)
theorem RdS.cell {i j:Nat} {v:Value} (h:RdS w A n k xs) (hi:i<n) (hv:xs[i*k+j]?=some v): ∃b o,A=some ⟨b,o,none⟩∧w.cell? ⟨b,o+i*k+j,none⟩=some v:=by
 obtain⟨b,o,e,hc⟩:=h.2 (by omega)
 refine⟨b,o,e,?_⟩
 have:=hc _ v hv
 rwa [← Nat.add_assoc]at this
theorem own_cap (h:w.ownsRow base e k (.slice A n c) n xs):n≤c:=by
 rcases h.2 with⟨h1,h0⟩|⟨g,cap,cur,hv,_,_,hnc,_⟩
 · injection h1;omega
 · injection hv with h1 h2 h3
   omega
theorem keep_app {w0:World} {size:Nat} {v:Value} (h:Keep (fun _=>False) w0 w) (ho:w.ownsRow base e size v n xs) (hb:w0.heap.size≤base) (hk:Keep (fun i=>v.ownBlock=some i) w w'):Keep (fun _=>False) w0 w':=
 h.new hk (fun i hi=>Nat.le_trans hb (ho.lt i hi).1)
theorem own_drew {size:Nat} {v:Value} (h:w.ownsRow base e size v n xs):w.drew.ownsRow base e size v n xs:=own_keep h ((Keep.refl (fun _=>False) w).drew) (fun _ _ h=>h)
theorem own_keepF {size:Nat} {v:Value} (h:w.ownsRow base e size v n xs) (hk:Keep (fun _=>False) w w'):w'.ownsRow base e size v n xs:=own_keep h hk (fun _ _ h=>h)
end
theorem wp_append_rows {P:Program} (w:World) {o:Oper} {a:Act} {K:Act→World→Prop} {Q:Exit→Act→World→Prop} (s x:Operand) (t:TypeId)
 (ho:o.op=.call { callee:=.builtin .append,args:=#[s,x],argTypes:=#[t,t] })
 (base:Nat) (e:TypeId) (i:TypeInfo) (z:Value) (size bytes:Nat) (ht:P.underlying t=some (.slice e)) (hi:P.info? e=some i) (hz:i.zero=some z)
 (hsize:i.size=size) (hby:i.bytes=bytes) (hzs:z.cells.size=size) (hsz:0<size)
 {A:Option Addr} {n c:Nat} {xs:List Value} (hown:w.ownsRow base e size (.slice A n c) n xs) (hs:a.eval s=.slice A n c) (cs:Array Value) (hcs:cs.size=size) (hx:a.eval x=.slice (some ⟨w.heap.size,0,none⟩) 1 1) (h1: ∀u∈cs.toList,u.oneCell'=true)
 (h63:n+1≤maxLen) (hbytes:(n+1)*bytes≤140737488355328) (hbase:base≤w.heap.size)
 (h: ∀A' c' w',w'.ownsRow base e size (.slice A' (n+1) c') (n+1) (xs++cs.toList)→Keep (fun i=>(Value.slice A n c).ownBlock=some i) w w'→K (a.put o.dst (.slice A' (n+1) c')) w'):
 o.wp P a (w.alloc (.cells cs e)) K Q:=by
 have hb:=Blk.new w e cs
 obtain⟨v',w',hr,h2,h3,h4,h5⟩:=run_append_own_at (P:=P) (w.alloc (.cells cs e)) base t o.type e i z size bytes ht hi hz hsize hby hzs hsz (.slice A n c) n xs (own_keepF hown ((Keep.refl _ w).alloc _)) ⟨w.heap.size,0,none⟩ 1 1 cs.toList (by simp [hcs]) (fun j u hj=>by
  rw [add_lit',Nat.zero_add,hb.cell]
  simpa using hj) h1 h63 hbytes (by simp;omega)
 obtain⟨A',c',rfl⟩:=own_form h2
 unfold Oper.wp execOp
 simp only [ho,resolve,invoke,builtin,Sem.run_bind,Sem.run_pure,Result.andThen_ok,List.map_toArray,List.map_cons,List.map_nil,hs,hx,hr]
 exact h A' c' w' h2 (((Keep.refl _ w).alloc _).grown h3 (fun k hk=>.inl hk))
theorem wpList_append_rows {P:Program} (w:World) {ops:Array Oper} {rest:List Oper} {o:Oper} {a:Act} {Q:Exit→Act→World→Prop} (hgd:o.guard=none) (s x:Operand) (t:TypeId)
 (ho:o.op=.call { callee:=.builtin .append,args:=#[s,x],argTypes:=#[t,t] })
 (base:Nat) (e:TypeId) (i:TypeInfo) (z:Value) (size bytes:Nat) (ht:P.underlying t=some (.slice e)) (hi:P.info? e=some i) (hz:i.zero=some z)
 (hsize:i.size=size) (hby:i.bytes=bytes) (hzs:z.cells.size=size) (hsz:0<size)
 {A:Option Addr} {n c:Nat} {xs:List Value} (hown:w.ownsRow base e size (.slice A n c) n xs) (hs:a.eval s=.slice A n c) (cs:Array Value) (hcs:cs.size=size) (hx:a.eval x=.slice (some ⟨w.heap.size,0,none⟩) 1 1) (h1: ∀u∈cs.toList,u.oneCell'=true)
 (h63:n+1≤maxLen) (hbytes:(n+1)*bytes≤140737488355328) (hbase:base≤w.heap.size)
 (h: ∀A' c' w',w'.ownsRow base e size (.slice A' (n+1) c') (n+1) (xs++cs.toList)→Keep (fun i=>(Value.slice A n c).ownBlock=some i) w w'→wpList P ops Q rest (a.put o.dst (.slice A' (n+1) c')) w'):
 wpList P ops Q (o::rest) a (w.alloc (.cells cs e)):=
 wpList_plain hgd fun _ hK=>wp_append_rows w s x t ho base e i z size bytes ht hi hz hsize hby hzs hsz hown hs cs hcs hx h1 h63 hbytes hbase fun A' c' w' h2 h3=>hK _ _ (h A' c' w' h2 h3)
theorem mul_in {a b B:Int} (ha:0≤a) (hb:0≤b) (h:a*b≤B) (hB:B≤4611686018427387904): ∃u,wrap64 (a*b)=u∧a*b=u∧0≤u∧u≤B:=by
 have h0:=Int.mul_nonneg ha hb
 exact⟨a*b,IntWalk.wrap64_in _ (by omega),rfl,h0,h⟩
structure Pm where
 tx:Int
 ty:Int
 lev:Nat
 cbw:Nat
 cbh:Nat
 prec:Nat
 style:Nat
 order:Nat
 lay:Nat
 rct:Bool
 sop:Bool
 eph:Bool
def Pm.cells (p:Pm):Array Value:=#[.int .i64 p.tx,.int .i64 p.ty,.int .i64 p.lev,.int .i64 p.cbw,.int .i64 p.cbh,.int .i64 p.prec,.int .i64 p.style,.int .i64 p.order,.int .i64 p.lay,.bool p.rct,.bool p.sop,.bool p.eph]
def Pm.val (p:Pm):Value:=.agg p.cells
theorem info_rect :(Tryz.prog.info? 63).map (fun i=>(i.zero,i.size,i.bytes))=some (some (.agg #[.int .i64 0,.int .i64 0,.int .i64 0,.int .i64 0]),4,32):=by kernel_rfl
theorem rcs_app (a b:List Rc):rcs (a++b)=rcs a++rcs b:=by unfold rcs;rw [List.flatMap_append]
theorem rcs_one (r:Rc):rcs [r]=[.int .i64 r.x0,.int .i64 r.y0,.int .i64 r.x1,.int .i64 r.y1]:=rfl
theorem rcs_snoc (a:List Rc) (r:Rc):rcs (a++[r])=rcs a++[.int .i64 r.x0,.int .i64 r.y0,.int .i64 r.x1,.int .i64 r.y1]:=by rw [rcs_app,rcs_one]
theorem rcs_len : ∀l:List Rc,(rcs l).length=l.length*4
 |[]=>rfl
 |r::l=>by show([Value.int .i64 r.x0,.int .i64 r.y0,.int .i64 r.x1,.int .i64 r.y1]++rcs l).length=_;rw [List.length_append,rcs_len l];simp only [List.length_cons,List.length_nil];omega
theorem rcs_onecell (l:List Rc): ∀v∈rcs l,v.oneCell'=true:=by
 intro v hv
 obtain⟨r,_,h⟩:=List.mem_flatMap.1 hv
 unfold Rc.cells at h
 simp at h
 rcases h with rfl|rfl|rfl|rfl<;>rfl
theorem one4 (a b c d:Int): ∀v∈(#[Value.int .i64 a,.int .i64 b,.int .i64 c,.int .i64 d]).toList,v.oneCell'=true:=by
 intro v hv
 simp at hv
 rcases hv with rfl|rfl|rfl|rfl<;>rfl
def setL (cs:Array Value):Nat→List Value→Array Value
 |_,[]=>cs
 |o,v::r=>setL (cs.setIfInBounds o v) (o+1) r
theorem setL_size : ∀(vs:List Value) (cs:Array Value) (o:Nat),(setL cs o vs).size=cs.size
 |[],_,_=>rfl
 |v::r,cs,o=>by show(setL (cs.setIfInBounds o v) (o+1) r).size=_;rw [setL_size r];simp
theorem setL_out : ∀(vs:List Value) (cs:Array Value) (o j:Nat),j<o∨o+vs.length≤j→(setL cs o vs)[j]?=cs[j]?
 |[],_,_,_,_=>rfl
 |v::r,cs,o,j,h=>by
  show(setL (cs.setIfInBounds o v) (o+1) r)[j]?=_
  rw [setL_out r _ _ _ (by simp at h;omega),Array.getElem?_setIfInBounds_ne (by simp at h;omega)]
theorem setL_in : ∀(vs:List Value) (cs:Array Value) (o j:Nat),o+vs.length≤cs.size→j<vs.length→(setL cs o vs)[o+j]?=vs[j]?
 |[],_,_,_,_,h=>by simp at h
 |v::r,cs,o,0,hs,_=>by
  show(setL (cs.setIfInBounds o v) (o+1) r)[o]?=_
  simp at hs
  rw [setL_out r _ _ _ (by omega),Array.getElem?_setIfInBounds_self_of_lt (by omega)]
  rfl
 |v::r,cs,o,j+1,hs,h=>by
  show(setL (cs.setIfInBounds o v) (o+1) r)[o+(j+1)]?=_
  simp at hs h
  rw [show o+(j+1)=(o+1)+j by omega,setL_in r _ _ j (by simp;omega) h]
  rfl
theorem Blk.setL {w:World} {g:Nat} {t:TypeId}: ∀(vs:List Value) (cs:Array Value) (o:Nat) (w:World),Blk w g t cs→Blk (w.setCells g o vs) g t (setL cs o vs)
 |[],_,_,_,h=>h
 |v::r,cs,o,w,h=>Blk.setL r (cs.setIfInBounds o v) (o+1) _ (h.set_ o v) (w:=w)
theorem keep_setL {g:Nat}: ∀(vs:List Value) (o:Nat) (w:World),Keep (fun j=>j=g) w (w.setCells g o vs)
 |[],_,w=>Keep.refl _ w
 |v::r,o,w=>(Keep.set1 w g o v).trans (keep_setL r (o+1) _) (fun _ _ h=>h)
theorem Blk.there {w:World} {g:Nat} {t:TypeId} {cs:Array Value} (h:Blk w g t cs) {o n:Nat} (hn:o+n≤cs.size):w.there g o n:=fun j hj=>⟨by rw [h.cell];simp;omega,h.frozen _⟩
section
variable {P :Program} {ops:Array Oper} {Q:Exit→Act→World→Prop}
theorem wp_store_in {op:Oper} {a:Act} {w:World} {K:Act→World→Prop} {g:Nat} {t:TypeId} {cs:Array Value} (hb:Blk w g t cs) (ty:TypeId) (x y:Operand) (ho:op.op=.store ty x y)
 (o:Nat) (cells:Array Value) (hx:a.eval x=.pointer (some ⟨g,o,none⟩)) (hy:a.eval y=.agg cells) (hn:o+cells.size≤cs.size)
 (hi:(P.info? ty).map (·.size)=some cells.size) (h1:cells.all (·.oneCell')=true)
 (h: ∀w2,Blk w2 g t (setL cs o cells.toList)→Keep (fun j=>j=g) w w2→K (a.put op.dst undef) w2):op.wp P a w K Q:=
 wp_store_mid ty x y ho g o cells hx hy (hb.there hn) hi h1 (h _ (Blk.setL (w:=w) _ _ _ _ hb) (keep_setL _ _ _))
theorem wpList_store_in {rest:List Oper} {op:Oper} {a:Act} {w:World} {g:Nat} {t:TypeId} {cs:Array Value} (hb:Blk w g t cs) (hgd:op.guard=none) (ty:TypeId) (x y:Operand) (ho:op.op=.store ty x y)
 (o:Nat) (cells:Array Value) (hx:a.eval x=.pointer (some ⟨g,o,none⟩)) (hy:a.eval y=.agg cells) (hn:o+cells.size≤cs.size)
 (hi:(P.info? ty).map (·.size)=some cells.size) (h1:cells.all (·.oneCell')=true)
 (h: ∀w2,Blk w2 g t (setL cs o cells.toList)→Keep (fun j=>j=g) w w2→wpList P ops Q rest (a.put op.dst undef) w2):wpList P ops Q (op::rest) a w:=
 wpList_plain hgd fun _ hK=>wp_store_in hb ty x y ho o cells hx hy hn hi h1 (fun w2 h2 h3=>hK _ _ (h w2 h2 h3))
theorem wp_make {o:Oper} {a:Act} {w:World} {K:Act→World→Prop} (l c:Operand) (t:TypeId) (hop:o.op=Op.makeSlice t l c) (e:TypeId) (i:TypeInfo) (z:Value) (h1:P.underlying t=some (.slice e)) (h2:P.info? e=some i) (h3:i.zero=some z) (h4:i.size=1) (hz:z.cells=#[z])
 (n:Nat) (hl:a.eval l=.int .i64 n) (hc:a.eval c=.int .i64 n) (b2:i.bytes*n≤281474976710656) (b3:n≤maxLen)
 (h: ∀w2,Blk w2 w.heap.size e (madeCells #[z] n)→Keep (fun _=>False) w w2→K (a.put o.dst (.slice (some ⟨w.heap.size,0,none⟩) n n)) w2):o.wp P a w K Q:=by
 have h63:(n:Int)≤9223372036854775807:=by
  have h:=b3
  simp [maxLen]at h
  omega
 have hb':(i.bytes:Int)*(n:Int)≤281474976710656:=by
  have h:((i.bytes*n:Nat):Int)≤281474976710656:=by omega
  rwa [Int.natCast_mul]at h
 have hr:=run_make (P:=P) w t e i z h1 h2 h3 .i64 .i64 n n (by omega) (Int.le_refl _) hb' h63
 simp only [Int.toNat_natCast,h4,Nat.mul_one,hz]at hr
 unfold Oper.wp
 simp only [execOp,hop,hl,hc,hr,Result.andThen,Sem.run_bind,Sem.run_pure]
 exact h _ (Blk.new w e _) ((Keep.refl _ w).alloc _)
theorem wpList_make {rest:List Oper} {o:Oper} {a:Act} {w:World} (hgd:o.guard=none) (l c:Operand) (t:TypeId) (hop:o.op=Op.makeSlice t l c) (e:TypeId) (i:TypeInfo) (z:Value) (h1:P.underlying t=some (.slice e)) (h2:P.info? e=some i) (h3:i.zero=some z) (h4:i.size=1) (hz:z.cells=#[z])
 (n:Nat) (hl:a.eval l=.int .i64 n) (hc:a.eval c=.int .i64 n) (b2:i.bytes*n≤281474976710656) (b3:n≤maxLen)
 (h: ∀w2,Blk w2 w.heap.size e (madeCells #[z] n)→Keep (fun _=>False) w w2→wpList P ops Q rest (a.put o.dst (.slice (some ⟨w.heap.size,0,none⟩) n n)) w2):wpList P ops Q (o::rest) a w:=
 wpList_plain hgd fun _ hK=>wp_make l c t hop e i z h1 h2 h3 h4 hz n hl hc b2 b3 (fun w2 h2 h3=>hK _ _ (h w2 h2 h3))
end
theorem ret_cell_tmp {P:Program} {fn:Func} {p q:Tmp} {ty:TypeId} (h:fn.results=#[.cell p ty,.tmp q]) (tmps:Array Value) (w:World) (g:Nat) (t:TypeId) (cs:Array Value) (d:TypeDesc) (v:Value)
 (hg:Blk w g t cs) (hp:tmps.getD p undef=.pointer (some ⟨g,0,none⟩)) (hq:tmps.getD q undef=v)
 (hu:P.underlying ty=some d) (hd:(match d with|.struct _|.array _ _=>true|_=>false)=true) (hi:(P.info? ty).map (·.size)=some cs.size):
 (results fn tmps).run P w=.ok (.tuple #[.agg cs,v]) w:=by
 have hp':tmps[p]?.getD undef=.pointer (some ⟨g,0,none⟩):=by simpa using hp
 have hq':tmps[q]?.getD undef=v:=by simpa using hq
 have hl:=run_loadVar_row (P:=P) w g t ty cs (0,0) d hg hu hd hi
 simp [results,h,hp',hq',asAddr,hl]
theorem ret_cell_cell {P:Program} {fn:Func} {p q:Tmp} {ty ty2:TypeId} (h:fn.results=#[.cell p ty,.cell q ty2]) (tmps:Array Value) (w:World) (g g2:Nat) (t t2:TypeId) (cs cs2:Array Value) (d d2:TypeDesc)
 (hg:Blk w g t cs) (hg2:Blk w g2 t2 cs2) (hp:tmps.getD p undef=.pointer (some ⟨g,0,none⟩)) (hq:tmps.getD q undef=.pointer (some ⟨g2,0,none⟩))
 (hu:P.underlying ty=some d) (hd:(match d with|.struct _|.array _ _=>true|_=>false)=true) (hi:(P.info? ty).map (·.size)=some cs.size)
 (hu2:P.underlying ty2=some d2) (hd2:(match d2 with|.struct _|.array _ _=>true|_=>false)=true) (hi2:(P.info? ty2).map (·.size)=some cs2.size):
 (results fn tmps).run P w=.ok (.tuple #[.agg cs,.agg cs2]) w:=by
 have hp':tmps[p]?.getD undef=.pointer (some ⟨g,0,none⟩):=by simpa using hp
 have hq':tmps[q]?.getD undef=.pointer (some ⟨g2,0,none⟩):=by simpa using hq
 have hl:=run_loadVar_row (P:=P) w g t ty cs (0,0) d hg hu hd hi
 have hl2:=run_loadVar_row (P:=P) w g2 t2 ty2 cs2 (0,0) d2 hg2 hu2 hd2 hi2
 simp [results,h,hp',hq',asAddr,hl,hl2]
theorem made_at (z:Value) (n i:Nat) (h:i<n):(madeCells #[z] n)[i]?=some z:=by
 unfold madeCells
 simp [h,Nat.mod_one]
theorem info_bool :(Tryz.prog.info? 4).map (fun i=>(i.zero,i.size,i.bytes))=some (some (.bool false),1,1):=by kernel_rfl
def RowP (n:Nat) (w:World) (e:Ending) (w':World):Prop:= ∃(A:Option Addr) (c:Nat) (zs:List Int),e=.returned (.slice A n c)∧zs.length=n∧w'.ownsRow w.heap.size 3 1 (.slice A n c) n (zs.map (Value.int .i64))∧Keep (fun _=>False) w w'
def Own (w:World) (base:Nat) (A:Option Addr) (n c:Nat):Prop:= ∃zs:List Int,zs.length=n∧w.ownsRow base 3 1 (.slice A n c) n (zs.map (Value.int .i64))
section
variable {w w':World} {base n c:Nat} {A:Option Addr}
theorem Own.keepF (h:Own w base A n c) (hk:Keep (fun _=>False) w w'):Own w' base A n c:=by
 obtain⟨zs,h1,h2⟩:=h
 exact⟨zs,h1,own_keepF h2 hk⟩
theorem Own.nil (w:World) (base:Nat):Own w base none 0 0:=⟨[],rfl,World.ownsRow_nil _ _ _ _⟩
theorem Own.get (h:Own w base A n c) {i:Nat} (hi:i<n): ∃g z,A=some ⟨g,0,none⟩∧n≤c∧base≤g∧w.cell? ⟨g,i,none⟩=some (.int .i64 z)∧w.frozen? ⟨g,i,none⟩=false∧(∀ y,Own (w.setCell ⟨g,i,none⟩ (.int .i64 y)) base A n c):=by
 obtain⟨zs,h1,h2⟩:=h
 obtain⟨g,hA,hnc,hb,hcl,hfz⟩:=own_at h2 (by omega)
 obtain⟨z,hz⟩: ∃z,zs[i]?=some z:=⟨_,List.getElem?_eq_getElem (by omega)⟩
 subst hA
 refine⟨g,z,rfl,hnc,hb,hcl i _ (by rw [List.getElem?_map,hz];rfl),hfz i,fun y=>⟨zs.set i y,by simpa using h1,?_⟩⟩
 have h3:=(World.ownsRow.stored h2 i (.int .i64 y)).1
 rwa [← List.map_set]at h3
theorem Own.push (h:Own w base A n c) {A':Option Addr} {c':Nat} {z:Int} (ho: ∀zs:List Int,w.ownsRow base 3 1 (.slice A n c) n (zs.map (Value.int .i64))→w'.ownsRow base 3 1 (.slice A' (n+1) c') (n+1) (zs.map (Value.int .i64)++[.int .i64 z])):Own w' base A' (n+1) c':=by
 obtain⟨zs,h1,h2⟩:=h
 exact⟨zs++[z],by simp [h1],by rw [List.map_append];exact ho zs h2⟩
end
structure TwoR (w0:World) (X:Option Addr) (n cX:Nat) (O:Option Addr) (m cO:Nat) (w:World):Prop where
 x:Own w w0.heap.size X n cX
 o:Own w w0.heap.size O m cO
 ap: ∀a b,O=some a→X=some b→a.block≠b.block
 keep:Keep (fun _=>False) w0 w
theorem TwoR.push {w0 w w2:World} {X O O2:Option Addr} {n cX m cO cO2:Nat} (h:TwoR w0 X n cX O m cO w) {zo:List Int} {z:Int} {ob:Obj} (hl:zo.length=m)
 (ho:w2.ownsRow w0.heap.size 3 1 (.slice O2 (m+1) cO2) (m+1) (zo.map (Value.int .i64)++[.int .i64 z])) (hg:(w.alloc ob).grownBy w2 (Value.slice O m cO).ownBlock) (hat:(Value.slice O2 (m+1) cO2).ownBlock=(Value.slice O m cO).ownBlock∨(Value.slice O2 (m+1) cO2).ownBlock=some (w.heap.size+1)):
 TwoR w0 X n cX O2 (m+1) cO2 w2:=by
 have hk:Keep (fun i=>(Value.slice O m cO).ownBlock=some i) w w2:=((Keep.refl _ w).alloc ob).grown hg (fun k hk=>.inl hk)
 obtain⟨zx,hx1,hx2⟩:=h.x
 obtain⟨zo',ho1,ho2⟩:=h.o
 refine⟨⟨zx,hx1,own_keep hx2 hk (fun k e e2=>?_)⟩,⟨zo++[z],by simp [hl],by rw [List.map_append];exact ho⟩,fun a b ea eb=>?_,keep_app h.keep ho2 (Nat.le_refl _) hk⟩
 · obtain⟨ax,e3,e4⟩:=own_foot e
   obtain⟨ao,e5,e6⟩:=own_foot e2
   exact h.ap ao ax e5 e3 (e6.trans e4.symm)
 · subst ea
   subst eb
   rcases hat with h1|h1
   · have h2:(Value.slice O m cO).ownBlock=some a.block:=by rw [← h1];rfl
     obtain⟨ao,e5,e6⟩:=own_foot h2
     rw [← e6]
     exact h.ap ao b e5 rfl
   · have h2:a.block=w.heap.size+1:=by simpa [Value.ownBlock]using h1
     have h3:=(hx2.lt b.block (by simp [Value.ownBlock])).2
     omega
theorem Own.rd {w:World} {base n c:Nat} {A:Option Addr} (h:Own w base A n c): ∃zs:List Int,zs.length=n∧Rd w A n (zs.map (Value.int .i64)):=by
 obtain⟨zs,h1,h2⟩:=h
 exact⟨zs,h1,Rd.of_own h2⟩
theorem TwoR.setX {w0 w:World} {X O:Option Addr} {n cX m cO:Nat} (h:TwoR w0 X n cX O m cO w) {i:Nat} (hi:i<n): ∃g z,X=some ⟨g,0,none⟩∧n≤cX∧w.cell? ⟨g,i,none⟩=some (.int .i64 z)∧w.frozen? ⟨g,i,none⟩=false∧ ∀y,TwoR w0 X n cX O m cO (w.setCell ⟨g,i,none⟩ (.int .i64 y)):=by
 obtain⟨g,z,hX,hnc,hb,hc,hf,hs⟩:=h.x.get hi
 obtain⟨zo,ho1,ho2⟩:=h.o
 refine⟨g,z,hX,hnc,hc,hf,fun y=>⟨hs y,⟨zo,ho1,own_keep ho2 (Keep.set1 w g i _) (fun k e e2=>?_)⟩,h.ap,h.keep.setCell (p:=⟨g,i,none⟩) (.inr hb) _⟩⟩
 obtain⟨ao,e5,e6⟩:=own_foot e
 exact h.ap ao _ e5 hX (e6.trans e2)
theorem TwoR.of {w0 w:World} {X O:Option Addr} {n cX m cO:Nat} (hx:Own w w0.heap.size X n cX) (hk:Keep (fun _=>False) w0 w) {w2:World} (ho:Own w2 w.heap.size O m cO) (hk2:Keep (fun _=>False) w w2):TwoR w0 X n cX O m cO w2:=by
 obtain⟨zo,ho1,ho2⟩:=ho
 refine⟨hx.keepF hk2,⟨zo,ho1,own_mono ho2 hk.size⟩,fun a b ea eb=>?_,hk.trans hk2 (fun _ _ h=>h)⟩
 obtain⟨zx,hx1,hx2⟩:=hx
 subst ea
 subst eb
 have h1:=(ho2.lt a.block (by simp [Value.ownBlock])).1
 have h2:=(hx2.lt b.block (by simp [Value.ownBlock])).2
 omega
def NatP (n:Nat) (w:World) (e:Ending) (w':World):Prop:= ∃k:Nat,k<n∧e=.returned (.int .i64 k)∧w=w'
theorem near_any (w:World) (i:Int) (n:Nat) (hn:2≤n) (hn2:n≤64) (hi:-1≤i) (hi2:i≤n):Calls Tryz.prog 114 #[.int .i64 i,.int .i64 n] w (NatP n w):=by
 have HD:Hid (∀ z:Int,0≤z→z<n→NatP n w (.returned (.int .i64 z)) w):=hid (fun z h1 h2=>⟨z.toNat,by omega,by rw [show((z.toNat:Nat):Int)=z by omega],rfl⟩)
 by_cases h1:i<0
 · obtain rfl:i=-1:=by omega
   go_enter Tryz.func114,Tryz.ntmps114
   go_wp2_with fail
   go_ret
   exact HD.out 1 (by omega) (by omega)
 · by_cases h2:i=n
   · subst h2
     go_enter Tryz.func114,Tryz.ntmps114
     go_wp2_with fail
     go_ret
     exact HD.out _ (by omega) (by omega)
   · have h3:i<n:=by omega
     clear h2
     go_enter Tryz.func114,Tryz.ntmps114
     go_wp2_with fail
     go_ret
     exact HD.out i (by omega) (by omega)
end Go.Proofs.YthfogcgdijmaoaaGreat
