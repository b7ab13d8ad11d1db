/-
  Part 10 of the proof: Prec Geo StRow Mid Lift Lift2 Tiles SPut GramSeg. Conditions: those of the statements.
-/
import Derived.Test.YthfogcgdijmaoaaGreatW1
import Derived.Test.YthfogcgdijmaoaaGreatW2
import Derived.Test.YthfogcgdijmaoaaGreatW3
import Derived.Test.YthfogcgdijmaoaaGreatW5
import Derived.Test.YthfogcgdijmaoaaGreatW6
import Derived.Test.YthfogcgdijmaoaaGreatW7
import Derived.Test.YthfogcgdijmaoaaGreatW9
import Derived.Deep.QuietTactic
import Derived.BigQuiet
import Derived.Laws.MakeOwn
set_option maxRecDepth 100000
set_option maxHeartbeats 16000000
set_option linter.unusedVariables false
set_option linter.unusedSimpArgs false
namespace Go.Proofs.YthfogcgdijmaoaaGreat
open Go.RowKit
def Rc.preW (r:Rc) (p:Nat):Int:=if r.area=0 then 0 else ceilI r.x1 (p2 p)-r.x0/p2 p
def Rc.preH (r:Rc) (p:Nat):Int:=if r.area=0 then 0 else ceilI r.y1 (p2 p)-r.y0/p2 p
def Rc.pos (r:Rc) (B:Int):Prop:=(0≤r.x0∧r.x0≤B)∧(0≤r.y0∧r.y0≤B)∧(0≤r.x1∧r.x1≤B)∧(0≤r.y1∧r.y1≤B)
theorem Rc.pos.fits {r:Rc} {B:Int} (h:r.pos B):r.fits B:=by
 obtain⟨h1,h2,h3,h4⟩:=h
 exact⟨⟨by omega,by omega⟩,⟨by omega,by omega⟩,⟨by omega,by omega⟩,by omega,by omega⟩
theorem ceilI_pos {a b:Int} (ha:0≤a):ceilI a b=(a+b-1)/b:=if_neg (by omega)
theorem ceilI_lim {a b:Int} (ha:0≤a) (hb:0<b):0≤ceilI a b∧ceilI a b≤a:=by
 rw [ceilI_pos ha]
 refine⟨Int.ediv_nonneg (by omega) (by omega),?_⟩
 rcases Int.lt_or_le 0 a with h|h
 · have:(a+b-1)/b<a+1:=Int.ediv_lt_of_lt_mul hb (by
    have:(a+1)*b=a*b+b:=by rw [Int.add_mul];omega
    have h2:a*1≤a*b:=Int.mul_le_mul_of_nonneg_left (by omega) ha
    omega)
   omega
 · obtain rfl:a=0:=by omega
   rw [Int.ediv_eq_zero_of_lt (by omega) (by omega)]
   omega
theorem div_lim {a b:Int} (ha:0≤a) (hb:0<b):0≤a/b∧a/b≤a:=⟨Int.ediv_nonneg ha (by omega),Int.ediv_le_self _ ha⟩
theorem prec_any (w:World) (r:Rc) (p:Nat) (h:r.pos 16777216) (hp:p≤15):
 Calls Tryz.prog 53 #[r.val,.int .i64 p] w fun e w'=>e=.returned (.tuple #[.int .i64 (r.preW p),.int .i64 (r.preH p)])∧Keep (fun _=>False) w w':=by
 have AR:=fun w=>area_any w r h.fits
 have HK:=hid ((Keep.refl (fun _=>False) w).alloc (.cells r.cells 63))
 have HB:=hid (Blk.new w 63 r.cells)
 have hn:=p2_pos p
 have hn2:=p2_16 (d:=p) (by omega)
 have hpw:=p2_wrap (d:=p) (by omega)
 obtain⟨h1,h2,h3,h4⟩:=h
 have l1:=ceilI_lim h3.1 hn
 have l2:=ceilI_lim h4.1 hn
 have l3:=div_lim h1.1 hn
 have l4:=div_lim h2.1 hn
 by_cases ha:r.area=0
 · have HW:=hid (show r.preW p=0 from if_pos ha)
   have HH:=hid (show r.preH p=0 from if_pos ha)
   rw [ha]at AR
   clear ha
   rw [HW.out,HH.out]
   obtain⟨x0,y0,x1,y1⟩:=r
   unfold Rc.val at AR ⊢
   unfold Rc.cells at HK HB
   simp only at*
   go_enter Tryz.func53,Tryz.ntmps53
   go_wp2_with fail
   refine(AR _).mono ?_
   rintro e w2 ⟨rfl,hk⟩
   have HK2:=hid (HK.out.trans hk (fun _ _ h=>h))
   clear hk HB HK AR
   go_wp2_with fail
   exact bodyPost_ret (v:=.tuple #[_,_]) (by simp [results,Tryz.results53,go_sem]<;>exact⟨rfl,rfl⟩) rfl ⟨rfl,HK2.out⟩
 · have HW:=hid (show r.preW p=ceilI r.x1 (p2 p)-r.x0/p2 p from if_neg ha)
   have HH:=hid (show r.preH p=ceilI r.y1 (p2 p)-r.y0/p2 p from if_neg ha)
   rw [HW.out,HH.out]
   have hz0:(p2 p==0)=false:=by simp;omega
   have hz1: ¬p2 p=0:=by omega
   have hz2: ¬p2 p=-1:=by omega
   have t1:r.x0.tdiv (p2 p)=r.x0/p2 p:=Int.tdiv_eq_ediv_of_nonneg h1.1
   have t2:r.y0.tdiv (p2 p)=r.y0/p2 p:=Int.tdiv_eq_ediv_of_nonneg h2.1
   have v1:IntKind.i64.wrap (r.x0/p2 p)=r.x0/p2 p:=IntWalk.i64_in _ (by omega)
   have v2:IntKind.i64.wrap (r.y0/p2 p)=r.y0/p2 p:=IntWalk.i64_in _ (by omega)
   have v3:IntKind.i64.wrap (ceilI r.x1 (p2 p)-r.x0/p2 p)=ceilI r.x1 (p2 p)-r.x0/p2 p:=IntWalk.i64_in _ (by omega)
   have v4:IntKind.i64.wrap (ceilI r.y1 (p2 p)-r.y0/p2 p)=ceilI r.y1 (p2 p)-r.y0/p2 p:=IntWalk.i64_in _ (by omega)
   have hza:(r.area==0)=false:=by simpa using ha
   clear ha HW HH
   generalize r.area=aa at*
   obtain⟨x0,y0,x1,y1⟩:=r
   unfold Rc.val at AR ⊢
   unfold Rc.cells at HK HB
   simp only at*
   generalize x0/p2 p=q0 at*
   generalize y0/p2 p=q1 at*
   go_enter Tryz.func53,Tryz.ntmps53
   go_wp2_with fail
   refine(AR _).mono ?_
   rintro e w2 ⟨rfl,hk⟩
   have HK2:=hid (HK.out.trans hk (fun _ _ h=>h))
   have hb:=HB.out.keep hk (fun h=>h)
   have c0:=hb.cell 0
   have c1:=hb.cell 1
   have c2:=hb.cell 2
   have c3:=hb.cell 3
   simp at c0 c1 c2 c3
   clear hk hb HB HK AR
   go_wp2_with fail
   go_quiet ((go_at_call 38;refine Calls.quiet_of_same ((ceil_any _ _ _ (by omega) (by omega) (by omega) (by omega)).mono (fun _ _ h=>⟨h.1,h.2.symm⟩))))
   go_wp2_with fail
   exact bodyPost_ret (v:=.tuple #[_,_]) (by simp [results,Tryz.results53,go_sem]<;>exact⟨rfl,rfl⟩) rfl ⟨rfl,HK2.out.drewN _⟩
theorem mul_lt_of {d a b:Int} (hd:0<d) (h:d*a<d*b):a<b:=Int.lt_of_mul_lt_mul_left h (by omega)
theorem ceilI_spec {a d:Int} (hd:0<d):d*(ceilI a d-1)<a∧a≤d*ceilI a d:=by
 unfold ceilI
 split
 · have h1:=Int.mul_ediv_add_emod (-a) d
   have h2:=Int.emod_nonneg (-a) (show d≠0 by omega)
   have h3:=Int.emod_lt_of_pos (-a) hd
   rw [Int.mul_sub,Int.mul_neg]
   omega
 · have h1:=Int.mul_ediv_add_emod (a+d-1) d
   have h2:=Int.emod_nonneg (a+d-1) (show d≠0 by omega)
   have h3:=Int.emod_lt_of_pos (a+d-1) hd
   rw [Int.mul_sub]
   omega
theorem ceilI_unique {a d y:Int} (hd:0<d) (h1:d*(y-1)<a) (h2:a≤d*y):ceilI a d=y:=by
 have hs:=ceilI_spec (a:=a) hd
 have h3:=mul_lt_of hd (Int.lt_of_lt_of_le hs.1 h2)
 have h4:=mul_lt_of hd (Int.lt_of_lt_of_le h1 hs.2)
 omega
theorem ceilI_mono {a b d:Int} (hd:0<d) (h:a≤b):ceilI a d≤ceilI b d:=by
 have h1:=(ceilI_spec (a:=a) hd).1
 have h2:=(ceilI_spec (a:=b) hd).2
 have h3:=mul_lt_of hd (show d*(ceilI a d-1)<d*ceilI b d by omega)
 omega
theorem ceilI_wide {a b d:Int} (hd:0<d) (h:a≤b):ceilI b d-ceilI a d≤b-a:=by
 have h1:=(ceilI_spec (a:=b) hd).1
 have h2:=(ceilI_spec (a:=a) hd).2
 rcases Int.lt_or_le (ceilI b d-1-ceilI a d) 0 with h3|h3
 · omega
 · have h4:1*(ceilI b d-1-ceilI a d)≤d*(ceilI b d-1-ceilI a d):=Int.mul_le_mul_of_nonneg_right (by omega) h3
   rw [show ceilI b d-1-ceilI a d=(ceilI b d-1)-ceilI a d by omega,Int.mul_sub d]at h4
   omega
theorem ceilI_low {a d:Int} (hd:0<d) (h:-d<a):0≤ceilI a d:=by
 have h2:=(ceilI_spec (a:=a) hd).2
 have h3:=mul_lt_of hd (show d*(-1)<d*ceilI a d by omega)
 omega
theorem ceilI_top {a d B:Int} (hd:0<d) (h:a≤B) (hB:0≤B):ceilI a d≤B:=Int.le_trans (ceilI_mono hd h) (ceilI_lim hB hd).2
structure Rc.ok (r:Rc) (S B:Int):Prop where
 x0:0≤r.x0
 xx:r.x0≤r.x1
 x1:r.x1≤B
 xs:r.x1-r.x0≤S
 y0:0≤r.y0
 yy:r.y0≤r.y1
 y1:r.y1≤B
 ys:r.y1-r.y0≤S
section
variable {r :Rc} {S B:Int}
theorem Rc.ok.pos (h:r.ok S B):r.pos B:=by
 obtain⟨h1,h2,h3,h4,h5,h6,h7,h8⟩:=h
 exact⟨⟨by omega,by omega⟩,⟨by omega,by omega⟩,⟨by omega,by omega⟩,by omega,by omega⟩
theorem Rc.pos.mono {C:Int} (h:r.pos B) (hc:B≤C):r.pos C:=by
 obtain⟨h1,h2,h3,h4⟩:=h
 exact⟨⟨by omega,by omega⟩,⟨by omega,by omega⟩,⟨by omega,by omega⟩,by omega,by omega⟩
theorem Rc.ok.fits24 (h:r.ok S B) (hB:B≤16777216):r.fits 16777216:=(h.pos.mono hB).fits
theorem Rc.ok.area_eq (h:r.ok S B):r.area=(r.x1-r.x0)*(r.y1-r.y0):=by
 have:=h.xx
 have:=h.yy
 unfold Rc.area
 rw [Int.max_eq_left (by omega),Int.max_eq_left (by omega)]
theorem Rc.ok.area_le (h:r.ok S B):0≤r.area∧r.area≤S*S:=by
 rw [h.area_eq]
 obtain⟨h1,h2,h3,h4,h5,h6,h7,h8⟩:=h
 exact⟨Int.mul_nonneg (by omega) (by omega),Int.mul_le_mul (by omega) (by omega) (by omega) (by omega)⟩
theorem Rc.ok.over (h:r.ok S B) {dx dy ax ay:Int} (hx:0≤ax∧ax<dx) (hy:0≤ay∧ay<dy):(r.over dx dy ax ay).ok S B:=by
 obtain⟨h1,h2,h3,h4,h5,h6,h7,h8⟩:=h
 refine⟨ceilI_low (by omega) (by omega),ceilI_mono (by omega) (by omega),ceilI_top (by omega) (by omega) (by omega),?_,ceilI_low (by omega) (by omega),ceilI_mono (by omega) (by omega),ceilI_top (by omega) (by omega) (by omega),?_⟩
 · have:=ceilI_wide (a:=r.x0-ax) (b:=r.x1-ax) (d:=dx) (by omega) (by omega)
   show ceilI _ _-ceilI _ _≤S
   omega
 · have:=ceilI_wide (a:=r.y0-ay) (b:=r.y1-ay) (d:=dy) (by omega) (by omega)
   show ceilI _ _-ceilI _ _≤S
   omega
theorem p2_half (d:Nat):p2 d<p2 (d+1):=by have:=p2_pos d;have:=p2_succ d;omega
theorem Rc.ok.bands (h:r.ok S B) (L k:Nat): ∀q∈bandsR r L k,q.ok S B:=by
 intro q hq
 unfold bandsR at hq
 have h0:=p2_pos L
 have h1:=p2_pos (L-k)
 have h2:=p2_half (L-k)
 split at hq
 · rw [List.mem_singleton]at hq
   subst hq
   exact h.over ⟨by omega,by omega⟩ ⟨by omega,by omega⟩
 · simp only [List.mem_cons,List.not_mem_nil,or_false]at hq
   rcases hq with rfl|rfl|rfl<;>exact h.over ⟨by omega,by omega⟩ ⟨by omega,by omega⟩
end
structure Rc.sub (q r:Rc):Prop where
 x0:r.x0≤q.x0
 xx:q.x0≤q.x1
 x1:q.x1≤r.x1
 y0:r.y0≤q.y0
 yy:q.y0≤q.y1
 y1:q.y1≤r.y1
theorem Rc.sub.ok {q r:Rc} {S B:Int} (h:q.sub r) (hr:r.ok S B):q.ok S B:=by
 obtain⟨a1,a2,a3,a4,a5,a6⟩:=h
 obtain⟨h1,h2,h3,h4,h5,h6,h7,h8⟩:=hr
 constructor<;>omega
theorem Rc.sub.trans {q r s:Rc} (h:q.sub r) (k:r.sub s):q.sub s:=by
 obtain⟨a1,a2,a3,a4,a5,a6⟩:=h
 obtain⟨b1,b2,b3,b4,b5,b6⟩:=k
 constructor<;>omega
theorem Rc.sub.part {q r:Rc} (h:q.sub r) {dx dy:Int} (hx:0<dx) (hy:0<dy):(q.part dx dy).sub (r.part dx dy):=by
 obtain⟨a1,a2,a3,a4,a5,a6⟩:=h
 refine⟨ceilI_mono hx (by omega),ceilI_mono hx (by omega),ceilI_mono hx (by omega),ceilI_mono hy (by omega),ceilI_mono hy (by omega),ceilI_mono hy (by omega)⟩
def Rc.half (r:Rc):Rc:=⟨(r.x0+1)/2,(r.y0+1)/2,(r.x1+1)/2,(r.y1+1)/2⟩
def lowsI (a b:Int):Int:=(b+1)/2-(a+1)/2
theorem ceil_half (x:Int) (n:Nat):ceilI x (p2 (n+1))=(ceilI x (p2 n)+1)/2∧ceilI (x-p2 n) (p2 (n+1))=ceilI x (p2 n)/2:=by
 have h0:=p2_pos n
 have hs:=ceilI_spec (a:=x) h0
 rw [p2_succ]
 generalize p2 n=N at*
 generalize hy:ceilI x N=y at*
 have e1:(2*N)*((y+1)/2)=N*(2*((y+1)/2)):=by rw [Int.mul_assoc,Int.mul_left_comm]
 have e2:(2*N)*(y/2)=N*(2*(y/2)):=by rw [Int.mul_assoc,Int.mul_left_comm]
 have h3: ∀k:Int,(2*N)*(k-1)=(2*N)*k-2*N:=fun k=>by rw [Int.mul_sub];omega
 have h4:N*(y-1)=N*y-N:=by rw [Int.mul_sub];omega
 rw [h4]at hs
 rcases (show 2*(y/2)=y∧2*((y+1)/2)=y∨2*(y/2)=y-1∧2*((y+1)/2)=y+1 by omega)with⟨h5,h6⟩|⟨h5,h6⟩
 · rw [h5]at e2
   rw [h6]at e1
   exact⟨ceilI_unique (by omega) (by rw [h3,e1];omega) (by rw [e1];omega),ceilI_unique (by omega) (by rw [h3,e2];omega) (by rw [e2];omega)⟩
 · have h7:N*(y+1)=N*y+N:=by rw [Int.mul_add];omega
   rw [h5,h4]at e2
   rw [h6,h7]at e1
   exact⟨ceilI_unique (by omega) (by rw [h3,e1];omega) (by rw [e1];omega),ceilI_unique (by omega) (by rw [h3,e2];omega) (by rw [e2];omega)⟩
def Rc.down (r:Rc) (n:Nat):Rc:=r.over (p2 n) (p2 n) 0 0
theorem ceilI_one (x:Int):ceilI x 1=x:=ceilI_unique (by omega) (by omega) (by omega)
theorem Rc.down0 (r:Rc):r.down 0=r:=by
 show Rc.mk _ _ _ _=r
 rw [show p2 0=1 from rfl]
 simp [ceilI_one]
theorem Rc.down_succ (r:Rc) (n:Nat):r.down (n+1)=(r.down n).half:=by
 unfold Rc.down Rc.over Rc.half
 simp only [Int.sub_zero]
 rw [(ceil_half r.x0 n).1,(ceil_half r.x1 n).1,(ceil_half r.y0 n).1,(ceil_half r.y1 n).1]
def Rc.three (r:Rc) (n:Nat):List Rc:=[r.over (p2 (n+1)) (p2 (n+1)) (p2 n) 0,r.over (p2 (n+1)) (p2 (n+1)) 0 (p2 n),r.over (p2 (n+1)) (p2 (n+1)) (p2 n) (p2 n)]
def sizes3 (q:Rc):List Int:=[((q.x1-q.x0)-lowsI q.x0 q.x1)*lowsI q.y0 q.y1,lowsI q.x0 q.x1*((q.y1-q.y0)-lowsI q.y0 q.y1),((q.x1-q.x0)-lowsI q.x0 q.x1)*((q.y1-q.y0)-lowsI q.y0 q.y1)]
theorem three_sizes {r:Rc} {S B:Int} (h:r.ok S B) (n:Nat):(r.three n).map Rc.area=sizes3 (r.down n):=by
 have h0:=p2_pos n
 have h1:=p2_half n
 have a1:=(h.over (dx:=p2 (n+1)) (dy:=p2 (n+1)) (ax:=p2 n) (ay:=0) ⟨by omega,by omega⟩ ⟨by omega,by omega⟩).area_eq
 have a2:=(h.over (dx:=p2 (n+1)) (dy:=p2 (n+1)) (ax:=0) (ay:=p2 n) ⟨by omega,by omega⟩ ⟨by omega,by omega⟩).area_eq
 have a3:=(h.over (dx:=p2 (n+1)) (dy:=p2 (n+1)) (ax:=p2 n) (ay:=p2 n) ⟨by omega,by omega⟩ ⟨by omega,by omega⟩).area_eq
 unfold Rc.three sizes3
 simp only [List.map_cons,List.map_nil,a1,a2,a3]
 unfold Rc.down Rc.over lowsI
 simp only [Int.sub_zero]
 rw [(ceil_half r.x0 n).1,(ceil_half r.x1 n).1,(ceil_half r.y0 n).1,(ceil_half r.y1 n).1,(ceil_half r.x0 n).2,(ceil_half r.x1 n).2,(ceil_half r.y0 n).2,(ceil_half r.y1 n).2]
 generalize ceilI r.x0 (p2 n)=p
 generalize ceilI r.x1 (p2 n)=q
 generalize ceilI r.y0 (p2 n)=s
 generalize ceilI r.y1 (p2 n)=t
 rw [show q-p-((q+1)/2-(p+1)/2)=q/2-p/2 by omega,show t-s-((t+1)/2-(s+1)/2)=t/2-s/2 by omega]
def rectsR (r:Rc) (L:Nat):Nat→List Rc
 |0=>bandsR r L 0
 |k+1=>rectsR r L k++bandsR r L (k+1)
def highs (r:Rc):Nat→List Int
 |0=>[]
 |n+1=>sizes3 (r.down n)++highs r n
theorem rects_sizes {r:Rc} {S B:Int} (h:r.ok S B) (L:Nat): ∀k,k≤L→(rectsR r L k).map Rc.area++highs r (L-k)=(r.down L).area::highs r L
 |0,_=>rfl
 |k+1,hk=>by
  have ih:=rects_sizes h L k (by omega)
  have e:bandsR r L (k+1)=r.three (L-(k+1)):=by
   unfold bandsR
   rw [if_neg (by omega)]
   rfl
  show(rectsR r L k++bandsR r L (k+1)).map Rc.area++_=_
  rw [List.map_append,e,three_sizes h,List.append_assoc,←ih]
  congr 1
  rw [show L-k=(L-(k+1))+1 by omega]
  rfl
theorem rects_all {r:Rc} {S B:Int} (h:r.ok S B) (L:Nat):(rectsR r L L).map Rc.area=(r.down L).area::highs r L:=by
 have:=rects_sizes h L L (Nat.le_refl _)
 rwa [Nat.sub_self,show highs r 0=[]from rfl,List.append_nil]at this
theorem rects_ok {r:Rc} {S B:Int} (h:r.ok S B) (L:Nat): ∀k,∀q∈rectsR r L k,q.ok S B
 |0,q,hq=>h.bands L 0 q hq
 |k+1,q,hq=>by
  rcases List.mem_append.1 hq with h1|h1
  · exact rects_ok h L k q h1
  · exact h.bands L (k+1) q h1
theorem bandsR_len (r:Rc) (L k:Nat):(bandsR r L k).length=if k=0 then 1 else 3:=by
 unfold bandsR
 split<;>rfl
theorem rects_len (r:Rc) (L:Nat): ∀k,(rectsR r L k).length=1+3*k
 |0=>rfl
 |k+1=>by
  show(rectsR r L k++bandsR r L (k+1)).length=_
  rw [List.length_append,rects_len r L k,bandsR_len,if_neg (by omega)]
  omega
def RdS (w:World) (A:Option Addr) (n k:Nat) (xs:List Value):Prop:=
 xs.length=n*k∧(0<n→ ∃b o,A=some ⟨b,o,none⟩∧w.rangeAt b o xs)
section
variable {w w':World} {A:Option Addr} {n k c base:Nat} {e:TypeId} {xs:List Value}
theorem RdS.of_own (h:w.ownsRow base e k (.slice A n c) n xs):RdS w A n k xs:=by
 refine⟨h.1,fun hn=>?_⟩
 rcases h.2 with⟨_,h0⟩|⟨g,cap,cur,hv,_⟩
 · omega
 · have hA:A=some ⟨g,0,none⟩:=by injection hv
   subst hA
   refine⟨g,0,rfl,fun j u hj=>?_⟩
   have:=h.cells (g:=g) rfl j u hj
   rwa [add_lit']at this
theorem RdS.keep {S:Nat→Prop} (h:RdS w A n k xs) (hk:Keep S w w') (hS: ∀ad,A=some ad→ ¬S ad.block):RdS w' A n k xs:=
 ⟨h.1,fun hn=>by
  obtain⟨b,o,e,hc⟩:=h.2 hn
  exact⟨b,o,e,range_keep hc hk (hS _ e)⟩⟩
theorem RdS.keep0 (h:RdS w A n k xs) (hk:Keep (fun _=>False) w w'):RdS w' A n k xs:=h.keep hk (fun _ _ h=>h)
theorem RdS.one (h:RdS w A n 1 xs):Rd w A n xs:=⟨by have:=h.1;omega,fun hn=>by
 obtain⟨b,o,e,hc⟩:=h.2 hn
 exact⟨_,e,fun j u hj=>by rw [add_lit'];exact hc j u hj⟩⟩
theorem Rd.keepF (h:Rd w A n xs) (hk:Keep (fun _=>False) w w'):Rd w' A n xs:=h.keep hk (fun _ _ h=>h)
theorem RdS.cell {i j:Nat} {v:Value} (h:RdS w A n k xs) (hi:i<n) (hv:xs[i*k+j]? =some v): ∃b o,A=some ⟨b,o,none⟩∧w.cell? ⟨b,o+i*k+j,none⟩=some v:=by
 obtain⟨b,o,e,hc⟩:=h.2 (by omega)
 refine⟨b,o,e,?_⟩
 have:=hc _ v hv
 rwa [← Nat.add_assoc]at this
theorem own_cap (h:w.ownsRow base e k (.slice A n c) n xs):n≤c:=by
 rcases h.2 with⟨h1,h0⟩|⟨g,cap,cur,hv,_,_,hnc,_⟩
 · injection h1;omega
 · injection hv with h1 h2 h3
   omega
theorem keep_app {w0:World} {size:Nat} {v:Value} (h:Keep (fun _=>False) w0 w) (ho:w.ownsRow base e size v n xs) (hb:w0.heap.size≤base) (hk:Keep (fun i=>v.ownBlock=some i) w w'):Keep (fun _=>False) w0 w':=
 h.new hk (fun i hi=>Nat.le_trans hb (ho.lt i hi).1)
theorem own_drew {size:Nat} {v:Value} (h:w.ownsRow base e size v n xs):w.drew.ownsRow base e size v n xs:=own_keep h ((Keep.refl (fun _=>False) w).drew) (fun _ _ h=>h)
theorem own_keepF {size:Nat} {v:Value} (h:w.ownsRow base e size v n xs) (hk:Keep (fun _=>False) w w'):w'.ownsRow base e size v n xs:=own_keep h hk (fun _ _ h=>h)
end
theorem wp_append_rows {P:Program} (w:World) {o:Oper} {a:Act} {K:Act→World→Prop} {Q:Exit→Act→World→Prop} (s x:Operand) (t:TypeId)
 (ho:o.op=.call { callee:=.builtin .append,args:=#[s,x],argTypes:=#[t,t] })
 (base:Nat) (e:TypeId) (i:TypeInfo) (z:Value) (size bytes:Nat) (ht:P.underlying t=some (.slice e)) (hi:P.info? e=some i) (hz:i.zero=some z)
 (hsize:i.size=size) (hby:i.bytes=bytes) (hzs:z.cells.size=size) (hsz:0<size)
 {A:Option Addr} {n c:Nat} {xs:List Value} (hown:w.ownsRow base e size (.slice A n c) n xs) (hs:a.eval s=.slice A n c) (cs:Array Value) (hcs:cs.size=size) (hx:a.eval x=.slice (some ⟨w.heap.size,0,none⟩) 1 1) (h1: ∀u∈cs.toList,u.oneCell'=true)
 (h63:n+1≤maxLen) (hbytes:(n+1)*bytes≤140737488355328) (hbase:base≤w.heap.size)
 (h: ∀A' c' w',w'.ownsRow base e size (.slice A' (n+1) c') (n+1) (xs++cs.toList)→Keep (fun i=>(Value.slice A n c).ownBlock=some i) w w'→K (a.put o.dst (.slice A' (n+1) c')) w'):
 o.wp P a (w.alloc (.cells cs e)) K Q:=by
 have hb:=Blk.new w e cs
 obtain⟨v',w',hr,h2,h3,h4,h5⟩:=run_append_own_at (P:=P) (w.alloc (.cells cs e)) base t o.type e i z size bytes ht hi hz hsize hby hzs hsz (.slice A n c) n xs (own_keepF hown ((Keep.refl _ w).alloc _)) ⟨w.heap.size,0,none⟩ 1 1 cs.toList (by simp [hcs]) (fun j u hj=>by
  rw [add_lit',Nat.zero_add,hb.cell]
  simpa using hj) h1 h63 hbytes (by simp;omega)
 obtain⟨A',c',rfl⟩:=own_form h2
 unfold Oper.wp execOp
 simp only [ho,resolve,invoke,builtin,Sem.run_bind,Sem.run_pure,Result.andThen_ok,List.map_toArray,List.map_cons,List.map_nil,hs,hx,hr]
 exact h A' c' w' h2 (((Keep.refl _ w).alloc _).grown h3 (fun k hk=>.inl hk))
theorem wpList_append_rows {P:Program} (w:World) {ops:Array Oper} {rest:List Oper} {o:Oper} {a:Act} {Q:Exit→Act→World→Prop} (hgd:o.guard=none) (s x:Operand) (t:TypeId)
 (ho:o.op=.call { callee:=.builtin .append,args:=#[s,x],argTypes:=#[t,t] })
 (base:Nat) (e:TypeId) (i:TypeInfo) (z:Value) (size bytes:Nat) (ht:P.underlying t=some (.slice e)) (hi:P.info? e=some i) (hz:i.zero=some z)
 (hsize:i.size=size) (hby:i.bytes=bytes) (hzs:z.cells.size=size) (hsz:0<size)
 {A:Option Addr} {n c:Nat} {xs:List Value} (hown:w.ownsRow base e size (.slice A n c) n xs) (hs:a.eval s=.slice A n c) (cs:Array Value) (hcs:cs.size=size) (hx:a.eval x=.slice (some ⟨w.heap.size,0,none⟩) 1 1) (h1: ∀u∈cs.toList,u.oneCell'=true)
 (h63:n+1≤maxLen) (hbytes:(n+1)*bytes≤140737488355328) (hbase:base≤w.heap.size)
 (h: ∀A' c' w',w'.ownsRow base e size (.slice A' (n+1) c') (n+1) (xs++cs.toList)→Keep (fun i=>(Value.slice A n c).ownBlock=some i) w w'→wpList P ops Q rest (a.put o.dst (.slice A' (n+1) c')) w'):
 wpList P ops Q (o::rest) a (w.alloc (.cells cs e)):=
 wpList_plain hgd fun _ hK=>wp_append_rows w s x t ho base e i z size bytes ht hi hz hsize hby hzs hsz hown hs cs hcs hx h1 h63 hbytes hbase fun A' c' w' h2 h3=>hK _ _ (h A' c' w' h2 h3)
theorem mul_in {a b B:Int} (ha:0≤a) (hb:0≤b) (h:a*b≤B) (hB:B≤4611686018427387904): ∃u,wrap64 (a*b)=u∧a*b=u∧0≤u∧u≤B:=by
 have h0:=Int.mul_nonneg ha hb
 exact⟨a*b,IntWalk.wrap64_in _ (by omega),rfl,h0,h⟩
structure Pm where
 tx:Int
 ty:Int
 lev:Nat
 cbw:Nat
 cbh:Nat
 prec:Nat
 style:Nat
 order:Nat
 lay:Nat
 rct:Bool
 sop:Bool
 eph:Bool
def Pm.cells (p:Pm):Array Value:=#[.int .i64 p.tx,.int .i64 p.ty,.int .i64 p.lev,.int .i64 p.cbw,.int .i64 p.cbh,.int .i64 p.prec,.int .i64 p.style,.int .i64 p.order,.int .i64 p.lay,.bool p.rct,.bool p.sop,.bool p.eph]
def Pm.val (p:Pm):Value:=.agg p.cells
theorem info_rect :(Tryz.prog.info? 63).map (fun i=>(i.zero,i.size,i.bytes))=some (some (.agg #[.int .i64 0,.int .i64 0,.int .i64 0,.int .i64 0]),4,32):=by kernel_rfl
theorem rcs_app (a b:List Rc):rcs (a++b)=rcs a++rcs b:=by unfold rcs;rw [List.flatMap_append]
theorem rcs_one (r:Rc):rcs [r]=[.int .i64 r.x0,.int .i64 r.y0,.int .i64 r.x1,.int .i64 r.y1]:=rfl
theorem rcs_snoc (a:List Rc) (r:Rc):rcs (a++[r])=rcs a++[.int .i64 r.x0,.int .i64 r.y0,.int .i64 r.x1,.int .i64 r.y1]:=by rw [rcs_app,rcs_one]
theorem rcs_len : ∀l:List Rc,(rcs l).length=l.length*4
 |[]=>rfl
 |r::l=>by show([Value.int .i64 r.x0,.int .i64 r.y0,.int .i64 r.x1,.int .i64 r.y1]++rcs l).length=_;rw [List.length_append,rcs_len l];simp only [List.length_cons,List.length_nil];omega
theorem rcs_onecell (l:List Rc): ∀v∈rcs l,v.oneCell'=true:=by
 intro v hv
 obtain⟨r,_,h⟩:=List.mem_flatMap.1 hv
 unfold Rc.cells at h
 simp at h
 rcases h with rfl|rfl|rfl|rfl<;>rfl
theorem one4 (a b c d:Int): ∀v∈(#[Value.int .i64 a,.int .i64 b,.int .i64 c,.int .i64 d]).toList,v.oneCell'=true:=by
 intro v hv
 simp at hv
 rcases hv with rfl|rfl|rfl|rfl<;>rfl
def setL (cs:Array Value):Nat→List Value→Array Value
 |_,[]=>cs
 |o,v::r=>setL (cs.setIfInBounds o v) (o+1) r
theorem setL_size : ∀(vs:List Value) (cs:Array Value) (o:Nat),(setL cs o vs).size=cs.size
 |[],_,_=>rfl
 |v::r,cs,o=>by show(setL (cs.setIfInBounds o v) (o+1) r).size=_;rw [setL_size r];simp
theorem setL_out : ∀(vs:List Value) (cs:Array Value) (o j:Nat),j<o∨o+vs.length≤j→(setL cs o vs)[j]? =cs[j]?
 |[],_,_,_,_=>rfl
 |v::r,cs,o,j,h=>by
  show(setL (cs.setIfInBounds o v) (o+1) r)[j]? =_
  rw [setL_out r _ _ _ (by simp at h;omega),Array.getElem?_setIfInBounds_ne (by simp at h;omega)]
theorem setL_in : ∀(vs:List Value) (cs:Array Value) (o j:Nat),o+vs.length≤cs.size→j<vs.length→(setL cs o vs)[o+j]? =vs[j]?
 |[],_,_,_,_,h=>by simp at h
 |v::r,cs,o,0,hs,_=>by
  show(setL (cs.setIfInBounds o v) (o+1) r)[o]? =_
  simp at hs
  rw [setL_out r _ _ _ (by omega),Array.getElem?_setIfInBounds_self_of_lt (by omega)]
  rfl
 |v::r,cs,o,j+1,hs,h=>by
  show(setL (cs.setIfInBounds o v) (o+1) r)[o+(j+1)]? =_
  simp at hs h
  rw [show o+(j+1)=(o+1)+j by omega,setL_in r _ _ j (by simp;omega) h]
  rfl
theorem Blk.setL {w:World} {g:Nat} {t:TypeId}: ∀(vs:List Value) (cs:Array Value) (o:Nat) (w:World),Blk w g t cs→Blk (w.setCells g o vs) g t (setL cs o vs)
 |[],_,_,_,h=>h
 |v::r,cs,o,w,h=>Blk.setL r (cs.setIfInBounds o v) (o+1) _ (h.set_ o v) (w:=w)
theorem keep_setL {g:Nat}: ∀(vs:List Value) (o:Nat) (w:World),Keep (fun j=>j=g) w (w.setCells g o vs)
 |[],_,w=>Keep.refl _ w
 |v::r,o,w=>(Keep.set1 w g o v).trans (keep_setL r (o+1) _) (fun _ _ h=>h)
theorem Blk.there {w:World} {g:Nat} {t:TypeId} {cs:Array Value} (h:Blk w g t cs) {o n:Nat} (hn:o+n≤cs.size):w.there g o n:=fun j hj=>⟨by rw [h.cell];simp;omega,h.frozen _⟩
section
variable {P :Program} {ops:Array Oper} {Q:Exit→Act→World→Prop}
theorem wp_store_in {op:Oper} {a:Act} {w:World} {K:Act→World→Prop} {g:Nat} {t:TypeId} {cs:Array Value} (hb:Blk w g t cs) (ty:TypeId) (x y:Operand) (ho:op.op=.store ty x y)
 (o:Nat) (cells:Array Value) (hx:a.eval x=.pointer (some ⟨g,o,none⟩)) (hy:a.eval y=.agg cells) (hn:o+cells.size≤cs.size)
 (hi:(P.info? ty).map (·.size)=some cells.size) (h1:cells.all (·.oneCell')=true)
 (h: ∀w2,Blk w2 g t (setL cs o cells.toList)→Keep (fun j=>j=g) w w2→K (a.put op.dst undef) w2):op.wp P a w K Q:=
 wp_store_mid ty x y ho g o cells hx hy (hb.there hn) hi h1 (h _ (Blk.setL (w:=w) _ _ _ _ hb) (keep_setL _ _ _))
theorem wpList_store_in {rest:List Oper} {op:Oper} {a:Act} {w:World} {g:Nat} {t:TypeId} {cs:Array Value} (hb:Blk w g t cs) (hgd:op.guard=none) (ty:TypeId) (x y:Operand) (ho:op.op=.store ty x y)
 (o:Nat) (cells:Array Value) (hx:a.eval x=.pointer (some ⟨g,o,none⟩)) (hy:a.eval y=.agg cells) (hn:o+cells.size≤cs.size)
 (hi:(P.info? ty).map (·.size)=some cells.size) (h1:cells.all (·.oneCell')=true)
 (h: ∀w2,Blk w2 g t (setL cs o cells.toList)→Keep (fun j=>j=g) w w2→wpList P ops Q rest (a.put op.dst undef) w2):wpList P ops Q (op::rest) a w:=
 wpList_plain hgd fun _ hK=>wp_store_in hb ty x y ho o cells hx hy hn hi h1 (fun w2 h2 h3=>hK _ _ (h w2 h2 h3))
theorem wp_make {o:Oper} {a:Act} {w:World} {K:Act→World→Prop} (l c:Operand) (t:TypeId) (hop:o.op=Op.makeSlice t l c) (e:TypeId) (i:TypeInfo) (z:Value) (h1:P.underlying t=some (.slice e)) (h2:P.info? e=some i) (h3:i.zero=some z) (h4:i.size=1) (hz:z.cells=#[z])
 (n:Nat) (hl:a.eval l=.int .i64 n) (hc:a.eval c=.int .i64 n) (b2:i.bytes*n≤281474976710656) (b3:n≤maxLen)
 (h: ∀w2,Blk w2 w.heap.size e (madeCells #[z] n)→Keep (fun _=>False) w w2→K (a.put o.dst (.slice (some ⟨w.heap.size,0,none⟩) n n)) w2):o.wp P a w K Q:=by
 have h63:(n:Int)≤9223372036854775807:=by
  have h:=b3
  simp [maxLen]at h
  omega
 have hb':(i.bytes:Int)*(n:Int)≤281474976710656:=by
  have h:((i.bytes*n:Nat):Int)≤281474976710656:=by omega
  rwa [Int.natCast_mul]at h
 have hr:=run_make (P:=P) w t e i z h1 h2 h3 .i64 .i64 n n (by omega) (Int.le_refl _) hb' h63
 simp only [Int.toNat_natCast,h4,Nat.mul_one,hz]at hr
 unfold Oper.wp
 simp only [execOp,hop,hl,hc,hr,Result.andThen,Sem.run_bind,Sem.run_pure]
 exact h _ (Blk.new w e _) ((Keep.refl _ w).alloc _)
theorem wpList_make {rest:List Oper} {o:Oper} {a:Act} {w:World} (hgd:o.guard=none) (l c:Operand) (t:TypeId) (hop:o.op=Op.makeSlice t l c) (e:TypeId) (i:TypeInfo) (z:Value) (h1:P.underlying t=some (.slice e)) (h2:P.info? e=some i) (h3:i.zero=some z) (h4:i.size=1) (hz:z.cells=#[z])
 (n:Nat) (hl:a.eval l=.int .i64 n) (hc:a.eval c=.int .i64 n) (b2:i.bytes*n≤281474976710656) (b3:n≤maxLen)
 (h: ∀w2,Blk w2 w.heap.size e (madeCells #[z] n)→Keep (fun _=>False) w w2→wpList P ops Q rest (a.put o.dst (.slice (some ⟨w.heap.size,0,none⟩) n n)) w2):wpList P ops Q (o::rest) a w:=
 wpList_plain hgd fun _ hK=>wp_make l c t hop e i z h1 h2 h3 h4 hz n hl hc b2 b3 (fun w2 h2 h3=>hK _ _ (h w2 h2 h3))
end
theorem ret_cell_tmp {P:Program} {fn:Func} {p q:Tmp} {ty:TypeId} (h:fn.results=#[.cell p ty,.tmp q]) (tmps:Array Value) (w:World) (g:Nat) (t:TypeId) (cs:Array Value) (d:TypeDesc) (v:Value)
 (hg:Blk w g t cs) (hp:tmps.getD p undef=.pointer (some ⟨g,0,none⟩)) (hq:tmps.getD q undef=v)
 (hu:P.underlying ty=some d) (hd:(match d with|.struct _|.array _ _=>true|_=>false)=true) (hi:(P.info? ty).map (·.size)=some cs.size):
 (results fn tmps).run P w=.ok (.tuple #[.agg cs,v]) w:=by
 have hp':tmps[p]?.getD undef=.pointer (some ⟨g,0,none⟩):=by simpa using hp
 have hq':tmps[q]?.getD undef=v:=by simpa using hq
 have hl:=run_loadVar_row (P:=P) w g t ty cs (0,0) d hg hu hd hi
 simp [results,h,hp',hq',asAddr,hl]
theorem ret_cell_cell {P:Program} {fn:Func} {p q:Tmp} {ty ty2:TypeId} (h:fn.results=#[.cell p ty,.cell q ty2]) (tmps:Array Value) (w:World) (g g2:Nat) (t t2:TypeId) (cs cs2:Array Value) (d d2:TypeDesc)
 (hg:Blk w g t cs) (hg2:Blk w g2 t2 cs2) (hp:tmps.getD p undef=.pointer (some ⟨g,0,none⟩)) (hq:tmps.getD q undef=.pointer (some ⟨g2,0,none⟩))
 (hu:P.underlying ty=some d) (hd:(match d with|.struct _|.array _ _=>true|_=>false)=true) (hi:(P.info? ty).map (·.size)=some cs.size)
 (hu2:P.underlying ty2=some d2) (hd2:(match d2 with|.struct _|.array _ _=>true|_=>false)=true) (hi2:(P.info? ty2).map (·.size)=some cs2.size):
 (results fn tmps).run P w=.ok (.tuple #[.agg cs,.agg cs2]) w:=by
 have hp':tmps[p]?.getD undef=.pointer (some ⟨g,0,none⟩):=by simpa using hp
 have hq':tmps[q]?.getD undef=.pointer (some ⟨g2,0,none⟩):=by simpa using hq
 have hl:=run_loadVar_row (P:=P) w g t ty cs (0,0) d hg hu hd hi
 have hl2:=run_loadVar_row (P:=P) w g2 t2 ty2 cs2 (0,0) d2 hg2 hu2 hd2 hi2
 simp [results,h,hp',hq',asAddr,hl,hl2]
theorem made_at (z:Value) (n i:Nat) (h:i<n):(madeCells #[z] n)[i]? =some z:=by
 unfold madeCells
 simp [h,Nat.mod_one]
theorem info_bool :(Tryz.prog.info? 4).map (fun i=>(i.zero,i.size,i.bytes))=some (some (.bool false),1,1):=by kernel_rfl
def RowP (n:Nat) (w:World) (e:Ending) (w':World):Prop:= ∃(A:Option Addr) (c:Nat) (zs:List Int),e=.returned (.slice A n c)∧zs.length=n∧w'.ownsRow w.heap.size 3 1 (.slice A n c) n (zs.map (Value.int .i64))∧Keep (fun _=>False) w w'
def Own (w:World) (base:Nat) (A:Option Addr) (n c:Nat):Prop:= ∃zs:List Int,zs.length=n∧w.ownsRow base 3 1 (.slice A n c) n (zs.map (Value.int .i64))
section
variable {w w':World} {base n c:Nat} {A:Option Addr}
theorem Own.keepF (h:Own w base A n c) (hk:Keep (fun _=>False) w w'):Own w' base A n c:=by
 obtain⟨zs,h1,h2⟩:=h
 exact⟨zs,h1,own_keepF h2 hk⟩
theorem Own.nil (w:World) (base:Nat):Own w base none 0 0:=⟨[],rfl,World.ownsRow_nil _ _ _ _⟩
theorem Own.get (h:Own w base A n c) {i:Nat} (hi:i<n): ∃g z,A=some ⟨g,0,none⟩∧n≤c∧base≤g∧w.cell? ⟨g,i,none⟩=some (.int .i64 z)∧w.frozen? ⟨g,i,none⟩=false∧(∀ y,Own (w.setCell ⟨g,i,none⟩ (.int .i64 y)) base A n c):=by
 obtain⟨zs,h1,h2⟩:=h
 obtain⟨g,hA,hnc,hb,hcl,hfz⟩:=own_at h2 (by omega)
 obtain⟨z,hz⟩: ∃z,zs[i]? =some z:=⟨_,List.getElem?_eq_getElem (by omega)⟩
 subst hA
 refine⟨g,z,rfl,hnc,hb,hcl i _ (by rw [List.getElem?_map,hz];rfl),hfz i,fun y=>⟨zs.set i y,by simpa using h1,?_⟩⟩
 have h3:=(World.ownsRow.stored h2 i (.int .i64 y)).1
 rwa [← List.map_set]at h3
theorem Own.push (h:Own w base A n c) {A':Option Addr} {c':Nat} {z:Int} (ho: ∀zs:List Int,w.ownsRow base 3 1 (.slice A n c) n (zs.map (Value.int .i64))→w'.ownsRow base 3 1 (.slice A' (n+1) c') (n+1) (zs.map (Value.int .i64)++[.int .i64 z])):Own w' base A' (n+1) c':=by
 obtain⟨zs,h1,h2⟩:=h
 exact⟨zs++[z],by simp [h1],by rw [List.map_append];exact ho zs h2⟩
end
structure TwoR (w0:World) (X:Option Addr) (n cX:Nat) (O:Option Addr) (m cO:Nat) (w:World):Prop where
 x:Own w w0.heap.size X n cX
 o:Own w w0.heap.size O m cO
 ap: ∀a b,O=some a→X=some b→a.block≠b.block
 keep:Keep (fun _=>False) w0 w
theorem TwoR.push {w0 w w2:World} {X O O2:Option Addr} {n cX m cO cO2:Nat} (h:TwoR w0 X n cX O m cO w) {zo:List Int} {z:Int} {ob:Obj} (hl:zo.length=m)
 (ho:w2.ownsRow w0.heap.size 3 1 (.slice O2 (m+1) cO2) (m+1) (zo.map (Value.int .i64)++[.int .i64 z])) (hg:(w.alloc ob).grownBy w2 (Value.slice O m cO).ownBlock) (hat:(Value.slice O2 (m+1) cO2).ownBlock=(Value.slice O m cO).ownBlock∨(Value.slice O2 (m+1) cO2).ownBlock=some (w.heap.size+1)):
 TwoR w0 X n cX O2 (m+1) cO2 w2:=by
 have hk:Keep (fun i=>(Value.slice O m cO).ownBlock=some i) w w2:=((Keep.refl _ w).alloc ob).grown hg (fun k hk=>.inl hk)
 obtain⟨zx,hx1,hx2⟩:=h.x
 obtain⟨zo',ho1,ho2⟩:=h.o
 refine⟨⟨zx,hx1,own_keep hx2 hk (fun k e e2=>?_)⟩,⟨zo++[z],by simp [hl],by rw [List.map_append];exact ho⟩,fun a b ea eb=>?_,keep_app h.keep ho2 (Nat.le_refl _) hk⟩
 · obtain⟨ax,e3,e4⟩:=own_foot e
   obtain⟨ao,e5,e6⟩:=own_foot e2
   exact h.ap ao ax e5 e3 (e6.trans e4.symm)
 · subst ea
   subst eb
   rcases hat with h1|h1
   · have h2:(Value.slice O m cO).ownBlock=some a.block:=by rw [← h1];rfl
     obtain⟨ao,e5,e6⟩:=own_foot h2
     rw [← e6]
     exact h.ap ao b e5 rfl
   · have h2:a.block=w.heap.size+1:=by simpa [Value.ownBlock]using h1
     have h3:=(hx2.lt b.block (by simp [Value.ownBlock])).2
     omega
theorem Own.rd {w:World} {base n c:Nat} {A:Option Addr} (h:Own w base A n c): ∃zs:List Int,zs.length=n∧Rd w A n (zs.map (Value.int .i64)):=by
 obtain⟨zs,h1,h2⟩:=h
 exact⟨zs,h1,Rd.of_own h2⟩
theorem TwoR.setX {w0 w:World} {X O:Option Addr} {n cX m cO:Nat} (h:TwoR w0 X n cX O m cO w) {i:Nat} (hi:i<n): ∃g z,X=some ⟨g,0,none⟩∧n≤cX∧w.cell? ⟨g,i,none⟩=some (.int .i64 z)∧w.frozen? ⟨g,i,none⟩=false∧ ∀y,TwoR w0 X n cX O m cO (w.setCell ⟨g,i,none⟩ (.int .i64 y)):=by
 obtain⟨g,z,hX,hnc,hb,hc,hf,hs⟩:=h.x.get hi
 obtain⟨zo,ho1,ho2⟩:=h.o
 refine⟨g,z,hX,hnc,hc,hf,fun y=>⟨hs y,⟨zo,ho1,own_keep ho2 (Keep.set1 w g i _) (fun k e e2=>?_)⟩,h.ap,h.keep.setCell (p:=⟨g,i,none⟩) (.inr hb) _⟩⟩
 obtain⟨ao,e5,e6⟩:=own_foot e
 exact h.ap ao _ e5 hX (e6.trans e2)
theorem TwoR.of {w0 w:World} {X O:Option Addr} {n cX m cO:Nat} (hx:Own w w0.heap.size X n cX) (hk:Keep (fun _=>False) w0 w) {w2:World} (ho:Own w2 w.heap.size O m cO) (hk2:Keep (fun _=>False) w w2):TwoR w0 X n cX O m cO w2:=by
 obtain⟨zo,ho1,ho2⟩:=ho
 refine⟨hx.keepF hk2,⟨zo,ho1,own_mono ho2 hk.size⟩,fun a b ea eb=>?_,hk.trans hk2 (fun _ _ h=>h)⟩
 obtain⟨zx,hx1,hx2⟩:=hx
 subst ea
 subst eb
 have h1:=(ho2.lt a.block (by simp [Value.ownBlock])).1
 have h2:=(hx2.lt b.block (by simp [Value.ownBlock])).2
 omega
def NatP (n:Nat) (w:World) (e:Ending) (w':World):Prop:= ∃k:Nat,k<n∧e=.returned (.int .i64 k)∧w=w'
theorem near_any (w:World) (i:Int) (n:Nat) (hn:2≤n) (hn2:n≤64) (hi:-1≤i) (hi2:i≤n):Calls Tryz.prog 114 #[.int .i64 i,.int .i64 n] w (NatP n w):=by
 have HD:Hid (∀ z:Int,0≤z→z<n→NatP n w (.returned (.int .i64 z)) w):=hid (fun z h1 h2=>⟨z.toNat,by omega,by rw [show((z.toNat:Nat):Int)=z by omega],rfl⟩)
 by_cases h1:i<0
 · obtain rfl:i=-1:=by omega
   go_enter Tryz.func114,Tryz.ntmps114
   go_wp2_with fail
   go_ret
   exact HD.out 1 (by omega) (by omega)
 · by_cases h2:i=n
   · subst h2
     go_enter Tryz.func114,Tryz.ntmps114
     go_wp2_with fail
     go_ret
     exact HD.out _ (by omega) (by omega)
   · have h3:i<n:=by omega
     clear h2
     go_enter Tryz.func114,Tryz.ntmps114
     go_wp2_with fail
     go_ret
     exact HD.out i (by omega) (by omega)
theorem odd_lim (x:Int):0≤bits .and .i64 x 1∧bits .and .i64 x 1≤1:=by rw [and_one];omega
theorem Rd.int {w:World} {A:Option Addr} {n:Nat} {zs:List Int} (h:Rd w A n (zs.map (Value.int .i64))) {k:Nat} (hk:k<n): ∃ad z,A=some ad∧w.cell? (ad.add k)=some (.int .i64 z):=by
 obtain⟨ad,e,hc⟩:=h.at_ hk
 have hl:k<zs.length:=by have:=h.1;rw [List.length_map]at this;omega
 exact⟨ad,zs[k],e,by rw [hc];simp [hl]⟩
theorem lsplit_any (w:World) (at0:Int) (A:Option Addr) (n c:Nat) (zs:List Int) (h:Rd w A n (zs.map (Value.int .i64))) (hn:n≤64):
 Calls Tryz.prog 105 #[.int .i64 at0,.slice A n c] w (RowP n w):=by
 obtain⟨i0,hi0,hz0,hz1,hz2⟩:=info_parts info_int
 have HV:=hid h
 obtain⟨o1,o2⟩:=odd_lim at0
 obtain⟨od,hod⟩: ∃od,bits BinOp.and IntKind.i64 at0 1=od:=⟨_,rfl⟩
 rw [hod]at o1 o2
 have hwod:IntKind.i64.wrap (1-od)=1-od:=IntWalk.i64_in _ (by omega)
 have HZS:=hid (show zs.length=n from by have:=h.1;rwa [List.length_map]at this)
 clear h
 go_enter Tryz.func105,Tryz.ntmps105
 go_upto_region 3 with(
  at_builtin
  go_must (refine wpList_append_src _ rfl (.tmp 15) (.tmp 16) 22 rfl w.heap.size 3 i0 _ 8 Tryz.underlying22 hi0 hz0 hz1 hz2 rfl (World.ownsRow_made w #[] 0 (Nat.le_refl _) (by simp [maxLen]) rfl) rfl (HV.out.alloc _) rfl (oneCell_ints _ _) (by simp only [maxLen];omega) (by omega) (by simp) ?_)
  intro v6 w6 hown6 hg6 _h6 _h7
  obtain⟨X,cX,rfl⟩:=own_form hown6
  have HX6:=hid (show Own w6 w.heap.size X n cX from⟨zs,HZS.out,by simpa using hown6⟩)
  have HK6:=hid (show Keep (fun _=>False) w w6 from((Keep.refl (fun _=>False) w).alloc _).grown hg6 (fun k hk=>by
   have:k=w.heap.size:=by simpa [Value.ownBlock]using hk.symm
   exact .inr (by omega)))
  clear hown6 hg6 _h6 _h7)
 by_cases hn1:n=1
 · subst hn1
   obtain⟨g,z,rfl,hcX,hgb,hc,hf,hset⟩:=HX6.out.get (i:=0) (by omega)
   by_cases ho1:od=1
   · subst ho1
     have HO:=hid (hset (wrap64 (2*z)))
     have HKK:=hid (HK6.out.setCell (p:=⟨g,0,none⟩) (.inr hgb) (.int .i64 (wrap64 (2*z))))
     go_wp2_with fail
     go_ret
     obtain⟨ys,h1,h2⟩:=HO.out
     exact⟨_,cX,ys,rfl,h1,h2,HKK.out⟩
   · have ho2:(od==1)=false:=by simpa using ho1
     clear ho1 hset hc hf
     go_wp2_with fail
     go_ret
     obtain⟨ys,h1,h2⟩:=HX6.out
     exact⟨_,cX,ys,rfl,h1,h2,HK6.out⟩
 · have hn1b:((n:Int)==1)=false:=by simp;omega
   go_wp2_with fail
   go_loopw [8] (fun v wr=> ∃i:Nat,i≤n+1∧v=.int .i64 i∧Hid (Own wr w.heap.size X n cX)∧Hid (Keep (fun _=>False) w wr)) (fun v _=>n+2-(intOf v).toNat)
   case atStart=>exact⟨(1-od).toNat,by omega,by congr 1;omega,HX6,HK6⟩
   case round=>
    clear HX6 HK6 hod
    obtain⟨i,hi,rfl,HX,HK⟩:=hrel
    by_cases hin:i<n
    · skip
      have hn2:2≤n:=by omega
      obtain⟨g,z,hXg,hcX,hgb,hc,hf,hset⟩:=HX.out.get hin
      have HSET:=hid (fun y=>And.intro (hset y) (HK.out.setCell (p:=⟨g,i,none⟩) (.inr hgb) (.int .i64 y)))
      have HGET:=hid (fun k (hk:k<n)=>(HV.out.keepF HK.out).int hk)
      have NR:=hid (fun w x (h1:-1≤x) (h2:x≤(n:Int))=>near_any w x n hn2 hn h1 h2)
      have hw1:IntKind.i64.wrap ((i:Int)-1)=(i:Int)-1:=IntWalk.i64_in _ (by omega)
      have hw2:IntKind.i64.wrap ((i:Int)+1)=(i:Int)+1:=IntWalk.i64_in _ (by omega)
      obtain⟨ad,_,hAad,_⟩:=(HV.out.keepF HK.out).int hin
      subst hXg
      subst hAad
      have dc:wr.drew.cell? ⟨g,i,none⟩=some (.int .i64 z):=hc
      have df:wr.drew.frozen? ⟨g,i,none⟩=false:=hf
      clear hc hf hset HX HK
      go_wp2_with fail
      refine At.start (L:=#[false,false,false,false,false,false,false,false,false,false,false,false,false,false,false,false,false,false,false,false,false,false,false,false,false]) (by kernel_rfl) rfl ?_
      refine AtP 0 38 ?_
      refine AtP 1 39 ?_
      refine AtP 2 40 ?_
      refine AtP 3 41 ?_
      refine AtP 4 42 ?_
      refine AtL 5 43 Tryz.underlying3 ?_
      refine AtP 6 44 ?_
      refine AtP 7 45 ?_
      refine AtP 8 46 ?_
      refine AtP 9 47 ?_
      refine AtP 13 51 ?_
      refine AtP 14 52 ?_
      refine AtP 15 53 ?_
      refine AtP 16 54 ?_
      refine At.call_all 10 rfl (by kernel_rfl) rfl (fun K hK=>?_)
      go_simp
      refine(NR.out _ _ (by omega) (by omega)).mono ?_
      rintro e w7 ⟨k1,hk1,rfl,hw⟩
      cases hw
      obtain⟨ad1,y1,e1,hc1⟩:=HGET.out k1 hk1
      injection e1 with e1
      subst e1
      have d1:wr.drew.cell? (ad.add k1)=some (.int .i64 y1):=hc1
      clear hc1
      refine hK _ _ (all_cons (by assumption) all_nil) ?_
      clear hK K
      try simp only [NS]
      refine AtP 11 49 ?_
      refine AtL 12 50 Tryz.underlying3 ?_
      refine At.call_all 17 rfl (by kernel_rfl) rfl (fun K hK=>?_)
      go_simp
      refine(NR.out _ _ (by omega) (by omega)).mono ?_
      rintro e w7 ⟨k2,hk2,rfl,hw⟩
      cases hw
      obtain⟨ad2,y2,e2,hc2⟩:=HGET.out k2 hk2
      injection e2 with e2
      subst e2
      have d2:wr.drew.cell? (ad.add k2)=some (.int .i64 y2):=hc2
      clear hc2
      refine hK _ _ (by repeat' first|exact all_nil|refine all_cons (by assumption) ?_) ?_
      clear hK K
      try simp only [NS]
      refine AtP 18 56 ?_
      refine AtL 19 57 Tryz.underlying3 ?_
      refine AtP 20 58 ?_
      refine AtP 21 59 ?_
      refine AtP 22 60 ?_
      refine AtP 23 61 ?_
      refine AtC 24 fun K hK=>?_
      go_simp
      skip
      refine hK _ _ all_nil ?_
      clear hK K
      try simp only [NS]
      refine At.done (by kernel_rfl) ?_
      go_wp2_with fail
      go_roundw
      case rel=>exact⟨i+2,by omega,by go_num,hid (HSET.out _).1,hid (HSET.out _).2.drew⟩
      case measure=>simp [intOf]<;>omega
    · go_wp2_with fail
      have HX0:=HX
      have HK0:=HK
      clear HX HK hi hin
      go_loopw [9] (fun v wr=> ∃i:Nat,i≤n+1∧v=.int .i64 i∧Hid (Own wr w.heap.size X n cX)∧Hid (Keep (fun _=>False) w wr)) (fun v _=>n+2-(intOf v).toNat)
      case atStart=>exact⟨od.toNat,by omega,by congr 1;omega,HX0,HK0⟩
      case round=>
       clear HX0 HK0
       obtain⟨j,hj,rfl,HX,HK⟩:=hrel
       by_cases hin:j<n
       · skip
         have hn2:2≤n:=by omega
         obtain⟨g,z,hXg,hcX,hgb,hc,hf,hset⟩:=HX.out.get hin
         have HSET:=hid (fun y=>And.intro (hset y) (HK.out.setCell (p:=⟨g,j,none⟩) (.inr hgb) (.int .i64 y)))
         have HGET:=hid (fun k (hk:k<n)=>HX.out.get hk)
         have NR:=hid (fun w x (h1:-1≤x) (h2:x≤(n:Int))=>near_any w x n hn2 hn h1 h2)
         have hw1:IntKind.i64.wrap ((j:Int)-1)=(j:Int)-1:=IntWalk.i64_in _ (by omega)
         have hw2:IntKind.i64.wrap ((j:Int)+1)=(j:Int)+1:=IntWalk.i64_in _ (by omega)
         subst hXg
         have dc:wr.drew.cell? ⟨g,j,none⟩=some (.int .i64 z):=hc
         have df:wr.drew.frozen? ⟨g,j,none⟩=false:=hf
         clear hc hf hset HX HK
         go_wp2_with fail
         refine At.start (L:=#[false,false,false,false,false,false,false,false,false,false,false,false,false,false,false,false,false,false,false,false,false,false,false,false,false,false]) (by kernel_rfl) rfl ?_
         refine AtP 0 68 ?_
         refine AtP 1 69 ?_
         refine AtP 2 70 ?_
         refine AtP 3 71 ?_
         refine AtP 4 72 ?_
         refine AtL 5 73 Tryz.underlying3 ?_
         refine AtP 6 74 ?_
         refine AtP 7 75 ?_
         refine AtP 8 76 ?_
         refine AtP 9 77 ?_
         refine AtP 13 81 ?_
         refine AtP 14 82 ?_
         refine AtP 15 83 ?_
         refine AtP 16 84 ?_
         refine At.call_all 10 rfl (by kernel_rfl) rfl (fun K hK=>?_)
         go_simp
         refine(NR.out _ _ (by omega) (by omega)).mono ?_
         rintro e w7 ⟨k1,hk1,rfl,hw⟩
         cases hw
         obtain⟨g1,y1,e1,_,_,hc1,_,_⟩:=HGET.out k1 hk1
         injection e1 with e1
         injection e1 with e1
         subst e1
         have d1:wr.drew.cell? ⟨g,k1,none⟩=some (.int .i64 y1):=hc1
         clear hc1
         refine hK _ _ (all_cons (by assumption) all_nil) ?_
         clear hK K
         try simp only [NS]
         refine AtP 11 79 ?_
         refine AtL 12 80 Tryz.underlying3 ?_
         refine At.call_all 17 rfl (by kernel_rfl) rfl (fun K hK=>?_)
         go_simp
         refine(NR.out _ _ (by omega) (by omega)).mono ?_
         rintro e w7 ⟨k2,hk2,rfl,hw⟩
         cases hw
         obtain⟨g2,y2,e2,_,_,hc2,_,_⟩:=HGET.out k2 hk2
         injection e2 with e2
         injection e2 with e2
         subst e2
         have d2:wr.drew.cell? ⟨g,k2,none⟩=some (.int .i64 y2):=hc2
         clear hc2
         refine hK _ _ (by repeat' first|exact all_nil|refine all_cons (by assumption) ?_) ?_
         clear hK K
         try simp only [NS]
         refine AtP 18 86 ?_
         refine AtL 19 87 Tryz.underlying3 ?_
         refine AtP 20 88 ?_
         refine AtP 21 89 ?_
         refine AtP 22 90 ?_
         refine AtP 23 91 ?_
         refine AtP 24 92 ?_
         refine AtC 25 fun K hK=>?_
         go_simp
         skip
         refine hK _ _ all_nil ?_
         clear hK K
         try simp only [NS]
         refine At.done (by kernel_rfl) ?_
         go_wp2_with fail
         go_roundw
         case rel=>exact⟨j+2,by omega,by go_num,hid (HSET.out _).1,hid (HSET.out _).2.drew⟩
         case measure=>simp [intOf]<;>omega
       · have HT0:=hid (show TwoR w X n cX none 0 0 wr from⟨HX.out,Own.nil _ _,fun a b e=>(by cases e),HK.out⟩)
         clear HX HK
         go_wp2_with fail
         clear hj hin
         go_loopw [10,11] (fun u v wr=> ∃(m:Nat) (O:Option Addr) (cO:Nat),u=.slice O m cO∧v=.int .i64 (od+2*m)∧od+2*m≤n+1∧Hid (TwoR w X n cX O m cO wr)) (fun _ v _=>n+2-(intOf v).toNat)
         case atStart=>exact⟨0,none,0,rfl,by simp,by omega,HT0⟩
         case round=>
          clear HT0
          obtain⟨m,O,cO,rfl,rfl,hm,HT⟩:=hrel
          by_cases hin:od+2*m<n
          · obtain⟨t,ht⟩: ∃t:Nat,od+2*m=t:=⟨(od+2*m).toNat,by omega⟩
            obtain⟨g,z,hXg,hcX,hgb,hc,hf,_⟩:=HT.out.x.get (i:=t) (by omega)
            obtain⟨zo,hzo,ho⟩:=HT.out.o
            have HOO:=hid ho
            have HTX:=hid ht
            have hb0:=HT.out.keep.size
            rw [ht]at hin ⊢
            clear ho hf
            subst hXg
            go_wp2_with (
             at_builtin
             go_must (refine wpList_append_one wr rfl (.tmp 99) (.tmp 104) _ rfl w.heap.size 3 i0 _ 8 Tryz.underlying22 hi0 hz0 hz1 hz2 rfl HOO.out rfl _ rfl rfl (by simp only [maxLen];omega) (by omega) hb0 ?_)
             intro v2 w2 hown2 hg2 hat2 _hold2
             obtain⟨O2,cO2,rfl⟩:=own_form hown2
             have HN:=hid (HT.out.push hzo hown2 hg2 hat2)
             clear hown2 hg2 hat2 _hold2)
            go_roundw
            case rel=>exact⟨m+1,O2,cO2,rfl,by congr 1;have:=HTX.out;omega,by have:=HTX.out;omega,HN⟩
            case measure=>simp [intOf]<;>omega
          · have hM:od+2*m=n∨od+2*m=n+1:=by omega
            have HMM:=hid hM
            clear hM
            have HT0:=hid (show TwoR w X n cX O (m+0) cO wr from HT.out)
            clear HT
            go_wp2_with fail
            clear hin
            go_loopw [10,12] (fun u v wr=> ∃(q:Nat) (O:Option Addr) (cO:Nat),u=.slice O (m+q) cO∧v=.int .i64 (1-od+2*q)∧1-od+2*q≤n+1∧Hid (TwoR w X n cX O (m+q) cO wr)) (fun _ v _=>n+2-(intOf v).toNat)
            case atStart=>exact⟨0,O,cO,rfl,by simp,by omega,HT0⟩
            case round=>
             clear HT0
             obtain⟨q,O,cO,rfl,rfl,hq,HT⟩:=hrel
             by_cases hin:1-od+2*q<n
             · obtain⟨t,ht⟩: ∃t:Nat,1-od+2*q=t:=⟨(1-od+2*q).toNat,by omega⟩
               obtain⟨g,z,hXg,hcX,hgb,hc,hf,_⟩:=HT.out.x.get (i:=t) (by omega)
               obtain⟨zo,hzo,ho⟩:=HT.out.o
               have HOO:=hid ho
               have HTX:=hid ht
               have hb0:=HT.out.keep.size
               rw [ht]at hin ⊢
               clear ho hf
               subst hXg
               go_wp2_with (
                at_builtin
                go_must (refine wpList_append_one wr rfl (.tmp 113) (.tmp 118) _ rfl w.heap.size 3 i0 _ 8 Tryz.underlying22 hi0 hz0 hz1 hz2 rfl HOO.out rfl _ rfl rfl (by simp only [maxLen];omega) (by omega) hb0 ?_)
                intro v2 w2 hown2 hg2 hat2 _hold2
                obtain⟨O2,cO2,rfl⟩:=own_form hown2
                have HN:=hid (HT.out.push hzo hown2 hg2 hat2)
                clear hown2 hg2 hat2 _hold2)
               go_roundw
               case rel=>exact⟨q+1,O2,cO2,rfl,by congr 1;have:=HTX.out;omega,by have:=HTX.out;omega,HN⟩
               case measure=>simp [intOf]<;>omega
             · have hmq:m+q=n:=by have:=HMM.out;omega
               go_wp2_with fail
               go_ret
               obtain⟨zo,hzo,ho⟩:=HT.out.o
               rw [hmq]at ho hzo
               exact⟨O,cO,zo,rfl,hzo,ho,HT.out.keep⟩
structure TileOk (m:Im) (r:Rc):Prop where
 sub:r.sub m.whole
 x:r.x0<r.x1
 y:r.y0<r.y1
structure TL (w0:World) (m:Im) (p:Pm) (rs:List Rc) (A:Option Addr) (n c:Nat) (w:World):Prop where
 bm:Blk w w0.heap.size 29 m.cells
 bp:Blk w (w0.heap.size+1) 31 p.cells
 own:w.ownsRow w0.heap.size 63 4 (.slice A n c) n (rcs rs)
 keep:Keep (fun _=>False) w0 w
 ok: ∀r∈rs,TileOk m r
theorem TL.next {w0 w w':World} {m:Im} {p:Pm} {rs:List Rc} {A A':Option Addr} {n c c':Nat} (h:TL w0 m p rs A n c w) (r:Rc) (hr:TileOk m r) (ho:w'.ownsRow w0.heap.size 63 4 (.slice A' (n+1) c') (n+1) (rcs (rs++[r])))
 (hk:Keep (fun i=>(Value.slice A n c).ownBlock=some i) w w'):TL w0 m p (rs++[r]) A' (n+1) c' w':=
 ⟨h.bm.keep hk (own_ne h.own h.bm (by decide)),h.bp.keep hk (own_ne h.own h.bp (by decide)),ho,keep_app h.keep h.own (Nat.le_refl _) hk,fun q hq=>by
  rcases List.mem_append.1 hq with h1|h1
  · exact h.ok q h1
  · rw [List.mem_singleton]at h1
    subst h1
    exact hr⟩
theorem tile_ok {m:Im} {tx ty:Int} {i j:Nat} (hox:0≤m.ox) (hx:m.ox<m.x) (hoy:0≤m.oy) (hy:m.oy<m.y) (htx:m.ox<tx) (hty:m.oy<ty) (hi:(i:Int)<ceilI m.x tx) (hj:(j:Int)<ceilI m.y ty):
 TileOk m ⟨max (i*tx) m.ox,max (j*ty) m.oy,min ((i+1)*tx) m.x,min ((j+1)*ty) m.y⟩:=by
 have a1:=(ceilI_spec (a:=m.x) (d:=tx) (by omega)).1
 have a2:=(ceilI_spec (a:=m.y) (d:=ty) (by omega)).1
 have b1:tx*i≤tx*(ceilI m.x tx-1):=Int.mul_le_mul_of_nonneg_left (by omega) (by omega)
 have b2:ty*j≤ty*(ceilI m.y ty-1):=Int.mul_le_mul_of_nonneg_left (by omega) (by omega)
 have e1:((i:Int)+1)*tx=i*tx+tx:=by rw [Int.add_mul];omega
 have e2:((j:Int)+1)*ty=j*ty+ty:=by rw [Int.add_mul];omega
 rw [e1,e2]
 rw [Int.mul_comm]at b1 b2
 have c1:0≤(i:Int)*tx:=Int.mul_nonneg (by omega) (by omega)
 have c2:0≤(j:Int)*ty:=Int.mul_nonneg (by omega) (by omega)
 generalize (i:Int)*tx=u at*
 generalize (j:Int)*ty=v at*
 refine⟨⟨?_,?_,?_,?_,?_,?_⟩,?_,?_⟩<;>simp only [Im.whole]<;>omega
theorem tiles_any (w:World) (m:Im) (p:Pm) (nx ny:Nat) (hox:0≤m.ox) (hx:m.ox<m.x) (hx64:m.x≤64) (hoy:0≤m.oy) (hy:m.oy<m.y) (hy64:m.y≤64) (htx:m.ox<p.tx) (htx2:p.tx≤65536) (hty:m.oy<p.ty) (hty2:p.ty≤65536)
 (hnx:ceilI m.x p.tx=nx) (hny:ceilI m.y p.ty=ny):
 Calls Tryz.prog 22 #[m.val,p.val] w fun e w'=> ∃A c rs,e=.returned (.slice A (nx*ny) c)∧RdS w' A (nx*ny) 4 (rcs rs)∧nx*ny≤c∧rs.length=nx*ny∧(∀ r∈rs,TileOk m r)∧(∀ ad,A=some ad→w.heap.size≤ad.block)∧Keep (fun _=>False) w w':=by
 obtain⟨i0,hi0,hz0,hz1,hz2⟩:=info_parts info_rect
 have HTO:=(fun (i j:Nat) (hi:i<nx) (hj:j<ny)=>tile_ok (m:=m) (tx:=p.tx) (ty:=p.ty) hox hx hoy hy htx hty (by rw [hnx];exact_mod_cast hi) (by rw [hny];exact_mod_cast hj))
 have CX:=fun w=>ceil_any w m.x p.tx (by omega) (by omega) (by omega) (by omega)
 have CY:=fun w=>ceil_any w m.y p.ty (by omega) (by omega) (by omega) (by omega)
 have hnx64:nx≤64:=by have:=ceilI_lim (a:=m.x) (b:=p.tx) (by omega) (by omega);omega
 have hny64:ny≤64:=by have:=ceilI_lim (a:=m.y) (b:=p.ty) (by omega) (by omega);omega
 rw [hnx]at CX
 rw [hny]at CY
 clear hnx hny
 have HT0:Hid (TL w m p [] none 0 0 ((w.alloc (.cells m.cells 29)).alloc (.cells p.cells 31))):=hid ⟨(Blk.new w _ _).alloc _,Blk.new1 w _ _ _,World.ownsRow_nil _ _ _ _,((Keep.refl _ w).alloc _).alloc _,fun _ h=>by cases h⟩
 obtain⟨x,y,ox,oy,cA,cn,cc⟩:=m
 obtain⟨tx,ty,lev,cbw,cbh,prec,style,order,lay,rct,sop,eph⟩:=p
 unfold Im.val Pm.val
 simp only at HTO hox hx hx64 hoy hy hy64 htx htx2 hty hty2 CX CY
 have HM:=hid (show({ x,y,ox,oy,A:=cA,n:=cn,c:=cc }:Im).cells=#[.int .i64 x,.int .i64 y,.int .i64 ox,.int .i64 oy,.slice cA cn cc]from rfl)
 have HP:=hid (show({ tx,ty,lev,cbw,cbh,prec,style,order,lay,rct,sop,eph }:Pm).cells=#[.int .i64 tx,.int .i64 ty,.int .i64 lev,.int .i64 cbw,.int .i64 cbh,.int .i64 prec,.int .i64 style,.int .i64 order,.int .i64 lay,.bool rct,.bool sop,.bool eph]from rfl)
 generalize hmm:({ x,y,ox,oy,A:=cA,n:=cn,c:=cc }:Im)=M at*
 generalize hpp:({ tx,ty,lev,cbw,cbh,prec,style,order,lay,rct,sop,eph }:Pm)=PP at*
 have HMM:=hid hmm
 have HPP:=hid hpp
 have HTP:=hid HTO
 clear hmm hpp HTO
 go_enter Tryz.func22,Tryz.ntmps22
 go_wp2_with fail
 go_loopw [5,6] (fun l v wr=> ∃(j:Nat) (A:Option Addr) (c:Nat) (rs:List Rc),j≤ny∧v=.int .i64 j∧l=.slice A (nx*j) c∧Hid (TL w M PP rs A (nx*j) c wr)∧Hid (rs.length=nx*j)) (fun _ v _=>ny-(intOf v).toNat)
 case atStart=>exact⟨0,none,0,[],by omega,rfl,rfl,by rw [Nat.mul_zero];exact HT0,hid (by simp)⟩
 case round=>
  obtain⟨j,A,c,rs,hj,rfl,rfl,HT,HL⟩:=hrel
  clear HT0
  have HB:=hid (HT.out.bm)
  have m1:wr.cell? ⟨w.heap.size,1,none⟩=some (.int .i64 y):=by rw [HT.out.bm.cell,HM.out];rfl
  have p1:wr.cell? ⟨w.heap.size+1,1,none⟩=some (.int .i64 ty):=by rw [HT.out.bp.cell,HP.out];rfl
  go_wp2_with fail
  refine(CY _).mono ?_
  rintro e w1 ⟨rfl,rfl⟩
  by_cases hjn:j<ny
  · go_wp2_with fail
    have HT0:Hid (TL w M PP rs A (nx*j+0) c wr):=HT
    have HL0:Hid (rs.length=nx*j+0):=HL
    clear HT HL HB m1 p1
    go_loopw [5,7] (fun l v wr=> ∃(i:Nat) (A:Option Addr) (c:Nat) (rs:List Rc),i≤nx∧v=.int .i64 i∧l=.slice A (nx*j+i) c∧Hid (TL w M PP rs A (nx*j+i) c wr)∧Hid (rs.length=nx*j+i)) (fun _ v _=>nx-(intOf v).toNat)
    case atStart=>exact⟨0,A,c,rs,by omega,rfl,rfl,HT0,HL0⟩
    case round=>
     clear HT0 HL0
     obtain⟨i,A,c,rs,hi,rfl,rfl,HT,HL⟩:=hrel
     have m0:wr.cell? ⟨w.heap.size,0,none⟩=some (.int .i64 x):=by rw [HT.out.bm.cell,HM.out];rfl
     have m1:wr.cell? ⟨w.heap.size,1,none⟩=some (.int .i64 y):=by rw [HT.out.bm.cell,HM.out];rfl
     have m2:wr.cell? ⟨w.heap.size,2,none⟩=some (.int .i64 ox):=by rw [HT.out.bm.cell,HM.out];rfl
     have m3:wr.cell? ⟨w.heap.size,3,none⟩=some (.int .i64 oy):=by rw [HT.out.bm.cell,HM.out];rfl
     have p0:wr.cell? ⟨w.heap.size+1,0,none⟩=some (.int .i64 tx):=by rw [HT.out.bp.cell,HP.out];rfl
     have p1:wr.cell? ⟨w.heap.size+1,1,none⟩=some (.int .i64 ty):=by rw [HT.out.bp.cell,HP.out];rfl
     go_wp2_with fail
     refine(CX _).mono ?_
     rintro e w1 ⟨rfl,rfl⟩
     by_cases hin:i<nx
     · obtain⟨u1,g1,q1,d1,b1⟩:=mul_in (a:=(i:Int)) (b:=tx) (B:=64*65536) (by omega) (by omega) (Int.mul_le_mul (by omega) (by omega) (by omega) (by omega)) (by omega)
       obtain⟨u2,g2,q2,d2,b2⟩:=mul_in (a:=(j:Int)) (b:=ty) (B:=64*65536) (by omega) (by omega) (Int.mul_le_mul (by omega) (by omega) (by omega) (by omega)) (by omega)
       obtain⟨u3,g3,q3,d3,b3⟩:=mul_in (a:=(i:Int)+1) (b:=tx) (B:=65*65536) (by omega) (by omega) (Int.mul_le_mul (by omega) (by omega) (by omega) (by omega)) (by omega)
       obtain⟨u4,g4,q4,d4,b4⟩:=mul_in (a:=(j:Int)+1) (b:=ty) (B:=65*65536) (by omega) (by omega) (Int.mul_le_mul (by omega) (by omega) (by omega) (by omega)) (by omega)
       have hr:=HTP.out i j hin hjn
       rw [q1,q2,q3,q4]at hr
       clear q1 q2 q3 q4
       have HR:=hid hr
       have HS:=hid (HT.out.own)
       have hnn:nx*j≤64*64:=Nat.mul_le_mul hnx64 (by omega)
       have hb:w.heap.size≤wr.heap.size:=HT.out.keep.size
       clear hr
       go_wp2_with (first|(first|refine wpList_max rfl _ _ _ rfl _ _ rfl rfl ?_|refine wpList_min rfl _ _ _ rfl _ _ rfl rfl ?_)|(
        at_builtin
        go_must (refine wpList_append_rows wr rfl (.tmp 26) (.tmp 58) 59 rfl w.heap.size 63 i0 _ 4 32 Tryz.underlying59 hi0 hz0 hz1 hz2 rfl (by omega) HS.out rfl _ rfl rfl (one4 _ _ _ _) (by simp only [maxLen];omega) (by omega) hb ?_)
        intro A6 c6 w6 hown6 hk6
        have HN6:=hid (HT.out.next _ HR.out (by rw [rcs_snoc];exact hown6) hk6)
        have HL6:=hid (show(rs++[(⟨max u1 ox,max u2 oy,min u3 x,min u4 y⟩:Rc)]).length=nx*j+i+1 by rw [List.length_append,HL.out];rfl)
        clear hown6 hk6))
       go_roundw
       case rel=>exact⟨i+1,A6,c6,_,by omega,rfl,rfl,HN6,HL6⟩
       case measure=>simp [intOf];omega
     · obtain rfl:i=nx:=by omega
       have HT1:Hid (TL w M PP rs A (i*(j+1)) c wr):=HT
       have HL1:Hid (rs.length=i*(j+1)):=HL
       go_wp2_with fail
       go_roundw
       case rel=>exact⟨j+1,A,c,rs,by omega,rfl,rfl,HT1,HL1⟩
       case measure=>simp [intOf];omega
  · obtain rfl:j=ny:=by omega
    go_wp2_with fail
    go_ret
    refine⟨A,c,rs,rfl,RdS.of_own HT.out.own,own_cap HT.out.own,HL.out,?_,fun ad e=>(HT.out.own.lt _ (by rw [e];rfl)).1,HT.out.keep⟩
    exact HT.out.ok
def putB (x:Int):Nat→List Int
 |0=>[]
 |j+1=>(IntKind.u64.wrap x/2^(8*j)%256)::putB x j
theorem putB_length (x:Int) (j:Nat):(putB x j).length=j:=by induction j with|zero=>rfl|succ j ih=>simp [putB,ih]
def RefR (o:Value) (zs:List Int) (x:Int) (s:Nat) (base:Nat) (w:World) (n j:Nat) (v:Value) (wr:World):Prop:=
 ∃pre:List Int,pre++putB x j=putB x s∧wr.ownsRow base 5 1 v (n+pre.length) ((zs++pre).map (Value.int .u8))∧wr.ownsRow base 5 1 o n (zs.map (Value.int .u8))∧
  Keep (fun k=>o.ownBlock=some k) w wr∧(v.ownBlock=o.ownBlock∨ ∃k,v.ownBlock=some k∧w.heap.size≤k)
theorem RefR.next {o:Value} {zs:List Int} {x:Int} {s base n j:Nat} {w wr w2:World} {v v2:Value} {ob:Obj} {pre:List Int} (he:pre++putB x (j+1)=putB x s)
 (hown:wr.ownsRow base 5 1 v (n+pre.length) ((zs++pre).map (Value.int .u8))) (ho:wr.ownsRow base 5 1 o n (zs.map (Value.int .u8))) (hk:Keep (fun k=>o.ownBlock=some k) w wr)
 (hv:v.ownBlock=o.ownBlock∨ ∃k,v.ownBlock=some k∧w.heap.size≤k) (hz:zs.length=n)
 (hown2:w2.ownsRow base 5 1 v2 (n+pre.length+1) ((zs++pre).map (Value.int .u8)++[.int .u8 (IntKind.u64.wrap x/2^(8*j)%256)])) (hg:(wr.alloc ob).grownBy w2 v.ownBlock)
 (hat:v2.ownBlock=v.ownBlock∨v2.ownBlock=some (wr.heap.size+1)) (hold:w2.ownsRow base 5 1 v (n+pre.length) ((zs++pre).map (Value.int .u8))):
 RefR o zs x s base w n j v2 w2:=by
 refine⟨pre++[IntKind.u64.wrap x/2^(8*j)%256],by rw [← he];simp [putB],by simpa [Nat.add_assoc]using hown2,?_,(hk.alloc ob).grown hg ?_,?_⟩
 · exact own_hold ho hown (by omega) (by simp [hz]) hold (((Keep.refl _ wr).alloc ob).grown hg (fun k hk=>.inl hk))
 · intro k hk'
   rcases hv with hv|⟨k',hv,hle⟩
   · exact .inl (by rw [← hv];exact hk')
   · rw [hv]at hk';injection hk' with hk';subst hk';exact .inr hle
 · rcases hat with h|h
   · rw [h];exact hv
   · exact .inr ⟨_,h,by have:=hk.size;omega⟩
theorem refput_any (A:Option Addr) (n c:Nat) (zs:List Int) (size x:Int) (w:World) (base:Nat) (h:w.ownsRow base 5 1 (.slice A n c) n (zs.map (Value.int .u8))) (hb:base≤w.heap.size) (hn:n≤70368744177664) (hs1:1≤size) (hs2:size≤8):
 Calls Tryz.prog 24 #[.slice A n c,.int .i64 size,.int .i64 x] w fun e w'=> ∃v',e=.returned v'∧
  w'.ownsRow base 5 1 v' (n+size.toNat) ((zs++putB x size.toNat).map (Value.int .u8))∧w'.ownsRow base 5 1 (.slice A n c) n (zs.map (Value.int .u8))∧
  Keep (fun k=>(Value.slice A n c).ownBlock=some k) w w'∧(v'.ownBlock=(Value.slice A n c).ownBlock∨ ∃k,v'.ownBlock=some k∧w.heap.size≤k):=by
 obtain⟨s,rfl⟩:=Int.eq_ofNat_of_zero_le (show 0≤size by omega)
 obtain⟨i0,hi0,hz0,hz1,hz2⟩:=info_parts info_u8
 have hzl:zs.length=n:=by have:=h.1;simpa using this
 have HZ:=hid hzl
 clear hzl
 go_enter Tryz.func24,Tryz.ntmps24
 go_wp2_with fail
 generalize ho:(Value.slice A n c)=o at*
 have HO:=hid ho
 clear ho
 go_loopw [0,7] (fun v k wr=> ∃j:Nat,j≤8∧RefR o zs x s base w n j v wr∧k=.int .i64 ((j:Int)-1)) (fun _ k _=>(intOf k+1).toNat)
 case atStart=>exact⟨s,by omega,⟨[],by simp,by simpa using h,h,Keep.refl _ _,.inl rfl⟩,rfl⟩
 case round=>
  obtain⟨j,hj,⟨pre,hpre,hown,ho2,hk,hv⟩,rfl⟩:=hrel
  have hs1:=hk.size
  have hpl:pre.length+j=s:=by
   have:=congrArg List.length hpre
   simpa [putB_length]using this
  have HP:=hid hpre
  have HV:=hid hv
  have HL:=hid hpl
  have hpl':pre.length≤8:=by omega
  clear hpre hv hpl
  cases j with
  |zero=>
   go_wp2_with fail
   go_ret
   have:=HL.out
   have hp:=HP.out
   simp [putB]at hp
   subst hp
   rw [putB_length]at hown
   exact⟨_,rfl,hown,by rw [HO.out];exact ho2,by rw [HO.out];exact hk,by rw [HO.out];exact HV.out⟩
  |succ j=>
   go_wp2_with (
    at_builtin
    go_must (refine wpList_append_one wr rfl (.tmp 21) (.tmp 29) _ rfl base 5 i0 _ 1 Tryz.underlying25 hi0 hz0 hz1 hz2 rfl hown rfl _ rfl rfl (by simp only [maxLen];omega) (by omega) (by omega) ?_)
    intro v2 w2 hown2 hg2 hat2 hold2)
   go_roundw
   case rel=>exact⟨j,by omega,RefR.next HP.out hown ho2 hk HV.out HZ.out hown2 hg2 hat2 hold2,by go_num⟩
   case measure=>simp [intOf]
theorem WkG.goto {w:World} {base V:Nat} {A:Option Addr} {n c:Nat} {zs:List Int} {x:Nat} {M:Option Addr} {m cm:Nat} {T:Option Addr} {ct:Nat} {acc:List (Int×Nat)} {tl:Bool} (h:WkG w base V A n c zs x M m cm T ct acc tl) (y:Nat) (hy:y≤n) (hm:m≤y):WkG (w.setCell ⟨V,1,none⟩ (.int .i64 y)) base V A n c zs y M m cm T ct acc tl:=
 have hk:Keep (fun j=>j=V) w (w.setCell ⟨V,1,none⟩ (.int .i64 y)):=Keep.set1 w V 1 _
 have nM:=own_ne h.oM h.blk (by decide)
 have nT:=own_ne h.oT h.blk (by decide)
 { h with
   blk:=h.blk.set_ 1 (.int .i64 y)
   rd:=h.rd.keep hk (fun ad e hk=>by have:=h.low ad e;have:=h.vb;omega)
   oM:=own_keep h.oM hk (fun k e hk=>nM (by rw [e,hk]))
   oT:=own_keep h.oT hk (fun k e hk=>nT (by rw [e,hk]))
   few:=hm
   at_:=hy }
theorem WkG.tiles {w:World} {base V:Nat} {A:Option Addr} {n c:Nat} {zs:List Int} {x:Nat} {M:Option Addr} {m cm:Nat} {T:Option Addr} {ct:Nat} {acc:List (Int×Nat)} {tl:Bool} (h:WkG w base V A n c zs x M m cm T ct acc tl):WkG (w.setCell ⟨V,4,none⟩ (.bool true)) base V A n c zs x M m cm T ct acc true:=
 have hk:Keep (fun j=>j=V) w (w.setCell ⟨V,4,none⟩ (.bool true)):=Keep.set1 w V 4 _
 have nM:=own_ne h.oM h.blk (by decide)
 have nT:=own_ne h.oT h.blk (by decide)
 { h with
   blk:=h.blk.set_ 4 (.bool true)
   rd:=h.rd.keep hk (fun ad e hk=>by have:=h.low ad e;have:=h.vb;omega)
   oM:=own_keep h.oM hk (fun k e hk=>nM (by rw [e,hk]))
   oT:=own_keep h.oT hk (fun k e hk=>nT (by rw [e,hk])) }
def SegP (w:World) (base V:Nat) (A:Option Addr) (n c:Nat) (zs:List Int) (x:Nat) (M:Option Addr) (m cm:Nat) (T:Option Addr) (ct:Nat) (acc:List (Int×Nat)) (tl:Bool) (mk:Int) (e:Ending) (w':World):Prop:=
 Keep (fun j=>base≤j) w w'∧
 if 65328≤mk∧mk≤65343 then e=.returned (.bool true)∧WkG w' base V A n c zs x M m cm T ct acc tl
 else if two zs x<2∨(n:Int)-x<two zs x then e=.returned (.bool false)
 else e=.returned (.bool true)∧WkG w' base V A n c zs (x+(two zs x).toNat) M m cm T ct acc tl
theorem segment_any (w:World) (base V:Nat) (A:Option Addr) (n c:Nat) (zs:List Int) (x:Nat) (M:Option Addr) (m cm:Nat) (T:Option Addr) (ct:Nat) (acc:List (Int×Nat)) (tl:Bool) (mk:Int) (h:WkG w base V A n c zs x M m cm T ct acc tl):
 Calls Tryz.prog 45 #[.pointer (some ⟨V,0,none⟩),.int .i64 mk] w (SegP w base V A n c zs x M m cm T ct acc tl mk):=by
 have HW:=hid h
 have hbig:=h.big
 have hsz9:=h.size
 have hsize:=h.size
 have hat:=h.at_
 have htr:=two_range h.byt x
 clear h
 by_cases hk:65328≤mk
 · by_cases hk2:mk≤65343
   · have HP:=hid (show∀w',Keep (fun _=>False) w w'→WkG w' base V A n c zs x M m cm T ct acc tl→SegP w base V A n c zs x M m cm T ct acc tl mk (.returned (.bool true)) w' from fun w' k g=>⟨k.mono (fun _ _ h=>h.elim),by rw [if_pos ⟨hk,hk2⟩];exact⟨rfl,g⟩⟩)
     go_enter Tryz.func45,Tryz.ntmps45
     go_wp2_with fail
     go_ret
     exact HP.out _ (Keep.refl _ _) HW.out
   · have HP:=hid (show¬(65328≤mk∧mk≤65343)from fun h=>hk2 h.2)
     go_enter Tryz.func45,Tryz.ntmps45
     go_wp2_with fail
     refine(length_any w base V A n c zs x M m cm T ct acc tl HW.out).mono ?_
     rintro e w2 ⟨rfl,hw2,hk2⟩
     have HW2:=hid hw2
     have HK2:=hid hk2
     have q1:w2.cell? ⟨V,1,none⟩=some (.int .i64 x):=hw2.blk.cell 1
     have f1:w2.frozen? ⟨V,1,none⟩=false:=hw2.blk.frozen 1
     clear hw2 hk2 HW
     by_cases hz:2≤two zs x∧two zs x≤(n:Int)-x
     · have d1:decide (2≤two zs x)=true:=by simpa using hz.1
       have d2:decide (two zs x≤(n:Int)-x)=true:=by simpa using hz.2
       rw [d1,d2,if_neg (by omega)]
       have hx':(x:Int)+two zs x=((x+(two zs x).toNat:Nat):Int):=by omega
       have HF:=hid (show SegP w base V A n c zs x M m cm T ct acc tl mk (.returned (.bool true)) (w2.setCell ⟨V,1,none⟩ (.int .i64 ((x:Int)+two zs x)))from⟨by
        have:=HW2.out.vb
        exact(HK2.out.mono (fun _ _ h=>h.elim)).setCell (p:=⟨V,1,none⟩) (.inl this) _,by
        rw [if_neg HP.out,if_neg (by omega),hx']
        exact⟨rfl,HW2.out.goto _ (by omega) (by have:=HW2.out.few;omega)⟩⟩)
       have hwr:IntKind.i64.wrap ((x:Int)+two zs x)=(x:Int)+two zs x:=IntWalk.i64_in _ (by omega)
       clear hx' d1 d2
       generalize two zs x=z at*
       go_wp2_with fail
       go_ret
       exact HF.out
     · have d1:(decide (2≤two zs x)&&decide (two zs x≤(n:Int)-x))=false:=by
        rw [Bool.and_eq_false_iff]
        by_cases h2:2≤two zs x
        · right;simp;omega
        · left;simp;omega
       rw [d1]
       have HF:=hid (show SegP w base V A n c zs x M m cm T ct acc tl mk (.returned (.bool false)) w2 from⟨HK2.out.mono (fun _ _ h=>h.elim),by rw [if_neg HP.out,if_pos (by omega)]⟩)
       generalize (if n<x+2 then 0 else two zs x)=z
       go_wp2_with fail
       go_ret
       exact HF.out
 · have HP:=hid (show¬(65328≤mk∧mk≤65343)from fun h=>hk h.1)
   go_enter Tryz.func45,Tryz.ntmps45
   go_wp2_with fail
   refine(length_any w base V A n c zs x M m cm T ct acc tl HW.out).mono ?_
   rintro e w2 ⟨rfl,hw2,hk2⟩
   have HW2:=hid hw2
   have HK2:=hid hk2
   have q1:w2.cell? ⟨V,1,none⟩=some (.int .i64 x):=hw2.blk.cell 1
   have f1:w2.frozen? ⟨V,1,none⟩=false:=hw2.blk.frozen 1
   clear hw2 hk2 HW
   by_cases hz:2≤two zs x∧two zs x≤(n:Int)-x
   · have d1:decide (2≤two zs x)=true:=by simpa using hz.1
     have d2:decide (two zs x≤(n:Int)-x)=true:=by simpa using hz.2
     rw [d1,d2,if_neg (by omega)]
     have hx':(x:Int)+two zs x=((x+(two zs x).toNat:Nat):Int):=by omega
     have HF:=hid (show SegP w base V A n c zs x M m cm T ct acc tl mk (.returned (.bool true)) (w2.setCell ⟨V,1,none⟩ (.int .i64 ((x:Int)+two zs x)))from⟨by
      have:=HW2.out.vb
      exact(HK2.out.mono (fun _ _ h=>h.elim)).setCell (p:=⟨V,1,none⟩) (.inl this) _,by
      rw [if_neg HP.out,if_neg (by omega),hx']
      exact⟨rfl,HW2.out.goto _ (by omega) (by have:=HW2.out.few;omega)⟩⟩)
     have hwr:IntKind.i64.wrap ((x:Int)+two zs x)=(x:Int)+two zs x:=IntWalk.i64_in _ (by omega)
     clear hx' d1 d2
     generalize two zs x=z at*
     go_wp2_with fail
     go_ret
     exact HF.out
   · have d1:(decide (2≤two zs x)&&decide (two zs x≤(n:Int)-x))=false:=by
      rw [Bool.and_eq_false_iff]
      by_cases h2:2≤two zs x
      · right;simp;omega
      · left;simp;omega
     rw [d1]
     have HF:=hid (show SegP w base V A n c zs x M m cm T ct acc tl mk (.returned (.bool false)) w2 from⟨HK2.out.mono (fun _ _ h=>h.elim),by rw [if_neg HP.out,if_pos (by omega)]⟩)
     generalize (if n<x+2 then 0 else two zs x)=z
     go_wp2_with fail
     go_ret
     exact HF.out
end Go.Proofs.YthfogcgdijmaoaaGreat
