/-
  Part 5 of the proof: GramNum Canvas Rect Bounds Step. Conditions: those of the statements.
-/
import Derived.Test.YthfogcgdijmaoaaGreatJ2
import Derived.Test.YthfogcgdijmaoaaGreatJ3
import Derived.Test.YthfogcgdijmaoaaGreatJ4
import Derived.Deep.MidRow
import Derived.Deep.WholeRow
import Derived.WalkLawsBesides
set_option maxRecDepth 100000
set_option maxHeartbeats 16000000
set_option linter.unusedVariables false
set_option linter.unusedSimpArgs false
namespace Go.Proofs.YthfogcgdijmaoaaGreat
open Go.RowKit
def numU (zs:List Int):Int:=zs.foldl (fun a z=>a*256+z) 0
theorem or_byte (a z:Int) (ha:0≤a) (ha2:a<1099511627776) (hz:0≤z∧z≤255):bits .or .i64 (a*256) z=a*256+z:=by
 obtain⟨x,rfl⟩:=Int.eq_ofNat_of_zero_le ha
 obtain⟨y,rfl⟩:=Int.eq_ofNat_of_zero_le hz.1
 have e:((x:Int)*256)=((x*256:Nat):Int):=by omega
 rw [e,i64_or_nat (x*256) y (by omega) (by omega)]
 have h:=Nat.shiftLeft_add_eq_or_of_lt (a:=x) (b:=y) (i:=8) (by omega)
 rw [Nat.shiftLeft_eq]at h
 have e8:(2:Nat)^8=256:=rfl
 rw [e8]at h
 rw [← h]
 omega
theorem num_range : ∀(zs:List Int) (a:Int) (k:Nat),Bytes zs→0≤a→a<((256^k:Nat):Int)→0≤zs.foldl (fun a z=>a*256+z) a∧zs.foldl (fun a z=>a*256+z) a<((256^(k+zs.length):Nat):Int)
 |[],a,k,_,h0,h1=>⟨h0,h1⟩
 |z::zs,a,k,hb,h0,h1=>by
  have hz:=hb z (List.mem_cons_self ..)
  have e:(256:Nat)^(k+1)=256^k*256:=Nat.pow_succ ..
  have h:=num_range zs (a*256+z) (k+1) (fun y hy=>hb y (List.mem_cons_of_mem _ hy)) (by omega) (by omega)
  have e2:k+1+zs.length=k+(z::zs).length:=by simp;omega
  rw [e2]at h
  exact h
theorem numU_below {zs:List Int} (hb:Bytes zs) {k:Nat} (hn:zs.length≤k):0≤numU zs∧numU zs<((256^k:Nat):Int):=by
 have h:=num_range zs 0 0 hb (by omega) (by decide)
 have hp:256^(0+zs.length)≤256^k:=Nat.pow_le_pow_right (by omega) (by omega)
 unfold numU
 omega
theorem numU_range {zs:List Int} (hb:Bytes zs) (hn:zs.length≤4):0≤numU zs∧numU zs≤4294967295:=by
 have h:=numU_below hb hn
 have e:(256:Nat)^4=4294967296:=by decide +kernel
 rw [e]at h
 omega
theorem bytes_take {zs:List Int} (hb:Bytes zs) (k:Nat):Bytes (zs.take k):=fun z hz=>hb z (List.mem_of_mem_take hz)
theorem numU_take {zs:List Int} {i:Nat} (h:i<zs.length):numU (zs.take (i+1))=numU (zs.take i)*256+zs.getD i 0:=by
 unfold numU
 rw [List.take_add_one,List.foldl_append,List.getD_eq_getElem?_getD,List.getElem?_eq_getElem h]
 rfl
theorem number_any (w:World) (A:Option Addr) (n c:Nat) (zs:List Int) (hr:Rd w A n (zs.map (Value.int .u8))) (hby:Bytes zs) (hn:n≤4):
 Calls Tryz.prog 72 #[.slice A n c] w fun e w'=>e=.returned (.int .i64 (numU zs))∧w=w':=by
 have HR:=hid hr
 have HBY:=hid hby
 have hl:zs.length=n:=by have:=hr.len;simpa using this
 clear hr hby
 go_enter Tryz.func72,Tryz.ntmps72
 go_wp2_with fail
 go_loop [3,8] (fun u v=> ∃i:Nat,i≤n∧v=.int .i64 i∧u=.int .i64 (numU (zs.take i))) (fun _ v=>n-(intOf v).toNat)
 case atStart=>exact⟨0,by omega,rfl,rfl⟩
 case round=>
  obtain⟨i,hi,rfl,rfl⟩:=hrel
  by_cases hin:i<n
  · obtain⟨b,o,rfl,hz⟩:=HR.out.int_ix hin
    have hx:=HBY.out (zs.getD i 0) (by rw [List.getD_eq_getElem?_getD,List.getElem?_eq_getElem (by omega)];exact List.getElem_mem _)
    have hs:0≤numU (zs.take i)∧numU (zs.take i)≤16777215:=by
     have h:=numU_below (bytes_take HBY.out i) (k:=3) (by simp;omega)
     have e:(256:Nat)^3=16777216:=by decide +kernel
     rw [e]at h
     omega
    have hq:=or_byte (numU (zs.take i)) (zs.getD i 0) hs.1 (by omega) hx
    have HT:=hid (numU_take (zs:=zs) (i:=i) (by omega))
    generalize zs.getD i 0=x at*
    generalize numU (zs.take i)=a at*
    go_wp2_with fail
    exact⟨⟨i+1,by omega,by go_num,by rw [HT.out,←hq]⟩,by simp [intOf];omega⟩
  · obtain rfl:n=i:=by omega
    have e:zs.take n=zs:=List.take_of_length_le (by omega)
    rw [e]
    go_wp2_with fail
    go_ret
    exact⟨rfl,rfl⟩
def ceilI (a b:Int):Int:=if a<0 then -((-a)/b)else(a+b-1)/b
theorem within12_any (w:World) (x n:Int) (h0:-9223372036854775808≤x) (h1:x≤9223372036854775807) (hn:0<n) (hn2:n≤4294967296):
 Calls Tryz.prog 16 #[.int .i64 x,.int .i64 n] w fun e w'=>e=.returned (.int .i64 (x%n))∧w=w':=by
 obtain⟨t1,t2,t3,t4⟩:=tmod_fix x n hn
 have hz:(n==0)=false:=by simp;omega
 have hw:wrap64 (x.tmod n)=x.tmod n:=IntWalk.wrap64_in _ (by omega)
 have hw2:IntKind.i64.wrap (x.tmod n)=x.tmod n:=IntWalk.i64_in _ (by omega)
 by_cases hc:x.tmod n<0
 · have e:=t1 hc
   have HE:=hid e
   clear t1 t2 e
   go_enter Tryz.func16,Tryz.ntmps16
   go_wp2_with fail
   go_ret
   exact⟨by rw [← HE.out];rfl,rfl⟩
 · have e:=t2 (by omega)
   have HE:=hid e
   clear t1 t2 e
   go_enter Tryz.func16,Tryz.ntmps16
   go_wp2_with fail
   go_ret
   exact⟨by rw [← HE.out];rfl,rfl⟩
theorem ceilI_range {a b:Int} (ha:-1099511627776≤a) (ha2:a≤1099511627776) (hb:0<b):-1099511627776≤ceilI a b∧ceilI a b≤1099511627776:=by
 unfold ceilI
 split
 · have h1:=Int.ediv_nonneg (a:=-a) (b:=b) (by omega) (by omega)
   have h2:=Int.ediv_le_self b (a:=-a) (by omega)
   omega
 · have h1:=Int.ediv_nonneg (a:=a+b-1) (b:=b) (by omega) (by omega)
   have h2:(a+b-1)/b≤1099511627776:=by
    have:(a+b-1)/b<1099511627776+1:=Int.ediv_lt_of_lt_mul hb (by
     have:a*1≤1099511627776*b:=Int.mul_le_mul ha2 (by omega) (by omega) (by omega)
     omega)
    omega
   omega
theorem ceil_any (w:World) (a b:Int) (ha:-1099511627776≤a) (ha2:a≤1099511627776) (hb:0<b) (hb2:b≤1099511627776):
 Calls Tryz.prog 38 #[.int .i64 a,.int .i64 b] w fun e w'=>e=.returned (.int .i64 (ceilI a b))∧w=w':=by
 have hr:=ceilI_range ha ha2 hb
 have hz:(b==0)=false:=by simp;omega
 have hz2: ¬b=0:=by omega
 have hz3: ¬b=-1:=by omega
 by_cases h0:a<0
 · have hw1:IntKind.i64.wrap (0-a)=-a:=by rw [IntWalk.i64_in _ (by omega)];omega
   have hw1':IntKind.i64.wrap (-a)=-a:=IntWalk.i64_in _ (by omega)
   have ht:(-a).tdiv b=(-a)/b:=Int.tdiv_eq_ediv_of_nonneg (by omega)
   have hc:ceilI a b=-((-a)/b):=if_pos h0
   rw [hc]at hr
   have hw2:IntKind.i64.wrap ((-a)/b)=(-a)/b:=IntWalk.i64_in _ (by omega)
   have hw3:IntKind.i64.wrap (0-(-a)/b)=-((-a)/b):=by rw [IntWalk.i64_in _ (by omega)];omega
   have hw4:IntKind.i64.wrap (-((-a)/b))=-((-a)/b):=IntWalk.i64_in _ (by omega)
   have HC:=hid hc
   clear hc hr
   go_enter Tryz.func38,Tryz.ntmps38
   go_wp2_with fail
   go_ret
   exact⟨by rw [HC.out];rfl,rfl⟩
 · have hw1:IntKind.i64.wrap (a+b)=a+b:=IntWalk.i64_in _ (by omega)
   have hw2:IntKind.i64.wrap (a+b-1)=a+b-1:=IntWalk.i64_in _ (by omega)
   have ht:(a+b-1).tdiv b=(a+b-1)/b:=Int.tdiv_eq_ediv_of_nonneg (by omega)
   have hc:ceilI a b=(a+b-1)/b:=if_neg h0
   rw [hc]at hr
   have hw3:IntKind.i64.wrap ((a+b-1)/b)=(a+b-1)/b:=IntWalk.i64_in _ (by omega)
   have HC:=hid hc
   clear hc hr
   go_enter Tryz.func38,Tryz.ntmps38
   go_wp2_with fail
   go_ret
   exact⟨by rw [HC.out];rfl,rfl⟩
structure Rc where
 x0:Int
 y0:Int
 x1:Int
 y1:Int
def Rc.val (r:Rc):Value:=.agg #[.int .i64 r.x0,.int .i64 r.y0,.int .i64 r.x1,.int .i64 r.y1]
def Rc.fits (r:Rc) (B:Int):Prop:=(-B≤r.x0∧r.x0≤B)∧(-B≤r.y0∧r.y0≤B)∧(-B≤r.x1∧r.x1≤B)∧(-B≤r.y1∧r.y1≤B)
def Rc.area (r:Rc):Int:=max (r.x1-r.x0) 0*max (r.y1-r.y0) 0
theorem area_any (w:World) (r:Rc) (h:r.fits 16777216):
 Calls Tryz.prog 30 #[r.val] w fun e w'=>e=.returned (.int .i64 r.area)∧Keep (fun _=>False) w w':=by
 obtain⟨x0,y0,x1,y1⟩:=r
 obtain⟨h1,h2,h3,h4⟩:=h
 simp only at h1 h2 h3 h4
 have hb:=Blk.new w 63 #[.int .i64 x0,.int .i64 y0,.int .i64 x1,.int .i64 y1]
 have c0:=hb.cell 0
 have c1:=hb.cell 1
 have c2:=hb.cell 2
 have c3:=hb.cell 3
 simp at c0 c1 c2 c3
 have hw1:IntKind.i64.wrap (x1-x0)=x1-x0:=IntWalk.i64_in _ (by omega)
 have hw2:IntKind.i64.wrap (y1-y0)=y1-y0:=IntWalk.i64_in _ (by omega)
 have hp:0≤max (x1-x0) 0*max (y1-y0) 0∧max (x1-x0) 0*max (y1-y0) 0≤33554432*33554432:=⟨Int.mul_nonneg (by omega) (by omega),Int.mul_le_mul (by omega) (by omega) (by omega) (by omega)⟩
 have hw3:IntKind.i64.wrap (max (x1-x0) 0*max (y1-y0) 0)=max (x1-x0) 0*max (y1-y0) 0:=IntWalk.i64_in _ (by omega)
 have HK:=hid ((Keep.refl (fun _=>False) w).alloc (.cells #[.int .i64 x0,.int .i64 y0,.int .i64 x1,.int .i64 y1] 63))
 have HW3:=hid (show 0≤x1-x0→0≤y1-y0→wrap64 ((x1-x0)*(y1-y0))=(x1-x0)*(y1-y0)from fun h1 h2=>IntWalk.wrap64_in _ (by rw [show max (x1-x0) 0=x1-x0 by omega,show max (y1-y0) 0=y1-y0 by omega]at hp;omega))
 clear hp hw3
 unfold Rc.val Rc.area
 simp only
 rcases Int.lt_or_le (x1-x0) 0 with hA|hA<;>rcases Int.lt_or_le (y1-y0) 0 with hB|hB
 all_goals(
  go_enter Tryz.func30,Tryz.ntmps30
  go_wp2_with fail
  go_ret
  refine⟨?_,HK.out⟩
  first
  |exact congrArg (fun z=>Ending.returned (Value.int .i64 z)) (show(0:Int)=_ by rw [show max (x1-x0) 0=0 by omega];simp)
  |exact congrArg (fun z=>Ending.returned (Value.int .i64 z)) (show(0:Int)=_ by rw [show max (y1-y0) 0=0 by omega];simp)
  |exact congrArg (fun z=>Ending.returned (Value.int .i64 z)) (show wrap64 ((x1-x0)*(y1-y0))=_ by rw [show max (x1-x0) 0=x1-x0 by omega,show max (y1-y0) 0=y1-y0 by omega];exact HW3.out (by omega) (by omega)))
def halfI (d:Nat):Int:=((2^(d-1):Nat):Int)
def loB (d:Nat) (sg:Bool):Int:=if sg then -(halfI d)else 0
def hiB (d:Nat) (sg:Bool):Int:=if sg then halfI d-1 else 2*halfI d-1
theorem bounds_any (w:World) (d:Nat) (sg:Bool) (h1:1≤d) (h2:d≤10):
 Calls Tryz.prog 18 #[.int .i64 (d:Int),.bool sg] w fun e w'=>e=.returned (.tuple #[.int .i64 (loB d sg),.int .i64 (hiB d sg)])∧w=w':=by
 rcases (show d=1∨d=2∨d=3∨d=4∨d=5∨d=6∨d=7∨d=8∨d=9∨d=10 by omega)with rfl|rfl|rfl|rfl|rfl|rfl|rfl|rfl|rfl|rfl<;>cases sg
 all_goals(
  go_enter Tryz.func18,Tryz.ntmps18
  go_wp2_with fail
  refine bodyPost_ret (v:=.tuple #[_,_]) (by simp [results,Tryz.results18,go_sem];exact⟨rfl,rfl⟩) rfl ⟨rfl,rfl⟩)
theorem Blk.row {w:World} {g:Nat} {t:TypeId} {cs cs':Array Value} (h:Blk w g t cs):Blk (w.setRow g cs') g t cs':=by
 show(w.heap.modify g _)[g]?=_
 rw [Array.getElem?_modify,if_pos rfl,show w.heap[g]?=some (.cells cs t (0,0))from h]
 rfl
theorem Keep.row {S:Nat→Prop} {a w:World} (h:Keep S a w) {g:Nat} (hg:S g∨a.heap.size≤g) (cs:Array Value):Keep S a (w.setRow g cs):=by
 refine⟨h.os,h.tape,h.output,?_,?_⟩
 · have:=h.size
   show _≤(w.heap.modify g _).size
   rwa [Array.size_modify]
 · intro i hi hS
   show(w.heap.modify g _)[i]?=_
   have:g≠i:=fun e=>by
    subst e;rcases hg with hg|hg
    · exact hS hg
    · omega
   rw [Array.getElem?_modify,if_neg this]
   exact h.block i hi hS
theorem Blk.new1 (w:World) (o:Obj) (t:TypeId) (cs:Array Value):Blk ((w.alloc o).alloc (.cells cs t)) (w.heap.size+1) t cs:=by have:=Blk.new (w.alloc o) t cs;simpa using this
theorem Blk.new2 (w:World) (o o2:Obj) (t:TypeId) (cs:Array Value):Blk (((w.alloc o).alloc o2).alloc (.cells cs t)) (w.heap.size+2) t cs:=by have:=Blk.new1 (w.alloc o) o2 t cs;simpa [Nat.add_assoc]using this
theorem alloc_new {w wn:World} {cs:Array Value} {t:TypeId} (h:w.alloc (.cells cs t)=wn):Keep (fun _=>False) w wn∧Blk wn w.heap.size t cs:=by
 subst h
 exact⟨(Keep.refl _ w).alloc _,Blk.new w t cs⟩
theorem Keep.size' {S:Nat→Prop} {a w:World} (h:Keep S a w) {n:Nat} (hn:n≤a.heap.size):n≤w.heap.size:=Nat.le_trans hn h.size
theorem Blk.range {w:World} {g:Nat} {t:TypeId} {cs:Array Value} (h:Blk w g t cs):w.rangeAt g 0 cs.toList:=by
 intro j v hv
 rw [Nat.zero_add,h.cell]
 simpa using hv
theorem range_keep {w w':World} {b o:Nat} {cs:List Value} (h:w.rangeAt b o cs) {S:Nat→Prop} (hk:Keep S w w') (hS: ¬S b):w'.rangeAt b o cs:=
 fun j v hv=>hk.cell (h j v hv) hS
theorem ret_row {P:Program} {fn:Func} {p:Tmp} {ty:TypeId} (h:fn.results=#[.cell p ty]) (tmps:Array Value) (w:World) (g:Nat) (t:TypeId) (cs:Array Value) (d:TypeDesc)
 (hg:Blk w g t cs) (hp:tmps.getD p undef=.pointer (some ⟨g,0,none⟩))
 (hu:P.underlying ty=some d) (hd:(match d with|.struct _|.array _ _=>true|_=>false)=true) (hi:(P.info? ty).map (·.size)=some cs.size):
 (results fn tmps).run P w=.ok (.agg cs) w:=results_cell_row h tmps w g t cs (0,0) d hp hg hu hd hi
section
variable {P :Program} {ops:Array Oper} {Q:Exit→Act→World→Prop}
theorem wp_max {o:Oper} {a:Act} {w:World} {K:Act→World→Prop} (x y:Operand) (ts:Array TypeId) (ho:o.op=.call { callee:=.builtin .max,args:=#[x,y],argTypes:=ts })
 (p q:Int) (hx:a.eval x=.int .i64 p) (hy:a.eval y=.int .i64 q) (h:K (a.put o.dst (.int .i64 (max p q))) w):o.wp P a w K Q:=by
 have e:(if q>p then q else p)=max p q:=by split<;>omega
 unfold Oper.wp execOp
 simp only [ho,resolve,invoke,builtin,Sem.run_bind,Sem.run_pure,Result.andThen_ok,List.map_toArray,List.map_cons,List.map_nil,hx,hy,Builtin.max_,List.foldlM,Builtin.max2,e]
 exact h
theorem wp_min {o:Oper} {a:Act} {w:World} {K:Act→World→Prop} (x y:Operand) (ts:Array TypeId) (ho:o.op=.call { callee:=.builtin .min,args:=#[x,y],argTypes:=ts })
 (p q:Int) (hx:a.eval x=.int .i64 p) (hy:a.eval y=.int .i64 q) (h:K (a.put o.dst (.int .i64 (min p q))) w):o.wp P a w K Q:=by
 have e:(if q<p then q else p)=min p q:=by split<;>omega
 unfold Oper.wp execOp
 simp only [ho,resolve,invoke,builtin,Sem.run_bind,Sem.run_pure,Result.andThen_ok,List.map_toArray,List.map_cons,List.map_nil,hx,hy,Builtin.min_,List.foldlM,Builtin.min2,e]
 exact h
theorem wpList_max {rest:List Oper} {o:Oper} {a:Act} {w:World} (hgd:o.guard=none) (x y:Operand) (ts:Array TypeId) (ho:o.op=.call { callee:=.builtin .max,args:=#[x,y],argTypes:=ts })
 (p q:Int) (hx:a.eval x=.int .i64 p) (hy:a.eval y=.int .i64 q) (h:wpList P ops Q rest (a.put o.dst (.int .i64 (max p q))) w):wpList P ops Q (o::rest) a w:=
 wpList_plain hgd fun _ hK=>wp_max x y ts ho p q hx hy (hK _ _ h)
theorem wpList_min {rest:List Oper} {o:Oper} {a:Act} {w:World} (hgd:o.guard=none) (x y:Operand) (ts:Array TypeId) (ho:o.op=.call { callee:=.builtin .min,args:=#[x,y],argTypes:=ts })
 (p q:Int) (hx:a.eval x=.int .i64 p) (hy:a.eval y=.int .i64 q) (h:wpList P ops Q rest (a.put o.dst (.int .i64 (min p q))) w):wpList P ops Q (o::rest) a w:=
 wpList_plain hgd fun _ hK=>wp_min x y ts ho p q hx hy (hK _ _ h)
end
section
variable {P :Program} {ops:Array Oper} {Q:Exit→Act→World→Prop} {md:Region.Mode}
theorem At.two_all (i j:Nat) {oi oj:Oper} {f:Nat} {pend:List (Nat×(World→Prop))} {L:Array Bool} {a:Act} {w:World} (hi:ops[i]?=some oi) (hj:ops[j]?=some oj) (hr:(Region.ready md ops L==[i,j])=true)
 (hwi:Region.wanted oi (yielded ops a.tmps)=true) (hwj:Region.wanted oj (yielded ops a.tmps)=true)
 (h1: ∀K:Act→World→Prop,(∀ a' w',(∀ p∈pend,p.2 w')→At P md ops Q f pend (L.setIfInBounds i true) a' w'→K a' w')→Oper.wp P oi a w K Q)
 (h2: ∀K:Act→World→Prop,(∀ a' w',(∀ p∈pend,p.2 w')→At P md ops Q f pend (L.setIfInBounds j true) a' w'→K a' w')→Oper.wp P oj a w K Q):At P md ops Q (f+1) pend L a w:=by
 intro hp
 have hr':Region.ready md ops L=[i,j]:=by simpa using hr
 have one: ∀(k:Nat) (ok:Oper),ops[k]?=some ok→Region.wanted ok (yielded ops a.tmps)=true→
  (∀ K:Act→World→Prop,(∀ a' w',(∀ p∈pend,p.2 w')→At P md ops Q f pend (L.setIfInBounds k true) a' w'→K a' w')→Oper.wp P ok a w K Q)→
  wpOp P ops Q k (fun a' w'=>(∀ p∈pend,tdep md ops ops.size k p.1=false→p.2 w')∧wpP P md ops Q f (pend.filter fun p=>!tdep md ops ops.size k p.1) (L.setIfInBounds k true) a' w') a w:=fun k ok hk hw h=>by
  have hh:=h (fun a' w'=>(∀ p∈pend,tdep md ops ops.size k p.1=false→p.2 w')∧wpP P md ops Q f (pend.filter fun p=>!tdep md ops ops.size k p.1) (L.setIfInBounds k true) a' w') (fun a' w' hq hA=>
   ⟨fun p hp1 _=>hq p hp1,wpP_mono f pend _ _ a' w' (fun p hp1=>(List.mem_filter.1 hp1).1) (hA hq)⟩)
  unfold wpOp
  simp only [hk,hw,if_true]
  exact .inl hh
 refine⟨fun h0=>(by rw [hr']at h0;cases h0),fun k hk=>?_⟩
 rw [hr']at hk
 rcases List.mem_cons.1 hk with rfl|hk
 · exact one _ oi hi hwi h1
 · obtain rfl:k=j:=by simpa using hk
   exact one _ oj hj hwj h2
theorem run_load1 {w:World} {ty:TypeId} {d:TypeDesc} {p:Addr} {v:Value} (hu:P.underlying ty=some d) (hd:d.isRow=false) (hc:w.cell? p=some v):(Instr.loadAt ty (.pointer (some p))).run P w=.ok v w:=by
 have hagg:(isAgg ty).run P w=.ok false w:=by
  unfold isAgg
  rw [Sem.run_bind,run_underlying hu w]
  cases d<;>simp_all [TypeDesc.isRow]
 simp [Instr.loadAt,Instr.sureAddr,loadVar,Sem.run_bind,hagg,hc]
theorem At.load (i:Nat) (d:Option Tmp) {oi:Oper} {ty:TypeId} {x:Operand} {td:TypeDesc} {p:Addr} {v:Value} {f:Nat} {pend:List (Nat×(World→Prop))} {L:Array Bool} {a:Act} {w:World} (hi:ops[i]?=some oi) (hd:oi.dst=d) (hb:takeB md ops L i=true)
 (hQ: ∀c a w,Q (.panic c) (a.put d v) w→Q (.panic c) a w) (hw:Region.wanted oi (yielded ops a.tmps)=true) (ho:oi.op=.load ty x) (hu:P.underlying ty=some td) (hr:td.isRow=false) (hx:a.eval x=.pointer (some p)) (hc:w.cell? p=some v)
 (h:At P md ops Q f ((i,fun w'=>w'.cell? p=some v)::pend) (L.setIfInBounds i true) (a.put d v) w):At P md ops Q (f+1) pend L a w:=
 At.read i d (fun w'=>w'.cell? p=some v) hi hd hb hQ hw hc (fun w' hc'=>by
  unfold execOp
  simp only [ho,hx,Sem.run_bind,run_load1 hu hr hc',Result.andThen_ok,Sem.run_pure]) h
theorem At.loadRow (i:Nat) (d:Option Tmp) {oi:Oper} {ty:TypeId} {x:Operand} {td:TypeDesc} {b o:Nat} {cs:List Value} {f:Nat} {pend:List (Nat×(World→Prop))} {L:Array Bool} {a:Act} {w:World} (hi:ops[i]?=some oi) (hd:oi.dst=d) (hb:takeB md ops L i=true)
 (hQ: ∀c a w,Q (.panic c) (a.put d (.agg cs.toArray)) w→Q (.panic c) a w) (hw:Region.wanted oi (yielded ops a.tmps)=true) (ho:oi.op=.load ty x) (hu:P.underlying ty=some td) (hr:td.isRow=true) (hx:a.eval x=.pointer (some ⟨b,o,none⟩)) (hc:w.rangeAt b o cs) (hs:(P.info? ty).map (·.size)=some cs.length)
 (h:At P md ops Q f ((i,fun w'=>w'.rangeAt b o cs)::pend) (L.setIfInBounds i true) (a.put d (.agg cs.toArray)) w):At P md ops Q (f+1) pend L a w:=
 At.read i d (fun w'=>w'.rangeAt b o cs) hi hd hb hQ hw hc (fun w' hc'=>by
  unfold execOp
  simp only [ho,hx,Instr.loadAt,Instr.sureAddr,Sem.run_bind,Sem.run_pure,Result.andThen_ok,run_loadVar_mid w' b o ty cs td hc' hu hr hs]) h
theorem AtL (i:Nat) (d:Option Tmp) {oi:Oper} {ty:TypeId} {x:Operand} {td:TypeDesc} {p:Addr} {v:Value} {f:Nat} {pend:List (Nat×(World→Prop))} {L:Array Bool} {a:Act} {w:World} (hu:P.underlying ty=some td)
 (h:At P md ops Q f ((i,fun w'=>w'.cell? p=some v)::pend) (L.setIfInBounds i true) (a.put d v) w) (hi:ops[i]?=some oi:=by exact rfl) (hd:oi.dst=d:=by exact rfl) (hb:takeB md ops L i=true:=by kernel_rfl)
 (hQ: ∀c a w,Q (.panic c) (a.put d v) w→Q (.panic c) a w:=by exact fun _ _ _ h=>h) (hw:Region.wanted oi (yielded ops a.tmps)=true:=by exact rfl) (ho:oi.op=.load ty x:=by exact rfl) (hr:td.isRow=false:=by exact rfl) (hx:a.eval x=.pointer (some p):=by exact rfl) (hc:w.cell? p=some v:=by assumption):At P md ops Q (f+1) pend L a w:=
 At.load i d hi hd hb hQ hw ho hu hr hx hc h
theorem AtR (i:Nat) (d:Option Tmp) {oi:Oper} {ty:TypeId} {x:Operand} {td:TypeDesc} {b o:Nat} {cs:List Value} {f:Nat} {pend:List (Nat×(World→Prop))} {L:Array Bool} {a:Act} {w:World} (hu:P.underlying ty=some td)
 (h:At P md ops Q f ((i,fun w'=>w'.rangeAt b o cs)::pend) (L.setIfInBounds i true) (a.put d (.agg cs.toArray)) w) (hi:ops[i]?=some oi:=by exact rfl) (hd:oi.dst=d:=by exact rfl) (hb:takeB md ops L i=true:=by kernel_rfl)
 (hQ: ∀c a w,Q (.panic c) (a.put d (.agg cs.toArray)) w→Q (.panic c) a w:=by exact fun _ _ _ h=>h) (hw:Region.wanted oi (yielded ops a.tmps)=true:=by exact rfl) (ho:oi.op=.load ty x:=by exact rfl) (hr:td.isRow=true:=by exact rfl) (hx:a.eval x=.pointer (some ⟨b,o,none⟩):=by exact rfl) (hc:w.rangeAt b o cs:=by assumption) (hs:(P.info? ty).map (·.size)=some cs.length:=by kernel_rfl):At P md ops Q (f+1) pend L a w:=
 At.loadRow i d hi hd hb hQ hw ho hu hr hx hc hs h
theorem At.max (i:Nat) (d:Option Tmp) {oi:Oper} {x y:Operand} {ts:Array TypeId} {p q:Int} {f:Nat} {pend:List (Nat×(World→Prop))} {L:Array Bool} {a:Act} {w:World} (hi:ops[i]?=some oi) (hd:oi.dst=d) (hb:takeB md ops L i=true)
 (hQ: ∀c a w,Q (.panic c) (a.put d (.int .i64 (Max.max p q))) w→Q (.panic c) a w) (hw:Region.wanted oi (yielded ops a.tmps)=true) (ho:oi.op=.call { callee:=.builtin .max,args:=#[x,y],argTypes:=ts }) (hx:a.eval x=.int .i64 p) (hy:a.eval y=.int .i64 q)
 (h:At P md ops Q f ((i,fun _=>True)::pend) (L.setIfInBounds i true) (a.put d (.int .i64 (Max.max p q))) w):At P md ops Q (f+1) pend L a w:=
 At.read i d (fun _=>True) hi hd hb hQ hw trivial (fun w' _=>by
  have e:(if q>p then q else p)=Max.max p q:=by split<;>omega
  unfold execOp
  simp only [ho,resolve,invoke,builtin,Sem.run_bind,Sem.run_pure,Result.andThen_ok,List.map_toArray,List.map_cons,List.map_nil,hx,hy,Builtin.max_,List.foldlM,Builtin.max2,e]) h
theorem At.min (i:Nat) (d:Option Tmp) {oi:Oper} {x y:Operand} {ts:Array TypeId} {p q:Int} {f:Nat} {pend:List (Nat×(World→Prop))} {L:Array Bool} {a:Act} {w:World} (hi:ops[i]?=some oi) (hd:oi.dst=d) (hb:takeB md ops L i=true)
 (hQ: ∀c a w,Q (.panic c) (a.put d (.int .i64 (Min.min p q))) w→Q (.panic c) a w) (hw:Region.wanted oi (yielded ops a.tmps)=true) (ho:oi.op=.call { callee:=.builtin .min,args:=#[x,y],argTypes:=ts }) (hx:a.eval x=.int .i64 p) (hy:a.eval y=.int .i64 q)
 (h:At P md ops Q f ((i,fun _=>True)::pend) (L.setIfInBounds i true) (a.put d (.int .i64 (Min.min p q))) w):At P md ops Q (f+1) pend L a w:=
 At.read i d (fun _=>True) hi hd hb hQ hw trivial (fun w' _=>by
  have e:(if q<p then q else p)=Min.min p q:=by split<;>omega
  unfold execOp
  simp only [ho,resolve,invoke,builtin,Sem.run_bind,Sem.run_pure,Result.andThen_ok,List.map_toArray,List.map_cons,List.map_nil,hx,hy,Builtin.min_,List.foldlM,Builtin.min2,e]) h
end
end Go.Proofs.YthfogcgdijmaoaaGreat
