/-
  Part 4 of the proof: Region Region2 WalkM FormS. Conditions: those of the statements.
-/
import Derived.Test.YthfogcgdijmaoaaGreatJ1
import Derived.OrdersHeld
set_option maxRecDepth 100000
set_option maxHeartbeats 16000000
set_option linter.unusedVariables false
set_option linter.unusedSimpArgs false
namespace Go.Proofs.YthfogcgdijmaoaaGreat
open Go.RowKit
section
variable {P :Program} {ops:Array Oper} {Q:Exit→Act→World→Prop} {md:Region.Mode}
def Waits (md:Region.Mode) (o:Oper) (L:Array Bool):Prop:= ∀e∈o.after,Region.binds md e=true→L.getD e.on false=true
def tdep (md:Region.Mode) (ops:Array Oper):Nat→Nat→Nat→Bool
 |0,_,_=>false
 |f+1,j,i=>match ops[j]? with
  |some o=>o.after.any fun e=>Region.binds md e&&(e.on==i||tdep md ops f e.on i)
  |none=>false
def Closed (md:Region.Mode) (ops:Array Oper) (L:Array Bool):Prop:= ∀j o,ops[j]?=some o→L.getD j false=true→Waits md o L
def closedB (md:Region.Mode) (ops:Array Oper) (L:Array Bool):Bool:=
 (List.range ops.size).all fun j=>!L.getD j false||match ops[j]? with
  |some o=>o.after.all fun e=>!Region.binds md e||L.getD e.on false
  |none=>true
theorem closed_of {L:Array Bool} (h:closedB md ops L=true):Closed md ops L:=by
 intro j o hj hl e he hb
 have h1:=List.all_eq_true.1 h j (List.mem_range.2 (Array.getElem?_eq_some_iff.1 hj).1)
 simp only [hl,Bool.not_true,Bool.false_or,hj]at h1
 have h2:=Array.all_eq_true_iff_forall_mem.1 h1 e he
 simpa [hb]using h2
theorem tdep_sound {L:Array Bool} (hc:Closed md ops L): ∀(f j i:Nat) (o:Oper),ops[j]?=some o→Waits md o L→tdep md ops f j i=true→L.getD i false=true:=by
 intro f
 induction f with
 |zero=>intro j i o _ _ h;simp [tdep]at h
 |succ f ih=>
  intro j i o hj hw h
  simp only [tdep,hj]at h
  obtain⟨e,he,hb⟩:=Array.any_eq_true'.1 h
  simp only [Bool.and_eq_true,Bool.or_eq_true,beq_iff_eq]at hb
  have hl:=hw e he hb.1
  rcases hb.2 with h1|h1
  · rw [← h1];exact hl
  · cases ho:ops[e.on]? with
    |none=>
     cases f with
     |zero=>simp [tdep]at h1
     |succ f=>simp [tdep,ho]at h1
    |some o'=>exact ih e.on i o' ho (hc _ _ ho hl) h1
def wpP (P:Program) (md:Region.Mode) (ops:Array Oper) (Q:Exit→Act→World→Prop):Nat→List (Nat×(World→Prop))→Array Bool→Act→World→Prop
 |0,_,L,a,w=>Region.ready md ops L=[]∧Q .normal a w
 |f+1,pend,L,a,w=>
  (Region.ready md ops L=[]→Q .normal a w)∧
  ∀j∈Region.ready md ops L,wpOp P ops Q j (fun a' w'=>(∀ p∈pend,tdep md ops ops.size j p.1=false→p.2 w')∧
   wpP P md ops Q f (pend.filter fun p=>!tdep md ops ops.size j p.1) (L.setIfInBounds j true) a' w') a w
theorem wpAny_of_wpP : ∀(f:Nat) (pend:List (Nat×(World→Prop))) (L:Array Bool) (a:Act) (w:World),wpP P md ops Q f pend L a w→wpAny P md ops Q f L a w
 |0,_,_,_,_,h=>h
 |f+1,_,_,_,_,h=>⟨h.1,fun j hj=>wpOp_mono (fun a' w' h'=>wpAny_of_wpP f _ _ a' w' h'.2) (h.2 j hj)⟩
theorem wp_region_P {id:Nat} {a:Act} {w:World} (hm:P.follows .mixedOrders=true) (h:wpP P .any ops Q ops.size [] (Array.replicate ops.size false) a w.drew):(Code.region id ops true).wp P Q a w:=
 wp_region_any hm (wpAny_of_wpP _ _ _ _ _ h)
theorem wpP_mono : ∀(f:Nat) (pend pend':List (Nat×(World→Prop))) (L:Array Bool) (a:Act) (w:World),(∀ p∈pend',p∈pend)→wpP P md ops Q f pend L a w→wpP P md ops Q f pend' L a w
 |0,_,_,_,_,_,_,h=>h
 |f+1,pend,pend',L,a,w,hs,h=>⟨h.1,fun j hj=>wpOp_mono (fun a' w' h'=>⟨fun p hp=>h'.1 p (hs p hp),wpP_mono f _ _ _ a' w' (fun p hp=>by
  simp only [List.mem_filter]at hp ⊢
  exact⟨hs p hp.1,hp.2⟩) h'.2⟩) (h.2 j hj)⟩
theorem closed_set {j:Nat} {o:Oper} {L:Array Bool} (hc:Closed md ops L) (hj:ops[j]?=some o) (hw:Waits md o L):Closed md ops (L.setIfInBounds j true):=by
 intro k ok hk hl e he hb
 by_cases hkj:j=k
 · subst hkj
   rw [hj]at hk
   injection hk with hk
   subst hk
   exact getD_set_true (hw e he hb)
 · rw [getD_set_ne false hkj]at hl
   exact getD_set_true (hc k ok hk hl e he hb)
theorem wpP_first {i:Nat} {oi:Oper} {v:Value} {T:World→Prop} (hi:ops[i]?=some oi) (hsel: ∀(j:Nat) (o:Oper) cs b,ops[j]?=some o→o.op≠.select cs b)
 (hQ: ∀c a w,Q (.panic c) (a.put oi.dst v) w→Q (.panic c) a w):
 ∀(f:Nat) (pend:List (Nat×(World→Prop))) (L:Array Bool) (a:Act) (w:World),Closed md ops L→
  (∀ j oj,ops[j]?=some oj→j≠i→L.getD j true=false→(∀ e∈oj.after,Region.binds md e=true→e.on≠i)→oi.apart ops oj=true)→
  i∈Region.ready md ops L→YieldsIf P ops T oi v a→T w→(∀ p∈pend,p.2 w)→
  wpP P md ops Q f ((i,T)::pend) (L.setIfInBounds i true) (a.put oi.dst v) w→wpP P md ops Q (f+1) pend L a w:=by
 intro f
 induction f with
 |zero=>
  intro pend L a w _ _ hr hy hT hp H
  refine⟨fun h=>(by rw [h]at hr;cases hr),fun j hj=>?_⟩
  by_cases hji:j=i
  · subst hji;exact hy.wpOp hi hT ⟨fun p hp' _=>hp p hp',H⟩
  · have:=ready_mono hj hji
    rw [H.1]at this
    cases this
 |succ f ih=>
  intro pend L a w hc hfree hr hy hT hp H
  refine⟨fun h=>(by rw [h]at hr;cases hr),fun j hj=>?_⟩
  by_cases hji:j=i
  · subst hji
    exact hy.wpOp hi hT ⟨fun p hp' _=>hp p hp',wpP_mono _ _ _ _ _ _ (fun p hp'=>List.mem_cons_of_mem _ (List.mem_filter.1 hp').1) H⟩
  · have h1:=H.2 j (ready_mono hj hji)
    obtain⟨hjun,oj,hoj,hall⟩:=mem_ready.1 hj
    have hil: ¬L.getD i false=true:=by
     intro h1
     have h0:=(mem_ready.1 hr).1
     rcases Nat.lt_or_ge i L.size with h'|h'
     · simp [h']at h0 h1;rw [h0]at h1;cases h1
     · simp [Array.getElem?_eq_none h']at h1
    have hnot: ∀e∈oj.after,Region.binds md e=true→e.on≠i:=fun e he hb heq=>hil (by rw [← heq];exact hall e he hb)
    have htd:tdep md ops ops.size j i=false:=by
     cases h:tdep md ops ops.size j i with
     |false=>rfl
     |true=>exact absurd (tdep_sound hc _ _ _ _ hoj hall h) hil
    have h2:=wpOp_putIf hoj (hfree j oj hoj hji hjun hnot) (fun cs b=>hsel i oi cs b hi) (fun cs b=>hsel j oj cs b hoj) hQ hy h1
    have hfree': ∀k ok,ops[k]?=some ok→k≠i→(L.setIfInBounds j true).getD k true=false→
     (∀ e∈ok.after,Region.binds md e=true→e.on≠i)→oi.apart ops ok=true:=fun k ok hk hki hun hno=>by
     refine hfree k ok hk hki ?_ hno
     by_cases hjk:j=k
     · subst hjk;exact hjun
     · rw [getD_set_ne true hjk]at hun;exact hun
    refine wpOp_mono (fun a' w' h3=>?_) h2
    obtain⟨hy',hobl,hw'⟩:=h3
    refine⟨fun p hp'=>hobl p (List.mem_cons_of_mem _ hp'),?_⟩
    refine ih _ (L.setIfInBounds j true) a' w' (closed_set hc hoj hall) hfree' (ready_mono hr (Ne.symm hji)) hy' (hobl (i,T) (List.mem_cons_self ..) htd) (fun p hp'=>?_) ?_
    · rw [List.mem_filter]at hp'
      exact hobl p (List.mem_cons_of_mem _ hp'.1) (by simpa using hp'.2)
    · rw [Array.setIfInBounds_comm _ _ hji]
      rw [List.filter_cons_of_pos (by simp [htd])]at hw'
      exact hw'
theorem wpP_add_true : ∀(f:Nat) (i:Nat) (pend:List (Nat×(World→Prop))) (L:Array Bool) (a:Act) (w:World),wpP P md ops Q f pend L a w→wpP P md ops Q f ((i,fun _=>True)::pend) L a w
 |0,_,_,_,_,_,h=>h
 |f+1,i,pend,L,a,w,h=>⟨h.1,fun j hj=>wpOp_mono (fun a' w' h'=>⟨fun p hp ht=>by
  rcases List.mem_cons.1 hp with rfl|hp
  · trivial
  · exact h'.1 p hp ht,by
  rw [List.filter_cons]
  split
  · exact wpP_add_true f i _ _ a' w' h'.2
  · exact h'.2⟩) (h.2 j hj)⟩
def At (P:Program) (md:Region.Mode) (ops:Array Oper) (Q:Exit→Act→World→Prop) (f:Nat) (pend:List (Nat×(World→Prop))) (L:Array Bool) (a:Act) (w:World):Prop:=
 (∀ p∈pend,p.2 w)→wpP P md ops Q f pend L a w
def takeB (md:Region.Mode) (ops:Array Oper) (L:Array Bool) (i:Nat):Bool:=
 Region.noSelect ops&&Region.free md ops L i&&(Region.ready md ops L).contains i&&closedB md ops L
theorem At.start {L:Array Bool} {id:Nat} {a:Act} {w:World} (hm:P.follows .mixedOrders=true) (hL:L=Array.replicate ops.size false) (h:At P .any ops Q ops.size [] L a w.drew):(Code.region id ops true).wp P Q a w:=
 wp_region_P hm (by subst hL;exact h (fun _ hp=>by cases hp))
theorem all_nil {w:World}: ∀p∈([]:List (Nat×(World→Prop))),p.2 w:=fun _ h=>by cases h
theorem all_cons {w:World} {i:Nat} {T:World→Prop} {l:List (Nat×(World→Prop))} (h:T w) (hl: ∀p∈l,p.2 w): ∀p∈(i,T)::l,p.2 w:=fun p hp=>by
 rcases List.mem_cons.1 hp with rfl|hp
 · exact h
 · exact hl p hp
theorem At.pure (i:Nat) (d:Option Tmp) {oi:Oper} {v:Value} {f:Nat} {pend:List (Nat×(World→Prop))} {L:Array Bool} {a:Act} {w:World} (hi:ops[i]?=some oi) (hd:oi.dst=d) (hb:takeB md ops L i=true)
 (hQ: ∀c a w,Q (.panic c) (a.put d v) w→Q (.panic c) a w) (hw:Region.wanted oi (yielded ops a.tmps)=true) (hy: ∀w',(execOp a.eval oi).run P w'=.ok (.value v) w')
 (h:At P md ops Q f pend (L.setIfInBounds i true) (a.put d v) w):At P md ops Q (f+1) pend L a w:=by
 subst hd
 intro hp
 simp only [takeB,Bool.and_eq_true]at hb
 refine wpP_first (T:=fun _=>True) hi (Region.noSelect_spec hb.1.1.1) hQ f pend L a w (closed_of hb.2) (Region.free_spec hi hb.1.1.2) (by simpa using hb.1.2) (.inl ⟨hw,fun w' _=>hy w'⟩) trivial hp ?_
 exact(wpP_add_true f i pend _ _ w (h hp))
theorem At.skip (i:Nat) (d:Option Tmp) {oi:Oper} {f:Nat} {pend:List (Nat×(World→Prop))} {L:Array Bool} {a:Act} {w:World} (hi:ops[i]?=some oi) (hd:oi.dst=d) (hb:takeB md ops L i=true)
 (hQ: ∀c a w,Q (.panic c) (a.put d undef) w→Q (.panic c) a w) (hw:Region.wanted oi (yielded ops a.tmps)=false)
 (h:At P md ops Q f pend (L.setIfInBounds i true) (a.put d undef) w):At P md ops Q (f+1) pend L a w:=by
 subst hd
 intro hp
 simp only [takeB,Bool.and_eq_true]at hb
 refine wpP_first (T:=fun _=>True) hi (Region.noSelect_spec hb.1.1.1) hQ f pend L a w (closed_of hb.2) (Region.free_spec hi hb.1.1.2) (by simpa using hb.1.2) (.inr ⟨hw,rfl⟩) trivial hp ?_
 exact(wpP_add_true f i pend _ _ w (h hp))
theorem At.read (i:Nat) (d:Option Tmp) (T:World→Prop) {oi:Oper} {v:Value} {f:Nat} {pend:List (Nat×(World→Prop))} {L:Array Bool} {a:Act} {w:World} (hi:ops[i]?=some oi) (hd:oi.dst=d) (hb:takeB md ops L i=true)
 (hQ: ∀c a w,Q (.panic c) (a.put d v) w→Q (.panic c) a w) (hw:Region.wanted oi (yielded ops a.tmps)=true) (hT:T w) (hy: ∀w',T w'→(execOp a.eval oi).run P w'=.ok (.value v) w')
 (h:At P md ops Q f ((i,T)::pend) (L.setIfInBounds i true) (a.put d v) w):At P md ops Q (f+1) pend L a w:=by
 subst hd
 intro hp
 simp only [takeB,Bool.and_eq_true]at hb
 refine wpP_first (T:=T) hi (Region.noSelect_spec hb.1.1.1) hQ f pend L a w (closed_of hb.2) (Region.free_spec hi hb.1.1.2) (by simpa using hb.1.2) (.inl ⟨hw,hy⟩) hT hp ?_
 refine h (fun p hp'=>?_)
 rcases List.mem_cons.1 hp' with rfl|hp'
 · exact hT
 · exact hp p hp'
theorem At.call (j:Nat) {oj:Oper} {f:Nat} {pend pend':List (Nat×(World→Prop))} {L:Array Bool} {a:Act} {w:World} (hj:ops[j]?=some oj) (hr:(Region.ready md ops L==[j])=true)
 (hw:Region.wanted oj (yielded ops a.tmps)=true) (hp':(pend.filter fun p=>!tdep md ops ops.size j p.1)=pend')
 (h: ∀K:Act→World→Prop,(∀ a' w',(∀ p∈pend',p.2 w')→At P md ops Q f pend' (L.setIfInBounds j true) a' w'→K a' w')→Oper.wp P oj a w K Q):At P md ops Q (f+1) pend L a w:=by
 intro hp
 have hr':Region.ready md ops L=[j]:=by simpa using hr
 refine⟨fun h0=>(by rw [hr']at h0;cases h0),fun k hk=>?_⟩
 rw [hr']at hk
 have hk':k=j:=by simpa using hk
 subst hk'
 have hh:=h (fun a' w'=>(∀ p∈pend,tdep md ops ops.size k p.1=false→p.2 w')∧wpP P md ops Q f (pend.filter fun p=>!tdep md ops ops.size k p.1) (L.setIfInBounds k true) a' w') (fun a' w' hq hA=>by
  refine⟨fun p hp1 ht=>hq p (by rw [← hp',List.mem_filter];exact⟨hp1,by simp [ht]⟩),?_⟩
  rw [hp']
  exact hA hq)
 unfold wpOp
 simp only [hj,hw,if_true]
 exact .inl hh
theorem At.done {f:Nat} {pend:List (Nat×(World→Prop))} {L:Array Bool} {a:Act} {w:World} (hr:(Region.ready md ops L==[])=true) (h:Q .normal a w):At P md ops Q f pend L a w:=by
 intro _
 have hr':Region.ready md ops L=[]:=by simpa using hr
 cases f with
 |zero=>exact⟨hr',h⟩
 |succ f=>exact⟨fun _=>h,fun j hj=>by rw [hr']at hj;cases hj⟩
theorem AtP (i:Nat) (d:Option Tmp) {oi:Oper} {v:Value} {f:Nat} {pend:List (Nat×(World→Prop))} {L:Array Bool} {a:Act} {w:World}
 (h:At P md ops Q f pend (L.setIfInBounds i true) (a.put d v) w) (hi:ops[i]?=some oi:=by exact rfl) (hd:oi.dst=d:=by exact rfl) (hb:takeB md ops L i=true:=by kernel_rfl)
 (hQ: ∀c a w,Q (.panic c) (a.put d v) w→Q (.panic c) a w:=by exact fun _ _ _ h=>h) (hw:Region.wanted oi (yielded ops a.tmps)=true:=by exact rfl) (hy: ∀w',(execOp a.eval oi).run P w'=.ok (.value v) w':=by intro w';go_simp;try with_reducible rfl):At P md ops Q (f+1) pend L a w:=At.pure i d hi hd hb hQ hw hy h
theorem AtC (j:Nat) {oj:Oper} {f:Nat} {pend:List (Nat×(World→Prop))} {L:Array Bool} {a:Act} {w:World}
 (h: ∀K:Act→World→Prop,(∀ a' w',(∀ p∈([]:List (Nat×(World→Prop))),p.2 w')→At P md ops Q f [] (L.setIfInBounds j true) a' w'→K a' w')→Oper.wp P oj a w K Q) (hj:ops[j]?=some oj:=by exact rfl) (hr:(Region.ready md ops L==[j])=true:=by kernel_rfl)
 (hw:Region.wanted oj (yielded ops a.tmps)=true:=by exact rfl) (hp':(pend.filter fun p=>!tdep md ops ops.size j p.1)=[]:=by kernel_rfl):At P md ops Q (f+1) pend L a w:=At.call j hj hr hw hp' h
theorem NS :(∀ (a:Act) (d:Tmp) (v:Value),a.put (some d) v={ a with tmps:=a.tmps.setIfInBounds d v })∧(∀ (a:Act) (v:Value),a.put none v=a)∧(∀ (l:List Value) (i:Nat) (v:Value),l.toArray.setIfInBounds i v=(l.set i v).toArray)∧(∀ (l:List Bool) (i:Nat) (v:Bool),l.toArray.setIfInBounds i v=(l.set i v).toArray)∧(∀ (l:List Value) (x v:Value),(x::l).set 0 v=v::l)∧(∀ (l:List Bool) (x v:Bool),(x::l).set 0 v=v::l)∧(∀ (l:List Value) (x v:Value) (i:Nat),(x::l).set (i+1) v=x::l.set i v)∧(∀ (l:List Bool) (x v:Bool) (i:Nat),(x::l).set (i+1) v=x::l.set i v):=
 ⟨fun _ _ _=>rfl,fun _ _=>rfl,fun _ _ _=>List.setIfInBounds_toArray ..,fun _ _ _=>List.setIfInBounds_toArray ..,fun _ _ _=>rfl,fun _ _ _=>rfl,fun _ _ _ _=>rfl,fun _ _ _ _=>rfl⟩
end
theorem At.two {P:Program} {ops:Array Oper} {Q:Exit→Act→World→Prop} {md:Region.Mode} (i j:Nat) {oi oj:Oper} {f:Nat} {pend pi pj:List (Nat×(World→Prop))} {L:Array Bool} {a:Act} {w:World} (hi:ops[i]?=some oi) (hj:ops[j]?=some oj) (hr:(Region.ready md ops L==[i,j])=true)
 (hwi:Region.wanted oi (yielded ops a.tmps)=true) (hwj:Region.wanted oj (yielded ops a.tmps)=true) (hpi:(pend.filter fun p=>!tdep md ops ops.size i p.1)=pi) (hpj:(pend.filter fun p=>!tdep md ops ops.size j p.1)=pj)
 (h1: ∀K:Act→World→Prop,(∀ a' w',(∀ p∈pi,p.2 w')→At P md ops Q f pi (L.setIfInBounds i true) a' w'→K a' w')→Oper.wp P oi a w K Q)
 (h2: ∀K:Act→World→Prop,(∀ a' w',(∀ p∈pj,p.2 w')→At P md ops Q f pj (L.setIfInBounds j true) a' w'→K a' w')→Oper.wp P oj a w K Q):At P md ops Q (f+1) pend L a w:=by
 intro hp
 have hr':Region.ready md ops L=[i,j]:=by simpa using hr
 have one: ∀(k:Nat) (ok:Oper) (pk:List (Nat×(World→Prop))),ops[k]?=some ok→Region.wanted ok (yielded ops a.tmps)=true→(pend.filter fun p=>!tdep md ops ops.size k p.1)=pk→
  (∀ K:Act→World→Prop,(∀ a' w',(∀ p∈pk,p.2 w')→At P md ops Q f pk (L.setIfInBounds k true) a' w'→K a' w')→Oper.wp P ok a w K Q)→
  wpOp P ops Q k (fun a' w'=>(∀ p∈pend,tdep md ops ops.size k p.1=false→p.2 w')∧wpP P md ops Q f (pend.filter fun p=>!tdep md ops ops.size k p.1) (L.setIfInBounds k true) a' w') a w:=fun k ok pk hk hw hpk h=>by
  have hh:=h (fun a' w'=>(∀ p∈pend,tdep md ops ops.size k p.1=false→p.2 w')∧wpP P md ops Q f (pend.filter fun p=>!tdep md ops ops.size k p.1) (L.setIfInBounds k true) a' w') (fun a' w' hq hA=>by
   refine⟨fun p hp1 ht=>hq p (by rw [← hpk,List.mem_filter];exact⟨hp1,by simp [ht]⟩),?_⟩
   rw [hpk]
   exact hA hq)
  unfold wpOp
  simp only [hk,hw,if_true]
  exact .inl hh
 refine⟨fun h0=>(by rw [hr']at h0;cases h0),fun k hk=>?_⟩
 rw [hr']at hk
 rcases List.mem_cons.1 hk with rfl|hk
 · exact one _ oi pi hi hwi hpi h1
 · obtain rfl:k=j:=by simpa using hk
   exact one _ oj pj hj hwj hpj h2
theorem At.call_all {P:Program} {ops:Array Oper} {Q:Exit→Act→World→Prop} {md:Region.Mode} (j:Nat) {oj:Oper} {f:Nat} {pend:List (Nat×(World→Prop))} {L:Array Bool} {a:Act} {w:World} (hj:ops[j]?=some oj) (hr:(Region.ready md ops L==[j])=true)
 (hw:Region.wanted oj (yielded ops a.tmps)=true)
 (h: ∀K:Act→World→Prop,(∀ a' w',(∀ p∈pend,p.2 w')→At P md ops Q f pend (L.setIfInBounds j true) a' w'→K a' w')→Oper.wp P oj a w K Q):At P md ops Q (f+1) pend L a w:=by
 intro hp
 have hr':Region.ready md ops L=[j]:=by simpa using hr
 refine⟨fun h0=>(by rw [hr']at h0;cases h0),fun k hk=>?_⟩
 rw [hr']at hk
 have hk':k=j:=by simpa using hk
 subst hk'
 have hh:=h (fun a' w'=>(∀ p∈pend,tdep md ops ops.size k p.1=false→p.2 w')∧wpP P md ops Q f (pend.filter fun p=>!tdep md ops ops.size k p.1) (L.setIfInBounds k true) a' w') (fun a' w' hq hA=>
  ⟨fun p hp1 _=>hq p hp1,wpP_mono f pend _ _ a' w' (fun p hp1=>(List.mem_filter.1 hp1).1) (hA hq)⟩)
 unfold wpOp
 simp only [hj,hw,if_true]
 exact .inl hh
def two (zs:List Int) (p:Nat):Int:=if zs.length<p+2 then -1 else zs.getD p 0*256+zs.getD (p+1) 0
inductive Stp where
 |bad:Stp
 |fin:Stp
 |go:List (Int×Nat)→Nat→Bool→Stp
def stepW (zs:List Int) (p:Nat) (parts:Bool):Stp:=
 let m:=two zs p
 if m<65280∨m=65359∨m=65427∨(m=65497∧parts=false)∨(parts=true∧m≠65424∧m≠65497)then .bad
 else if m=65497 then(if zs.length=p+2 then .fin else .bad)
 else if 65328≤m∧m≤65343 then .go [(m,p)] (p+2) parts
 else
  let n:=two zs (p+2)
  if n<2∨(zs.length:Int)-p-2<n∨(m=65424∧n≠10)then .bad
  else if m≠65424 then .go [(m,p)] (p+2+n.toNat) parts
  else if two zs (p+12)≠65427 then .bad
  else
   let size:=two zs (p+6)*65536+two zs (p+8)
   if size<14∨(zs.length:Int)-p<size then .bad else .go [(65424,p),(65427,p+12)] (p+size.toNat) true
def walkF (zs:List Int):Nat→Nat→Bool→List (Int×Nat)→Option (List (Int×Nat))
 |0,_,_,_=>none
 |f+1,p,parts,acc=>match stepW zs p parts with
  |.bad=>none
  |.fin=>some (acc++[(65497,p)])
  |.go l p' parts'=>walkF zs f p' parts' (acc++l)
def walkM (zs:List Int):Option (List (Int×Nat)):=if two zs 0=65359 then walkF zs (zs.length+1) 2 false [(65359,0)]else none
theorem two_byte {zs:List Int} (hb:Bytes zs) {p:Nat} (h:p+2≤zs.length):two zs p=zs.getD p 0*256+zs.getD (p+1) 0∧0≤zs.getD p 0∧zs.getD p 0≤255∧0≤zs.getD (p+1) 0∧zs.getD (p+1) 0≤255:=by
 have key: ∀i,i<zs.length→0≤zs.getD i 0∧zs.getD i 0≤255:=fun i hi=>by
  rw [List.getD_eq_getElem?_getD,List.getElem?_eq_getElem hi]
  exact hb _ (List.getElem_mem hi)
 have h1:=key p (by omega)
 have h2:=key (p+1) (by omega)
 exact⟨if_neg (by omega),h1.1,h1.2,h2.1,h2.2⟩
theorem two_range {zs:List Int} (hb:Bytes zs) (p:Nat):-1≤two zs p∧two zs p≤65535:=by
 by_cases h:zs.length<p+2
 · unfold two;rw [if_pos h];omega
 · have:=two_byte hb (p:=p) (by omega)
   omega
theorem two_lt {zs:List Int} {p:Nat} (h:zs.length<p+2):two zs p=-1:=if_pos h
theorem stepW_go {zs:List Int} {p:Nat} {parts parts':Bool} {l:List (Int×Nat)} {p':Nat} (h:stepW zs p parts=.go l p' parts'):p+2≤p'∧p'≤zs.length:=by
 unfold stepW at h
 simp only at h
 by_cases c1:two zs p<65280∨two zs p=65359∨two zs p=65427∨(two zs p=65497∧parts=false)∨(parts=true∧two zs p≠65424∧two zs p≠65497)
 · rw [if_pos c1]at h;cases h
 · rw [if_neg c1]at h
   have hl:p+2≤zs.length:=by
    rcases Nat.lt_or_ge zs.length (p+2)with hh|hh
    · rw [two_lt hh]at c1;omega
    · exact hh
   by_cases c2:two zs p=65497
   · rw [if_pos c2]at h
     split at h<;>cases h
   · rw [if_neg c2]at h
     by_cases c3:65328≤two zs p∧two zs p≤65343
     · rw [if_pos c3]at h
       injection h with _ h2 _
       omega
     · rw [if_neg c3]at h
       by_cases c4:two zs (p+2)<2∨(zs.length:Int)-p-2<two zs (p+2)∨(two zs p=65424∧two zs (p+2)≠10)
       · rw [if_pos c4]at h;cases h
       · rw [if_neg c4]at h
         by_cases c5:two zs p≠65424
         · rw [if_pos c5]at h
           injection h with _ h2 _
           omega
         · rw [if_neg c5]at h
           by_cases c6:two zs (p+12)≠65427
           · rw [if_pos c6]at h;cases h
           · rw [if_neg c6]at h
             by_cases c7:two zs (p+6)*65536+two zs (p+8)<14∨(zs.length:Int)-p<two zs (p+6)*65536+two zs (p+8)
             · rw [if_pos c7]at h;cases h
             · rw [if_neg c7]at h
               injection h with _ h2 _
               omega
theorem walkF_more (zs:List Int): ∀(f p:Nat) (parts:Bool) (acc:List (Int×Nat)) (g:Nat),zs.length<p+f→zs.length<p+g→p≤zs.length→walkF zs f p parts acc=walkF zs g p parts acc
 |0,p,_,_,_,h,_,hp=>by omega
 |f+1,p,parts,acc,0,_,h,hp=>by omega
 |f+1,p,parts,acc,g+1,h1,h2,hp=>by
  unfold walkF
  cases hs:stepW zs p parts with
  |bad=>rfl
  |fin=>rfl
  |go l p' parts'=>
   have:=stepW_go hs
   exact walkF_more zs f p' parts' _ g (by omega) (by omega) this.2
structure Fm where
 x:Int
 y:Int
 ox:Int
 oy:Int
 comps:Int
 depth:Int
 sub:Int
 sg:Bool
 rct:Bool
 sop:Bool
 eph:Bool
 tx:Int
 ty:Int
 lev:Int
 cbw:Int
 cbh:Int
 prec:Int
 style:Int
 order:Int
 lay:Int
 A:Option Addr
 n:Nat
 c:Nat
def Fm.cells (f:Fm):Array Value:=#[.int .i64 f.x,.int .i64 f.y,.int .i64 f.ox,.int .i64 f.oy,.int .i64 f.comps,.int .i64 f.depth,.int .i64 f.sub,.bool f.sg,.bool f.rct,.bool f.sop,.bool f.eph,.int .i64 f.tx,.int .i64 f.ty,.int .i64 f.lev,.int .i64 f.cbw,.int .i64 f.cbh,.int .i64 f.prec,.int .i64 f.style,.int .i64 f.order,.int .i64 f.lay,.slice f.A f.n f.c]
def R64 (z:Int):Prop:=-9223372036854775808≤z∧z≤9223372036854775807
structure FmOk (w:World) (f:Fm):Prop where
 x:R64 f.x
 y:R64 f.y
 ox:R64 f.ox
 oy:R64 f.oy
 comps:R64 f.comps
 depth:R64 f.depth
 sub:R64 f.sub
 tx:R64 f.tx
 ty:R64 f.ty
 lev:R64 f.lev
 cbw:R64 f.cbw
 cbh:R64 f.cbh
 prec:R64 f.prec
 style:R64 f.style
 order:R64 f.order
 lay:R64 f.lay
 zs: ∃zs:List Int,Rd w f.A f.n (zs.map (Value.int .i64))
 nb:f.n≤9223372036854775807
end Go.Proofs.YthfogcgdijmaoaaGreat
