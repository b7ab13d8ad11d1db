/-
  Part 2 of the proof: Region Region2 Arg GramClean WalkM BitModel GramNum Canvas Rect Bounds Step Given. Conditions: those of the statements.
-/
import Derived.Test.YthfogcgdijmaoaaGreatW1
import Derived.OrdersHeld
import Derived.ProofKit
import Derived.OpenShut
import Derived.SizedLaws
import Derived.Deep.Grids
import Derived.Test.YthfogcgdijmaoaaGreatProg
import Derived.Deep.DeepCutAuto
import Derived.WalkLawsBesides
import Derived.Laws.BitsAllLaws
import Derived.Deep.MidRow
import Derived.Deep.WholeRow
set_option maxRecDepth 100000
set_option maxHeartbeats 16000000
set_option linter.unusedVariables false
set_option linter.unusedSimpArgs false
namespace Go.Proofs.YthfogcgdijmaoaaGreat
open Go.RowKit
section
variable {P :Program} {ops:Array Oper} {Q:Exit→Act→World→Prop} {md:Region.Mode}
def Waits (md:Region.Mode) (o:Oper) (L:Array Bool):Prop:= ∀e∈o.after,Region.binds md e=true→L.getD e.on false=true
def tdep (md:Region.Mode) (ops:Array Oper):Nat→Nat→Nat→Bool
 |0,_,_=>false
 |f+1,j,i=>match ops[j]? with
  |some o=>o.after.any fun e=>Region.binds md e&&(e.on==i||tdep md ops f e.on i)
  |none=>false
def Closed (md:Region.Mode) (ops:Array Oper) (L:Array Bool):Prop:= ∀j o,ops[j]? =some o→L.getD j false=true→Waits md o L
def closedB (md:Region.Mode) (ops:Array Oper) (L:Array Bool):Bool:=
 (List.range ops.size).all fun j=>!L.getD j false||match ops[j]? with
  |some o=>o.after.all fun e=>!Region.binds md e||L.getD e.on false
  |none=>true
theorem closed_of {L:Array Bool} (h:closedB md ops L=true):Closed md ops L:=by
 intro j o hj hl e he hb
 have h1:=List.all_eq_true.1 h j (List.mem_range.2 (Array.getElem?_eq_some_iff.1 hj).1)
 simp only [hl,Bool.not_true,Bool.false_or,hj]at h1
 have h2:=Array.all_eq_true_iff_forall_mem.1 h1 e he
 simpa [hb]using h2
theorem tdep_sound {L:Array Bool} (hc:Closed md ops L): ∀(f j i:Nat) (o:Oper),ops[j]? =some o→Waits md o L→tdep md ops f j i=true→L.getD i false=true:=by
 intro f
 induction f with
 |zero=>intro j i o _ _ h;simp [tdep]at h
 |succ f ih=>
  intro j i o hj hw h
  simp only [tdep,hj]at h
  obtain⟨e,he,hb⟩:=Array.any_eq_true'.1 h
  simp only [Bool.and_eq_true,Bool.or_eq_true,beq_iff_eq]at hb
  have hl:=hw e he hb.1
  rcases hb.2 with h1|h1
  · rw [← h1];exact hl
  · cases ho:ops[e.on]? with
    |none=>
     cases f with
     |zero=>simp [tdep]at h1
     |succ f=>simp [tdep,ho]at h1
    |some o'=>exact ih e.on i o' ho (hc _ _ ho hl) h1
def wpP (P:Program) (md:Region.Mode) (ops:Array Oper) (Q:Exit→Act→World→Prop):Nat→List (Nat×(World→Prop))→Array Bool→Act→World→Prop
 |0,_,L,a,w=>Region.ready md ops L=[]∧Q .normal a w
 |f+1,pend,L,a,w=>
  (Region.ready md ops L=[]→Q .normal a w)∧
  ∀j∈Region.ready md ops L,wpOp P ops Q j (fun a' w'=>(∀ p∈pend,tdep md ops ops.size j p.1=false→p.2 w')∧
   wpP P md ops Q f (pend.filter fun p=>!tdep md ops ops.size j p.1) (L.setIfInBounds j true) a' w') a w
theorem wpAny_of_wpP : ∀(f:Nat) (pend:List (Nat×(World→Prop))) (L:Array Bool) (a:Act) (w:World),wpP P md ops Q f pend L a w→wpAny P md ops Q f L a w
 |0,_,_,_,_,h=>h
 |f+1,_,_,_,_,h=>⟨h.1,fun j hj=>wpOp_mono (fun a' w' h'=>wpAny_of_wpP f _ _ a' w' h'.2) (h.2 j hj)⟩
theorem wp_region_P {id:Nat} {a:Act} {w:World} (hm:P.follows .mixedOrders=true) (h:wpP P .any ops Q ops.size [] (Array.replicate ops.size false) a w.drew):(Code.region id ops true).wp P Q a w:=
 wp_region_any hm (wpAny_of_wpP _ _ _ _ _ h)
theorem wpP_mono : ∀(f:Nat) (pend pend':List (Nat×(World→Prop))) (L:Array Bool) (a:Act) (w:World),(∀ p∈pend',p∈pend)→wpP P md ops Q f pend L a w→wpP P md ops Q f pend' L a w
 |0,_,_,_,_,_,_,h=>h
 |f+1,pend,pend',L,a,w,hs,h=>⟨h.1,fun j hj=>wpOp_mono (fun a' w' h'=>⟨fun p hp=>h'.1 p (hs p hp),wpP_mono f _ _ _ a' w' (fun p hp=>by
  simp only [List.mem_filter]at hp ⊢
  exact⟨hs p hp.1,hp.2⟩) h'.2⟩) (h.2 j hj)⟩
theorem closed_set {j:Nat} {o:Oper} {L:Array Bool} (hc:Closed md ops L) (hj:ops[j]? =some o) (hw:Waits md o L):Closed md ops (L.setIfInBounds j true):=by
 intro k ok hk hl e he hb
 by_cases hkj:j=k
 · subst hkj
   rw [hj]at hk
   injection hk with hk
   subst hk
   exact getD_set_true (hw e he hb)
 · rw [getD_set_ne false hkj]at hl
   exact getD_set_true (hc k ok hk hl e he hb)
theorem wpP_first {i:Nat} {oi:Oper} {v:Value} {T:World→Prop} (hi:ops[i]? =some oi) (hsel: ∀(j:Nat) (o:Oper) cs b,ops[j]? =some o→o.op≠.select cs b)
 (hQ: ∀c a w,Q (.panic c) (a.put oi.dst v) w→Q (.panic c) a w):
 ∀(f:Nat) (pend:List (Nat×(World→Prop))) (L:Array Bool) (a:Act) (w:World),Closed md ops L→
  (∀ j oj,ops[j]? =some oj→j≠i→L.getD j true=false→(∀ e∈oj.after,Region.binds md e=true→e.on≠i)→oi.apart ops oj=true)→
  i∈Region.ready md ops L→YieldsIf P ops T oi v a→T w→(∀ p∈pend,p.2 w)→
  wpP P md ops Q f ((i,T)::pend) (L.setIfInBounds i true) (a.put oi.dst v) w→wpP P md ops Q (f+1) pend L a w:=by
 intro f
 induction f with
 |zero=>
  intro pend L a w _ _ hr hy hT hp H
  refine⟨fun h=>(by rw [h]at hr;cases hr),fun j hj=>?_⟩
  by_cases hji:j=i
  · subst hji;exact hy.wpOp hi hT ⟨fun p hp' _=>hp p hp',H⟩
  · have:=ready_mono hj hji
    rw [H.1]at this
    cases this
 |succ f ih=>
  intro pend L a w hc hfree hr hy hT hp H
  refine⟨fun h=>(by rw [h]at hr;cases hr),fun j hj=>?_⟩
  by_cases hji:j=i
  · subst hji
    exact hy.wpOp hi hT ⟨fun p hp' _=>hp p hp',wpP_mono _ _ _ _ _ _ (fun p hp'=>List.mem_cons_of_mem _ (List.mem_filter.1 hp').1) H⟩
  · have h1:=H.2 j (ready_mono hj hji)
    obtain⟨hjun,oj,hoj,hall⟩:=mem_ready.1 hj
    have hil: ¬L.getD i false=true:=by
     intro h1
     have h0:=(mem_ready.1 hr).1
     rcases Nat.lt_or_ge i L.size with h'|h'
     · simp [h']at h0 h1;rw [h0]at h1;cases h1
     · simp [Array.getElem?_eq_none h']at h1
    have hnot: ∀e∈oj.after,Region.binds md e=true→e.on≠i:=fun e he hb heq=>hil (by rw [← heq];exact hall e he hb)
    have htd:tdep md ops ops.size j i=false:=by
     cases h:tdep md ops ops.size j i with
     |false=>rfl
     |true=>exact absurd (tdep_sound hc _ _ _ _ hoj hall h) hil
    have h2:=wpOp_putIf hoj (hfree j oj hoj hji hjun hnot) (fun cs b=>hsel i oi cs b hi) (fun cs b=>hsel j oj cs b hoj) hQ hy h1
    have hfree': ∀k ok,ops[k]? =some ok→k≠i→(L.setIfInBounds j true).getD k true=false→
     (∀ e∈ok.after,Region.binds md e=true→e.on≠i)→oi.apart ops ok=true:=fun k ok hk hki hun hno=>by
     refine hfree k ok hk hki ?_ hno
     by_cases hjk:j=k
     · subst hjk;exact hjun
     · rw [getD_set_ne true hjk]at hun;exact hun
    refine wpOp_mono (fun a' w' h3=>?_) h2
    obtain⟨hy',hobl,hw'⟩:=h3
    refine⟨fun p hp'=>hobl p (List.mem_cons_of_mem _ hp'),?_⟩
    refine ih _ (L.setIfInBounds j true) a' w' (closed_set hc hoj hall) hfree' (ready_mono hr (Ne.symm hji)) hy' (hobl (i,T) (List.mem_cons_self ..) htd) (fun p hp'=>?_) ?_
    · rw [List.mem_filter]at hp'
      exact hobl p (List.mem_cons_of_mem _ hp'.1) (by simpa using hp'.2)
    · rw [Array.setIfInBounds_comm _ _ hji]
      rw [List.filter_cons_of_pos (by simp [htd])]at hw'
      exact hw'
theorem wpP_add_true : ∀(f:Nat) (i:Nat) (pend:List (Nat×(World→Prop))) (L:Array Bool) (a:Act) (w:World),wpP P md ops Q f pend L a w→wpP P md ops Q f ((i,fun _=>True)::pend) L a w
 |0,_,_,_,_,_,h=>h
 |f+1,i,pend,L,a,w,h=>⟨h.1,fun j hj=>wpOp_mono (fun a' w' h'=>⟨fun p hp ht=>by
  rcases List.mem_cons.1 hp with rfl|hp
  · trivial
  · exact h'.1 p hp ht,by
  rw [List.filter_cons]
  split
  · exact wpP_add_true f i _ _ a' w' h'.2
  · exact h'.2⟩) (h.2 j hj)⟩
def At (P:Program) (md:Region.Mode) (ops:Array Oper) (Q:Exit→Act→World→Prop) (f:Nat) (pend:List (Nat×(World→Prop))) (L:Array Bool) (a:Act) (w:World):Prop:=
 (∀ p∈pend,p.2 w)→wpP P md ops Q f pend L a w
def takeB (md:Region.Mode) (ops:Array Oper) (L:Array Bool) (i:Nat):Bool:=
 Region.noSelect ops&&Region.free md ops L i&&(Region.ready md ops L).contains i&&closedB md ops L
theorem At.start {L:Array Bool} {id:Nat} {a:Act} {w:World} (hm:P.follows .mixedOrders=true) (hL:L=Array.replicate ops.size false) (h:At P .any ops Q ops.size [] L a w.drew):(Code.region id ops true).wp P Q a w:=
 wp_region_P hm (by subst hL;exact h (fun _ hp=>by cases hp))
theorem all_nil {w:World}: ∀p∈([]:List (Nat×(World→Prop))),p.2 w:=fun _ h=>by cases h
theorem all_cons {w:World} {i:Nat} {T:World→Prop} {l:List (Nat×(World→Prop))} (h:T w) (hl: ∀p∈l,p.2 w): ∀p∈(i,T)::l,p.2 w:=fun p hp=>by
 rcases List.mem_cons.1 hp with rfl|hp
 · exact h
 · exact hl p hp
theorem At.pure (i:Nat) (d:Option Tmp) {oi:Oper} {v:Value} {f:Nat} {pend:List (Nat×(World→Prop))} {L:Array Bool} {a:Act} {w:World} (hi:ops[i]? =some oi) (hd:oi.dst=d) (hb:takeB md ops L i=true)
 (hQ: ∀c a w,Q (.panic c) (a.put d v) w→Q (.panic c) a w) (hw:Region.wanted oi (yielded ops a.tmps)=true) (hy: ∀w',(execOp a.eval oi).run P w'=.ok (.value v) w')
 (h:At P md ops Q f pend (L.setIfInBounds i true) (a.put d v) w):At P md ops Q (f+1) pend L a w:=by
 subst hd
 intro hp
 simp only [takeB,Bool.and_eq_true]at hb
 refine wpP_first (T:=fun _=>True) hi (Region.noSelect_spec hb.1.1.1) hQ f pend L a w (closed_of hb.2) (Region.free_spec hi hb.1.1.2) (by simpa using hb.1.2) (.inl ⟨hw,fun w' _=>hy w'⟩) trivial hp ?_
 exact(wpP_add_true f i pend _ _ w (h hp))
theorem At.skip (i:Nat) (d:Option Tmp) {oi:Oper} {f:Nat} {pend:List (Nat×(World→Prop))} {L:Array Bool} {a:Act} {w:World} (hi:ops[i]? =some oi) (hd:oi.dst=d) (hb:takeB md ops L i=true)
 (hQ: ∀c a w,Q (.panic c) (a.put d undef) w→Q (.panic c) a w) (hw:Region.wanted oi (yielded ops a.tmps)=false)
 (h:At P md ops Q f pend (L.setIfInBounds i true) (a.put d undef) w):At P md ops Q (f+1) pend L a w:=by
 subst hd
 intro hp
 simp only [takeB,Bool.and_eq_true]at hb
 refine wpP_first (T:=fun _=>True) hi (Region.noSelect_spec hb.1.1.1) hQ f pend L a w (closed_of hb.2) (Region.free_spec hi hb.1.1.2) (by simpa using hb.1.2) (.inr ⟨hw,rfl⟩) trivial hp ?_
 exact(wpP_add_true f i pend _ _ w (h hp))
theorem At.read (i:Nat) (d:Option Tmp) (T:World→Prop) {oi:Oper} {v:Value} {f:Nat} {pend:List (Nat×(World→Prop))} {L:Array Bool} {a:Act} {w:World} (hi:ops[i]? =some oi) (hd:oi.dst=d) (hb:takeB md ops L i=true)
 (hQ: ∀c a w,Q (.panic c) (a.put d v) w→Q (.panic c) a w) (hw:Region.wanted oi (yielded ops a.tmps)=true) (hT:T w) (hy: ∀w',T w'→(execOp a.eval oi).run P w'=.ok (.value v) w')
 (h:At P md ops Q f ((i,T)::pend) (L.setIfInBounds i true) (a.put d v) w):At P md ops Q (f+1) pend L a w:=by
 subst hd
 intro hp
 simp only [takeB,Bool.and_eq_true]at hb
 refine wpP_first (T:=T) hi (Region.noSelect_spec hb.1.1.1) hQ f pend L a w (closed_of hb.2) (Region.free_spec hi hb.1.1.2) (by simpa using hb.1.2) (.inl ⟨hw,hy⟩) hT hp ?_
 refine h (fun p hp'=>?_)
 rcases List.mem_cons.1 hp' with rfl|hp'
 · exact hT
 · exact hp p hp'
theorem At.call (j:Nat) {oj:Oper} {f:Nat} {pend pend':List (Nat×(World→Prop))} {L:Array Bool} {a:Act} {w:World} (hj:ops[j]? =some oj) (hr:(Region.ready md ops L==[j])=true)
 (hw:Region.wanted oj (yielded ops a.tmps)=true) (hp':(pend.filter fun p=>!tdep md ops ops.size j p.1)=pend')
 (h: ∀K:Act→World→Prop,(∀ a' w',(∀ p∈pend',p.2 w')→At P md ops Q f pend' (L.setIfInBounds j true) a' w'→K a' w')→Oper.wp P oj a w K Q):At P md ops Q (f+1) pend L a w:=by
 intro hp
 have hr':Region.ready md ops L=[j]:=by simpa using hr
 refine⟨fun h0=>(by rw [hr']at h0;cases h0),fun k hk=>?_⟩
 rw [hr']at hk
 have hk':k=j:=by simpa using hk
 subst hk'
 have hh:=h (fun a' w'=>(∀ p∈pend,tdep md ops ops.size k p.1=false→p.2 w')∧wpP P md ops Q f (pend.filter fun p=>!tdep md ops ops.size k p.1) (L.setIfInBounds k true) a' w') (fun a' w' hq hA=>by
  refine⟨fun p hp1 ht=>hq p (by rw [← hp',List.mem_filter];exact⟨hp1,by simp [ht]⟩),?_⟩
  rw [hp']
  exact hA hq)
 unfold wpOp
 simp only [hj,hw,if_true]
 exact .inl hh
theorem At.done {f:Nat} {pend:List (Nat×(World→Prop))} {L:Array Bool} {a:Act} {w:World} (hr:(Region.ready md ops L==[])=true) (h:Q .normal a w):At P md ops Q f pend L a w:=by
 intro _
 have hr':Region.ready md ops L=[]:=by simpa using hr
 cases f with
 |zero=>exact⟨hr',h⟩
 |succ f=>exact⟨fun _=>h,fun j hj=>by rw [hr']at hj;cases hj⟩
theorem NS :(∀ (a:Act) (d:Tmp) (v:Value),a.put (some d) v={ a with tmps:=a.tmps.setIfInBounds d v })∧(∀ (a:Act) (v:Value),a.put none v=a)∧(∀ (l:List Value) (i:Nat) (v:Value),l.toArray.setIfInBounds i v=(l.set i v).toArray)∧(∀ (l:List Bool) (i:Nat) (v:Bool),l.toArray.setIfInBounds i v=(l.set i v).toArray)∧(∀ (l:List Value) (x v:Value),(x::l).set 0 v=v::l)∧(∀ (l:List Bool) (x v:Bool),(x::l).set 0 v=v::l)∧(∀ (l:List Value) (x v:Value) (i:Nat),(x::l).set (i+1) v=x::l.set i v)∧(∀ (l:List Bool) (x v:Bool) (i:Nat),(x::l).set (i+1) v=x::l.set i v):=
 ⟨fun _ _ _=>rfl,fun _ _=>rfl,fun _ _ _=>List.setIfInBounds_toArray ..,fun _ _ _=>List.setIfInBounds_toArray ..,fun _ _ _=>rfl,fun _ _ _=>rfl,fun _ _ _ _=>rfl,fun _ _ _ _=>rfl⟩
theorem AtP (i:Nat) (d:Tmp) {oi:Oper} {v:Value} {f:Nat} {pend:List (Nat×(World→Prop))} {L L':Array Bool} {a a':Act} {w:World}
 (h:At P md ops Q f pend L' a' w) (hi:ops[i]? =some oi:=by exact rfl) (hd:oi.dst=some d:=by exact rfl) (hb:takeB md ops L i=true:=by kernel_rfl)
 (hQ: ∀c a w,Q (.panic c) (a.put (some d) v) w→Q (.panic c) a w:=by exact fun _ _ _ h=>h) (hw:Region.wanted oi (yielded ops a.tmps)=true:=by exact rfl) (hy: ∀w',(execOp a.eval oi).run P w'=.ok (.value v) w':=by intro w';go_simp;try with_reducible rfl) (hL:L.setIfInBounds i true=L':=by simp only [NS];try exact rfl) (ha:a.put (some d) v=a':=by simp only [NS];try exact rfl):At P md ops Q (f+1) pend L a w:=At.pure i (some d) hi hd hb hQ hw hy (by rw [hL,ha];exact h)
theorem AtPo (i:Nat) (d:Option Tmp) {oi:Oper} {v:Value} {f:Nat} {pend:List (Nat×(World→Prop))} {L:Array Bool} {a:Act} {w:World}
 (h:At P md ops Q f pend (L.setIfInBounds i true) (a.put d v) w) (hi:ops[i]? =some oi:=by exact rfl) (hd:oi.dst=d:=by exact rfl) (hb:takeB md ops L i=true:=by kernel_rfl)
 (hQ: ∀c a w,Q (.panic c) (a.put d v) w→Q (.panic c) a w:=by exact fun _ _ _ h=>h) (hw:Region.wanted oi (yielded ops a.tmps)=true:=by exact rfl) (hy: ∀w',(execOp a.eval oi).run P w'=.ok (.value v) w':=by intro w';go_simp;try with_reducible rfl):At P md ops Q (f+1) pend L a w:=At.pure i d hi hd hb hQ hw hy h
theorem AtC (j:Nat) {oj:Oper} {f:Nat} {pend:List (Nat×(World→Prop))} {L:Array Bool} {a:Act} {w:World}
 (h: ∀K:Act→World→Prop,(∀ a' w',(∀ p∈([]:List (Nat×(World→Prop))),p.2 w')→At P md ops Q f [] (L.setIfInBounds j true) a' w'→K a' w')→Oper.wp P oj a w K Q) (hj:ops[j]? =some oj:=by exact rfl) (hr:(Region.ready md ops L==[j])=true:=by kernel_rfl)
 (hw:Region.wanted oj (yielded ops a.tmps)=true:=by exact rfl) (hp':(pend.filter fun p=>!tdep md ops ops.size j p.1)=[]:=by kernel_rfl):At P md ops Q (f+1) pend L a w:=At.call j hj hr hw hp' h
end
theorem At.two {P:Program} {ops:Array Oper} {Q:Exit→Act→World→Prop} {md:Region.Mode} (i j:Nat) {oi oj:Oper} {f:Nat} {pend pi pj:List (Nat×(World→Prop))} {L:Array Bool} {a:Act} {w:World} (hi:ops[i]? =some oi) (hj:ops[j]? =some oj) (hr:(Region.ready md ops L==[i,j])=true)
 (hwi:Region.wanted oi (yielded ops a.tmps)=true) (hwj:Region.wanted oj (yielded ops a.tmps)=true) (hpi:(pend.filter fun p=>!tdep md ops ops.size i p.1)=pi) (hpj:(pend.filter fun p=>!tdep md ops ops.size j p.1)=pj)
 (h1: ∀K:Act→World→Prop,(∀ a' w',(∀ p∈pi,p.2 w')→At P md ops Q f pi (L.setIfInBounds i true) a' w'→K a' w')→Oper.wp P oi a w K Q)
 (h2: ∀K:Act→World→Prop,(∀ a' w',(∀ p∈pj,p.2 w')→At P md ops Q f pj (L.setIfInBounds j true) a' w'→K a' w')→Oper.wp P oj a w K Q):At P md ops Q (f+1) pend L a w:=by
 intro hp
 have hr':Region.ready md ops L=[i,j]:=by simpa using hr
 have one: ∀(k:Nat) (ok:Oper) (pk:List (Nat×(World→Prop))),ops[k]? =some ok→Region.wanted ok (yielded ops a.tmps)=true→(pend.filter fun p=>!tdep md ops ops.size k p.1)=pk→
  (∀ K:Act→World→Prop,(∀ a' w',(∀ p∈pk,p.2 w')→At P md ops Q f pk (L.setIfInBounds k true) a' w'→K a' w')→Oper.wp P ok a w K Q)→
  wpOp P ops Q k (fun a' w'=>(∀ p∈pend,tdep md ops ops.size k p.1=false→p.2 w')∧wpP P md ops Q f (pend.filter fun p=>!tdep md ops ops.size k p.1) (L.setIfInBounds k true) a' w') a w:=fun k ok pk hk hw hpk h=>by
  have hh:=h (fun a' w'=>(∀ p∈pend,tdep md ops ops.size k p.1=false→p.2 w')∧wpP P md ops Q f (pend.filter fun p=>!tdep md ops ops.size k p.1) (L.setIfInBounds k true) a' w') (fun a' w' hq hA=>by
   refine⟨fun p hp1 ht=>hq p (by rw [← hpk,List.mem_filter];exact⟨hp1,by simp [ht]⟩),?_⟩
   rw [hpk]
   exact hA hq)
  unfold wpOp
  simp only [hk,hw,if_true]
  exact .inl hh
 refine⟨fun h0=>(by rw [hr']at h0;cases h0),fun k hk=>?_⟩
 rw [hr']at hk
 rcases List.mem_cons.1 hk with rfl|hk
 · exact one _ oi pi hi hwi hpi h1
 · obtain rfl:k=j:=by simpa using hk
   exact one _ oj pj hj hwj hpj h2
theorem At.call_all {P:Program} {ops:Array Oper} {Q:Exit→Act→World→Prop} {md:Region.Mode} (j:Nat) {oj:Oper} {f:Nat} {pend:List (Nat×(World→Prop))} {L:Array Bool} {a:Act} {w:World} (hj:ops[j]? =some oj) (hr:(Region.ready md ops L==[j])=true)
 (hw:Region.wanted oj (yielded ops a.tmps)=true)
 (h: ∀K:Act→World→Prop,(∀ a' w',(∀ p∈pend,p.2 w')→At P md ops Q f pend (L.setIfInBounds j true) a' w'→K a' w')→Oper.wp P oj a w K Q):At P md ops Q (f+1) pend L a w:=by
 intro hp
 have hr':Region.ready md ops L=[j]:=by simpa using hr
 refine⟨fun h0=>(by rw [hr']at h0;cases h0),fun k hk=>?_⟩
 rw [hr']at hk
 have hk':k=j:=by simpa using hk
 subst hk'
 have hh:=h (fun a' w'=>(∀ p∈pend,tdep md ops ops.size k p.1=false→p.2 w')∧wpP P md ops Q f (pend.filter fun p=>!tdep md ops ops.size k p.1) (L.setIfInBounds k true) a' w') (fun a' w' hq hA=>
  ⟨fun p hp1 _=>hq p hp1,wpP_mono f pend _ _ a' w' (fun p hp1=>(List.mem_filter.1 hp1).1) (hA hq)⟩)
 unfold wpOp
 simp only [hj,hw,if_true]
 exact .inl hh
end Go.Proofs.YthfogcgdijmaoaaGreat
namespace Go.Proofs.YthfogcgdijmaoaaGreat
open Go.RowKit Go.ChangeShapes Go.WideShapes
structure Arg (k:IntKind) (by_:Nat) (w:World) (A:Option Addr) (n c:Nat) (zs:List Int):Prop where
 rd:Rd w A n (zs.map (Value.int k))
 cap:n≤c
 reach:c*by_≤140737488351232
 wf: ∀z∈zs,(Lit.int k z).wf=true
theorem arg_ints {H:Type} {enc:TypeId×Value→H} {P:Program} {w:World} {base:Nat} {held:Bool} {t e:TypeId} {k:IntKind} {fuel by_:Nat} {A:Option Addr} {n c:Nat} {d:DataW H} {p:List MemPlace}
 (ht:P.underlying t=some (.slice e)) (he:P.underlying e=some (.int k)) (hc:P.cellsOf e=1)
 (h:DataW.trod enc P w base (fun _=>true) held fuel t (Value.slice A n c).cells.toList=some (d,p))
 (hr: ∀el sp,d=.slice el sp→(el.length+sp.length)*by_≤reachBytes): ∃zs,Arg k by_ w A n c zs:=by
 have hrb:reachBytes=140737488351232:=by decide +kernel
 rcases open_ints ht he hc h with⟨hcs,_⟩|⟨x,l,c',zs,hcs,_,hl,hm,hz,hx,hcell,hwz⟩
 · simp [Value.cells]at hcs
   obtain⟨rfl,rfl,rfl⟩:=hcs
   exact⟨[],Rd.nil _,Nat.le_refl _,by omega,by simp⟩
 · simp [Value.cells]at hcs
   obtain⟨rfl,rfl,rfl⟩:=hcs
   simp only [if_true]at hz
   simp only [Prod.mk.injEq]at hx
   have hreach:=hr _ _ hx.1
   have e1:(lits (H:=H) k (zs.take n)).length=n:=by simp [lits];omega
   have e2:(lits (H:=H) k (zs.drop n)).length=c-n:=by simp [lits];omega
   rw [e1,e2,hrb,Nat.add_sub_cancel' hl]at hreach
   refine⟨zs.take n,⟨by simp;omega,fun hn=>⟨x,rfl,fun j u hu=>?_⟩⟩,hl,hreach,fun z hz'=>hwz z (List.mem_of_mem_take hz')⟩
   rw [List.getElem?_map,List.getElem?_take]at hu
   have hj:j<n:=by
    rcases Nat.lt_or_ge j n with h|h
    · exact h
    · rw [if_neg (by omega)]at hu;cases hu
   rw [if_pos hj]at hu
   have hjl:j<zs.length:=by omega
   rw [hcell j hjl]
   simp [hjl]at hu
   subst hu
   simp [hjl]
structure ArgB (w:World) (A:Option Addr) (n c:Nat) (zs:List Bool):Prop where
 rd:Rd w A n (zs.map Value.bool)
 cap:n≤c
 reach:c*1≤140737488351232
theorem arg_bools {H:Type} {enc:TypeId×Value→H} {P:Program} {w:World} {base:Nat} {held:Bool} {t e:TypeId} {fuel:Nat} {A:Option Addr} {n c:Nat} {d:DataW H} {p:List MemPlace}
 (ht:P.underlying t=some (.slice e)) (he:P.underlying e=some .bool) (hc:P.cellsOf e=1)
 (h:DataW.trod enc P w base (fun _=>true) held fuel t (Value.slice A n c).cells.toList=some (d,p))
 (hr: ∀el sp,d=.slice el sp→(el.length+sp.length)*1≤reachBytes): ∃zs,ArgB w A n c zs:=by
 have hrb:reachBytes=140737488351232:=by decide +kernel
 rcases Go.Deep.open_bools ht he hc h with⟨hcs,_⟩|⟨x,l,c',B,hcs,_,hl,hm,hx,hcell⟩
 · simp [Value.cells]at hcs
   obtain⟨rfl,rfl,rfl⟩:=hcs
   exact⟨[],Rd.nil _,Nat.le_refl _,by omega⟩
 · simp [Value.cells]at hcs
   obtain⟨rfl,rfl,rfl⟩:=hcs
   simp only [Prod.mk.injEq]at hx
   have hreach:=hr _ _ hx.1
   rw [hrb]at hreach
   simp at hreach
   refine⟨(List.range n).map B,⟨by simp,fun hn=>⟨x,rfl,fun j u hu=>?_⟩⟩,hl,by omega⟩
   rw [List.map_map,List.getElem?_map]at hu
   have hj:j<n:=by
    rcases Nat.lt_or_ge j n with h|h
    · exact h
    · rw [List.getElem?_eq_none (by simpa using h)]at hu;cases hu
   rw [hcell j (by omega)]
   simp [hj]at hu
   rw [hu]
section
variable {k :IntKind} {by_:Nat} {w:World} {A:Option Addr} {n c:Nat} {zs:List Int}
theorem Arg.len (h:Arg k by_ w A n c zs):zs.length=n:=h.rd.len
theorem Arg.bytes (h:Arg .u8 by_ w A n c zs):Bytes zs:=by
 intro z hz
 have:=h.wf z hz
 simpa [Lit.wf,IntKind.min,IntKind.max,IntKind.signed,IntKind.bits]using this
end
theorem wf_i64 {x:Int} (h:(Lit.int .i64 x).wf=true):-9223372036854775808≤x∧x≤9223372036854775807:=by
 simpa [Lit.wf,IntKind.min,IntKind.max,IntKind.signed,IntKind.bits]using h
end Go.Proofs.YthfogcgdijmaoaaGreat
namespace Go.Proofs.YthfogcgdijmaoaaGreat
open Go.RowKit
def wasAt (zs:List Int) (i:Nat):Int:=if i=0 then 0 else zs.getD (i-1) 0
def badAt (zs:List Int) (i:Nat):Bool:=(wasAt zs i==255)&&decide (143<zs.getD i 0)
def cleanB (zs:List Int):Bool:=(List.range zs.length).all fun i=>!badAt zs i
theorem lit_any (w:World) (W:Nat) (x y:Int) (hx:0≤x∧x≤255) (hy:0≤y∧y≤255) (h:Blk w W 5 #[.int .u8 y]):
 Calls Tryz.prog 29 #[.int .u8 x,.pointer (some ⟨W,0,none⟩)] w fun e w'=>e=.returned (.bool ((y==255)&&decide (143<x)))∧Blk w' W 5 #[.int .u8 x]∧Keep (fun j=>j=W) w w':=by
 have g0:w.cell? ⟨W,0,none⟩=some (.int .u8 y):=h.cell 0
 have f0:=h.frozen 0
 have hb:=h.set_ 0 (.int .u8 x)
 have hk:=(Keep.refl (fun j=>j=W) w).setR 0 (.int .u8 x)
 by_cases h255:y=255
 · subst h255
   have HB:=hid hb
   have HK:=hid hk
   clear hb hk h
   go_enter Tryz.func29,Tryz.ntmps29
   go_wp2_with fail
   go_ret
   exact⟨ret_bool (by simp),HB.out,HK.out⟩
 · have hy':(y==255)=false:=by simpa using h255
   have HB:=hid hb
   have HK:=hid hk
   clear hb hk h
   go_enter Tryz.func29,Tryz.ntmps29
   go_wp2_with fail
   go_ret
   exact⟨ret_bool (by simp [hy']),HB.out,HK.out⟩
theorem was_byte {zs:List Int} (h:Bytes zs) (i:Nat):0≤wasAt zs i∧wasAt zs i≤255:=by
 unfold wasAt
 split
 · omega
 · rw [List.getD_eq_getElem?_getD]
   rcases Nat.lt_or_ge (i-1) zs.length with hk|hk
   · rw [List.getElem?_eq_getElem hk]
     exact h _ (List.getElem_mem hk)
   · rw [List.getElem?_eq_none hk]
     decide
theorem clean_false {zs:List Int} {i:Nat} (hi:i<zs.length) (h:badAt zs i=true):cleanB zs=false:=by
 rw [Bool.eq_false_iff]
 intro hc
 unfold cleanB at hc
 have:=List.all_eq_true.1 hc i (List.mem_range.2 hi)
 rw [h]at this
 cases this
theorem clean_true {zs:List Int} (h: ∀j,j<zs.length→badAt zs j=false):cleanB zs=true:=by
 unfold cleanB
 rw [List.all_eq_true]
 intro i hi
 rw [h i (List.mem_range.1 hi)]
 rfl
theorem index_any (w:World) (W:Nat) (A:Option Addr) (n c:Nat) (zs:List Int) (hW:Blk w W 5 #[.int .u8 0]) (hr:Rd w A n (zs.map (Value.int .u8))) (hA:0<n→ ∀ad,A=some ad→ad.block≠W) (hby:Bytes zs) (hn:n≤1099511627776):
 Calls Tryz.prog 46 #[.slice A n c,.func (.func 29) #[] #[.pointer (some ⟨W,0,none⟩)]] w fun e w'=>(∃ x:Int,e=.returned (.int .i64 x)∧(decide (0≤x)=!cleanB zs))∧Keep (fun j=>j=W) w w':=by
 have HR:=hid hr
 have HW0:=hid hW
 have HBY:=hid hby
 have hl:=hr.len
 clear hr hW hby
 go_enter Tryz.func46,Tryz.ntmps46
 go_wp2_with fail
 go_loopw [8] (fun v wr=> ∃i:Nat,i≤n∧v=.int .i64 i∧Hid (Blk wr W 5 #[.int .u8 (wasAt zs i)])∧Hid (∀ j,j<i→badAt zs j=false)∧Hid (Keep (fun j=>j=W) w wr)) (fun v _=>n-(intOf v).toNat)
 case atStart=>exact⟨0,by omega,rfl,HW0,hid (fun j h=>by omega),hid (Keep.refl _ w)⟩
 case round=>
  obtain⟨i,hi,rfl,HW,HN,HK⟩:=hrel
  by_cases hin:i<n
  · obtain⟨b,o,rfl,hz⟩:=HR.out.int_ix hin
    have hne:b≠W:=hA (by omega) _ rfl
    have z0:=HK.out.cell hz (fun h:b=W=>hne h)
    have hx:=HBY.out (zs.getD i 0) (by rw [List.getD_eq_getElem?_getD,List.getElem?_eq_getElem (by omega)];exact List.getElem_mem _)
    have hy:0≤wasAt zs i∧wasAt zs i≤255:=was_byte HBY.out i
    have hb:badAt zs i=((wasAt zs i==255)&&decide (143<zs.getD i 0)):=rfl
    have hw:wasAt zs (i+1)=zs.getD i 0:=rfl
    have HC:=hid (fun (hbad:badAt zs i=true)=>clean_false (zs:=zs) (i:=i) (by omega) hbad)
    clear hz
    generalize hg:zs.getD i 0=x at*
    have HG:=hid hg
    clear hg
    have HW':=hid HW.out
    generalize wasAt zs i=y at*
    go_wp2_with fail
    refine(lit_any wr W x y hx hy HW.out).mono ?_
    rintro e w2 ⟨rfl,hb2,hk2⟩
    have HB2:=hid (show Blk w2 W 5 #[.int .u8 (wasAt zs (i+1))] by rw [hw];exact hb2)
    have HK2:=hid (HK.out.trans hk2 (fun _ _ h=>h))
    rw [← hb]
    clear hb2 hk2 hb hw HW HW' z0
    by_cases hbad:badAt zs i=true
    · have hcl:=HC.out hbad
      rw [hbad]
      go_wp2_with fail
      go_ret
      exact⟨⟨i,rfl,by rw [hcl];simp⟩,HK2.out⟩
    · have hbad':badAt zs i=false:=by simpa using hbad
      rw [hbad']
      have HN2:=hid (show∀j,j<i+1→badAt zs j=false from fun j hj=>by
       by_cases h:j=i
       · subst h;exact hbad'
       · exact HN.out j (by omega))
      clear HC
      go_wp2_with fail
      exact⟨⟨i+1,by omega,by go_num,HB2,HN2,HK2⟩,by simp [intOf];omega⟩
  · obtain rfl:n=i:=by omega
    have hcl:cleanB zs=true:=clean_true (fun j hj=>HN.out j (by omega))
    go_wp2_with fail
    go_ret
    exact⟨⟨-1,rfl,by rw [hcl];decide⟩,HK.out⟩
theorem contains_any (w:World) (W:Nat) (A:Option Addr) (n c:Nat) (zs:List Int) (hW:Blk w W 5 #[.int .u8 0]) (hr:Rd w A n (zs.map (Value.int .u8))) (hA:0<n→ ∀ad,A=some ad→ad.block≠W) (hby:Bytes zs) (hn:n≤1099511627776):
 Calls Tryz.prog 28 #[.slice A n c,.func (.func 29) #[] #[.pointer (some ⟨W,0,none⟩)]] w fun e w'=>e=.returned (.bool (!cleanB zs))∧Keep (fun j=>j=W) w w':=by
 have H:=hid (index_any w W A n c zs hW hr hA hby hn)
 clear hW hr hby
 go_enter Tryz.func28,Tryz.ntmps28
 go_wp2_with fail
 refine H.out.mono ?_
 rintro e w2 ⟨⟨x,rfl,hx⟩,hk2⟩
 have HK:=hid hk2
 have HX:=hid hx
 clear hx hk2 H
 go_wp2_with fail
 go_ret
 exact⟨ret_bool (by rw [← HX.out]),HK.out⟩
theorem clean_any (w:World) (A:Option Addr) (n c:Nat) (zs:List Int) (hr:Rd w A n (zs.map (Value.int .u8))) (hby:Bytes zs) (hn:n≤1099511627776):
 Calls Tryz.prog 14 #[.slice A n c] w fun e w'=>e=.returned (.bool (cleanB zs))∧Keep (fun _=>False) w w':=by
 have hmf: ∀(fn:Fn) (first cap:Array Value) (w:World),(Instr.makeFunc fn first cap).run Tryz.prog w=.ok (.func fn first cap) w:=fun _ _ _ _=>rfl
 go_enter Tryz.func14,Tryz.ntmps14
 go_wp2_with fail
 have hb:=Blk.new w 5 #[.int .u8 0]
 have hk:=(Keep.refl (fun _=>False) w).alloc (.cells #[.int .u8 0] 5)
 refine(contains_any _ w.heap.size A n c zs hb (hr.alloc _) (fun h0 ad e=>by have:=hr.lt h0 ad e;omega) hby hn).mono ?_
 rintro e w2 ⟨rfl,hk2⟩
 have HK:=hid (hk.trans hk2 (fun j hj h=>by omega):Keep (fun _=>False) w w2)
 clear hb hk hk2
 go_wp2_with fail
 go_ret
 exact⟨ret_bool (by simp),HK.out⟩
def two (zs:List Int) (p:Nat):Int:=if zs.length<p+2 then -1 else zs.getD p 0*256+zs.getD (p+1) 0
inductive Stp where
 |bad:Stp
 |fin:Stp
 |go:List (Int×Nat)→Nat→Bool→Stp
def stepW (zs:List Int) (p:Nat) (parts:Bool):Stp:=
 let m:=two zs p
 if m<65280∨m=65359∨m=65427∨(m=65497∧parts=false)∨(parts=true∧m≠65424∧m≠65497)then .bad
 else if m=65497 then(if zs.length=p+2 then .fin else .bad)
 else if 65328≤m∧m≤65343 then .go [(m,p)] (p+2) parts
 else
  let n:=two zs (p+2)
  if n<2∨(zs.length:Int)-p-2<n∨(m=65424∧n≠10)then .bad
  else if m≠65424 then .go [(m,p)] (p+2+n.toNat) parts
  else if two zs (p+12)≠65427 then .bad
  else
   let size:=two zs (p+6)*65536+two zs (p+8)
   if size<14∨(zs.length:Int)-p<size then .bad else .go [(65424,p),(65427,p+12)] (p+size.toNat) true
def walkF (zs:List Int):Nat→Nat→Bool→List (Int×Nat)→Option (List (Int×Nat))
 |0,_,_,_=>none
 |f+1,p,parts,acc=>match stepW zs p parts with
  |.bad=>none
  |.fin=>some (acc++[(65497,p)])
  |.go l p' parts'=>walkF zs f p' parts' (acc++l)
def walkM (zs:List Int):Option (List (Int×Nat)):=if two zs 0=65359 then walkF zs (zs.length+1) 2 false [(65359,0)]else none
theorem two_byte {zs:List Int} (hb:Bytes zs) {p:Nat} (h:p+2≤zs.length):two zs p=zs.getD p 0*256+zs.getD (p+1) 0∧0≤zs.getD p 0∧zs.getD p 0≤255∧0≤zs.getD (p+1) 0∧zs.getD (p+1) 0≤255:=by
 have key: ∀i,i<zs.length→0≤zs.getD i 0∧zs.getD i 0≤255:=fun i hi=>by
  rw [List.getD_eq_getElem?_getD,List.getElem?_eq_getElem hi]
  exact hb _ (List.getElem_mem hi)
 have h1:=key p (by omega)
 have h2:=key (p+1) (by omega)
 exact⟨if_neg (by omega),h1.1,h1.2,h2.1,h2.2⟩
theorem two_range {zs:List Int} (hb:Bytes zs) (p:Nat):-1≤two zs p∧two zs p≤65535:=by
 by_cases h:zs.length<p+2
 · unfold two;rw [if_pos h];omega
 · have:=two_byte hb (p:=p) (by omega)
   omega
theorem two_lt {zs:List Int} {p:Nat} (h:zs.length<p+2):two zs p=-1:=if_pos h
theorem stepW_go {zs:List Int} {p:Nat} {parts parts':Bool} {l:List (Int×Nat)} {p':Nat} (h:stepW zs p parts=.go l p' parts'):p+2≤p'∧p'≤zs.length:=by
 unfold stepW at h
 simp only at h
 by_cases c1:two zs p<65280∨two zs p=65359∨two zs p=65427∨(two zs p=65497∧parts=false)∨(parts=true∧two zs p≠65424∧two zs p≠65497)
 · rw [if_pos c1]at h;cases h
 · rw [if_neg c1]at h
   have hl:p+2≤zs.length:=by
    rcases Nat.lt_or_ge zs.length (p+2)with hh|hh
    · rw [two_lt hh]at c1;omega
    · exact hh
   by_cases c2:two zs p=65497
   · rw [if_pos c2]at h
     split at h<;>cases h
   · rw [if_neg c2]at h
     by_cases c3:65328≤two zs p∧two zs p≤65343
     · rw [if_pos c3]at h
       injection h with _ h2 _
       omega
     · rw [if_neg c3]at h
       by_cases c4:two zs (p+2)<2∨(zs.length:Int)-p-2<two zs (p+2)∨(two zs p=65424∧two zs (p+2)≠10)
       · rw [if_pos c4]at h;cases h
       · rw [if_neg c4]at h
         by_cases c5:two zs p≠65424
         · rw [if_pos c5]at h
           injection h with _ h2 _
           omega
         · rw [if_neg c5]at h
           by_cases c6:two zs (p+12)≠65427
           · rw [if_pos c6]at h;cases h
           · rw [if_neg c6]at h
             by_cases c7:two zs (p+6)*65536+two zs (p+8)<14∨(zs.length:Int)-p<two zs (p+6)*65536+two zs (p+8)
             · rw [if_pos c7]at h;cases h
             · rw [if_neg c7]at h
               injection h with _ h2 _
               omega
theorem walkF_more (zs:List Int): ∀(f p:Nat) (parts:Bool) (acc:List (Int×Nat)) (g:Nat),zs.length<p+f→zs.length<p+g→p≤zs.length→walkF zs f p parts acc=walkF zs g p parts acc
 |0,p,_,_,_,h,_,hp=>by omega
 |f+1,p,parts,acc,0,_,h,hp=>by omega
 |f+1,p,parts,acc,g+1,h1,h2,hp=>by
  unfold walkF
  cases hs:stepW zs p parts with
  |bad=>rfl
  |fin=>rfl
  |go l p' parts'=>
   have:=stepW_go hs
   exact walkF_more zs f p' parts' _ g (by omega) (by omega) this.2
def lastM (l:List Int):Int:=l.getD (l.length-1) 0
def topM (l:List Int):Int:=if lastM l=255 then 7 else 8
def stepL (l:List Int) (r x:Int):List Int:=if r=0 then l++[x%2*2^((topM l).toNat-1)]else l.set (l.length-1) (lastM l+x%2*2^(r.toNat-1))
def stepR (l:List Int) (r:Int):Int:=(if r=0 then topM l else r)-1
theorem lastM_snoc (l:List Int) (z:Int):lastM (l++[z])=z:=by simp [lastM]
theorem top_le (l:List Int):7≤topM l∧topM l≤8:=by unfold topM;split<;>omega
theorem set_last (l:List Int) (h:0<l.length) (z:Int):l.set (l.length-1) z=l.dropLast++[z]:=by
 obtain⟨a,b,rfl⟩: ∃a b,l=a++[b]:=by
  rcases List.eq_nil_or_concat l with h0|⟨a,b,h0⟩
  · subst h0;simp at h
  · exact⟨a,b,by simpa using h0⟩
 simp [List.set_append]
theorem snoc_last (l:List Int) (h:0<l.length):l.dropLast++[lastM l]=l:=by
 obtain⟨a,b,rfl⟩: ∃a b,l=a++[b]:=by
  rcases List.eq_nil_or_concat l with h0|⟨a,b,h0⟩
  · subst h0;simp at h
  · exact⟨a,b,by simpa using h0⟩
 simp [lastM]
structure BInv (l:List Int) (r:Int):Prop where
 bytes:Bytes l
 r0:0≤r
 r7:r≤7
 some_:0<r→0<l.length
 low:lastM l%2^r.toNat=0
 stuffed: ∀i,i+1<l.length→l.getD i 0=255→l.getD (i+1) 0≤127
 top:0<r→r<topM l.dropLast
theorem BInv.nil :BInv [] 0:=⟨fun z hz=>(by cases hz),by omega,by omega,fun h=>(by omega),(by simp [lastM]),fun i h=>(by simp at h),fun h=>(by omega)⟩
theorem lastM_byte {l:List Int} (h:Bytes l):0≤lastM l∧lastM l≤255:=by
 unfold lastM
 rcases Nat.eq_zero_or_pos l.length with h0|h0
 · rw [List.eq_nil_of_length_eq_zero h0];simp
 · have:l.getD (l.length-1) 0=l[l.length-1]'(by omega):=by rw [List.getD_eq_getElem?_getD,List.getElem?_eq_getElem (by omega)];rfl
   rw [this]
   exact h _ (List.getElem_mem _)
theorem add_fits (z b:Int) (r:Nat) (h0:0≤z) (T:Nat) (h1:z<2^T) (hr:r<T) (hz:z%2^(r+1)=0) (hb:0≤b∧b≤1):0≤z+b*2^r∧z+b*2^r<2^T∧(z+b*2^r)%2^r=0:=by
 have hp:(0:Int)<2^r:=Int.pow_pos (by omega)
 have e1:(2:Int)^(r+1)=2*2^r:=by rw [Int.pow_succ];omega
 have e2:(2:Int)^T=2^(T-(r+1))*(2*2^r):=by rw [← e1,←Int.pow_add];congr 1;omega
 have hq:(0:Int)<2^(T-(r+1)):=Int.pow_pos (by omega)
 rw [e1]at hz
 obtain⟨k,rfl⟩:=Int.dvd_of_emod_eq_zero hz
 rw [e2]at h1 ⊢
 generalize (2:Int)^r=p at*
 generalize (2:Int)^(T-(r+1))=q at*
 have hk:k<q:=by
  rw [Int.mul_comm]at h1
  exact Int.lt_of_mul_lt_mul_right h1 (by omega)
 have hk0:0≤k:=by
  rcases Int.lt_or_le k 0 with h|h
  · have:2*p*k<0:=Int.mul_neg_of_pos_of_neg (by omega) h
    omega
  · exact h
 have hkq:2*p*k≤2*p*(q-1):=Int.mul_le_mul_of_nonneg_left (by omega) (by omega)
 have e3:2*p*(q-1)=q*(2*p)-2*p:=by rw [Int.mul_sub,Int.mul_one,Int.mul_comm (2*p) q]
 have hbp:0≤b*p∧b*p≤p:=by
  have:b=0∨b=1:=by omega
  rcases this with rfl|rfl<;>omega
 refine⟨?_,?_,?_⟩
 · omega
 · omega
 · have:2*p*k+b*p=p*(2*k+b):=by rw [Int.mul_add,Int.mul_comm p b,←Int.mul_assoc,Int.mul_comm p 2]
   rw [this]
   exact Int.mul_emod_right _ _
theorem mod2 (x:Int):0≤x%2∧x%2≤1:=by omega
theorem getD_snoc (l:List Int) (z:Int) (i:Nat):(l++[z]).getD i 0=if i<l.length then l.getD i 0 else if i=l.length then z else 0:=by
 split
 · rename_i h;simp [List.getElem?_append,h]
 · split
   · rename_i h;subst h;simp
   · rename_i h1 h2;rw [List.getD_eq_getElem?_getD,List.getElem?_eq_none (by simp;omega)];rfl
theorem BInv.step {l:List Int} {r:Int} (h:BInv l r) (x:Int):BInv (stepL l r x) (stepR l r):=by
 have hx:=mod2 x
 unfold stepL stepR
 by_cases hr:r=0
 · rw [if_pos hr,if_pos hr]
   have ht:=top_le l
   obtain⟨t,ht'⟩: ∃t:Nat,topM l=t+1:=⟨(topM l).toNat-1,by omega⟩
   have e:(topM l).toNat-1=t:=by omega
   have e':topM l-1=t:=by omega
   have hf:=add_fits 0 (x%2) t (by omega) (t+1) (Int.pow_pos (by omega)) (by omega) (by simp) hx
   simp only [Int.zero_add]at hf
   have h8:(2:Int)^(t+1)≤256:=by
    have:t=6∨t=7:=by omega
    rcases this with rfl|rfl<;>decide
   rw [e,e']
   refine⟨?_,by omega,by omega,fun _=>by simp,?_,?_,fun _=>by rw [List.dropLast_concat];omega⟩
   · intro z hz
     rcases List.mem_append.1 hz with hz|hz
     · exact h.bytes z hz
     · simp at hz;subst hz;omega
   · rw [lastM_snoc,Int.toNat_natCast];exact hf.2.2
   · intro i hi he
     rw [getD_snoc]at he ⊢
     simp at hi
     by_cases h1:i+1<l.length
     · rw [if_pos h1]
       rw [if_pos (by omega)]at he
       exact h.stuffed i h1 he
     · rw [if_neg h1,if_pos (by omega)]
       rw [if_pos (by omega)]at he
       have:lastM l=255:=by unfold lastM;rw [← he];congr 1;omega
       have h7:topM l=7:=if_pos this
       have:t=6:=by omega
       subst this
       have:x%2=0∨x%2=1:=by omega
       rcases this with e|e<;>rw [e]<;>decide
 · rw [if_neg hr,if_neg hr]
   have hl:=h.some_ (by have:=h.r0;omega)
   have hb:=lastM_byte h.bytes
   obtain⟨t,rfl⟩: ∃t:Nat,r=t+1:=⟨r.toNat-1,by have:=h.r0;omega⟩
   have e:((t:Int)+1).toNat-1=t:=by omega
   have e':(t:Int)+1-1=t:=by omega
   have e2:((t:Int)+1).toNat=t+1:=by omega
   have hlow:=h.low
   have h7:=h.r7
   rw [e2]at hlow
   rw [e,e']
   have hf:=add_fits (lastM l) (x%2) t hb.1 8 (by omega) (by omega) hlow hx
   rw [set_last l hl]
   have hmem: ∀z∈l.dropLast,0≤z∧z≤255:=fun z hz=>h.bytes z ((List.dropLast_sublist l).subset hz)
   have htop:=h.top (by omega)
   refine⟨?_,by omega,by omega,fun _=>by simp,?_,?_,fun _=>by rw [List.dropLast_concat];omega⟩
   · intro z hz
     rcases List.mem_append.1 hz with hz|hz
     · exact hmem z hz
     · simp at hz;subst hz;omega
   · rw [lastM_snoc];simpa using hf.2.2
   · intro i hi he
     have hst:=h.stuffed i
     rw [← snoc_last l hl,getD_snoc,getD_snoc]at hst
     rw [getD_snoc]at he ⊢
     simp only [List.length_append,List.length_dropLast,List.length_cons,List.length_nil]at hi hst he ⊢
     by_cases h1:i+1<l.length-1
     · rw [if_pos h1]
       rw [if_pos (by omega)]at he
       rw [if_pos h1,if_pos (by omega)]at hst
       exact hst (by omega) he
     · rw [if_neg h1,if_pos (by omega)]
       rw [if_pos (by omega)]at he
       rw [if_neg h1,if_pos (show i+1=l.length-1 by omega),if_pos (by omega)]at hst
       have:=hst (by omega) he
       have:=add_fits (lastM l) (x%2) t hb.1 7 (by omega) (by omega) hlow hx
       omega
theorem and_one (x:Int):bits .and .i64 x 1=x%2:=by
 have h1:((BitVec.ofInt 64 x&&&BitVec.ofInt 64 1).toNat:Int)=x%2:=by
  rw [BitVec.toNat_and]
  have:(BitVec.ofInt 64 1).toNat=1:=by decide
  rw [this,Nat.and_one_is_mod,BitVec.toNat_ofInt]
  omega
 show IntKind.i64.wrap ((BitVec.ofInt 64 x&&&BitVec.ofInt 64 1).toNat:Int)=_
 rw [h1,IntWalk.i64_in _ (by omega)]
theorem nat_or_add (z b r:Nat) (hz:z%2^(r+1)=0) (hb:b≤1):z|||b*2^r=z+b*2^r:=by
 obtain⟨k,rfl⟩:=Nat.dvd_of_mod_eq_zero hz
 have hlt:b*2^r<2^(r+1):=by
  rw [Nat.pow_succ]
  have:0<2^r:=Nat.two_pow_pos r
  have:b=0∨b=1:=by omega
  rcases this with rfl|rfl<;>omega
 rw [Nat.two_pow_add_eq_or_of_lt hlt]
theorem i64_or_nat (a b:Nat) (ha:a<9223372036854775808) (hb:b<9223372036854775808):bits .or .i64 (a:Int) (b:Int)=((a|||b:Nat):Int):=by
 have hx:a|||b<2^63:=Nat.or_lt_two_pow (by omega) (by omega)
 have e: ∀a:Nat,a<9223372036854775808→(BitVec.ofInt 64 (a:Int)).toNat=a:=fun a ha=>by
  rw [BitVec.ofInt_natCast,BitVec.toNat_ofNat];exact Nat.mod_eq_of_lt (by omega)
 show IntKind.i64.wrap ((BitVec.ofInt 64 (a:Int)|||BitVec.ofInt 64 (b:Int)).toNat:Int)=_
 rw [BitVec.toNat_or,e a ha,e b hb,IntWalk.i64_in _ (by omega)]
theorem pow_le_128 (t:Nat) (ht:t≤7):(1:Int)≤2^t∧(2:Int)^t≤128:=by
 have: ∀t:Nat,t≤7→(1:Int)≤2^t∧(2:Int)^t≤128:=by decide
 exact this t ht
theorem bit_pow (x:Int) (t:Nat) (ht:t≤7):0≤x%2*2^t∧x%2*2^t≤128:=by
 have:=pow_le_128 t ht
 have:x%2=0∨x%2=1:=by omega
 rcases this with e|e<;>rw [e]<;>omega
theorem orI_add (z x:Int) (t:Nat) (h0:0≤z) (h1:z≤255) (ht:t≤7) (hz:z%2^(t+1)=0):bits .or .i64 z (wrap64 (bits .and .i64 x 1*2^t))=z+x%2*2^t:=by
 have hbp:=bit_pow x t ht
 rw [and_one,IntWalk.wrap64_in _ (by omega)]
 obtain⟨Z,rfl⟩:=Int.eq_ofNat_of_zero_le h0
 obtain⟨b,hb⟩:=Int.eq_ofNat_of_zero_le (mod2 x).1
 rw [hb]at hbp ⊢
 have e3:(b:Int)*2^t=((b*2^t:Nat):Int):=by simp
 rw [e3]at hbp ⊢
 have hz':Z%2^(t+1)=0:=by
  have:((Z%2^(t+1):Nat):Int)=0:=by simpa using hz
  omega
 rw [i64_or_nat Z (b*2^t) (by omega) (by omega),nat_or_add Z b t hz' (by have:=(mod2 x).2;omega)]
 simp
def stepM (s:List Int×Int) (x:Int):List Int×Int:=(stepL s.1 s.2 x,stepR s.1 s.2)
def runM (s:List Int×Int) (bs:List Int):List Int×Int:=bs.foldl stepM s
def bitsOf (x:Int):Nat→List Int
 |0=>[]
 |k+1=>x/2^k%2::bitsOf x k
def numB (x size:Int):List Int:=if 1≤size∧size≤32 then bitsOf x size.toNat else []
theorem bitsOf_length (x:Int) (k:Nat):(bitsOf x k).length=k:=by induction k with|zero=>rfl|succ k ih=>simp [bitsOf,ih]
theorem numB_le (x size:Int):(numB x size).length≤32:=by
 unfold numB
 split
 · rw [bitsOf_length];omega
 · simp
theorem stepL_mod (l:List Int) (r x:Int):stepL l r (x%2)=stepL l r x:=by
 have:x%2%2=x%2:=by omega
 unfold stepL
 rw [this]
theorem stepL_length (l:List Int) (r x:Int):(stepL l r x).length≤l.length+1:=by
 unfold stepL
 split<;>simp
theorem runM_length (bs:List Int): ∀s,(runM s bs).1.length≤s.1.length+bs.length:=by
 induction bs with
 |nil=>intro s;simp [runM]
 |cons b bs ih=>
  intro s
  have h1:=ih (stepM s b)
  have h2:=stepL_length s.1 s.2 b
  show(runM (stepM s b) bs).1.length≤_
  simp only [stepM,List.length_cons]at*
  omega
theorem runM_inv (bs:List Int): ∀s,BInv s.1 s.2→BInv (runM s bs).1 (runM s bs).2:=by
 induction bs with
 |nil=>intro s h;exact h
 |cons b bs ih=>intro s h;exact ih (stepM s b) (h.step b)
def outB (l:List Int):List Int:=if lastM l=255 then l++[0]else l
theorem outB_le (l:List Int):(outB l).length≤l.length+1:=by unfold outB;split<;>simp
theorem outB_bytes {l:List Int} (h:Bytes l):Bytes (outB l):=by
 unfold outB
 split
 · intro z hz
   rcases List.mem_append.1 hz with hz|hz
   · exact h z hz
   · simp at hz;omega
 · exact h
def numU (zs:List Int):Int:=zs.foldl (fun a z=>a*256+z) 0
theorem or_byte (a z:Int) (ha:0≤a) (ha2:a<1099511627776) (hz:0≤z∧z≤255):bits .or .i64 (a*256) z=a*256+z:=by
 obtain⟨x,rfl⟩:=Int.eq_ofNat_of_zero_le ha
 obtain⟨y,rfl⟩:=Int.eq_ofNat_of_zero_le hz.1
 have e:((x:Int)*256)=((x*256:Nat):Int):=by omega
 rw [e,i64_or_nat (x*256) y (by omega) (by omega)]
 have h:=Nat.shiftLeft_add_eq_or_of_lt (a:=x) (b:=y) (i:=8) (by omega)
 rw [Nat.shiftLeft_eq]at h
 have e8:(2:Nat)^8=256:=rfl
 rw [e8]at h
 rw [← h]
 omega
theorem num_range : ∀(zs:List Int) (a:Int) (k:Nat),Bytes zs→0≤a→a<((256^k:Nat):Int)→0≤zs.foldl (fun a z=>a*256+z) a∧zs.foldl (fun a z=>a*256+z) a<((256^(k+zs.length):Nat):Int)
 |[],a,k,_,h0,h1=>⟨h0,h1⟩
 |z::zs,a,k,hb,h0,h1=>by
  have hz:=hb z (List.mem_cons_self ..)
  have e:(256:Nat)^(k+1)=256^k*256:=Nat.pow_succ ..
  have h:=num_range zs (a*256+z) (k+1) (fun y hy=>hb y (List.mem_cons_of_mem _ hy)) (by omega) (by omega)
  have e2:k+1+zs.length=k+(z::zs).length:=by simp;omega
  rw [e2]at h
  exact h
theorem numU_below {zs:List Int} (hb:Bytes zs) {k:Nat} (hn:zs.length≤k):0≤numU zs∧numU zs<((256^k:Nat):Int):=by
 have h:=num_range zs 0 0 hb (by omega) (by decide)
 have hp:256^(0+zs.length)≤256^k:=Nat.pow_le_pow_right (by omega) (by omega)
 unfold numU
 omega
theorem numU_range {zs:List Int} (hb:Bytes zs) (hn:zs.length≤4):0≤numU zs∧numU zs≤4294967295:=by
 have h:=numU_below hb hn
 have e:(256:Nat)^4=4294967296:=by decide +kernel
 rw [e]at h
 omega
theorem bytes_take {zs:List Int} (hb:Bytes zs) (k:Nat):Bytes (zs.take k):=fun z hz=>hb z (List.mem_of_mem_take hz)
theorem numU_take {zs:List Int} {i:Nat} (h:i<zs.length):numU (zs.take (i+1))=numU (zs.take i)*256+zs.getD i 0:=by
 unfold numU
 rw [List.take_add_one,List.foldl_append,List.getD_eq_getElem?_getD,List.getElem?_eq_getElem h]
 rfl
theorem number_any (w:World) (A:Option Addr) (n c:Nat) (zs:List Int) (hr:Rd w A n (zs.map (Value.int .u8))) (hby:Bytes zs) (hn:n≤4):
 Calls Tryz.prog 72 #[.slice A n c] w fun e w'=>e=.returned (.int .i64 (numU zs))∧w=w':=by
 have HR:=hid hr
 have HBY:=hid hby
 have hl:zs.length=n:=by have:=hr.len;simpa using this
 clear hr hby
 go_enter Tryz.func72,Tryz.ntmps72
 go_wp2_with fail
 go_loop [3,8] (fun u v=> ∃i:Nat,i≤n∧v=.int .i64 i∧u=.int .i64 (numU (zs.take i))) (fun _ v=>n-(intOf v).toNat)
 case atStart=>exact⟨0,by omega,rfl,rfl⟩
 case round=>
  obtain⟨i,hi,rfl,rfl⟩:=hrel
  by_cases hin:i<n
  · obtain⟨b,o,rfl,hz⟩:=HR.out.int_ix hin
    have hx:=HBY.out (zs.getD i 0) (by rw [List.getD_eq_getElem?_getD,List.getElem?_eq_getElem (by omega)];exact List.getElem_mem _)
    have hs:0≤numU (zs.take i)∧numU (zs.take i)≤16777215:=by
     have h:=numU_below (bytes_take HBY.out i) (k:=3) (by simp;omega)
     have e:(256:Nat)^3=16777216:=by decide +kernel
     rw [e]at h
     omega
    have hq:=or_byte (numU (zs.take i)) (zs.getD i 0) hs.1 (by omega) hx
    have HT:=hid (numU_take (zs:=zs) (i:=i) (by omega))
    generalize zs.getD i 0=x at*
    generalize numU (zs.take i)=a at*
    go_wp2_with fail
    exact⟨⟨i+1,by omega,by go_num,by rw [HT.out,←hq]⟩,by simp [intOf];omega⟩
  · obtain rfl:n=i:=by omega
    have e:zs.take n=zs:=List.take_of_length_le (by omega)
    rw [e]
    go_wp2_with fail
    go_ret
    exact⟨rfl,rfl⟩
def ceilI (a b:Int):Int:=if a<0 then -((-a)/b)else(a+b-1)/b
theorem within12_any (w:World) (x n:Int) (h0:-9223372036854775808≤x) (h1:x≤9223372036854775807) (hn:0<n) (hn2:n≤4294967296):
 Calls Tryz.prog 16 #[.int .i64 x,.int .i64 n] w fun e w'=>e=.returned (.int .i64 (x%n))∧w=w':=by
 obtain⟨t1,t2,t3,t4⟩:=tmod_fix x n hn
 have hz:(n==0)=false:=by simp;omega
 have hw:wrap64 (x.tmod n)=x.tmod n:=IntWalk.wrap64_in _ (by omega)
 have hw2:IntKind.i64.wrap (x.tmod n)=x.tmod n:=IntWalk.i64_in _ (by omega)
 by_cases hc:x.tmod n<0
 · have e:=t1 hc
   have HE:=hid e
   clear t1 t2 e
   go_enter Tryz.func16,Tryz.ntmps16
   go_wp2_with fail
   go_ret
   exact⟨by rw [← HE.out];rfl,rfl⟩
 · have e:=t2 (by omega)
   have HE:=hid e
   clear t1 t2 e
   go_enter Tryz.func16,Tryz.ntmps16
   go_wp2_with fail
   go_ret
   exact⟨by rw [← HE.out];rfl,rfl⟩
theorem ceilI_range {a b:Int} (ha:-1099511627776≤a) (ha2:a≤1099511627776) (hb:0<b):-1099511627776≤ceilI a b∧ceilI a b≤1099511627776:=by
 unfold ceilI
 split
 · have h1:=Int.ediv_nonneg (a:=-a) (b:=b) (by omega) (by omega)
   have h2:=Int.ediv_le_self b (a:=-a) (by omega)
   omega
 · have h1:=Int.ediv_nonneg (a:=a+b-1) (b:=b) (by omega) (by omega)
   have h2:(a+b-1)/b≤1099511627776:=by
    have:(a+b-1)/b<1099511627776+1:=Int.ediv_lt_of_lt_mul hb (by
     have:a*1≤1099511627776*b:=Int.mul_le_mul ha2 (by omega) (by omega) (by omega)
     omega)
    omega
   omega
theorem ceil_any (w:World) (a b:Int) (ha:-1099511627776≤a) (ha2:a≤1099511627776) (hb:0<b) (hb2:b≤1099511627776):
 Calls Tryz.prog 38 #[.int .i64 a,.int .i64 b] w fun e w'=>e=.returned (.int .i64 (ceilI a b))∧w=w':=by
 have hr:=ceilI_range ha ha2 hb
 have hz:(b==0)=false:=by simp;omega
 have hz2: ¬b=0:=by omega
 have hz3: ¬b=-1:=by omega
 by_cases h0:a<0
 · have hw1:IntKind.i64.wrap (0-a)=-a:=by rw [IntWalk.i64_in _ (by omega)];omega
   have hw1':IntKind.i64.wrap (-a)=-a:=IntWalk.i64_in _ (by omega)
   have ht:(-a).tdiv b=(-a)/b:=Int.tdiv_eq_ediv_of_nonneg (by omega)
   have hc:ceilI a b=-((-a)/b):=if_pos h0
   rw [hc]at hr
   have hw2:IntKind.i64.wrap ((-a)/b)=(-a)/b:=IntWalk.i64_in _ (by omega)
   have hw3:IntKind.i64.wrap (0-(-a)/b)=-((-a)/b):=by rw [IntWalk.i64_in _ (by omega)];omega
   have hw4:IntKind.i64.wrap (-((-a)/b))=-((-a)/b):=IntWalk.i64_in _ (by omega)
   have HC:=hid hc
   clear hc hr
   go_enter Tryz.func38,Tryz.ntmps38
   go_wp2_with fail
   go_ret
   exact⟨by rw [HC.out];rfl,rfl⟩
 · have hw1:IntKind.i64.wrap (a+b)=a+b:=IntWalk.i64_in _ (by omega)
   have hw2:IntKind.i64.wrap (a+b-1)=a+b-1:=IntWalk.i64_in _ (by omega)
   have ht:(a+b-1).tdiv b=(a+b-1)/b:=Int.tdiv_eq_ediv_of_nonneg (by omega)
   have hc:ceilI a b=(a+b-1)/b:=if_neg h0
   rw [hc]at hr
   have hw3:IntKind.i64.wrap ((a+b-1)/b)=(a+b-1)/b:=IntWalk.i64_in _ (by omega)
   have HC:=hid hc
   clear hc hr
   go_enter Tryz.func38,Tryz.ntmps38
   go_wp2_with fail
   go_ret
   exact⟨by rw [HC.out];rfl,rfl⟩
structure Rc where
 x0:Int
 y0:Int
 x1:Int
 y1:Int
def Rc.val (r:Rc):Value:=.agg #[.int .i64 r.x0,.int .i64 r.y0,.int .i64 r.x1,.int .i64 r.y1]
def Rc.fits (r:Rc) (B:Int):Prop:=(-B≤r.x0∧r.x0≤B)∧(-B≤r.y0∧r.y0≤B)∧(-B≤r.x1∧r.x1≤B)∧(-B≤r.y1∧r.y1≤B)
def Rc.area (r:Rc):Int:=max (r.x1-r.x0) 0*max (r.y1-r.y0) 0
theorem area_any (w:World) (r:Rc) (h:r.fits 16777216):
 Calls Tryz.prog 30 #[r.val] w fun e w'=>e=.returned (.int .i64 r.area)∧Keep (fun _=>False) w w':=by
 obtain⟨x0,y0,x1,y1⟩:=r
 obtain⟨h1,h2,h3,h4⟩:=h
 simp only at h1 h2 h3 h4
 have hb:=Blk.new w 63 #[.int .i64 x0,.int .i64 y0,.int .i64 x1,.int .i64 y1]
 have c0:=hb.cell 0
 have c1:=hb.cell 1
 have c2:=hb.cell 2
 have c3:=hb.cell 3
 simp at c0 c1 c2 c3
 have hw1:IntKind.i64.wrap (x1-x0)=x1-x0:=IntWalk.i64_in _ (by omega)
 have hw2:IntKind.i64.wrap (y1-y0)=y1-y0:=IntWalk.i64_in _ (by omega)
 have hp:0≤max (x1-x0) 0*max (y1-y0) 0∧max (x1-x0) 0*max (y1-y0) 0≤33554432*33554432:=⟨Int.mul_nonneg (by omega) (by omega),Int.mul_le_mul (by omega) (by omega) (by omega) (by omega)⟩
 have hw3:IntKind.i64.wrap (max (x1-x0) 0*max (y1-y0) 0)=max (x1-x0) 0*max (y1-y0) 0:=IntWalk.i64_in _ (by omega)
 have HK:=hid ((Keep.refl (fun _=>False) w).alloc (.cells #[.int .i64 x0,.int .i64 y0,.int .i64 x1,.int .i64 y1] 63))
 have HW3:=hid (show 0≤x1-x0→0≤y1-y0→wrap64 ((x1-x0)*(y1-y0))=(x1-x0)*(y1-y0)from fun h1 h2=>IntWalk.wrap64_in _ (by rw [show max (x1-x0) 0=x1-x0 by omega,show max (y1-y0) 0=y1-y0 by omega]at hp;omega))
 clear hp hw3
 unfold Rc.val Rc.area
 simp only
 rcases Int.lt_or_le (x1-x0) 0 with hA|hA<;>rcases Int.lt_or_le (y1-y0) 0 with hB|hB
 all_goals(
  go_enter Tryz.func30,Tryz.ntmps30
  go_wp2_with fail
  go_ret
  refine⟨?_,HK.out⟩
  first
  |exact congrArg (fun z=>Ending.returned (Value.int .i64 z)) (show(0:Int)=_ by rw [show max (x1-x0) 0=0 by omega];simp)
  |exact congrArg (fun z=>Ending.returned (Value.int .i64 z)) (show(0:Int)=_ by rw [show max (y1-y0) 0=0 by omega];simp)
  |exact congrArg (fun z=>Ending.returned (Value.int .i64 z)) (show wrap64 ((x1-x0)*(y1-y0))=_ by rw [show max (x1-x0) 0=x1-x0 by omega,show max (y1-y0) 0=y1-y0 by omega];exact HW3.out (by omega) (by omega)))
def halfI (d:Nat):Int:=((2^(d-1):Nat):Int)
def loB (d:Nat) (sg:Bool):Int:=if sg then -(halfI d)else 0
def hiB (d:Nat) (sg:Bool):Int:=if sg then halfI d-1 else 2*halfI d-1
theorem bounds_any (w:World) (d:Nat) (sg:Bool) (h1:1≤d) (h2:d≤10):
 Calls Tryz.prog 18 #[.int .i64 (d:Int),.bool sg] w fun e w'=>e=.returned (.tuple #[.int .i64 (loB d sg),.int .i64 (hiB d sg)])∧w=w':=by
 rcases (show d=1∨d=2∨d=3∨d=4∨d=5∨d=6∨d=7∨d=8∨d=9∨d=10 by omega)with rfl|rfl|rfl|rfl|rfl|rfl|rfl|rfl|rfl|rfl<;>cases sg
 all_goals(
  go_enter Tryz.func18,Tryz.ntmps18
  go_wp2_with fail
  refine bodyPost_ret (v:=.tuple #[_,_]) (by simp [results,Tryz.results18,go_sem];exact⟨rfl,rfl⟩) rfl ⟨rfl,rfl⟩)
theorem Blk.row {w:World} {g:Nat} {t:TypeId} {cs cs':Array Value} (h:Blk w g t cs):Blk (w.setRow g cs') g t cs':=by
 show(w.heap.modify g _)[g]? =_
 rw [Array.getElem?_modify,if_pos rfl,show w.heap[g]? =some (.cells cs t (0,0))from h]
 rfl
theorem Keep.row {S:Nat→Prop} {a w:World} (h:Keep S a w) {g:Nat} (hg:S g∨a.heap.size≤g) (cs:Array Value):Keep S a (w.setRow g cs):=by
 refine⟨h.os,h.tape,h.output,?_,?_⟩
 · have:=h.size
   show _≤(w.heap.modify g _).size
   rwa [Array.size_modify]
 · intro i hi hS
   show(w.heap.modify g _)[i]? =_
   have:g≠i:=fun e=>by
    subst e;rcases hg with hg|hg
    · exact hS hg
    · omega
   rw [Array.getElem?_modify,if_neg this]
   exact h.block i hi hS
theorem Blk.new1 (w:World) (o:Obj) (t:TypeId) (cs:Array Value):Blk ((w.alloc o).alloc (.cells cs t)) (w.heap.size+1) t cs:=by have:=Blk.new (w.alloc o) t cs;simpa using this
theorem Blk.new2 (w:World) (o o2:Obj) (t:TypeId) (cs:Array Value):Blk (((w.alloc o).alloc o2).alloc (.cells cs t)) (w.heap.size+2) t cs:=by have:=Blk.new1 (w.alloc o) o2 t cs;simpa [Nat.add_assoc]using this
theorem alloc_new {w wn:World} {cs:Array Value} {t:TypeId} (h:w.alloc (.cells cs t)=wn):Keep (fun _=>False) w wn∧Blk wn w.heap.size t cs:=by
 subst h
 exact⟨(Keep.refl _ w).alloc _,Blk.new w t cs⟩
theorem Keep.size' {S:Nat→Prop} {a w:World} (h:Keep S a w) {n:Nat} (hn:n≤a.heap.size):n≤w.heap.size:=Nat.le_trans hn h.size
theorem Blk.range {w:World} {g:Nat} {t:TypeId} {cs:Array Value} (h:Blk w g t cs):w.rangeAt g 0 cs.toList:=by
 intro j v hv
 rw [Nat.zero_add,h.cell]
 simpa using hv
theorem range_keep {w w':World} {b o:Nat} {cs:List Value} (h:w.rangeAt b o cs) {S:Nat→Prop} (hk:Keep S w w') (hS: ¬S b):w'.rangeAt b o cs:=
 fun j v hv=>hk.cell (h j v hv) hS
theorem ret_row {P:Program} {fn:Func} {p:Tmp} {ty:TypeId} (h:fn.results=#[.cell p ty]) (tmps:Array Value) (w:World) (g:Nat) (t:TypeId) (cs:Array Value) (d:TypeDesc)
 (hg:Blk w g t cs) (hp:tmps.getD p undef=.pointer (some ⟨g,0,none⟩))
 (hu:P.underlying ty=some d) (hd:(match d with|.struct _|.array _ _=>true|_=>false)=true) (hi:(P.info? ty).map (·.size)=some cs.size):
 (results fn tmps).run P w=.ok (.agg cs) w:=results_cell_row h tmps w g t cs (0,0) d hp hg hu hd hi
section
variable {P :Program} {ops:Array Oper} {Q:Exit→Act→World→Prop}
theorem wp_max {o:Oper} {a:Act} {w:World} {K:Act→World→Prop} (x y:Operand) (ts:Array TypeId) (ho:o.op=.call { callee:=.builtin .max,args:=#[x,y],argTypes:=ts })
 (p q:Int) (hx:a.eval x=.int .i64 p) (hy:a.eval y=.int .i64 q) (h:K (a.put o.dst (.int .i64 (max p q))) w):o.wp P a w K Q:=by
 have e:(if q>p then q else p)=max p q:=by split<;>omega
 unfold Oper.wp execOp
 simp only [ho,resolve,invoke,builtin,Sem.run_bind,Sem.run_pure,Result.andThen_ok,List.map_toArray,List.map_cons,List.map_nil,hx,hy,Builtin.max_,List.foldlM,Builtin.max2,e]
 exact h
theorem wp_min {o:Oper} {a:Act} {w:World} {K:Act→World→Prop} (x y:Operand) (ts:Array TypeId) (ho:o.op=.call { callee:=.builtin .min,args:=#[x,y],argTypes:=ts })
 (p q:Int) (hx:a.eval x=.int .i64 p) (hy:a.eval y=.int .i64 q) (h:K (a.put o.dst (.int .i64 (min p q))) w):o.wp P a w K Q:=by
 have e:(if q<p then q else p)=min p q:=by split<;>omega
 unfold Oper.wp execOp
 simp only [ho,resolve,invoke,builtin,Sem.run_bind,Sem.run_pure,Result.andThen_ok,List.map_toArray,List.map_cons,List.map_nil,hx,hy,Builtin.min_,List.foldlM,Builtin.min2,e]
 exact h
theorem wpList_max {rest:List Oper} {o:Oper} {a:Act} {w:World} (hgd:o.guard=none) (x y:Operand) (ts:Array TypeId) (ho:o.op=.call { callee:=.builtin .max,args:=#[x,y],argTypes:=ts })
 (p q:Int) (hx:a.eval x=.int .i64 p) (hy:a.eval y=.int .i64 q) (h:wpList P ops Q rest (a.put o.dst (.int .i64 (max p q))) w):wpList P ops Q (o::rest) a w:=
 wpList_plain hgd fun _ hK=>wp_max x y ts ho p q hx hy (hK _ _ h)
theorem wpList_min {rest:List Oper} {o:Oper} {a:Act} {w:World} (hgd:o.guard=none) (x y:Operand) (ts:Array TypeId) (ho:o.op=.call { callee:=.builtin .min,args:=#[x,y],argTypes:=ts })
 (p q:Int) (hx:a.eval x=.int .i64 p) (hy:a.eval y=.int .i64 q) (h:wpList P ops Q rest (a.put o.dst (.int .i64 (min p q))) w):wpList P ops Q (o::rest) a w:=
 wpList_plain hgd fun _ hK=>wp_min x y ts ho p q hx hy (hK _ _ h)
end
section
variable {P :Program} {ops:Array Oper} {Q:Exit→Act→World→Prop} {md:Region.Mode}
theorem At.two_all (i j:Nat) {oi oj:Oper} {f:Nat} {pend:List (Nat×(World→Prop))} {L:Array Bool} {a:Act} {w:World} (hi:ops[i]? =some oi) (hj:ops[j]? =some oj) (hr:(Region.ready md ops L==[i,j])=true)
 (hwi:Region.wanted oi (yielded ops a.tmps)=true) (hwj:Region.wanted oj (yielded ops a.tmps)=true)
 (h1: ∀K:Act→World→Prop,(∀ a' w',(∀ p∈pend,p.2 w')→At P md ops Q f pend (L.setIfInBounds i true) a' w'→K a' w')→Oper.wp P oi a w K Q)
 (h2: ∀K:Act→World→Prop,(∀ a' w',(∀ p∈pend,p.2 w')→At P md ops Q f pend (L.setIfInBounds j true) a' w'→K a' w')→Oper.wp P oj a w K Q):At P md ops Q (f+1) pend L a w:=by
 intro hp
 have hr':Region.ready md ops L=[i,j]:=by simpa using hr
 have one: ∀(k:Nat) (ok:Oper),ops[k]? =some ok→Region.wanted ok (yielded ops a.tmps)=true→
  (∀ K:Act→World→Prop,(∀ a' w',(∀ p∈pend,p.2 w')→At P md ops Q f pend (L.setIfInBounds k true) a' w'→K a' w')→Oper.wp P ok a w K Q)→
  wpOp P ops Q k (fun a' w'=>(∀ p∈pend,tdep md ops ops.size k p.1=false→p.2 w')∧wpP P md ops Q f (pend.filter fun p=>!tdep md ops ops.size k p.1) (L.setIfInBounds k true) a' w') a w:=fun k ok hk hw h=>by
  have hh:=h (fun a' w'=>(∀ p∈pend,tdep md ops ops.size k p.1=false→p.2 w')∧wpP P md ops Q f (pend.filter fun p=>!tdep md ops ops.size k p.1) (L.setIfInBounds k true) a' w') (fun a' w' hq hA=>
   ⟨fun p hp1 _=>hq p hp1,wpP_mono f pend _ _ a' w' (fun p hp1=>(List.mem_filter.1 hp1).1) (hA hq)⟩)
  unfold wpOp
  simp only [hk,hw,if_true]
  exact .inl hh
 refine⟨fun h0=>(by rw [hr']at h0;cases h0),fun k hk=>?_⟩
 rw [hr']at hk
 rcases List.mem_cons.1 hk with rfl|hk
 · exact one _ oi hi hwi h1
 · obtain rfl:k=j:=by simpa using hk
   exact one _ oj hj hwj h2
theorem run_load1 {w:World} {ty:TypeId} {d:TypeDesc} {p:Addr} {v:Value} (hu:P.underlying ty=some d) (hd:d.isRow=false) (hc:w.cell? p=some v):(Instr.loadAt ty (.pointer (some p))).run P w=.ok v w:=by
 have hagg:(isAgg ty).run P w=.ok false w:=by
  unfold isAgg
  rw [Sem.run_bind,run_underlying hu w]
  cases d<;>simp_all [TypeDesc.isRow]
 simp [Instr.loadAt,Instr.sureAddr,loadVar,Sem.run_bind,hagg,hc]
theorem At.load (i:Nat) (d:Option Tmp) {oi:Oper} {ty:TypeId} {x:Operand} {td:TypeDesc} {p:Addr} {v:Value} {f:Nat} {pend:List (Nat×(World→Prop))} {L:Array Bool} {a:Act} {w:World} (hi:ops[i]? =some oi) (hd:oi.dst=d) (hb:takeB md ops L i=true)
 (hQ: ∀c a w,Q (.panic c) (a.put d v) w→Q (.panic c) a w) (hw:Region.wanted oi (yielded ops a.tmps)=true) (ho:oi.op=.load ty x) (hu:P.underlying ty=some td) (hr:td.isRow=false) (hx:a.eval x=.pointer (some p)) (hc:w.cell? p=some v)
 (h:At P md ops Q f ((i,fun w'=>w'.cell? p=some v)::pend) (L.setIfInBounds i true) (a.put d v) w):At P md ops Q (f+1) pend L a w:=
 At.read i d (fun w'=>w'.cell? p=some v) hi hd hb hQ hw hc (fun w' hc'=>by
  unfold execOp
  simp only [ho,hx,Sem.run_bind,run_load1 hu hr hc',Result.andThen_ok,Sem.run_pure]) h
theorem At.loadRow (i:Nat) (d:Option Tmp) {oi:Oper} {ty:TypeId} {x:Operand} {td:TypeDesc} {b o:Nat} {cs:List Value} {f:Nat} {pend:List (Nat×(World→Prop))} {L:Array Bool} {a:Act} {w:World} (hi:ops[i]? =some oi) (hd:oi.dst=d) (hb:takeB md ops L i=true)
 (hQ: ∀c a w,Q (.panic c) (a.put d (.agg cs.toArray)) w→Q (.panic c) a w) (hw:Region.wanted oi (yielded ops a.tmps)=true) (ho:oi.op=.load ty x) (hu:P.underlying ty=some td) (hr:td.isRow=true) (hx:a.eval x=.pointer (some ⟨b,o,none⟩)) (hc:w.rangeAt b o cs) (hs:(P.info? ty).map (·.size)=some cs.length)
 (h:At P md ops Q f ((i,fun w'=>w'.rangeAt b o cs)::pend) (L.setIfInBounds i true) (a.put d (.agg cs.toArray)) w):At P md ops Q (f+1) pend L a w:=
 At.read i d (fun w'=>w'.rangeAt b o cs) hi hd hb hQ hw hc (fun w' hc'=>by
  unfold execOp
  simp only [ho,hx,Instr.loadAt,Instr.sureAddr,Sem.run_bind,Sem.run_pure,Result.andThen_ok,run_loadVar_mid w' b o ty cs td hc' hu hr hs]) h
theorem AtL (i:Nat) (d:Tmp) {oi:Oper} {ty:TypeId} {x:Operand} {td:TypeDesc} {p:Addr} {v:Value} {f:Nat} {pend:List (Nat×(World→Prop))} {L L':Array Bool} {a a':Act} {w:World} (hu:P.underlying ty=some td)
 (h:At P md ops Q f ((i,fun w'=>w'.cell? p=some v)::pend) L' a' w) (hi:ops[i]? =some oi:=by exact rfl) (hd:oi.dst=some d:=by exact rfl) (hb:takeB md ops L i=true:=by kernel_rfl)
 (hQ: ∀c a w,Q (.panic c) (a.put (some d) v) w→Q (.panic c) a w:=by exact fun _ _ _ h=>h) (hw:Region.wanted oi (yielded ops a.tmps)=true:=by exact rfl) (ho:oi.op=.load ty x:=by exact rfl) (hr:td.isRow=false:=by exact rfl) (hx:a.eval x=.pointer (some p):=by exact rfl) (hc:w.cell? p=some v:=by assumption) (hL:L.setIfInBounds i true=L':=by simp only [NS];try exact rfl) (ha:a.put (some d) v=a':=by simp only [NS];try exact rfl):At P md ops Q (f+1) pend L a w:=
 At.load i (some d) hi hd hb hQ hw ho hu hr hx hc (by rw [hL,ha];exact h)
theorem AtLo (i:Nat) (d:Option Tmp) {oi:Oper} {ty:TypeId} {x:Operand} {td:TypeDesc} {p:Addr} {v:Value} {f:Nat} {pend:List (Nat×(World→Prop))} {L:Array Bool} {a:Act} {w:World} (hu:P.underlying ty=some td)
 (h:At P md ops Q f ((i,fun w'=>w'.cell? p=some v)::pend) (L.setIfInBounds i true) (a.put d v) w) (hi:ops[i]? =some oi:=by exact rfl) (hd:oi.dst=d:=by exact rfl) (hb:takeB md ops L i=true:=by kernel_rfl)
 (hQ: ∀c a w,Q (.panic c) (a.put d v) w→Q (.panic c) a w:=by exact fun _ _ _ h=>h) (hw:Region.wanted oi (yielded ops a.tmps)=true:=by exact rfl) (ho:oi.op=.load ty x:=by exact rfl) (hr:td.isRow=false:=by exact rfl) (hx:a.eval x=.pointer (some p):=by exact rfl) (hc:w.cell? p=some v:=by assumption):At P md ops Q (f+1) pend L a w:=
 At.load i d hi hd hb hQ hw ho hu hr hx hc h
theorem AtR (i:Nat) (d:Tmp) {oi:Oper} {ty:TypeId} {x:Operand} {td:TypeDesc} {b o:Nat} {cs:List Value} {f:Nat} {pend:List (Nat×(World→Prop))} {L L':Array Bool} {a a':Act} {w:World} (hu:P.underlying ty=some td)
 (h:At P md ops Q f ((i,fun w'=>w'.rangeAt b o cs)::pend) L' a' w) (hi:ops[i]? =some oi:=by exact rfl) (hd:oi.dst=some d:=by exact rfl) (hb:takeB md ops L i=true:=by kernel_rfl)
 (hQ: ∀c a w,Q (.panic c) (a.put (some d) (.agg cs.toArray)) w→Q (.panic c) a w:=by exact fun _ _ _ h=>h) (hw:Region.wanted oi (yielded ops a.tmps)=true:=by exact rfl) (ho:oi.op=.load ty x:=by exact rfl) (hr:td.isRow=true:=by exact rfl) (hx:a.eval x=.pointer (some ⟨b,o,none⟩):=by exact rfl) (hc:w.rangeAt b o cs:=by assumption) (hs:(P.info? ty).map (·.size)=some cs.length:=by kernel_rfl) (hL:L.setIfInBounds i true=L':=by simp only [NS];try exact rfl) (ha:a.put (some d) (.agg cs.toArray)=a':=by simp only [NS];try exact rfl):At P md ops Q (f+1) pend L a w:=
 At.loadRow i (some d) hi hd hb hQ hw ho hu hr hx hc hs (by rw [hL,ha];exact h)
theorem AtRo (i:Nat) (d:Option Tmp) {oi:Oper} {ty:TypeId} {x:Operand} {td:TypeDesc} {b o:Nat} {cs:List Value} {f:Nat} {pend:List (Nat×(World→Prop))} {L:Array Bool} {a:Act} {w:World} (hu:P.underlying ty=some td)
 (h:At P md ops Q f ((i,fun w'=>w'.rangeAt b o cs)::pend) (L.setIfInBounds i true) (a.put d (.agg cs.toArray)) w) (hi:ops[i]? =some oi:=by exact rfl) (hd:oi.dst=d:=by exact rfl) (hb:takeB md ops L i=true:=by kernel_rfl)
 (hQ: ∀c a w,Q (.panic c) (a.put d (.agg cs.toArray)) w→Q (.panic c) a w:=by exact fun _ _ _ h=>h) (hw:Region.wanted oi (yielded ops a.tmps)=true:=by exact rfl) (ho:oi.op=.load ty x:=by exact rfl) (hr:td.isRow=true:=by exact rfl) (hx:a.eval x=.pointer (some ⟨b,o,none⟩):=by exact rfl) (hc:w.rangeAt b o cs:=by assumption) (hs:(P.info? ty).map (·.size)=some cs.length:=by kernel_rfl):At P md ops Q (f+1) pend L a w:=
 At.loadRow i d hi hd hb hQ hw ho hu hr hx hc hs h
theorem At.max (i:Nat) (d:Option Tmp) {oi:Oper} {x y:Operand} {ts:Array TypeId} {p q:Int} {f:Nat} {pend:List (Nat×(World→Prop))} {L:Array Bool} {a:Act} {w:World} (hi:ops[i]? =some oi) (hd:oi.dst=d) (hb:takeB md ops L i=true)
 (hQ: ∀c a w,Q (.panic c) (a.put d (.int .i64 (Max.max p q))) w→Q (.panic c) a w) (hw:Region.wanted oi (yielded ops a.tmps)=true) (ho:oi.op=.call { callee:=.builtin .max,args:=#[x,y],argTypes:=ts }) (hx:a.eval x=.int .i64 p) (hy:a.eval y=.int .i64 q)
 (h:At P md ops Q f ((i,fun _=>True)::pend) (L.setIfInBounds i true) (a.put d (.int .i64 (Max.max p q))) w):At P md ops Q (f+1) pend L a w:=
 At.read i d (fun _=>True) hi hd hb hQ hw trivial (fun w' _=>by
  have e:(if q>p then q else p)=Max.max p q:=by split<;>omega
  unfold execOp
  simp only [ho,resolve,invoke,builtin,Sem.run_bind,Sem.run_pure,Result.andThen_ok,List.map_toArray,List.map_cons,List.map_nil,hx,hy,Builtin.max_,List.foldlM,Builtin.max2,e]) h
theorem At.min (i:Nat) (d:Option Tmp) {oi:Oper} {x y:Operand} {ts:Array TypeId} {p q:Int} {f:Nat} {pend:List (Nat×(World→Prop))} {L:Array Bool} {a:Act} {w:World} (hi:ops[i]? =some oi) (hd:oi.dst=d) (hb:takeB md ops L i=true)
 (hQ: ∀c a w,Q (.panic c) (a.put d (.int .i64 (Min.min p q))) w→Q (.panic c) a w) (hw:Region.wanted oi (yielded ops a.tmps)=true) (ho:oi.op=.call { callee:=.builtin .min,args:=#[x,y],argTypes:=ts }) (hx:a.eval x=.int .i64 p) (hy:a.eval y=.int .i64 q)
 (h:At P md ops Q f ((i,fun _=>True)::pend) (L.setIfInBounds i true) (a.put d (.int .i64 (Min.min p q))) w):At P md ops Q (f+1) pend L a w:=
 At.read i d (fun _=>True) hi hd hb hQ hw trivial (fun w' _=>by
  have e:(if q<p then q else p)=Min.min p q:=by split<;>omega
  unfold execOp
  simp only [ho,resolve,invoke,builtin,Sem.run_bind,Sem.run_pure,Result.andThen_ok,List.map_toArray,List.map_cons,List.map_nil,hx,hy,Builtin.min_,List.foldlM,Builtin.min2,e]) h
end
section
variable {P :Program} {ops:Array Oper} {Q:Exit→Act→World→Prop} {md:Region.Mode} {T:World→Prop}
def Gives (P:Program) (ops:Array Oper) (T:World→Prop) (o:Oper) (v:Value) (a:Act):Prop:=
 Region.wanted o (yielded ops a.tmps)=true∧ ∃f args,∀w,T w→(execOp a.eval o).run P w=.ok (.enter f args) w∧Calls P f args w (fun e w'=>e=.returned v∧w'=w)
theorem Gives.wpOp {i:Nat} {o:Oper} {v:Value} {a:Act} (hi:ops[i]? =some o) (hy:Gives P ops T o v a) {K:Act→World→Prop} {w:World} (hS:T w) (h:K (a.put o.dst v) w):wpOp P ops Q i K a w:=by
 unfold Go.wpOp
 simp only [hi]
 obtain⟨hw,f,args,hv⟩:=hy
 obtain⟨h1,h2⟩:=hv w hS
 simp only [hw,if_true,Oper.wp,h1,Oper.upon]
 exact .inl (Calls.mono h2 fun e w'' he=>by obtain⟨rfl,rfl⟩:=he;exact h)
theorem Gives.of_same {o:Oper} {v:Value} {a a':Act} (hy:Gives P ops T o v a) (he:execOp a'.eval o=execOp a.eval o)
 (hw:Region.wanted o (yielded ops a'.tmps)=Region.wanted o (yielded ops a.tmps)):Gives P ops T o v a':=by
 unfold Gives at*
 rw [he,hw]
 exact hy
theorem wpOp_putG {j:Nat} {oi oj:Oper} {v:Value} (hj:ops[j]? =some oj) (hap:oi.apart ops oj=true)
 (hsi: ∀cs b,oi.op≠.select cs b) (hsj: ∀cs b,oj.op≠.select cs b)
 (hQ: ∀c a w,Q (.panic c) (a.put oi.dst v) w→Q (.panic c) a w) {K:Act→World→Prop} {a:Act} {w:World}
 (hy:Gives P ops T oi v a) (h:wpOp P ops Q j K (a.put oi.dst v) w):
 wpOp P ops Q j (fun a' w'=>Gives P ops T oi v a'∧K (a'.put oi.dst v) w') a w:=by
 obtain⟨h1,h2,h3⟩:=Oper.apart_spec hap
 have keep: ∀(a:Act),Gives P ops T oi v a→ ∀u,Gives P ops T oi v (a.put oj.dst u):=fun a hy u=>
  hy.of_same (execOp_put oi hsi a oj.dst u h3) (wanted_put oi a oj.dst u h3)
 have keepD: ∀d,Gives P ops T oi v { a with defers:=d::a.defers }:=fun d=>hy.of_same rfl rfl
 unfold Go.wpOp at*
 simp only [hj]at*
 rw [wanted_put oj a oi.dst v h1]at h
 split
 · rename_i hw
   simp only [hw,if_true]at h
   rcases h with h|⟨hasks,hlets⟩
   case inr=>exact .inr ⟨by unfold Oper.asks at *;rw [execOp_put oj hsj a oi.dst v h1]at hasks;exact hasks,hlets⟩
   refine .inl ?_
   unfold Oper.wp at*
   rw [execOp_put oj hsj a oi.dst v h1]at h
   generalize (execOp a.eval oj).run P w=r at*
   cases r with
   |ok n w'=>
    cases n<;>simp only [Oper.upon]at h ⊢
    case value u=>exact⟨keep a hy u,by rw [← Act.put_comm a v u h2];exact h⟩
    case skip=>exact⟨keep a hy _,by rw [← Act.put_comm a v undef h2];exact h⟩
    case defer d=>
     refine⟨keep _ (keepD d) _,?_⟩
     rw [← Act.put_comm _ v undef h2,←Act.put_defers]
     exact h
    case enter f args=>
     refine Calls.mono h fun e w'' he=>?_
     cases e with
     |returned u=>exact⟨keep a hy u,by rw [← Act.put_comm a v u h2];exact he⟩
     |panicked c=>exact hQ _ _ _ he
     |outgrown=>exact he
    case row row args=>exact Rows.mono h fun u w'' he=>⟨keep a hy u,by rw [← Act.put_comm a v u h2];exact he⟩
   |halt x w'=>
    cases x<;>simp only [Oper.upon]at h ⊢
    case panic u=>exact hQ _ _ _ h
 · rename_i hw
   simp only [hw]at h
   exact⟨keep a hy _,by rw [← Act.put_comm a v undef h2];exact h⟩
theorem wpP_firstG {i:Nat} {oi:Oper} {v:Value} {T:World→Prop} (hi:ops[i]? =some oi) (hsel: ∀(j:Nat) (o:Oper) cs b,ops[j]? =some o→o.op≠.select cs b)
 (hQ: ∀c a w,Q (.panic c) (a.put oi.dst v) w→Q (.panic c) a w):
 ∀(f:Nat) (pend:List (Nat×(World→Prop))) (L:Array Bool) (a:Act) (w:World),Closed md ops L→
  (∀ j oj,ops[j]? =some oj→j≠i→L.getD j true=false→(∀ e∈oj.after,Region.binds md e=true→e.on≠i)→oi.apart ops oj=true)→
  i∈Region.ready md ops L→Gives P ops T oi v a→T w→(∀ p∈pend,p.2 w)→
  wpP P md ops Q f ((i,T)::pend) (L.setIfInBounds i true) (a.put oi.dst v) w→wpP P md ops Q (f+1) pend L a w:=by
 intro f
 induction f with
 |zero=>
  intro pend L a w _ _ hr hy hT hp H
  refine⟨fun h=>(by rw [h]at hr;cases hr),fun j hj=>?_⟩
  by_cases hji:j=i
  · subst hji;exact hy.wpOp hi hT ⟨fun p hp' _=>hp p hp',H⟩
  · have:=ready_mono hj hji
    rw [H.1]at this
    cases this
 |succ f ih=>
  intro pend L a w hc hfree hr hy hT hp H
  refine⟨fun h=>(by rw [h]at hr;cases hr),fun j hj=>?_⟩
  by_cases hji:j=i
  · subst hji
    exact hy.wpOp hi hT ⟨fun p hp' _=>hp p hp',wpP_mono _ _ _ _ _ _ (fun p hp'=>List.mem_cons_of_mem _ (List.mem_filter.1 hp').1) H⟩
  · have h1:=H.2 j (ready_mono hj hji)
    obtain⟨hjun,oj,hoj,hall⟩:=mem_ready.1 hj
    have hil: ¬L.getD i false=true:=by
     intro h1
     have h0:=(mem_ready.1 hr).1
     rcases Nat.lt_or_ge i L.size with h'|h'
     · simp [h']at h0 h1;rw [h0]at h1;cases h1
     · simp [Array.getElem?_eq_none h']at h1
    have hnot: ∀e∈oj.after,Region.binds md e=true→e.on≠i:=fun e he hb heq=>hil (by rw [← heq];exact hall e he hb)
    have htd:tdep md ops ops.size j i=false:=by
     cases h:tdep md ops ops.size j i with
     |false=>rfl
     |true=>exact absurd (tdep_sound hc _ _ _ _ hoj hall h) hil
    have h2:=wpOp_putG hoj (hfree j oj hoj hji hjun hnot) (fun cs b=>hsel i oi cs b hi) (fun cs b=>hsel j oj cs b hoj) hQ hy h1
    have hfree': ∀k ok,ops[k]? =some ok→k≠i→(L.setIfInBounds j true).getD k true=false→
     (∀ e∈ok.after,Region.binds md e=true→e.on≠i)→oi.apart ops ok=true:=fun k ok hk hki hun hno=>by
     refine hfree k ok hk hki ?_ hno
     by_cases hjk:j=k
     · subst hjk;exact hjun
     · rw [getD_set_ne true hjk]at hun;exact hun
    refine wpOp_mono (fun a' w' h3=>?_) h2
    obtain⟨hy',hobl,hw'⟩:=h3
    refine⟨fun p hp'=>hobl p (List.mem_cons_of_mem _ hp'),?_⟩
    refine ih _ (L.setIfInBounds j true) a' w' (closed_set hc hoj hall) hfree' (ready_mono hr (Ne.symm hji)) hy' (hobl (i,T) (List.mem_cons_self ..) htd) (fun p hp'=>?_) ?_
    · rw [List.mem_filter]at hp'
      exact hobl p (List.mem_cons_of_mem _ hp'.1) (by simpa using hp'.2)
    · rw [Array.setIfInBounds_comm _ _ hji]
      rw [List.filter_cons_of_pos (by simp [htd])]at hw'
      exact hw'
theorem At.given (i:Nat) (d:Option Tmp) (v:Value) {fn:FuncId} {args:Array Value} {oi:Oper} {f:Nat} {pend:List (Nat×(World→Prop))} {L:Array Bool} {a:Act} {w:World} (hi:ops[i]? =some oi) (hd:oi.dst=d) (hb:takeB md ops L i=true)
 (hQ: ∀c a w,Q (.panic c) (a.put d v) w→Q (.panic c) a w) (hw:Region.wanted oi (yielded ops a.tmps)=true) (hy: ∀w',(execOp a.eval oi).run P w'=.ok (.enter fn args) w') (hc: ∀w',Calls P fn args w' (fun e w''=>e=.returned v∧w''=w'))
 (h:At P md ops Q f pend (L.setIfInBounds i true) (a.put d v) w):At P md ops Q (f+1) pend L a w:=by
 subst hd
 intro hp
 simp only [takeB,Bool.and_eq_true]at hb
 refine wpP_firstG (T:=fun _=>True) hi (Region.noSelect_spec hb.1.1.1) hQ f pend L a w (closed_of hb.2) (Region.free_spec hi hb.1.1.2) (by simpa using hb.1.2) ⟨hw,fn,args,fun w' _=>⟨hy w',hc w'⟩⟩ trivial hp ?_
 exact(wpP_add_true f i pend _ _ w (h hp))
theorem run_build_op {a:Act} {oi:Oper} {t:TypeId} {parts:Array (Nat×Operand)} {cells:Array Value} (ho:oi.op=.build t parts) (l:List (Nat×Value)) (hl:(parts.map fun (i,x)=>(i,a.eval x)).toList=l) (h:P.built t l=some cells) (w:World):(execOp a.eval oi).run P w=.ok (.value (.agg cells)) w:=by
 unfold execOp
 subst hl
 simp only [ho,Sem.run_bind,run_build w t _ cells h,Sem.run_pure,Result.andThen_ok]
theorem run_rem_op {a:Act} {oi:Oper} {t t2:TypeId} {x y:Operand} {k:IntKind} {p q r:Int} (ho:oi.op=.binOp .rem t x y t2) (hx:a.eval x=.int k p) (hy:a.eval y=.int k q) (h0: ¬q=0) (hr:p.tmod q=r) (w:World):(execOp a.eval oi).run P w=.ok (.value (.int k r)) w:=by
 unfold execOp
 rw [ho]
 simp only [hx,hy,eqGuard_rem,binOp_rem,Op.intDiv,if_neg h0,hr,Sem.run_bind,Sem.run_pure,Result.andThen_ok]
theorem run_quo_op {a:Act} {oi:Oper} {t t2:TypeId} {x y:Operand} {k:IntKind} {p q r:Int} (ho:oi.op=.binOp .quo t x y t2) (hx:a.eval x=.int k p) (hy:a.eval y=.int k q) (h0: ¬q=0) (hr:k.wrap (p.tdiv q)=r) (w:World):(execOp a.eval oi).run P w=.ok (.value (.int k r)) w:=by
 unfold execOp
 rw [ho]
 simp only [hx,hy,eqGuard_quo,binOp_quo,Op.intDiv,if_neg h0,hr,Sem.run_bind,Sem.run_pure,Result.andThen_ok]
end
end Go.Proofs.YthfogcgdijmaoaaGreat
