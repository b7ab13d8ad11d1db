/-
  Part 21 of the proof: CodW CodB CodM CodP. Conditions: those of the statements.
-/
import Derived.Test.YthfogcgdijmaoaaGreatW8
import Derived.Test.YthfogcgdijmaoaaGreatW11
import Derived.Test.YthfogcgdijmaoaaGreatW20
set_option maxRecDepth 100000
set_option maxHeartbeats 16000000
set_option linter.unusedVariables false
set_option linter.unusedSimpArgs false
namespace Go.Proofs.YthfogcgdijmaoaaGreat
open Go.RowKit
structure Ws where
 A:Option Addr
 n:Nat
 c:Nat
 s:ES
 B:Option Addr
 m:Nat
 k:Nat
 l:List Int
 r:Int
def BF (d:Cd) (u:Ws) (j:Nat):Prop:=j=d.g∨foot d.E u.A j∨foot d.R u.B j
def CF (d:Cd) (u:Ws) (j:Nat):Prop:=BF d u j∨j=d.gm∨j=d.gn∨j=d.gs∨j=d.ge∨j=d.ga
structure CdW (base:Nat) (d:Cd) (u:Ws) (ph:Nat) (w:World):Prop where
 enc:Mq.Er w base d.E u.A u.n u.c u.s
 inv:EInv u.s
 a0:32768≤u.s.a
 a1:u.s.a<65536
 wr:Rw.RWr w base d.R u.B u.m u.k u.l u.r
 binv:BInv u.l u.r
 ph1:7*(u.n:Int)+8-u.s.ct≤ph
 ph2:16*(7*(u.l.length:Int)-u.r)≤ph
 ap: ∀a b,u.A=some a→u.B=some b→a.block≠b.block
 lim:ph≤536870912
 hb:base≤w.heap.size
structure Cod (base:Nat) (d:Cd) (band style:Int) (raw:Bool) (u:Ws) (ph:Nat) (w:World):Prop where
 rd:CdR d band style raw w
 wr:CdW base d u ph w
 mn:d.gm≠d.gn
structure Mv (d:Cd) (u u':Ws) (w w':World):Prop where
 keep:Keep (CF d u) w w'
 gA:Grew w u.A u'.A
 gB:Grew w u.B u'.B
 n:u.n≤u'.n
 l:u.l.length≤u'.l.length
theorem Mv.refl (d:Cd) (u:Ws) (w:World):Mv d u u w w:=⟨Keep.refl _ _,Grew.refl _ _,Grew.refl _ _,Nat.le_refl _,Nat.le_refl _⟩
theorem CF.next {d:Cd} {u u':Ws} {w:World} (gA:Grew w u.A u'.A) (gB:Grew w u.B u'.B) {j:Nat} (hj:j<w.heap.size) (h:CF d u' j):CF d u j:=by
 rcases h with(h|h|h)|h
 · exact .inl (.inl h)
 · rcases h with h|⟨ad,e,h⟩
   · exact .inl (.inr (.inl (.inl h)))
   · rcases gA ad e with⟨a,e1,h1⟩|h1
     · exact .inl (.inr (.inl (.inr ⟨a,e1,by rw [h1];exact h⟩)))
     · omega
 · rcases h with h|⟨ad,e,h⟩
   · exact .inl (.inr (.inr (.inl h)))
   · rcases gB ad e with⟨a,e1,h1⟩|h1
     · exact .inl (.inr (.inr (.inr ⟨a,e1,by rw [h1];exact h⟩)))
     · omega
 · exact .inr h
theorem Grew.trans {w w1:World} {A A1 A2:Option Addr} (h:Grew w A A1) (k:Grew w1 A1 A2) (hs:w.heap.size≤w1.heap.size):Grew w A A2:=fun ad e=>by
 rcases k ad e with⟨a,e1,h1⟩|h1
 · rcases h a e1 with⟨b,e2,h2⟩|h2
   · exact .inl ⟨b,e2,h2.trans h1⟩
   · exact .inr (by omega)
 · exact .inr (by omega)
theorem Mv.trans {d:Cd} {u u1 u2:Ws} {w w1 w2:World} (h:Mv d u u1 w w1) (k:Mv d u1 u2 w1 w2):Mv d u u2 w w2:=
 ⟨h.keep.trans k.keep (fun _ hj hc=>CF.next h.gA h.gB hj hc),h.gA.trans k.gA h.keep.size,h.gB.trans k.gB h.keep.size,Nat.le_trans h.n k.n,Nat.le_trans h.l k.l⟩
theorem Mv.aside {d:Cd} {u u1:Ws} {w w1 w2:World} (h:Mv d u u1 w w1) (hk:Keep (fun _=>False) w1 w2):Mv d u u1 w w2:=
 ⟨h.keep.trans hk (fun _ _ h=>h.elim),h.gA,h.gB,h.n,h.l⟩
section
variable {base :Nat} {d:Cd} {band style:Int} {raw:Bool} {u:Ws} {ph:Nat} {w w':World}
theorem CdW.keepF (h:CdW base d u ph w) (hk:Keep (fun _=>False) w w'):CdW base d u ph w':=
 ⟨h.enc.keep hk id (fun _ _=>id),h.inv,h.a0,h.a1,Rw.RW0.keep h.wr hk id (fun _ _=>id),h.binv,h.ph1,h.ph2,h.ap,h.lim,Nat.le_trans h.hb hk.size⟩
theorem Cod.keepF (h:Cod base d band style raw u ph w) (hk:Keep (fun _=>False) w w'):Cod base d band style raw u ph w':=⟨h.rd.keepF hk,h.wr.keepF hk,h.mn⟩
theorem CdW.up {ph':Nat} (h:CdW base d u ph w) (hp:ph≤ph') (hl:ph'≤536870912):CdW base d u ph' w:=⟨h.enc,h.inv,h.a0,h.a1,h.wr,h.binv,by have:=h.ph1;omega,by have:=h.ph2;omega,h.ap,hl,h.hb⟩
theorem Cod.up {ph':Nat} (h:Cod base d band style raw u ph w) (hp:ph≤ph') (hl:ph'≤536870912):Cod base d band style raw u ph' w:=⟨h.rd,h.wr.up hp hl,h.mn⟩
theorem CdW.n30 (h:CdW base d u ph w):u.n≤1073741000:=by have:=h.ph1;have:=h.lim;have:=h.inv.ct12;omega
theorem CdW.m30 (h:CdW base d u ph w):u.m≤1073741000:=by
 have:=h.ph2
 have:=h.binv.r7
 have:=h.lim
 have h2:=Rw.RW0.len h.wr
 have h3:=(Rw.refB_le u.l u.r).2
 omega
theorem CdW.notI (h:CdW base d u ph w) {g:Nat} {t:TypeId} {cs:Array Value} (hg:Blk w g t cs) (h1:t≠189) (h2:t≠191) (h3:5≠t): ¬foot d.E u.A g∧ ¬foot d.R u.B g:=by
 refine⟨fun hf=>?_,fun hf=>?_⟩
 · rcases hf with rfl|⟨ad,e,rfl⟩
   · exact Blk.ne_ hg h.enc.blk h1 rfl
   · obtain⟨A,n,c,s,B,m,k,l,r⟩:=u
     simp only at e
     subst e
     exact own_ne h.enc.own hg h3 (by simp [Value.ownBlock])
 · rcases hf with rfl|⟨ad,e,rfl⟩
   · exact Blk.ne_ hg h.wr.blk h2 rfl
   · obtain⟨A,n,c,s,B,m,k,l,r⟩:=u
     simp only at e
     subst e
     exact own_ne h.wr.own hg h3 (by simp [Value.ownBlock])
theorem Cod.apart (h:Cod base d band style raw u ph w): ¬BF d u d.gm∧ ¬BF d u d.gn∧ ¬BF d u d.gs∧ ¬BF d u d.ge∧ ¬BF d u d.ga:=by
 obtain⟨cs,hb,_⟩:=h.rd.blk
 have key: ∀(g:Nat) (t:TypeId) (ds:Array Value),Blk w g t ds→t≠165→t≠189→t≠191→5≠t→ ¬BF d u g:=fun g t ds hg h0 h1 h2 h3 hf=>by
  have hn:=h.wr.notI hg h1 h2 h3
  rcases hf with rfl|hf|hf
  · exact Blk.ne_ hg hb h0 rfl
  · exact hn.1 hf
  · exact hn.2 hf
 obtain⟨c1,b1,_⟩:=h.rd.mag
 obtain⟨c2,b2,_⟩:=h.rd.neg
 obtain⟨c3,b3,_⟩:=h.rd.sig
 obtain⟨c4,b4,_⟩:=h.rd.seen
 obtain⟨c5,b5,_⟩:=h.rd.again
 exact⟨key _ _ _ b1 (by decide) (by decide) (by decide) (by decide),key _ _ _ b2 (by decide) (by decide) (by decide) (by decide),key _ _ _ b3 (by decide) (by decide) (by decide) (by decide),key _ _ _ b4 (by decide) (by decide) (by decide) (by decide),key _ _ _ b5 (by decide) (by decide) (by decide) (by decide)⟩
theorem CdW.footE_R (h:CdW base d u ph w) {k:Nat} (h1:foot d.E u.A k) (h2:foot d.R u.B k):False:=by
 have hE:=h.enc.blk
 have hR:=h.wr.blk
 rcases h1 with rfl|⟨a,e1,rfl⟩
 · rcases h2 with h2|⟨b,e2,h2⟩
   · rw [h2]at hE;exact Blk.ne_ hE hR (by decide) rfl
   · obtain⟨A,n,c,s,B,m,k,l,r⟩:=u
     simp only at e2
     subst e2
     exact own_ne h.wr.own hE (by decide) (by simp [Value.ownBlock,h2])
 · rcases h2 with h2|⟨b,e2,h2⟩
   · obtain⟨A,n,c,s,B,m,k,l,r⟩:=u
     simp only at e1
     subst e1
     exact own_ne h.enc.own hR (by decide) (by simp [Value.ownBlock,h2])
   · exact h.ap a b e1 e2 h2.symm
end
theorem CdC.up {d:Cd} {band style:Int} {raw:Bool} {cs cs':Array Value} {k:Nat} (h:CdC d band style raw cs) (hk:k<19) (hu:Mq.CxUp cs cs' (9+k*2)):CdC d band style raw cs':=by
 obtain⟨c0,c1,c2,c3,c4,c5,c6,c7,c8,cx,c47,c48,c49,c50⟩:=h
 have f:=hu.far
 refine⟨?_,?_,?_,?_,?_,?_,?_,?_,?_,fun j hj=>?_,?_,?_,?_,?_⟩
 · rw [f _ (by omega) (by omega)];exact c0
 · rw [f _ (by omega) (by omega)];exact c1
 · rw [f _ (by omega) (by omega)];exact c2
 · rw [f _ (by omega) (by omega)];exact c3
 · rw [f _ (by omega) (by omega)];exact c4
 · rw [f _ (by omega) (by omega)];exact c5
 · rw [f _ (by omega) (by omega)];exact c6
 · rw [f _ (by omega) (by omega)];exact c7
 · rw [f _ (by omega) (by omega)];exact c8
 · by_cases e:j=k
   · subst e
     exact hu.at_
   · obtain⟨i,m,h1,h2,h3,h4⟩:=cx j hj
     exact⟨i,m,h1,h2,by rw [f _ (by omega) (by omega)];exact h3,by rw [f _ (by omega) (by omega)];exact h4⟩
 · rw [f _ (by omega) (by omega)];exact c47
 · rw [f _ (by omega) (by omega)];exact c48
 · rw [f _ (by omega) (by omega)];exact c49
 · rw [f _ (by omega) (by omega)];exact c50
section
variable {base :Nat} {d:Cd} {band style:Int} {raw:Bool} {u:Ws} {ph:Nat} {w w':World}
theorem CdW.ltA (h:CdW base d u ph w) {a:Addr} (e:u.A=some a):a.block<w.heap.size:=by
 obtain⟨A,n,c,s,B,m,k,l,r⟩:=u
 simp only at e
 subst e
 exact(h.enc.own.lt a.block (by simp [Value.ownBlock])).2
theorem CdW.ltB (h:CdW base d u ph w) {a:Addr} (e:u.B=some a):a.block<w.heap.size:=by
 obtain⟨A,n,c,s,B,m,k,l,r⟩:=u
 simp only at e
 subst e
 exact(h.wr.own.lt a.block (by simp [Value.ownBlock])).2
theorem CdR.keepB (h:Cod base d band style raw u ph w) {S:Nat→Prop} (hk:Keep S w w') (hS: ∀j,S j→BF d u j) (hg: ¬S d.g):CdR d band style raw w':=by
 obtain⟨a1,a2,a3,a4,a5⟩:=h.apart
 exact h.rd.keep hk hg (fun x=>a1 (hS _ x)) (fun x=>a2 (hS _ x)) (fun x=>a3 (hS _ x)) (fun x=>a4 (hS _ x)) (fun x=>a5 (hS _ x))
theorem Cod.rawBit (h:Cod base d band style raw u ph w) (hl:ph+16≤536870912) (b:Int) {e:Ending} (hp:Rw.RWP w base d.R u.B (Rw.refB (stepL u.l u.r b) (stepR u.l u.r)) (Rw.curM (stepL u.l u.r b) (stepR u.l u.r)) (Rw.freeM (stepL u.l u.r b) (stepR u.l u.r)) (topM (Rw.refB (stepL u.l u.r b) (stepR u.l u.r))) e w'):
 e=.returned (.tuple #[])∧ ∃u',Cod base d band style raw u' (ph+16) w'∧Mv d u u' w w'∧Keep (BF d u) w w':=by
 obtain⟨B',m',k',rfl,hw,hg,hk⟩:=hp
 have hkB:Keep (BF d u) w w':=hk.mono (fun j _ hj=>.inr (.inr hj))
 obtain⟨cs,hb,_⟩:=h.rd.blk
 have hng: ¬foot d.R u.B d.g:=(h.wr.notI hb (by decide) (by decide) (by decide)).2
 have hlen:u.l.length≤(stepL u.l u.r b).length:=by
  unfold stepL
  split
  · simp
  · simp
 have hlen2:=stepL_length u.l u.r b
 have hp2:=h.wr.ph2
 have hstep:7*((stepL u.l u.r b).length:Int)-stepR u.l u.r≤7*(u.l.length:Int)-u.r+1:=by
  have htop:=top_le u.l
  unfold stepL stepR
  by_cases hr:u.r=0
  · rw [if_pos hr,if_pos hr,hr,List.length_append,List.length_singleton]
    push_cast
    omega
  · rw [if_neg hr,if_neg hr,List.length_set]
    omega
 refine⟨rfl,⟨u.A,u.n,u.c,u.s,B',m',k',stepL u.l u.r b,stepR u.l u.r⟩,⟨CdR.keepB h hk (fun j hj=>.inr (.inr hj)) hng,⟨h.wr.enc.keep hk (fun hf=>h.wr.footE_R (.inl rfl) hf) (fun ad e hf=>h.wr.footE_R (.inr ⟨ad,e,rfl⟩) hf),h.wr.inv,h.wr.a0,h.wr.a1,hw,h.wr.binv.step b,?_,?_,fun a c ea ec=>?_,hl,Nat.le_trans h.wr.hb hk.size⟩,h.mn⟩,⟨hk.mono (fun j _ hj=>.inl (.inr (.inr hj))),Grew.refl _ _,hg,Nat.le_refl _,hlen⟩,hkB⟩
 · have:=h.wr.ph1;simp only;omega
 · simp only;omega
 · rcases hg c ec with⟨x,ex,hx⟩|hx
   · rw [← hx];exact h.wr.ap a x ea ex
   · have:=h.wr.ltA ea;omega
theorem Cod.cxBit (h:Cod base d band style raw u ph w) (hl:ph+16≤536870912) {k:Nat} (hk19:k<19) {cs:Array Value} (hc:CdC d band style raw cs) {e:Ending} (hp:Mq.SencP w base d.E d.g (9+k*2) u.A u.n u.s cs e w'):
 e=.returned (.tuple #[])∧ ∃u',Cod base d band style raw u' (ph+16) w'∧Mv d u u' w w'∧Keep (BF d u) w w':=by
 obtain⟨A',n',c',s',cs',rfl,he,hi,ha,ha2,hph,hn,hb',hup,hg,hk⟩:=hp
 have hkB:Keep (BF d u) w w':=hk.mono (fun j _ hj=>by
  rcases hj with hj|hj
  · exact .inr (.inl hj)
  · exact .inl hj)
 obtain⟨a1,a2,a3,a4,a5⟩:=h.apart
 have hfar: ∀g,¬BF d u g→ ¬(foot d.E u.A g∨g=d.g):=fun g hg hf=>hg (by
  rcases hf with hf|hf
  · exact .inr (.inl hf)
  · exact .inl hf)
 obtain⟨cs0,hb0,_⟩:=h.rd.blk
 refine⟨rfl,⟨A',n',c',s',u.B,u.m,u.k,u.l,u.r⟩,⟨⟨⟨cs',hb',hc.up hk19 hup⟩,h.rd.mag.keep hk (hfar _ a1),h.rd.neg.keep hk (hfar _ a2),h.rd.sig.keep hk (hfar _ a3),h.rd.seen.keep hk (hfar _ a4),h.rd.again.keep hk (hfar _ a5),h.rd.w0,h.rd.h0,h.rd.w1,h.rd.h1⟩,⟨he,hi,ha,ha2,Rw.RW0.keep h.wr.wr hk (fun hf=>?_) (fun ad e hf=>?_),h.wr.binv,?_,?_,fun a b ea eb=>?_,hl,Nat.le_trans h.wr.hb hk.size⟩,h.mn⟩,⟨hkB.mono (fun j _ hj=>.inl hj),hg,Grew.refl _ _,hn,Nat.le_refl _⟩,hkB⟩
 · rcases hf with hf|hf
   · exact h.wr.footE_R hf (.inl rfl)
   · rw [← hf]at hb0;exact Blk.ne_ hb0 h.wr.wr.blk (by decide) rfl
 · rcases hf with hf|hf
   · exact h.wr.footE_R hf (.inr ⟨ad,e,rfl⟩)
   · exact(h.wr.notI hb0 (by decide) (by decide) (by decide)).2 (.inr ⟨ad,e,hf⟩)
 · have:=h.wr.ph1;simp only;omega
 · have:=h.wr.ph2;simp only;omega
 · rcases hg a ea with⟨x,ex,hx⟩|hx
   · rw [← hx];exact h.wr.ap x b ex eb
   · have:=h.wr.ltB eb;omega
end
def BitP (base:Nat) (d:Cd) (band style:Int) (raw:Bool) (u:Ws) (ph:Nat) (b:Int) (w:World) (e:Ending) (w':World):Prop:=
 ∃u',e=.returned (.int .i64 b)∧Cod base d band style raw u' (ph+16) w'∧Mv d u u' w w'∧Keep (BF d u) w w'
theorem cbit_any (w:World) (base:Nat) (d:Cd) (band style:Int) (raw:Bool) (u:Ws) (ph:Nat) (h:Cod base d band style raw u ph w) (k:Nat) (hk:k<19) (b:Int) (hl:ph+16≤536870912):
 Calls Tryz.prog 123 #[.pointer (some ⟨d.g,0,none⟩),.int .i64 k,.int .i64 b] w (BitP base d band style raw u ph b w):=by
 obtain⟨cs,hbk,hC⟩:=h.rd.blk
 have c47:w.cell? ⟨d.g,47,none⟩=some (.bool true):=(hbk.cell 47).trans hC.c47
 have c48:w.cell? ⟨d.g,48,none⟩=some (.bool raw):=(hbk.cell 48).trans hC.c48
 have c49:w.cell? ⟨d.g,49,none⟩=some (.pointer (some ⟨d.E,0,none⟩)):=(hbk.cell 49).trans hC.c49
 have c50:w.cell? ⟨d.g,50,none⟩=some (.pointer (some ⟨d.R,0,none⟩)):=(hbk.cell 50).trans hC.c50
 have HH:=hid h
 have HBK:=hid hbk
 have HC:=hid hC
 cases raw with
 |true=>
  have RB:=fun w2 (hk2:Keep (fun _=>False) w w2)=>Rw.rbit_any w2 base d.R u.B u.m u.k u.l u.r b (HH.out.keepF hk2).wr.wr (HH.out.keepF hk2).wr.binv (HH.out.keepF hk2).wr.hb (by have:=(HH.out.keepF hk2).wr.m30;omega)
  have RB:=hid RB
  clear h hbk hC
  go_enter Tryz.func123,Tryz.ntmps123
  go_wp2_with (go_at_call 129;refine(RB.out _ (Keep.refl _ _)).mono ?_;rintro e w2 hp;obtain⟨rfl,HX⟩:=HH.out.rawBit hl b hp;replace HX:=hid HX;clear hp)
  go_ret
  obtain⟨u',h1,h2,h3⟩:=HX.out
  exact⟨u',rfl,h1,h2,h3⟩
 |false=>
  obtain⟨I,M,hI,hM,hcI,hcM⟩:=hC.cx k hk
  have EB:=hid (Mq.senc_any w.drew base d.E d.g k u.A u.n u.c u.s cs I M b (HH.out.keepF (Keep.refl _ w).drew).wr.enc h.wr.inv h.wr.a0 h.wr.a1 hbk.drew hcI hcM (by omega) (by omega) hk h.wr.hb h.wr.n30)
  have HD:=hid (HH.out.keepF (Keep.refl _ w).drew)
  clear h hbk hC hcI hcM
  go_enter Tryz.func123,Tryz.ntmps123
  go_wp2_with fail
  have d49:w.drew.cell? ⟨d.g,49,none⟩=some (.pointer (some ⟨d.E,0,none⟩)):=c49
  clear c47 c48 c49 c50
  refine At.start (L:=#[false,false,false,false,false,false,false,false,false,false]) (by kernel_rfl) rfl ?_
  refine AtP 0 38 ?_
  refine AtP 1 39 ?_
  refine AtP 2 40 ?_
  refine AtL 3 41 Tryz.underlying160 ?_
  refine AtP 4 42 ?_
  refine AtP 5 43 ?_
  refine AtP 6 44 ?_
  refine AtP 7 45 ?_
  refine AtP 8 46 ?_
  refine AtC 9 fun K hK=>?_
  go_simp
  refine EB.out.mono ?_
  rintro e w2 hp
  obtain⟨rfl,HX⟩:=HD.out.cxBit hl hk HC.out hp
  replace HX:=hid HX
  clear hp d49
  refine hK _ _ all_nil ?_
  clear hK K
  try simp only [NS]
  refine At.done (by kernel_rfl) ?_
  go_wp2_with fail
  go_ret
  obtain⟨u',h1,h2,h3⟩:=HX.out
  exact⟨u',rfl,h1,⟨h2.keep.undrew,h2.gA,h2.gB,h2.n,h2.l⟩,h3.undrew⟩
def CodP (base:Nat) (d:Cd) (band style:Int) (raw:Bool) (u:Ws) (ph:Nat) (w:World) (e:Ending) (w':World):Prop:=
 ∃u',e=.returned (.tuple #[])∧Cod base d band style raw u' ph w'∧Mv d u u' w w'
def CodN (base:Nat) (d:Cd) (band style:Int) (raw:Bool) (u:Ws) (ph:Nat) (w:World) (e:Ending) (w':World):Prop:=
 ∃(b:Int) (u':Ws),e=.returned (.int .i64 b)∧Cod base d band style raw u' ph w'∧Mv d u u' w w'
theorem cmag_any (w:World) (base:Nat) (d:Cd) (band style:Int) (raw:Bool) (u:Ws) (ph:Nat) (h:Cod base d band style raw u ph w) (i plane k:Nat) (hi:i<d.W*d.H) (hp:plane≤40) (hk:k<19) (hl:ph+16≤536870912):
 Calls Tryz.prog 118 #[.pointer (some ⟨d.g,0,none⟩),.int .i64 i,.int .i64 plane,.int .i64 k] w (CodN base d band style raw u (ph+16) w):=by
 obtain⟨cs,hbk,hC⟩:=h.rd.blk
 have c4:w.cell? ⟨d.g,4,none⟩=some (.slice (some ⟨d.gm,0,none⟩) (d.W*d.H) (d.W*d.H)):=(hbk.cell 4).trans hC.c4
 obtain⟨z,hz,hcz⟩:=h.rd.mag.cell hi
 have BT:=hid (fun b=>cbit_any w base d band style raw u ph h k hk b hl)
 clear h hbk hC
 generalize d.W*d.H=N at*
 go_enter Tryz.func118,Tryz.ntmps118
 go_wp2_with fail
 refine(BT.out _).mono ?_
 rintro e w2 ⟨u',rfl,h1,hm,_⟩
 obtain⟨cs2,hbk2,hC2⟩:=h1.rd.blk
 have c47:w2.cell? ⟨d.g,47,none⟩=some (.bool true):=(hbk2.cell 47).trans hC2.c47
 have HX:=hid (And.intro h1 hm)
 clear h1 hm hbk2 hC2 BT
 go_wp2_with fail
 go_ret
 exact⟨_,u',rfl,HX.out.1,HX.out.2⟩
theorem xor_01 {z t:Int} (hz:0≤z∧z≤1) (ht:0≤t∧t≤1):0≤bits .xor .i64 z t∧bits .xor .i64 z t≤1:=by
 rcases (show z=0∨z=1 by omega)with rfl|rfl<;>rcases (show t=0∨t=1 by omega)with rfl|rfl<;>decide
theorem Cod.setNeg {base:Nat} {d:Cd} {band style:Int} {raw:Bool} {u:Ws} {ph:Nat} {w:World} (h:Cod base d band style raw u ph w) (i:Nat) {z:Int} (hz:0≤z∧z≤1):Cod base d band style raw u ph (w.setCell ⟨d.gn,i,none⟩ (.int .i64 z)):=by
 obtain⟨a1,a2,a3,a4,a5⟩:=h.apart
 obtain⟨cs,hb,hc⟩:=h.rd.blk
 obtain⟨c2,b2,_⟩:=h.rd.neg
 obtain⟨c3,b3,_⟩:=h.rd.sig
 obtain⟨c4,b4,_⟩:=h.rd.seen
 obtain⟨c5,b5,_⟩:=h.rd.again
 have hk:=Keep.set1 w d.gn i (.int .i64 z)
 have hf:=h.wr.notI b2 (by decide) (by decide) (by decide)
 exact⟨⟨⟨cs,hb.keep hk (Blk.ne_ hb b2 (by decide)),hc⟩,h.rd.mag.keep hk h.mn,h.rd.neg.set i hz,h.rd.sig.keep hk (Blk.ne_ b3 b2 (by decide)),h.rd.seen.keep hk (Blk.ne_ b4 b2 (by decide)),h.rd.again.keep hk (Blk.ne_ b5 b2 (by decide)),h.rd.w0,h.rd.h0,h.rd.w1,h.rd.h1⟩,
  ⟨h.wr.enc.keep hk (fun e=>hf.1 (.inl e.symm)) (fun ad e e2=>hf.1 (.inr ⟨ad,e,e2⟩)),h.wr.inv,h.wr.a0,h.wr.a1,Rw.RW0.keep h.wr.wr hk (fun e=>hf.2 (.inl e.symm)) (fun ad e e2=>hf.2 (.inr ⟨ad,e,e2⟩)),h.wr.binv,h.wr.ph1,h.wr.ph2,h.wr.ap,h.wr.lim,Nat.le_trans h.wr.hb hk.size⟩,h.mn⟩
theorem CdW.setB {base:Nat} {d:Cd} {u:Ws} {ph:Nat} {w:World} (h:CdW base d u ph w) {g i:Nat} {v:Value} {t:TypeId} {cs:Array Value} (hb:Blk w g t cs) (h1:t≠189) (h2:t≠191) (h3:5≠t):CdW base d u ph (w.setCell ⟨g,i,none⟩ v):=by
 have hk:=Keep.set1 w g i v
 have hf:=h.notI hb h1 h2 h3
 exact⟨h.enc.keep hk (fun e=>hf.1 (.inl e.symm)) (fun ad e e2=>hf.1 (.inr ⟨ad,e,e2⟩)),h.inv,h.a0,h.a1,Rw.RW0.keep h.wr hk (fun e=>hf.2 (.inl e.symm)) (fun ad e e2=>hf.2 (.inr ⟨ad,e,e2⟩)),h.binv,h.ph1,h.ph2,h.ap,h.lim,Nat.le_trans h.hb hk.size⟩
theorem BRow.any {w:World} {g N i:Nat} {b:Bool} {g':Nat} (h:BRow w g N):BRow (w.setCell ⟨g',i,none⟩ (.bool b)) g N:=by
 by_cases e:g'=g
 · subst e;exact h.set i b
 · exact h.keep (Keep.set1 w g' i _) (fun x=>e x.symm)
theorem Cod.setBool {base:Nat} {d:Cd} {band style:Int} {raw:Bool} {u:Ws} {ph:Nat} {w:World} (h:Cod base d band style raw u ph w) {g:Nat} (hg:BRow w g (d.W*d.H)) (i:Nat) (b:Bool):Cod base d band style raw u ph (w.setCell ⟨g,i,none⟩ (.bool b)):=by
 obtain⟨c,hb,_⟩:=hg
 obtain⟨cs,hbk,hc⟩:=h.rd.blk
 obtain⟨c1,b1,_⟩:=h.rd.mag
 obtain⟨c2,b2,_⟩:=h.rd.neg
 have hk:=Keep.set1 w g i (.bool b)
 exact⟨⟨⟨cs,hbk.keep hk (Blk.ne_ hbk hb (by decide)),hc⟩,h.rd.mag.keep hk (Blk.ne_ b1 hb (by decide)),h.rd.neg.keep hk (Blk.ne_ b2 hb (by decide)),h.rd.sig.any,h.rd.seen.any,h.rd.again.any,h.rd.w0,h.rd.h0,h.rd.w1,h.rd.h1⟩,h.wr.setB hb (by decide) (by decide) (by decide),h.mn⟩
theorem Mv.set {d:Cd} {u u1:Ws} {w w1:World} (h:Mv d u u1 w w1) {g:Nat} (hg:CF d u g) (i:Nat) (v:Value):Mv d u u1 w (w1.setCell ⟨g,i,none⟩ v):=⟨Keep.setCell h.keep (p:=⟨g,i,none⟩) (.inl hg) v,h.gA,h.gB,h.n,h.l⟩
theorem csign_any (w:World) (base:Nat) (d:Cd) (band style:Int) (raw:Bool) (u:Ws) (ph:Nat) (h:Cod base d band style raw u ph w) (x y:Nat) (hx:x<d.W) (hy:y<d.H) (hl:ph+16≤536870912):
 Calls Tryz.prog 119 #[.pointer (some ⟨d.g,0,none⟩),.int .i64 x,.int .i64 y] w (CodP base d band style raw u (ph+16) w):=by
 obtain⟨cs,hbk,hC⟩:=h.rd.blk
 have c0:w.cell? ⟨d.g,0,none⟩=some (.int .i64 d.W):=(hbk.cell 0).trans hC.c0
 have hix:=ix_lt hx hy
 have hWl:=h.rd.w1
 have hHl:=h.rd.h1
 have hN:=h.rd.n144
 have HR:=hid h
 have HK:=hid (Mv.refl d u w)
 clear h hbk hC
 have e1:(y:Int)*(d.W:Int)=((y*d.W:Nat):Int):=by push_cast;rfl
 have e2:IntKind.i64.wrap ((y*d.W:Nat):Int)=((y*d.W:Nat):Int):=IntWalk.i64_in _ (by omega)
 have hm:y*d.W≤144:=by omega
 obtain⟨v,hv⟩: ∃v,y*d.W+x=v:=⟨_,rfl⟩
 rw [hv]at hix
 generalize y*d.W=q at*
 have hB:(q:Int)+(x:Int)=(v:Int):=by omega
 have HV:=hid hv
 clear hv
 go_enter Tryz.func119,Tryz.ntmps119
 go_wp2_with (first|(first|refine wpList_max rfl _ _ _ rfl _ _ rfl rfl ?_|refine wpList_min rfl _ _ _ rfl _ _ rfl rfl ?_)|(go_at_call 125;refine(says_any _ d band style raw HR.out.rd _ _ _ _ (by omega) (by omega) (by omega) (by omega)).mono ?_;rintro e w2 ⟨b,hb1,hb2,rfl,hk⟩;replace HR:=hid (HR.out.keepF hk);replace HK:=hid (HK.out.aside hk);clear hk))
 refine(sign7_any _ _ _ (by omega) (by omega)).mono ?_
 rintro e w3 ⟨k,t,hk9,hk13,ht1,rfl,hw⟩
 cases hw
 obtain⟨cs,hbk,hC⟩:=HR.out.rd.blk
 have c48:w2.cell? ⟨d.g,48,none⟩=some (.bool raw):=(hbk.cell 48).trans hC.c48
 have c5:w2.drew.cell? ⟨d.g,5,none⟩=some (.slice (some ⟨d.gn,0,none⟩) (d.W*d.H) (d.W*d.H)):=(hbk.drew.cell 5).trans hC.c5
 obtain⟨z,hz,hcz⟩:=HR.out.rd.neg.cell hix
 have cz:w2.drew.cell? ⟨d.gn,v,none⟩=some (.int .i64 z):=hcz
 have BT:=hid (fun b=>cbit_any w2.drew base d band style raw u ph (HR.out.keepF (Keep.refl _ w2).drew) k (by omega) b hl)
 have HN:=hid (fun (w4:World) (hk4:Keep (BF d u) w2.drew w4)=>hk4.cell cz (HR.out.keepF (Keep.refl _ w2).drew).apart.2.1)
 have HI:=hid (show d.gn=d.gn∧d.W*d.H=d.W*d.H from⟨rfl,rfl⟩)
 have HIX:=hid hix
 have HQ:=hid (show∀w4 u1,Cod base d band style raw u1 (ph+16) w4→w4.cell? ⟨d.g,5,none⟩=some (.slice (some ⟨d.gn,0,none⟩) (d.W*d.H) (d.W*d.H))∧w4.cell? ⟨d.g,6,none⟩=some (.slice (some ⟨d.gs,0,none⟩) (d.W*d.H) (d.W*d.H))∧w4.frozen? ⟨d.gn,v,none⟩=false∧(∃ s,w4.cell? ⟨d.gs,v,none⟩=some (.bool s))∧w4.frozen? ⟨d.gs,v,none⟩=false from fun w4 u1 h4=>by
  obtain⟨cs,hb4,hc4⟩:=h4.rd.blk
  exact⟨(hb4.cell 5).trans hc4.c5,(hb4.cell 6).trans hc4.c6,h4.rd.neg.frozen v,h4.rd.sig.cell HIX.out,h4.rd.sig.frozen v⟩)
 have HKK:=hid (show Mv d u u w w2.drew from HK.out.aside (Keep.refl _ w2).drew)
 have HFIN:=hid (show∀w4 u1 y1,Cod base d band style raw u1 (ph+16) w4→Mv d u u1 w2.drew w4→0≤y1∧y1≤1→CodP base d band style raw u (ph+16) w (.returned (.tuple #[])) ((w4.setCell ⟨d.gn,v,none⟩ (.int .i64 y1)).setCell ⟨d.gs,v,none⟩ (.bool true))from fun w4 u1 y1 h4 m4 hy1=>by
  have h5:=h4.setNeg v hy1
  exact⟨u1,rfl,h5.setBool h5.rd.sig v true,((HKK.out.trans m4).set (.inr (.inr (.inl rfl))) v _).set (.inr (.inr (.inr (.inl rfl)))) v _⟩)
 obtain⟨dn,bdn,_⟩:=HR.out.rd.neg
 obtain⟨ds,bds,_⟩:=HR.out.rd.sig
 have ne1:d.g≠d.gn:=Blk.ne_ hbk bdn (by decide)
 have ne2:d.gs≠d.gn:=Blk.ne_ bds bdn (by decide)
 have ne3:=ne1.symm
 have ne4:=ne2.symm
 clear bdn bds
 have t01:(0:Int)≤(t:Int)∧(t:Int)≤1:=by omega
 have HX:=hid (xor_01 hz t01)
 have HX2:=hid (xor_01 HX.out t01)
 have HX0:=hid (xor_01 hz (show(0:Int)≤0∧(0:Int)≤1 by omega))
 have HX02:=hid (xor_01 HX0.out (show(0:Int)≤0∧(0:Int)≤1 by omega))
 clear hbk hC hcz hb1 hb2 HR HK HKK
 generalize d.W*d.H=N at*
 cases raw with
 |true=>
  go_wp2_with fail
  clear c48
  refine At.start (L:=#[false,false,false,false,false,false,false,false,false,false,false,false,false,false,false,false,false,false,false,false,false]) (by kernel_rfl) rfl ?_
  refine AtP 0 51 ?_
  refine AtP 1 52 ?_
  refine AtP 2 53 ?_
  refine AtL 3 54 Tryz.underlying22 ?_
  refine AtP 4 55 ?_
  refine AtP 5 56 ?_
  refine AtP 6 57 ?_
  refine AtP 7 58 ?_
  refine AtP 8 59 ?_
  refine AtP 9 60 ?_
  refine AtL 10 61 Tryz.underlying22 ?_
  refine AtP 11 62 ?_
  refine AtP 12 63 ?_
  refine AtL 13 64 Tryz.underlying3 ?_
  refine AtP 14 65 ?_
  refine AtP 15 66 ?_
  refine AtP 17 68 ?_
  refine At.call_all 16 rfl (by kernel_rfl) rfl (fun K hK=>?_)
  go_simp
  refine(BT.out _).mono ?_
  rintro e w4 ⟨u1,rfl,h4,m4,k4⟩
  obtain⟨q5,q6,qf,⟨s,qs⟩,qfs⟩:=HQ.out w4 u1 h4
  have qz:=HN.out w4 k4
  have HF4:=hid (fun y1=>HFIN.out w4 u1 y1 h4 m4)
  clear h4 m4 k4 HFIN BT HQ HN
  refine hK _ _ (by repeat' first|exact all_nil|refine all_cons (by assumption) ?_) ?_
  clear hK K
  try simp only [NS]
  refine AtP 18 69 ?_
  refine AtP 19 70 ?_
  refine AtC 20 fun K hK=>?_
  go_simp
  skip
  refine hK _ _ all_nil ?_
  clear hK K
  try simp only [NS]
  refine At.done (by kernel_rfl) ?_
  go_wp2_with fail
  go_end0
  exact HF4.out _ HX02.out
 |false=>
  go_wp2_with fail
  clear c48
  refine At.start (L:=#[false,false,false,false,false,false,false,false,false,false,false,false,false,false,false,false,false,false,false,false,false]) (by kernel_rfl) rfl ?_
  refine AtP 0 51 ?_
  refine AtP 1 52 ?_
  refine AtP 2 53 ?_
  refine AtL 3 54 Tryz.underlying22 ?_
  refine AtP 4 55 ?_
  refine AtP 5 56 ?_
  refine AtP 6 57 ?_
  refine AtP 7 58 ?_
  refine AtP 8 59 ?_
  refine AtP 9 60 ?_
  refine AtL 10 61 Tryz.underlying22 ?_
  refine AtP 11 62 ?_
  refine AtP 12 63 ?_
  refine AtL 13 64 Tryz.underlying3 ?_
  refine AtP 14 65 ?_
  refine AtP 15 66 ?_
  refine AtP 17 68 ?_
  refine At.call_all 16 rfl (by kernel_rfl) rfl (fun K hK=>?_)
  go_simp
  refine(BT.out _).mono ?_
  rintro e w4 ⟨u1,rfl,h4,m4,k4⟩
  obtain⟨q5,q6,qf,⟨s,qs⟩,qfs⟩:=HQ.out w4 u1 h4
  have qz:=HN.out w4 k4
  have HF4:=hid (fun y1=>HFIN.out w4 u1 y1 h4 m4)
  clear h4 m4 k4 HFIN BT HQ HN
  refine hK _ _ (by repeat' first|exact all_nil|refine all_cons (by assumption) ?_) ?_
  clear hK K
  try simp only [NS]
  refine AtP 18 69 ?_
  refine AtP 19 70 ?_
  refine AtC 20 fun K hK=>?_
  go_simp
  skip
  refine hK _ _ all_nil ?_
  clear hK K
  try simp only [NS]
  refine At.done (by kernel_rfl) ?_
  go_wp2_with fail
  go_end0
  exact HF4.out _ HX2.out
theorem Cod.place {base:Nat} {d:Cd} {band style:Int} {raw:Bool} {u:Ws} {ph:Nat} {w:World} (h:Cod base d band style raw u ph w) {v:Nat} (hv:v<d.W*d.H):
 w.cell? ⟨d.g,0,none⟩=some (.int .i64 d.W)∧w.cell? ⟨d.g,1,none⟩=some (.int .i64 d.H)∧w.cell? ⟨d.g,6,none⟩=some (.slice (some ⟨d.gs,0,none⟩) (d.W*d.H) (d.W*d.H))∧w.cell? ⟨d.g,7,none⟩=some (.slice (some ⟨d.ge,0,none⟩) (d.W*d.H) (d.W*d.H))∧w.cell? ⟨d.g,8,none⟩=some (.slice (some ⟨d.ga,0,none⟩) (d.W*d.H) (d.W*d.H))∧
 (∃ s,w.cell? ⟨d.gs,v,none⟩=some (.bool s))∧(∃ s,w.cell? ⟨d.ge,v,none⟩=some (.bool s))∧(∃ s,w.cell? ⟨d.ga,v,none⟩=some (.bool s))∧w.frozen? ⟨d.ge,v,none⟩=false∧w.frozen? ⟨d.ga,v,none⟩=false:=by
 obtain⟨cs,hbk,hC⟩:=h.rd.blk
 exact⟨(hbk.cell 0).trans hC.c0,(hbk.cell 1).trans hC.c1,(hbk.cell 6).trans hC.c6,(hbk.cell 7).trans hC.c7,(hbk.cell 8).trans hC.c8,h.rd.sig.cell hv,h.rd.seen.cell hv,h.rd.again.cell hv,h.rd.seen.frozen v,h.rd.again.frozen v⟩
theorem csignif_any (w:World) (base:Nat) (d:Cd) (band style:Int) (raw:Bool) (u:Ws) (ph:Nat) (h:Cod base d band style raw u ph w) (plane:Nat) (hp:plane≤40) (hl:ph+7200≤536870912):
 Calls Tryz.prog 108 #[.pointer (some ⟨d.g,0,none⟩),.int .i64 plane] w (CodP base d band style raw u (ph+7200) w):=by
 have HR0:=hid h
 have HM0:=hid (Mv.refl d u w)
 have hWl:=h.rd.w1
 have hHl:=h.rd.h1
 have hW0:=h.rd.w0
 have hH0:=h.rd.h0
 have hN:=h.rd.n144
 have hN0:0<d.W*d.H:=Nat.mul_pos hW0 hH0
 have e1:(d.W:Int)*(d.H:Int)=((d.W*d.H:Nat):Int):=by push_cast;rfl
 have e2:IntKind.i64.wrap ((d.W*d.H:Nat):Int)=((d.W*d.H:Nat):Int):=IntWalk.i64_in _ (by omega)
 have e3:wrap64 ((d.W*d.H:Nat):Int)=((d.W*d.H:Nat):Int):=IntWalk.wrap64_in _ (by omega)
 have HIX:=hid (fun x y (hx:x<d.W) (hy:y<d.H)=>ix_lt hx hy)
 have HAT:=hid (fun w n (hn:n<d.W*d.H)=>at_any w d.W d.H n hW0 (by omega) hH0 (by omega) hn)
 clear h
 obtain⟨N,hNN⟩: ∃N,d.W*d.H=N:=⟨_,rfl⟩
 have HNN:=hid hNN
 rw [hNN]at e1 e2 e3 hN hN0
 clear hNN
 go_enter Tryz.func108,Tryz.ntmps108
 go_wp2_with fail
 go_loopw [4] (fun v wr=> ∃(n:Nat) (u1:Ws),n≤N∧v=.int .i64 n∧Hid (Cod base d band style raw u1 (ph+32*n) wr)∧Hid (Mv d u u1 w wr)) (fun v _=>N-(intOf v).toNat)
 case atStart=>exact⟨0,u,by omega,rfl,HR0,HM0⟩
 case round=>
  clear HR0 HM0
  obtain⟨n,u1,hn,rfl,HC,HM⟩:=hrel
  have q0:=(HC.out.place (v:=0) (by rw [HNN.out];omega))
  obtain⟨c0,c1,_⟩:=q0
  go_wp2_with fail
  go_quiet (fail)
  replace HC:=hid (HC.out.keepF ((Keep.refl _ wr).drewN nq))
  replace HM:=hid (HM.out.aside ((Keep.refl _ wr).drewN nq))
  clear c0 c1
  generalize wr.drewN nq=wq at*
  by_cases hnN:n<N
  · go_wp2_with fail
    have p0:wq.drew.cell? ⟨d.g,0,none⟩=some (.int .i64 d.W):=(HC.out.place (v:=0) (by rw [HNN.out];omega)).1
    have p1:wq.drew.cell? ⟨d.g,1,none⟩=some (.int .i64 d.H):=(HC.out.place (v:=0) (by rw [HNN.out];omega)).2.1
    refine At.start (L:=#[false,false,false,false,false,false,false,false,false,false,false,false,false,false,false]) (by kernel_rfl) rfl ?_
    refine AtP 0 23 ?_
    refine AtP 1 24 ?_
    refine AtP 2 25 ?_
    refine AtL 3 26 Tryz.underlying3 ?_
    refine AtP 4 27 ?_
    refine AtP 5 28 ?_
    refine AtP 6 29 ?_
    refine AtL 7 30 Tryz.underlying3 ?_
    refine AtP 8 31 ?_
    refine AtC 9 fun K hK=>?_
    go_simp
    refine(HAT.out _ n (by rw [HNN.out];exact hnN)).mono ?_
    rintro e w2 ⟨x,y,m,hx,hy,rfl,hw⟩
    have hk:Keep (fun _=>False) wq w2:=by rw [hw];exact(Keep.refl _ wq).drew.drewN m
    have p0:w2.cell? ⟨d.g,0,none⟩=some (.int .i64 d.W):=by rw [hw];exact p0
    have p1:w2.cell? ⟨d.g,1,none⟩=some (.int .i64 d.H):=by rw [hw];exact p1
    replace HC:=hid (HC.out.keepF hk)
    replace HM:=hid (HM.out.aside hk)
    clear hk hw
    refine hK _ _ all_nil ?_
    clear hK K
    try simp only [NS]
    refine AtP 10 22 ?_
    refine AtP 11 33 ?_
    refine AtP 12 34 ?_
    refine AtP 13 5 ?_
    refine AtP 14 6 ?_
    refine At.done (by kernel_rfl) ?_
    have hix:=HIX.out x y hx hy
    have hxl:x<100:=by omega
    have hyl:y<100:=by omega
    obtain⟨v,hv⟩: ∃v,y*d.W+x=v:=⟨_,rfl⟩
    rw [hv]at hix
    obtain⟨r0,r1,r6,r7,r8,⟨sg,hsg⟩,⟨se,hse⟩,⟨ag,hag⟩,fse,fag⟩:=HC.out.place hix
    rw [HNN.out]at r6 r7 r8
    have hixN:v<N:=by rw [← HNN.out];exact hix
    have HIV:=hid hix
    have f1:(y:Int)*(d.W:Int)=((y*d.W:Nat):Int):=by push_cast;rfl
    have f2:IntKind.i64.wrap ((y*d.W:Nat):Int)=((y*d.W:Nat):Int):=IntWalk.i64_in _ (by omega)
    generalize y*d.W=q at*
    have f3:(q:Int)+(x:Int)=(v:Int):=by omega
    have HXY:=hid (And.intro hx hy)
    have HV:=hid hv
    clear hv hx hy p0 p1 r1 hix
    have HEND:=hid (show∀w5 u5,Cod base d band style raw u5 (ph+32*(n+1)) w5→Mv d u u5 w w5→True from fun _ _ _ _=>trivial)
    go_wp2_with fail
    refine(czero_any _ d band style raw HC.out.rd x y (by omega) (by omega)).mono ?_
    rintro e w3 ⟨k,hk0,hk8,rfl,hk⟩
    have HC3:=hid (HC.out.keepF hk)
    have HM3:=hid (HM.out.aside hk)
    obtain⟨s0,s1,s6,s7,s8,⟨sg3,hsg3⟩,⟨se3,hse3⟩,_,fse3,_⟩:=HC3.out.place HIV.out
    rw [HNN.out]at s6 s7
    obtain⟨kn,rfl⟩: ∃kn:Nat,k=kn:=⟨k.toNat,by omega⟩
    clear hk HC HM r0 r6 r7 r8 hsg hse hag fse fag s8
    have HMG:=hid (cmag_any w3 base d band style raw u1 (ph+32*n) HC3.out v plane kn HIV.out hp (by omega) (by omega))
    cases sg3 with
    |true=>
     go_wp2_with fail
     go_roundw
     case rel=>exact⟨n+1,u1,by omega,by go_num,hid (HC3.out.up (by omega) (by omega)),HM3⟩
     case measure=>simp [intOf];omega
    |false=>
     by_cases hkz:kn=0
     · subst hkz
       go_wp2_with fail
       go_roundw
       case rel=>exact⟨n+1,u1,by omega,by go_num,hid (HC3.out.up (by omega) (by omega)),HM3⟩
       case measure=>simp [intOf];omega
     · have hkz':((kn:Int)==0)=false:=by simp;omega
       clear hkz
       go_wp2_with fail
       refine HMG.out.mono ?_
       rintro e w4 ⟨b,u4,rfl,h4,m4⟩
       have HC4:=hid h4
       have HM4:=hid (HM3.out.trans m4)
       obtain⟨_,_,t6,t7,_,_,⟨se4,hse4⟩,_,fse4,_⟩:=h4.place HIV.out
       rw [HNN.out]at t7
       clear h4 m4 s0 s1 s6 s7 hsg3 hse3 fse3 t6 HMG
       by_cases hb1:b=1
       · subst hb1
         go_wp2_with fail
         refine(csign_any w4 base d band style raw u4 (ph+32*n+16) HC4.out x y HXY.out.1 HXY.out.2 (by omega)).mono ?_
         rintro e w5 ⟨u5,rfl,h5,m5⟩
         have HC5:=hid h5
         have HM5:=hid (HM4.out.trans m5)
         obtain⟨_,_,_,t7,_,_,⟨se5,hse5⟩,_,fse5,_⟩:=h5.place HIV.out
         rw [HNN.out]at t7
         clear h5 m5 hse4 fse4
         go_wp2_with fail
         go_roundw
         case rel=>exact⟨n+1,u5,by omega,by go_num,hid (((HC5.out.setBool HC5.out.rd.seen v true)).up (by omega) (by omega)),hid (HM5.out.set (.inr (.inr (.inr (.inr (.inl rfl))))) v _)⟩
         case measure=>simp [intOf];omega
       · have hb1':(b==1)=false:=by simpa using hb1
         clear hb1
         go_wp2_with fail
         go_roundw
         case rel=>exact⟨n+1,u4,by omega,by go_num,hid (((HC4.out.setBool HC4.out.rd.seen v true)).up (by omega) (by omega)),hid (HM4.out.set (.inr (.inr (.inr (.inr (.inl rfl))))) v _)⟩
         case measure=>simp [intOf];omega
  · obtain rfl:n=N:=by omega
    go_wp2_with fail
    go_end0
    exact⟨u1,rfl,HC.out.up (by omega) (by omega),HM.out⟩
end Go.Proofs.YthfogcgdijmaoaaGreat
