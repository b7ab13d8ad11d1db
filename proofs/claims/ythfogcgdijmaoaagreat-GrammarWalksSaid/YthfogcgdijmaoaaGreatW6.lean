/-
  Part 6 of the proof: GramMk. Conditions: those of the statements.
-/
import Derived.Test.YthfogcgdijmaoaaGreatW2
set_option maxRecDepth 100000
set_option maxHeartbeats 16000000
set_option linter.unusedVariables false
set_option linter.unusedSimpArgs false
namespace Go.Proofs.YthfogcgdijmaoaaGreat
open Go.RowKit
theorem info_int :(Tryz.prog.info? 3).map (fun i=>(i.zero,i.size,i.bytes))=some (some (.int .i64 0),1,8):=by kernel_rfl
structure WkG (w:World) (base V:Nat) (A:Option Addr) (n c:Nat) (zs:List Int) (x:Nat) (M:Option Addr) (m cm:Nat) (T:Option Addr) (ct:Nat) (acc:List (Int×Nat)) (tl:Bool):Prop where
 blk:Blk w V 67 #[.slice A n c,.int .i64 x,.slice M m cm,.slice T m ct,.bool tl]
 rd:Rd w A n (zs.map (Value.int .u8))
 low: ∀ad,A=some ad→ad.block<base
 oM:w.ownsRow base 3 1 (.slice M m cm) m (acc.map fun p=>.int .i64 p.1)
 oT:w.ownsRow base 3 1 (.slice T m ct) m (acc.map fun p=>.int .i64 (p.2:Int))
 dj: ∀j,(Value.slice M m cm).ownBlock=some j→(Value.slice T m ct).ownBlock≠some j
 vb:base≤V
 len:zs.length=n
 cap:n≤c
 big:c≤9223372036854775807
 size:n≤1099511627776
 byt:Bytes zs
 few:m≤x
 at_:x≤n
theorem src_one (w:World) (u:Value) (e:TypeId):Rd (w.alloc (.cells #[u] e)) (some ⟨w.heap.size,0,none⟩) 1 [u]:=
 ⟨rfl,fun _=>⟨_,rfl,fun j v hj=>by
  match j,hj with
  |0,hj=>simp at hj;subst hj;simp [Addr.add]⟩⟩
theorem src_two (w:World) (u u':Value) (e:TypeId):Rd ((w.alloc (.cells #[u'] e)).alloc (.cells #[u] e)) (some ⟨w.heap.size+1,0,none⟩) 1 [u]:=by
 have h:=src_one (w.alloc (.cells #[u'] e)) u e
 rw [World.size_alloc]at h
 exact h
theorem own_blk {A:Option Addr} {n c:Nat} {k:Nat} (h:(Value.slice A n c).ownBlock=some k): ∃ad,A=some ad∧ad.block=k:=by
 cases A with
 |none=>simp [Value.ownBlock]at h
 |some a=>exact⟨a,rfl,by simpa [Value.ownBlock]using h⟩
theorem own_lt_int {w:World} {base n c:Nat} {e:TypeId} {A:Option Addr} {xs:List Value} (h:w.ownsRow base e 1 (.slice A n c) n xs): ∀ad,A=some ad→base≤ad.block∧ad.block<w.heap.size:=fun ad e=>by
 subst e
 exact h.lt ad.block rfl
theorem keep1 {w:World} {o:Obj} {p:Addr} {u:Value} (h:w.cell? p=some u):(w.alloc o).cell? p=some u:=((Keep.refl (fun _=>False) w).alloc o).cell h (fun h=>h)
theorem keep2 {w:World} {o o':Obj} {p:Addr} {u:Value} (h:w.cell? p=some u):((w.alloc o).alloc o').cell? p=some u:=keep1 (keep1 h)
theorem two_parts {zs:List Int} (hb:Bytes zs) {x:Nat} (hm:65280≤two zs x):x+2≤zs.length∧zs.getD x 0=255∧two zs x=numU ((zs.drop x).take 2):=by
 have hl:x+2≤zs.length:=by
  rcases Nat.lt_or_ge zs.length (x+2)with h|h
  · rw [two_lt h]at hm;omega
  · exact h
 obtain⟨e,h1,h2,h3,h4⟩:=two_byte hb hl
 refine⟨hl,by omega,?_⟩
 rw [e]
 have d:zs.drop x=zs.getD x 0::zs.getD (x+1) 0::zs.drop (x+2):=by
  rw [List.getD_eq_getElem?_getD,List.getD_eq_getElem?_getD,List.getElem?_eq_getElem (by omega),List.getElem?_eq_getElem (by omega)]
  rw [List.drop_eq_getElem_cons (by omega),List.drop_eq_getElem_cons (i:=x+1) (by omega)]
  rfl
 rw [d]
 simp [numU]
theorem mark_yes (w:World) (base V:Nat) (A:Option Addr) (n c:Nat) (zs:List Int) (x:Nat) (M:Option Addr) (m cm:Nat) (T:Option Addr) (ct:Nat) (acc:List (Int×Nat)) (tl:Bool) (h:WkG w base V A n c zs x M m cm T ct acc tl) (hb:base≤w.heap.size) (hm:65280≤two zs x):
 Calls Tryz.prog 43 #[.pointer (some ⟨V,0,none⟩)] w fun e w'=>e=.returned (.tuple #[.int .i64 (two zs x),.bool true])∧(∃ M' cm' T' ct',WkG w' base V A n c zs (x+2) M' (m+1) cm' T' ct' (acc++[(two zs x,x)]) tl)∧Keep (fun j=>base≤j) w w':=by
 obtain⟨i0,hi0,hj0,hj1,hj2⟩:=info_parts info_int
 obtain⟨hxl,h255,htw⟩:=two_parts h.byt hm
 have hlen:=h.len
 have hbig:=h.big
 have hsz9:=h.size
 have hcap:=h.cap
 have hw2:IntKind.i64.wrap ((x:Int)+2)=(x:Int)+2:=IntWalk.i64_in _ (by omega)
 have hws:IntKind.i64.wrap ((n:Int)-x)=(n:Int)-x:=IntWalk.i64_in _ (by omega)
 have hdl:decide ((n:Int)-x<2)=false:=by simp;omega
 have hxn:x<n:=by omega
 have s1:(x:Int)≤(x:Int)+2:=by omega
 have s2:(x:Int)+2≤(c:Int):=by omega
 have s3:(0:Int)≤(x:Int)+2:=by omega
 have s4:((x:Int)+2).toNat=x+2:=by omega
 have s5:x+2-x=2:=by omega
 have s6: ¬c=x:=by omega
 have s7: ¬c-x=0:=by omega
 obtain⟨b,o,rfl,b0⟩:=h.rd.int_ix (k:=x) (by omega)
 rw [h255]at b0
 have HW:=hid h
 generalize two zs x=z at*
 have HTW:=hid htw
 clear htw
 have hmlt:m≤1099511627776:=by have:=h.few;have:=h.size;omega
 have c0:w.cell? ⟨V,0,none⟩=some (.slice (some ⟨b,o,none⟩) n c):=h.blk.cell 0
 have c1:w.cell? ⟨V,1,none⟩=some (.int .i64 x):=h.blk.cell 1
 have hr2:Hid (Rd w (some ⟨b,o+x,none⟩) 2 (((zs.drop x).take 2).map (Value.int .u8))):=hid (by
  have:=(h.rd.drop (k:=x) (cap:=c) (by omega) h.cap).take (k:=2) (by omega)
  rw [← List.map_drop,←List.map_take,if_neg (by omega)]at this
  simpa [add_lit']using this)
 have hby2:Hid (Bytes ((zs.drop x).take 2)):=hid (fun z hz=>h.byt z (List.mem_of_mem_drop (List.mem_of_mem_take hz)))
 clear h h255 hm
 go_enter Tryz.func43,Tryz.ntmps43
 go_wp2_with fail
 refine At.start (L:=#[false,false,false,false,false,false,false,false,false,false,false,false,false,false,false,false,false,false,false,false,false,false,false,false]) (by kernel_rfl) rfl ?_
 refine AtP 0 5 ?_
 refine AtP 1 6 ?_
 refine AtP 2 7 ?_
 refine At.read 3 (some 8) (fun w'=>w'.cell? ⟨V,0,none⟩=some (.slice (some ⟨b,o,none⟩) n c)) (v:=?v3a) rfl rfl (by kernel_rfl) (fun _ _ _ h=>h) rfl c0 (fun w' hw'=>?y3a) ?_
 case y3a=>skip;go_simp;try with_reducible rfl
 try simp only [NS]
 refine AtP 4 9 ?_
 refine AtP 5 10 ?_
 refine AtP 6 11 ?_
 refine AtP 7 12 ?_
 refine At.read 8 (some 13) (fun w'=>w'.cell? ⟨V,1,none⟩=some (.int .i64 x)) (v:=?v8a) rfl rfl (by kernel_rfl) (fun _ _ _ h=>h) rfl c1 (fun w' hw'=>?y8a) ?_
 case y8a=>skip;go_simp;try with_reducible rfl
 try simp only [NS]
 refine AtP 9 14 ?_
 refine AtP 10 15 ?_
 refine AtP 11 16 ?_
 refine AtP 12 17 ?_
 refine AtP 13 18 ?_
 refine AtP 14 19 ?_
 refine At.read 15 (some 20) (fun w'=>w'.cell? ⟨V,0,none⟩=some (.slice (some ⟨b,o,none⟩) n c)) (v:=?v15a) rfl rfl (by kernel_rfl) (fun _ _ _ h=>h) rfl c0 (fun w' hw'=>?y15a) ?_
 case y15a=>skip;go_simp;try with_reducible rfl
 try simp only [NS]
 refine AtP 16 21 ?_
 refine AtP 17 22 ?_
 refine AtP 18 23 ?_
 refine At.read 19 (some 24) (fun w'=>w'.cell? ⟨V,1,none⟩=some (.int .i64 x)) (v:=?v19a) rfl rfl (by kernel_rfl) (fun _ _ _ h=>h) rfl c1 (fun w' hw'=>?y19a) ?_
 case y19a=>skip;go_simp;try with_reducible rfl
 try simp only [NS]
 refine AtP 20 25 ?_
 refine At.read 21 (some 26) (fun w'=>w'.cell? ⟨b,o+x,none⟩=some (.int .u8 255)) (v:=?v21a) rfl rfl (by kernel_rfl) (fun _ _ _ h=>h) rfl b0 (fun w' hw'=>?y21a) ?_
 case y21a=>skip;go_simp;try with_reducible rfl
 try simp only [NS]
 refine AtP 22 27 ?_
 refine AtP 23 28 ?_
 refine At.done (by kernel_rfl) ?_
 go_wp2_with fail
 refine At.start (L:=#[false,false,false,false,false,false,false,false,false,false,false,false,false,false,false,false]) (by kernel_rfl) rfl ?_
 refine AtP 0 29 ?_
 refine AtP 1 30 ?_
 refine AtP 2 31 ?_
 refine At.read 3 (some 32) (fun w'=>w'.cell? ⟨V,0,none⟩=some (.slice (some ⟨b,o,none⟩) n c)) (v:=?v3b) rfl rfl (by kernel_rfl) (fun _ _ _ h=>h) rfl c0 (fun w' hw'=>?y3b) ?_
 case y3b=>skip;go_simp;try with_reducible rfl
 try simp only [NS]
 refine AtP 4 33 ?_
 refine AtP 5 34 ?_
 refine AtP 6 35 ?_
 refine At.read 7 (some 36) (fun w'=>w'.cell? ⟨V,1,none⟩=some (.int .i64 x)) (v:=?v7b) rfl rfl (by kernel_rfl) (fun _ _ _ h=>h) rfl c1 (fun w' hw'=>?y7b) ?_
 case y7b=>skip;go_simp;try with_reducible rfl
 try simp only [NS]
 refine AtP 8 37 ?_
 refine AtP 9 38 ?_
 refine AtP 10 39 ?_
 refine At.read 11 (some 40) (fun w'=>w'.cell? ⟨V,1,none⟩=some (.int .i64 x)) (v:=?v11b) rfl rfl (by kernel_rfl) (fun _ _ _ h=>h) rfl c1 (fun w' hw'=>?y11b) ?_
 case y11b=>skip;go_simp;try with_reducible rfl
 try simp only [NS]
 refine AtP 12 41 ?_
 refine AtP 13 42 ?_
 refine AtC 14 fun K hK=>?_
 go_simp
 refine(number_any w.drew.drew (some ⟨b,o+x,none⟩) 2 (c-x) ((zs.drop x).take 2) hr2.out hby2.out (by omega)).mono ?_
 rintro e w2 ⟨rfl,rfl⟩
 refine hK _ _ all_nil ?_
 clear hK K
 try simp only [NS]
 refine AtP 15 4 ?_
 refine At.done (by kernel_rfl) ?_
 rw [← HTW.out]
 go_wp2_with fail
 obtain⟨w1,hw1⟩: ∃w1,w.drew.drew=w1:=⟨_,rfl⟩
 have HW1:Hid (WkG w1 base V (some ⟨b,o,none⟩) n c zs x M m cm T ct acc tl):=hid (by rw [← hw1];exact { HW.out with blk:=HW.out.blk.drew.drew,rd:=HW.out.rd.drew.drew,oM:=HW.out.oM.drew.drew,oT:=HW.out.oT.drew.drew })
 have HK1:=hid (show Keep (fun j=>base≤j) w w1 by rw [← hw1];exact((Keep.refl _ w).drew).drew)
 rw [hw1]
 clear hw1 c0 c1 b0 hr2 hby2
 have q1:w1.cell? ⟨V,1,none⟩=some (.int .i64 x):=HW1.out.blk.cell 1
 have q2:w1.cell? ⟨V,2,none⟩=some (.slice M m cm):=HW1.out.blk.cell 2
 have q3:w1.cell? ⟨V,3,none⟩=some (.slice T m ct):=HW1.out.blk.cell 3
 have hb1:base≤w1.heap.size:=Nat.le_trans hb HK1.out.size
 have hMlt: ∀k,(Value.slice M m cm).ownBlock=some k→base≤k∧k<w1.heap.size:=fun k e=>by
  obtain⟨ad,e1,e2⟩:=own_blk e
  have:=own_lt_int HW1.out.oM ad e1;omega
 have hTlt: ∀k,(Value.slice T m ct).ownBlock=some k→base≤k∧k<w1.heap.size:=fun k e=>by
  obtain⟨ad,e1,e2⟩:=own_blk e
  have:=own_lt_int HW1.out.oT ad e1;omega
 have hVM:(Value.slice M m cm).ownBlock≠some V:=own_ne HW1.out.oM HW1.out.blk (by decide)
 have hVT:(Value.slice T m ct).ownBlock≠some V:=own_ne HW1.out.oT HW1.out.blk (by decide)
 clear HW
 refine At.start (L:=#[false,false,false,false,false,false,false,false,false,false,false,false,false,false,false,false,false,false,false,false,false,false,false,false,false]) (by kernel_rfl) rfl ?_
 refine AtP 0 44 ?_
 refine AtP 1 45 ?_
 refine AtP 2 46 ?_
 refine AtP 3 47 ?_
 refine AtP 4 48 ?_
 refine At.read 5 (some 49) (fun w'=>w'.cell? ⟨V,2,none⟩=some (.slice M m cm)) (v:=(.slice M m cm)) rfl rfl (by kernel_rfl) (fun _ _ _ h=>h) rfl q2 (fun w' hw'=>?y5c) ?_
 case y5c=>skip;go_simp;try with_reducible rfl
 try simp only [NS]
 refine AtP 6 50 ?_
 refine AtP 9 53 ?_
 refine AtP 10 54 ?_
 refine AtP 11 55 ?_
 refine At.read 12 (some 56) (fun w'=>w'.cell? ⟨V,3,none⟩=some (.slice T m ct)) (v:=(.slice T m ct)) rfl rfl (by kernel_rfl) (fun _ _ _ h=>h) rfl q3 (fun w' hw'=>?y12c) ?_
 case y12c=>skip;go_simp;try with_reducible rfl
 try simp only [NS]
 refine AtP 13 57 ?_
 refine AtP 14 58 ?_
 refine AtP 15 59 ?_
 refine At.read 16 (some 60) (fun w'=>w'.cell? ⟨V,1,none⟩=some (.int .i64 x)) (v:=(.int .i64 x)) rfl rfl (by kernel_rfl) (fun _ _ _ h=>h) rfl q1 (fun w' hw'=>?y16c) ?_
 case y16c=>skip;go_simp;try with_reducible rfl
 try simp only [NS]
 refine At.two 7 17 (pi:=[(16,(fun w'=>w'.cell? ⟨V,1,none⟩=some (.int .i64 x))),(12,(fun w'=>w'.cell? ⟨V,3,none⟩=some (.slice T m ct))),(5,(fun w'=>w'.cell? ⟨V,2,none⟩=some (.slice M m cm)))]) (pj:=[(12,(fun w'=>w'.cell? ⟨V,3,none⟩=some (.slice T m ct))),(5,(fun w'=>w'.cell? ⟨V,2,none⟩=some (.slice M m cm)))]) rfl rfl (by kernel_rfl) rfl rfl (by kernel_rfl) (by kernel_rfl) (fun K hK=>?_) (fun K hK=>?_)
 · skip
   go_simp
   skip
   refine hK _ _ (all_cons (by(try exact keep1 q1);(try exact keep2 q1)) (all_cons (by(try exact keep1 q3);(try exact keep2 q3)) (all_cons (by(try exact keep1 q2);(try exact keep2 q2)) all_nil))) ?_
   clear hK K
   try simp only [NS]
   refine At.two 8 17 (pi:=[(16,(fun w'=>w'.cell? ⟨V,1,none⟩=some (.int .i64 x))),(12,(fun w'=>w'.cell? ⟨V,3,none⟩=some (.slice T m ct)))]) (pj:=[(12,(fun w'=>w'.cell? ⟨V,3,none⟩=some (.slice T m ct))),(5,(fun w'=>w'.cell? ⟨V,2,none⟩=some (.slice M m cm)))]) rfl rfl (by kernel_rfl) rfl rfl (by kernel_rfl) (by kernel_rfl) (fun K hK=>?_) (fun K hK=>?_)
   · skip
     refine wp_append_src _ (.tmp 49) (.tmp 51) _ rfl base 3 i0 _ 8 Tryz.underlying22 hi0 hj0 hj1 hj2 rfl (.slice M m cm) m (acc.map fun p=>.int .i64 p.1) rfl (by first|exact HW1.out.oM.drew.alloc _|exact(HW1.out.oM.drew.alloc _).alloc _) _ 1 1 [.int .i64 z] rfl (by first|exact src_one w1.drew _ _|exact(src_one w1.drew _ _).alloc _|exact src_two w1.drew _ _ _) (by intro u hu;simp at hu;subst hu;rfl) (by simp only [maxLen];omega) (by omega) (by simp;omega) ?_
     intro v2 w2 hown2 hg2 hat2 _hold2
     obtain⟨M2,cm2,rfl⟩:=own_form hown2
     have kk:Keep (fun k=>(Value.slice M m cm).ownBlock=some k) w1 w2:=by first|exact(((Keep.refl _ w1).drew).alloc _).grown hg2 (fun k hk=>.inl hk)|exact((((Keep.refl _ w1).drew).alloc _).alloc _).grown hg2 (fun k hk=>.inl hk)
     have oT2:=own_keep HW1.out.oT kk (fun k e hk=>HW1.out.dj k hk e)
     have bV2:=HW1.out.blk.keep kk hVM
     have rB2:=HW1.out.rd.keep kk (fun ad e hk=>by have:=HW1.out.low ad e;have:=hMlt _ hk;omega)
     have r12:w2.cell? ⟨V,3,none⟩=some (.slice T m ct):=bV2.cell 3
     have r16:w2.cell? ⟨V,1,none⟩=some (.int .i64 x):=bV2.cell 1
     try have hsA:=((src_one w1.drew (.int .i64 x) 3).alloc _).keep ((Keep.refl (fun k=>(Value.slice M m cm).ownBlock=some k) _).grown hg2 (fun k hk=>.inl hk)) (fun ad e h=>by injection e with e;subst e;have:=hMlt _ h;simp at this)
     try have hsB:=(src_two w1.drew (.int .i64 x) (.int .i64 z) 3).keep ((Keep.refl (fun k=>(Value.slice M m cm).ownBlock=some k) _).grown hg2 (fun k hk=>.inl hk)) (fun ad e h=>by injection e with e;subst e;have:=hMlt _ h;simp at this;omega)
     have hM2: ∀k,(Value.slice M2 (m+1) cm2).ownBlock=some k→base≤k∧(Value.slice T m ct).ownBlock≠some k:=fun k e=>by
      rcases hat2 with h|h
      · rw [h]at e;exact⟨(hMlt k e).1,HW1.out.dj k e⟩
      · rw [h]at e
        injection e with e
        simp at e
        exact⟨by omega,fun hk=>by have:=hTlt k hk;omega⟩
     clear hat2 _hold2 hg2
     refine hK _ _ (all_cons r16 (all_cons r12 all_nil)) ?_
     clear hK K
     try simp only [NS]
     refine At.call 17 (pend':=[(12,(fun w'=>w'.cell? ⟨V,3,none⟩=some (.slice T m ct)))]) rfl (by kernel_rfl) rfl (by kernel_rfl) (fun K hK=>?_)
     go_simp
     skip
     refine hK _ _ (all_cons (by(try exact keep1 q3);(try exact keep2 q3);(try exact keep1 r12)) all_nil) ?_
     clear hK K
     try simp only [NS]
     refine AtC 18 fun K hK=>?_
     refine wp_append_src _ (.tmp 56) (.tmp 61) _ rfl base 3 i0 _ 8 Tryz.underlying22 hi0 hj0 hj1 hj2 rfl (.slice T m ct) m (acc.map fun p=>.int .i64 (p.2:Int)) rfl (by first|exact oT2|exact oT2.alloc _) _ 1 1 [.int .i64 x] rfl (by first|exact src_one w2 _ _|exact hsA|exact hsB) (by intro u hu;simp at hu;subst hu;rfl) (by simp only [maxLen];omega) (by omega) (by have:=kk.size;simp;omega) ?_
     intro v3 w3 hown3 hg3 hat3 _hold3
     obtain⟨T3,ct3,rfl⟩:=own_form hown3
     have k3:Keep (fun k=>(Value.slice T m ct).ownBlock=some k) w2 w3:=by first|exact(Keep.refl _ w2).grown hg3 (fun k hk=>.inl hk)|exact((Keep.refl _ w2).alloc _).grown hg3 (fun k hk=>.inl hk)
     have oM3:=own_keep hown2 k3 (fun k e hk=>(hM2 k e).2 hk)
     have bV3:=bV2.keep k3 hVT
     have rB3:=rB2.keep k3 (fun ad e hk=>by have:=HW1.out.low ad e;have:=hTlt _ hk;omega)
     have dj3: ∀j,(Value.slice M2 (m+1) cm2).ownBlock=some j→(Value.slice T3 (m+1) ct3).ownBlock≠some j:=fun j e hk=>by
      rcases hat3 with h|h
      · rw [h]at hk;exact(hM2 j e).2 hk
      · rw [h]at hk
        injection hk with hk
        obtain⟨ad,e1,e2⟩:=own_blk e
        have:=(own_lt_int hown2 ad e1).2
        try simp at hk
        omega
     have kW:Keep (fun j=>base≤j) w w3:=(HK1.out.trans kk (fun k hk e=>(hMlt k e).1)).trans k3 (fun k _ e=>(hTlt k e).1)
     have nM3:=own_ne oM3 bV3 (by decide)
     have nT3:=own_ne hown3 bV3 (by decide)
     have HF:=hid (fun (w5:World) (cs:Array Value) (h5:Keep (fun j=>j=V) w3 w5) (b5:Blk w5 V 67 cs) (e5:cs=#[.slice (some ⟨b,o,none⟩) n c,.int .i64 ((x+2:Nat):Int),.slice M2 (m+1) cm2,.slice T3 (m+1) ct3,.bool tl])=>by
      subst e5
      exact(⟨⟨M2,cm2,T3,ct3,{ HW1.out with
       blk:=b5
       rd:=rB3.keep h5 (fun ad e hk=>by have:=HW1.out.low ad e;have:=HW1.out.vb;omega)
       oM:=by rw [List.map_append];exact own_keep oM3 h5 (fun k e hk=>nM3 (by rw [e,hk]))
       oT:=by rw [List.map_append];exact own_keep hown3 h5 (fun k e hk=>nT3 (by rw [e,hk]))
       dj:=dj3
       few:=by have:=HW1.out.few;omega
       at_:=by omega }⟩,kW.trans h5 (fun k _ h=>by have:=HW1.out.vb;omega)⟩:(∃ M' cm' T' ct',WkG w5 base V (some ⟨b,o,none⟩) n c zs (x+2) M' (m+1) cm' T' ct' (acc++[(z,x)]) tl)∧Keep (fun j=>base≤j) w w5))
     have HB3:=hid bV3
     have e2:w3.cell? ⟨V,2,none⟩=some (.slice M m cm):=bV3.cell 2
     have e3:w3.cell? ⟨V,3,none⟩=some (.slice T m ct):=bV3.cell 3
     have e1:w3.cell? ⟨V,1,none⟩=some (.int .i64 x):=bV3.cell 1
     have f1:=bV3.frozen 1
     have f2:=bV3.frozen 2
     have f3:=bV3.frozen 3
     clear oM3 rB3 dj3 kW nM3 nT3 hat3 _hold3 hg3 hown3 k3 bV3 bV2 rB2 oT2 hown2 hM2 kk r12 r16 q1 q2 q3
     refine hK _ _ all_nil ?_
     clear hK K
     try simp only [NS]
     refine AtP 19 63 ?_
     refine AtP 20 64 ?_
     refine AtC 21 fun K hK=>?_
     go_simp
     skip
     refine hK _ _ all_nil ?_
     clear hK K
     try simp only [NS]
     refine AtP 22 65 ?_
     refine AtP 23 66 ?_
     refine AtC 24 fun K hK=>?_
     go_simp
     skip
     refine hK _ _ all_nil ?_
     clear hK K
     try simp only [NS]
     refine At.done (by kernel_rfl) ?_
     go_wp2_with fail
     refine bodyPost_ret (v:=.tuple #[.int .i64 z,.bool true]) (by simp [results,Tryz.results43,go_sem]) rfl ⟨rfl,?_⟩
     apply HF.out
     · with_reducible (repeat(first|refine Keep.drew ?_|refine Keep.setR ?_ _ _|exact Keep.refl _ _))
     · with_reducible (repeat(first|apply Blk.drew|apply Blk.set_|exact HB3.out))
     · first|rfl|simp
   · skip
     go_simp
     skip
     refine hK _ _ (all_cons (by(try exact keep1 q3);(try exact keep2 q3);(try exact keep1 r12)) (all_cons (by(try exact keep1 q2);(try exact keep2 q2)) all_nil)) ?_
     clear hK K
     try simp only [NS]
     refine At.call 8 (pend':=[(12,(fun w'=>w'.cell? ⟨V,3,none⟩=some (.slice T m ct)))]) rfl (by kernel_rfl) rfl (by kernel_rfl) (fun K hK=>?_)
     refine wp_append_src _ (.tmp 49) (.tmp 51) _ rfl base 3 i0 _ 8 Tryz.underlying22 hi0 hj0 hj1 hj2 rfl (.slice M m cm) m (acc.map fun p=>.int .i64 p.1) rfl (by first|exact HW1.out.oM.drew.alloc _|exact(HW1.out.oM.drew.alloc _).alloc _) _ 1 1 [.int .i64 z] rfl (by first|exact src_one w1.drew _ _|exact(src_one w1.drew _ _).alloc _|exact src_two w1.drew _ _ _) (by intro u hu;simp at hu;subst hu;rfl) (by simp only [maxLen];omega) (by omega) (by simp;omega) ?_
     intro v2 w2 hown2 hg2 hat2 _hold2
     obtain⟨M2,cm2,rfl⟩:=own_form hown2
     have kk:Keep (fun k=>(Value.slice M m cm).ownBlock=some k) w1 w2:=by first|exact(((Keep.refl _ w1).drew).alloc _).grown hg2 (fun k hk=>.inl hk)|exact((((Keep.refl _ w1).drew).alloc _).alloc _).grown hg2 (fun k hk=>.inl hk)
     have oT2:=own_keep HW1.out.oT kk (fun k e hk=>HW1.out.dj k hk e)
     have bV2:=HW1.out.blk.keep kk hVM
     have rB2:=HW1.out.rd.keep kk (fun ad e hk=>by have:=HW1.out.low ad e;have:=hMlt _ hk;omega)
     have r12:w2.cell? ⟨V,3,none⟩=some (.slice T m ct):=bV2.cell 3
     have r16:w2.cell? ⟨V,1,none⟩=some (.int .i64 x):=bV2.cell 1
     try have hsA:=((src_one w1.drew (.int .i64 x) 3).alloc _).keep ((Keep.refl (fun k=>(Value.slice M m cm).ownBlock=some k) _).grown hg2 (fun k hk=>.inl hk)) (fun ad e h=>by injection e with e;subst e;have:=hMlt _ h;simp at this)
     try have hsB:=(src_two w1.drew (.int .i64 x) (.int .i64 z) 3).keep ((Keep.refl (fun k=>(Value.slice M m cm).ownBlock=some k) _).grown hg2 (fun k hk=>.inl hk)) (fun ad e h=>by injection e with e;subst e;have:=hMlt _ h;simp at this;omega)
     have hM2: ∀k,(Value.slice M2 (m+1) cm2).ownBlock=some k→base≤k∧(Value.slice T m ct).ownBlock≠some k:=fun k e=>by
      rcases hat2 with h|h
      · rw [h]at e;exact⟨(hMlt k e).1,HW1.out.dj k e⟩
      · rw [h]at e
        injection e with e
        simp at e
        exact⟨by omega,fun hk=>by have:=hTlt k hk;omega⟩
     clear hat2 _hold2 hg2
     refine hK _ _ (all_cons r12 all_nil) ?_
     clear hK K
     try simp only [NS]
     refine AtC 18 fun K hK=>?_
     refine wp_append_src _ (.tmp 56) (.tmp 61) _ rfl base 3 i0 _ 8 Tryz.underlying22 hi0 hj0 hj1 hj2 rfl (.slice T m ct) m (acc.map fun p=>.int .i64 (p.2:Int)) rfl (by first|exact oT2|exact oT2.alloc _) _ 1 1 [.int .i64 x] rfl (by first|exact src_one w2 _ _|exact hsA|exact hsB) (by intro u hu;simp at hu;subst hu;rfl) (by simp only [maxLen];omega) (by omega) (by have:=kk.size;simp;omega) ?_
     intro v3 w3 hown3 hg3 hat3 _hold3
     obtain⟨T3,ct3,rfl⟩:=own_form hown3
     have k3:Keep (fun k=>(Value.slice T m ct).ownBlock=some k) w2 w3:=by first|exact(Keep.refl _ w2).grown hg3 (fun k hk=>.inl hk)|exact((Keep.refl _ w2).alloc _).grown hg3 (fun k hk=>.inl hk)
     have oM3:=own_keep hown2 k3 (fun k e hk=>(hM2 k e).2 hk)
     have bV3:=bV2.keep k3 hVT
     have rB3:=rB2.keep k3 (fun ad e hk=>by have:=HW1.out.low ad e;have:=hTlt _ hk;omega)
     have dj3: ∀j,(Value.slice M2 (m+1) cm2).ownBlock=some j→(Value.slice T3 (m+1) ct3).ownBlock≠some j:=fun j e hk=>by
      rcases hat3 with h|h
      · rw [h]at hk;exact(hM2 j e).2 hk
      · rw [h]at hk
        injection hk with hk
        obtain⟨ad,e1,e2⟩:=own_blk e
        have:=(own_lt_int hown2 ad e1).2
        try simp at hk
        omega
     have kW:Keep (fun j=>base≤j) w w3:=(HK1.out.trans kk (fun k hk e=>(hMlt k e).1)).trans k3 (fun k _ e=>(hTlt k e).1)
     have nM3:=own_ne oM3 bV3 (by decide)
     have nT3:=own_ne hown3 bV3 (by decide)
     have HF:=hid (fun (w5:World) (cs:Array Value) (h5:Keep (fun j=>j=V) w3 w5) (b5:Blk w5 V 67 cs) (e5:cs=#[.slice (some ⟨b,o,none⟩) n c,.int .i64 ((x+2:Nat):Int),.slice M2 (m+1) cm2,.slice T3 (m+1) ct3,.bool tl])=>by
      subst e5
      exact(⟨⟨M2,cm2,T3,ct3,{ HW1.out with
       blk:=b5
       rd:=rB3.keep h5 (fun ad e hk=>by have:=HW1.out.low ad e;have:=HW1.out.vb;omega)
       oM:=by rw [List.map_append];exact own_keep oM3 h5 (fun k e hk=>nM3 (by rw [e,hk]))
       oT:=by rw [List.map_append];exact own_keep hown3 h5 (fun k e hk=>nT3 (by rw [e,hk]))
       dj:=dj3
       few:=by have:=HW1.out.few;omega
       at_:=by omega }⟩,kW.trans h5 (fun k _ h=>by have:=HW1.out.vb;omega)⟩:(∃ M' cm' T' ct',WkG w5 base V (some ⟨b,o,none⟩) n c zs (x+2) M' (m+1) cm' T' ct' (acc++[(z,x)]) tl)∧Keep (fun j=>base≤j) w w5))
     have HB3:=hid bV3
     have e2:w3.cell? ⟨V,2,none⟩=some (.slice M m cm):=bV3.cell 2
     have e3:w3.cell? ⟨V,3,none⟩=some (.slice T m ct):=bV3.cell 3
     have e1:w3.cell? ⟨V,1,none⟩=some (.int .i64 x):=bV3.cell 1
     have f1:=bV3.frozen 1
     have f2:=bV3.frozen 2
     have f3:=bV3.frozen 3
     clear oM3 rB3 dj3 kW nM3 nT3 hat3 _hold3 hg3 hown3 k3 bV3 bV2 rB2 oT2 hown2 hM2 kk r12 r16 q1 q2 q3
     refine hK _ _ all_nil ?_
     clear hK K
     try simp only [NS]
     refine AtP 19 63 ?_
     refine AtP 20 64 ?_
     refine AtC 21 fun K hK=>?_
     go_simp
     skip
     refine hK _ _ all_nil ?_
     clear hK K
     try simp only [NS]
     refine AtP 22 65 ?_
     refine AtP 23 66 ?_
     refine AtC 24 fun K hK=>?_
     go_simp
     skip
     refine hK _ _ all_nil ?_
     clear hK K
     try simp only [NS]
     refine At.done (by kernel_rfl) ?_
     go_wp2_with fail
     refine bodyPost_ret (v:=.tuple #[.int .i64 z,.bool true]) (by simp [results,Tryz.results43,go_sem]) rfl ⟨rfl,?_⟩
     apply HF.out
     · with_reducible (repeat(first|refine Keep.drew ?_|refine Keep.setR ?_ _ _|exact Keep.refl _ _))
     · with_reducible (repeat(first|apply Blk.drew|apply Blk.set_|exact HB3.out))
     · first|rfl|simp
 · skip
   go_simp
   skip
   refine hK _ _ (all_cons (by(try exact keep1 q3);(try exact keep2 q3);(try exact keep1 r12)) (all_cons (by(try exact keep1 q2);(try exact keep2 q2)) all_nil)) ?_
   clear hK K
   try simp only [NS]
   refine At.call 7 (pend':=[(12,(fun w'=>w'.cell? ⟨V,3,none⟩=some (.slice T m ct))),(5,(fun w'=>w'.cell? ⟨V,2,none⟩=some (.slice M m cm)))]) rfl (by kernel_rfl) rfl (by kernel_rfl) (fun K hK=>?_)
   go_simp
   skip
   refine hK _ _ (all_cons (by(try exact keep1 q3);(try exact keep2 q3)) (all_cons (by(try exact keep1 q2);(try exact keep2 q2)) all_nil)) ?_
   clear hK K
   try simp only [NS]
   refine At.call 8 (pend':=[(12,(fun w'=>w'.cell? ⟨V,3,none⟩=some (.slice T m ct)))]) rfl (by kernel_rfl) rfl (by kernel_rfl) (fun K hK=>?_)
   refine wp_append_src _ (.tmp 49) (.tmp 51) _ rfl base 3 i0 _ 8 Tryz.underlying22 hi0 hj0 hj1 hj2 rfl (.slice M m cm) m (acc.map fun p=>.int .i64 p.1) rfl (by first|exact HW1.out.oM.drew.alloc _|exact(HW1.out.oM.drew.alloc _).alloc _) _ 1 1 [.int .i64 z] rfl (by first|exact src_one w1.drew _ _|exact(src_one w1.drew _ _).alloc _|exact src_two w1.drew _ _ _) (by intro u hu;simp at hu;subst hu;rfl) (by simp only [maxLen];omega) (by omega) (by simp;omega) ?_
   intro v2 w2 hown2 hg2 hat2 _hold2
   obtain⟨M2,cm2,rfl⟩:=own_form hown2
   have kk:Keep (fun k=>(Value.slice M m cm).ownBlock=some k) w1 w2:=by first|exact(((Keep.refl _ w1).drew).alloc _).grown hg2 (fun k hk=>.inl hk)|exact((((Keep.refl _ w1).drew).alloc _).alloc _).grown hg2 (fun k hk=>.inl hk)
   have oT2:=own_keep HW1.out.oT kk (fun k e hk=>HW1.out.dj k hk e)
   have bV2:=HW1.out.blk.keep kk hVM
   have rB2:=HW1.out.rd.keep kk (fun ad e hk=>by have:=HW1.out.low ad e;have:=hMlt _ hk;omega)
   have r12:w2.cell? ⟨V,3,none⟩=some (.slice T m ct):=bV2.cell 3
   have r16:w2.cell? ⟨V,1,none⟩=some (.int .i64 x):=bV2.cell 1
   try have hsA:=((src_one w1.drew (.int .i64 x) 3).alloc _).keep ((Keep.refl (fun k=>(Value.slice M m cm).ownBlock=some k) _).grown hg2 (fun k hk=>.inl hk)) (fun ad e h=>by injection e with e;subst e;have:=hMlt _ h;simp at this)
   try have hsB:=(src_two w1.drew (.int .i64 x) (.int .i64 z) 3).keep ((Keep.refl (fun k=>(Value.slice M m cm).ownBlock=some k) _).grown hg2 (fun k hk=>.inl hk)) (fun ad e h=>by injection e with e;subst e;have:=hMlt _ h;simp at this;omega)
   have hM2: ∀k,(Value.slice M2 (m+1) cm2).ownBlock=some k→base≤k∧(Value.slice T m ct).ownBlock≠some k:=fun k e=>by
    rcases hat2 with h|h
    · rw [h]at e;exact⟨(hMlt k e).1,HW1.out.dj k e⟩
    · rw [h]at e
      injection e with e
      simp at e
      exact⟨by omega,fun hk=>by have:=hTlt k hk;omega⟩
   clear hat2 _hold2 hg2
   refine hK _ _ (all_cons r12 all_nil) ?_
   clear hK K
   try simp only [NS]
   refine AtC 18 fun K hK=>?_
   refine wp_append_src _ (.tmp 56) (.tmp 61) _ rfl base 3 i0 _ 8 Tryz.underlying22 hi0 hj0 hj1 hj2 rfl (.slice T m ct) m (acc.map fun p=>.int .i64 (p.2:Int)) rfl (by first|exact oT2|exact oT2.alloc _) _ 1 1 [.int .i64 x] rfl (by first|exact src_one w2 _ _|exact hsA|exact hsB) (by intro u hu;simp at hu;subst hu;rfl) (by simp only [maxLen];omega) (by omega) (by have:=kk.size;simp;omega) ?_
   intro v3 w3 hown3 hg3 hat3 _hold3
   obtain⟨T3,ct3,rfl⟩:=own_form hown3
   have k3:Keep (fun k=>(Value.slice T m ct).ownBlock=some k) w2 w3:=by first|exact(Keep.refl _ w2).grown hg3 (fun k hk=>.inl hk)|exact((Keep.refl _ w2).alloc _).grown hg3 (fun k hk=>.inl hk)
   have oM3:=own_keep hown2 k3 (fun k e hk=>(hM2 k e).2 hk)
   have bV3:=bV2.keep k3 hVT
   have rB3:=rB2.keep k3 (fun ad e hk=>by have:=HW1.out.low ad e;have:=hTlt _ hk;omega)
   have dj3: ∀j,(Value.slice M2 (m+1) cm2).ownBlock=some j→(Value.slice T3 (m+1) ct3).ownBlock≠some j:=fun j e hk=>by
    rcases hat3 with h|h
    · rw [h]at hk;exact(hM2 j e).2 hk
    · rw [h]at hk
      injection hk with hk
      obtain⟨ad,e1,e2⟩:=own_blk e
      have:=(own_lt_int hown2 ad e1).2
      try simp at hk
      omega
   have kW:Keep (fun j=>base≤j) w w3:=(HK1.out.trans kk (fun k hk e=>(hMlt k e).1)).trans k3 (fun k _ e=>(hTlt k e).1)
   have nM3:=own_ne oM3 bV3 (by decide)
   have nT3:=own_ne hown3 bV3 (by decide)
   have HF:=hid (fun (w5:World) (cs:Array Value) (h5:Keep (fun j=>j=V) w3 w5) (b5:Blk w5 V 67 cs) (e5:cs=#[.slice (some ⟨b,o,none⟩) n c,.int .i64 ((x+2:Nat):Int),.slice M2 (m+1) cm2,.slice T3 (m+1) ct3,.bool tl])=>by
    subst e5
    exact(⟨⟨M2,cm2,T3,ct3,{ HW1.out with
     blk:=b5
     rd:=rB3.keep h5 (fun ad e hk=>by have:=HW1.out.low ad e;have:=HW1.out.vb;omega)
     oM:=by rw [List.map_append];exact own_keep oM3 h5 (fun k e hk=>nM3 (by rw [e,hk]))
     oT:=by rw [List.map_append];exact own_keep hown3 h5 (fun k e hk=>nT3 (by rw [e,hk]))
     dj:=dj3
     few:=by have:=HW1.out.few;omega
     at_:=by omega }⟩,kW.trans h5 (fun k _ h=>by have:=HW1.out.vb;omega)⟩:(∃ M' cm' T' ct',WkG w5 base V (some ⟨b,o,none⟩) n c zs (x+2) M' (m+1) cm' T' ct' (acc++[(z,x)]) tl)∧Keep (fun j=>base≤j) w w5))
   have HB3:=hid bV3
   have e2:w3.cell? ⟨V,2,none⟩=some (.slice M m cm):=bV3.cell 2
   have e3:w3.cell? ⟨V,3,none⟩=some (.slice T m ct):=bV3.cell 3
   have e1:w3.cell? ⟨V,1,none⟩=some (.int .i64 x):=bV3.cell 1
   have f1:=bV3.frozen 1
   have f2:=bV3.frozen 2
   have f3:=bV3.frozen 3
   clear oM3 rB3 dj3 kW nM3 nT3 hat3 _hold3 hg3 hown3 k3 bV3 bV2 rB2 oT2 hown2 hM2 kk r12 r16 q1 q2 q3
   refine hK _ _ all_nil ?_
   clear hK K
   try simp only [NS]
   refine AtP 19 63 ?_
   refine AtP 20 64 ?_
   refine AtC 21 fun K hK=>?_
   go_simp
   skip
   refine hK _ _ all_nil ?_
   clear hK K
   try simp only [NS]
   refine AtP 22 65 ?_
   refine AtP 23 66 ?_
   refine AtC 24 fun K hK=>?_
   go_simp
   skip
   refine hK _ _ all_nil ?_
   clear hK K
   try simp only [NS]
   refine At.done (by kernel_rfl) ?_
   go_wp2_with fail
   refine bodyPost_ret (v:=.tuple #[.int .i64 z,.bool true]) (by simp [results,Tryz.results43,go_sem]) rfl ⟨rfl,?_⟩
   apply HF.out
   · with_reducible (repeat(first|refine Keep.drew ?_|refine Keep.setR ?_ _ _|exact Keep.refl _ _))
   · with_reducible (repeat(first|apply Blk.drew|apply Blk.set_|exact HB3.out))
   · first|rfl|simp
end Go.Proofs.YthfogcgdijmaoaaGreat
