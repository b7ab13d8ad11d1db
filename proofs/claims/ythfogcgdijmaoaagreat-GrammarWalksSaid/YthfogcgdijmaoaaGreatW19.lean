/-
  Part 19 of the proof: Main Merge Sorted. Conditions: those of the statements.
-/
import Derived.Test.YthfogcgdijmaoaaGreatW17
import Derived.Test.YthfogcgdijmaoaaGreatW18
set_option maxRecDepth 100000
set_option maxHeartbeats 16000000
set_option linter.unusedVariables false
set_option linter.unusedSimpArgs false
namespace Go.Proofs.YthfogcgdijmaoaaGreat
open Go.RowKit
def mainB (x1 x2 x3 rem:List Int):List Int:=putB 65359 2++segB 65361 x1++segB 65362 x2++segB 65372 x3++(if rem=[]then []else segB 65380 ([0,1]++rem))
def MainP (w:World) (m:Im) (p:Pm) (rem:List Int) (e:Ending) (w':World):Prop:=
 ∃A n c x1 x2 x3,e=.returned (.slice A n c)∧By w w.heap.size A n c (mainB x1 x2 x3 rem) w'∧x1.length=36+3*m.n∧x2.length=11+p.lev∧x3.length=2+3*p.lev∧n≤2000
theorem By.ge {w0 w:World} {base n c:Nat} {A:Option Addr} {zs:List Int} (h:By w0 base A n c zs w) {a:Addr} (e:A=some a):base≤a.block:=by subst e;exact(h.own.lt a.block (by simp [Value.ownBlock])).1
theorem By.apart {w0 w w':World} {base n c n' c':Nat} {A X:Option Addr} {zs xs:List Int} (h:By w0 base A n c zs w) (h':By w w.heap.size X n' c' xs w'): ∀a x,A=some a→X=some x→a.block≠x.block:=fun a x ea ex e=>by
 have h1:=h.lt ea
 have h2:=h'.ge ex
 omega
theorem main_any (w:World) (m:Im) (p:Pm) (RA:Option Addr) (rn rc:Nat) (rem:List Int) (cs:List Cm) (hcs:RdS w m.A m.n 5 (cms cs)) (hl:cs.length=m.n) (hC: ∀c∈cs,CmOk c) (hD: ∀c∈cs,c.depth≤10) (hn4:m.n≤4) (hL:p.lev≤5) (hr:Rd w RA rn (rem.map (Value.int .u8))) (hrb:Bytes rem) (hrn:rn≤1000):
 Calls Tryz.prog 21 #[.agg (hcells m p RA rn rc)] w (MainP w m p rem):=by
 obtain⟨i0,hi0,hz0,hz1,hz2⟩:=info_parts info_u8
 have SZ:=hid (fun w (h:RdS w m.A m.n 5 (cms cs))=>sizes_any w m p RA rn rc cs h hl hn4 hC)
 have ST:=hid (fun w (h:RdS w m.A m.n 5 (cms cs))=>steps_any w m p RA rn rc cs h hl hD hn4 hL)
 have HR:=hid hcs
 have HRM:=hid hr
 have HRB:=hid hrb
 have hrl:=hr.len
 have HRL:=hid hrl
 have HB0:=hid (Blk.new w 58 (hcells m p RA rn rc))
 have HK0:=hid ((Keep.refl (fun _=>False) w).alloc (.cells (hcells m p RA rn rc) 58))
 have hL5:=hid hL
 clear hcs hl hC hD hr hrb hrl
 go_enter Tryz.func21,Tryz.ntmps21
 go_upto_region 1 with fail
 generalize w.alloc (.cells (hcells m p RA rn rc) 58)=w1 at*
 have hrg:w1.drew.rangeAt w.heap.size 0 (hcells m p RA rn rc).toList:=HB0.out.drew.range
 have HY0:=hid (By.start HK0.out.drew)
 have nf:=hid (own_ne HY0.out.own HB0.out.drew (by decide))
 obtain⟨k1,hk1⟩: ∃k1,36+3*m.n=k1:=⟨_,rfl⟩
 rw [hk1]at SZ
 have HE1:=hid hk1
 have hk1b:k1≤48:=by omega
 clear hk1
 refine At.start (L:=#[false,false,false,false,false]) (by kernel_rfl) rfl ?_
 first|refine AtL 1 5 Tryz.underlying58 ?_|refine AtR 1 5 Tryz.underlying58 ?_
 refine At.call_all 0 rfl (by kernel_rfl) rfl (fun K hK=>?_)
 go_simp
 refine(put_at w _ w.heap.size none 0 0 [] 2 65359 HY0.out (by omega) (by omega) (by omega)).mono ?_
 rintro e w2 ⟨A2,c2,rfl,h2,hk2,_⟩
 rw [Nat.zero_add,List.nil_append]at h2
 rw [Nat.zero_add]
 have HY2:=hid h2
 have HB2:=hid (HY0.out.far HB0.out.drew (by decide) hk2 (fun _ h=>h))
 clear h2
 refine hK _ _ (all_cons (range_keep (by assumption) hk2 nf.out) all_nil) ?_
 clear hK K
 try simp only [NS]
 refine AtC 2 fun K hK=>?_
 go_simp
 refine(SZ.out _ (HR.out.keep0 HY2.out.keep)).mono ?_
 rintro e w3 ⟨X1,d1,x1,rfl,h3⟩
 have HX1:=hid h3
 have HY3:=hid (HY2.out.keepF h3.keep)
 have HB3:=hid (HB2.out.keep h3.keep id)
 have HAP:=hid (HY2.out.apart h3)
 refine hK _ _ all_nil ?_
 clear hK K
 try simp only [NS]
 refine AtC 3 fun K hK=>?_
 go_simp
 refine(seg_any w _ w.heap.size A2 2 c2 _ 65361 X1 k1 d1 x1 HY3.out HX1.out.rd HX1.out.bytes HAP.out (fun x e=>HX1.out.lt e) (by omega) (by omega)).mono ?_
 rintro e w4 ⟨A4,c4,rfl,h4,_,hk4⟩
 have HY4:=hid h4
 have nf4:=hid (show¬FA A2 w.heap.size from fun hf=>own_ne HY3.out.own HB3.out (by decide) (fa_own hf))
 have HB4:=hid (HB3.out.keep hk4 nf4.out)
 rw [show 2+(4+k1)=6+k1 by omega]at h4 ⊢
 have HY4:=hid h4
 clear h4
 refine hK _ _ all_nil ?_
 clear hK K
 try simp only [NS]
 refine AtP 4 3 ?_
 refine At.done (by kernel_rfl) ?_
 clear hk2 h3 hk4 hrg HY0 nf HY2 HB2 HY3 HB3 HAP nf4 HB0 HK0
 have HX1L:=hid (show x1.length=k1 from HX1.out.len)
 clear HX1
 obtain⟨k2,hk2⟩: ∃k2,11+p.lev=k2:=⟨_,rfl⟩
 have WY:=hid (fun w=>ways_any w p hL5.out)
 rw [hk2]at WY
 have HE2:=hid hk2
 have hk2b:k2≤16:=by omega
 clear hk2
 have HP:=hid (hrange_p HB4.out)
 obtain⟨n4,hn4'⟩: ∃n4,6+k1=n4:=⟨_,rfl⟩
 rw [hn4']at HY4 ⊢
 have hn4b:n4≤54:=by omega
 clear hn4'
 go_wp2_with (refine wpList_load_mid rfl 31 (.tmp 9) rfl _ _ rfl _ _ HP.out Tryz.underlying31 rfl (by kernel_rfl) ?_)
 refine(WY.out _).mono ?_
 rintro e w5 ⟨X2,d2,x2,rfl,h5⟩
 have HX2:=hid h5
 have HY5:=hid (HY4.out.keepF h5.keep)
 have HB5:=hid (HB4.out.keep h5.keep id)
 have HAP:=hid (HY4.out.apart h5)
 clear h5 HY4 HB4 HP WY
 go_wp2_with fail
 refine(seg_any w _ w.heap.size A4 n4 c4 _ 65362 X2 k2 d2 x2 HY5.out HX2.out.rd HX2.out.bytes HAP.out (fun x e=>HX2.out.lt e) (by omega) (by omega)).mono ?_
 rintro e w6 ⟨A6,c6,rfl,h6,_,hk6⟩
 have HB6:=hid (HB5.out.keep hk6 (fun hf=>own_ne HY5.out.own HB5.out (by decide) (fa_own hf)))
 obtain⟨n6,hn6'⟩: ∃n6,n4+(4+k2)=n6:=⟨_,rfl⟩
 rw [hn6']at h6 ⊢
 have HY6:=hid h6
 have hn6b:n6≤80:=by omega
 have HX2L:=hid (show x2.length=k2 from HX2.out.len)
 clear h6 hk6 hn6' HY5 HB5 HAP HX2
 obtain⟨k3,hk3⟩: ∃k3,2+3*p.lev=k3:=⟨_,rfl⟩
 rw [hk3]at ST
 have HE3:=hid hk3
 have hk3b:k3≤20:=by omega
 clear hk3
 have HRG:=hid (HB6.out.range)
 go_wp2_with (refine wpList_load_mid rfl 58 (.tmp 1) rfl _ _ rfl _ _ HRG.out Tryz.underlying58 rfl (by kernel_rfl) ?_)
 refine(ST.out _ (HR.out.keep0 HY6.out.keep)).mono ?_
 rintro e w7 ⟨X3,d3,x3,rfl,h7⟩
 have HX3:=hid h7
 have HY7:=hid (HY6.out.keepF h7.keep)
 have HB7:=hid (HB6.out.keep h7.keep id)
 have HAP:=hid (HY6.out.apart h7)
 clear h7 HY6 HB6 HRG
 go_wp2_with fail
 refine(seg_any w _ w.heap.size A6 n6 c6 _ 65372 X3 k3 d3 x3 HY7.out HX3.out.rd HX3.out.bytes HAP.out (fun x e=>HX3.out.lt e) (by omega) (by omega)).mono ?_
 rintro e w8 ⟨A8,c8,rfl,h8,_,hk8⟩
 have HB8:=hid (HB7.out.keep hk8 (fun hf=>own_ne HY7.out.own HB7.out (by decide) (fa_own hf)))
 obtain⟨n8,hn8'⟩: ∃n8,n6+(4+k3)=n8:=⟨_,rfl⟩
 rw [hn8']at h8 ⊢
 have HY8:=hid h8
 have hn8b:n8≤104:=by omega
 have HX3L:=hid (show x3.length=k3 from HX3.out.len)
 clear h8 hk8 hn8' HY7 HB7 HAP HX3
 have HZ:=hid (show∀(A:Option Addr) (n c:Nat) (w':World),By w w.heap.size A n c (mainB x1 x2 x3 rem) w'→n≤2000→MainP w m p rem (.returned (.slice A n c)) w' from fun A n c w' h hn=>⟨A,n,c,x1,x2,x3,rfl,h,by rw [HX1L.out,HE1.out],by rw [HX2L.out,HE2.out],by rw [HX3L.out,HE3.out],hn⟩)
 have s17:w8.cell? ⟨w.heap.size,17,none⟩=some (.slice RA rn rc):=HB8.out.cell 17
 by_cases h0:rn=0
 · have HN:=hid (show rem=[]from List.eq_nil_of_length_eq_zero (by rw [HRL.out,h0]))
   subst h0
   go_wp2_with fail
   go_ret
   refine HZ.out _ _ _ _ ?_ (by omega)
   have h8:=HY8.out
   unfold mainB
   rw [if_pos HN.out,List.append_nil]
   exact h8
 · have hpos:0<rn:=by omega
   have HN:=hid (show¬rem=[]from fun e=>h0 (by rw [← HRL.out,e];rfl))
   have hb8:w.heap.size≤w8.heap.size:=HY8.out.keep.size
   have hlt8:w.heap.size<w8.heap.size:=HB8.out.lt
   have HNW:=hid (own_new w8 w8.heap.size 5 #[.int .u8 0,.int .u8 1] 2 rfl (by simp only [maxLen];omega) (Nat.le_refl _))
   have HRD:=hid ((HRM.out.keepF HY8.out.keep).alloc (.cells #[.int .u8 0,.int .u8 1] 5))
   go_wp2_with (
    at_builtin
    go_must (refine wpList_append_src _ rfl (.tmp 22) (.tmp 24) 25 rfl w8.heap.size 5 i0 _ 1 Tryz.underlying25 hi0 hz0 hz1 hz2 rfl HNW.out rfl HRD.out rfl (oneCell_ints _ _) (by simp only [maxLen];omega) (by omega) (by simp) ?_)
    intro v2 w9 hown2 hg2 hat2 _hold2
    obtain⟨X9,d9,rfl⟩:=own_form hown2
    have hk9:=keep_append_new rfl hg2
    have HX9:=hid (show By w8 w8.heap.size X9 (2+rn) d9 ([0,1]++rem) w9 from
     ⟨by rw [List.map_append];exact hown2,hk9,Bytes.app (by intro z hz;simp only [List.mem_cons,List.not_mem_nil,or_false]at hz;omega) HRB.out,Nat.le_refl _,hk9.size⟩)
    have HY9:=hid (HY8.out.keepF hk9)
    have HAP:=hid (HY8.out.apart HX9.out)
    clear hown2 hg2 hat2 _hold2 hk9)
   refine(seg_any w _ w.heap.size A8 n8 c8 _ 65380 X9 (2+rn) d9 ([0,1]++rem) HY9.out HX9.out.rd HX9.out.bytes HAP.out (fun x e=>HX9.out.lt e) (by omega) (by omega)).mono ?_
   rintro e w10 ⟨A10,c10,rfl,h10,_,_⟩
   have H10:=hid h10
   clear h10
   go_wp2_with fail
   go_ret
   refine HZ.out _ _ _ _ ?_ (by omega)
   have h8:=H10.out
   unfold mainB
   rw [if_neg HN.out]
   exact h8
structure Ky where
 lay:Nat
 res:Nat
 comp:Nat
 prec:Nat
def Ky.cells (k:Ky):List Value:=[.int .i64 k.lay,.int .i64 k.res,.int .i64 k.comp,.int .i64 k.prec]
structure Rk where
 k:Ky
 a:Int
 b:Int
 c:Int
 d:Int
 e:Int
 f:Int
def Rk.r (x:Rk):List Value:=[.int .i64 x.a,.int .i64 x.b,.int .i64 x.c,.int .i64 x.d,.int .i64 x.e,.int .i64 x.f]
def Rk.cells (x:Rk):List Value:=[.int .i64 x.k.lay,.int .i64 x.k.res,.int .i64 x.k.comp,.int .i64 x.k.prec,.int .i64 x.a,.int .i64 x.b,.int .i64 x.c,.int .i64 x.d,.int .i64 x.e,.int .i64 x.f]
theorem Rk.len (s:Rk):s.cells.length=10:=rfl
theorem Rk.one (s:Rk): ∀v∈s.cells,v.oneCell'=true:=by
 intro v hv
 unfold Rk.cells at hv
 simp at hv
 rcases hv with rfl|rfl|rfl|rfl|rfl|rfl|rfl|rfl|rfl|rfl<;>rfl
theorem Rk.six (x:Rk):Six x.r.toArray:=⟨_,_,_,_,_,_,rfl⟩
theorem info_rk :(Tryz.prog.info? 129).map (fun i=>(i.zero,i.size,i.bytes))=some (some (.agg #[.int .i64 0,.int .i64 0,.int .i64 0,.int .i64 0,.int .i64 0,.int .i64 0,.int .i64 0,.int .i64 0,.int .i64 0,.int .i64 0]),10,80):=by kernel_rfl
theorem Rk.range {w:World} {b o:Nat} {x:Rk} (h:w.rangeAt b o x.cells):w.rangeAt b (o+4) x.r:=fun j v hj=>by
 have:=h (4+j) v (by show x.cells[4+j]? =_;unfold Rk.cells;unfold Rk.r at hj;rw [show 4+j=j+1+1+1+1 by omega];exact hj)
 rwa [← Nat.add_assoc]at this
structure MI (w0:World) (la lb ls:List Rk) (A:Option Addr) (n c:Nat) (w:World):Prop where
 own:w.ownsRow w0.heap.size 129 10 (.slice A n c) n (fl Rk.cells ls)
 keep:Keep (fun _=>False) w0 w
 ok: ∀x∈ls,x∈la∨x∈lb
theorem MI.next {w0 w w':World} {la lb ls:List Rk} {A A':Option Addr} {n c c':Nat} (h:MI w0 la lb ls A n c w) {x:Rk} (hx:x∈la∨x∈lb) (ho:w'.ownsRow w0.heap.size 129 10 (.slice A' (n+1) c') (n+1) (fl Rk.cells ls++x.cells))
 (hk:Keep (fun i=>(Value.slice A n c).ownBlock=some i) w w'):MI w0 la lb (ls++[x]) A' (n+1) c' w':=
 ⟨by rw [fl_snoc];exact ho,keep_app h.keep h.own (Nat.le_refl _) hk,fun q hq=>by
  rcases List.mem_append.1 hq with h1|h1
  · exact h.ok q h1
  · rw [List.mem_singleton]at h1
    subst h1
    exact hx⟩
theorem MI.keepF {w0 w w':World} {la lb ls:List Rk} {A:Option Addr} {n c:Nat} (h:MI w0 la lb ls A n c w) (hk:Keep (fun _=>False) w w'):MI w0 la lb ls A n c w':=⟨own_keepF h.own hk,h.keep.trans hk (fun _ _ h=>h),h.ok⟩
def RksP (w:World) (n:Nat) (Q:Rk→Prop) (e:Ending) (w':World):Prop:= ∃A c ls,e=.returned (.slice A n c)∧RdS w' A n 10 (fl Rk.cells ls)∧n≤c∧(∀ x∈ls,Q x)∧Keep (fun _=>False) w w'
theorem merge_any (w:World) (A B:Option Addr) (n m ca cb:Nat) (la lb:List Rk) (ha:RdS w A n 10 (fl Rk.cells la)) (hb:RdS w B m 10 (fl Rk.cells lb)) (hnm:n+m≤8000):
 Calls Tryz.prog 94 #[.slice A n ca,.slice B m cb] w (RksP w (n+m) (fun x=>x∈la∨x∈lb)):=by
 obtain⟨i0,hi0,hz0,hz1,hz2⟩:=info_parts info_rk
 have HA:=hid ha
 have HB:=hid hb
 have hla:=ha.llen Rk.len (by omega)
 have hlb:=hb.llen Rk.len (by omega)
 have HLA:=hid hla
 have HLB:=hid hlb
 clear ha hb hla hlb
 have HM0:=hid (show MI w la lb [] none 0 0 w from⟨World.ownsRow_nil _ _ _ _,Keep.refl _ _,fun _ h=>by cases h⟩)
 have HZ:=hid (show∀(O:Option Addr) (c:Nat) (ls:List Rk) (k:Nat) (w':World),k=n+m→MI w la lb ls O k c w'→RksP w (n+m) (fun x=>x∈la∨x∈lb) (.returned (.slice O k c)) w' from fun O c ls k w' e h=>by subst e;exact⟨O,c,ls,rfl,RdS.of_own h.own,own_cap h.own,h.ok,h.keep⟩)
 go_enter Tryz.func94,Tryz.ntmps94
 go_wp2_with fail
 go_loopw [5,6,7] (fun l u v wr=> ∃(i j:Nat) (O:Option Addr) (c:Nat) (ls:List Rk),i≤n∧j≤m∧u=.int .i64 i∧v=.int .i64 j∧l=.slice O (i+j) c∧Hid (MI w la lb ls O (i+j) c wr)∧Hid (ls.length=i+j)) (fun _ u v _=>n+m-((intOf u).toNat+(intOf v).toNat))
 case atStart=>exact⟨0,0,none,0,[],by omega,by omega,rfl,rfl,rfl,HM0,hid rfl⟩
 case round=>
  clear HM0
  obtain⟨i,j,O,c,ls,hi,hj,rfl,rfl,rfl,HM,HL⟩:=hrel
  by_cases hin:i<n
  · obtain⟨x,hx⟩: ∃x,la[i]? =some x:=⟨_,List.getElem?_eq_getElem (by rw [HLA.out];exact hin)⟩
    obtain⟨ba,oa,hAe,hxr⟩:=(HA.out.keep0 HM.out.keep).get Rk.len hin hx
    have hxm:x∈la∨x∈lb:=.inl (List.mem_of_getElem? hx)
    subst hAe
    by_cases hjm:j=m
    · subst hjm
      have hd1:decide (i<n)=true:=by simpa using hin
      go_upto_region 4 with fail
      refine At.start (L:=#[false,false,false,false,false,false,false,false,false,false,false,false,false,false,false,false,false,false,false,false,false,false,false,false]) (by kernel_rfl) rfl ?_
      refine AtP 0 18 ?_
      refine AtP 1 19 ?_
      refine AtP 2 20 ?_
      refine AtP 3 21 ?_
      refine AtP 4 22 ?_
      refine At.skip 5 (some 23) rfl rfl (by kernel_rfl) (fun _ _ _ h=>h) rfl ?_
      try simp only [NS]
      refine At.skip 6 (some 24) rfl rfl (by kernel_rfl) (fun _ _ _ h=>h) rfl ?_
      try simp only [NS]
      refine At.skip 7 (some 25) rfl rfl (by kernel_rfl) (fun _ _ _ h=>h) rfl ?_
      try simp only [NS]
      refine At.skip 8 (some 26) rfl rfl (by kernel_rfl) (fun _ _ _ h=>h) rfl ?_
      try simp only [NS]
      refine At.skip 9 (some 27) rfl rfl (by kernel_rfl) (fun _ _ _ h=>h) rfl ?_
      try simp only [NS]
      refine At.skip 10 (some 28) rfl rfl (by kernel_rfl) (fun _ _ _ h=>h) rfl ?_
      try simp only [NS]
      refine At.skip 11 (some 29) rfl rfl (by kernel_rfl) (fun _ _ _ h=>h) rfl ?_
      try simp only [NS]
      refine At.skip 12 (some 30) rfl rfl (by kernel_rfl) (fun _ _ _ h=>h) rfl ?_
      try simp only [NS]
      refine At.skip 13 (some 31) rfl rfl (by kernel_rfl) (fun _ _ _ h=>h) rfl ?_
      try simp only [NS]
      refine At.skip 14 (some 32) rfl rfl (by kernel_rfl) (fun _ _ _ h=>h) rfl ?_
      try simp only [NS]
      refine At.skip 15 (some 33) rfl rfl (by kernel_rfl) (fun _ _ _ h=>h) rfl ?_
      try simp only [NS]
      refine At.skip 16 (some 34) rfl rfl (by kernel_rfl) (fun _ _ _ h=>h) rfl ?_
      try simp only [NS]
      refine At.skip 17 (some 35) rfl rfl (by kernel_rfl) (fun _ _ _ h=>h) rfl ?_
      try simp only [NS]
      refine At.skip 18 (some 36) rfl rfl (by kernel_rfl) (fun _ _ _ h=>h) rfl ?_
      try simp only [NS]
      refine At.skip 19 (some 37) rfl rfl (by kernel_rfl) (fun _ _ _ h=>h) rfl ?_
      try simp only [NS]
      refine At.skip 20 (some 38) rfl rfl (by kernel_rfl) (fun _ _ _ h=>h) rfl ?_
      try simp only [NS]
      refine At.skip 21 (some 39) rfl rfl (by kernel_rfl) (fun _ _ _ h=>h) rfl ?_
      try simp only [NS]
      refine At.skip 22 (some 40) rfl rfl (by kernel_rfl) (fun _ _ _ h=>h) rfl ?_
      try simp only [NS]
      refine AtP 23 41 ?_
      refine At.done (by kernel_rfl) ?_
      have hkw:Keep (fun _=>False) wr wr.drew:=(Keep.refl _ wr).drew
      replace HM:=hid (HM.out.keepF hkw)
      replace hxr:=range_keep hxr hkw id
      generalize wr.drew=w5 at*
      clear hkw
      have HXR:=hid hxr
      have HX1:=hid (Rk.one x)
      have HXM:=hid hxm
      have HOW:=hid HM.out.own
      have hb:w.heap.size≤w5.heap.size:=HM.out.keep.size
      clear hxr hxm
      obtain⟨⟨x1,x2,x3,x4⟩,x5,x6,x7,x8,x9,x10⟩:=x
      unfold Rk.cells at HXR
      go_wp2_with (first|(refine wpList_load_mid rfl 129 (.tmp 45) rfl _ _ rfl _ _ HXR.out Tryz.underlying129 rfl (by kernel_rfl) ?_)|(
       at_builtin
       go_must (refine wpList_append_rows w5 rfl (.tmp 42) (.tmp 47) 121 rfl w.heap.size 129 i0 _ 10 80 Tryz.underlying121 hi0 hz0 hz1 hz2 rfl (by omega) HOW.out rfl _ rfl rfl (fun v hv=>HX1.out v hv) (by simp only [maxLen];omega) (by omega) hb ?_)
       intro A6 c6 w6 hown6 hk6
       have HN6:=hid (HM.out.next HXM.out hown6 hk6)
       have HL6:=hid (show∀s:Rk,(ls++[s]).length=i+j+1 from fun s=>by rw [List.length_append,HL.out];rfl)
       clear hown6))
      go_roundw
      case rel=>exact⟨i+1,j,A6,c6,_,by omega,by omega,by go_num,by go_num,by rw [show i+1+j=i+j+1 by omega],by rw [show i+1+j=i+j+1 by omega];exact HN6,hid (by rw [show i+1+j=i+j+1 by omega];exact HL6.out _)⟩
      case measure=>simp [intOf]<;>omega
    · have hjm2:j<m:=by omega
      obtain⟨y,hy⟩: ∃y,lb[j]? =some y:=⟨_,List.getElem?_eq_getElem (by rw [HLB.out];exact hjm2)⟩
      obtain⟨bb,ob,hBe,hyr⟩:=(HB.out.keep0 HM.out.keep).get Rk.len hjm2 hy
      have hym:y∈la∨y∈lb:=.inr (List.mem_of_getElem? hy)
      subst hBe
      have hd1:decide (i<n)=true:=by simpa using hin
      have hd2:((j:Int)==(m:Int))=false:=by simp;omega
      have hd3:(j==m)=false:=by simp;omega
      have hxr4:wr.drew.rangeAt ba (oa+i*10+4) x.r:=Rk.range hxr
      have hyr4:wr.drew.rangeAt bb (ob+j*10+4) y.r:=Rk.range hyr
      have HX6:=hid x.six
      have HY6:=hid y.six
      go_upto_region 4 with fail
      refine At.start (L:=#[false,false,false,false,false,false,false,false,false,false,false,false,false,false,false,false,false,false,false,false,false,false,false,false]) (by kernel_rfl) rfl ?_
      refine AtP 0 18 ?_
      refine AtP 1 19 ?_
      refine AtP 2 20 ?_
      refine AtP 3 21 ?_
      refine AtP 4 22 ?_
      refine AtP 5 23 ?_
      refine AtP 6 24 ?_
      refine AtP 7 25 ?_
      refine AtP 8 26 ?_
      refine AtP 9 27 ?_
      refine AtP 10 28 ?_
      refine AtP 11 29 ?_
      refine AtP 12 30 ?_
      refine AtP 13 31 ?_
      first|refine AtL 14 32 Tryz.underlying126 ?_|refine AtR 14 32 Tryz.underlying126 ?_
      refine AtP 15 33 ?_
      refine AtP 16 34 ?_
      refine AtP 17 35 ?_
      refine AtP 18 36 ?_
      first|refine AtL 19 37 Tryz.underlying126 ?_|refine AtR 19 37 Tryz.underlying126 ?_
      refine AtC 20 fun K hK=>?_
      go_simp
      refine(less_any _ _ _ HY6.out HX6.out).mono ?_
      rintro e w5 ⟨rr,rfl,hk⟩
      have hkw:Keep (fun _=>False) wr w5:=((Keep.refl _ wr).drew).trans hk (fun _ _ h=>h)
      replace HM:=hid (HM.out.keepF hkw)
      replace hxr:=range_keep hxr hkw id
      replace hyr:=range_keep hyr hkw id
      clear hkw
      refine hK _ _ all_nil ?_
      clear hK K
      try simp only [NS]
      refine AtP 21 39 ?_
      refine AtP 22 40 ?_
      refine AtP 23 41 ?_
      refine At.done (by kernel_rfl) ?_
      clear hk hxr4 hyr4
      cases rr with
      |false=>
       clear hyr
       have HXR:=hid hxr
       have HX1:=hid (Rk.one x)
       have HXM:=hid hxm
       have HOW:=hid HM.out.own
       have hb:w.heap.size≤w5.heap.size:=HM.out.keep.size
       clear hxr hxm
       obtain⟨⟨x1,x2,x3,x4⟩,x5,x6,x7,x8,x9,x10⟩:=x
       unfold Rk.cells at HXR
       go_wp2_with (first|(refine wpList_load_mid rfl 129 (.tmp 45) rfl _ _ rfl _ _ HXR.out Tryz.underlying129 rfl (by kernel_rfl) ?_)|(
        at_builtin
        go_must (refine wpList_append_rows w5 rfl (.tmp 42) (.tmp 47) 121 rfl w.heap.size 129 i0 _ 10 80 Tryz.underlying121 hi0 hz0 hz1 hz2 rfl (by omega) HOW.out rfl _ rfl rfl (fun v hv=>HX1.out v hv) (by simp only [maxLen];omega) (by omega) hb ?_)
        intro A6 c6 w6 hown6 hk6
        have HN6:=hid (HM.out.next HXM.out hown6 hk6)
        have HL6:=hid (show∀s:Rk,(ls++[s]).length=i+j+1 from fun s=>by rw [List.length_append,HL.out];rfl)
        clear hown6))
       go_roundw
       case rel=>exact⟨i+1,j,A6,c6,_,by omega,by omega,by go_num,by go_num,by rw [show i+1+j=i+j+1 by omega],by rw [show i+1+j=i+j+1 by omega];exact HN6,hid (by rw [show i+1+j=i+j+1 by omega];exact HL6.out _)⟩
       case measure=>simp [intOf]<;>omega
      |true=>
       clear hxr hxm
       replace hxr:=hyr
       replace hxm:=hym
       generalize y=x at*
       have HXR:=hid hxr
       have HX1:=hid (Rk.one x)
       have HXM:=hid hxm
       have HOW:=hid HM.out.own
       have hb:w.heap.size≤w5.heap.size:=HM.out.keep.size
       clear hxr hxm
       obtain⟨⟨x1,x2,x3,x4⟩,x5,x6,x7,x8,x9,x10⟩:=x
       unfold Rk.cells at HXR
       go_wp2_with (first|(refine wpList_load_mid rfl 129 (.tmp 54) rfl _ _ rfl _ _ HXR.out Tryz.underlying129 rfl (by kernel_rfl) ?_)|(
        at_builtin
        go_must (refine wpList_append_rows w5 rfl (.tmp 51) (.tmp 56) 121 rfl w.heap.size 129 i0 _ 10 80 Tryz.underlying121 hi0 hz0 hz1 hz2 rfl (by omega) HOW.out rfl _ rfl rfl (fun v hv=>HX1.out v hv) (by simp only [maxLen];omega) (by omega) hb ?_)
        intro A6 c6 w6 hown6 hk6
        have HN6:=hid (HM.out.next HXM.out hown6 hk6)
        have HL6:=hid (show∀s:Rk,(ls++[s]).length=i+j+1 from fun s=>by rw [List.length_append,HL.out];rfl)
        clear hown6))
       go_roundw
       case rel=>exact⟨i,j+1,A6,c6,_,by omega,by omega,by go_num,by go_num,by rw [show i+(j+1)=i+j+1 by omega],by rw [show i+(j+1)=i+j+1 by omega];exact HN6,hid (by rw [show i+(j+1)=i+j+1 by omega];exact HL6.out _)⟩
       case measure=>simp [intOf]<;>omega
  · obtain rfl:i=n:=by omega
    have hd1:decide (i<i)=false:=by simp
    by_cases hjm:j<m
    · obtain⟨x,hx⟩: ∃x,lb[j]? =some x:=⟨_,List.getElem?_eq_getElem (by rw [HLB.out];exact hjm)⟩
      obtain⟨bb,ob,hBe,hxr⟩:=(HB.out.keep0 HM.out.keep).get Rk.len hjm hx
      have hxm:x∈la∨x∈lb:=.inr (List.mem_of_getElem? hx)
      subst hBe
      have hd2:((j:Int)==(m:Int))=false:=by simp;omega
      have hd3:(j==m)=false:=by simp;omega
      have hd4:decide (j<m)=true:=by simpa using hjm
      go_upto_region 4 with fail
      refine At.start (L:=#[false,false,false,false,false,false,false,false,false,false,false,false,false,false,false,false,false,false,false,false,false,false,false,false]) (by kernel_rfl) rfl ?_
      refine AtP 0 18 ?_
      refine AtP 1 19 ?_
      refine AtP 2 20 ?_
      refine AtP 3 21 ?_
      refine AtP 4 22 ?_
      refine AtP 5 23 ?_
      refine AtP 6 24 ?_
      refine AtP 7 25 ?_
      refine AtP 8 26 ?_
      refine AtP 9 27 ?_
      refine At.skip 10 (some 28) rfl rfl (by kernel_rfl) (fun _ _ _ h=>h) rfl ?_
      try simp only [NS]
      refine At.skip 11 (some 29) rfl rfl (by kernel_rfl) (fun _ _ _ h=>h) rfl ?_
      try simp only [NS]
      refine At.skip 12 (some 30) rfl rfl (by kernel_rfl) (fun _ _ _ h=>h) rfl ?_
      try simp only [NS]
      refine At.skip 13 (some 31) rfl rfl (by kernel_rfl) (fun _ _ _ h=>h) rfl ?_
      try simp only [NS]
      refine At.skip 14 (some 32) rfl rfl (by kernel_rfl) (fun _ _ _ h=>h) rfl ?_
      try simp only [NS]
      refine At.skip 15 (some 33) rfl rfl (by kernel_rfl) (fun _ _ _ h=>h) rfl ?_
      try simp only [NS]
      refine At.skip 16 (some 34) rfl rfl (by kernel_rfl) (fun _ _ _ h=>h) rfl ?_
      try simp only [NS]
      refine At.skip 17 (some 35) rfl rfl (by kernel_rfl) (fun _ _ _ h=>h) rfl ?_
      try simp only [NS]
      refine At.skip 18 (some 36) rfl rfl (by kernel_rfl) (fun _ _ _ h=>h) rfl ?_
      try simp only [NS]
      refine At.skip 19 (some 37) rfl rfl (by kernel_rfl) (fun _ _ _ h=>h) rfl ?_
      try simp only [NS]
      refine At.skip 20 (some 38) rfl rfl (by kernel_rfl) (fun _ _ _ h=>h) rfl ?_
      try simp only [NS]
      refine At.skip 21 (some 39) rfl rfl (by kernel_rfl) (fun _ _ _ h=>h) rfl ?_
      try simp only [NS]
      refine AtP 22 40 ?_
      refine AtP 23 41 ?_
      refine At.done (by kernel_rfl) ?_
      have hkw:Keep (fun _=>False) wr wr.drew:=(Keep.refl _ wr).drew
      replace HM:=hid (HM.out.keepF hkw)
      replace hxr:=range_keep hxr hkw id
      generalize wr.drew=w5 at*
      clear hkw
      have HXR:=hid hxr
      have HX1:=hid (Rk.one x)
      have HXM:=hid hxm
      have HOW:=hid HM.out.own
      have hb:w.heap.size≤w5.heap.size:=HM.out.keep.size
      clear hxr hxm
      obtain⟨⟨x1,x2,x3,x4⟩,x5,x6,x7,x8,x9,x10⟩:=x
      unfold Rk.cells at HXR
      go_wp2_with (first|(refine wpList_load_mid rfl 129 (.tmp 54) rfl _ _ rfl _ _ HXR.out Tryz.underlying129 rfl (by kernel_rfl) ?_)|(
       at_builtin
       go_must (refine wpList_append_rows w5 rfl (.tmp 51) (.tmp 56) 121 rfl w.heap.size 129 i0 _ 10 80 Tryz.underlying121 hi0 hz0 hz1 hz2 rfl (by omega) HOW.out rfl _ rfl rfl (fun v hv=>HX1.out v hv) (by simp only [maxLen];omega) (by omega) hb ?_)
       intro A6 c6 w6 hown6 hk6
       have HN6:=hid (HM.out.next HXM.out hown6 hk6)
       have HL6:=hid (show∀s:Rk,(ls++[s]).length=i+j+1 from fun s=>by rw [List.length_append,HL.out];rfl)
       clear hown6))
      go_roundw
      case rel=>exact⟨i,j+1,A6,c6,_,by omega,by omega,by go_num,by go_num,by rw [show i+(j+1)=i+j+1 by omega],by rw [show i+(j+1)=i+j+1 by omega];exact HN6,hid (by rw [show i+(j+1)=i+j+1 by omega];exact HL6.out _)⟩
      case measure=>simp [intOf]<;>omega
    · obtain rfl:j=m:=by omega
      go_wp2_with fail
      go_ret
      exact HZ.out _ _ _ _ _ rfl HM.out
theorem RdS.front {w:World} {A:Option Addr} {n k:Nat} {xs:List Value} (h:RdS w A n k xs) {m:Nat} (hm:m≤n):RdS w A m k (xs.take (m*k)):=by
 refine⟨?_,fun hm0=>?_⟩
 · rw [List.length_take,h.1,Nat.min_eq_left (Nat.mul_le_mul_right k hm)]
 · obtain⟨b,o,e,hc⟩:=h.2 (by omega)
   refine⟨b,o,e,fun j v hj=>hc j v ?_⟩
   rw [List.getElem?_take]at hj
   split at hj
   · exact hj
   · cases hj
theorem RdS.back {w:World} {b o n k:Nat} {xs:List Value} (h:RdS w (some ⟨b,o,none⟩) n k xs) {m:Nat} (hm:m≤n):RdS w (some ⟨b,o+m*k,none⟩) (n-m) k (xs.drop (m*k)):=by
 refine⟨?_,fun hm0=>?_⟩
 · rw [List.length_drop,h.1,Nat.sub_mul]
 · obtain⟨b',o',e,hc⟩:=h.2 (by omega)
   injection e with e
   injection e with e1 e2
   subst e1 e2
   refine⟨b,_,rfl,fun j v hj=>?_⟩
   rw [List.getElem?_drop]at hj
   have:=hc _ v hj
   rwa [← Nat.add_assoc]at this
theorem sorted_step (n:Nat) (IH: ∀j,j<n→ ∀(w:World) (A:Option Addr) (c:Nat) (la:List Rk),RdS w A j 10 (fl Rk.cells la)→j≤c→Calls Tryz.prog 64 #[.slice A j c] w (RksP w j (fun x=>x∈la)))
 (w:World) (A:Option Addr) (c:Nat) (la:List Rk) (ha:RdS w A n 10 (fl Rk.cells la)) (hc:n≤c) (hn:n≤8000) (h2:2≤n):Calls Tryz.prog 64 #[.slice A n c] w (RksP w n (fun x=>x∈la)):=by
 obtain⟨k,hk⟩: ∃k,n/2=k:=⟨_,rfl⟩
 obtain⟨m,hm⟩: ∃m,n-k=m:=⟨_,rfl⟩
 have hk1:1≤k:=by omega
 have hkn:k<n:=by omega
 obtain⟨b,o,hA,_⟩:=ha.2 (by omega)
 subst hA
 have R1:=hid (show RdS w (some ⟨b,o,none⟩) k 10 (fl Rk.cells (la.take k))from by have:=ha.front (m:=k) (by omega);rwa [fl_take Rk.len]at this)
 have R2:=hid (show RdS w (some ⟨b,o+k*10,none⟩) m 10 (fl Rk.cells (la.drop k))from by have:=ha.back (m:=k) (by omega);rw [fl_drop Rk.len,hm]at this;exact this)
 have HI:=hid IH
 have e1:(n:Int).tdiv 2=(k:Int):=by rw [Int.tdiv_eq_ediv_of_nonneg (by omega)];omega
 have e2:(n:Int)/2=(k:Int):=by omega
 have e3:IntKind.i64.wrap (k:Int)=(k:Int):=IntWalk.i64_in _ (by omega)
 have b1:(0:Int)≤(k:Int):=by omega
 have b2:(k:Int)≤(c:Int):=by omega
 have b3:(k:Int)≤(n:Int):=by omega
 have b4:(n:Int)≤(c:Int):=by omega
 have b5: ¬c=k:=by omega
 have b6:k≤n:=by omega
 have b7:k≤c:=by omega
 have HS:=hid (show k+m=n by omega)
 have b8:n-k=m:=hm
 have HB8:=hid b8
 have HK:=hid ((Keep.refl (fun _=>False) w).drew)
 have HZ:=hid (show∀(O:Option Addr) (q:Nat) (lx ly lo:List Rk) (w':World),(∀ x∈lx,x∈la.take k)→(∀ x∈ly,x∈la.drop k)→RdS w' O n 10 (fl Rk.cells lo)→n≤q→(∀ x∈lo,x∈lx∨x∈ly)→Keep (fun _=>False) w w'→RksP w n (fun x=>x∈la) (.returned (.slice O n q)) w' from fun O q lx ly lo w' h1 h2 h3 h4 h5 h6=>⟨O,q,lo,rfl,h3,h4,fun x hx=>by
  rcases h5 x hx with h|h
  · exact List.mem_of_mem_take (h1 x h)
  · exact List.mem_of_mem_drop (h2 x h),h6⟩)
 clear IH ha hk
 go_enter Tryz.func64,Tryz.ntmps64
 go_upto_region 3 with fail
 refine At.start (L:=#[false,false,false,false,false,false,false,false,false,false,false,false,false,false]) (by kernel_rfl) rfl ?_
 refine AtP 0 7 ?_
 refine AtP 1 8 ?_
 refine AtP 2 9 ?_
 refine AtP 3 10 ?_
 refine AtP 4 11 ?_
 refine AtP 6 13 ?_
 refine AtP 7 14 ?_
 refine AtP 8 15 ?_
 refine AtP 9 16 ?_
 refine AtP 10 17 ?_
 refine AtC 5 fun K hK=>?_
 go_simp
 refine(HI.out k (by omega) _ _ c (la.take k) (R1.out.keep0 HK.out) (by omega)).mono ?_
 rintro e w5 ⟨X,cX,lx,rfl,hX,hcX,hXm,hk⟩
 replace HK:=hid (HK.out.trans hk (fun _ _ h=>h))
 have HX:=hid hX
 have HXM:=hid hXm
 try replace HY:=hid (HY.out.keep0 hk)
 clear hX hcX hXm
 refine hK _ _ all_nil ?_
 clear hK K
 try simp only [NS]
 refine AtC 11 fun K hK=>?_
 go_simp
 refine(HI.out m (by omega) _ _ (c-k) (la.drop k) (R2.out.keep0 HK.out) (by omega)).mono ?_
 rintro e w6 ⟨Y,cY,ly,rfl,hY,hcY,hYm,hk⟩
 replace HK:=hid (HK.out.trans hk (fun _ _ h=>h))
 have HY:=hid hY
 have HYM:=hid hYm
 try replace HX:=hid (HX.out.keep0 hk)
 clear hY hcY hYm
 refine hK _ _ all_nil ?_
 clear hK K
 try simp only [NS]
 refine AtC 12 fun K hK=>?_
 go_simp
 refine(merge_any _ X Y k m cX cY lx ly HX.out HY.out (by omega)).mono ?_
 rintro e w7 ⟨O,cO,lo,rfl,hO,hcO,hOm,hk⟩
 replace HK:=hid (HK.out.trans hk (fun _ _ h=>h))
 rw [HS.out]at hO hcO ⊢
 have HO:=hid hO
 have HCO:=hid hcO
 have HOM:=hid hOm
 clear hO hcO hOm
 refine hK _ _ all_nil ?_
 clear hK K
 try simp only [NS]
 refine AtP 13 2 ?_
 refine At.done (by kernel_rfl) ?_
 all_goals(
  go_wp2_with fail
  go_ret
  exact HZ.out _ _ _ _ _ _ HXM.out HYM.out HO.out HCO.out HOM.out HK.out)
theorem sorted_any (n:Nat): ∀(w:World) (A:Option Addr) (c:Nat) (la:List Rk),RdS w A n 10 (fl Rk.cells la)→n≤c→n≤8000→Calls Tryz.prog 64 #[.slice A n c] w (RksP w n (fun x=>x∈la)):=by
 induction n using Nat.strongRecOn with
 |ind n IH=>
  intro w A c la h hc hn
  by_cases h2:2≤n
  · exact sorted_step n (fun j hj w A c la h hc=>IH j hj w A c la h hc (by omega)) w A c la h hc hn h2
  · have HZ:=hid (show RksP w n (fun x=>x∈la) (.returned (.slice A n c)) w from⟨A,c,la,rfl,h,hc,fun _ h=>h,Keep.refl _ _⟩)
    clear IH h
    go_enter Tryz.func64,Tryz.ntmps64
    go_wp2_with fail
    go_ret
    exact HZ.out
end Go.Proofs.YthfogcgdijmaoaaGreat
