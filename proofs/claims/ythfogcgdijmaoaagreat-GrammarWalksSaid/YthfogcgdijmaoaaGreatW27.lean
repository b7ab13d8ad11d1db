/-
  Part 27 of the proof: List Check. Conditions: those of the statements.
-/
import Derived.Test.YthfogcgdijmaoaaGreatW2
import Derived.Test.YthfogcgdijmaoaaGreatW10
import Derived.Test.YthfogcgdijmaoaaGreatW15
import Derived.Test.YthfogcgdijmaoaaGreatW19
set_option maxRecDepth 100000
set_option maxHeartbeats 16000000
set_option linter.unusedVariables false
set_option linter.unusedSimpArgs false
namespace Go.Proofs.YthfogcgdijmaoaaGreat
open Go.RowKit
theorem Ky.len (s:Ky):s.cells.length=4:=rfl
theorem Ky.one (s:Ky): ∀v∈s.cells,v.oneCell'=true:=by
 intro v hv
 unfold Ky.cells at hv
 simp at hv
 rcases hv with rfl|rfl|rfl|rfl<;>rfl
theorem info_ky :(Tryz.prog.info? 83).map (fun i=>(i.zero,i.size,i.bytes))=some (some (.agg #[.int .i64 0,.int .i64 0,.int .i64 0,.int .i64 0]),4,32):=by kernel_rfl
def KeyOk (t:Rc) (cs:List Cm) (p:Pm) (k:Ky):Prop:=k.lay<p.lay∧SpotOk t cs p.lev p.prec ⟨k.res,k.comp,k.prec,0,0⟩
def ListP (w:World) (t:Rc) (cs:List Cm) (p:Pm) (e:Ending) (w':World):Prop:=
 ∃A c ls,e=.returned (.slice A ls.length c)∧w'.ownsRow w.heap.size 83 4 (.slice A ls.length c) ls.length (fl Ky.cells ls)∧(∀ s∈ls,KeyOk t cs p s)∧ls.length≤p.lay*(cs.length*((p.lev+1)*(precT p.prec*precT p.prec)))∧Keep (fun _=>False) w w'
structure LI (w0:World) (t:Rc) (m:Im) (p:Pm) (cs:List Cm) (B:Nat) (ls:List Rk) (A:Option Addr) (n c:Nat) (w:World):Prop where
 bp:Blk w (w0.heap.size+2) 31 p.cells
 own:w.ownsRow B 129 10 (.slice A n c) n (fl Rk.cells ls)
 b0:w0.heap.size≤B
 b1:B≤w.heap.size
 keep:Keep (fun _=>False) w0 w
 ok: ∀x∈ls,KeyOk t cs p x.k
section
variable {w0 w w':World} {t:Rc} {m:Im} {p:Pm} {cs:List Cm} {B:Nat} {ls:List Rk} {A A':Option Addr} {n c c':Nat}
theorem LI.next (h:LI w0 t m p cs B ls A n c w) {x:Rk} (hx:KeyOk t cs p x.k) (ho:w'.ownsRow B 129 10 (.slice A' (n+1) c') (n+1) (fl Rk.cells ls++x.cells))
 (hk:Keep (fun i=>(Value.slice A n c).ownBlock=some i) w w'):LI w0 t m p cs B (ls++[x]) A' (n+1) c' w':=
 ⟨h.bp.keep hk (own_ne h.own h.bp (by decide)),by rw [fl_snoc];exact ho,h.b0,Nat.le_trans h.b1 hk.size,keep_app h.keep h.own h.b0 hk,fun q hq=>by
  rcases List.mem_append.1 hq with h1|h1
  · exact h.ok q h1
  · rw [List.mem_singleton]at h1
    subst h1
    exact hx⟩
theorem LI.keepF (h:LI w0 t m p cs B ls A n c w) (hk:Keep (fun _=>False) w w'):LI w0 t m p cs B ls A n c w':=⟨h.bp.keep hk id,own_keepF h.own hk,h.b0,Nat.le_trans h.b1 hk.size,h.keep.trans hk (fun _ _ h=>h),h.ok⟩
end
theorem RdS.keepB {w w':World} {A:Option Addr} {n k B:Nat} {xs:List Value} {S:Nat→Prop} (h:RdS w A n k xs) (hk:Keep S w w') (hS: ∀b,S b→B≤b) (hA:0<n→ ∀ad,A=some ad→ad.block<B):RdS w' A n k xs:=
 ⟨h.1,fun hn=>by
  obtain⟨b,o,e,hc⟩:=h.2 hn
  have:=hA hn _ e
  exact⟨b,o,e,range_keep hc hk (fun hs=>by have:=hS _ hs;simp only at *;omega)⟩⟩
theorem RdS.lt {w:World} {A:Option Addr} {n k:Nat} {xs:List Value} (h:RdS w A n k xs) (hk:0<k):0<n→ ∀ad,A=some ad→ad.block<w.heap.size:=by
 intro hn ad e
 obtain⟨b,o,e',hc⟩:=h.2 hn
 rw [e]at e'
 injection e' with e'
 subst e'
 have hl:0<xs.length:=by rw [h.1];exact Nat.mul_pos hn hk
 exact World.block_lt_of_cell? _ _ (hc 0 _ (List.getElem?_eq_getElem hl))
structure LK (w0:World) (t:Rc) (p:Pm) (cs:List Cm) (B:Nat) (ls:List Ky) (A:Option Addr) (n c:Nat) (w:World):Prop where
 own:w.ownsRow B 83 4 (.slice A n c) n (fl Ky.cells ls)
 b0:w0.heap.size≤B
 b1:B≤w.heap.size
 keep:Keep (fun _=>False) w0 w
 ok: ∀x∈ls,KeyOk t cs p x
theorem LK.next {w0 w w':World} {t:Rc} {p:Pm} {cs:List Cm} {B:Nat} {ls:List Ky} {A A':Option Addr} {n c c':Nat} (h:LK w0 t p cs B ls A n c w) {x:Ky} (hx:KeyOk t cs p x) (ho:w'.ownsRow B 83 4 (.slice A' (n+1) c') (n+1) (fl Ky.cells ls++x.cells))
 (hk:Keep (fun i=>(Value.slice A n c).ownBlock=some i) w w'):LK w0 t p cs B (ls++[x]) A' (n+1) c' w':=
 ⟨by rw [fl_snoc];exact ho,h.b0,Nat.le_trans h.b1 hk.size,keep_app h.keep h.own h.b0 hk,fun q hq=>by
  rcases List.mem_append.1 hq with h1|h1
  · exact h.ok q h1
  · rw [List.mem_singleton]at h1
    subst h1
    exact hx⟩
theorem Rk.krange {w:World} {b o:Nat} {x:Rk} (h:w.rangeAt b o x.cells):w.rangeAt b o x.k.cells:=fun j v hj=>by
 refine h j v ?_
 have hj4:j<4:=(List.getElem?_eq_some_iff.1 hj).1
 rw [← hj]
 rcases (show j=0∨j=1∨j=2∨j=3 by omega)with rfl|rfl|rfl|rfl<;>rfl
theorem list_any (w:World) (t:Rc) (m:Im) (p:Pm) (cs:List Cm) (hcs:RdS w m.A m.n 5 (cms cs)) (hl:cs.length=m.n) (hC: ∀c∈cs,CmOk c) (hn4:m.n≤4) (hP:PmOk p) (hl4:p.lay≤4) (ht:t.ok 12 17):
 Calls Tryz.prog 41 #[.agg t.cells,.agg m.cells,.agg p.cells] w (ListP w t cs p):=by
 obtain⟨i0,hi0,ez0,ez1,ez2⟩:=info_parts info_rk
 obtain⟨i1,hi1,ey0,ey1,ey2⟩:=info_parts info_ky
 have HB1:=hid (((Blk.new w 63 t.cells).alloc (.cells m.cells 29)).alloc (.cells p.cells 31))
 have HB2:=hid ((Blk.new1 w (.cells t.cells 63) 29 m.cells).alloc (.cells p.cells 31))
 have HB3:=hid (Blk.new2 w (.cells t.cells 63) (.cells m.cells 29) 31 p.cells)
 have HK0:=hid ((((Keep.refl (fun _=>False) w).alloc (.cells t.cells 63)).alloc (.cells m.cells 29)).alloc (.cells p.cells 31))
 have hT9:=precT_le p.prec
 have hTT:precT p.prec*precT p.prec≤9*9:=Nat.mul_le_mul hT9 hT9
 have hlt:(p.lev+1)*(precT p.prec*precT p.prec)≤6*81:=Nat.mul_le_mul (by have:=hP.lev;omega) hTT
 have hnt:cs.length*((p.lev+1)*(precT p.prec*precT p.prec))≤4*486:=Nat.mul_le_mul (by omega) hlt
 have SP:=fun w (h:RdS w m.A m.n 5 (cms cs))=>spots_any w t m p cs h hl hC hn4 hP ht
 have HSP:=hid SP
 have HR:=hid hcs
 have HPC:=hid (show p.cells=#[.int .i64 p.tx,.int .i64 p.ty,.int .i64 p.lev,.int .i64 p.cbw,.int .i64 p.cbh,.int .i64 p.prec,.int .i64 p.style,.int .i64 p.order,.int .i64 p.lay,.bool p.rct,.bool p.sop,.bool p.eph]from rfl)
 have ho4:=hP.od
 generalize hX:cs.length*((p.lev+1)*(precT p.prec*precT p.prec))=lx at*
 have HX:=hid hX
 clear hTT hlt SP hcs hl hC hP ht hX
 go_enter Tryz.func41,Tryz.ntmps41
 go_upto_region 2 with fail
 generalize ((w.alloc (.cells t.cells 63)).alloc (.cells m.cells 29)).alloc (.cells p.cells 31)=w1 at*
 go_wp2_with (first|(refine wpList_load_row rfl _ _ rfl _ rfl _ _ _ _ HB1.out Tryz.underlying63 rfl (by kernel_rfl) ?_)|(refine wpList_load_row rfl _ _ rfl _ rfl _ _ _ _ HB2.out Tryz.underlying29 rfl (by kernel_rfl) ?_)|(refine wpList_load_row rfl _ _ rfl _ rfl _ _ _ _ HB3.out Tryz.underlying31 rfl (by kernel_rfl) ?_))
 refine(HSP.out _ (HR.out.keep0 HK0.out)).mono ?_
 rintro e w2 ⟨SA,sc,ls,rfl,hsr,hsok,hsl,hk⟩
 rw [HX.out]at hsl
 have HI0:=hid (show LI w t m p cs w2.heap.size [] none 0 0 w2 from⟨HB3.out.keep hk id,World.ownsRow_nil _ _ _ _,(HK0.out.trans hk (fun _ _ h=>h)).size,Nat.le_refl _,HK0.out.trans hk (fun _ _ h=>h),fun _ h=>by cases h⟩)
 have HS0:=hid hsr
 have HSO:=hid hsok
 obtain⟨sn,hsn⟩: ∃sn,ls.length=sn:=⟨_,rfl⟩
 rw [hsn]at HS0 hsl ⊢
 have HSN:=hid hsn
 have hsn4:sn≤1944:=by omega
 have HLT:=hid (HS0.out.lt (by omega))
 clear hsr hsok hk hsn HB1 HB2 HB3 HK0
 generalize w2.heap.size=B2 at*
 go_wp2_with fail
 go_loopw [7,9] (fun l v wr=> ∃(j n:Nat) (A:Option Addr) (c:Nat) (lr:List Rk),j≤p.lay∧v=.int .i64 j∧l=.slice A n c∧n≤j*1944∧Hid (n=j*sn)∧Hid (LI w t m p cs B2 lr A n c wr)∧Hid (RdS wr SA sn 5 (fl Spt.cells ls))) (fun _ v _=>p.lay-(intOf v).toNat)
 case atStart=>exact⟨0,0,none,0,[],by omega,rfl,rfl,by omega,hid (by omega),HI0,HS0⟩
 case round=>
  clear HI0 HS0
  obtain⟨j,n,A,c,lr,hj,rfl,rfl,hn,HN,HI,HS⟩:=hrel
  have p8:wr.cell? ⟨w.heap.size+2,8,none⟩=some (.int .i64 p.lay):=by rw [HI.out.bp.cell,HPC.out];rfl
  by_cases hjl:j<p.lay
  · go_wp2_with fail
    go_loopw [7,10] (fun l v wr=> ∃(i n:Nat) (A:Option Addr) (c:Nat) (lr:List Rk),i≤sn∧v=.int .i64 i∧l=.slice A n c∧n≤j*1944+i∧Hid (n=j*sn+i)∧Hid (LI w t m p cs B2 lr A n c wr)∧Hid (RdS wr SA sn 5 (fl Spt.cells ls))) (fun _ v _=>sn-(intOf v).toNat)
    case atStart=>exact⟨0,n,A,c,lr,by omega,rfl,rfl,by omega,hid (by have:=HN.out;omega),HI,HS⟩
    case round=>
     clear HI HS p8 HN
     obtain⟨i,n,A,c,lr,hi,rfl,rfl,hn,HN,HI,HS⟩:=hrel
     by_cases his:i<sn
     · obtain⟨s,hs⟩: ∃s,ls[i]? =some s:=⟨_,List.getElem?_eq_getElem (by rw [HSN.out];exact his)⟩
       obtain⟨b,o,hA,hr⟩:=HS.out.get Spt.len his hs
       have HOK:=hid (HSO.out s (List.mem_of_getElem? hs))
       subst hA
       have hrd:wr.drew.rangeAt b (o+i*5) s.cells:=hr
       have f0:wr.drew.cell? ⟨b,o+i*5,none⟩=some (.int .i64 s.res):=hr 0 _ rfl
       have f1:wr.drew.cell? ⟨b,o+i*5+1,none⟩=some (.int .i64 s.comp):=hr 1 _ rfl
       have f2:wr.drew.cell? ⟨b,o+i*5+2,none⟩=some (.int .i64 s.prec):=hr 2 _ rfl
       have p7:wr.drew.cell? ⟨w.heap.size+2,7,none⟩=some (.int .i64 p.order):=by
        have:wr.cell? ⟨w.heap.size+2,7,none⟩=some (.int .i64 p.order):=by rw [HI.out.bp.cell,HPC.out];rfl
        exact this
       have hi0':(0:Int)≤(i:Int):=by omega
       have hi1':(i:Int)<(sn:Int):=by omega
       clear hr hs
       go_wp2_with fail
       refine At.start (L:=#[false,false,false,false,false,false,false,false,false,false,false,false,false,false,false,false,false,false,false,false,false,false,false,false,false,false,false,false,false,false]) (by kernel_rfl) rfl ?_
       refine AtP 0 29 ?_
       refine AtP 1 30 ?_
       refine AtP 2 31 ?_
       refine AtP 3 32 ?_
       refine AtP 4 33 ?_
       refine AtP 5 34 ?_
       refine AtL 6 35 Tryz.underlying3 ?_
       refine AtP 7 36 ?_
       refine AtP 8 37 ?_
       refine AtP 9 38 ?_
       refine AtP 10 39 ?_
       refine AtL 11 40 Tryz.underlying3 ?_
       refine AtP 12 41 ?_
       refine AtP 13 42 ?_
       refine AtP 14 43 ?_
       refine AtP 15 44 ?_
       refine AtL 16 45 Tryz.underlying3 ?_
       refine AtP 17 46 ?_
       refine AtP 18 47 ?_
       refine AtL 19 48 Tryz.underlying3 ?_
       refine AtP 20 49 ?_
       refine AtP 21 50 ?_
       refine AtP 22 51 ?_
       first|refine AtL 23 52 Tryz.underlying125 ?_|refine AtR 23 52 Tryz.underlying125 ?_
       refine AtP 24 53 ?_
       refine At.call_all 25 rfl (by kernel_rfl) rfl (fun K hK=>?_)
       go_simp
       refine(rank_any _ p.order s j ho4).mono ?_
       rintro e w5 ⟨qs,rfl,⟨a1,a2,a3,a4,a5,a6,rfl⟩,hk⟩
       have hkw:Keep (fun _=>False) wr w5:=((Keep.refl _ wr).drew).trans hk (fun _ _ h=>h)
       replace HI:=hid (HI.out.keepF hkw)
       replace HS:=hid (HS.out.keep0 hkw)
       have HOW:=hid HI.out.own
       have hb:B2≤w5.heap.size:=HI.out.b1
       have HNB:=hid (show∀g,(Value.slice A n c).ownBlock=some g→B2≤g from fun g hg=>(HOW.out.lt g hg).1)
       have hnb: ¬(Value.slice A n c).ownBlock=some b:=fun e=>by have h1:=HNB.out b e;have h2:=HLT.out (by omega) _ rfl;simp only at h2;omega
       have hnp: ¬(Value.slice A n c).ownBlock=some (w.heap.size+2):=own_ne HOW.out HI.out.bp (by decide)
       clear hkw
       refine hK _ _ (by repeat' first|exact all_nil|refine all_cons (by first|exact hk.cell (by assumption) (fun h=>h)|exact range_keep (by assumption) hk (fun h=>h)) ?_) ?_
       clear hK K
       try simp only [NS]
       refine AtP 26 55 ?_
       refine AtC 27 fun K hK=>?_
       go_simp
       skip
       refine hK _ _ all_nil ?_
       clear hK K
       try simp only [NS]
       refine AtC 28 fun K hK=>?_
       refine wp_append_rows w5 (.tmp 29) (.tmp 56) 121 rfl B2 129 i0 _ 10 80 Tryz.underlying121 hi0 ez0 ez1 ez2 rfl (by omega) HOW.out rfl (Rk.cells ⟨⟨j,s.res,s.comp,s.prec⟩,_,_,_,_,_,_⟩).toArray rfl rfl (fun v hv=>Rk.one ⟨⟨j,s.res,s.comp,s.prec⟩,_,_,_,_,_,_⟩ v hv) (by simp only [maxLen];omega) (by omega) hb ?_
       intro A6 c6 w6 hown6 hk6
       show K (Act.put _ (some 57) _) _
       have HN6:=hid (HI.out.next (x:=⟨⟨j,s.res,s.comp,s.prec⟩,_,_,_,_,_,_⟩) ⟨hjl,HOK.out⟩ hown6 hk6)
       have HS6:=hid (HS.out.keepB hk6 HNB.out HLT.out)
       clear hown6
       refine hK _ _ all_nil ?_
       clear hK K
       try simp only [NS]
       refine AtP 29 7 ?_
       refine At.done (by kernel_rfl) ?_
       go_wp2_with fail
       go_roundw
       case rel=>exact⟨i+1,n+1,A6,c6,_,by omega,by go_num,rfl,by omega,hid (by have:=HN.out;omega),HN6,HS6⟩
       case measure=>simp [intOf]<;>omega
     · obtain rfl:i=sn:=by omega
       have HN2:=hid (show n=(j+1)*i from by have h1:=HN.out;rw [Nat.add_mul,Nat.one_mul];exact h1)
       go_wp2_with fail
       go_roundw
       case rel=>exact⟨j+1,n,A,c,lr,by omega,by go_num,rfl,by omega,HN2,HI,HS⟩
       case measure=>simp [intOf]<;>omega
  · have hjp:j=p.lay:=by omega
    have HZ:=hid (show∀(O:Option Addr) (q:Nat) (lk:List Ky) (w':World) (B:Nat),w'.ownsRow B 83 4 (.slice O n q) n (fl Ky.cells lk)→(∀ x∈lk,KeyOk t cs p x)→Keep (fun _=>False) w w'→w.heap.size≤B→ListP w t cs p (.returned (.slice O n q)) w' from fun O q lk w' B h1 h2 h3 h4=>by
     have e:lk.length=n:=(RdS.of_own h1).llen Ky.len (by omega)
     refine⟨O,q,lk,by rw [e],by rw [e];exact own_mono h1 h4,h2,?_,h3⟩
     rw [e,HN.out,hjp,HX.out]
     exact Nat.mul_le_mul_left _ hsl)
    have hn8:n≤8000:=by omega
    have HRL:=hid (RdS.of_own HI.out.own)
    have HRC:=hid (own_cap HI.out.own)
    have HRO:=hid HI.out.ok
    have HK3:=hid HI.out.keep
    subst hjp
    go_wp2_with fail
    refine(sorted_any n _ A c lr HRL.out HRC.out hn8).mono ?_
    rintro e w5 ⟨X,cX,lx,rfl,hX,hcX,hXm,hk⟩
    have HX5:=hid hX
    have HXL:=hid (hX.llen Rk.len (by omega))
    have HXO:=hid (show∀x∈lx,KeyOk t cs p x.k from fun x hx=>HRO.out x (hXm x hx))
    have HM0:=hid (show LK w t p cs w5.heap.size [] none 0 0 w5 from⟨World.ownsRow_nil _ _ _ _,(HK3.out.trans hk (fun _ _ h=>h)).size,Nat.le_refl _,HK3.out.trans hk (fun _ _ h=>h),fun _ h=>by cases h⟩)
    have HW5:=hid (HX5.out.lt (by omega))
    have HK5:=hid (HK3.out.trans hk (fun _ _ h=>h))
    clear hX hcX hXm hk HI HS HRL HRC HRO HK3 p8 HN
    generalize w5.heap.size=B3 at*
    go_wp2_with fail
    go_loopw [11,12] (fun l v wr=> ∃(i:Nat) (A:Option Addr) (c:Nat) (lk:List Ky),i≤n∧v=.int .i64 i∧l=.slice A i c∧Hid (LK w t p cs B3 lk A i c wr)∧Hid (RdS wr X n 10 (fl Rk.cells lx))) (fun _ v _=>n-(intOf v).toNat)
    case atStart=>exact⟨0,none,0,[],by omega,rfl,rfl,HM0,HX5⟩
    case round=>
     clear HM0 HX5
     obtain⟨i,A,c,lk,hi,rfl,rfl,HM,HX5⟩:=hrel
     by_cases hin:i<n
     · obtain⟨x,hx⟩: ∃x,lx[i]? =some x:=⟨_,List.getElem?_eq_getElem (by rw [HXL.out];exact hin)⟩
       obtain⟨b,o,hA,hr⟩:=HX5.out.get Rk.len hin hx
       have HOK:=hid (HXO.out x (List.mem_of_getElem? hx))
       have HRX:=hid (Rk.krange hr)
       have HOW:=hid HM.out.own
       have hb:B3≤wr.heap.size:=HM.out.b1
       have HX1:=hid (Ky.one x.k)
       subst hA
       clear hx hr
       obtain⟨⟨x1,x2,x3,x4⟩,x5,x6,x7,x8,x9,x10⟩:=x
       unfold Ky.cells at HRX
       go_wp2_with (first|(refine wpList_load_mid rfl 83 (.tmp 70) rfl _ _ rfl _ _ HRX.out Tryz.underlying83 rfl (by kernel_rfl) ?_)|(
        at_builtin
        go_must (refine wpList_append_rows wr rfl (.tmp 66) (.tmp 72) 80 rfl B3 83 i1 _ 4 32 Tryz.underlying80 hi1 ey0 ey1 ey2 rfl (by omega) HOW.out rfl _ rfl rfl (fun v hv=>HX1.out v hv) (by simp only [maxLen];omega) (by omega) hb ?_)
        intro A6 c6 w6 hown6 hk6
        have HN6:=hid (HM.out.next HOK.out hown6 hk6)
        have HX6:=hid (HX5.out.keepB hk6 (fun g hg=>(HOW.out.lt g hg).1) HW5.out)
        clear hown6))
       go_roundw
       case rel=>exact⟨i+1,A6,c6,_,by omega,by go_num,rfl,HN6,HX6⟩
       case measure=>simp [intOf]<;>omega
     · obtain rfl:i=n:=by omega
       go_wp2_with fail
       go_ret
       exact HZ.out _ _ _ _ _ HM.out.own HM.out.ok HM.out.keep HM.out.b0
structure CmAll (w:World) (m:Im) (c:Cm):Prop where
 ok:CmOk c
 d10:c.depth≤10
 area:(m.whole.part c.dx c.dy).area=(c.n:Int)
 zs: ∃zs:List Int,Rd w c.A c.n (zs.map (Value.int .i64))∧ ∀z∈zs,loB c.depth c.sg≤z∧z≤hiB c.depth c.sg
theorem check_any (w:World) (m:Im) (p:Pm) (cs:List Cm) (hcs:RdS w m.A m.n 5 (cms cs)) (hl:cs.length=m.n) (hC: ∀c∈cs,CmAll w m c) (hox:0≤m.ox) (hx:m.ox<m.x) (hx64:m.x≤64) (hoy:0≤m.oy) (hy:m.oy<m.y) (hy64:m.y≤64) (hn4:m.n≤4)
 (hF:Calls Tryz.prog 33 #[m.val,p.val] ((w.alloc (.cells m.cells 29)).alloc (.cells p.cells 31)) fun e w'=>e=.returned (.int .i64 0)∧Keep (fun _=>False) ((w.alloc (.cells m.cells 29)).alloc (.cells p.cells 31)) w'):
 Calls Tryz.prog 20 #[m.val,p.val] w fun e w'=>e=.returned (.int .i64 0)∧Keep (fun _=>False) w w':=by
 have HF:=hid hF
 have HC:=hid hC
 have HR:=hid hcs
 have HL:=hid hl
 clear hF hC hcs hl
 have HK:=hid (((Keep.refl (fun _=>False) w).alloc (.cells m.cells 29)).alloc (.cells p.cells 31))
 have B1:=hid ((Blk.new w 29 m.cells).alloc (.cells p.cells 31))
 have B2:=hid (Blk.new1 w (.cells m.cells 29) 31 p.cells)
 obtain⟨x,y,ox,oy,A,n,c⟩:=m
 obtain⟨tx,ty,lev,cbw,cbh,prec,style,order,lay,rct,sop,eph⟩:=p
 unfold Im.val Pm.val Im.cells Pm.cells at*
 simp only at*
 go_enter Tryz.func20,Tryz.ntmps20
 go_wp2_with (first|(refine wpList_load_row rfl _ _ rfl _ rfl _ _ _ _ B1.out Tryz.underlying29 rfl (by kernel_rfl) ?_)|(refine wpList_load_row rfl _ _ rfl _ rfl _ _ _ _ B2.out Tryz.underlying31 rfl (by kernel_rfl) ?_)|(go_at_call 33;refine(HF.out).mono ?_;rintro e w3 ⟨rfl,hk⟩;replace HK:=hid (HK.out.trans hk (fun _ _ h=>h));replace B1:=hid (B1.out.keep hk (fun h=>h));replace B2:=hid (B2.out.keep hk (fun h=>h));clear hk))
 go_loopw [6] (fun v wr=> ∃(i:Nat),i≤n∧v=.int .i64 i∧Hid (Keep (fun _=>False) w wr)∧Hid (Blk wr w.heap.size 29 #[.int .i64 x,.int .i64 y,.int .i64 ox,.int .i64 oy,.slice A n c])) (fun v _=>n-(intOf v).toNat)
 case atStart=>exact⟨0,by omega,rfl,HK,B1⟩
 case round=>
  clear HK B1 B2
  obtain⟨i,hi,rfl,HK,B1⟩:=hrel
  have m4:=B1.out.cell 4
  by_cases hin:i<n
  · obtain⟨b,o,C,hm,rfl,c0,c1,c2,c3,c4⟩:=comp_cells (HR.out.keep0 HK.out) HL.out hin
    have HO:=hid (HC.out C hm)
    obtain⟨d1,d2,d3,d4,d5,d6⟩:=HO.out.ok
    go_upto_region 8 with fail
    have HK2:=hid (HK.out.alloc (.cells #[.int .i64 C.depth,.bool C.sg,.int .i64 C.dx,.int .i64 C.dy,.slice C.A C.n C.c] 52))
    have B3:=hid (B1.out.alloc (.cells #[.int .i64 C.depth,.bool C.sg,.int .i64 C.dx,.int .i64 C.dy,.slice C.A C.n C.c] 52))
    have D:=hid (Blk.new wr 52 #[.int .i64 C.depth,.bool C.sg,.int .i64 C.dx,.int .i64 C.dy,.slice C.A C.n C.c])
    generalize wr.alloc (.cells #[.int .i64 C.depth,.bool C.sg,.int .i64 C.dx,.int .i64 C.dy,.slice C.A C.n C.c] 52)=w4 at*
    generalize wr.heap.size=g at*
    have r1:w4.drew.rangeAt w.heap.size 0 [.int .i64 x,.int .i64 y,.int .i64 ox,.int .i64 oy,.slice (some ⟨b,o,none⟩) n c]:=B3.out.range
    have f2:w4.drew.cell? ⟨g,2,none⟩=some (.int .i64 C.dx):=D.out.cell 2
    have f3:w4.drew.cell? ⟨g,3,none⟩=some (.int .i64 C.dy):=D.out.cell 3
    have f4:w4.drew.cell? ⟨g,4,none⟩=some (.slice C.A C.n C.c):=D.out.cell 4
    replace HK2:=hid HK2.out.drew
    replace B3:=hid B3.out.drew
    replace D:=hid D.out.drew
    have HG:=HO.out.ok
    obtain⟨P,hP⟩: ∃P,Rc.part ⟨ox,oy,x,y⟩ C.dx C.dy=P:=⟨_,rfl⟩
    clear m4 c0 c1 c2 c3 c4
    have hok:Rc.ok ⟨ox,oy,x,y⟩ 64 64:=⟨hox,by simp only;omega,hx64,by simp only;omega,hoy,by simp only;omega,hy64,by simp only;omega⟩
    have HFT:=hid (hok.fits24 (by omega))
    have HPF:=hid (show P.fits 16777216 from by rw [← hP];exact(Rc.ok.over hok ⟨by omega,by omega⟩ ⟨by omega,by omega⟩).fits24 (by omega))
    have HP:=hid hP
    have hCn:C.n≤4096:=by
     have h1:=(Rc.ok.over hok (dx:=C.dx) (dy:=C.dy) (ax:=0) (ay:=0) ⟨by omega,by omega⟩ ⟨by omega,by omega⟩).area_le.2
     have h2:=HO.out.area
     have h3:Rc.part ⟨ox,oy,x,y⟩ C.dx C.dy=Rc.over ⟨ox,oy,x,y⟩ C.dx C.dy 0 0:=rfl
     unfold Im.whole at h2
     rw [h3]at h2
     omega
    have HA:=hid (show P.area=(C.n:Int)from by rw [← hP];exact HO.out.area)
    clear hP hok
    refine At.start (L:=#[false,false,false,false,false,false,false,false,false,false,false,false]) (by kernel_rfl) rfl ?_
    refine AtP 0 29 ?_
    refine AtL 1 30 Tryz.underlying22 ?_
    refine AtP 2 31 ?_
    first|refine AtL 3 32 Tryz.underlying29 ?_|refine AtR 3 32 Tryz.underlying29 ?_
    refine AtP 5 34 ?_
    refine AtL 6 35 Tryz.underlying3 ?_
    refine AtP 7 36 ?_
    refine AtL 8 37 Tryz.underlying3 ?_
    refine At.call_all 4 rfl (by kernel_rfl) rfl (fun K hK=>?_)
    go_simp
    refine(whole_any _ ⟨x,y,ox,oy,some ⟨b,o,none⟩,n,c⟩).mono ?_
    rintro e w5 ⟨rfl,hk⟩
    replace HK2:=hid (HK2.out.trans hk (fun _ _ h=>h))
    replace B3:=hid (B3.out.keep hk (fun h=>h))
    replace D:=hid (D.out.keep hk (fun h=>h))
    have t1:=range_keep r1 hk (fun h=>h)
    have t2:=hk.cell f2 (fun h=>h)
    have t3:=hk.cell f3 (fun h=>h)
    have t4:=hk.cell f4 (fun h=>h)
    refine hK _ _ (by repeat' first|exact all_nil|refine all_cons (by first|assumption|exact hk.cell (by assumption) (fun h=>h)|exact range_keep (by assumption) hk (fun h=>h)) ?_) ?_
    clear hK K
    try simp only [NS]
    refine At.call_all 9 rfl (by kernel_rfl) rfl (fun K hK=>?_)
    go_simp
    refine(part_any _ ⟨ox,oy,x,y⟩ C.dx C.dy HFT.out ⟨by omega,by omega⟩ ⟨by omega,by omega⟩).mono ?_
    rintro e w6 ⟨rfl,hk⟩
    rw [HP.out]
    replace HK2:=hid (HK2.out.trans hk (fun _ _ h=>h))
    replace B3:=hid (B3.out.keep hk (fun h=>h))
    replace D:=hid (D.out.keep hk (fun h=>h))
    have v1:=range_keep t1 hk (fun h=>h)
    have v2:=hk.cell t2 (fun h=>h)
    have v3:=hk.cell t3 (fun h=>h)
    have v4:=hk.cell t4 (fun h=>h)
    refine hK _ _ (by repeat' first|exact all_nil|refine all_cons (by first|assumption|exact hk.cell (by assumption) (fun h=>h)|exact range_keep (by assumption) hk (fun h=>h)) ?_) ?_
    clear hK K
    try simp only [NS]
    refine At.call_all 10 rfl (by kernel_rfl) rfl (fun K hK=>?_)
    go_simp
    refine(area_any _ P HPF.out).mono ?_
    rintro e w7 ⟨rfl,hk⟩
    rw [HA.out]
    replace HK2:=hid (HK2.out.trans hk (fun _ _ h=>h))
    replace B3:=hid (B3.out.keep hk (fun h=>h))
    replace D:=hid (D.out.keep hk (fun h=>h))
    refine hK _ _ (by repeat' first|exact all_nil|refine all_cons (by first|assumption|exact hk.cell (by assumption) (fun h=>h)|exact range_keep (by assumption) hk (fun h=>h)) ?_) ?_
    clear hK K
    try simp only [NS]
    refine AtP 11 40 ?_
    refine At.done (by kernel_rfl) ?_
    have e0:w7.cell? ⟨g,0,none⟩=some (.int .i64 C.depth):=D.out.cell 0
    have e1:w7.cell? ⟨g,1,none⟩=some (.bool C.sg):=D.out.cell 1
    have e4:w7.cell? ⟨g,4,none⟩=some (.slice C.A C.n C.c):=D.out.cell 4
    clear t1 t2 t3 t4 v1 v2 v3 v4 r1 f2 f3 f4
    obtain⟨zs,hz,hzb⟩:=HO.out.zs
    have HZ:=hid (hz.keepF HK2.out)
    have HZB:=hid hzb
    have H10:=hid HO.out.d10
    clear hz hzb
    go_wp2_with (go_at_call 18;refine(bounds_any _ C.depth C.sg (by omega) H10.out).mono ?_;rintro e w8 ⟨rfl,rfl⟩)
    go_loop [10] (fun v=> ∃(j:Nat),j≤C.n∧v=.int .i64 j) (fun v=>C.n-(intOf v).toNat)
    case atStart=>exact⟨0,by omega,rfl⟩
    case round=>
     obtain⟨j,hj,rfl⟩:=hrel
     by_cases hjn:j<C.n
     · obtain⟨ad,hA,hcell⟩:=HZ.out.2 (by omega)
       have hlen:zs.length=C.n:=by have:=HZ.out.1;rwa [List.length_map]at this
       have hjz:j<zs.length:=by omega
       have hzc:=hcell j (.int .i64 zs[j]) (by rw [List.getElem?_map,List.getElem?_eq_getElem hjz];rfl)
       obtain⟨g1,g2⟩:=HZB.out zs[j] (List.getElem_mem hjz)
       generalize zs[j]=z at*
       rw [hA]at e4
       clear hcell hA
       have g3:decide (z<loB C.depth C.sg)=false:=by simp;omega
       have g4:decide (hiB C.depth C.sg<z)=false:=by simp;omega
       go_wp2_with fail
       case roundEnd=>exact⟨⟨j+1,by omega,by go_num⟩,by simp [intOf]<;>omega⟩
     · obtain rfl:j=C.n:=by omega
       go_wp2_with fail
       go_roundw
       case rel=>exact⟨i+1,by omega,by go_num,HK2,B3⟩
       case measure=>simp [intOf]<;>omega
  · obtain rfl:i=n:=by omega
    go_wp2_with fail
    go_ret
    exact⟨rfl,HK.out⟩
end Go.Proofs.YthfogcgdijmaoaaGreat
