/-
  Part 14 of the proof: Tiles Frame. Conditions: those of the statements.
-/
import Derived.Test.YthfogcgdijmaoaaGreatJ12
set_option maxRecDepth 100000
set_option maxHeartbeats 16000000
set_option linter.unusedVariables false
set_option linter.unusedSimpArgs false
namespace Go.Proofs.YthfogcgdijmaoaaGreat
open Go.RowKit
structure TileOk (m:Im) (r:Rc):Prop where
 sub:r.sub m.whole
 x:r.x0<r.x1
 y:r.y0<r.y1
structure TL (w0:World) (m:Im) (p:Pm) (rs:List Rc) (A:Option Addr) (n c:Nat) (w:World):Prop where
 bm:Blk w w0.heap.size 29 m.cells
 bp:Blk w (w0.heap.size+1) 31 p.cells
 own:w.ownsRow w0.heap.size 63 4 (.slice A n c) n (rcs rs)
 keep:Keep (fun _=>False) w0 w
 ok: ∀r∈rs,TileOk m r
theorem TL.next {w0 w w':World} {m:Im} {p:Pm} {rs:List Rc} {A A':Option Addr} {n c c':Nat} (h:TL w0 m p rs A n c w) (r:Rc) (hr:TileOk m r) (ho:w'.ownsRow w0.heap.size 63 4 (.slice A' (n+1) c') (n+1) (rcs (rs++[r])))
 (hk:Keep (fun i=>(Value.slice A n c).ownBlock=some i) w w'):TL w0 m p (rs++[r]) A' (n+1) c' w':=
 ⟨h.bm.keep hk (own_ne h.own h.bm (by decide)),h.bp.keep hk (own_ne h.own h.bp (by decide)),ho,keep_app h.keep h.own (Nat.le_refl _) hk,fun q hq=>by
  rcases List.mem_append.1 hq with h1|h1
  · exact h.ok q h1
  · rw [List.mem_singleton]at h1
    subst h1
    exact hr⟩
theorem tile_ok {m:Im} {tx ty:Int} {i j:Nat} (hox:0≤m.ox) (hx:m.ox<m.x) (hoy:0≤m.oy) (hy:m.oy<m.y) (htx:m.ox<tx) (hty:m.oy<ty) (hi:(i:Int)<ceilI m.x tx) (hj:(j:Int)<ceilI m.y ty):
 TileOk m ⟨max (i*tx) m.ox,max (j*ty) m.oy,min ((i+1)*tx) m.x,min ((j+1)*ty) m.y⟩:=by
 have a1:=(ceilI_spec (a:=m.x) (d:=tx) (by omega)).1
 have a2:=(ceilI_spec (a:=m.y) (d:=ty) (by omega)).1
 have b1:tx*i≤tx*(ceilI m.x tx-1):=Int.mul_le_mul_of_nonneg_left (by omega) (by omega)
 have b2:ty*j≤ty*(ceilI m.y ty-1):=Int.mul_le_mul_of_nonneg_left (by omega) (by omega)
 have e1:((i:Int)+1)*tx=i*tx+tx:=by rw [Int.add_mul];omega
 have e2:((j:Int)+1)*ty=j*ty+ty:=by rw [Int.add_mul];omega
 rw [e1,e2]
 rw [Int.mul_comm]at b1 b2
 have c1:0≤(i:Int)*tx:=Int.mul_nonneg (by omega) (by omega)
 have c2:0≤(j:Int)*ty:=Int.mul_nonneg (by omega) (by omega)
 generalize (i:Int)*tx=u at*
 generalize (j:Int)*ty=v at*
 refine⟨⟨?_,?_,?_,?_,?_,?_⟩,?_,?_⟩<;>simp only [Im.whole]<;>omega
theorem tiles_any (w:World) (m:Im) (p:Pm) (nx ny:Nat) (hox:0≤m.ox) (hx:m.ox<m.x) (hx64:m.x≤64) (hoy:0≤m.oy) (hy:m.oy<m.y) (hy64:m.y≤64) (htx:m.ox<p.tx) (htx2:p.tx≤65536) (hty:m.oy<p.ty) (hty2:p.ty≤65536)
 (hnx:ceilI m.x p.tx=nx) (hny:ceilI m.y p.ty=ny):
 Calls Tryz.prog 22 #[m.val,p.val] w fun e w'=> ∃A c rs,e=.returned (.slice A (nx*ny) c)∧RdS w' A (nx*ny) 4 (rcs rs)∧nx*ny≤c∧rs.length=nx*ny∧(∀ r∈rs,TileOk m r)∧(∀ ad,A=some ad→w.heap.size≤ad.block)∧Keep (fun _=>False) w w':=by
 obtain⟨i0,hi0,hz0,hz1,hz2⟩:=info_parts info_rect
 have HTO:=(fun (i j:Nat) (hi:i<nx) (hj:j<ny)=>tile_ok (m:=m) (tx:=p.tx) (ty:=p.ty) hox hx hoy hy htx hty (by rw [hnx];exact_mod_cast hi) (by rw [hny];exact_mod_cast hj))
 have CX:=fun w=>ceil_any w m.x p.tx (by omega) (by omega) (by omega) (by omega)
 have CY:=fun w=>ceil_any w m.y p.ty (by omega) (by omega) (by omega) (by omega)
 have hnx64:nx≤64:=by have:=ceilI_lim (a:=m.x) (b:=p.tx) (by omega) (by omega);omega
 have hny64:ny≤64:=by have:=ceilI_lim (a:=m.y) (b:=p.ty) (by omega) (by omega);omega
 rw [hnx]at CX
 rw [hny]at CY
 clear hnx hny
 have HT0:Hid (TL w m p [] none 0 0 ((w.alloc (.cells m.cells 29)).alloc (.cells p.cells 31))):=hid ⟨(Blk.new w _ _).alloc _,Blk.new1 w _ _ _,World.ownsRow_nil _ _ _ _,((Keep.refl _ w).alloc _).alloc _,fun _ h=>by cases h⟩
 obtain⟨x,y,ox,oy,cA,cn,cc⟩:=m
 obtain⟨tx,ty,lev,cbw,cbh,prec,style,order,lay,rct,sop,eph⟩:=p
 unfold Im.val Pm.val
 simp only at HTO hox hx hx64 hoy hy hy64 htx htx2 hty hty2 CX CY
 have HM:=hid (show({ x,y,ox,oy,A:=cA,n:=cn,c:=cc }:Im).cells=#[.int .i64 x,.int .i64 y,.int .i64 ox,.int .i64 oy,.slice cA cn cc]from rfl)
 have HP:=hid (show({ tx,ty,lev,cbw,cbh,prec,style,order,lay,rct,sop,eph }:Pm).cells=#[.int .i64 tx,.int .i64 ty,.int .i64 lev,.int .i64 cbw,.int .i64 cbh,.int .i64 prec,.int .i64 style,.int .i64 order,.int .i64 lay,.bool rct,.bool sop,.bool eph]from rfl)
 generalize hmm:({ x,y,ox,oy,A:=cA,n:=cn,c:=cc }:Im)=M at*
 generalize hpp:({ tx,ty,lev,cbw,cbh,prec,style,order,lay,rct,sop,eph }:Pm)=PP at*
 have HMM:=hid hmm
 have HPP:=hid hpp
 have HTP:=hid HTO
 clear hmm hpp HTO
 go_enter Tryz.func22,Tryz.ntmps22
 go_wp2_with fail
 go_loopw [5,6] (fun l v wr=> ∃(j:Nat) (A:Option Addr) (c:Nat) (rs:List Rc),j≤ny∧v=.int .i64 j∧l=.slice A (nx*j) c∧Hid (TL w M PP rs A (nx*j) c wr)∧Hid (rs.length=nx*j)) (fun _ v _=>ny-(intOf v).toNat)
 case atStart=>exact⟨0,none,0,[],by omega,rfl,rfl,by rw [Nat.mul_zero];exact HT0,hid (by simp)⟩
 case round=>
  obtain⟨j,A,c,rs,hj,rfl,rfl,HT,HL⟩:=hrel
  clear HT0
  have HB:=hid (HT.out.bm)
  have m1:wr.cell? ⟨w.heap.size,1,none⟩=some (.int .i64 y):=by rw [HT.out.bm.cell,HM.out];rfl
  have p1:wr.cell? ⟨w.heap.size+1,1,none⟩=some (.int .i64 ty):=by rw [HT.out.bp.cell,HP.out];rfl
  go_wp2_with fail
  refine(CY _).mono ?_
  rintro e w1 ⟨rfl,rfl⟩
  by_cases hjn:j<ny
  · go_wp2_with fail
    have HT0:Hid (TL w M PP rs A (nx*j+0) c wr):=HT
    have HL0:Hid (rs.length=nx*j+0):=HL
    clear HT HL HB m1 p1
    go_loopw [5,7] (fun l v wr=> ∃(i:Nat) (A:Option Addr) (c:Nat) (rs:List Rc),i≤nx∧v=.int .i64 i∧l=.slice A (nx*j+i) c∧Hid (TL w M PP rs A (nx*j+i) c wr)∧Hid (rs.length=nx*j+i)) (fun _ v _=>nx-(intOf v).toNat)
    case atStart=>exact⟨0,A,c,rs,by omega,rfl,rfl,HT0,HL0⟩
    case round=>
     clear HT0 HL0
     obtain⟨i,A,c,rs,hi,rfl,rfl,HT,HL⟩:=hrel
     have m0:wr.cell? ⟨w.heap.size,0,none⟩=some (.int .i64 x):=by rw [HT.out.bm.cell,HM.out];rfl
     have m1:wr.cell? ⟨w.heap.size,1,none⟩=some (.int .i64 y):=by rw [HT.out.bm.cell,HM.out];rfl
     have m2:wr.cell? ⟨w.heap.size,2,none⟩=some (.int .i64 ox):=by rw [HT.out.bm.cell,HM.out];rfl
     have m3:wr.cell? ⟨w.heap.size,3,none⟩=some (.int .i64 oy):=by rw [HT.out.bm.cell,HM.out];rfl
     have p0:wr.cell? ⟨w.heap.size+1,0,none⟩=some (.int .i64 tx):=by rw [HT.out.bp.cell,HP.out];rfl
     have p1:wr.cell? ⟨w.heap.size+1,1,none⟩=some (.int .i64 ty):=by rw [HT.out.bp.cell,HP.out];rfl
     go_wp2_with fail
     refine(CX _).mono ?_
     rintro e w1 ⟨rfl,rfl⟩
     by_cases hin:i<nx
     · obtain⟨u1,g1,q1,d1,b1⟩:=mul_in (a:=(i:Int)) (b:=tx) (B:=64*65536) (by omega) (by omega) (Int.mul_le_mul (by omega) (by omega) (by omega) (by omega)) (by omega)
       obtain⟨u2,g2,q2,d2,b2⟩:=mul_in (a:=(j:Int)) (b:=ty) (B:=64*65536) (by omega) (by omega) (Int.mul_le_mul (by omega) (by omega) (by omega) (by omega)) (by omega)
       obtain⟨u3,g3,q3,d3,b3⟩:=mul_in (a:=(i:Int)+1) (b:=tx) (B:=65*65536) (by omega) (by omega) (Int.mul_le_mul (by omega) (by omega) (by omega) (by omega)) (by omega)
       obtain⟨u4,g4,q4,d4,b4⟩:=mul_in (a:=(j:Int)+1) (b:=ty) (B:=65*65536) (by omega) (by omega) (Int.mul_le_mul (by omega) (by omega) (by omega) (by omega)) (by omega)
       have hr:=HTP.out i j hin hjn
       rw [q1,q2,q3,q4]at hr
       clear q1 q2 q3 q4
       have HR:=hid hr
       have HS:=hid (HT.out.own)
       have hnn:nx*j≤64*64:=Nat.mul_le_mul hnx64 (by omega)
       have hb:w.heap.size≤wr.heap.size:=HT.out.keep.size
       clear hr
       go_wp2_with (first|(first|refine wpList_max rfl _ _ _ rfl _ _ rfl rfl ?_|refine wpList_min rfl _ _ _ rfl _ _ rfl rfl ?_)|(
        at_builtin
        go_must (refine wpList_append_rows wr rfl (.tmp 26) (.tmp 58) 59 rfl w.heap.size 63 i0 _ 4 32 Tryz.underlying59 hi0 hz0 hz1 hz2 rfl (by omega) HS.out rfl _ rfl rfl (one4 _ _ _ _) (by simp only [maxLen];omega) (by omega) hb ?_)
        intro A6 c6 w6 hown6 hk6
        have HN6:=hid (HT.out.next _ HR.out (by rw [rcs_snoc];exact hown6) hk6)
        have HL6:=hid (show(rs++[(⟨max u1 ox,max u2 oy,min u3 x,min u4 y⟩:Rc)]).length=nx*j+i+1 by rw [List.length_append,HL.out];rfl)
        clear hown6 hk6))
       go_roundw
       case rel=>exact⟨i+1,A6,c6,_,by omega,rfl,rfl,HN6,HL6⟩
       case measure=>simp [intOf];omega
     · obtain rfl:i=nx:=by omega
       have HT1:Hid (TL w M PP rs A (i*(j+1)) c wr):=HT
       have HL1:Hid (rs.length=i*(j+1)):=HL
       go_wp2_with fail
       go_roundw
       case rel=>exact⟨j+1,A,c,rs,by omega,rfl,rfl,HT1,HL1⟩
       case measure=>simp [intOf];omega
  · obtain rfl:j=ny:=by omega
    go_wp2_with fail
    go_ret
    refine⟨A,c,rs,rfl,RdS.of_own HT.out.own,own_cap HT.out.own,HL.out,?_,fun ad e=>(HT.out.own.lt _ (by rw [e];rfl)).1,HT.out.keep⟩
    exact HT.out.ok
structure Cm where
 depth:Nat
 sg:Bool
 dx:Nat
 dy:Nat
 A:Option Addr
 n:Nat
 c:Nat
def Cm.cells (c:Cm):Array Value:=#[.int .i64 c.depth,.bool c.sg,.int .i64 c.dx,.int .i64 c.dy,.slice c.A c.n c.c]
def cms (l:List Cm):List Value:=l.flatMap fun r=>r.cells.toList
theorem cms_at : ∀(l:List Cm) (i j:Nat) (h:i<l.length),j<5→(cms l)[i*5+j]?=l[i].cells[j]?
 |[],i,j,h,_=>by simp at h
 |r::l,0,j,_,hj=>by
  show(r.cells.toList++cms l)[0*5+j]?=r.cells[j]?
  rw [show 0*5+j=j by omega,List.getElem?_append_left (by show j<5;omega),Array.getElem?_toList]
 |r::l,i+1,j,h,hj=>by
  show(r.cells.toList++cms l)[(i+1)*5+j]?=(l[i]'(by simpa using h)).cells[j]?
  rw [List.getElem?_append_right (by show 5≤_;omega)]
  have:(i+1)*5+j-r.cells.toList.length=i*5+j:=by show(i+1)*5+j-5=_;omega
  rw [this]
  exact cms_at l i j (by simpa using h) hj
structure CmOk (c:Cm):Prop where
 d1:1≤c.depth
 d2:c.depth≤16
 x1:1≤c.dx
 x2:c.dx≤4
 y1:1≤c.dy
 y2:c.dy≤4
structure PmOk (p:Pm):Prop where
 lev:p.lev≤5
 w2:2≤p.cbw
 w6:p.cbw≤6
 h2:2≤p.cbh
 h6:p.cbh≤6
 p1:1≤p.prec
 p15:p.prec≤15
 st:p.style≤63
 od:p.order≤4
 l1:1≤p.lay
 l2:p.lay≤8
 tx:p.tx≤65536
 ty:p.ty≤65536
theorem numbers_any0 (w:World) (m:Im) (p:Pm) (nx ny:Nat) (hP:PmOk p) (hox:0≤m.ox) (hx:m.ox<m.x) (hx64:m.x≤64) (hoy:0≤m.oy) (hy:m.oy<m.y) (hy64:m.y≤64) (htx:m.ox<p.tx) (hty:m.oy<p.ty)
 (hnx:ceilI m.x p.tx=nx) (hny:ceilI m.y p.ty=ny) (h16:nx*ny≤16) (hr:p.rct=false):
 Calls Tryz.prog 48 #[m.val,p.val] w fun e w'=>e=.returned (.int .i64 0)∧Keep (fun _=>False) w w':=by
 obtain⟨q1,q2,q3,q4,q5,q6,q7,q8,q9,q10,q11,q12,q13⟩:=hP
 have CX:=fun w=>ceil_any w m.x p.tx (by omega) (by omega) (by omega) (by omega)
 have CY:=fun w=>ceil_any w m.y p.ty (by omega) (by omega) (by omega) (by omega)
 rw [hnx]at CX
 rw [hny]at CY
 have hnx64:nx≤64:=by have:=ceilI_lim (a:=m.x) (b:=p.tx) (by omega) (by omega);omega
 have hny64:ny≤64:=by have:=ceilI_lim (a:=m.y) (b:=p.ty) (by omega) (by omega);omega
 clear hnx hny
 obtain⟨x,y,ox,oy,cA,cn,cc⟩:=m
 obtain⟨tx,ty,lev,cbw,cbh,prec,style,order,lay,rct,sop,eph⟩:=p
 unfold Im.val Pm.val Im.cells Pm.cells
 simp only at*
 subst hr
 obtain⟨t,ht⟩: ∃t,nx*ny=t:=⟨_,rfl⟩
 have e1:(nx:Int)*(ny:Int)=(t:Int):=by rw [← ht];push_cast;rfl
 rw [ht]at h16
 have HK:=hid (((Keep.refl (fun _=>False) w).alloc (.cells #[.int .i64 x,.int .i64 y,.int .i64 ox,.int .i64 oy,.slice cA cn cc] 29)).alloc (.cells #[.int .i64 tx,.int .i64 ty,.int .i64 lev,.int .i64 cbw,.int .i64 cbh,.int .i64 prec,.int .i64 style,.int .i64 order,.int .i64 lay,.bool false,.bool sop,.bool eph] 31))
 have B1:=(Blk.new w 29 #[.int .i64 x,.int .i64 y,.int .i64 ox,.int .i64 oy,.slice cA cn cc]).alloc (.cells #[.int .i64 tx,.int .i64 ty,.int .i64 lev,.int .i64 cbw,.int .i64 cbh,.int .i64 prec,.int .i64 style,.int .i64 order,.int .i64 lay,.bool false,.bool sop,.bool eph] 31)
 have B2:=Blk.new1 w (.cells #[.int .i64 x,.int .i64 y,.int .i64 ox,.int .i64 oy,.slice cA cn cc] 29) 31 #[.int .i64 tx,.int .i64 ty,.int .i64 lev,.int .i64 cbw,.int .i64 cbh,.int .i64 prec,.int .i64 style,.int .i64 order,.int .i64 lay,.bool false,.bool sop,.bool eph]
 go_enter Tryz.func48,Tryz.ntmps48
 go_upto_region 3 with fail
 generalize (w.alloc (.cells #[.int .i64 x,.int .i64 y,.int .i64 ox,.int .i64 oy,.slice cA cn cc] 29)).alloc (.cells #[.int .i64 tx,.int .i64 ty,.int .i64 lev,.int .i64 cbw,.int .i64 cbh,.int .i64 prec,.int .i64 style,.int .i64 order,.int .i64 lay,.bool false,.bool sop,.bool eph] 31)=w2 at*
 have a0:=B1.cell 0
 have a1:=B1.cell 1
 have b0:=B2.cell 0
 have b1:=B2.cell 1
 have b2:=B2.cell 2
 have b3:=B2.cell 3
 have b4:=B2.cell 4
 have b5:=B2.cell 5
 have b6:=B2.cell 6
 have b7:=B2.cell 7
 have b8:=B2.cell 8
 have b9:=B2.cell 9
 clear B1 B2
 have e2:IntKind.i64.wrap (t:Int)=(t:Int):=IntWalk.i64_in _ (by omega)
 refine At.start (L:=#[false,false,false,false,false,false,false,false,false,false,false,false]) (by kernel_rfl) rfl ?_
 refine AtP 0 (some 30) ?_
 try simp only [NS]
 first|refine AtL 1 (some 31) Tryz.underlying3 ?_|refine AtR 1 (some 31) Tryz.underlying3 ?_
 try simp only [NS]
 refine AtP 2 (some 32) ?_
 try simp only [NS]
 first|refine AtL 3 (some 33) Tryz.underlying3 ?_|refine AtR 3 (some 33) Tryz.underlying3 ?_
 try simp only [NS]
 refine AtP 5 (some 35) ?_
 try simp only [NS]
 first|refine AtL 6 (some 36) Tryz.underlying3 ?_|refine AtR 6 (some 36) Tryz.underlying3 ?_
 try simp only [NS]
 refine AtP 7 (some 37) ?_
 try simp only [NS]
 first|refine AtL 8 (some 38) Tryz.underlying3 ?_|refine AtR 8 (some 38) Tryz.underlying3 ?_
 try simp only [NS]
 refine At.call_all 4 rfl (by kernel_rfl) rfl (fun K hK=>?_)
 go_simp
 refine(CX _).mono ?_
 rintro e w3 ⟨rfl,rfl⟩
 refine hK _ _ (by repeat' first|exact all_nil|refine all_cons (by assumption) ?_) ?_
 clear hK K
 try simp only [NS]
 refine AtC 9 fun K hK=>?_
 go_simp
 refine(CY _).mono ?_
 rintro e w3 ⟨rfl,rfl⟩
 refine hK _ _ all_nil ?_
 clear hK K
 try simp only [NS]
 refine AtP 10 (some 40) ?_
 try simp only [NS]
 refine AtP 11 (some 41) ?_
 try simp only [NS]
 refine At.done (by kernel_rfl) ?_
 go_wp2_with fail
 go_ret
 exact⟨rfl,HK.out.drew⟩
end Go.Proofs.YthfogcgdijmaoaaGreat
