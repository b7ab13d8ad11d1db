/-
  Part 12 of the proof: Frame Frame2. Conditions: those of the statements.
-/
import Derived.Test.YthfogcgdijmaoaaGreatW10
set_option maxRecDepth 100000
set_option maxHeartbeats 16000000
set_option linter.unusedVariables false
set_option linter.unusedSimpArgs false
namespace Go.Proofs.YthfogcgdijmaoaaGreat
open Go.RowKit
structure Cm where
 depth:Nat
 sg:Bool
 dx:Nat
 dy:Nat
 A:Option Addr
 n:Nat
 c:Nat
def Cm.cells (c:Cm):Array Value:=#[.int .i64 c.depth,.bool c.sg,.int .i64 c.dx,.int .i64 c.dy,.slice c.A c.n c.c]
def cms (l:List Cm):List Value:=l.flatMap fun r=>r.cells.toList
theorem cms_at : ∀(l:List Cm) (i j:Nat) (h:i<l.length),j<5→(cms l)[i*5+j]? =l[i].cells[j]?
 |[],i,j,h,_=>by simp at h
 |r::l,0,j,_,hj=>by
  show(r.cells.toList++cms l)[0*5+j]? =r.cells[j]?
  rw [show 0*5+j=j by omega,List.getElem?_append_left (by show j<5;omega),Array.getElem?_toList]
 |r::l,i+1,j,h,hj=>by
  show(r.cells.toList++cms l)[(i+1)*5+j]? =(l[i]'(by simpa using h)).cells[j]?
  rw [List.getElem?_append_right (by show 5≤_;omega)]
  have:(i+1)*5+j-r.cells.toList.length=i*5+j:=by show(i+1)*5+j-5=_;omega
  rw [this]
  exact cms_at l i j (by simpa using h) hj
structure CmOk (c:Cm):Prop where
 d1:1≤c.depth
 d2:c.depth≤16
 x1:1≤c.dx
 x2:c.dx≤4
 y1:1≤c.dy
 y2:c.dy≤4
structure PmOk (p:Pm):Prop where
 lev:p.lev≤5
 w2:2≤p.cbw
 w6:p.cbw≤6
 h2:2≤p.cbh
 h6:p.cbh≤6
 p1:1≤p.prec
 p15:p.prec≤15
 st:p.style≤63
 od:p.order≤4
 l1:1≤p.lay
 l2:p.lay≤8
 tx:p.tx≤65536
 ty:p.ty≤65536
theorem numbers_any0 (w:World) (m:Im) (p:Pm) (nx ny:Nat) (hP:PmOk p) (hox:0≤m.ox) (hx:m.ox<m.x) (hx64:m.x≤64) (hoy:0≤m.oy) (hy:m.oy<m.y) (hy64:m.y≤64) (htx:m.ox<p.tx) (hty:m.oy<p.ty)
 (hnx:ceilI m.x p.tx=nx) (hny:ceilI m.y p.ty=ny) (h16:nx*ny≤16) (hr:p.rct=false):
 Calls Tryz.prog 48 #[m.val,p.val] w fun e w'=>e=.returned (.int .i64 0)∧Keep (fun _=>False) w w':=by
 obtain⟨q1,q2,q3,q4,q5,q6,q7,q8,q9,q10,q11,q12,q13⟩:=hP
 have CX:=fun w=>ceil_any w m.x p.tx (by omega) (by omega) (by omega) (by omega)
 have CY:=fun w=>ceil_any w m.y p.ty (by omega) (by omega) (by omega) (by omega)
 rw [hnx]at CX
 rw [hny]at CY
 have hnx64:nx≤64:=by have:=ceilI_lim (a:=m.x) (b:=p.tx) (by omega) (by omega);omega
 have hny64:ny≤64:=by have:=ceilI_lim (a:=m.y) (b:=p.ty) (by omega) (by omega);omega
 clear hnx hny
 obtain⟨x,y,ox,oy,cA,cn,cc⟩:=m
 obtain⟨tx,ty,lev,cbw,cbh,prec,style,order,lay,rct,sop,eph⟩:=p
 unfold Im.val Pm.val Im.cells Pm.cells
 simp only at*
 subst hr
 obtain⟨t,ht⟩: ∃t,nx*ny=t:=⟨_,rfl⟩
 have e1:(nx:Int)*(ny:Int)=(t:Int):=by rw [← ht];push_cast;rfl
 rw [ht]at h16
 have HK:=hid (((Keep.refl (fun _=>False) w).alloc (.cells #[.int .i64 x,.int .i64 y,.int .i64 ox,.int .i64 oy,.slice cA cn cc] 29)).alloc (.cells #[.int .i64 tx,.int .i64 ty,.int .i64 lev,.int .i64 cbw,.int .i64 cbh,.int .i64 prec,.int .i64 style,.int .i64 order,.int .i64 lay,.bool false,.bool sop,.bool eph] 31))
 have B1:=(Blk.new w 29 #[.int .i64 x,.int .i64 y,.int .i64 ox,.int .i64 oy,.slice cA cn cc]).alloc (.cells #[.int .i64 tx,.int .i64 ty,.int .i64 lev,.int .i64 cbw,.int .i64 cbh,.int .i64 prec,.int .i64 style,.int .i64 order,.int .i64 lay,.bool false,.bool sop,.bool eph] 31)
 have B2:=Blk.new1 w (.cells #[.int .i64 x,.int .i64 y,.int .i64 ox,.int .i64 oy,.slice cA cn cc] 29) 31 #[.int .i64 tx,.int .i64 ty,.int .i64 lev,.int .i64 cbw,.int .i64 cbh,.int .i64 prec,.int .i64 style,.int .i64 order,.int .i64 lay,.bool false,.bool sop,.bool eph]
 go_enter Tryz.func48,Tryz.ntmps48
 go_upto_region 3 with fail
 generalize (w.alloc (.cells #[.int .i64 x,.int .i64 y,.int .i64 ox,.int .i64 oy,.slice cA cn cc] 29)).alloc (.cells #[.int .i64 tx,.int .i64 ty,.int .i64 lev,.int .i64 cbw,.int .i64 cbh,.int .i64 prec,.int .i64 style,.int .i64 order,.int .i64 lay,.bool false,.bool sop,.bool eph] 31)=w2 at*
 have a0:=B1.cell 0
 have a1:=B1.cell 1
 have b0:=B2.cell 0
 have b1:=B2.cell 1
 have b2:=B2.cell 2
 have b3:=B2.cell 3
 have b4:=B2.cell 4
 have b5:=B2.cell 5
 have b6:=B2.cell 6
 have b7:=B2.cell 7
 have b8:=B2.cell 8
 have b9:=B2.cell 9
 clear B1 B2
 have e2:IntKind.i64.wrap (t:Int)=(t:Int):=IntWalk.i64_in _ (by omega)
 refine At.start (L:=#[false,false,false,false,false,false,false,false,false,false,false,false]) (by kernel_rfl) rfl ?_
 refine AtP 0 30 ?_
 refine AtL 1 31 Tryz.underlying3 ?_
 refine AtP 2 32 ?_
 refine AtL 3 33 Tryz.underlying3 ?_
 refine AtP 5 35 ?_
 refine AtL 6 36 Tryz.underlying3 ?_
 refine AtP 7 37 ?_
 refine AtL 8 38 Tryz.underlying3 ?_
 refine At.call_all 4 rfl (by kernel_rfl) rfl (fun K hK=>?_)
 go_simp
 refine(CX _).mono ?_
 rintro e w3 ⟨rfl,rfl⟩
 refine hK _ _ (by repeat' first|exact all_nil|refine all_cons (by assumption) ?_) ?_
 clear hK K
 try simp only [NS]
 refine AtC 9 fun K hK=>?_
 go_simp
 refine(CY _).mono ?_
 rintro e w3 ⟨rfl,rfl⟩
 refine hK _ _ all_nil ?_
 clear hK K
 try simp only [NS]
 refine AtP 10 40 ?_
 refine AtP 11 41 ?_
 refine At.done (by kernel_rfl) ?_
 go_wp2_with fail
 go_ret
 exact⟨rfl,HK.out.drew⟩
theorem comp_cells {w:World} {A:Option Addr} {n:Nat} {cs:List Cm} (h:RdS w A n 5 (cms cs)) (hl:cs.length=n) {i:Nat} (hi:i<n): ∃(b o:Nat) (c:Cm),c∈cs∧A=some ⟨b,o,none⟩∧w.cell? ⟨b,o+i*5,none⟩=some (.int .i64 c.depth)∧w.cell? ⟨b,o+i*5+1,none⟩=some (.bool c.sg)∧w.cell? ⟨b,o+i*5+2,none⟩=some (.int .i64 c.dx)∧w.cell? ⟨b,o+i*5+3,none⟩=some (.int .i64 c.dy)∧w.cell? ⟨b,o+i*5+4,none⟩=some (.slice c.A c.n c.c):=by
 have hi':i<cs.length:=by omega
 obtain⟨b,o,e,h0⟩:=h.cell hi (cms_at cs i 0 hi' (by omega))
 have hh: ∀j v,j<5→cs[i].cells[j]? =some v→w.cell? ⟨b,o+i*5+j,none⟩=some v:=fun j v hj hv=>by
  obtain⟨b2,o2,e2,h2⟩:=h.cell hi ((cms_at cs i j hi' hj).trans hv)
  rw [e]at e2
  cases e2
  exact h2
 exact⟨b,o,cs[i],List.getElem_mem hi',e,h0,hh 1 _ (by omega) rfl,hh 2 _ (by omega) rfl,hh 3 _ (by omega) rfl,hh 4 _ (by omega) rfl⟩
theorem frame_of (w:World) (m:Im) (p:Pm) (cs:List Cm) (hcs:RdS w m.A m.n 5 (cms cs)) (hl:cs.length=m.n) (hn1:1≤m.n) (hn4:m.n≤4) (hC: ∀c∈cs,CmOk c) (hox:0≤m.ox) (hx:m.ox<m.x) (hx64:m.x≤64) (hoy:0≤m.oy) (hy:m.oy<m.y) (hy64:m.y≤64)
 (hN: ∀w2,RdS w2 m.A m.n 5 (cms cs)→Calls Tryz.prog 48 #[m.val,p.val] w2 fun e w'=>e=.returned (.int .i64 0)∧Keep (fun _=>False) w2 w'):
 Calls Tryz.prog 33 #[m.val,p.val] w fun e w'=>e=.returned (.int .i64 0)∧Keep (fun _=>False) w w':=by
 have HN:=hid hN
 clear hN
 obtain⟨x,y,ox,oy,A,n,c⟩:=m
 obtain⟨tx,ty,lev,cbw,cbh,prec,style,order,lay,rct,sop,eph⟩:=p
 unfold Im.val Pm.val Im.cells Pm.cells at HN ⊢
 simp only at*
 have HC:=hid hC
 have HR:=hid hcs
 have HL:=hid hl
 clear hC hcs hl
 have HK:=hid (((Keep.refl (fun _=>False) w).alloc (.cells #[.int .i64 x,.int .i64 y,.int .i64 ox,.int .i64 oy,.slice A n c] 29)).alloc (.cells #[.int .i64 tx,.int .i64 ty,.int .i64 lev,.int .i64 cbw,.int .i64 cbh,.int .i64 prec,.int .i64 style,.int .i64 order,.int .i64 lay,.bool rct,.bool sop,.bool eph] 31))
 have B1:=hid ((Blk.new w 29 #[.int .i64 x,.int .i64 y,.int .i64 ox,.int .i64 oy,.slice A n c]).alloc (.cells #[.int .i64 tx,.int .i64 ty,.int .i64 lev,.int .i64 cbw,.int .i64 cbh,.int .i64 prec,.int .i64 style,.int .i64 order,.int .i64 lay,.bool rct,.bool sop,.bool eph] 31))
 have B2:=hid (Blk.new1 w (.cells #[.int .i64 x,.int .i64 y,.int .i64 ox,.int .i64 oy,.slice A n c] 29) 31 #[.int .i64 tx,.int .i64 ty,.int .i64 lev,.int .i64 cbw,.int .i64 cbh,.int .i64 prec,.int .i64 style,.int .i64 order,.int .i64 lay,.bool rct,.bool sop,.bool eph])
 go_enter Tryz.func33,Tryz.ntmps33
 go_wp2_with fail
 go_loopw [5] (fun v wr=> ∃(i:Nat),i≤n∧v=.int .i64 i∧Hid (Keep (fun _=>False) w wr)∧Hid (Blk wr w.heap.size 29 #[.int .i64 x,.int .i64 y,.int .i64 ox,.int .i64 oy,.slice A n c])∧Hid (Blk wr (w.heap.size+1) 31 #[.int .i64 tx,.int .i64 ty,.int .i64 lev,.int .i64 cbw,.int .i64 cbh,.int .i64 prec,.int .i64 style,.int .i64 order,.int .i64 lay,.bool rct,.bool sop,.bool eph])) (fun v _=>n-(intOf v).toNat)
 case atStart=>exact⟨0,by omega,rfl,HK,B1,B2⟩
 case round=>
  clear HK B1 B2
  obtain⟨i,hi,rfl,HK,B1,B2⟩:=hrel
  have m4:=B1.out.cell 4
  by_cases hin:i<n
  · obtain⟨b,o,C,hm,rfl,c0,c1,c2,c3,c4⟩:=comp_cells (HR.out.keep0 HK.out) HL.out hin
    obtain⟨d1,d2,d3,d4,d5,d6⟩:=HC.out C hm
    go_upto_region 11 with fail
    have HK2:=hid (HK.out.alloc (.cells #[.int .i64 C.depth,.bool C.sg,.int .i64 C.dx,.int .i64 C.dy,.slice C.A C.n C.c] 52))
    have B3:=hid (B1.out.alloc (.cells #[.int .i64 C.depth,.bool C.sg,.int .i64 C.dx,.int .i64 C.dy,.slice C.A C.n C.c] 52))
    have B4:=hid (B2.out.alloc (.cells #[.int .i64 C.depth,.bool C.sg,.int .i64 C.dx,.int .i64 C.dy,.slice C.A C.n C.c] 52))
    have D:=Blk.new wr 52 #[.int .i64 C.depth,.bool C.sg,.int .i64 C.dx,.int .i64 C.dy,.slice C.A C.n C.c]
    generalize wr.alloc (.cells #[.int .i64 C.depth,.bool C.sg,.int .i64 C.dx,.int .i64 C.dy,.slice C.A C.n C.c] 52)=w4 at*
    have f0:=D.cell 0
    have f1:=D.cell 1
    have f2:=D.cell 2
    have f3:=D.cell 3
    clear D
    go_wp2_with fail
    go_roundw
    case rel=>exact⟨i+1,by omega,by go_num,HK2,B3,B4⟩
    case measure=>simp [intOf]<;>omega
  · obtain rfl:i=n:=by omega
    go_wp2_with (first|(refine wpList_load_row rfl _ _ rfl _ rfl _ _ _ _ B1.out Tryz.underlying29 rfl (by kernel_rfl) ?_)|(refine wpList_load_row rfl _ _ rfl _ rfl _ _ _ _ B2.out Tryz.underlying31 rfl (by kernel_rfl) ?_)|(go_at_call 48;refine(HN.out wr (HR.out.keep0 HK.out)).mono ?_;rintro e w3 ⟨rfl,hk⟩;have HK2:=hid (HK.out.trans hk (fun _ _ h=>h))))
    go_ret
    exact⟨rfl,HK2.out⟩
end Go.Proofs.YthfogcgdijmaoaaGreat
