/-
  Part 15 of the proof: Frame3. Conditions: those of the statements.
-/
import Derived.Test.YthfogcgdijmaoaaGreatW12
set_option maxRecDepth 100000
set_option maxHeartbeats 16000000
set_option linter.unusedVariables false
set_option linter.unusedSimpArgs false
namespace Go.Proofs.YthfogcgdijmaoaaGreat
open Go.RowKit
theorem comp_cells2 {w:World} {A:Option Addr} {n:Nat} {cs:List Cm} (h:RdS w A n 5 (cms cs)) (hl:cs.length=n) {i:Nat} (hi:i<n): ∃(b o:Nat) (c:Cm),cs[i]? =some c∧A=some ⟨b,o,none⟩∧w.cell? ⟨b,o+i*5,none⟩=some (.int .i64 c.depth)∧w.cell? ⟨b,o+i*5+1,none⟩=some (.bool c.sg)∧w.cell? ⟨b,o+i*5+2,none⟩=some (.int .i64 c.dx)∧w.cell? ⟨b,o+i*5+3,none⟩=some (.int .i64 c.dy)∧w.cell? ⟨b,o+i*5+4,none⟩=some (.slice c.A c.n c.c):=by
 have hi':i<cs.length:=by omega
 obtain⟨b,o,e,h0⟩:=h.cell hi (cms_at cs i 0 hi' (by omega))
 have hh: ∀j v,j<5→cs[i].cells[j]? =some v→w.cell? ⟨b,o+i*5+j,none⟩=some v:=fun j v hj hv=>by
  obtain⟨b2,o2,e2,h2⟩:=h.cell hi ((cms_at cs i j hi' hj).trans hv)
  rw [e]at e2
  cases e2
  exact h2
 exact⟨b,o,cs[i],List.getElem?_eq_getElem hi',e,h0,hh 1 _ (by omega) rfl,hh 2 _ (by omega) rfl,hh 3 _ (by omega) rfl,hh 4 _ (by omega) rfl⟩
theorem numbers_any1 (w:World) (m:Im) (p:Pm) (nx ny:Nat) (hP:PmOk p) (hox:0≤m.ox) (hx:m.ox<m.x) (hx64:m.x≤64) (hoy:0≤m.oy) (hy:m.oy<m.y) (hy64:m.y≤64) (htx:m.ox<p.tx) (hty:m.oy<p.ty)
 (hnx:ceilI m.x p.tx=nx) (hny:ceilI m.y p.ty=ny) (h16:nx*ny≤16) (hr:p.rct=true) (cs:List Cm) (hcs:RdS w m.A m.n 5 (cms cs)) (hl:cs.length=m.n) (hn3:3≤m.n) (hE: ∀(a b:Cm) (i j:Nat),i<3→j<3→cs[i]? =some a→cs[j]? =some b→b.depth=a.depth∧b.sg=a.sg∧b.dx=a.dx∧b.dy=a.dy):
 Calls Tryz.prog 48 #[m.val,p.val] w fun e w'=>e=.returned (.int .i64 0)∧Keep (fun _=>False) w w':=by
 obtain⟨q1,q2,q3,q4,q5,q6,q7,q8,q9,q10,q11,q12,q13⟩:=hP
 have CX:=fun w=>ceil_any w m.x p.tx (by omega) (by omega) (by omega) (by omega)
 have CY:=fun w=>ceil_any w m.y p.ty (by omega) (by omega) (by omega) (by omega)
 rw [hnx]at CX
 rw [hny]at CY
 have hnx64:nx≤64:=by have:=ceilI_lim (a:=m.x) (b:=p.tx) (by omega) (by omega);omega
 have hny64:ny≤64:=by have:=ceilI_lim (a:=m.y) (b:=p.ty) (by omega) (by omega);omega
 clear hnx hny
 obtain⟨x,y,ox,oy,cA,cn,cc⟩:=m
 obtain⟨tx,ty,lev,cbw,cbh,prec,style,order,lay,rct,sop,eph⟩:=p
 unfold Im.val Pm.val Im.cells Pm.cells
 simp only at*
 subst hr
 have HE:=hid hE
 have HR:=hid hcs
 have HL:=hid hl
 clear hE hcs hl
 obtain⟨t,ht⟩: ∃t,nx*ny=t:=⟨_,rfl⟩
 have e1:(nx:Int)*(ny:Int)=(t:Int):=by rw [← ht];push_cast;rfl
 rw [ht]at h16
 have HK:=hid (((Keep.refl (fun _=>False) w).alloc (.cells #[.int .i64 x,.int .i64 y,.int .i64 ox,.int .i64 oy,.slice cA cn cc] 29)).alloc (.cells #[.int .i64 tx,.int .i64 ty,.int .i64 lev,.int .i64 cbw,.int .i64 cbh,.int .i64 prec,.int .i64 style,.int .i64 order,.int .i64 lay,.bool true,.bool sop,.bool eph] 31))
 have B1:=(Blk.new w 29 #[.int .i64 x,.int .i64 y,.int .i64 ox,.int .i64 oy,.slice cA cn cc]).alloc (.cells #[.int .i64 tx,.int .i64 ty,.int .i64 lev,.int .i64 cbw,.int .i64 cbh,.int .i64 prec,.int .i64 style,.int .i64 order,.int .i64 lay,.bool true,.bool sop,.bool eph] 31)
 have B2:=Blk.new1 w (.cells #[.int .i64 x,.int .i64 y,.int .i64 ox,.int .i64 oy,.slice cA cn cc] 29) 31 #[.int .i64 tx,.int .i64 ty,.int .i64 lev,.int .i64 cbw,.int .i64 cbh,.int .i64 prec,.int .i64 style,.int .i64 order,.int .i64 lay,.bool true,.bool sop,.bool eph]
 go_enter Tryz.func48,Tryz.ntmps48
 go_upto_region 3 with fail
 generalize (w.alloc (.cells #[.int .i64 x,.int .i64 y,.int .i64 ox,.int .i64 oy,.slice cA cn cc] 29)).alloc (.cells #[.int .i64 tx,.int .i64 ty,.int .i64 lev,.int .i64 cbw,.int .i64 cbh,.int .i64 prec,.int .i64 style,.int .i64 order,.int .i64 lay,.bool true,.bool sop,.bool eph] 31)=w2 at*
 have a0:=B1.cell 0
 have a1:=B1.cell 1
 have b0:=B2.cell 0
 have b1:=B2.cell 1
 have b2:=B2.cell 2
 have b3:=B2.cell 3
 have b4:=B2.cell 4
 have b5:=B2.cell 5
 have b6:=B2.cell 6
 have b7:=B2.cell 7
 have b8:=B2.cell 8
 have b9:=B2.cell 9
 have HB1:=hid B1
 clear B1 B2
 have e2:IntKind.i64.wrap (t:Int)=(t:Int):=IntWalk.i64_in _ (by omega)
 refine At.start (L:=#[false,false,false,false,false,false,false,false,false,false,false,false]) (by kernel_rfl) rfl ?_
 refine AtP 0 30 ?_
 refine AtL 1 31 Tryz.underlying3 ?_
 refine AtP 2 32 ?_
 refine AtL 3 33 Tryz.underlying3 ?_
 refine AtP 5 35 ?_
 refine AtL 6 36 Tryz.underlying3 ?_
 refine AtP 7 37 ?_
 refine AtL 8 38 Tryz.underlying3 ?_
 refine At.call_all 4 rfl (by kernel_rfl) rfl (fun K hK=>?_)
 go_simp
 refine(CX _).mono ?_
 rintro e w3 ⟨rfl,rfl⟩
 refine hK _ _ (by repeat' first|exact all_nil|refine all_cons (by assumption) ?_) ?_
 clear hK K
 try simp only [NS]
 refine AtC 9 fun K hK=>?_
 go_simp
 refine(CY _).mono ?_
 rintro e w3 ⟨rfl,rfl⟩
 refine hK _ _ all_nil ?_
 clear hK K
 try simp only [NS]
 refine AtP 10 40 ?_
 refine AtP 11 41 ?_
 refine At.done (by kernel_rfl) ?_
 have hn0:0<cn:=by omega
 obtain⟨b,o,C,hm,rfl,c0,c1,c2,c3,c4⟩:=comp_cells2 (HR.out.keep0 HK.out.drew) HL.out hn0
 rw [Nat.zero_mul,Nat.add_zero]at c0 c1 c2 c3 c4
 have m4:=HB1.out.cell 4
 have HM:=hid hm
 clear hm
 go_upto_region 12 with fail
 have HK2:=hid ((HK.out.alloc (.cells #[.int .i64 C.depth,.bool C.sg,.int .i64 C.dx,.int .i64 C.dy,.slice C.A C.n C.c] 52)).drew)
 have B3:=hid ((HB1.out.alloc (.cells #[.int .i64 C.depth,.bool C.sg,.int .i64 C.dx,.int .i64 C.dy,.slice C.A C.n C.c] 52)).drew)
 have D2:=hid ((Blk.new w2 52 #[.int .i64 C.depth,.bool C.sg,.int .i64 C.dx,.int .i64 C.dy,.slice C.A C.n C.c]).drew)
 clear a0 a1 b0 b1 b2 b3 b4 b5 b6 b7 b8 b9 c0 c1 c2 c3 c4 m4 HB1 HK
 generalize (w2.alloc (.cells #[.int .i64 C.depth,.bool C.sg,.int .i64 C.dx,.int .i64 C.dy,.slice C.A C.n C.c] 52)).drew=w4 at*
 generalize w2.heap.size=g at*
 go_wp2_with fail
 go_loopw [6] (fun v wr=> ∃(i:Nat),i≤3∧v=.int .i64 i∧Hid (Keep (fun _=>False) w wr)∧Hid (Blk wr w.heap.size 29 #[.int .i64 x,.int .i64 y,.int .i64 ox,.int .i64 oy,.slice (some ⟨b,o,none⟩) cn cc])∧Hid (Blk wr g 52 #[.int .i64 C.depth,.bool C.sg,.int .i64 C.dx,.int .i64 C.dy,.slice C.A C.n C.c])) (fun v _=>3-(intOf v).toNat)
 case atStart=>exact⟨1,by omega,rfl,HK2,B3,D2⟩
 case round=>
  clear HK2 B3 D2
  obtain⟨i,hi,rfl,HK2,B3,D2⟩:=hrel
  by_cases hin:i<3
  · have hicn:i<cn:=by omega
    obtain⟨b',o',D,hm2,he,c0,c1,c2,c3,c4⟩:=comp_cells2 (HR.out.keep0 HK2.out) HL.out hicn
    cases he
    obtain⟨g1,g2,g3,g4⟩:=HE.out C D 0 i (by omega) hin HM.out hm2
    rw [g1]at c0
    rw [g2]at c1
    rw [g3]at c2
    rw [g4]at c3
    have m4:=B3.out.cell 4
    clear hm2 g1 g2 g3 g4
    go_upto_region 16 with fail
    have HK3:=hid (HK2.out.alloc (.cells #[.int .i64 C.depth,.bool C.sg,.int .i64 C.dx,.int .i64 C.dy,.slice D.A D.n D.c] 52))
    have B4:=hid (B3.out.alloc (.cells #[.int .i64 C.depth,.bool C.sg,.int .i64 C.dx,.int .i64 C.dy,.slice D.A D.n D.c] 52))
    have D3:=hid (D2.out.alloc (.cells #[.int .i64 C.depth,.bool C.sg,.int .i64 C.dx,.int .i64 C.dy,.slice D.A D.n D.c] 52))
    have N:=Blk.new wr 52 #[.int .i64 C.depth,.bool C.sg,.int .i64 C.dx,.int .i64 C.dy,.slice D.A D.n D.c]
    generalize wr.alloc (.cells #[.int .i64 C.depth,.bool C.sg,.int .i64 C.dx,.int .i64 C.dy,.slice D.A D.n D.c] 52)=w5 at*
    have f0:=N.cell 0
    have f1:=N.cell 1
    have f2:=N.cell 2
    have f3:=N.cell 3
    have h0:=D3.out.cell 0
    have h1:=D3.out.cell 1
    have h2:=D3.out.cell 2
    have h3:=D3.out.cell 3
    clear N
    go_wp2_with fail
    go_roundw
    case rel=>exact⟨i+1,by omega,by go_num,HK3,B4,D3⟩
    case measure=>simp [intOf]<;>omega
  · obtain rfl:i=3:=by omega
    go_wp2_with fail
    go_ret
    exact⟨rfl,HK2.out⟩
theorem numbers_any (w:World) (m:Im) (p:Pm) (nx ny:Nat) (hP:PmOk p) (hox:0≤m.ox) (hx:m.ox<m.x) (hx64:m.x≤64) (hoy:0≤m.oy) (hy:m.oy<m.y) (hy64:m.y≤64) (htx:m.ox<p.tx) (hty:m.oy<p.ty)
 (hnx:ceilI m.x p.tx=nx) (hny:ceilI m.y p.ty=ny) (h16:nx*ny≤16) (cs:List Cm) (hl:cs.length=m.n) (hE:p.rct=true→3≤m.n∧ ∀(a b:Cm) (i j:Nat),i<3→j<3→cs[i]? =some a→cs[j]? =some b→b.depth=a.depth∧b.sg=a.sg∧b.dx=a.dx∧b.dy=a.dy) (hcs:RdS w m.A m.n 5 (cms cs)):
 Calls Tryz.prog 48 #[m.val,p.val] w fun e w'=>e=.returned (.int .i64 0)∧Keep (fun _=>False) w w':=by
 by_cases hr:p.rct=true
 · exact numbers_any1 w m p nx ny hP hox hx hx64 hoy hy hy64 htx hty hnx hny h16 hr cs hcs hl (hE hr).1 (hE hr).2
 · exact numbers_any0 w m p nx ny hP hox hx hx64 hoy hy hy64 htx hty hnx hny h16 (by simpa using hr)
theorem frame_any (w:World) (m:Im) (p:Pm) (nx ny:Nat) (hP:PmOk p) (hox:0≤m.ox) (hx:m.ox<m.x) (hx64:m.x≤64) (hoy:0≤m.oy) (hy:m.oy<m.y) (hy64:m.y≤64) (htx:m.ox<p.tx) (hty:m.oy<p.ty)
 (hnx:ceilI m.x p.tx=nx) (hny:ceilI m.y p.ty=ny) (h16:nx*ny≤16) (cs:List Cm) (hl:cs.length=m.n) (hE:p.rct=true→3≤m.n∧ ∀(a b:Cm) (i j:Nat),i<3→j<3→cs[i]? =some a→cs[j]? =some b→b.depth=a.depth∧b.sg=a.sg∧b.dx=a.dx∧b.dy=a.dy) (hcs:RdS w m.A m.n 5 (cms cs)) (hn1:1≤m.n) (hn4:m.n≤4) (hC: ∀c∈cs,CmOk c):
 Calls Tryz.prog 33 #[m.val,p.val] w fun e w'=>e=.returned (.int .i64 0)∧Keep (fun _=>False) w w':=
 frame_of w m p cs hcs hl hn1 hn4 hC hox hx hx64 hoy hy hy64 (fun w2 h2=>numbers_any w2 m p nx ny hP hox hx hx64 hoy hy hy64 htx hty hnx hny h16 cs hl hE h2)
end Go.Proofs.YthfogcgdijmaoaaGreat
