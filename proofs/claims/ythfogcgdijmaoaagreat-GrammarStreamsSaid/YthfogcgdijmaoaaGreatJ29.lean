/-
  Part 29 of the proof: Spots. Conditions: those of the statements.
-/
import Derived.Test.YthfogcgdijmaoaaGreatJ18
import Derived.Test.YthfogcgdijmaoaaGreatJ25
import Derived.Test.YthfogcgdijmaoaaGreatJ28
set_option maxRecDepth 100000
set_option maxHeartbeats 16000000
set_option linter.unusedVariables false
set_option linter.unusedSimpArgs false
namespace Go.Proofs.YthfogcgdijmaoaaGreat
open Go.RowKit
theorem Spt.len (s:Spt):s.cells.length=5:=rfl
theorem Spt.one (s:Spt): ∀v∈s.cells,v.oneCell'=true:=by
 intro v hv
 unfold Spt.cells at hv
 simp at hv
 rcases hv with rfl|rfl|rfl|rfl|rfl<;>rfl
theorem info_spot :(Tryz.prog.info? 125).map (fun i=>(i.zero,i.size,i.bytes))=some (some (.agg #[.int .i64 0,.int .i64 0,.int .i64 0,.int .i64 0,.int .i64 0]),5,40):=by kernel_rfl
def Rc.reso (r:Rc) (L k:Nat):Rc:=r.over (p2 (L-k)) (p2 (L-k)) 0 0
def SpotOk (t:Rc) (cs:List Cm) (L q:Nat) (s:Spt):Prop:= ∃C,cs[s.comp]?=some C∧s.res≤L∧(s.prec:Int)<(((t.part C.dx C.dy).reso L s.res).preW q)*(((t.part C.dx C.dy).reso L s.res).preH q)
structure SI (w0:World) (t:Rc) (m:Im) (p:Pm) (cs:List Cm) (ls:List Spt) (A:Option Addr) (n c:Nat) (w:World):Prop where
 bt:Blk w w0.heap.size 63 t.cells
 bm:Blk w (w0.heap.size+1) 29 m.cells
 bp:Blk w (w0.heap.size+2) 31 p.cells
 own:w.ownsRow w0.heap.size 125 5 (.slice A n c) n (fl Spt.cells ls)
 keep:Keep (fun _=>False) w0 w
 ok: ∀s∈ls,SpotOk t cs p.lev p.prec s
section
variable {w0 w w':World} {t:Rc} {m:Im} {p:Pm} {cs:List Cm} {ls:List Spt} {A A':Option Addr} {n c c':Nat}
theorem SI.keepF (h:SI w0 t m p cs ls A n c w) (hk:Keep (fun _=>False) w w'):SI w0 t m p cs ls A n c w':=
 ⟨h.bt.keep hk id,h.bm.keep hk id,h.bp.keep hk id,own_keepF h.own hk,h.keep.trans hk (fun _ _ h=>h),h.ok⟩
theorem SI.next (h:SI w0 t m p cs ls A n c w) (s:Spt) (hs:SpotOk t cs p.lev p.prec s) (ho:w'.ownsRow w0.heap.size 125 5 (.slice A' (n+1) c') (n+1) (fl Spt.cells (ls++[s])))
 (hk:Keep (fun i=>(Value.slice A n c).ownBlock=some i) w w'):SI w0 t m p cs (ls++[s]) A' (n+1) c' w':=
 ⟨h.bt.keep hk (own_ne h.own h.bt (by decide)),h.bm.keep hk (own_ne h.own h.bm (by decide)),h.bp.keep hk (own_ne h.own h.bp (by decide)),ho,keep_app h.keep h.own (Nat.le_refl _) hk,fun q hq=>by
  rcases List.mem_append.1 hq with h1|h1
  · exact h.ok q h1
  · rw [List.mem_singleton]at h1
    subst h1
    exact hs⟩
theorem SI.far (h:SI w0 t m p cs ls A n c w) {g:Nat} {ty:TypeId} {xs:Array Value} (hg:Blk w g ty xs) (hne:125≠ty) (hk:Keep (fun i=>(Value.slice A n c).ownBlock=some i) w w'):Blk w' g ty xs:=hg.keep hk (own_ne h.own hg hne)
end
def SpotsP (w:World) (t:Rc) (cs:List Cm) (p:Pm) (e:Ending) (w':World):Prop:=
 ∃A c ls,e=.returned (.slice A ls.length c)∧RdS w' A ls.length 5 (fl Spt.cells ls)∧(∀ s∈ls,SpotOk t cs p.lev p.prec s)∧ls.length≤cs.length*((p.lev+1)*(precT p.prec*precT p.prec))∧Keep (fun _=>False) w w'
theorem precT_le (p:Nat):precT p≤9:=by unfold precT;repeat(first|split|omega)
theorem spots_any (w:World) (t:Rc) (m:Im) (p:Pm) (cs:List Cm) (hcs:RdS w m.A m.n 5 (cms cs)) (hl:cs.length=m.n) (hC: ∀c∈cs,CmOk c) (hn4:m.n≤4) (hP:PmOk p) (ht:t.ok 12 17):
 Calls Tryz.prog 62 #[.agg t.cells,.agg m.cells,.agg p.cells] w (SpotsP w t cs p):=by
 obtain⟨i0,hi0,ez0,ez1,ez2⟩:=info_parts info_spot
 have HD:=hid (show∀(A:Option Addr) (n c:Nat) (ls:List Spt) (w':World),SI w t m p cs ls A n c w'→ls.length=n→n≤m.n*((p.lev+1)*(precT p.prec*precT p.prec))→SpotsP w t cs p (.returned (.slice A n c)) w' from fun A n c ls w' h e hn=>⟨A,c,ls,by rw [e],by rw [e];exact RdS.of_own h.own,h.ok,by rw [e,hl];exact hn,h.keep⟩)
 have HS0:=hid (show SI w t m p cs [] none 0 0 (((w.alloc (.cells t.cells 63)).alloc (.cells m.cells 29)).alloc (.cells p.cells 31))from⟨((Blk.new w _ _).alloc _).alloc _,(Blk.new1 w _ _ _).alloc _,Blk.new2 w _ _ _ _,World.ownsRow_nil _ _ _ _,(((Keep.refl _ w).alloc _).alloc _).alloc _,fun _ h=>by cases h⟩)
 have HC:=hid hC
 have HR:=hid hcs
 have HL:=hid hl
 have HTO:=hid ht
 have hT9:=precT_le p.prec
 have hTT:precT p.prec*precT p.prec≤9*9:=Nat.mul_le_mul hT9 hT9
 obtain⟨q1,q2,q3,q4,q5,q6,q7,q8,q9,q10,q11,q12,q13⟩:=hP
 obtain⟨tt,htt⟩: ∃tt,precT p.prec*precT p.prec=tt:=⟨_,rfl⟩
 obtain⟨lt,hlt⟩: ∃lt,(p.lev+1)*tt=lt:=⟨_,rfl⟩
 have hlt6:lt≤6*81:=by rw [← hlt];exact Nat.mul_le_mul (by omega) (by omega)
 have HLT:=hid hlt
 have HTT:=hid htt
 rw [htt,hlt]at HD
 have HMC:=hid (show m.cells=#[.int .i64 m.x,.int .i64 m.y,.int .i64 m.ox,.int .i64 m.oy,.slice m.A m.n m.c]from rfl)
 have HPC:=hid (show p.cells=#[.int .i64 p.tx,.int .i64 p.ty,.int .i64 p.lev,.int .i64 p.cbw,.int .i64 p.cbh,.int .i64 p.prec,.int .i64 p.style,.int .i64 p.order,.int .i64 p.lay,.bool p.rct,.bool p.sop,.bool p.eph]from rfl)
 clear hC hcs hl ht htt hlt hTT
 go_enter Tryz.func62,Tryz.ntmps62
 go_wp2_with fail
 generalize ((w.alloc (.cells t.cells 63)).alloc (.cells m.cells 29)).alloc (.cells p.cells 31)=w1 at*
 go_loopw [7,8] (fun l v wr=> ∃(i n:Nat) (A:Option Addr) (c:Nat) (ls:List Spt),i≤m.n∧v=.int .i64 i∧l=.slice A n c∧n≤i*486∧Hid (n≤i*lt)∧Hid (SI w t m p cs ls A n c wr)∧Hid (ls.length=n)) (fun _ v _=>m.n-(intOf v).toNat)
 case atStart=>exact⟨0,0,none,0,[],by omega,rfl,rfl,by omega,hid (by omega),HS0,hid rfl⟩
 case round=>
  clear HS0
  obtain⟨i,n,A,c,ls,hi,rfl,rfl,hn486,HN,HS,HLS⟩:=hrel
  have m4:wr.cell? ⟨w.heap.size+1,4,none⟩=some (.slice m.A m.n m.c):=by rw [HS.out.bm.cell,HMC.out];rfl
  by_cases hin:i<m.n
  · obtain⟨b,o,C,hm,hA,c0,c1,c2,c3,c4⟩:=comp_cells2 (HR.out.keep0 HS.out.keep) HL.out hin
    have HO:=hid (HC.out C (List.mem_of_getElem? hm))
    obtain⟨d1,d2,d3,d4,d5,d6⟩:=HO.out
    rw [hA]at m4
    have HM:=hid hm
    clear hm hA
    go_upto_region 6 with fail
    have hkx:Keep (fun _=>False) wr (wr.alloc (.cells #[.int .i64 C.depth,.bool C.sg,.int .i64 C.dx,.int .i64 C.dy,.slice C.A C.n C.c] 52)):=(Keep.refl _ wr).alloc _
    have HS1:=hid (HS.out.keepF hkx)
    have BX:=hid (Blk.new wr 52 #[.int .i64 C.depth,.bool C.sg,.int .i64 C.dx,.int .i64 C.dy,.slice C.A C.n C.c])
    generalize wr.alloc (.cells #[.int .i64 C.depth,.bool C.sg,.int .i64 C.dx,.int .i64 C.dy,.slice C.A C.n C.c] 52)=w4 at*
    generalize wr.heap.size=gx at*
    clear hkx c0 c1 c2 c3 c4 m4 HS
    have x2:w4.cell? ⟨gx,2,none⟩=some (.int .i64 C.dx):=BX.out.cell 2
    have x3:w4.cell? ⟨gx,3,none⟩=some (.int .i64 C.dy):=BX.out.cell 3
    have hpo:=HTO.out.over (dx:=(C.dx:Int)) (dy:=(C.dy:Int)) (ax:=0) (ay:=0) ⟨by omega,by omega⟩ ⟨by omega,by omega⟩
    obtain⟨P,hP⟩: ∃P,t.part C.dx C.dy=P:=⟨_,rfl⟩
    have HPO:=hid (show P.ok 12 17 from by rw [← hP];exact hpo)
    have HPE:=hid hP
    have HTF:=hid (HTO.out.fits24 (by omega))
    clear hpo hP
    go_wp2_with ((refine wpList_load_row rfl _ _ rfl _ rfl _ _ _ _ HS1.out.bt Tryz.underlying63 rfl (by kernel_rfl) ?_))
    refine(part_any _ t C.dx C.dy HTF.out ⟨by omega,by omega⟩ ⟨by omega,by omega⟩).mono ?_
    rintro e w5 ⟨rfl,hk⟩
    rw [HPE.out]
    have HS2:=hid (HS1.out.keepF hk)
    have BX2:=hid (BX.out.keep hk id)
    clear hk x2 x3 HS1 BX
    go_upto_region 7 with(refine wpList_store_row rfl _ _ _ rfl w5.heap.size _ rfl rfl _ _ (Blk.new w5 _ _) (by kernel_rfl) rfl (by simp [Value.oneCell']) ?_)
    rw [World.setRow_alloc_new]
    have BP:=hid (show Blk (w5.alloc (.cells #[.int .i64 P.x0,.int .i64 P.y0,.int .i64 P.x1,.int .i64 P.y1] 63)) w5.heap.size 63 P.cells from Blk.new w5 _ _)
    have hkp:Keep (fun _=>False) w5 (w5.alloc (.cells #[.int .i64 P.x0,.int .i64 P.y0,.int .i64 P.x1,.int .i64 P.y1] 63)):=(Keep.refl _ w5).alloc _
    replace HS2:=hid (HS2.out.keepF hkp)
    replace BX2:=hid (BX2.out.keep hkp id)
    generalize w5.alloc (.cells #[.int .i64 P.x0,.int .i64 P.y0,.int .i64 P.x1,.int .i64 P.y1] 63)=w6 at*
    generalize w5.heap.size=gp at*
    clear hkp
    go_wp2_with fail
    go_loopw [7,11] (fun l v wr=> ∃(k n:Nat) (A:Option Addr) (c:Nat) (ls:List Spt),k≤p.lev+1∧v=.int .i64 k∧l=.slice A n c∧n≤i*486+k*81∧Hid (n≤i*lt+k*tt)∧Hid (SI w t m p cs ls A n c wr)∧Hid (ls.length=n)∧Hid (Blk wr gx 52 #[.int .i64 C.depth,.bool C.sg,.int .i64 C.dx,.int .i64 C.dy,.slice C.A C.n C.c])∧Hid (Blk wr gp 63 P.cells)) (fun _ v _=>p.lev+1-(intOf v).toNat)
    case atStart=>exact⟨0,n,A,c,ls,by omega,rfl,rfl,by omega,hid (by have:=HN.out;omega),HS2,HLS,BX2,BP⟩
    case round=>
     clear HS2 BX2 BP HLS HN
     obtain⟨k,n,A,c,ls,hk,rfl,rfl,hn81,HN,HS,HLS,BX,BP⟩:=hrel
     have p2c:wr.cell? ⟨w.heap.size+2,2,none⟩=some (.int .i64 p.lev):=by rw [HS.out.bp.cell,HPC.out];rfl
     by_cases hkl:k<p.lev+1
     · obtain⟨Q,hQ⟩: ∃Q,P.reso p.lev k=Q:=⟨_,rfl⟩
       have hpp:=p2_pos (p.lev-k)
       have HQO:=hid (show Q.ok 12 17 from by rw [← hQ];exact HPO.out.over ⟨by omega,by omega⟩ ⟨by omega,by omega⟩)
       have HQE:=hid hQ
       have HPF:=hid (HPO.out.fits24 (by omega))
       clear hQ hpp
       go_wp2_with ((refine wpList_load_row rfl _ _ rfl _ rfl _ _ _ _ BP.out Tryz.underlying63 rfl (by kernel_rfl) ?_))
       refine(res_any _ P p.lev k HPF.out (by omega) (by omega)).mono ?_
       rintro e w7 ⟨rfl,hk7⟩
       rw [show P.over (p2 (p.lev-k)) (p2 (p.lev-k)) 0 0=Q from HQE.out]
       have HS2:=hid (HS.out.keepF hk7)
       have BX2:=hid (BX.out.keep hk7 id)
       have BP2:=hid (BP.out.keep hk7 id)
       clear hk7 p2c HS BX BP
       go_upto_region 11 with(refine wpList_store_row rfl _ _ _ rfl w7.heap.size _ rfl rfl _ _ (Blk.new w7 _ _) (by kernel_rfl) rfl (by simp [Value.oneCell']) ?_)
       rw [World.setRow_alloc_new]
       have BQ:=hid (show Blk (w7.alloc (.cells #[.int .i64 Q.x0,.int .i64 Q.y0,.int .i64 Q.x1,.int .i64 Q.y1] 63)) w7.heap.size 63 Q.cells from Blk.new w7 _ _)
       have hkp:Keep (fun _=>False) w7 (w7.alloc (.cells #[.int .i64 Q.x0,.int .i64 Q.y0,.int .i64 Q.x1,.int .i64 Q.y1] 63)):=(Keep.refl _ w7).alloc _
       replace HS2:=hid (HS2.out.keepF hkp)
       replace BX2:=hid (BX2.out.keep hkp id)
       replace BP2:=hid (BP2.out.keep hkp id)
       generalize w7.alloc (.cells #[.int .i64 Q.x0,.int .i64 Q.y0,.int .i64 Q.x1,.int .i64 Q.y1] 63)=w8 at*
       generalize w7.heap.size=gq at*
       clear hkp
       have HQP:=hid (HQO.out.pos.mono (show(17:Int)≤16777216 by omega))
       have p5c:w8.cell? ⟨w.heap.size+2,5,none⟩=some (.int .i64 p.prec):=by rw [HS2.out.bp.cell,HPC.out];rfl
       go_wp2_with ((refine wpList_load_row rfl _ _ rfl _ rfl _ _ _ _ BQ.out Tryz.underlying63 rfl (by kernel_rfl) ?_))
       refine(prec_any _ Q p.prec HQP.out q7).mono ?_
       rintro e w9 ⟨rfl,hk9⟩
       have hpw:=prec_wide HQO.out q6
       obtain⟨W,hW⟩: ∃W:Nat,Q.preW p.prec=W:=⟨(Q.preW p.prec).toNat,by omega⟩
       obtain⟨H,hH⟩: ∃H:Nat,Q.preH p.prec=H:=⟨(Q.preH p.prec).toNat,by omega⟩
       rw [hW,hH]at hpw ⊢
       obtain⟨N,hN⟩: ∃N:Nat,W*H=N:=⟨_,rfl⟩
       have hNI:(W:Int)*(H:Int)=(N:Int):=by rw [← hN];push_cast;rfl
       have hNt:N≤tt:=by rw [← hN,←HTT.out];exact Nat.mul_le_mul (by omega) (by omega)
       have htt81:tt≤9*9:=by rw [← HTT.out];exact Nat.mul_le_mul hT9 hT9
       have hW0:0<N→0<W:=fun h=>by
        rcases Nat.eq_zero_or_pos W with h0|h0
        · rw [h0,Nat.zero_mul]at hN;omega
        · exact h0
       have HW0:=hid hW0
       have HOK:=hid (show∀(j:Nat) (a b:Int),j<N→SpotOk t cs p.lev p.prec ⟨k,i,j,a,b⟩from fun j a b hj=>⟨C,HM.out,by show k≤p.lev;omega,by
        show(j:Int)<((t.part C.dx C.dy).reso p.lev k).preW p.prec*((t.part C.dx C.dy).reso p.lev k).preH p.prec
        rw [HPE.out,HQE.out,hW,hH,hNI];omega⟩)
       have hw1:IntKind.i64.wrap (N:Int)=(N:Int):=IntWalk.i64_in _ (by omega)
       have hpp:=p2_wrap (d:=p.prec) (by omega)
       have n0:=p2_pos p.prec
       have n1:p2 p.prec≤32768:=p2_mono (d:=p.prec) (e:=15) q7
       have HS3:=hid (HS2.out.keepF hk9)
       have BX3:=hid (BX2.out.keep hk9 id)
       have BP3:=hid (BP2.out.keep hk9 id)
       have BQ3:=hid (BQ.out.keep hk9 id)
       clear hk9 p5c HS2 BX2 BP2 BQ hW hH hN hW0
       have p5c:w9.cell? ⟨w.heap.size+2,5,none⟩=some (.int .i64 p.prec):=by rw [HS3.out.bp.cell,HPC.out];rfl
       have p2c:w9.cell? ⟨w.heap.size+2,2,none⟩=some (.int .i64 p.lev):=by rw [HS3.out.bp.cell,HPC.out];rfl
       go_wp2_with fail
       rw [hpp]
       clear p5c p2c hpp
       generalize p2 p.prec=pq at*
       go_loopw [7,17] (fun l v wr=> ∃(j n:Nat) (A:Option Addr) (c:Nat) (ls:List Spt),j≤N∧v=.int .i64 j∧l=.slice A n c∧n≤i*486+k*81+j∧Hid (n≤i*lt+k*tt+j)∧Hid (SI w t m p cs ls A n c wr)∧Hid (ls.length=n)∧Hid (Blk wr gx 52 #[.int .i64 C.depth,.bool C.sg,.int .i64 C.dx,.int .i64 C.dy,.slice C.A C.n C.c])∧Hid (Blk wr gp 63 P.cells)∧Hid (Blk wr gq 63 Q.cells)) (fun _ v _=>N-(intOf v).toNat)
       case atStart=>exact⟨0,n,A,c,ls,by omega,rfl,rfl,by omega,hid (by have:=HN.out;omega),HS3,HLS,BX3,BP3,BQ3⟩
       case round=>
        clear HS3 BX3 BP3 BQ3 HLS HN
        obtain⟨j,n,A,c,ls,hj,rfl,rfl,hnj,HN,HS,HLS,BX,BP,BQ⟩:=hrel
        by_cases hjN:j<N
        · have hW0:=HW0.out (by omega)
          have hz0:(pq==0)=false:=by simp;omega
          have hz1: ¬pq=0:=by omega
          have hz2: ¬pq=-1:=by omega
          have hy0:((W:Int)==0)=false:=by simp;omega
          have hy1: ¬(W:Int)=0:=by omega
          have hy2: ¬(W:Int)=-1:=by omega
          have hy3: ¬W=0:=by omega
          have f0:wr.drew.cell? ⟨w.heap.size,0,none⟩=some (.int .i64 t.x0):=HS.out.bt.cell 0
          have f1:wr.drew.cell? ⟨w.heap.size,1,none⟩=some (.int .i64 t.y0):=HS.out.bt.cell 1
          have x2:wr.drew.cell? ⟨gx,2,none⟩=some (.int .i64 C.dx):=BX.out.cell 2
          have x3:wr.drew.cell? ⟨gx,3,none⟩=some (.int .i64 C.dy):=BX.out.cell 3
          have z0:wr.drew.cell? ⟨gq,0,none⟩=some (.int .i64 Q.x0):=BQ.out.cell 0
          have z1:wr.drew.cell? ⟨gq,1,none⟩=some (.int .i64 Q.y0):=BQ.out.cell 1
          have nf1:=hid (own_ne HS.out.own HS.out.bt (by decide))
          have nf2:=hid (own_ne HS.out.own BX.out (by decide))
          have nf3:=hid (own_ne HS.out.own BQ.out (by decide))
          have hb:w.heap.size≤wr.heap.size:=HS.out.keep.size
          have HOW:=hid (own_drew HS.out.own)
          go_wp2_with fail
          refine At.start (L:=#[false,false,false,false,false,false,false,false,false,false,false,false,false,false,false,false,false,false,false,false,false,false,false,false,false,false,false,false,false,false,false,false,false,false,false,false,false,false,false,false]) (by kernel_rfl) rfl ?_
          refine AtP 0 (some 72) ?_
          try simp only [NS]
          refine AtP 1 (some 73) ?_
          try simp only [NS]
          refine AtP 2 (some 74) ?_
          try simp only [NS]
          refine AtP 3 (some 75) ?_
          try simp only [NS]
          refine AtP 4 (some 76) ?_
          try simp only [NS]
          first|refine AtL 5 (some 77) Tryz.underlying3 ?_|refine AtR 5 (some 77) Tryz.underlying3 ?_
          try simp only [NS]
          refine AtP 6 (some 78) ?_
          try simp only [NS]
          refine AtP 7 (some 79) ?_
          try simp only [NS]
          first|refine AtL 8 (some 80) Tryz.underlying3 ?_|refine AtR 8 (some 80) Tryz.underlying3 ?_
          try simp only [NS]
          refine AtP 9 (some 81) ?_
          try simp only [NS]
          refine AtP 10 (some 82) ?_
          try simp only [NS]
          first|refine AtL 11 (some 83) Tryz.underlying3 ?_|refine AtR 11 (some 83) Tryz.underlying3 ?_
          try simp only [NS]
          refine AtP 12 (some 84) ?_
          try simp only [NS]
          refine AtP 13 (some 85) ?_
          try simp only [NS]
          refine AtP 14 (some 86) ?_
          try simp only [NS]
          refine AtP 15 (some 87) ?_
          try simp only [NS]
          refine AtP 16 (some 88) ?_
          try simp only [NS]
          refine AtP 17 (some 89) ?_
          try simp only [NS]
          refine AtP 18 (some 90) ?_
          try simp only [NS]
          refine At.max 19 (some 91) rfl rfl (by kernel_rfl) (fun _ _ _ h=>h) rfl rfl rfl rfl ?_
          try simp only [NS]
          refine AtP 20 (some 92) ?_
          try simp only [NS]
          first|refine AtL 21 (some 93) Tryz.underlying3 ?_|refine AtR 21 (some 93) Tryz.underlying3 ?_
          try simp only [NS]
          refine AtP 22 (some 94) ?_
          try simp only [NS]
          refine AtP 23 (some 95) ?_
          try simp only [NS]
          first|refine AtL 24 (some 96) Tryz.underlying3 ?_|refine AtR 24 (some 96) Tryz.underlying3 ?_
          try simp only [NS]
          refine AtP 25 (some 97) ?_
          try simp only [NS]
          refine AtP 26 (some 98) ?_
          try simp only [NS]
          first|refine AtL 27 (some 99) Tryz.underlying3 ?_|refine AtR 27 (some 99) Tryz.underlying3 ?_
          try simp only [NS]
          refine AtP 28 (some 100) ?_
          try simp only [NS]
          refine AtP 29 (some 101) ?_
          try simp only [NS]
          refine AtP 30 (some 102) ?_
          try simp only [NS]
          refine AtP 31 (some 103) ?_
          try simp only [NS]
          refine AtP 32 (some 104) ?_
          try simp only [NS]
          refine AtP 33 (some 105) ?_
          try simp only [NS]
          refine AtP 34 (some 106) ?_
          try simp only [NS]
          refine At.max 35 (some 107) rfl rfl (by kernel_rfl) (fun _ _ _ h=>h) rfl rfl rfl rfl ?_
          try simp only [NS]
          refine AtP 36 (some 108) ?_
          try simp only [NS]
          refine AtC 37 fun K hK=>?_
          go_simp
          skip
          refine hK _ _ all_nil ?_
          clear hK K
          try simp only [NS]
          refine AtC 38 fun K hK=>?_
          refine wp_append_rows wr.drew (.tmp 72) (.tmp 109) 122 rfl w.heap.size 125 i0 _ 5 40 Tryz.underlying122 hi0 ez0 ez1 ez2 rfl (by omega) HOW.out rfl (Spt.cells ⟨k,i,j,_,_⟩).toArray rfl rfl (fun v hv=>Spt.one ⟨k,i,j,_,_⟩ v hv) (by simp only [maxLen];omega) (by omega) hb ?_
          intro A6 c6 w6 hown6 hk6
          show K (Act.put _ (some 110) _) _
          have HN6:=hid (HS.out.next _ (HOK.out j _ _ hjN) (by rw [fl_snoc];exact hown6) hk6.undrew)
          have HL6:=hid (show∀s:Spt,(ls++[s]).length=n+1 from fun s=>by rw [List.length_append,HLS.out];rfl)
          have BX6:=hid (BX.out.keep hk6.undrew nf2.out)
          have BP6:=hid (BP.out.keep hk6.undrew (own_ne HS.out.own BP.out (by decide)))
          have BQ6:=hid (BQ.out.keep hk6.undrew nf3.out)
          clear hown6
          refine hK _ _ all_nil ?_
          clear hK K
          try simp only [NS]
          refine AtP 39 (some 7) ?_
          try simp only [NS]
          refine At.done (by kernel_rfl) ?_
          go_wp2_with fail
          go_roundw
          case rel=>exact⟨j+1,n+1,A6,c6,_,by omega,by go_num,rfl,by omega,hid (by have:=HN.out;omega),HN6,hid (HL6.out _),BX6,BP6,BQ6⟩
          case measure=>simp [intOf]<;>omega
        · obtain rfl:j=N:=by omega
          have HN2:=hid (show n≤i*lt+(k+1)*tt from by have h1:=HN.out;rw [Nat.add_mul k,Nat.one_mul];omega)
          go_wp2_with fail
          go_roundw
          case rel=>exact⟨k+1,n,A,c,ls,by omega,by go_num,rfl,by omega,HN2,HS,HLS,BX,BP⟩
          case measure=>simp [intOf]<;>omega
     · obtain rfl:k=p.lev+1:=by omega
       have HN2:=hid (show n≤(i+1)*lt from by have h1:=HN.out;have h2:=HLT.out;rw [Nat.add_mul,Nat.one_mul];omega)
       go_wp2_with fail
       go_roundw
       case rel=>exact⟨i+1,n,A,c,ls,by omega,by go_num,rfl,by omega,HN2,HS,HLS⟩
       case measure=>simp [intOf]<;>omega
  · obtain rfl:i=m.n:=by omega
    go_wp2_with fail
    go_ret
    exact HD.out _ _ _ _ _ HS.out HLS.out HN.out
end Go.Proofs.YthfogcgdijmaoaaGreat
