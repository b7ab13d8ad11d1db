/-
  Part 18 of the proof: BlocksW Spots. Conditions: those of the statements.
-/
import Derived.Test.YthfogcgdijmaoaaGreatW14
import Derived.Test.YthfogcgdijmaoaaGreatW15
import Derived.Deep.DeepCutAuto
set_option maxRecDepth 100000
set_option maxHeartbeats 16000000
set_option linter.unusedVariables false
set_option linter.unusedSimpArgs false
namespace Go.Proofs.YthfogcgdijmaoaaGreat
open Go.RowKit
structure BL (w0:World) (band res:Rc) (p:Pm) (w:World):Prop where
 b:Blk w w0.heap.size 63 band.cells
 r:Blk w (w0.heap.size+1) 63 res.cells
 p:Blk w (w0.heap.size+2) 31 p.cells
 keep:Keep (fun _=>False) w0 w
theorem BL.next {w0 w w':World} {band res:Rc} {p:Pm} (h:BL w0 band res p w) (hk:Keep (fun _=>False) w w'):BL w0 band res p w':=
 ⟨h.b.keep hk (fun h=>h),h.r.keep hk (fun h=>h),h.p.keep hk (fun h=>h),h.keep.trans hk (fun _ _ h=>h)⟩
def BlocksP (w:World) (band:Rc) (prec:Nat) (e:Ending) (w':World):Prop:=
 ∃A c rs W H,e=.returned (.tuple #[.slice A (W*H) c,.int .i64 (W:Nat)])∧RdS w' A (W*H) 4 (rcs rs)∧rs.length=W*H∧(∀ q∈rs,q.inn band)∧W≤blkT prec∧H≤blkT prec∧(W=0→H=0)∧(∀ ad,A=some ad→w.heap.size≤ad.block)∧Keep (fun _=>False) w w'
structure BI (w0:World) (band res:Rc) (p:Pm) (P:Rc) (g B:Nat) (rs:List Rc) (A:Option Addr) (n c:Nat) (w:World):Prop where
 bl:BL w0 band res p w
 gb:Blk w g 63 P.cells
 own:w.ownsRow B 63 4 (.slice A n c) n (rcs rs)
 hg:g<B
 h0:w0.heap.size+2<B
 hB:B≤w.heap.size
 ok: ∀q∈rs,q.inn band
theorem BI.next {w0 w w':World} {band res:Rc} {p:Pm} {P:Rc} {g B:Nat} {rs:List Rc} {A A':Option Addr} {n c c':Nat} (h:BI w0 band res p P g B rs A n c w) (r:Rc) (hr:r.inn band) (ho:w'.ownsRow B 63 4 (.slice A' (n+1) c') (n+1) (rcs (rs++[r])))
 (hk:Keep (fun i=>(Value.slice A n c).ownBlock=some i) w w'):BI w0 band res p P g B (rs++[r]) A' (n+1) c' w':=by
 have hB: ∀k,k<B→ ¬(Value.slice A n c).ownBlock=some k:=fun k hk e=>by have:=(h.own.lt k e).1;omega
 have h1:=h.h0
 exact⟨⟨h.bl.b.keep hk (hB _ (by omega)),h.bl.r.keep hk (hB _ (by omega)),h.bl.p.keep hk (hB _ (by omega)),keep_app h.bl.keep h.own (by omega) hk⟩,h.gb.keep hk (hB _ h.hg),ho,h.hg,h.h0,Nat.le_trans h.hB hk.size,fun q hq=>by
  rcases List.mem_append.1 hq with h1|h1
  · exact h.ok q h1
  · rw [List.mem_singleton]at h1
    subst h1
    exact hr⟩
theorem BI.aside {w0 w w':World} {band res:Rc} {p:Pm} {P:Rc} {g B:Nat} {rs:List Rc} {A:Option Addr} {n c:Nat} (h:BI w0 band res p P g B rs A n c w) (hk:Keep (fun _=>False) w w'):BI w0 band res p P g B rs A n c w':=
 ⟨h.bl.next hk,h.gb.keep hk (fun h=>h),own_keepF h.own hk,h.hg,h.h0,Nat.le_trans h.hB hk.size,h.ok⟩
theorem blk_test {x1 X a0:Int} {W i:Nat} (hX:0<X) (hW:ceilI x1 X-a0=W):(i<W→(a0+i)*X<x1)∧(W≤i→x1≤(a0+i)*X):=by
 have hs:=ceilI_spec (a:=x1) hX
 constructor
 · intro h
   have:X*(a0+i)≤X*(ceilI x1 X-1):=Int.mul_le_mul_of_nonneg_left (by omega) (by omega)
   rw [Int.mul_comm]
   omega
 · intro h
   have:X*ceilI x1 X≤X*(a0+i):=Int.mul_le_mul_of_nonneg_left (by omega) (by omega)
   rw [Int.mul_comm]
   omega
theorem area_ne {r:Rc} (h:r.area≠0):r.x0<r.x1∧r.y0<r.y1:=by
 unfold Rc.area at h
 constructor
 · rcases Int.lt_or_le r.x0 r.x1 with h1|h1
   · exact h1
   · rw [show max (r.x1-r.x0) 0=0 by omega,Int.zero_mul]at h;exact absurd rfl h
 · rcases Int.lt_or_le r.y0 r.y1 with h1|h1
   · exact h1
   · rw [show max (r.y1-r.y0) 0=0 by omega,Int.mul_zero]at h;exact absurd rfl h
theorem blocks_any (w:World) (band res:Rc) (p:Pm) (r k:Nat) (hb:band.ok 12 17) (hr:res.ok 12 17) (hp1:1≤p.prec) (hp15:p.prec≤15) (hw2:2≤p.cbw) (hw6:p.cbw≤6) (hh2:2≤p.cbh) (hh6:p.cbh≤6) (hk:(k:Int)<res.preW p.prec*res.preH p.prec):
 Calls Tryz.prog 54 #[.agg band.cells,.agg res.cells,.agg p.cells,.int .i64 r,.int .i64 k] w (BlocksP w band p.prec):=by
 obtain⟨i0,hi0,hz0,hz1,hz2⟩:=info_parts info_rect
 have PR:=fun w=>prec_any w res p.prec (hr.pos.mono (by omega)) hp15
 have hpw:=prec_wide hr hp1
 generalize hP:res.preW p.prec=pw at*
 generalize hQ:res.preH p.prec=ph at*
 have HPW:=hid hP
 clear hP hQ
 have HB0:Hid (BL w band res p (((w.alloc (.cells band.cells 63)).alloc (.cells res.cells 63)).alloc (.cells p.cells 31))):=hid
  ⟨((Blk.new w _ _).alloc _).alloc _,(Blk.new1 w _ _ _).alloc _,Blk.new2 w _ _ _ _,(((Keep.refl _ w).alloc _).alloc _).alloc _⟩
 go_enter Tryz.func54,Tryz.ntmps54
 go_upto_region 1 with fail
 generalize ((w.alloc (.cells band.cells 63)).alloc (.cells res.cells 63)).alloc (.cells p.cells 31)=w1 at*
 have HP:=hid (show p.cells=#[.int .i64 p.tx,.int .i64 p.ty,.int .i64 p.lev,.int .i64 p.cbw,.int .i64 p.cbh,.int .i64 p.prec,.int .i64 p.style,.int .i64 p.order,.int .i64 p.lay,.bool p.rct,.bool p.sop,.bool p.eph]from rfl)
 have p5:w1.cell? ⟨w.heap.size+2,5,none⟩=some (.int .i64 p.prec):=by rw [HB0.out.p.cell,HP.out];rfl
 go_wp2_with ((refine wpList_load_row rfl _ _ rfl _ rfl _ _ _ _ HB0.out.r Tryz.underlying63 rfl (by kernel_rfl) ?_))
 refine(PR _).mono ?_
 rintro e w2 ⟨rfl,hk2⟩
 have HB2:=hid (HB0.out.next hk2)
 clear hk2 HB0 p5 PR
 have p5:w2.cell? ⟨w.heap.size+2,5,none⟩=some (.int .i64 p.prec):=by rw [HB2.out.p.cell,HP.out];rfl
 have r0:w2.cell? ⟨w.heap.size+1,0,none⟩=some (.int .i64 res.x0):=HB2.out.r.cell 0
 have r1:w2.cell? ⟨w.heap.size+1,1,none⟩=some (.int .i64 res.y0):=HB2.out.r.cell 1
 have hpt:precT p.prec≤9:=by unfold precT;repeat(first|split|omega)
 have hk81:pw*ph≤9*9:=Int.mul_le_mul (by omega) (by omega) (by omega) (by omega)
 have hpw0:0<pw:=by
  rcases Int.lt_or_le 0 pw with h|h
  · exact h
  · rw [show pw=0 by omega,Int.zero_mul]at hk;omega
 obtain⟨u1,g1,q1,d1,b1⟩:=mul_in (a:=pw) (b:=ph) (B:=81) (by omega) (by omega) hk81 (by omega)
 rw [q1]at hk hk81
 have G1:=hid g1
 clear q1 hk81 g1
 have n0:=p2_pos p.prec
 have n1:p2 p.prec≤32768:=p2_mono (d:=p.prec) (e:=15) hp15
 obtain⟨a1,a2,a3,a4,a5,a6,a7,a8⟩:=hr
 have l3:=div_lim a1 n0
 have l4:=div_lim a5 n0
 have t1:res.x0.tdiv (p2 p.prec)=res.x0/p2 p.prec:=Int.tdiv_eq_ediv_of_nonneg a1
 have t2:res.y0.tdiv (p2 p.prec)=res.y0/p2 p.prec:=Int.tdiv_eq_ediv_of_nonneg a5
 have t3:(k:Int).tdiv pw=k/pw:=Int.tdiv_eq_ediv_of_nonneg (by omega)
 have t4:(k:Int).tmod pw=k%pw:=Int.tmod_eq_emod_of_nonneg (by omega)
 have l5:=div_lim (a:=k) (by omega) hpw0
 have l6:=Int.emod_nonneg (k:Int) (show pw≠0 by omega)
 have l7:=Int.emod_lt_of_pos (k:Int) hpw0
 generalize res.x0/p2 p.prec=qx at*
 generalize res.y0/p2 p.prec=qy at*
 generalize (k:Int)/pw=kd at*
 generalize (k:Int)%pw=km at*
 have hz0:(p2 p.prec==0)=false:=by simp;omega
 have hz1: ¬p2 p.prec=0:=by omega
 have hz2: ¬p2 p.prec=-1:=by omega
 have hy0:(pw==0)=false:=by simp;omega
 have hy1: ¬pw=0:=by omega
 have hy2: ¬pw=-1:=by omega
 have hpp:=p2_wrap (d:=p.prec) (by omega)
 have g1:=G1.out
 go_wp2_with fail
 go_quiet (fail)
 generalize hw9:w2.drewN _=w9 at*
 have HB9:Hid (BL w band res p w9):=hid (HB2.out.next (by rw [← hw9];exact(Keep.refl _ w2).drewN _))
 clear hw9 HB2 p5 r0 r1 hz0 hz1 hz2 hy0 hy1 hy2 hpp g1 t1 t2 t3 t4
 have p5:w9.cell? ⟨w.heap.size+2,5,none⟩=some (.int .i64 p.prec):=by rw [HB9.out.p.cell,HP.out];rfl
 have p3:w9.cell? ⟨w.heap.size+2,3,none⟩=some (.int .i64 p.cbw):=by rw [HB9.out.p.cell,HP.out];rfl
 have p4:w9.cell? ⟨w.heap.size+2,4,none⟩=some (.int .i64 p.cbh):=by rw [HB9.out.p.cell,HP.out];rfl
 go_upto_if 64 with fail
 go_cut [17] (fun v wx=> ∃d:Nat,(d=p.prec∨d+1=p.prec)∧v=.int .i64 d∧wx=w9)
 case first=>
  go_wp2_with fail
  · go_meet
    exact⟨p.prec-1,by omega,by congr 1;omega,rfl⟩
  · go_meet
    exact⟨p.prec,by omega,rfl,rfl⟩
 case rest=>
  obtain⟨d,hd,rfl,rfl⟩:=hcut
  have m0:=p2_pos d
  have m1:p2 d≤32768:=p2_mono (d:=d) (e:=15) (by omega)
  have hci0:0≤qx+km:=by omega
  have hi1:qx+km≤100:=by omega
  have hj0:0≤qy+kd:=by omega
  have hj1:qy+kd≤100:=by omega
  generalize qx+km=ci at*
  generalize qy+kd=cj at*
  obtain⟨u1,g1,q1,d1,b1⟩:=mul_in (a:=ci) (b:=p2 d) (B:=100*32768) (by omega) (by omega) (Int.mul_le_mul (by omega) (by omega) (by omega) (by omega)) (by omega)
  obtain⟨u2,g2,q2,d2,b2⟩:=mul_in (a:=cj) (b:=p2 d) (B:=100*32768) (by omega) (by omega) (Int.mul_le_mul (by omega) (by omega) (by omega) (by omega)) (by omega)
  obtain⟨u3,g3,q3,d3,b3⟩:=mul_in (a:=ci+1) (b:=p2 d) (B:=101*32768) (by omega) (by omega) (Int.mul_le_mul (by omega) (by omega) (by omega) (by omega)) (by omega)
  obtain⟨u4,g4,q4,d4,b4⟩:=mul_in (a:=cj+1) (b:=p2 d) (B:=101*32768) (by omega) (by omega) (Int.mul_le_mul (by omega) (by omega) (by omega) (by omega)) (by omega)
  have hpp:=p2_wrap (d:=d) (by omega)
  go_wp2_with (refine wpList_load_row rfl _ _ rfl _ rfl _ _ _ _ HB9.out.b Tryz.underlying63 rfl (by kernel_rfl) ?_)
  refine(meet_any _ band ⟨u1,u2,u3,u4⟩).mono ?_
  rintro e w10 ⟨rfl,hk⟩
  have HB10:=hid (HB9.out.next hk)
  have hbo:=hb
  obtain⟨z1,z2,z3,z4,z5,z6,z7,z8⟩:=hb
  have hm:u3=u1+p2 d∧u4=u2+p2 d:=by rw [← q1,←q2,←q3,←q4,Int.add_mul,Int.add_mul,Int.one_mul];exact⟨rfl,rfl⟩
  have HI:=hid q1
  have HJ:=hid q2
  clear hk HB9 p5 p3 p4 hpp g1 g2 g3 g4 q1 q2 q3 q4
  have HPx:=hid (show(band.meet ⟨u1,u2,u3,u4⟩).x0=max band.x0 u1∧(band.meet ⟨u1,u2,u3,u4⟩).y0=max band.y0 u2∧(band.meet ⟨u1,u2,u3,u4⟩).x1=min band.x1 u3∧(band.meet ⟨u1,u2,u3,u4⟩).y1=min band.y1 u4 from⟨rfl,rfl,rfl,rfl⟩)
  generalize band.meet ⟨u1,u2,u3,u4⟩=P at*
  go_upto_region 11 with(refine wpList_store_row rfl _ _ _ rfl w10.heap.size _ rfl rfl _ _ (Blk.new w10 _ _) (by kernel_rfl) rfl (by simp [Value.oneCell']) ?_)
  have hg0:w.heap.size≤w10.heap.size:=HB10.out.keep.size' (Nat.le_refl _)
  rw [World.setRow_alloc_new]
  have HG:=hid (show Blk (w10.alloc (.cells #[.int .i64 P.x0,.int .i64 P.y0,.int .i64 P.x1,.int .i64 P.y1] 63)) w10.heap.size 63 P.cells from Blk.new w10 _ _)
  replace HB10:=hid (HB10.out.next ((Keep.refl _ w10).alloc (.cells #[.int .i64 P.x0,.int .i64 P.y0,.int .i64 P.x1,.int .i64 P.y1] 63)))
  generalize w10.alloc (.cells #[.int .i64 P.x0,.int .i64 P.y0,.int .i64 P.x1,.int .i64 P.y1] 63)=w11 at*
  generalize w10.heap.size=g3 at*
  go_wp2_with (refine wpList_load_row rfl _ _ rfl _ rfl _ _ _ _ HG.out Tryz.underlying63 rfl (by kernel_rfl) ?_)
  refine(area_any _ P ?_).mono ?_
  · obtain⟨c1,c2,c3,c4⟩:=HPx.out
    exact⟨⟨by omega,by omega⟩,⟨by omega,by omega⟩,⟨by omega,by omega⟩,⟨by omega,by omega⟩⟩
  rintro e w12 ⟨rfl,hk⟩
  replace HB10:=hid (HB10.out.next hk)
  replace HG:=hid (HG.out.keep hk (fun h=>h))
  clear hk
  by_cases ha:P.area=0
  · rw [ha]
    have HZ:Hid (BlocksP w band p.prec (.returned (.tuple #[.slice none 0 0,.int .i64 0])) w12):=hid ⟨none,0,[],0,0,rfl,⟨rfl,fun h=>absurd h (by omega)⟩,rfl,fun _ h=>(by cases h),by omega,by omega,fun _=>rfl,fun _ h=>(by cases h),HB10.out.keep⟩
    go_wp2_with fail
    exact bodyPost_ret (v:=.tuple #[_,_]) (by simp [results,Tryz.results54,go_sem]<;>exact⟨rfl,rfl⟩) rfl HZ.out
  · have hza:(P.area==0)=false:=by simpa using ha
    obtain⟨hx,hy⟩:=area_ne ha
    clear ha
    generalize P.area=aa at*
    have p3:w12.cell? ⟨w.heap.size+2,3,none⟩=some (.int .i64 p.cbw):=by rw [HB10.out.p.cell,HP.out];rfl
    have p4:w12.cell? ⟨w.heap.size+2,4,none⟩=some (.int .i64 p.cbh):=by rw [HB10.out.p.cell,HP.out];rfl
    go_wp2_with fail
    obtain⟨cx,hcx⟩: ∃cx:Nat,min p.cbw d=cx:=⟨_,rfl⟩
    obtain⟨cy,hcy⟩: ∃cy:Nat,min p.cbh d=cy:=⟨_,rfl⟩
    have ex:min (p.cbw:Int) (d:Int)=(cx:Int):=by omega
    have ey:min (p.cbh:Int) (d:Int)=(cy:Int):=by omega
    have hpx:=p2_wrap (d:=cx) (by omega)
    have hpy:=p2_wrap (d:=cy) (by omega)
    refine At.start (L:=#[false,false,false,false,false,false,false,false,false,false,false,false,false,false]) (by kernel_rfl) rfl ?_
    refine AtP 0 90 ?_
    refine AtL 1 91 Tryz.underlying3 ?_
    refine AtP 2 92 ?_
    refine At.min 3 (some 93) rfl rfl (by kernel_rfl) (fun _ _ _ h=>h) rfl rfl rfl rfl ?_
    try simp only [NS]
    refine AtP 4 94 ?_
    refine AtP 5 95 ?_
    refine AtP 6 96 ?_
    refine AtL 7 97 Tryz.underlying3 ?_
    refine AtP 8 98 ?_
    refine At.min 9 (some 99) rfl rfl (by kernel_rfl) (fun _ _ _ h=>h) rfl rfl rfl rfl ?_
    try simp only [NS]
    refine AtP 10 100 ?_
    refine AtP 11 101 ?_
    refine AtP 12 19 ?_
    refine AtP 13 20 ?_
    refine At.done (by kernel_rfl) ?_
    have hsh: ∀c:Nat,c≤16→IntKind.i64.wrap (2^min (IntKind.u64.wrap (c:Int)).toNat 64)=p2 c:=fun c hc=>by
     rw [IntWalk.u64_in _ (by omega),show min (Int.toNat (c:Int)) 64=c by omega]
     have h16:=p2_16 hc
     have h0:=p2_pos c
     exact IntWalk.i64_in (p2 c) (by omega)
    rw [hsh cx (by omega),hsh cy (by omega)]
    clear hsh
    replace HB10:=hid (HB10.out.next (Keep.refl _ w12).drew)
    replace HG:=hid HG.out.drew
    clear p3 p4 ex ey hpx hpy
    generalize w12.drew=w13 at*
    have X0:=p2_pos cx
    have Y0:=p2_pos cy
    have X1:p2 cx≤64:=p2_mono (e:=6) (by omega)
    have Y1:p2 cy≤64:=p2_mono (e:=6) (by omega)
    obtain⟨c1,c2,c3,c4⟩:=HPx.out
    have bwx:=blk_wide (i:=ci) (x0:=P.x0) (x1:=P.x1) (q:=d) (c:=cx) (prec:=p.prec) (by omega) (by omega) hd hp15 (by rw [HI.out];omega) (by rw [Int.add_mul,HI.out,Int.one_mul];omega) (by omega) hx (by omega)
    have bwy:=blk_wide (i:=cj) (x0:=P.y0) (x1:=P.y1) (q:=d) (c:=cy) (prec:=p.prec) (by omega) (by omega) hd hp15 (by rw [HJ.out];omega) (by rw [Int.add_mul,HJ.out,Int.one_mul];omega) (by omega) hy (by omega)
    have hPs:P.sub band:=⟨by omega,by omega,by omega,by omega,by omega,by omega⟩
    have hP0:0≤P.x0∧P.x1≤17∧0≤P.y0∧P.y1≤17:=⟨by omega,by omega,by omega,by omega⟩
    have d1:=div_lim (a:=P.x0) (by omega) X0
    have d2:=div_lim (a:=P.y0) (by omega) Y0
    have t1:P.x0.tdiv (p2 cx)=P.x0/p2 cx:=Int.tdiv_eq_ediv_of_nonneg (by omega)
    have t2:P.y0.tdiv (p2 cy)=P.y0/p2 cy:=Int.tdiv_eq_ediv_of_nonneg (by omega)
    have hbt:blkT p.prec≤5:=by unfold blkT;repeat(first|split|omega)
    have HSB:=hid (fun (a b:Int) (h1:P.x0/p2 cx≤a) (h2:a*p2 cx<P.x1) (h3:P.y0/p2 cy≤b) (h4:b*p2 cy<P.y1)=>blk_sub (part:=P) X0 Y0 h1 h2 h3 h4 hx hy)
    clear HPx c1 c2 c3 c4 HI HJ hd hcx hcy m0 m1 hm z1 z2 z3 z4 z5 z6 z7 z8 a1 a2 a3 a4 a5 a6 a7 a8 b1 b2 b3 b4 d3 d4
    generalize P.x0/p2 cx=a0 at*
    generalize P.y0/p2 cy=b0 at*
    generalize p2 cx=X at*
    generalize p2 cy=Y at*
    obtain⟨W,hW⟩: ∃W:Nat,ceilI P.x1 X-a0=W:=⟨(ceilI P.x1 X-a0).toNat,by omega⟩
    obtain⟨H,hH⟩: ∃H:Nat,ceilI P.y1 Y-b0=H:=⟨(ceilI P.y1 Y-b0).toNat,by omega⟩
    rw [hW]at bwx
    rw [hH]at bwy
    have TX:=hid (fun i:Nat=>blk_test (i:=i) X0 hW)
    have TY:=hid (fun i:Nat=>blk_test (i:=i) Y0 hH)
    clear hW hH
    have r1:w13.cell? ⟨g3,1,none⟩=some (.int .i64 P.y0):=HG.out.cell 1
    have hX1:(X==0)=false:=by simp;omega
    have hX2: ¬X=0:=by omega
    have hX3: ¬X=-1:=by omega
    have hY1:(Y==0)=false:=by simp;omega
    have hY2: ¬Y=0:=by omega
    have hY3: ¬Y=-1:=by omega
    have v1:IntKind.i64.wrap a0=a0:=IntWalk.i64_in _ (by omega)
    have v2:IntKind.i64.wrap b0=b0:=IntWalk.i64_in _ (by omega)
    have HBI0:Hid (BI w band res p P g3 w13.heap.size [] none 0 0 w13):=hid ⟨HB10.out,HG.out,World.ownsRow_nil _ _ _ _,HG.out.lt,HB10.out.p.lt,Nat.le_refl _,fun _ h=>by cases h⟩
    clear HB10 HG
    generalize w13.heap.size=B at*
    go_wp2_with fail
    go_loopw [21,22,23] (fun l u v wr=> ∃(j:Nat) (A:Option Addr) (c:Nat) (rs:List Rc) (k:Nat),j≤H∧v=.int .i64 (b0+j)∧l=.slice A (W*j) c∧u=.int .i64 k∧Hid (0<j→k=W)∧Hid (BI w band res p P g3 B rs A (W*j) c wr)∧Hid (rs.length=W*j)) (fun _ _ v _=>(b0+H-intOf v).toNat)
    case atStart=>exact⟨0,none,0,[],0,by omega,by simp,rfl,rfl,hid (fun h=>by omega),HBI0,hid rfl⟩
    case round=>
     obtain⟨j,A,c,rs,k,hj,rfl,rfl,rfl,HK,HT,HL⟩:=hrel
     clear HBI0 r1
     have r0:wr.cell? ⟨g3,0,none⟩=some (.int .i64 P.x0):=HT.out.gb.cell 0
     have r3:wr.cell? ⟨g3,3,none⟩=some (.int .i64 P.y1):=HT.out.gb.cell 3
     have ty:=TY.out j
     obtain⟨e2,g2,q2,f2,k2⟩:=mul_in (a:=b0+j) (b:=Y) (B:=40*64) (by omega) (by omega) (Int.mul_le_mul (by omega) (by omega) (by omega) (by omega)) (by omega)
     rw [q2]at ty
     by_cases hjn:j<H
     · have hlt:=ty.1 hjn
       clear ty
       go_wp2_with fail
       have HT0:Hid (BI w band res p P g3 B rs A (W*j+0) c wr):=HT
       have HL0:Hid (rs.length=W*j+0):=HL
       clear HT HL r0 r3
       go_loopw [21,22,24] (fun l u v wr=> ∃(i:Nat) (A:Option Addr) (c:Nat) (rs:List Rc),i≤W∧v=.int .i64 (a0+i)∧l=.slice A (W*j+i) c∧u=.int .i64 i∧Hid (BI w band res p P g3 B rs A (W*j+i) c wr)∧Hid (rs.length=W*j+i)) (fun _ _ v _=>(a0+W-intOf v).toNat)
       case atStart=>exact⟨0,A,c,rs,by omega,by simp,rfl,rfl,HT0,HL0⟩
       case round=>
        clear HT0 HL0
        obtain⟨i,A,c,rs,hi,rfl,rfl,rfl,HT,HL⟩:=hrel
        have r2:wr.cell? ⟨g3,2,none⟩=some (.int .i64 P.x1):=HT.out.gb.cell 2
        have tx:=TX.out i
        obtain⟨e1,g1,q1,f1,k1⟩:=mul_in (a:=a0+i) (b:=X) (B:=40*64) (by omega) (by omega) (Int.mul_le_mul (by omega) (by omega) (by omega) (by omega)) (by omega)
        rw [q1]at tx
        by_cases hin:i<W
        · have hlt2:=tx.1 hin
          clear tx
          obtain⟨e3,g3',q3,f3,k3⟩:=mul_in (a:=a0+i+1) (b:=X) (B:=41*64) (by omega) (by omega) (Int.mul_le_mul (by omega) (by omega) (by omega) (by omega)) (by omega)
          obtain⟨e4,g4,q4,f4,k4⟩:=mul_in (a:=b0+j+1) (b:=Y) (B:=41*64) (by omega) (by omega) (Int.mul_le_mul (by omega) (by omega) (by omega) (by omega)) (by omega)
          have hsb:=HSB.out (a0+i) (b0+j) (by omega) (by rw [q1];exact hlt2) (by omega) (by rw [q2];exact hlt)
          rw [q1,q2,q3,q4]at hsb
          have HS:=hid hsb
          clear q1 q3 q4 hsb
          have Q2:=hid q2
          clear q2
          go_wp2_with (refine wpList_load_row rfl _ _ rfl _ rfl _ _ _ _ HT.out.gb Tryz.underlying63 rfl (by kernel_rfl) ?_)
          refine(meet_any _ P ⟨e1,e2,e3,e4⟩).mono ?_
          rintro e w5 ⟨rfl,hk⟩
          have HT5:=hid (HT.out.aside hk)
          clear hk HT r2
          generalize P.meet ⟨e1,e2,e3,e4⟩=M at*
          obtain⟨s0,s1,s2,s3⟩:=M
          simp only [Rc.val]
          have hww:W*j≤5*5:=Nat.mul_le_mul (by omega) (by omega)
          have hb5:=HT5.out.hB
          go_wp2_with (
           at_builtin
           go_must (refine wpList_append_rows w5 rfl (.tmp 126) (.tmp 144) 59 rfl B 63 i0 _ 4 32 Tryz.underlying59 hi0 hz0 hz1 hz2 rfl (by omega) HT5.out.own rfl _ rfl rfl (one4 _ _ _ _) (by simp only [maxLen];omega) (by omega) hb5 ?_)
           intro A6 c6 w6 hown6 hk6
           have HN6:=hid (HT5.out.next ⟨s0,s1,s2,s3⟩ (HS.out.trans hPs) (by rw [rcs_snoc];exact hown6) hk6)
           have HL6:=hid (show(rs++[(⟨s0,s1,s2,s3⟩:Rc)]).length=W*j+i+1 by rw [List.length_append,HL.out];rfl)
           clear hown6 hk6)
          go_roundw
          case rel=>(repeat apply Exists.intro);refine⟨?_,rfl⟩;exact⟨i+1,A6,c6,_,by omega,by congr 1;omega,rfl,rfl,HN6,HL6⟩
          case measure=>simp [intOf];omega
        · have hge:=tx.2 (by omega)
          clear tx
          obtain rfl:i=W:=by omega
          have HT1:Hid (BI w band res p P g3 B rs A (i*(j+1)) c wr):=HT
          have HL1:Hid (rs.length=i*(j+1)):=HL
          have Q2:=hid q2
          clear q2 q1
          go_wp2_with fail
          go_roundw
          case rel=>exact⟨j+1,A,c,rs,i,by omega,by congr 1;omega,rfl,rfl,hid (fun _=>rfl),HT1,HL1⟩
          case measure=>simp [intOf];omega
     · have hge:=ty.2 (by omega)
       obtain rfl:j=H:=by omega
       have hkW:=HK.out (by omega)
       subst hkW
       have HZ:Hid (BlocksP w band p.prec (.returned (.tuple #[.slice A (k*j) c,.int .i64 k])) wr):=hid ⟨A,c,rs,k,j,rfl,RdS.of_own HT.out.own,HL.out,HT.out.ok,by omega,by omega,fun h=>by omega,fun ad e=>by have:=(HT.out.own.lt _ (show Value.ownBlock _=some ad.block by rw [e];rfl)).1;have:=HT.out.h0;omega,HT.out.bl.keep⟩
       clear ty q2
       go_wp2_with fail
       exact bodyPost_ret (v:=.tuple #[_,_]) (by simp [results,Tryz.results54,go_sem]<;>exact⟨rfl,rfl⟩) rfl HZ.out
theorem Spt.len (s:Spt):s.cells.length=5:=rfl
theorem Spt.one (s:Spt): ∀v∈s.cells,v.oneCell'=true:=by
 intro v hv
 unfold Spt.cells at hv
 simp at hv
 rcases hv with rfl|rfl|rfl|rfl|rfl<;>rfl
theorem info_spot :(Tryz.prog.info? 125).map (fun i=>(i.zero,i.size,i.bytes))=some (some (.agg #[.int .i64 0,.int .i64 0,.int .i64 0,.int .i64 0,.int .i64 0]),5,40):=by kernel_rfl
def Rc.reso (r:Rc) (L k:Nat):Rc:=r.over (p2 (L-k)) (p2 (L-k)) 0 0
def SpotOk (t:Rc) (cs:List Cm) (L q:Nat) (s:Spt):Prop:= ∃C,cs[s.comp]? =some C∧s.res≤L∧(s.prec:Int)<(((t.part C.dx C.dy).reso L s.res).preW q)*(((t.part C.dx C.dy).reso L s.res).preH q)
structure SI (w0:World) (t:Rc) (m:Im) (p:Pm) (cs:List Cm) (ls:List Spt) (A:Option Addr) (n c:Nat) (w:World):Prop where
 bt:Blk w w0.heap.size 63 t.cells
 bm:Blk w (w0.heap.size+1) 29 m.cells
 bp:Blk w (w0.heap.size+2) 31 p.cells
 own:w.ownsRow w0.heap.size 125 5 (.slice A n c) n (fl Spt.cells ls)
 keep:Keep (fun _=>False) w0 w
 ok: ∀s∈ls,SpotOk t cs p.lev p.prec s
section
variable {w0 w w':World} {t:Rc} {m:Im} {p:Pm} {cs:List Cm} {ls:List Spt} {A A':Option Addr} {n c c':Nat}
theorem SI.keepF (h:SI w0 t m p cs ls A n c w) (hk:Keep (fun _=>False) w w'):SI w0 t m p cs ls A n c w':=
 ⟨h.bt.keep hk id,h.bm.keep hk id,h.bp.keep hk id,own_keepF h.own hk,h.keep.trans hk (fun _ _ h=>h),h.ok⟩
theorem SI.next (h:SI w0 t m p cs ls A n c w) (s:Spt) (hs:SpotOk t cs p.lev p.prec s) (ho:w'.ownsRow w0.heap.size 125 5 (.slice A' (n+1) c') (n+1) (fl Spt.cells (ls++[s])))
 (hk:Keep (fun i=>(Value.slice A n c).ownBlock=some i) w w'):SI w0 t m p cs (ls++[s]) A' (n+1) c' w':=
 ⟨h.bt.keep hk (own_ne h.own h.bt (by decide)),h.bm.keep hk (own_ne h.own h.bm (by decide)),h.bp.keep hk (own_ne h.own h.bp (by decide)),ho,keep_app h.keep h.own (Nat.le_refl _) hk,fun q hq=>by
  rcases List.mem_append.1 hq with h1|h1
  · exact h.ok q h1
  · rw [List.mem_singleton]at h1
    subst h1
    exact hs⟩
theorem SI.far (h:SI w0 t m p cs ls A n c w) {g:Nat} {ty:TypeId} {xs:Array Value} (hg:Blk w g ty xs) (hne:125≠ty) (hk:Keep (fun i=>(Value.slice A n c).ownBlock=some i) w w'):Blk w' g ty xs:=hg.keep hk (own_ne h.own hg hne)
end
def SpotsP (w:World) (t:Rc) (cs:List Cm) (p:Pm) (e:Ending) (w':World):Prop:=
 ∃A c ls,e=.returned (.slice A ls.length c)∧RdS w' A ls.length 5 (fl Spt.cells ls)∧(∀ s∈ls,SpotOk t cs p.lev p.prec s)∧ls.length≤cs.length*((p.lev+1)*(precT p.prec*precT p.prec))∧Keep (fun _=>False) w w'
theorem precT_le (p:Nat):precT p≤9:=by unfold precT;repeat(first|split|omega)
theorem spots_any (w:World) (t:Rc) (m:Im) (p:Pm) (cs:List Cm) (hcs:RdS w m.A m.n 5 (cms cs)) (hl:cs.length=m.n) (hC: ∀c∈cs,CmOk c) (hn4:m.n≤4) (hP:PmOk p) (ht:t.ok 12 17):
 Calls Tryz.prog 62 #[.agg t.cells,.agg m.cells,.agg p.cells] w (SpotsP w t cs p):=by
 obtain⟨i0,hi0,ez0,ez1,ez2⟩:=info_parts info_spot
 have HD:=hid (show∀(A:Option Addr) (n c:Nat) (ls:List Spt) (w':World),SI w t m p cs ls A n c w'→ls.length=n→n≤m.n*((p.lev+1)*(precT p.prec*precT p.prec))→SpotsP w t cs p (.returned (.slice A n c)) w' from fun A n c ls w' h e hn=>⟨A,c,ls,by rw [e],by rw [e];exact RdS.of_own h.own,h.ok,by rw [e,hl];exact hn,h.keep⟩)
 have HS0:=hid (show SI w t m p cs [] none 0 0 (((w.alloc (.cells t.cells 63)).alloc (.cells m.cells 29)).alloc (.cells p.cells 31))from⟨((Blk.new w _ _).alloc _).alloc _,(Blk.new1 w _ _ _).alloc _,Blk.new2 w _ _ _ _,World.ownsRow_nil _ _ _ _,(((Keep.refl _ w).alloc _).alloc _).alloc _,fun _ h=>by cases h⟩)
 have HC:=hid hC
 have HR:=hid hcs
 have HL:=hid hl
 have HTO:=hid ht
 have hT9:=precT_le p.prec
 have hTT:precT p.prec*precT p.prec≤9*9:=Nat.mul_le_mul hT9 hT9
 obtain⟨q1,q2,q3,q4,q5,q6,q7,q8,q9,q10,q11,q12,q13⟩:=hP
 obtain⟨tt,htt⟩: ∃tt,precT p.prec*precT p.prec=tt:=⟨_,rfl⟩
 obtain⟨lt,hlt⟩: ∃lt,(p.lev+1)*tt=lt:=⟨_,rfl⟩
 have hlt6:lt≤6*81:=by rw [← hlt];exact Nat.mul_le_mul (by omega) (by omega)
 have HLT:=hid hlt
 have HTT:=hid htt
 rw [htt,hlt]at HD
 have HMC:=hid (show m.cells=#[.int .i64 m.x,.int .i64 m.y,.int .i64 m.ox,.int .i64 m.oy,.slice m.A m.n m.c]from rfl)
 have HPC:=hid (show p.cells=#[.int .i64 p.tx,.int .i64 p.ty,.int .i64 p.lev,.int .i64 p.cbw,.int .i64 p.cbh,.int .i64 p.prec,.int .i64 p.style,.int .i64 p.order,.int .i64 p.lay,.bool p.rct,.bool p.sop,.bool p.eph]from rfl)
 clear hC hcs hl ht htt hlt hTT
 go_enter Tryz.func62,Tryz.ntmps62
 go_wp2_with fail
 generalize ((w.alloc (.cells t.cells 63)).alloc (.cells m.cells 29)).alloc (.cells p.cells 31)=w1 at*
 go_loopw [7,8] (fun l v wr=> ∃(i n:Nat) (A:Option Addr) (c:Nat) (ls:List Spt),i≤m.n∧v=.int .i64 i∧l=.slice A n c∧n≤i*486∧Hid (n≤i*lt)∧Hid (SI w t m p cs ls A n c wr)∧Hid (ls.length=n)) (fun _ v _=>m.n-(intOf v).toNat)
 case atStart=>exact⟨0,0,none,0,[],by omega,rfl,rfl,by omega,hid (by omega),HS0,hid rfl⟩
 case round=>
  clear HS0
  obtain⟨i,n,A,c,ls,hi,rfl,rfl,hn486,HN,HS,HLS⟩:=hrel
  have m4:wr.cell? ⟨w.heap.size+1,4,none⟩=some (.slice m.A m.n m.c):=by rw [HS.out.bm.cell,HMC.out];rfl
  by_cases hin:i<m.n
  · obtain⟨b,o,C,hm,hA,c0,c1,c2,c3,c4⟩:=comp_cells2 (HR.out.keep0 HS.out.keep) HL.out hin
    have HO:=hid (HC.out C (List.mem_of_getElem? hm))
    obtain⟨d1,d2,d3,d4,d5,d6⟩:=HO.out
    rw [hA]at m4
    have HM:=hid hm
    clear hm hA
    go_upto_region 6 with fail
    have hkx:Keep (fun _=>False) wr (wr.alloc (.cells #[.int .i64 C.depth,.bool C.sg,.int .i64 C.dx,.int .i64 C.dy,.slice C.A C.n C.c] 52)):=(Keep.refl _ wr).alloc _
    have HS1:=hid (HS.out.keepF hkx)
    have BX:=hid (Blk.new wr 52 #[.int .i64 C.depth,.bool C.sg,.int .i64 C.dx,.int .i64 C.dy,.slice C.A C.n C.c])
    generalize wr.alloc (.cells #[.int .i64 C.depth,.bool C.sg,.int .i64 C.dx,.int .i64 C.dy,.slice C.A C.n C.c] 52)=w4 at*
    generalize wr.heap.size=gx at*
    clear hkx c0 c1 c2 c3 c4 m4 HS
    have x2:w4.cell? ⟨gx,2,none⟩=some (.int .i64 C.dx):=BX.out.cell 2
    have x3:w4.cell? ⟨gx,3,none⟩=some (.int .i64 C.dy):=BX.out.cell 3
    have hpo:=HTO.out.over (dx:=(C.dx:Int)) (dy:=(C.dy:Int)) (ax:=0) (ay:=0) ⟨by omega,by omega⟩ ⟨by omega,by omega⟩
    obtain⟨P,hP⟩: ∃P,t.part C.dx C.dy=P:=⟨_,rfl⟩
    have HPO:=hid (show P.ok 12 17 from by rw [← hP];exact hpo)
    have HPE:=hid hP
    have HTF:=hid (HTO.out.fits24 (by omega))
    clear hpo hP
    go_wp2_with ((refine wpList_load_row rfl _ _ rfl _ rfl _ _ _ _ HS1.out.bt Tryz.underlying63 rfl (by kernel_rfl) ?_))
    refine(part_any _ t C.dx C.dy HTF.out ⟨by omega,by omega⟩ ⟨by omega,by omega⟩).mono ?_
    rintro e w5 ⟨rfl,hk⟩
    rw [HPE.out]
    have HS2:=hid (HS1.out.keepF hk)
    have BX2:=hid (BX.out.keep hk id)
    clear hk x2 x3 HS1 BX
    go_upto_region 7 with(refine wpList_store_row rfl _ _ _ rfl w5.heap.size _ rfl rfl _ _ (Blk.new w5 _ _) (by kernel_rfl) rfl (by simp [Value.oneCell']) ?_)
    rw [World.setRow_alloc_new]
    have BP:=hid (show Blk (w5.alloc (.cells #[.int .i64 P.x0,.int .i64 P.y0,.int .i64 P.x1,.int .i64 P.y1] 63)) w5.heap.size 63 P.cells from Blk.new w5 _ _)
    have hkp:Keep (fun _=>False) w5 (w5.alloc (.cells #[.int .i64 P.x0,.int .i64 P.y0,.int .i64 P.x1,.int .i64 P.y1] 63)):=(Keep.refl _ w5).alloc _
    replace HS2:=hid (HS2.out.keepF hkp)
    replace BX2:=hid (BX2.out.keep hkp id)
    generalize w5.alloc (.cells #[.int .i64 P.x0,.int .i64 P.y0,.int .i64 P.x1,.int .i64 P.y1] 63)=w6 at*
    generalize w5.heap.size=gp at*
    clear hkp
    go_wp2_with fail
    go_loopw [7,11] (fun l v wr=> ∃(k n:Nat) (A:Option Addr) (c:Nat) (ls:List Spt),k≤p.lev+1∧v=.int .i64 k∧l=.slice A n c∧n≤i*486+k*81∧Hid (n≤i*lt+k*tt)∧Hid (SI w t m p cs ls A n c wr)∧Hid (ls.length=n)∧Hid (Blk wr gx 52 #[.int .i64 C.depth,.bool C.sg,.int .i64 C.dx,.int .i64 C.dy,.slice C.A C.n C.c])∧Hid (Blk wr gp 63 P.cells)) (fun _ v _=>p.lev+1-(intOf v).toNat)
    case atStart=>exact⟨0,n,A,c,ls,by omega,rfl,rfl,by omega,hid (by have:=HN.out;omega),HS2,HLS,BX2,BP⟩
    case round=>
     clear HS2 BX2 BP HLS HN
     obtain⟨k,n,A,c,ls,hk,rfl,rfl,hn81,HN,HS,HLS,BX,BP⟩:=hrel
     have p2c:wr.cell? ⟨w.heap.size+2,2,none⟩=some (.int .i64 p.lev):=by rw [HS.out.bp.cell,HPC.out];rfl
     by_cases hkl:k<p.lev+1
     · obtain⟨Q,hQ⟩: ∃Q,P.reso p.lev k=Q:=⟨_,rfl⟩
       have hpp:=p2_pos (p.lev-k)
       have HQO:=hid (show Q.ok 12 17 from by rw [← hQ];exact HPO.out.over ⟨by omega,by omega⟩ ⟨by omega,by omega⟩)
       have HQE:=hid hQ
       have HPF:=hid (HPO.out.fits24 (by omega))
       clear hQ hpp
       go_wp2_with ((refine wpList_load_row rfl _ _ rfl _ rfl _ _ _ _ BP.out Tryz.underlying63 rfl (by kernel_rfl) ?_))
       refine(res_any _ P p.lev k HPF.out (by omega) (by omega)).mono ?_
       rintro e w7 ⟨rfl,hk7⟩
       rw [show P.over (p2 (p.lev-k)) (p2 (p.lev-k)) 0 0=Q from HQE.out]
       have HS2:=hid (HS.out.keepF hk7)
       have BX2:=hid (BX.out.keep hk7 id)
       have BP2:=hid (BP.out.keep hk7 id)
       clear hk7 p2c HS BX BP
       go_upto_region 11 with(refine wpList_store_row rfl _ _ _ rfl w7.heap.size _ rfl rfl _ _ (Blk.new w7 _ _) (by kernel_rfl) rfl (by simp [Value.oneCell']) ?_)
       rw [World.setRow_alloc_new]
       have BQ:=hid (show Blk (w7.alloc (.cells #[.int .i64 Q.x0,.int .i64 Q.y0,.int .i64 Q.x1,.int .i64 Q.y1] 63)) w7.heap.size 63 Q.cells from Blk.new w7 _ _)
       have hkp:Keep (fun _=>False) w7 (w7.alloc (.cells #[.int .i64 Q.x0,.int .i64 Q.y0,.int .i64 Q.x1,.int .i64 Q.y1] 63)):=(Keep.refl _ w7).alloc _
       replace HS2:=hid (HS2.out.keepF hkp)
       replace BX2:=hid (BX2.out.keep hkp id)
       replace BP2:=hid (BP2.out.keep hkp id)
       generalize w7.alloc (.cells #[.int .i64 Q.x0,.int .i64 Q.y0,.int .i64 Q.x1,.int .i64 Q.y1] 63)=w8 at*
       generalize w7.heap.size=gq at*
       clear hkp
       have HQP:=hid (HQO.out.pos.mono (show(17:Int)≤16777216 by omega))
       have p5c:w8.cell? ⟨w.heap.size+2,5,none⟩=some (.int .i64 p.prec):=by rw [HS2.out.bp.cell,HPC.out];rfl
       go_wp2_with ((refine wpList_load_row rfl _ _ rfl _ rfl _ _ _ _ BQ.out Tryz.underlying63 rfl (by kernel_rfl) ?_))
       refine(prec_any _ Q p.prec HQP.out q7).mono ?_
       rintro e w9 ⟨rfl,hk9⟩
       have hpw:=prec_wide HQO.out q6
       obtain⟨W,hW⟩: ∃W:Nat,Q.preW p.prec=W:=⟨(Q.preW p.prec).toNat,by omega⟩
       obtain⟨H,hH⟩: ∃H:Nat,Q.preH p.prec=H:=⟨(Q.preH p.prec).toNat,by omega⟩
       rw [hW,hH]at hpw ⊢
       obtain⟨N,hN⟩: ∃N:Nat,W*H=N:=⟨_,rfl⟩
       have hNI:(W:Int)*(H:Int)=(N:Int):=by rw [← hN];push_cast;rfl
       have hNt:N≤tt:=by rw [← hN,←HTT.out];exact Nat.mul_le_mul (by omega) (by omega)
       have htt81:tt≤9*9:=by rw [← HTT.out];exact Nat.mul_le_mul hT9 hT9
       have hW0:0<N→0<W:=fun h=>by
        rcases Nat.eq_zero_or_pos W with h0|h0
        · rw [h0,Nat.zero_mul]at hN;omega
        · exact h0
       have HW0:=hid hW0
       have HOK:=hid (show∀(j:Nat) (a b:Int),j<N→SpotOk t cs p.lev p.prec ⟨k,i,j,a,b⟩from fun j a b hj=>⟨C,HM.out,by show k≤p.lev;omega,by
        show(j:Int)<((t.part C.dx C.dy).reso p.lev k).preW p.prec*((t.part C.dx C.dy).reso p.lev k).preH p.prec
        rw [HPE.out,HQE.out,hW,hH,hNI];omega⟩)
       have hw1:IntKind.i64.wrap (N:Int)=(N:Int):=IntWalk.i64_in _ (by omega)
       have hpp:=p2_wrap (d:=p.prec) (by omega)
       have n0:=p2_pos p.prec
       have n1:p2 p.prec≤32768:=p2_mono (d:=p.prec) (e:=15) q7
       have HS3:=hid (HS2.out.keepF hk9)
       have BX3:=hid (BX2.out.keep hk9 id)
       have BP3:=hid (BP2.out.keep hk9 id)
       have BQ3:=hid (BQ.out.keep hk9 id)
       clear hk9 p5c HS2 BX2 BP2 BQ hW hH hN hW0
       have p5c:w9.cell? ⟨w.heap.size+2,5,none⟩=some (.int .i64 p.prec):=by rw [HS3.out.bp.cell,HPC.out];rfl
       have p2c:w9.cell? ⟨w.heap.size+2,2,none⟩=some (.int .i64 p.lev):=by rw [HS3.out.bp.cell,HPC.out];rfl
       go_wp2_with fail
       rw [hpp]
       clear p5c p2c hpp
       generalize p2 p.prec=pq at*
       go_loopw [7,17] (fun l v wr=> ∃(j n:Nat) (A:Option Addr) (c:Nat) (ls:List Spt),j≤N∧v=.int .i64 j∧l=.slice A n c∧n≤i*486+k*81+j∧Hid (n≤i*lt+k*tt+j)∧Hid (SI w t m p cs ls A n c wr)∧Hid (ls.length=n)∧Hid (Blk wr gx 52 #[.int .i64 C.depth,.bool C.sg,.int .i64 C.dx,.int .i64 C.dy,.slice C.A C.n C.c])∧Hid (Blk wr gp 63 P.cells)∧Hid (Blk wr gq 63 Q.cells)) (fun _ v _=>N-(intOf v).toNat)
       case atStart=>exact⟨0,n,A,c,ls,by omega,rfl,rfl,by omega,hid (by have:=HN.out;omega),HS3,HLS,BX3,BP3,BQ3⟩
       case round=>
        clear HS3 BX3 BP3 BQ3 HLS HN
        obtain⟨j,n,A,c,ls,hj,rfl,rfl,hnj,HN,HS,HLS,BX,BP,BQ⟩:=hrel
        by_cases hjN:j<N
        · have hW0:=HW0.out (by omega)
          have hz0:(pq==0)=false:=by simp;omega
          have hz1: ¬pq=0:=by omega
          have hz2: ¬pq=-1:=by omega
          have hy0:((W:Int)==0)=false:=by simp;omega
          have hy1: ¬(W:Int)=0:=by omega
          have hy2: ¬(W:Int)=-1:=by omega
          have hy3: ¬W=0:=by omega
          have f0:wr.drew.cell? ⟨w.heap.size,0,none⟩=some (.int .i64 t.x0):=HS.out.bt.cell 0
          have f1:wr.drew.cell? ⟨w.heap.size,1,none⟩=some (.int .i64 t.y0):=HS.out.bt.cell 1
          have x2:wr.drew.cell? ⟨gx,2,none⟩=some (.int .i64 C.dx):=BX.out.cell 2
          have x3:wr.drew.cell? ⟨gx,3,none⟩=some (.int .i64 C.dy):=BX.out.cell 3
          have z0:wr.drew.cell? ⟨gq,0,none⟩=some (.int .i64 Q.x0):=BQ.out.cell 0
          have z1:wr.drew.cell? ⟨gq,1,none⟩=some (.int .i64 Q.y0):=BQ.out.cell 1
          have nf1:=hid (own_ne HS.out.own HS.out.bt (by decide))
          have nf2:=hid (own_ne HS.out.own BX.out (by decide))
          have nf3:=hid (own_ne HS.out.own BQ.out (by decide))
          have hb:w.heap.size≤wr.heap.size:=HS.out.keep.size
          have HOW:=hid (own_drew HS.out.own)
          go_wp2_with fail
          refine At.start (L:=#[false,false,false,false,false,false,false,false,false,false,false,false,false,false,false,false,false,false,false,false,false,false,false,false,false,false,false,false,false,false,false,false,false,false,false,false,false,false,false,false]) (by kernel_rfl) rfl ?_
          refine AtP 0 72 ?_
          refine AtP 1 73 ?_
          refine AtP 2 74 ?_
          refine AtP 3 75 ?_
          refine AtP 4 76 ?_
          refine AtL 5 77 Tryz.underlying3 ?_
          refine AtP 6 78 ?_
          refine AtP 7 79 ?_
          refine AtL 8 80 Tryz.underlying3 ?_
          refine AtP 9 81 ?_
          refine AtP 10 82 ?_
          refine AtL 11 83 Tryz.underlying3 ?_
          refine AtP 12 84 ?_
          refine AtP 13 85 ?_
          refine AtP 14 86 ?_
          refine AtP 15 87 ?_
          refine AtP 16 88 ?_
          refine AtP 17 89 ?_
          refine AtP 18 90 ?_
          refine At.max 19 (some 91) rfl rfl (by kernel_rfl) (fun _ _ _ h=>h) rfl rfl rfl rfl ?_
          try simp only [NS]
          refine AtP 20 92 ?_
          refine AtL 21 93 Tryz.underlying3 ?_
          refine AtP 22 94 ?_
          refine AtP 23 95 ?_
          refine AtL 24 96 Tryz.underlying3 ?_
          refine AtP 25 97 ?_
          refine AtP 26 98 ?_
          refine AtL 27 99 Tryz.underlying3 ?_
          refine AtP 28 100 ?_
          refine AtP 29 101 ?_
          refine AtP 30 102 ?_
          refine AtP 31 103 ?_
          refine AtP 32 104 ?_
          refine AtP 33 105 ?_
          refine AtP 34 106 ?_
          refine At.max 35 (some 107) rfl rfl (by kernel_rfl) (fun _ _ _ h=>h) rfl rfl rfl rfl ?_
          try simp only [NS]
          refine AtP 36 108 ?_
          refine AtC 37 fun K hK=>?_
          go_simp
          skip
          refine hK _ _ all_nil ?_
          clear hK K
          try simp only [NS]
          refine AtC 38 fun K hK=>?_
          refine wp_append_rows wr.drew (.tmp 72) (.tmp 109) 122 rfl w.heap.size 125 i0 _ 5 40 Tryz.underlying122 hi0 ez0 ez1 ez2 rfl (by omega) HOW.out rfl (Spt.cells ⟨k,i,j,_,_⟩).toArray rfl rfl (fun v hv=>Spt.one ⟨k,i,j,_,_⟩ v hv) (by simp only [maxLen];omega) (by omega) hb ?_
          intro A6 c6 w6 hown6 hk6
          show K (Act.put _ (some 110) _) _
          have HN6:=hid (HS.out.next _ (HOK.out j _ _ hjN) (by rw [fl_snoc];exact hown6) hk6.undrew)
          have HL6:=hid (show∀s:Spt,(ls++[s]).length=n+1 from fun s=>by rw [List.length_append,HLS.out];rfl)
          have BX6:=hid (BX.out.keep hk6.undrew nf2.out)
          have BP6:=hid (BP.out.keep hk6.undrew (own_ne HS.out.own BP.out (by decide)))
          have BQ6:=hid (BQ.out.keep hk6.undrew nf3.out)
          clear hown6
          refine hK _ _ all_nil ?_
          clear hK K
          try simp only [NS]
          refine AtP 39 7 ?_
          refine At.done (by kernel_rfl) ?_
          go_wp2_with fail
          go_roundw
          case rel=>exact⟨j+1,n+1,A6,c6,_,by omega,by go_num,rfl,by omega,hid (by have:=HN.out;omega),HN6,hid (HL6.out _),BX6,BP6,BQ6⟩
          case measure=>simp [intOf]<;>omega
        · obtain rfl:j=N:=by omega
          have HN2:=hid (show n≤i*lt+(k+1)*tt from by have h1:=HN.out;rw [Nat.add_mul k,Nat.one_mul];omega)
          go_wp2_with fail
          go_roundw
          case rel=>exact⟨k+1,n,A,c,ls,by omega,by go_num,rfl,by omega,HN2,HS,HLS,BX,BP⟩
          case measure=>simp [intOf]<;>omega
     · obtain rfl:k=p.lev+1:=by omega
       have HN2:=hid (show n≤(i+1)*lt from by have h1:=HN.out;have h2:=HLT.out;rw [Nat.add_mul,Nat.one_mul];omega)
       go_wp2_with fail
       go_roundw
       case rel=>exact⟨i+1,n,A,c,ls,by omega,by go_num,rfl,by omega,HN2,HS,HLS⟩
       case measure=>simp [intOf]<;>omega
  · obtain rfl:i=m.n:=by omega
    go_wp2_with fail
    go_ret
    exact HD.out _ _ _ _ _ HS.out HLS.out HN.out
end Go.Proofs.YthfogcgdijmaoaaGreat
