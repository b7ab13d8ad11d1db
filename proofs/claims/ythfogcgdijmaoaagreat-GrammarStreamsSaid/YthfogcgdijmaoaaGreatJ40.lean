/-
  Part 40 of the proof: Say PkS PlanS PlanT. Conditions: those of the statements.
-/
import Derived.Test.YthfogcgdijmaoaaGreatJ26
import Derived.Test.YthfogcgdijmaoaaGreatJ37
import Derived.Test.YthfogcgdijmaoaaGreatJ38
import Derived.Test.YthfogcgdijmaoaaGreatJ39
import Derived.Deep.DeepCutAuto
import Derived.Maps.AppendAt
set_option maxRecDepth 100000
set_option maxHeartbeats 16000000
set_option linter.unusedVariables false
set_option linter.unusedSimpArgs false
namespace Go.Proofs.YthfogcgdijmaoaaGreat
open Go.RowKit
theorem ends_lim {P:Pv} {G:Nat→Option Kd} {w:World} (h:PartOk G w P): ∀z∈P.ps.map (·.1),0≤z∧z≤100000:=by
 intro z hz
 obtain⟨p,hp,rfl⟩:=List.mem_map.1 hz
 obtain⟨i,hi,e⟩:=List.getElem_of_mem hp
 have hg:P.ps[i]?=some p:=by rw [List.getElem?_eq_getElem hi,e]
 have h1:=h.ends.pos i p hg
 have h2:=(h.ends.low i i p p (Nat.le_refl _) hi hg hg).2
 have:=h.nb
 omega
def farL (X:Nat) (w:World):Nat:=match w.cell? ⟨X,4,none⟩with
 |some (.int _ L)=>(17-L).toNat
 |_=>0
theorem farL_of {X:Nat} {w:World} {P:Pv} {lb:Int} (h:Blk w X 139 (P.xcells lb).toArray):farL X w=(17-lb).toNat:=by
 have h1:w.cell? ⟨X,4,none⟩=some (.int .i64 lb):=h.cell 4
 unfold farL
 rw [h1]
theorem row_at {w:World} {B r c:Nat} {X:Option Addr} {xs:List Int} (h:w.ownsRow B 3 1 (.slice X r c) r (xs.map (Value.int .i64))) {i:Nat} (hi:i<r): ∃(g:Nat) (z:Int),X=some ⟨g,0,none⟩∧z∈xs∧w.cell? ⟨g,i,none⟩=some (.int .i64 z):=by
 obtain⟨g,e,_,_,hc,_⟩:=own_at h (by omega)
 have hl:xs.length=r:=by have:=h.1;simpa using this
 refine⟨g,xs[i],e,List.getElem_mem (by omega),hc i _ ?_⟩
 rw [List.getElem?_map,List.getElem?_eq_getElem (by omega)]
 rfl
theorem shr_lim {z:Int} {s:Nat} (h:0<z/2^s) (hz:z≤100000):s≤16:=by
 rcases Nat.lt_or_ge 16 s with h1|h1
 · obtain⟨d,rfl⟩: ∃d,s=17+d:=⟨s-17,by omega⟩
   have h2:(2:Int)^(17+d)=131072*2^d:=by rw [Int.pow_add];rfl
   have h3:(1:Int)≤2^d:=by have:=Nat.pow_pos (n:=d) (show 0<2 by decide);exact_mod_cast this
   rcases Int.lt_or_le z 0 with h4|h4
   · have:=Int.ediv_neg_of_neg_of_pos h4 (show(0:Int)<2^(17+d) by omega)
     omega
   · rw [Int.ediv_eq_zero_of_lt h4 (by omega)]at h
     omega
 · exact h1
theorem say_any (G:Nat→Option Kd) (base:Nat) (w:World) (b g n:Nat) (pl:Int) (c gi gu:Nat) (st:Bool) (cs:Array Value) (P:Pv) (k b2 W q:Nat) (A:Option Addr) (style:Int) (f0 t0:Nat) (hv:Bv G base w b g n pl c gi gu st cs) (hk:k<n) (hP:PartOk G w P) (hPr:w.rangeAt g (k*5) P.cells)
 (hW:WSt G w b2 W A q) (hb:b2≤w.heap.size) (hq:q≤134217728) (hft:f0<t0) (hto:t0≤P.ps.length):
 Calls Tryz.prog 71 #[.pointer (some ⟨b,0,none⟩),.pointer (some ⟨W,0,none⟩),.int .i64 k,.int .i64 style,.int .i64 f0,.int .i64 t0] w (SayP G base w b g n pl c gi gu st P k b2 W A (q+13600)):=by
 have hnc:=hv.nc
 have hn25:=hv.n25
 have hp0:=hv.p0
 have hp15:=hv.p15
 have hnp:=hP.np
 have hppl:=hP.pl
 have HGU:=hid hv.gu
 have HS0:=hid (show SS G base w b g n pl c gi gu st P b2 W A A q w.heap.size P.lb (w.alloc (.cells (P.xcells P.lb).toArray 139))from by
  have hka:Keep (fun _=>False) w (w.alloc (.cells (P.xcells P.lb).toArray 139)):=(Keep.refl _ w).alloc _
  exact⟨⟨cs,hv.keepF hka⟩,hP.keep hka (fun _ h=>h.elim),hW.keepF hka,Grew.refl _ _,(Keep.refl _ w).alloc _,Blk.new _ _ _,hv.fits.none_of (Nat.le_refl _),Nat.le_refl _,hP.l3,hP.l17,by simp;omega⟩)
 have b1:w.cell? ⟨b,1,none⟩=some (.slice (some ⟨g,0,none⟩) n c):=hv.bb.cell 1
 have HPR:=hid hPr
 unfold Pv.cells at HPR
 unfold Pv.xcells at HS0
 clear hv hP hPr hW
 go_enter Tryz.func71,Tryz.ntmps71
 go_upto_region 1 with(refine wpList_load_mid rfl 139 (.tmp 24) rfl _ _ rfl _ _ HPR.out Tryz.underlying139 rfl (by kernel_rfl) ?_)
 generalize w.alloc (.cells #[.int .i64 P.pl,.slice P.A P.ps.length P.cA,.slice P.B P.bs.length P.cB,.int .i64 P.sd,.int .i64 P.lb] 139)=w1 at*
 generalize w.heap.size=XB at*
 generalize P.lb=lb0 at*
 clear b1
 go_upto_if 27 with fail
 generalize ((f0:Int)==0)=bz
 go_cut [] (fun wx=> ∃(A2:Option Addr) (q2:Nat),Hid (q2≤q+10608)∧Hid (SS G base w b g n pl c gi gu st P b2 W A A2 q2 XB lb0 wx))
 case first=>
  cases bz with
  |true=>
   have x0:w1.cell? ⟨XB,0,none⟩=some (.int .i64 P.pl):=HS0.out.xb.cell 0
   have y0:w1.cell? ⟨b,0,none⟩=some (.int .i64 pl):=by obtain⟨_,h⟩:=HS0.out.bv;exact h.bb.cell 0
   have hw1:IntKind.i64.wrap (pl-P.pl)=pl-P.pl:=IntWalk.i64_in _ (by omega)
   go_wp2_with fail
   go_quiet (fail)
   have HS1:=hid (fun m=>HS0.out.aside ((Keep.refl (fun _=>False) w1).drewN m))
   clear x0 y0 hw1
   generalize hx2:w1.drewN _=w2
   have HS2:=hid (show SS G base w b g n pl c gi gu st P b2 W A A q XB lb0 w2 from by rw [← hx2];exact HS1.out _)
   clear hx2 HS1 HS0
   go_wp2_with fail
   go_loopw [14] (fun v wr=> ∃(m:Nat) (A2:Option Addr) (q2:Nat),1≤m∧m≤17∧(m=1∨(m:Int)≤pl-P.pl+2)∧v=.int .i64 m∧Hid (q2+663≤q+m*663)∧Hid (SS G base w b g n pl c gi gu st P b2 W A A2 q2 XB lb0 wr)) (fun v _=>17-(intOf v).toNat)
   case atStart=>exact⟨1,A,q,by omega,by omega,.inl rfl,rfl,hid (by omega),HS2⟩
   case round=>
    clear HS2
    obtain⟨m,A2,q2,hm1,hm17,hmz,rfl,HQ,HS⟩:=hrel
    by_cases hmt:(m:Int)≤pl-P.pl+1
    · have y3:wr.cell? ⟨b,3,none⟩=some (.pointer (some ⟨gu,0,none⟩)):=by obtain⟨_,h⟩:=HS.out.bv;exact h.bb.cell 3
      have HQ2:=hid (show q2≤268435456 from by have:=HQ.out;omega)
      clear hmz
      go_wp2_with fail
      refine(tenc_any G base wr gu n k b2 W q2 A2 m HS.out.fits HGU.out hk HS.out.ws HS.out.hb HQ2.out (by omega)).mono ?_
      rintro e w5 ⟨A5,rfl,hW5,hF5,hg5,hk5⟩
      have HS5:=hid (HS.out.stepW hF5 hW5 hg5 hk5)
      have HQ5:=hid (show q2+39*(m+1)+663≤q+(m+1)*663 from by have:=HQ.out;omega)
      clear hW5 hF5 hg5 hk5 y3 HS
      go_wp2_with fail
      go_roundw
      case rel=>
       first
       |exact⟨m+1,A5,_,by omega,by omega,.inr (by omega),by go_num,HQ5,HS5⟩
       |((repeat apply Exists.intro);refine⟨?_,rfl⟩;exact⟨m+1,A5,_,by omega,by omega,.inr (by omega),by go_num,HQ5,HS5⟩)
      case measure=>simp [intOf]<;>omega
    · have HQ3:=hid (show q2≤q+10608 from by have:=HQ.out;omega)
      go_wp2_with fail
      go_meet
      exact⟨A2,q2,HQ3,HS⟩
  |false=>
   go_wp2_with fail
   go_meet
   exact⟨A,q,hid (by omega),HS0⟩
 case rest=>
  obtain⟨A2,q2,HQ2,HS2⟩:=hcut
  clear HS0
  rename World=>wq
  have HQ2b:=hid (show q2≤268435456 from by have:=HQ2.out;omega)
  have hww:G=G:=rfl
  go_wp2_with fail
  refine(count_any G base (fun _=>False) _ b2 W q2 A2 _ HS2.out.ws HS2.out.fits HS2.out.hb HQ2b.out).mono ?_
  rintro e w3 ⟨A3,rfl,hW3,hF3,hg3,hk3⟩
  have HS3:=hid (HS2.out.stepB hF3 hW3 hg3 hk3)
  clear hW3 hF3 hg3 hk3 HS2
  have hrx:w3.rangeAt XB 0 [.int .i64 P.pl,.slice P.A P.ps.length P.cA,.slice P.B P.bs.length P.cB]:=fun j v hj=>by
   have hj3:j<3:=(List.getElem?_eq_some_iff.1 hj).1
   rw [Nat.zero_add,HS3.out.xb.cell]
   rw [← hj]
   rcases (show j=0∨j=1∨j=2 by omega)with rfl|rfl|rfl<;>rfl
  have HRX:=hid hrx
  clear hrx
  go_wp2_with (refine wpList_load_mid rfl 117 (.tmp 59) rfl _ _ rfl _ _ HRX.out Tryz.underlying117 rfl (by kernel_rfl) ?_)
  refine(ends15_any _ P HS3.out.po.rp hnp).mono ?_
  rintro e w4 ⟨E,cE,rfl,hcE,hEo,hk4⟩
  have HS4:=hid (HS3.out.aside hk4)
  have HE4:=hid (Rd.of_own hEo)
  have HEL:=hid (ends_lim HS3.out.po)
  clear hEo hk4 HS3 HRX
  go_wp2_with fail
  refine(segs_any _ style f0 t0 E P.ps.length cE _ HE4.out HEL.out hft hto hnp hcE).mono ?_
  rintro e w5 ⟨r,X,cX,xs,Y,cY,ys,rfl,hr88,htw,hxs,hys⟩
  have HS5:=hid (HS4.out.aside htw.keep)
  have HX5:=hid htw.x
  have HY5:=hid htw.y
  have hrX:r≤cX:=own_cap htw.x
  have hrY:r≤cY:=own_cap htw.y
  have HXS:=hid hxs
  have HYS:=hid hys
  clear htw hxs hys HS4 HE4 HEL
  generalize w4.heap.size=B4 at*
  go_wp2_with fail
  obtain⟨q5,hq5⟩: ∃q5,q2+64=q5:=⟨_,rfl⟩
  rw [hq5]at HS5
  have HQ5:=hid (show q5≤q+10672 from by have:=HQ2.out;omega)
  clear hq5
  go_loopw [17] (fun v wr=> ∃(i:Nat) (lb:Int) (A6:Option Addr) (q6:Nat),i≤r∧v=.int .i64 i∧Hid (q6+(17-lb).toNat≤q5+14)∧Hid (SS G base w b g n pl c gi gu st P b2 W A A6 q6 XB lb wr)∧Hid (wr.ownsRow B4 3 1 (.slice X r cX) r (xs.map (Value.int .i64)))∧Hid (wr.ownsRow B4 3 1 (.slice Y r cY) r (ys.map (Value.int .i64)))) (fun v _=>r-(intOf v).toNat)
  case atStart=>exact⟨0,lb0,A3,q5,by omega,rfl,hid (by have:=HS5.out.l3;omega),HS5,HX5,HY5⟩
  case round=>
   clear HS5 HX5 HY5
   obtain⟨i,lb,A6,q6,hi,rfl,HQ6,HS,HX,HY⟩:=hrel
   by_cases hir:i<r
   · go_wp2_with fail
     obtain⟨wo,hwo⟩: ∃wo:World,wo=wr:=⟨_,rfl⟩
     go_loopw [] (fun wr=> ∃(lb:Int) (A6:Option Addr) (q6:Nat),Hid (q6+(17-lb).toNat≤q5+14)∧Hid (SS G base w b g n pl c gi gu st P b2 W A A6 q6 XB lb wr)∧Hid (wr.ownsRow B4 3 1 (.slice X r cX) r (xs.map (Value.int .i64)))∧Hid (wr.ownsRow B4 3 1 (.slice Y r cY) r (ys.map (Value.int .i64)))) (fun wr=>farL XB wr)
     case atStart=>exact⟨lb,A6,q6,HQ6,HS,HX,HY⟩
     case round=>
      clear HS HX HY HQ6 hwo
      clear lb A6 q6
      obtain⟨lb,A6,q6,HQ6,HS,HX,HY⟩:=hrel
      obtain⟨gX,zx,hXe,hzx,hcx⟩:=row_at HX.out hir
      obtain⟨gY,zy,hYe,hzy,hcy⟩:=row_at HY.out hir
      obtain⟨hx1,hx2⟩:=HXS.out zx hzx
      obtain⟨hy1,hy2⟩:=HYS.out zy hzy
      obtain⟨nx,rfl⟩: ∃nx:Nat,zx=nx:=⟨zx.toNat,by omega⟩
      have hl3:=HS.out.l3
      have hl17:=HS.out.l17
      have HXE:=hid hXe
      have HYE:=hid hYe
      subst hXe hYe
      clear hzx hzy
      have k1:wr.drew.cell? ⟨gX,i,none⟩=some (.int .i64 (nx:Int)):=hcx
      have k2:wr.drew.cell? ⟨gY,i,none⟩=some (.int .i64 zy):=hcy
      have k3:wr.drew.cell? ⟨XB,4,none⟩=some (.int .i64 lb):=HS.out.xb.cell 4
      have hi0:(0:Int)≤(i:Int):=by omega
      have hi1:(i:Int)<(r:Int):=by omega
      have hfar:=farL_of HS.out.xb
      have HSD:=hid (HS.out.aside ((Keep.refl (fun _=>False) wr).drew))
      have HXD:=hid (own_keepF HX.out ((Keep.refl (fun _=>False) wr).drew))
      have HYD:=hid (own_keepF HY.out ((Keep.refl (fun _=>False) wr).drew))
      have HFW:=hid (show farL XB wr.drew=farL XB wr from rfl)
      clear HS HX HY
      go_wp2_with fail
      refine At.start (L:=#[false,false,false,false,false,false,false,false,false,false,false,false,false,false,false]) (by kernel_rfl) rfl ?_
      refine AtP 0 (some 71) ?_
      try simp only [NS]
      refine AtP 1 (some 72) ?_
      try simp only [NS]
      refine AtP 2 (some 73) ?_
      try simp only [NS]
      first|refine AtL 3 (some 74) Tryz.underlying3 ?_|refine AtR 3 (some 74) Tryz.underlying3 ?_
      try simp only [NS]
      refine AtP 4 (some 75) ?_
      try simp only [NS]
      first|refine AtL 5 (some 76) Tryz.underlying3 ?_|refine AtR 5 (some 76) Tryz.underlying3 ?_
      try simp only [NS]
      refine AtP 6 (some 77) ?_
      try simp only [NS]
      refine AtP 7 (some 78) ?_
      try simp only [NS]
      refine AtP 8 (some 79) ?_
      try simp only [NS]
      first|refine AtL 9 (some 80) Tryz.underlying3 ?_|refine AtR 9 (some 80) Tryz.underlying3 ?_
      try simp only [NS]
      refine At.call_all 10 rfl (by kernel_rfl) rfl (fun K hK=>?_)
      go_simp
      refine(log2_any _ nx (by omega) (by omega)).mono ?_
      rintro e w8 ⟨lg,hg0,hg1,rfl,rfl⟩
      obtain⟨s,hs⟩: ∃s:Nat,lb+lg=s:=⟨(lb+lg).toNat,by omega⟩
      have e1:IntKind.i64.wrap (lb+lg)=(s:Int):=by rw [IntWalk.i64_in _ (by omega)];exact hs
      have e2:IntKind.u64.wrap (s:Int)=(s:Int):=by simp [IntKind.wrap,IntKind.signed,IntKind.bits];omega
      have HSS:=hid hs
      have hs27:s≤27:=by omega
      clear hs
      refine hK _ _ (by repeat' first|exact all_nil|refine all_cons (by assumption) ?_) ?_
      clear hK K
      try simp only [NS]
      refine AtP 11 (some 82) ?_
      try simp only [NS]
      refine AtP 12 (some 83) ?_
      try simp only [NS]
      refine AtP 13 (some 84) ?_
      try simp only [NS]
      refine AtP 14 (some 85) ?_
      try simp only [NS]
      refine At.done (by kernel_rfl) ?_
      clear k1 k2 k3 hcx hcy e1 e2
      have hmin:min s 64=s:=by omega
      generalize wr.drew=w7 at*
      have k4:w7.cell? ⟨XB,4,none⟩=some (.int .i64 lb):=HSD.out.xb.cell 4
      have f4:=HSD.out.xb.frozen 4
      by_cases hpos:0<zy/2^s
      · have hs16:=shr_lim hpos hy2
        have hlb17:lb+1≤17:=by have:=HSS.out;omega
        have HSL:=hid (HSD.out.setLb (lb':=lb+1) (by omega) hlb17)
        have HXL:=hid (HSD.out.rowL HXD.out (.int .i64 (lb+1)))
        have HYL:=hid (HSD.out.rowL HYD.out (.int .i64 (lb+1)))
        have HQb:=hid (show q6≤268435456 from by have:=HQ6.out;have:=HQ5.out;omega)
        have HPOS:=hid hpos
        go_upto_region 14 with fail
        generalize w7.setCell ⟨XB,4,none⟩ (.int .i64 (lb+1))=w9 at*
        clear k4 f4 hpos
        go_wp2_with fail
        refine(wbit_any G base (fun _=>False) _ b2 W q6 A6 1 HSL.out.ws HSL.out.fits HSL.out.hb (by have:=HQb.out;omega)).mono ?_
        rintro e w10 ⟨A10,rfl,hW10,hF10,hg10,hk10⟩
        have HS10:=hid (HSL.out.stepB hF10 hW10 hg10 hk10)
        have HX10:=hid (HSL.out.rowB HXL.out hk10)
        have HY10:=hid (HSL.out.rowB HYL.out hk10)
        have HFAR:=hid (show farL XB w10<farL XB wr from by rw [farL_of HS10.out.xb,hfar];omega)
        have HQ10:=hid (show q6+1+(17-(lb+1)).toNat≤q5+14 from by have:=HQ6.out;omega)
        clear hW10 hF10 hg10 hk10 HSL HXL HYL HSD HXD HYD hfar
        go_wp2_with fail
        exact⟨⟨lb+1,A10,q6+1,HQ10,HS10,HX10,HY10⟩,HFAR.out⟩
      · clear k4 f4
        go_wp2_with fail
        go_roundw
        case rel=>
         first
         |exact⟨i+1,lb,A6,q6,by omega,by go_num,HQ6,HSD,HXD,HYD⟩
         |((repeat apply Exists.intro);refine⟨?_,rfl⟩;exact⟨i+1,lb,A6,q6,by omega,by go_num,HQ6,HSD,HXD,HYD⟩)
        case measure=>simp [intOf]<;>omega
   · obtain rfl:i=r:=by omega
     have HQb:=hid (show q6≤q+10686 from by have:=HQ6.out;have:=HQ5.out;omega)
     have HQc:=hid (show q6≤268435456 from by have:=HQb.out;omega)
     clear HQ6 HQ5 HQ2b
     go_wp2_with fail
     refine(wbit_any G base (fun _=>False) _ b2 W q6 A6 0 HS.out.ws HS.out.fits HS.out.hb (by have:=HQc.out;omega)).mono ?_
     rintro e w10 ⟨A10,rfl,hW10,hF10,hg10,hk10⟩
     have HS10:=hid (HS.out.stepB hF10 hW10 hg10 hk10)
     have HX10:=hid (HS.out.rowB HX.out hk10)
     have HY10:=hid (HS.out.rowB HY.out hk10)
     clear hW10 hF10 hg10 hk10 HS HX HY
     go_wp2_with fail
     go_loopw [18] (fun v wr=> ∃(j:Nat) (A6:Option Addr) (q6:Nat),j≤i∧v=.int .i64 j∧Hid (q6≤q+10687+32*j)∧Hid (SS G base w b g n pl c gi gu st P b2 W A A6 q6 XB lb wr)∧Hid (wr.ownsRow B4 3 1 (.slice X i cX) i (xs.map (Value.int .i64)))∧Hid (wr.ownsRow B4 3 1 (.slice Y i cY) i (ys.map (Value.int .i64)))) (fun v _=>i-(intOf v).toNat)
     case atStart=>exact⟨0,A10,q6+1,by omega,rfl,hid (by have:=HQb.out;omega),HS10,HX10,HY10⟩
     case round=>
      clear HS10 HX10 HY10 HQb HQc
      obtain⟨j,A7,q7,hj,rfl,HQ7,HS,HX,HY⟩:=hrel
      by_cases hji:j<i
      · obtain⟨gX,zx,hXe,hzx,hcx⟩:=row_at HX.out hji
        obtain⟨gY,zy,hYe,hzy,hcy⟩:=row_at HY.out hji
        obtain⟨hx1,hx2⟩:=HXS.out zx hzx
        obtain⟨nx,rfl⟩: ∃nx:Nat,zx=nx:=⟨zx.toNat,by omega⟩
        subst hXe hYe
        clear hzx hzy
        have k1:wr.drew.cell? ⟨gX,j,none⟩=some (.int .i64 (nx:Int)):=hcx
        have k2:wr.drew.cell? ⟨gY,j,none⟩=some (.int .i64 zy):=hcy
        have k3:wr.drew.cell? ⟨XB,4,none⟩=some (.int .i64 lb):=HS.out.xb.cell 4
        have hj0:(0:Int)≤(j:Int):=by omega
        have hj1:(j:Int)<(i:Int):=by omega
        have HSD:=hid (HS.out.aside ((Keep.refl (fun _=>False) wr).drew))
        have HXD:=hid (own_keepF HX.out ((Keep.refl (fun _=>False) wr).drew))
        have HYD:=hid (own_keepF HY.out ((Keep.refl (fun _=>False) wr).drew))
        have HQd:=hid (show q7≤268435456 from by have:=HQ7.out;omega)
        clear HS HX HY
        go_wp2_with fail
        refine At.start (L:=#[false,false,false,false,false,false,false,false,false,false,false,false,false,false]) (by kernel_rfl) rfl ?_
        refine AtP 0 (some 100) ?_
        try simp only [NS]
        refine AtP 1 (some 101) ?_
        try simp only [NS]
        refine AtP 2 (some 102) ?_
        try simp only [NS]
        refine AtP 3 (some 103) ?_
        try simp only [NS]
        first|refine AtL 4 (some 104) Tryz.underlying3 ?_|refine AtR 4 (some 104) Tryz.underlying3 ?_
        try simp only [NS]
        refine AtP 5 (some 105) ?_
        try simp only [NS]
        first|refine AtL 6 (some 106) Tryz.underlying3 ?_|refine AtR 6 (some 106) Tryz.underlying3 ?_
        try simp only [NS]
        refine AtP 7 (some 107) ?_
        try simp only [NS]
        refine AtP 8 (some 108) ?_
        try simp only [NS]
        refine AtP 9 (some 109) ?_
        try simp only [NS]
        first|refine AtL 10 (some 110) Tryz.underlying3 ?_|refine AtR 10 (some 110) Tryz.underlying3 ?_
        try simp only [NS]
        refine At.call_all 11 rfl (by kernel_rfl) rfl (fun K hK=>?_)
        go_simp
        refine(log2_any _ nx (by omega) (by omega)).mono ?_
        rintro e w8 ⟨lg,hg0,hg1,rfl,rfl⟩
        refine hK _ _ (by repeat' first|exact all_nil|refine all_cons (by assumption) ?_) ?_
        clear hK K
        try simp only [NS]
        refine AtP 12 (some 112) ?_
        try simp only [NS]
        refine AtC 13 fun K hK=>?_
        go_simp
        refine(wbits_any G base (fun _=>False) _ b2 W q7 A7 _ _ HSD.out.ws HSD.out.fits HSD.out.hb (by have:=HQd.out;omega)).mono ?_
        rintro e w9 ⟨A9,rfl,hW9,hF9,hg9,hk9⟩
        have HS9:=hid (HSD.out.stepB hF9 hW9 hg9 hk9)
        have HX9:=hid (HSD.out.rowB HXD.out hk9)
        have HY9:=hid (HSD.out.rowB HYD.out hk9)
        clear hW9 hF9 hg9 hk9
        refine hK _ _ all_nil ?_
        clear hK K
        try simp only [NS]
        refine At.done (by kernel_rfl) ?_
        clear k1 k2 k3 hcx hcy HSD HXD HYD
        go_wp2_with fail
        go_roundw
        case rel=>
         first
         |exact⟨j+1,A9,q7+32,by omega,by go_num,hid (by have:=HQ7.out;omega),HS9,HX9,HY9⟩
         |((repeat apply Exists.intro);refine⟨?_,rfl⟩;exact⟨j+1,A9,q7+32,by omega,by go_num,hid (by have:=HQ7.out;omega),HS9,HX9,HY9⟩)
        case measure=>simp [intOf]<;>omega
      · obtain rfl:j=i:=by omega
        have HSD:=hid (HS.out.aside ((Keep.refl (fun _=>False) wr).drew))
        obtain⟨cs2,hv2⟩:=HSD.out.bv
        have HV2:=hid hv2
        have b1:wr.drew.cell? ⟨b,1,none⟩=some (.slice (some ⟨g,0,none⟩) n c):=hv2.bb.cell 1
        have hrx:wr.drew.rangeAt XB 0 [.int .i64 P.pl,.slice P.A P.ps.length P.cA,.slice P.B P.bs.length P.cB,.int .i64 P.sd,.int .i64 lb]:=HSD.out.xb.range
        have hsz:k*5+5≤cs2.size:=by have:=hv2.ok.1;omega
        have hk0:(0:Int)≤(k:Int):=by omega
        have hk1:(k:Int)<(n:Int):=by omega
        clear hv2 HX HY HS
        go_wp2_with fail
        refine At.start (L:=#[false,false,false,false,false,false,false,false]) (by kernel_rfl) rfl ?_
        refine AtP 0 (some 114) ?_
        try simp only [NS]
        refine AtP 1 (some 115) ?_
        try simp only [NS]
        refine AtP 2 (some 116) ?_
        try simp only [NS]
        first|refine AtL 3 (some 117) Tryz.underlying134 ?_|refine AtR 3 (some 117) Tryz.underlying134 ?_
        try simp only [NS]
        refine AtP 4 (some 118) ?_
        try simp only [NS]
        first|refine AtL 5 (some 119) Tryz.underlying139 ?_|refine AtR 5 (some 119) Tryz.underlying139 ?_
        try simp only [NS]
        refine AtP 6 (some 120) ?_
        try simp only [NS]
        refine AtC 7 fun K hK=>?_
        refine wp_store_in HV2.out.bp 139 _ _ rfl (k*5) (P.xcells lb).toArray rfl rfl (by show k*5+5≤_;omega) (by kernel_rfl) (by simp [Value.oneCell',Pv.xcells]) ?_
        intro w2 hb2 hk2
        have HZ:=hid (HSD.out.fin HV2.out hk hk2 hb2)
        have HQe:=hid (show q7≤q+13600 from by have:=HQ7.out;omega)
        clear hb2 hk2
        refine hK _ _ all_nil ?_
        clear hK K
        try simp only [NS]
        refine At.done (by kernel_rfl) ?_
        go_wp2_with fail
        go_end0
        obtain⟨A',cs',lb',h1,h2,h3⟩:=HZ.out
        exact⟨A',cs',lb',h1,h2.up HQe.out,h3⟩
def KT (G:Nat→Option Kd) (j:Nat):Prop:=TB2 G j∨PT G j
def ptrV (b:Nat):Value:=.pointer (some ⟨b,0,none⟩)
section
variable {G :Nat→Option Kd} {base:Nat} {w w':World} {S:Nat→Prop}
theorem KT.some {j:Nat} (h:KT G j):G j≠none∧G j≠some .ro:=by
 rcases h with(h|⟨n,e⟩)|⟨n,e⟩
 · exact⟨(TN.not (n:=0) h).2.2.2,(TN.not (n:=0) h).2.2.1⟩
 · rw [e];simp
 · rw [e];simp
theorem Fits.ktBlk (h:Fits G base w) {j:Nat} (hj:KT G j): ∃t cs,Blk w j t cs∧(t=178∨t=181∨t=137∨t=139):=by
 rcases hj with(hj|⟨n,e⟩)|⟨n,e⟩
 · rcases h.tnBlk hj with⟨cs,h1⟩|⟨cs,h1⟩
   · exact⟨_,cs,h1,.inl rfl⟩
   · exact⟨_,cs,h1,.inr (.inl rfl)⟩
 · obtain⟨_,_,pl,A,c,gi,gu,st,h1,_⟩:=h.at_ j _ e
   exact⟨_,_,h1,.inr (.inr (.inl rfl))⟩
 · obtain⟨_,_,cs,h1,_⟩:=h.at_ j _ e
   exact⟨_,_,h1,.inr (.inr (.inr rfl))⟩
end
structure PS (G:Nat→Option Kd) (base:Nat) (w0:World) (BL:Nat) (L:Option Addr) (m c:Nat) (bs:List Nat) (b2 W:Nat) (A:Option Addr) (q:Nat) (BA:Option Addr) (nb cb:Nat) (body:List Int) (w:World):Prop where
 fits:Fits G base w
 ws:WSt G w b2 W A q
 lrow:w.ownsRow BL 105 1 (.slice L m c) m (bs.map ptrV)
 bod:w.ownsRow b2 5 1 (.slice BA nb cb) nb (body.map (Value.int .u8))
 bby:Bytes body
 ap: ∀a x,A=some a→BA=some x→a.block≠x.block
 gb: ∀x,BA=some x→G x.block=none
 keep:Keep (KT G) w0 w
 hb:b2≤w.heap.size
 b0:w0.heap.size≤b2
 fw: ∀j,foot W A j→w0.heap.size≤j
section
variable {G :Nat→Option Kd} {base:Nat} {w0 w w':World} {BL:Nat} {L:Option Addr} {m c:Nat} {bs:List Nat} {b2 W:Nat} {A A':Option Addr} {q q':Nat} {BA BA':Option Addr} {nb cb cb' k:Nat} {body ys:List Int} {S:Nat→Prop}
theorem PS.aside (h:PS G base w0 BL L m c bs b2 W A q BA nb cb body w) (hk:Keep (fun _=>False) w w'):PS G base w0 BL L m c bs b2 W A q BA nb cb body w':=
 ⟨h.fits.keepF hk,h.ws.keepF hk,own_keepF h.lrow hk,own_keepF h.bod hk,h.bby,h.ap,h.gb,h.keep.trans hk (fun _ _ h=>h.elim),Nat.le_trans h.hb hk.size,h.b0,h.fw⟩
theorem PS.step (h:PS G base w0 BL L m c bs b2 W A q BA nb cb body w) (hF:Fits G base w') (hW:WSt G w' b2 W A' q') (hg:Grew w A A') (hk:Keep (FW S W A) w w') (hS: ∀j,S j→KT G j):PS G base w0 BL L m c bs b2 W A' q' BA nb cb body w':=by
 have hN:=h.ws.footN
 obtain⟨csW,hWb⟩:=h.ws.blkW
 obtain⟨nA,cA,xA,hA⟩:=h.ws.ownA
 have hrow: ∀{B size r:Nat} {e:TypeId} {v:Value} {xs:List Value},w.ownsRow B e size v r xs→e≠178∧e≠181∧e≠137∧e≠139→e≠174→(∀ a i,A=some a→v.ownBlock=some i→a.block≠i)→w'.ownsRow B e size v r xs:=by
  intro B size r e v xs ho he hw ha
  refine own_keep ho hk (fun i hi hs=>?_)
  rcases hs with hs|rfl|⟨a,ea,rfl⟩
  · obtain⟨t,cs,h1,h2⟩:=h.fits.ktBlk (hS i hs)
    rcases h2 with rfl|rfl|rfl|rfl
    · exact own_ne ho h1 he.1 hi
    · exact own_ne ho h1 he.2.1 hi
    · exact own_ne ho h1 he.2.2.1 hi
    · exact own_ne ho h1 he.2.2.2 hi
  · exact own_ne ho hWb hw hi
  · exact ha a _ ea hi rfl
 refine⟨hF,hW,hrow h.lrow (by decide) (by decide) (fun a i ea hi e=>own_apart hA h.lrow (by decide) _ (show(Value.slice A nA cA).ownBlock=some a.block by rw [ea];rfl) (by rw [e];exact hi)),hrow h.bod (by decide) (by decide) (fun a i ea hi e=>?_),h.bby,fun a x ea ex=>?_,h.gb,?_,Nat.le_trans h.hb hk.size,h.b0,fun j hj=>?_⟩
 · obtain⟨x,ex,hx⟩:=own_some hi
   exact h.ap a x ea ex (by omega)
 · rcases hg a ea with⟨a0,e0,h1⟩|h1
   · have:=h.ap a0 x e0 ex;omega
   · have:=own_lt h.bod ex;omega
 · refine h.keep.trans hk (fun i hi hs=>?_)
   rcases hs with hs|hs
   · exact hS i hs
   · have:=h.fw i hs;omega
 · rcases hj with rfl|⟨a,ea,rfl⟩
   · exact h.fw _ (.inl rfl)
   · rcases hg a ea with⟨a0,e0,h1⟩|h1
     · rw [← h1];exact h.fw _ (.inr ⟨a0,e0,rfl⟩)
     · have:=h.keep.size;omega
theorem PS.app (h:PS G base w0 BL L m c bs b2 W A q BA nb cb body w) (hy:Bytes ys) (ho:w'.ownsRow b2 5 1 (.slice BA' (nb+k) cb') (nb+k) (body.map (Value.int .u8)++ys.map (Value.int .u8))) (hg:w.grownBy w' (Value.slice BA nb cb).ownBlock) (hat:(Value.slice BA' (nb+k) cb').ownBlock=(Value.slice BA nb cb).ownBlock∨(Value.slice BA' (nb+k) cb').ownBlock=some w.heap.size):
 PS G base w0 BL L m c bs b2 W A q BA' (nb+k) cb' (body++ys) w':=by
 have hk:Keep (fun i=>(Value.slice BA nb cb).ownBlock=some i) w w':=(Keep.refl _ w).grown hg (fun k hk=>.inl hk)
 have hG: ∀j,(Value.slice BA nb cb).ownBlock=some j→G j=none:=fun j e=>by obtain⟨x,ex,rfl⟩:=own_some e;exact h.gb x ex
 have hF:=h.fits.keep hk hG
 obtain⟨n,cc,l,r,a1,a2,a3,a4,a5⟩:=h.ws
 refine⟨hF,⟨n,cc,l,r,Bw.RW0.keep a1 hk (fun e=>own_ne h.bod a1.blk (by decide) e) (fun a ea e=>by obtain⟨x,ex,hx⟩:=own_some e;exact h.ap a x ea ex (by omega)),a2,a3,a4,a5⟩,own_keep h.lrow hk (fun j e1 e2=>own_apart h.lrow h.bod (by decide) j e1 e2),by rw [List.map_append];exact ho,h.bby.app hy,fun a x ea ex=>?_,fun x ex=>?_,h.keep.trans hk (fun i hi e=>?_),Nat.le_trans h.hb hk.size,h.b0,h.fw⟩
 · rcases hat with h1|h1
   · rw [ex]at h1
     obtain⟨x0,e0,h2⟩:=own_some h1.symm
     have:=h.ap a x0 ea e0
     omega
   · rw [ex]at h1
     simp [Value.ownBlock]at h1
     have:=Bw.RW0.foot_lt a1 a.block (.inr ⟨a,ea,rfl⟩)
     omega
 · rcases hat with h1|h1
   · rw [ex]at h1
     obtain⟨x0,e0,h2⟩:=own_some h1.symm
     rw [← h2];exact h.gb x0 e0
   · rw [ex]at h1
     simp [Value.ownBlock]at h1
     rw [h1];exact h.fits.none_of (Nat.le_refl _)
 · have:=(h.bod.lt i e).1
   have:=h.b0
   omega
theorem PS.bandAt (h:PS G base w0 BL L m c bs b2 W A q BA nb cb body w) {i:Nat} (hi:i<m): ∃gL b,L=some ⟨gL,0,none⟩∧bs[i]?=some b∧w.cell? ⟨gL,i,none⟩=some (.pointer (some ⟨b,0,none⟩)):=by
 obtain⟨g,e,_,_,hc,_⟩:=own_at h.lrow (by omega)
 have hl:bs.length=m:=by have:=h.lrow.1;simpa using this
 obtain⟨b,hb⟩: ∃b,bs[i]?=some b:=⟨_,List.getElem?_eq_getElem (by omega)⟩
 exact⟨g,b,e,hb,hc i _ (by rw [List.getElem?_map,hb];rfl)⟩
end
theorem PartOk.endAt {G:Nat→Option Kd} {w:World} {P:Pv} (h:PartOk G w P) {i:Nat} (hi:i<P.ps.length): ∃(x o e:Nat) (p:Int×Bool),P.A=some ⟨x,o,none⟩∧w.cell? ⟨x,o+i*2,none⟩=some (.int .i64 e)∧e≤P.bs.length∧P.ps[i]?=some p∧p.1=e:=by
 have hp:P.ps[i]?=some P.ps[i]:=List.getElem?_eq_getElem hi
 have h0:=h.ends.pos i _ hp
 have h1:=(h.ends.low i i _ _ (Nat.le_refl _) hi hp hp).2
 obtain⟨x,o,e,hc⟩:=h.rp.cell (i:=i) (j:=0) hi (passL_at _ _ _ hp).1
 obtain⟨n,hn⟩:=Int.eq_ofNat_of_zero_le h0
 refine⟨x,o,n,_,e,?_,by rw [hn]at h1;exact Int.ofNat_le.1 h1,hp,hn⟩
 rw [hn]at hc
 exact hc
theorem PartOk.endLe {G:Nat→Option Kd} {w:World} {P:Pv} (h:PartOk G w P) {i j:Nat} (hij:i≤j) {p q:Int×Bool} (hp:P.ps[i]?=some p) (hq:P.ps[j]?=some q):p.1≤q.1:=
 (h.ends.low i j p q hij (List.getElem?_eq_some_iff.1 hq).1 hp hq).1
def PkP (G:Nat→Option Kd) (base:Nat) (w:World) (T:Nat) (e:Ending) (w':World):Prop:=
 ∃(A:Option Addr) (n c:Nat) (zs:List Int) (B:Option Addr) (k d:Nat) (ys:List Int),e=.returned (.tuple #[.slice A n c,.slice B k d])∧w'.ownsRow w.heap.size 5 1 (.slice A n c) n (zs.map (Value.int .u8))∧Bytes zs∧n≤14000*T+10∧w'.ownsRow w.heap.size 5 1 (.slice B k d) k (ys.map (Value.int .u8))∧Bytes ys∧k≤100000*T∧Fits G base w'∧Keep (KT G) w w'
def AtNew (k:Nat) (v v':Value):Prop:= ∀j,v'.ownBlock=some j→v.ownBlock=some j∨k≤j
theorem wp_append_rowsA {P:Program} (w:World) {o:Oper} {a:Act} {K:Act→World→Prop} {Q:Exit→Act→World→Prop} (s x:Operand) (t:TypeId)
 (ho:o.op=.call { callee:=.builtin .append,args:=#[s,x],argTypes:=#[t,t] })
 (base:Nat) (e:TypeId) (i:TypeInfo) (z:Value) (size bytes:Nat) (ht:P.underlying t=some (.slice e)) (hi:P.info? e=some i) (hz:i.zero=some z)
 (hsize:i.size=size) (hby:i.bytes=bytes) (hzs:z.cells.size=size) (hsz:0<size)
 {A:Option Addr} {n c:Nat} {xs:List Value} (hown:w.ownsRow base e size (.slice A n c) n xs) (hs:a.eval s=.slice A n c) (cs:Array Value) (hcs:cs.size=size) (hx:a.eval x=.slice (some ⟨w.heap.size,0,none⟩) 1 1) (h1: ∀u∈cs.toList,u.oneCell'=true)
 (h63:n+1≤maxLen) (hbytes:(n+1)*bytes≤140737488355328) (hbase:base≤w.heap.size)
 (h: ∀A' c' w',w'.ownsRow base e size (.slice A' (n+1) c') (n+1) (xs++cs.toList)→Keep (fun i=>(Value.slice A n c).ownBlock=some i) w w'→AtNew w.heap.size (.slice A n c) (.slice A' (n+1) c')→K (a.put o.dst (.slice A' (n+1) c')) w'):
 o.wp P a (w.alloc (.cells cs e)) K Q:=by
 have hb:=Blk.new w e cs
 obtain⟨v',w',hr,h2,h3,h4,h5⟩:=run_append_own_at (P:=P) (w.alloc (.cells cs e)) base t o.type e i z size bytes ht hi hz hsize hby hzs hsz (.slice A n c) n xs (own_keepF hown ((Keep.refl _ w).alloc _)) ⟨w.heap.size,0,none⟩ 1 1 cs.toList (by simp [hcs]) (fun j u hj=>by
  rw [add_lit',Nat.zero_add,hb.cell]
  simpa using hj) h1 h63 hbytes (by simp;omega)
 obtain⟨A',c',rfl⟩:=own_form h2
 unfold Oper.wp execOp
 simp only [ho,resolve,invoke,builtin,Sem.run_bind,Sem.run_pure,Result.andThen_ok,List.map_toArray,List.map_cons,List.map_nil,hs,hx,hr]
 exact h A' c' w' h2 (((Keep.refl _ w).alloc _).grown h3 (fun k hk=>.inl hk)) (fun j hj=>by
  rcases h5 with q|q
  · exact .inl (by rw [← q];exact hj)
  · rw [q]at hj
    injection hj with hj
    have:(w.alloc (.cells cs e)).heap.size=w.heap.size+1:=World.size_alloc _ _
    exact .inr (by omega))
theorem wpList_append_rowsA {P:Program} (w:World) {ops:Array Oper} {rest:List Oper} {o:Oper} {a:Act} {Q:Exit→Act→World→Prop} (hgd:o.guard=none) (s x:Operand) (t:TypeId)
 (ho:o.op=.call { callee:=.builtin .append,args:=#[s,x],argTypes:=#[t,t] })
 (base:Nat) (e:TypeId) (i:TypeInfo) (z:Value) (size bytes:Nat) (ht:P.underlying t=some (.slice e)) (hi:P.info? e=some i) (hz:i.zero=some z)
 (hsize:i.size=size) (hby:i.bytes=bytes) (hzs:z.cells.size=size) (hsz:0<size)
 {A:Option Addr} {n c:Nat} {xs:List Value} (hown:w.ownsRow base e size (.slice A n c) n xs) (hs:a.eval s=.slice A n c) (cs:Array Value) (hcs:cs.size=size) (hx:a.eval x=.slice (some ⟨w.heap.size,0,none⟩) 1 1) (h1: ∀u∈cs.toList,u.oneCell'=true)
 (h63:n+1≤maxLen) (hbytes:(n+1)*bytes≤140737488355328) (hbase:base≤w.heap.size)
 (h: ∀A' c' w',w'.ownsRow base e size (.slice A' (n+1) c') (n+1) (xs++cs.toList)→Keep (fun i=>(Value.slice A n c).ownBlock=some i) w w'→AtNew w.heap.size (.slice A n c) (.slice A' (n+1) c')→wpList P ops Q rest (a.put o.dst (.slice A' (n+1) c')) w'):
 wpList P ops Q (o::rest) a (w.alloc (.cells cs e)):=
 wpList_plain hgd fun _ hK=>wp_append_rowsA w s x t ho base e i z size bytes ht hi hz hsize hby hzs hsz hown hs cs hcs hx h1 h63 hbytes hbase fun A' c' w' h2 h3 h4=>hK _ _ (h A' c' w' h2 h3 h4)
theorem wp_append_manyA {P:Program} (w:World) {o:Oper} {a:Act} {K:Act→World→Prop} {Q:Exit→Act→World→Prop} (s x:Operand) (t:TypeId)
 (ho:o.op=.call { callee:=.builtin .append,args:=#[s,x],argTypes:=#[t,t] })
 (base:Nat) (e:TypeId) (i:TypeInfo) (z:Value) (size bytes:Nat) (ht:P.underlying t=some (.slice e)) (hi:P.info? e=some i) (hz:i.zero=some z)
 (hsize:i.size=size) (hby:i.bytes=bytes) (hzs:z.cells.size=size) (hsz:0<size)
 {A:Option Addr} {n c:Nat} {xs:List Value} (hown:w.ownsRow base e size (.slice A n c) n xs) (hs:a.eval s=.slice A n c) {B:Option Addr} {m d:Nat} {news:List Value} (hr:RdS w B m size news) (hx:a.eval x=.slice B m d) (h1: ∀u∈news,u.oneCell'=true)
 (h63:n+m≤maxLen) (hbytes:(n+m)*bytes≤140737488355328) (hbase:base≤w.heap.size)
 (h: ∀A' c' w',w'.ownsRow base e size (.slice A' (n+m) c') (n+m) (xs++news)→Keep (fun i=>(Value.slice A n c).ownBlock=some i) w w'→AtNew w.heap.size (.slice A n c) (.slice A' (n+m) c')→K (a.put o.dst (.slice A' (n+m) c')) w'):
 o.wp P a w K Q:=by
 unfold Oper.wp execOp
 rcases B with _|ad
 · have hm:m=0:=by
    rcases Nat.eq_zero_or_pos m with h0|h0
    · exact h0
    · obtain⟨_,_,h,_⟩:=hr.2 h0;cases h
   subst hm
   have hn:news=[]:=List.eq_nil_of_length_eq_zero (by have:=hr.1;omega)
   subst hn
   simp only [ho,resolve,invoke,builtin,Sem.run_bind,Sem.run_pure,Result.andThen_ok,List.map_toArray,List.map_cons,List.map_nil,hs,hx,run_append_of_nil w base t o.type e i size ht hi _ n xs hown d]
   exact h A c w (by simpa using hown) (Keep.refl _ _) (fun j hj=>.inl hj)
 · obtain⟨v',w',hrun,h2,h3,h4,h5⟩:=run_append_own_at (P:=P) w base t o.type e i z size bytes ht hi hz hsize hby hzs hsz (.slice A n c) n xs hown ad m d news hr.1 (fun j u hj=>by
    have hj':=(List.getElem?_eq_some_iff.1 hj).1
    have hm:0<m:=by
     rcases Nat.eq_zero_or_pos m with h0|h0
     · have:=hr.1;rw [h0]at this;omega
     · exact h0
    obtain⟨b,o',e',hc⟩:=hr.2 hm
    injection e' with e'
    subst e'
    rw [add_lit']
    exact hc j u hj) h1 h63 hbytes hbase
   obtain⟨A',c',rfl⟩:=own_form h2
   simp only [ho,resolve,invoke,builtin,Sem.run_bind,Sem.run_pure,Result.andThen_ok,List.map_toArray,List.map_cons,List.map_nil,hs,hx,hrun]
   exact h A' c' w' h2 ((Keep.refl _ w).grown h3 (fun k hk=>.inl hk)) (fun j hj=>by
    rcases h5 with e|e
    · exact .inl (by rw [← e];exact hj)
    · rw [e]at hj
      injection hj with hj
      exact .inr (by omega))
theorem wpList_append_manyA {P:Program} (w:World) {ops:Array Oper} {rest:List Oper} {o:Oper} {a:Act} {Q:Exit→Act→World→Prop} (hgd:o.guard=none) (s x:Operand) (t:TypeId)
 (ho:o.op=.call { callee:=.builtin .append,args:=#[s,x],argTypes:=#[t,t] })
 (base:Nat) (e:TypeId) (i:TypeInfo) (z:Value) (size bytes:Nat) (ht:P.underlying t=some (.slice e)) (hi:P.info? e=some i) (hz:i.zero=some z)
 (hsize:i.size=size) (hby:i.bytes=bytes) (hzs:z.cells.size=size) (hsz:0<size)
 {A:Option Addr} {n c:Nat} {xs:List Value} (hown:w.ownsRow base e size (.slice A n c) n xs) (hs:a.eval s=.slice A n c) {B:Option Addr} {m d:Nat} {news:List Value} (hr:RdS w B m size news) (hx:a.eval x=.slice B m d) (h1: ∀u∈news,u.oneCell'=true)
 (h63:n+m≤maxLen) (hbytes:(n+m)*bytes≤140737488355328) (hbase:base≤w.heap.size)
 (h: ∀A' c' w',w'.ownsRow base e size (.slice A' (n+m) c') (n+m) (xs++news)→Keep (fun i=>(Value.slice A n c).ownBlock=some i) w w'→AtNew w.heap.size (.slice A n c) (.slice A' (n+m) c')→wpList P ops Q rest (a.put o.dst (.slice A' (n+m) c')) w'):
 wpList P ops Q (o::rest) a w:=
 wpList_plain hgd fun _ hK=>wp_append_manyA w s x t ho base e i z size bytes ht hi hz hsize hby hzs hsz hown hs hr hx h1 h63 hbytes hbase fun A' c' w' h2 h3 h4=>hK _ _ (h A' c' w' h2 h3 h4)
def Mono (G G':Nat→Option Kd):Prop:= ∀j q,G j=some q→G' j=some q
def Nx (G:Nat→Option Kd) (w:World) (G':Nat→Option Kd) (w':World):Prop:=Mono G G'∧ ∃S,Keep S w w'∧ ∀j,S j→G j≠some .ro
section
variable {G G' G2:Nat→Option Kd} {base:Nat} {w w' w2:World}
theorem Mono.refl :Mono G G:=fun _ _ h=>h
theorem Nx.refl :Nx G w G w:=⟨Mono.refl,fun _=>False,Keep.refl _ _,fun _ h=>h.elim⟩
theorem Nx.trans (h:Nx G w G' w') (k:Nx G' w' G2 w2):Nx G w G2 w2:=by
 obtain⟨m1,S,k1,s1⟩:=h
 obtain⟨m2,T,k2,s2⟩:=k
 refine⟨fun j q hq=>m2 j q (m1 j q hq),fun j=>S j∨T j,(k1.mono (fun _ _ h=>.inl h)).trans k2 (fun _ _ h=>.inr h),fun j hj hr=>?_⟩
 rcases hj with h|h
 · exact s1 j h hr
 · exact s2 j h (m1 j _ hr)
theorem Nx.keepF (hk:Keep (fun _=>False) w w'):Nx G w G w':=⟨Mono.refl,_,hk,fun _ h=>h.elim⟩
theorem Nx.mono (hm:Mono G G'):Nx G w G' w:=⟨hm,fun _=>False,Keep.refl _ _,fun _ h=>h.elim⟩
theorem KdAt.mono {b:Nat} {k:Kd} (hm:Mono G G') (h:KdAt G w b k):KdAt G' w b k:=by
 cases k with
 |ro=>trivial
 |node m=>exact h
 |tree n=>
  obtain⟨A,m,c,fr,h1,h2,h3,h4,h5⟩:=h
  exact⟨A,m,c,fr,h1,h2,h3,h4,fun hm'=>by obtain⟨g,e,hg⟩:=h5 hm';exact⟨g,e,hm _ _ hg⟩⟩
 |part n=>
  obtain⟨cs,h1,h2,h3⟩:=h
  exact⟨cs,h1,h2,fun i hi=>by
   obtain⟨P,h4,h5⟩:=h3 i hi
   exact⟨P,h4,h5.pl,h5.np,h5.nb,h5.cb,h5.ends,h5.bytes,h5.rp,h5.rb,fun a e=>hm _ _ (h5.ga a e),fun a e=>hm _ _ (h5.gb a e),h5.l3,h5.l17⟩⟩
 |band n=>
  obtain⟨pl,A,c,gi,gu,st,h1,h2,h3,h4,h5,h6,h7,h8⟩:=h
  exact⟨pl,A,c,gi,gu,st,h1,h2,h3,h4,h5,fun hn=>by obtain⟨g,e,hg⟩:=h6 hn;exact⟨g,e,hm _ _ hg⟩,hm _ _ h7,hm _ _ h8⟩
def roF (G:Nat→Option Kd) (a b j:Nat):Option Kd:=match G j with
 |some q=>some q
 |none=>if a≤j∧j<b then some .ro else none
theorem roF_mono (a b:Nat):Mono G (roF G a b):=fun j q h=>by unfold roF;rw [h]
theorem roF_in {a b j:Nat} (h:G j=none) (h1:a≤j) (h2:j<b):roF G a b j=some .ro:=by unfold roF;rw [h];exact if_pos ⟨h1,h2⟩
theorem roF_out {a b j:Nat} (h:G j=none) (h1:j<a∨b≤j):roF G a b j=none:=by unfold roF;rw [h];exact if_neg (by omega)
theorem Fits.roF (h:Fits G base w) {a b:Nat} (ha:base≤a) (hb:b≤w.heap.size):Fits (roF G a b) base w:=
 ⟨fun j q hj=>by
  cases e:G j with
  |some q'=>
   have e2:Go.Proofs.YthfogcgdijmaoaaGreat.roF G a b j=some q':=by unfold Go.Proofs.YthfogcgdijmaoaaGreat.roF;rw [e]
   rw [e2]at hj
   injection hj with hj
   subst hj
   obtain⟨a1,a2,a3⟩:=h.at_ j _ e
   exact⟨a1,a2,a3.mono (roF_mono a b)⟩
  |none=>
   by_cases h1:a≤j∧j<b
   · rw [roF_in e h1.1 h1.2]at hj
     injection hj with hj
     subst hj
     exact⟨by omega,by omega,trivial⟩
   · rw [roF_out e (by omega)]at hj;cases hj⟩
def Ro (G:Nat→Option Kd) (w:World) (A:Option Addr) (n k:Nat) (xs:List Value):Prop:=RdS w A n k xs∧ ∀a,A=some a→G a.block=some .ro
def RoB (G:Nat→Option Kd) (w:World) (b:Nat) (t:TypeId) (cs:Array Value):Prop:=Blk w b t cs∧G b=some .ro
theorem Ro.nx {A:Option Addr} {n k:Nat} {xs:List Value} (h:Ro G w A n k xs) (hx:Nx G w G' w'):Ro G' w' A n k xs:=by
 obtain⟨m,S,k,s⟩:=hx
 exact⟨h.1.keep k (fun a e hs=>s _ hs (h.2 a e)),fun a e=>m _ _ (h.2 a e)⟩
theorem RoB.nx {b:Nat} {t:TypeId} {cs:Array Value} (h:RoB G w b t cs) (hx:Nx G w G' w'):RoB G' w' b t cs:=by
 obtain⟨m,S,k,s⟩:=hx
 exact⟨h.1.keep k (fun hs=>s _ hs h.2),m _ _ h.2⟩
end
structure Un where
 e:TypeId
 size:Nat
 A:Option Addr
 n:Nat
 c:Nat
 xs:List Value
structure Wk (t91:TypeId) (G:Nat→Option Kd) (w0:World) (us:List Un) (bl:Option (Nat×Array Value)) (w:World):Prop where
 fits:Fits G w0.heap.size w
 keep:Keep (fun _=>False) w0 w
 un: ∀(i:Nat) (u:Un),us[i]?=some u→w.ownsRow w0.heap.size u.e u.size (.slice u.A u.n u.c) u.n u.xs∧ ∀a,u.A=some a→G a.block=none
 ap: ∀(i j:Nat) (u v:Un),i≠j→us[i]?=some u→us[j]?=some v→ ∀a b,u.A=some a→v.A=some b→a.block≠b.block
 bk: ∀g cs,bl=some (g,cs)→Blk w g t91 cs∧G g=none∧w0.heap.size≤g∧ ∀(i:Nat) (u:Un) (a:Addr),us[i]?=some u→u.A=some a→a.block≠g
section
variable {t91 :TypeId} {G G':Nat→Option Kd} {w0 w w':World} {us:List Un} {bl:Option (Nat×Array Value)}
theorem own_blt {e:TypeId} {B size n c:Nat} {l:List Value} {A:Option Addr} (h:w.ownsRow B e size (.slice A n c) n l) {a:Addr} (e':A=some a):B≤a.block∧a.block<w.heap.size:=by subst e';exact h.lt a.block (by simp [Value.ownBlock])
theorem Wk.call (h:Wk t91 G w0 us bl w) (hk:Keep (fun _=>False) w w') (hx:Ext w.heap.size G G') (hF:Fits G' w0.heap.size w'):Wk t91 G' w0 us bl w'∧Nx G w G' w':=by
 refine⟨⟨hF,h.keep.trans hk (fun _ _ h=>h),fun i u hu=>?_,h.ap,fun g cs hg=>?_⟩,hx.2,_,hk,fun _ h=>h.elim⟩
 · obtain⟨h1,h2⟩:=h.un i u hu
   exact⟨own_keepF h1 hk,fun a e=>by rw [hx.1 _ (own_blt h1 e).2];exact h2 a e⟩
 · obtain⟨h1,h2,h3,h4⟩:=h.bk g cs hg
   exact⟨h1.keep hk id,by rw [hx.1 _ h1.lt];exact h2,h3,h4⟩
theorem Wk.callF (h:Wk t91 G w0 us bl w) (hk:Keep (fun _=>False) w w'):Wk t91 G w0 us bl w'∧Nx G w G w':=h.call hk (Ext.refl _) (h.fits.keepF hk)
theorem Wk.callRo (h:Wk t91 G w0 us bl w) (hk:Keep (fun _=>False) w w'):Wk t91 (roF G w.heap.size w'.heap.size) w0 us bl w'∧Nx G w (roF G w.heap.size w'.heap.size) w':=
 h.call hk ⟨fun j hj=>by
  cases e:G j with
  |some q=>exact roF_mono _ _ _ _ e
  |none=>exact roF_out e (.inl hj),roF_mono _ _⟩ ((h.fits.keepF hk).roF h.keep.size (Nat.le_refl _))
theorem Wk.ro (h:Wk t91 G w0 us bl w) {A:Option Addr} {n k:Nat} {xs:List Value} (hr:RdS w' A n k xs) (hA: ∀a,A=some a→w.heap.size≤a.block∧a.block<w'.heap.size):Ro (roF G w.heap.size w'.heap.size) w' A n k xs:=
 ⟨hr,fun a e=>roF_in (h.fits.none_of (hA a e).1) (hA a e).1 (hA a e).2⟩
theorem Wk.roB (h:Wk t91 G w0 us bl w) {b:Nat} {t:TypeId} {cs:Array Value} (hb:Blk w' b t cs) (h1:w.heap.size≤b):RoB (roF G w.heap.size w'.heap.size) w' b t cs:=
 ⟨hb,roF_in (h.fits.none_of h1) h1 hb.lt⟩
theorem Wk.row (h:Wk t91 G w0 us bl w) (i:Nat) {u u':Un} (hu:us[i]?=some u) (ho:w'.ownsRow w0.heap.size u'.e u'.size (.slice u'.A u'.n u'.c) u'.n u'.xs) (hk:Keep (fun j=>(Value.slice u.A u.n u.c).ownBlock=some j) w w') (hat:AtNew w.heap.size (.slice u.A u.n u.c) (.slice u'.A u'.n u'.c)):Wk t91 G w0 (us.set i u') bl w'∧Nx G w G w':=by
 obtain⟨hu1,hu2⟩:=h.un i u hu
 have hS: ∀j,(Value.slice u.A u.n u.c).ownBlock=some j→G j=none∧w0.heap.size≤j:=fun j e=>by
  obtain⟨a,ea,rfl⟩:=own_some e
  exact⟨hu2 a ea,(own_blt hu1 ea).1⟩
 have hnew: ∀a,u'.A=some a→(∃ a0,u.A=some a0∧a0.block=a.block)∨w.heap.size≤a.block:=fun a ea=>by
  rcases hat a.block (by rw [ea];rfl)with e|e
  · exact .inl (own_some e)
  · exact .inr e
 have hil:i<us.length:=(List.getElem?_eq_some_iff.1 hu).1
 refine⟨⟨h.fits.keep hk (fun j hj=>(hS j hj).1),keep_app h.keep hu1 (Nat.le_refl _) hk,fun j v hv=>?_,fun j k v x hjk hv hx a b ea eb=>?_,fun g cs hg=>?_⟩,Mono.refl,_,hk,fun j hj e=>by rw [(hS j hj).1]at e;cases e⟩
 · by_cases e:i=j
   · subst e
     rw [List.getElem?_set_self hil]at hv
     injection hv with hv
     subst hv
     refine⟨ho,fun a ea=>?_⟩
     rcases hnew a ea with⟨a0,e0,e1⟩|e1
     · rw [← e1];exact hu2 a0 e0
     · exact h.fits.none_of e1
   · rw [List.getElem?_set_ne e]at hv
     obtain⟨h1,h2⟩:=h.un j v hv
     refine⟨own_keep h1 hk (fun q e1 e2=>?_),h2⟩
     obtain⟨a,ea,e3⟩:=own_some e1
     obtain⟨b,eb,e4⟩:=own_some e2
     exact h.ap i j u v e hu hv b a eb ea (by omega)
 · have key: ∀(k:Nat) (x:Un) (a b:Addr),i≠k→us[k]?=some x→u'.A=some a→x.A=some b→a.block≠b.block:=fun k x a b hik hx ea eb=>by
    rcases hnew a ea with⟨a0,e0,e1⟩|e1
    · rw [← e1];exact h.ap i k u x hik hu hx a0 b e0 eb
    · have:=(own_blt (h.un k x hx).1 eb).2
      omega
   by_cases e1:i=j
   · subst e1
     rw [List.getElem?_set_self hil]at hv
     injection hv with hv
     subst hv
     rw [List.getElem?_set_ne hjk]at hx
     exact key k x a b hjk hx ea eb
   · rw [List.getElem?_set_ne e1]at hv
     by_cases e2:i=k
     · subst e2
       rw [List.getElem?_set_self hil]at hx
       injection hx with hx
       subst hx
       exact(key j v b a e1 hv eb ea).symm
     · rw [List.getElem?_set_ne e2]at hx
       exact h.ap j k v x hjk hv hx a b ea eb
 · obtain⟨h1,h2,h3,h4⟩:=h.bk g cs hg
   refine⟨h1.keep hk (fun e=>?_),h2,h3,fun j v a hv ea=>?_⟩
   · obtain⟨a,ea,e3⟩:=own_some e
     exact h4 i u a hu ea e3
   · by_cases e:i=j
     · subst e
       rw [List.getElem?_set_self hil]at hv
       injection hv with hv
       subst hv
       rcases hnew a ea with⟨a0,e0,e1⟩|e1
       · rw [← e1];exact h4 i u a0 hu e0
       · have:=h1.lt;omega
     · rw [List.getElem?_set_ne e]at hv
       exact h4 j v a hv ea
theorem Wk.put {g:Nat} {cs cs':Array Value} (h:Wk t91 G w0 us (some (g,cs)) w) (hb:Blk w' g t91 cs') (hk:Keep (fun j=>j=g) w w'):Wk t91 G w0 us (some (g,cs')) w'∧Nx G w G w':=by
 obtain⟨h1,h2,h3,h4⟩:=h.bk g cs rfl
 refine⟨⟨h.fits.keep hk (fun j e=>by rw [show j=g from e];exact h2),h.keep.new hk (fun j e=>by rw [show j=g from e];exact h3),fun j u hu=>?_,h.ap,fun g' cs2 e=>?_⟩,Mono.refl,_,hk,fun j e hr=>by rw [show j=g from e,h2]at hr;cases hr⟩
 · obtain⟨a1,a2⟩:=h.un j u hu
   refine⟨own_keep a1 hk (fun q e1 e2=>?_),a2⟩
   obtain⟨a,ea,e3⟩:=own_some e1
   exact h4 j u a hu ea (by rw [e3];exact e2)
 · injection e with e
   injection e with e e'
   subst e e'
   exact⟨hb,h2,h3,h4⟩
theorem Wk.set {g:Nat} {cs:Array Value} (h:Wk t91 G w0 us (some (g,cs)) w) (i:Nat) (v:Value):Wk t91 G w0 us (some (g,cs.setIfInBounds i v)) (w.setCell ⟨g,i,none⟩ v)∧Nx G w G (w.setCell ⟨g,i,none⟩ v):=
 h.put ((h.bk g cs rfl).1.set_ i v) (Keep.set1 w g i v)
theorem Wk.newB (h:Wk t91 G w0 us none w) (cs:Array Value):Wk t91 G w0 us (some (w.heap.size,cs)) (w.alloc (.cells cs t91))∧Nx G w G (w.alloc (.cells cs t91)):=by
 have h1:=(h.callF ((Keep.refl _ w).alloc (.cells cs t91))).1
 refine⟨⟨h1.fits,h1.keep,h1.un,h1.ap,fun g cs' e=>?_⟩,Nx.keepF ((Keep.refl _ w).alloc _)⟩
 injection e with e
 injection e with e e'
 subst e e'
 refine⟨Blk.new w t91 cs,h.fits.none_of (Nat.le_refl _),h.keep.size,fun i u a hu ea=>?_⟩
 have:=(own_blt (h.un i u hu).1 ea).2
 omega
theorem Wk.noB (h:Wk t91 G w0 us bl w):Wk t91 G w0 us none w:=⟨h.fits,h.keep,h.un,h.ap,fun _ _ e=>by cases e⟩
theorem Wk.nil (h:Wk t91 G w0 us bl w) (e:TypeId) (size:Nat):Wk t91 G w0 (us++[⟨e,size,none,0,0,[]⟩]) bl w:=by
 have key: ∀(i:Nat) (u:Un),(us++[⟨e,size,none,0,0,[]⟩])[i]?=some u→us[i]?=some u∨u=⟨e,size,none,0,0,[]⟩:=fun i u hu=>by
  rcases Nat.lt_trichotomy i us.length with h1|h1|h1
  · rw [List.getElem?_append_left h1]at hu;exact .inl hu
  · subst h1;simp at hu;exact .inr hu.symm
  · rw [List.getElem?_append_right (by omega),List.getElem?_eq_none (by simp;omega)]at hu;cases hu
 refine⟨h.fits,h.keep,fun i u hu=>?_,fun i j u v hij hu hv a b ea eb=>?_,fun g cs hg=>?_⟩
 · rcases key i u hu with h1|rfl
   · exact h.un i u h1
   · exact⟨⟨by simp,.inl ⟨rfl,rfl⟩⟩,fun a e=>by cases e⟩
 · rcases key i u hu with h1|rfl
   · rcases key j v hv with h2|rfl
     · exact h.ap i j u v hij h1 h2 a b ea eb
     · cases eb
   · cases ea
 · obtain⟨h1,h2,h3,h4⟩:=h.bk g cs hg
   refine⟨h1,h2,h3,fun i u a hu ea=>?_⟩
   rcases key i u hu with h5|rfl
   · exact h4 i u a h5 ea
   · cases ea
theorem Wk.fin {u:Un} (h:Wk t91 G w0 (us++[u]) bl w) (hsz:0<u.size): ∃G',Wk t91 G' w0 us bl w∧Nx G w G' w∧Ro G' w u.A u.n u.size u.xs∧w.ownsRow w0.heap.size u.e u.size (.slice u.A u.n u.c) u.n u.xs:=by
 have hu:(us++[u])[us.length]?=some u:=by simp
 obtain⟨h1,h2⟩:=h.un _ u hu
 have hle: ∀(i:Nat) (v:Un),us[i]?=some v→(us++[u])[i]?=some v∧i≠us.length:=fun i v hv=>by
  have:=(List.getElem?_eq_some_iff.1 hv).1
  exact⟨by rw [List.getElem?_append_left this];exact hv,by omega⟩
 have hr:=RdS.of_own h1
 cases hA:u.A with
 |none=>
  refine⟨G,⟨h.fits,h.keep,fun i v hv=>h.un i v (hle i v hv).1,fun i j v x hij hv hx=>h.ap i j v x hij (hle i v hv).1 (hle j x hx).1,fun g cs hg=>?_⟩,Nx.refl,by rw [← hA];exact⟨hr,fun a e=>by rw [hA]at e;cases e⟩,by rw [← hA];exact h1⟩
  obtain⟨a1,a2,a3,a4⟩:=h.bk g cs hg
  exact⟨a1,a2,a3,fun i v a hv ea=>a4 i v a (hle i v hv).1 ea⟩
 |some a=>
  have hb:=own_blt h1 hA
  have hn:=h2 a hA
  have hne: ∀(i:Nat) (v:Un) (b:Addr),us[i]?=some v→v.A=some b→b.block≠a.block:=fun i v b hv eb=>h.ap i us.length v u (hle i v hv).2 (hle i v hv).1 hu b a eb hA
  refine⟨upd G a.block .ro,⟨h.fits.add hn hb.1 hb.2 trivial,h.keep,fun i v hv=>?_,fun i j v x hij hv hx=>h.ap i j v x hij (hle i v hv).1 (hle j x hx).1,fun g cs hg=>?_⟩,Nx.mono (fun j q hq=>upd_some hn hq),by rw [← hA];exact⟨hr,fun a' e=>by rw [hA]at e;injection e with e;rw [← e];exact upd_self⟩,by rw [← hA];exact h1⟩
  · obtain⟨a1,a2⟩:=h.un i v (hle i v hv).1
    exact⟨a1,fun b eb=>by rw [upd_ne (hne i v b hv eb)];exact a2 b eb⟩
  · obtain⟨a1,a2,a3,a4⟩:=h.bk g cs hg
    exact⟨a1,by rw [upd_ne (fun e=>a4 us.length u a hu hA e.symm)];exact a2,a3,fun i v b hv eb=>a4 i v b (hle i v hv).1 eb⟩
theorem Wk.at_ (h:Wk t91 G w0 us bl w) (i:Nat) {u:Un} (hu:us[i]?=some u):w.ownsRow w0.heap.size u.e u.size (.slice u.A u.n u.c) u.n u.xs:=(h.un i u hu).1
theorem Wk.start (w:World) (t91:TypeId):Wk t91 (fun _=>none) w [] none w:=⟨⟨fun b k h=>by cases h⟩,Keep.refl _ _,fun i u h=>by simp at h,fun i j u v _ h=>by simp at h,fun _ _ e=>by cases e⟩
end
structure Plc where
 r:Rc
 kind:Nat
 band:Nat
 k:Nat
 b:Nat
def Plc.cells (x:Plc):List Value:=[.int .i64 x.r.x0,.int .i64 x.r.y0,.int .i64 x.r.x1,.int .i64 x.r.y1,.int .i64 x.kind,.int .i64 x.band,.int .i64 x.k,ptrV x.b]
theorem Plc.len (x:Plc):x.cells.length=8:=rfl
theorem Plc.one (x:Plc): ∀v∈x.cells,v.oneCell'=true:=by
 intro v hv
 unfold Plc.cells at hv
 simp at hv
 rcases hv with rfl|rfl|rfl|rfl|rfl|rfl|rfl|rfl<;>rfl
theorem info_plc :(Tryz.prog.info? 108).map (fun i=>(i.zero,i.size,i.bytes))=some (some (.agg #[.int .i64 0,.int .i64 0,.int .i64 0,.int .i64 0,.int .i64 0,.int .i64 0,.int .i64 0,.pointer none]),8,64):=by kernel_rfl
structure Hd1 where
 A:Option Addr
 n:Nat
 c:Nat
 bs:List Nat
def Hd1.val (x:Hd1):Value:=.slice x.A x.n x.c
structure Hd2 where
 A:Option Addr
 n:Nat
 c:Nat
 ds:List Hd1
def Hd2.val (x:Hd2):Value:=.slice x.A x.n x.c
structure Pln where
 part:Rc
 RA:Option Addr
 nR:Nat
 cR:Nat
 LA:Option Addr
 cL:Nat
 ls:List Plc
 HA:Option Addr
 cH:Nat
 hs:List Hd2
def Pln.cells (P:Pln):List Value:=[.int .i64 P.part.x0,.int .i64 P.part.y0,.int .i64 P.part.x1,.int .i64 P.part.y1,.slice P.RA P.nR P.cR,.slice P.LA P.ls.length P.cL,.slice P.HA P.hs.length P.cH]
theorem Pln.len (x:Pln):x.cells.length=7:=rfl
theorem Pln.one (x:Pln): ∀v∈x.cells,v.oneCell'=true:=by
 intro v hv
 unfold Pln.cells at hv
 simp at hv
 rcases hv with rfl|rfl|rfl|rfl|rfl|rfl|rfl<;>rfl
theorem info_pln :(Tryz.prog.info? 91).map (fun i=>(i.zero,i.size,i.bytes))=some (some (.agg #[.int .i64 0,.int .i64 0,.int .i64 0,.int .i64 0,.slice none 0 0,.slice none 0 0,.slice none 0 0]),7,104):=by kernel_rfl
theorem info_h3 :(Tryz.prog.info? 87).map (fun i=>(i.zero,i.size,i.bytes))=some (some (.slice none 0 0),1,24):=by kernel_rfl
theorem info_h2 :(Tryz.prog.info? 86).map (fun i=>(i.zero,i.size,i.bytes))=some (some (.slice none 0 0),1,24):=by kernel_rfl
theorem info_h1 :(Tryz.prog.info? 105).map (fun i=>(i.zero,i.size,i.bytes))=some (some (.pointer none),1,8):=by kernel_rfl
def PlcOk (G:Nat→Option Kd) (RS:List Rc) (x:Plc):Prop:=x.kind≤3∧(∃ q,RS[x.band]?=some q∧x.r.inn q)∧ ∃n,G x.b=some (.band n)∧x.k<n
structure Hd1Ok (G:Nat→Option Kd) (base NB:Nat) (w:World) (x:Hd1):Prop where
 own:w.ownsRow base 105 1 (.slice x.A x.n x.c) x.n (x.bs.map ptrV)
 ro: ∀a,x.A=some a→G a.block=some .ro
 n3:x.n≤3
 bd: ∀b∈x.bs,∃n,G b=some (.band n)∧n≤NB
structure Hd2Ok (G:Nat→Option Kd) (base NB:Nat) (w:World) (x:Hd2):Prop where
 ro:Ro G w x.A x.n 1 (x.ds.map Hd1.val)
 ok: ∀d∈x.ds,Hd1Ok G base NB w d
def HdsOk (G:Nat→Option Kd) (base NB:Nat) (w:World) (part:Rc) (lev prec:Nat) (hs:List Hd2):Prop:= ∀r d,hs[r]?=some d→(d.n:Int)=(part.reso lev r).preW prec*(part.reso lev r).preH prec∧Hd2Ok G base NB w d
structure PlnOk (G:Nat→Option Kd) (base NB:Nat) (w:World) (lev prec:Nat) (P:Pln):Prop where
 nR:P.nR=1+3*lev
 rects:Ro G w P.RA P.nR 4 (rcs (rectsR P.part lev lev))
 places:Ro G w P.LA P.ls.length 8 (fl Plc.cells P.ls)
 heads:Ro G w P.HA P.hs.length 1 (P.hs.map Hd2.val)
 hl:P.hs.length=lev+1
 ln:P.ls.length≤40000
 pok: ∀x∈P.ls,PlcOk G (rectsR P.part lev lev) x
 hok:HdsOk G base NB w P.part lev prec P.hs
section
variable {G G':Nat→Option Kd} {base NB:Nat} {w w':World}
theorem PlcOk.mono {RS:List Rc} {x:Plc} (h:PlcOk G RS x) (hm:Mono G G'):PlcOk G' RS x:=by
 obtain⟨h1,h2,n,h3,h4⟩:=h
 exact⟨h1,h2,n,hm _ _ h3,h4⟩
theorem Hd1Ok.nx {x:Hd1} (h:Hd1Ok G base NB w x) (hx:Nx G w G' w'):Hd1Ok G' base NB w' x:=by
 obtain⟨m,S,k,s⟩:=hx
 refine⟨own_keep h.own k (fun j e hs=>?_),fun a e=>m _ _ (h.ro a e),h.n3,fun b hb=>?_⟩
 · obtain⟨a,ea,rfl⟩:=own_some e
   exact s _ hs (h.ro a ea)
 · obtain⟨n,h1,h2⟩:=h.bd b hb
   exact⟨n,m _ _ h1,h2⟩
theorem Hd2Ok.nx {x:Hd2} (h:Hd2Ok G base NB w x) (hx:Nx G w G' w'):Hd2Ok G' base NB w' x:=⟨h.ro.nx hx,fun d hd=>(h.ok d hd).nx hx⟩
theorem HdsOk.nx {part:Rc} {lev prec:Nat} {hs:List Hd2} (h:HdsOk G base NB w part lev prec hs) (hx:Nx G w G' w'):HdsOk G' base NB w' part lev prec hs:=fun r d hd=>⟨(h r d hd).1,(h r d hd).2.nx hx⟩
theorem PlnOk.nx {lev prec:Nat} {P:Pln} (h:PlnOk G base NB w lev prec P) (hx:Nx G w G' w'):PlnOk G' base NB w' lev prec P:=
 ⟨h.nR,h.rects.nx hx,h.places.nx hx,h.heads.nx hx,h.hl,h.ln,fun x hm=>(h.pok x hm).mono hx.1,h.hok.nx hx⟩
theorem HdsOk.nil {part:Rc} {lev prec:Nat}:HdsOk G base NB w part lev prec []:=fun r d h=>by simp at h
theorem HdsOk.snoc {part:Rc} {lev prec:Nat} {hs:List Hd2} {x:Hd2} (h:HdsOk G base NB w part lev prec hs) (hx:Hd2Ok G base NB w x) (hn:(x.n:Int)=(part.reso lev hs.length).preW prec*(part.reso lev hs.length).preH prec):HdsOk G base NB w part lev prec (hs++[x]):=by
 intro r d hd
 rcases Nat.lt_trichotomy r hs.length with h1|h1|h1
 · rw [List.getElem?_append_left h1]at hd;exact h r d hd
 · subst h1
   simp at hd
   subst hd
   exact⟨hn,hx⟩
 · rw [List.getElem?_append_right (by omega),List.getElem?_eq_none (by simp;omega)]at hd;cases hd
end
def fst18 (k:Nat):Nat:=if k=0 then 0 else 1+3*(k-1)
theorem fst_succ (k:Nat) (r:Rc) (L:Nat):fst18 (k+1)=fst18 k+(bandsR r L k).length:=by
 rw [bandsR_len]
 unfold fst18
 cases k with
 |zero=>rfl
 |succ k=>rw [if_neg (by omega),if_neg (by omega),if_neg (by omega)];omega
theorem rects_pre (r:Rc) (L:Nat): ∀k m,k≤m→ ∃t,rectsR r L m=rectsR r L k++t
 |k,0,h=>by
  obtain rfl:k=0:=by omega
  exact⟨[],by simp⟩
 |k,m+1,h=>by
  by_cases e:k=m+1
  · subst e;exact⟨[],by simp⟩
  · obtain⟨t,ht⟩:=rects_pre r L k m (by omega)
    exact⟨t++bandsR r L (m+1),by show rectsR r L m++_=_;rw [ht,List.append_assoc]⟩
theorem rects_take (r:Rc) (L k:Nat) (hk:k≤L):(rectsR r L L).take (fst18 k)++bandsR r L k=(rectsR r L L).take (fst18 (k+1)):=by
 obtain⟨t,ht⟩:=rects_pre r L k L hk
 have h1:(rectsR r L k).length=fst18 (k+1):=by rw [rects_len];unfold fst18;rw [if_neg (by omega)];omega
 have h2:(rectsR r L L).take (fst18 (k+1))=rectsR r L k:=by rw [ht,←h1,List.take_left]
 rw [h2]
 cases k with
 |zero=>rfl
 |succ k=>
  have h3:rectsR r L (k+1)=rectsR r L k++bandsR r L (k+1):=rfl
  have h4:(rectsR r L k).length=fst18 (k+1):=by rw [rects_len];unfold fst18;rw [if_neg (by omega)];omega
  rw [ht,h3,List.append_assoc,←h4,List.take_left]
theorem rects_at (r:Rc) (L k:Nat) (hk:k≤L) {b:Nat} {q:Rc} (hb:(bandsR r L k)[b]?=some q):(rectsR r L L)[fst18 k+b]?=some q:=by
 have h:=rects_take r L k hk
 have hlt:=(List.getElem?_eq_some_iff.1 hb).1
 have hl:(rectsR r L L).length=1+3*L:=rects_len r L L
 have hf:fst18 k+(bandsR r L k).length≤1+3*L:=by
  rw [← fst_succ];unfold fst18;rw [if_neg (by omega)];omega
 have hl1:((rectsR r L L).take (fst18 k)).length=fst18 k:=by rw [List.length_take];omega
 have h2:((rectsR r L L).take (fst18 (k+1)))[fst18 k+b]?=some q:=by
  rw [← h,List.getElem?_append_right (by omega),hl1,show fst18 k+b-fst18 k=b by omega]
  exact hb
 rw [List.getElem?_take,fst_succ k r L,if_pos (by omega)]at h2
 exact h2
theorem rects_full (r:Rc) (L:Nat):(rectsR r L L).take (fst18 (L+1))=rectsR r L L:=List.take_of_length_le (by rw [rects_len];unfold fst18;rw [if_neg (by omega)];omega)
def PlansP (w:World) (t:Rc) (cs:List Cm) (lev prec:Nat) (e:Ending) (w':World):Prop:=
 ∃(G:Nat→Option Kd) (A:Option Addr) (n c:Nat) (outs:List Pln),e=.returned (.slice A n c)∧Fits G w.heap.size w'∧Keep (fun _=>False) w w'∧Ro G w' A n 7 (fl Pln.cells outs)∧outs.length=n∧n=cs.length∧
  ∀(i:Nat) (P:Pln),outs[i]?=some P→PlnOk G w.heap.size (blkT prec*blkT prec) w' lev prec P∧ ∃C:Cm,cs[i]?=some C∧P.part=t.part C.dx C.dy
end Go.Proofs.YthfogcgdijmaoaaGreat
