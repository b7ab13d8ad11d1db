/-
  Part 23 of the proof: CodQ CodD CodN CodE TierP TierI TierS. Conditions: those of the statements.
-/
import Derived.Test.YthfogcgdijmaoaaGreatW6
import Derived.Test.YthfogcgdijmaoaaGreatW7
import Derived.Test.YthfogcgdijmaoaaGreatW10
import Derived.Test.YthfogcgdijmaoaaGreatW21
import Derived.Test.YthfogcgdijmaoaaGreatW22
set_option maxRecDepth 100000
set_option maxHeartbeats 16000000
set_option linter.unusedVariables false
set_option linter.unusedSimpArgs false
namespace Go.Proofs.YthfogcgdijmaoaaGreat
open Go.RowKit
theorem crefine_any (w:World) (base:Nat) (d:Cd) (band style:Int) (raw:Bool) (u:Ws) (ph:Nat) (h:Cod base d band style raw u ph w) (plane:Nat) (hp:plane≤40) (hl:ph+7200≤536870912):
 Calls Tryz.prog 109 #[.pointer (some ⟨d.g,0,none⟩),.int .i64 plane] w (CodP base d band style raw u (ph+7200) w):=by
 have HR0:=hid h
 have HM0:=hid (Mv.refl d u w)
 have hWl:=h.rd.w1
 have hHl:=h.rd.h1
 have hW0:=h.rd.w0
 have hH0:=h.rd.h0
 have hN:=h.rd.n144
 have hN0:0<d.W*d.H:=Nat.mul_pos hW0 hH0
 have e1:(d.W:Int)*(d.H:Int)=((d.W*d.H:Nat):Int):=by push_cast;rfl
 have e2:IntKind.i64.wrap ((d.W*d.H:Nat):Int)=((d.W*d.H:Nat):Int):=IntWalk.i64_in _ (by omega)
 have e3:wrap64 ((d.W*d.H:Nat):Int)=((d.W*d.H:Nat):Int):=IntWalk.wrap64_in _ (by omega)
 have HIX:=hid (fun x y (hx:x<d.W) (hy:y<d.H)=>ix_lt hx hy)
 have HAT:=hid (fun w n (hn:n<d.W*d.H)=>at_any w d.W d.H n hW0 (by omega) hH0 (by omega) hn)
 clear h
 obtain⟨N,hNN⟩: ∃N,d.W*d.H=N:=⟨_,rfl⟩
 have HNN:=hid hNN
 rw [hNN]at e1 e2 e3 hN hN0
 clear hNN
 go_enter Tryz.func109,Tryz.ntmps109
 go_wp2_with fail
 go_loopw [4] (fun v wr=> ∃(n:Nat) (u1:Ws),n≤N∧v=.int .i64 n∧Hid (Cod base d band style raw u1 (ph+32*n) wr)∧Hid (Mv d u u1 w wr)) (fun v _=>N-(intOf v).toNat)
 case atStart=>exact⟨0,u,by omega,rfl,HR0,HM0⟩
 case round=>
  clear HR0 HM0
  obtain⟨n,u1,hn,rfl,HC,HM⟩:=hrel
  have q0:=(HC.out.place (v:=0) (by rw [HNN.out];omega))
  obtain⟨c0,c1,_⟩:=q0
  go_wp2_with fail
  go_quiet (fail)
  replace HC:=hid (HC.out.keepF ((Keep.refl _ wr).drewN nq))
  replace HM:=hid (HM.out.aside ((Keep.refl _ wr).drewN nq))
  clear c0 c1
  generalize wr.drewN nq=wq at*
  by_cases hnN:n<N
  · go_wp2_with fail
    have p0:wq.drew.cell? ⟨d.g,0,none⟩=some (.int .i64 d.W):=(HC.out.place (v:=0) (by rw [HNN.out];omega)).1
    have p1:wq.drew.cell? ⟨d.g,1,none⟩=some (.int .i64 d.H):=(HC.out.place (v:=0) (by rw [HNN.out];omega)).2.1
    refine At.start (L:=#[false,false,false,false,false,false,false,false,false,false,false,false,false,false,false]) (by kernel_rfl) rfl ?_
    refine AtP 0 25 ?_
    refine AtP 1 26 ?_
    refine AtP 2 27 ?_
    refine AtL 3 28 Tryz.underlying3 ?_
    refine AtP 4 29 ?_
    refine AtP 5 30 ?_
    refine AtP 6 31 ?_
    refine AtL 7 32 Tryz.underlying3 ?_
    refine AtP 8 33 ?_
    refine AtC 9 fun K hK=>?_
    go_simp
    refine(HAT.out _ n (by rw [HNN.out];exact hnN)).mono ?_
    rintro e w2 ⟨x,y,m,hx,hy,rfl,hw⟩
    have hk:Keep (fun _=>False) wq w2:=by rw [hw];exact(Keep.refl _ wq).drew.drewN m
    have p0:w2.cell? ⟨d.g,0,none⟩=some (.int .i64 d.W):=by rw [hw];exact p0
    have p1:w2.cell? ⟨d.g,1,none⟩=some (.int .i64 d.H):=by rw [hw];exact p1
    replace HC:=hid (HC.out.keepF hk)
    replace HM:=hid (HM.out.aside hk)
    clear hk hw
    refine hK _ _ all_nil ?_
    clear hK K
    try simp only [NS]
    refine AtP 10 24 ?_
    refine AtP 11 35 ?_
    refine AtP 12 36 ?_
    refine AtP 13 5 ?_
    refine AtP 14 6 ?_
    refine At.done (by kernel_rfl) ?_
    have hix:=HIX.out x y hx hy
    have hxl:x<100:=by omega
    have hyl:y<100:=by omega
    obtain⟨v,hv⟩: ∃v,y*d.W+x=v:=⟨_,rfl⟩
    rw [hv]at hix
    obtain⟨r0,r1,r6,r7,r8,⟨sg,hsg⟩,⟨se,hse⟩,⟨ag,hag⟩,fse,fag⟩:=HC.out.place hix
    rw [HNN.out]at r6 r7 r8
    have hixN:v<N:=by rw [← HNN.out];exact hix
    have HIV:=hid hix
    have f1:(y:Int)*(d.W:Int)=((y*d.W:Nat):Int):=by push_cast;rfl
    have f2:IntKind.i64.wrap ((y*d.W:Nat):Int)=((y*d.W:Nat):Int):=IntWalk.i64_in _ (by omega)
    generalize y*d.W=q at*
    have f3:(q:Int)+(x:Int)=(v:Int):=by omega
    have HXY:=hid (And.intro hx hy)
    have HV:=hid hv
    clear hv hx hy p0 p1 r1 hix
    cases sg with
    |false=>
     go_wp2_with fail
     go_roundw
     case rel=>exact⟨n+1,u1,by omega,by go_num,hid (HC.out.up (by omega) (by omega)),HM⟩
     case measure=>simp [intOf];omega
    |true=>
     cases se with
     |true=>
      go_wp2_with fail
      go_roundw
      case rel=>exact⟨n+1,u1,by omega,by go_num,hid (HC.out.up (by omega) (by omega)),HM⟩
      case measure=>simp [intOf];omega
     |false=>
      go_wp2_with fail
      refine(around_any _ d band style raw HC.out.rd x y (by omega) (by omega)).mono ?_
      rintro e w3 ⟨a,b,c,ha,hb,hc,rfl,hk⟩
      have HC3:=hid (HC.out.keepF hk)
      have HM3:=hid (HM.out.aside hk)
      obtain⟨_,_,_,_,s8,_,_,⟨ag3,hag3⟩,_,fag3⟩:=HC3.out.place HIV.out
      rw [HNN.out]at s8
      have HMG:=hid (fun kn hk=>cmag_any w3 base d band style raw u1 (ph+32*n) HC3.out v plane kn HIV.out hp hk (by omega))
      clear hk HC HM r0 r6 r7 r8 hsg hse hag fse fag
      go_wp2_with fail
      refine(refine7_any _ _ _).mono ?_
      rintro e w4 ⟨k,hk1,hk2,rfl,hw⟩
      cases hw
      obtain⟨kn,rfl⟩: ∃kn:Nat,k=kn:=⟨k.toNat,by omega⟩
      go_wp2_with fail
      refine(HMG.out kn (by omega)).mono ?_
      rintro e w4 ⟨bb,u4,rfl,h4,m4⟩
      have HC4:=hid h4
      have HM4:=hid (HM3.out.trans m4)
      obtain⟨_,_,_,_,t8,_,_,⟨ag4,hag4⟩,_,fag4⟩:=h4.place HIV.out
      rw [HNN.out]at t8
      clear h4 m4 s8 hag3 fag3 HMG
      go_wp2_with fail
      go_roundw
      case rel=>exact⟨n+1,u4,by omega,by go_num,hid (((HC4.out.setBool HC4.out.rd.again v true)).up (by omega) (by omega)),hid (HM4.out.set (.inr (.inr (.inr (.inr (.inr rfl))))) v _)⟩
      case measure=>simp [intOf];omega
  · obtain rfl:n=N:=by omega
    go_wp2_with fail
    go_end0
    exact⟨u1,rfl,HC.out.up (by omega) (by omega),HM.out⟩
theorem Cod.two {base:Nat} {d:Cd} {band style:Int} {raw:Bool} {u:Ws} {ph:Nat} {w:World} (h:Cod base d band style raw u ph w):
 w.cell? ⟨d.g,0,none⟩=some (.int .i64 d.W)∧w.cell? ⟨d.g,1,none⟩=some (.int .i64 d.H)∧w.cell? ⟨d.g,3,none⟩=some (.int .i64 style)∧w.cell? ⟨d.g,7,none⟩=some (.slice (some ⟨d.ge,0,none⟩) (d.W*d.H) (d.W*d.H)):=by
 obtain⟨cs,hbk,hC⟩:=h.rd.blk
 exact⟨(hbk.cell 0).trans hC.c0,(hbk.cell 1).trans hC.c1,(hbk.cell 3).trans hC.c3,(hbk.cell 7).trans hC.c7⟩
theorem ccleanup_any (w:World) (base:Nat) (d:Cd) (band style:Int) (raw:Bool) (u:Ws) (ph:Nat) (h:Cod base d band style raw u ph w) (plane:Nat) (hp:plane≤40) (hl:ph+7200≤536870912):
 Calls Tryz.prog 110 #[.pointer (some ⟨d.g,0,none⟩),.int .i64 plane] w (CodP base d band style raw u (ph+7200) w):=by
 have HR0:=hid h
 have HM0:=hid (Mv.refl d u w)
 have hWl:=h.rd.w1
 have hHl:=h.rd.h1
 have hW0:=h.rd.w0
 have hH0:=h.rd.h0
 have hN:=h.rd.n144
 have hN0:0<d.W*d.H:=Nat.mul_pos hW0 hH0
 have e1:(d.W:Int)*(d.H:Int)=((d.W*d.H:Nat):Int):=by push_cast;rfl
 have e2:IntKind.i64.wrap ((d.W*d.H:Nat):Int)=((d.W*d.H:Nat):Int):=IntWalk.i64_in _ (by omega)
 have e3:wrap64 ((d.W*d.H:Nat):Int)=((d.W*d.H:Nat):Int):=IntWalk.wrap64_in _ (by omega)
 have HIX:=hid (fun x y (hx:x<d.W) (hy:y<d.H)=>ix_lt hx hy)
 have HAT:=hid (fun w n (hn:n<d.W*d.H)=>at_any w d.W d.H n hW0 (by omega) hH0 (by omega) hn)
 clear h
 obtain⟨N,hNN⟩: ∃N,d.W*d.H=N:=⟨_,rfl⟩
 have HNN:=hid hNN
 rw [hNN]at e1 e2 e3 hN hN0
 clear hNN
 clear e1 e2 e3 HAT
 go_enter Tryz.func110,Tryz.ntmps110
 go_wp2_with fail
 go_loopw [4] (fun v wr=> ∃(t:Nat) (u1:Ws),4*t≤15∧v=.int .i64 (4*(t:Int))∧Hid (Cod base d band style raw u1 (ph+192*(12*t)) wr)∧Hid (Mv d u u1 w wr)) (fun v _=>16-(intOf v).toNat)
 case atStart=>exact⟨0,u,by omega,rfl,HR0,HM0⟩
 case round=>
  clear HR0 HM0
  obtain⟨t,u1,ht,rfl,HC,HM⟩:=hrel
  obtain⟨c0,c1,c3,c7⟩:=HC.out.two
  by_cases hy:4*t<d.H
  · clear c0 c3 c7
    have hyd:decide (4*(t:Int)<(d.H:Int))=true:=by simp;omega
    go_wp2_with fail
    go_loopw [5] (fun v wr=> ∃(x:Nat) (u1:Ws),x≤d.W∧v=.int .i64 x∧Hid (Cod base d band style raw u1 (ph+192*(12*t+x)) wr)∧Hid (Mv d u u1 w wr)) (fun v _=>d.W-(intOf v).toNat)
    case atStart=>exact⟨0,u1,by omega,rfl,HC,HM⟩
    case round=>
     clear HC HM c1
     obtain⟨x,u1,hx,rfl,HC,HM⟩:=hrel
     obtain⟨c0,c1,c3,c7⟩:=HC.out.two
     clear c1 c3 c7
     by_cases hxW:x<d.W
     · have CC:=hid (ccolumn_any wr base d band style raw u1 (ph+192*(12*t+x)) HC.out x (4*t) plane hxW hy hp (by omega))
       rw [show((4*t:Nat):Int)=4*(t:Int) by push_cast;rfl]at CC
       go_wp2_with fail
       refine CC.out.mono ?_
       rintro e w2 ⟨u2,rfl,h2,m2⟩
       have HC2:=hid h2
       have HM2:=hid (HM.out.trans m2)
       clear h2 m2 HC HM c0
       go_wp2_with fail
       go_roundw
       case rel=>exact⟨x+1,u2,by omega,by go_num,hid (HC2.out.up (by omega) (by omega)),HM2⟩
       case measure=>simp [intOf]<;>omega
     · obtain rfl:x=d.W:=by omega
       go_wp2_with fail
       go_roundw
       case rel=>exact⟨t+1,u1,by omega,by(congr 1)<;>omega,hid (HC.out.up (by omega) (by omega)),HM⟩
       case measure=>simp [intOf]<;>omega
  · have HC1:Hid (Cod base d band style raw u1 (ph+7000) wr):=hid (HC.out.up (by omega) (by omega))
    clear HC
    have hyd:decide (4*(t:Int)<(d.H:Int))=false:=by simp;omega
    go_wp2_with fail
    have HM1:=HM
    clear HM c0 c1 c3 c7
    go_loopw [6] (fun v wr=> ∃(n:Nat),n≤N∧v=.int .i64 n∧Hid (Cod base d band style raw u1 (ph+7000) wr)∧Hid (Mv d u u1 w wr)) (fun v _=>N-(intOf v).toNat)
    case atStart=>exact⟨0,by omega,rfl,HC1,HM1⟩
    case round=>
     clear HC1 HM1
     obtain⟨n,hn,rfl,HC,HM⟩:=hrel
     by_cases hnN:n<N
     · obtain⟨_,_,_,c7,_,_,⟨se,hse⟩,_,fse,_⟩:=HC.out.place (v:=n) (by rw [HNN.out];exact hnN)
       rw [HNN.out]at c7
       go_wp2_with fail
       go_roundw
       case rel=>exact⟨n+1,by omega,by go_num,hid (HC.out.setBool HC.out.rd.seen n false),hid (HM.out.set (.inr (.inr (.inr (.inr (.inl rfl))))) n _)⟩
       case measure=>simp [intOf]<;>omega
     · obtain rfl:n=N:=by omega
       obtain⟨c0,c1,c3,c7⟩:=HC.out.two
       rw [HNN.out]at c7
       have HZ:Hid (CodP base d band style raw u (ph+7200) w (.returned (.tuple #[])) wr):=hid ⟨u1,rfl,HC.out.up (by omega) (by omega),HM.out⟩
       cases hsb:(bits BinOp.and IntKind.i64 style 32 != 0)with
       |true=>
        go_wp2_with fail
        have HC1:=HC
        have HM1:=HM
        clear HC HM c0 c1 c3 c7
        go_loopw [7] (fun v wr=> ∃(k:Nat) (u1:Ws),k≤4∧v=.int .i64 k∧Hid (Cod base d band style raw u1 (ph+7000+16*k) wr)∧Hid (Mv d u u1 w wr)) (fun v _=>4-(intOf v).toNat)
        case atStart=>exact⟨0,u1,by omega,rfl,HC1,HM1⟩
        case round=>
         clear HC1 HM1 HZ
         obtain⟨k,u1,hk,rfl,HC,HM⟩:=hrel
         by_cases hk4:k<4
         · go_wp2_with fail
           refine(cbit_any wr base d band style raw u1 (ph+7000+16*k) HC.out 18 (by omega) _ (by omega)).mono ?_
           rintro e w2 ⟨u2,rfl,h2,m2,_⟩
           have HC2:=hid h2
           have HM2:=hid (HM.out.trans m2)
           clear h2 m2
           go_wp2_with fail
           go_roundw
           case rel=>exact⟨k+1,u2,by omega,by go_num,hid (HC2.out.up (by omega) (by omega)),HM2⟩
           case measure=>simp [intOf]<;>omega
         · have HZ:Hid (CodP base d band style raw u (ph+7200) w (.returned (.tuple #[])) wr):=hid ⟨u1,rfl,HC.out.up (by omega) (by omega),HM.out⟩
           go_wp2_with fail
           go_end0
           exact HZ.out
       |false=>
        go_wp2_with fail
        go_end0
        exact HZ.out
structure CdB (d:Cd) (band style:Int) (cs:Array Value):Prop where
 c0:cs[0]? =some (.int .i64 d.W)
 c1:cs[1]? =some (.int .i64 d.H)
 c2:cs[2]? =some (.int .i64 band)
 c3:cs[3]? =some (.int .i64 style)
 c4:cs[4]? =some (.slice (some ⟨d.gm,0,none⟩) (d.W*d.H) (d.W*d.H))
 c5:cs[5]? =some (.slice (some ⟨d.gn,0,none⟩) (d.W*d.H) (d.W*d.H))
 c6:cs[6]? =some (.slice (some ⟨d.gs,0,none⟩) (d.W*d.H) (d.W*d.H))
 c7:cs[7]? =some (.slice (some ⟨d.ge,0,none⟩) (d.W*d.H) (d.W*d.H))
 c8:cs[8]? =some (.slice (some ⟨d.ga,0,none⟩) (d.W*d.H) (d.W*d.H))
 cx: ∀k,k<19→ ∃i m:Nat,i≤46∧m≤1∧cs[9+k*2]? =some (.int .i64 i)∧cs[9+k*2+1]? =some (.int .i64 m)
 size:50<cs.size
structure CdN (d:Cd) (band style:Int) (cs:Array Value) (w:World):Prop where
 blk:Blk w d.g 165 cs
 cb:CdB d band style cs
 mag:IRow w d.gm (d.W*d.H) (fun z=>0≤z∧z≤1073741823)
 neg:IRow w d.gn (d.W*d.H) (fun z=>0≤z∧z≤1)
 sig:BRow w d.gs (d.W*d.H)
 seen:BRow w d.ge (d.W*d.H)
 again:BRow w d.ga (d.W*d.H)
 mn:d.gm≠d.gn
theorem irow_made {w:World} {g n:Nat} {Q:Int→Prop} (h:Blk w g 3 (madeCells #[.int .i64 0] n)) (h0:Q 0):IRow w g n Q:=⟨_,h,fun i hi=>⟨0,h0,made_at _ n i hi⟩⟩
theorem brow_made {w:World} {g n:Nat} (h:Blk w g 4 (madeCells #[.bool false] n)):BRow w g n:=⟨_,h,fun i hi=>⟨false,made_at _ n i hi⟩⟩
def cxLit :Array Value:=#[.int .i64 4,.int .i64 0,.int .i64 0,.int .i64 0,.int .i64 0,.int .i64 0,.int .i64 0,.int .i64 0,.int .i64 0,.int .i64 0,.int .i64 0,.int .i64 0,.int .i64 0,.int .i64 0,.int .i64 0,.int .i64 0,.int .i64 0,.int .i64 0,.int .i64 0,.int .i64 0,.int .i64 0,.int .i64 0,.int .i64 0,.int .i64 0,.int .i64 0,.int .i64 0,.int .i64 0,.int .i64 0,.int .i64 0,.int .i64 0,.int .i64 0,.int .i64 0,.int .i64 0,.int .i64 0,.int .i64 3,.int .i64 0,.int .i64 46,.int .i64 0]
theorem cx_lit :cxCells begL=cxLit:=by kernel_rfl
def BegR (N B j:Nat) (v:Value) (w:World):Prop:=
 if j=5∨j=7 then∃g,v=.slice (some ⟨g,0,none⟩) N N∧B≤g∧Blk w g 3 (madeCells #[.int .i64 0] N)
 else if j=14 then v=.agg (cxCells begL)
 else∃g,v=.slice (some ⟨g,0,none⟩) N N∧B≤g∧Blk w g 4 (madeCells #[.bool false] N)
theorem begR_int {N B g j:Nat} {w:World} (hj:j=5∨j=7) (hg:B≤g) (hb:Blk w g 3 (madeCells #[.int .i64 0] N)):BegR N B j (.slice (some ⟨g,0,none⟩) N N) w:=by
 unfold BegR
 rw [if_pos hj]
 exact⟨g,rfl,hg,hb⟩
theorem begR_bool {N B g j:Nat} {w:World} (hj: ¬(j=5∨j=7)) (hj2:j≠14) (hg:B≤g) (hb:Blk w g 4 (madeCells #[.bool false] N)):BegR N B j (.slice (some ⟨g,0,none⟩) N N) w:=by
 unfold BegR
 rw [if_neg hj,if_neg hj2]
 exact⟨g,rfl,hg,hb⟩
theorem begR_cx (N B:Nat) (w:World):BegR N B 14 (.agg (cxCells begL)) w:=by
 unfold BegR
 rw [if_neg (by decide),if_pos rfl]
theorem begR_is {N B j:Nat} {v:Value} {w:World} (h:BegR N B j v w):(j=5∨j=7→ ∃g,v=.slice (some ⟨g,0,none⟩) N N∧B≤g∧Blk w g 3 (madeCells #[.int .i64 0] N))∧(j=14→v=.agg (cxCells begL))∧(¬ (j=5∨j=7)→j≠14→ ∃g,v=.slice (some ⟨g,0,none⟩) N N∧B≤g∧Blk w g 4 (madeCells #[.bool false] N)):=by
 unfold BegR at h
 refine⟨fun hc=>?_,fun hc=>?_,fun h1 h2=>?_⟩
 · rwa [if_pos hc]at h
 · rwa [if_neg (by omega),if_pos hc]at h
 · rwa [if_neg h1,if_neg h2]at h
theorem begR_keep (N B:Nat) (j:Nat) (v:Value) (w w':World) (h:BegR N B j v w) (hk:Keep (fun _=>False) w w'):BegR N B j v w':=by
 unfold BegR at h ⊢
 split
 · rename_i hc
   rw [if_pos hc]at h
   obtain⟨g,h1,h2,h3⟩:=h
   exact⟨g,h1,h2,h3.keep hk id⟩
 · rename_i hc
   rw [if_neg hc]at h
   split
   · rename_i hd
     rwa [if_pos hd]at h
   · rename_i hd
     rw [if_neg hd]at h
     obtain⟨g,h1,h2,h3⟩:=h
     exact⟨g,h1,h2,h3.keep hk id⟩
theorem begR_lt {N B j:Nat} {v:Value} {w:World} (h:BegR N B j v w) (g:Nat) (hg:v.ownBlock=some g):g<w.heap.size:=by
 unfold BegR at h
 split at h
 · obtain⟨g',rfl,_,h3⟩:=h
   simp [Value.ownBlock]at hg
   subst hg
   exact h3.lt
 · split at h
   · subst h
     simp [Value.ownBlock]at hg
   · obtain⟨g',rfl,_,h3⟩:=h
     simp [Value.ownBlock]at hg
     subst hg
     exact h3.lt
theorem cbegin_any (w:World) (W H:Nat) (band style:Int) (hW:0<W) (hW2:W≤12) (hH:0<H) (hH2:H≤12):
 Calls Tryz.prog 82 #[.int .i64 W,.int .i64 H,.int .i64 band,.int .i64 style] w (fun e w'=> ∃d cs,e=.returned (.pointer (some ⟨d.g,0,none⟩))∧CdN d band style cs w'∧d.W=W∧d.H=H∧w.heap.size≤d.g∧w.heap.size≤d.gm∧w.heap.size≤d.gn∧w.heap.size≤d.gs∧w.heap.size≤d.ge∧w.heap.size≤d.ga∧Keep (fun _=>False) w w'):=by
 obtain⟨i0,hi0,hz0,hz1,hz2⟩:=info_parts info_int
 obtain⟨j0,hj0,hy0,hy1,hy2⟩:=info_parts info_bool
 have hN:W*H≤12*12:=Nat.mul_le_mul hW2 hH2
 have e1:(W:Int)*(H:Int)=((W*H:Nat):Int):=by push_cast;rfl
 have e2:IntKind.i64.wrap ((W*H:Nat):Int)=((W*H:Nat):Int):=IntWalk.i64_in _ (by omega)
 have e3:wrap64 ((W*H:Nat):Int)=((W*H:Nat):Int):=IntWalk.wrap64_in _ (by omega)
 have HK:=hid (Keep.refl (fun _=>False) w)
 obtain⟨N,hNN⟩: ∃N,W*H=N:=⟨_,rfl⟩
 have HNN:=hid hNN
 rw [hNN]at e1 e2 e3 hN
 clear hNN
 go_enter Tryz.func82,Tryz.ntmps82
 go_wp2_with fail
 replace HK:=hid HK.out.drew
 refine At.start (L:=#[false,false,false,false,false,false,false,false,false,false,false,false,false,false,false,false,false,false]) (by kernel_rfl) rfl ?_
 generalize w.drew=w0 at*
 refine AtP 0 13 ?_
 refine AtP 1 14 ?_
 refine AtP 2 15 ?_
 refine AtP 3 16 ?_
 refine AtP 4 17 ?_
 refine AtP 6 19 ?_
 refine AtP 8 21 ?_
 refine AtP 10 23 ?_
 refine AtP 12 25 ?_
 have hsz:w.heap.size≤w0.heap.size:=HK.out.size
 show At _ _ _ _ (6+3) [] _ _ _
 refine At.bunch [(5,18),(7,20),(9,22),(11,24),(13,26),(14,27)] (BegR N w0.heap.size) (fun v u=> ∀g g',v.ownBlock=some g→u.ownBlock=some g'→g≠g') (by decide) (begR_keep N _) (by kernel_rfl) ?step (by decide) ?fin 6 [none,none,none,none,none,none] w0 rfl rfl (Keep.refl _ _) (fun i j v h1 h2=>?e1) (fun i i' v v' _ h1=>?e2)
 case e1=>rcases i with _|_|_|_|_|_|i<;>simp at h2
 case e2=>rcases i with _|_|_|_|_|_|i<;>simp at h1
 case step=>
  intro i j oj hj hoj
  have hgen: ∀(e:TypeId) (z:Value) (k:Nat) (v:Value) (w1 w2:World),v=.slice (some ⟨w1.heap.size,0,none⟩) N N→(∀ k' u,BegR N w0.heap.size k' u w1→(∀ g g',v.ownBlock=some g→u.ownBlock=some g'→g≠g')∧(∀ g g',u.ownBlock=some g→v.ownBlock=some g'→g≠g')):=fun e z k v w1 w2 hv k' u hu=>by
   subst hv
   have hlt:=begR_lt hu
   refine⟨fun g g' h1 h2=>?_,fun g g' h1 h2=>?_⟩
   · simp [Value.ownBlock]at h1
     have:=hlt g' h2
     omega
   · simp [Value.ownBlock]at h2
     have:=hlt g h1
     omega
  rcases i with _|_|_|_|_|_|i
  · simp at hj
    subst hj
    simp only at hoj
    cases hoj
    refine⟨rfl,fun vs w' K hl hk hK=>?_⟩
    exact wp_make (.tmp 17) (.tmp 17) _ rfl 3 i0 _ Tryz.underlying22 hi0 hz0 hz1 rfl N ((putsA_eval _ _ _ _ (by decide)).trans rfl) ((putsA_eval _ _ _ _ (by decide)).trans rfl) (by rw [hz2];omega) (by simp only [maxLen];omega) (fun w1 hb1 hk1=>hK _ _ (begR_int (by decide) hk.size hb1) hk1 (fun k u hu=>hgen 0 undef 0 _ w' w' rfl k u hu))
  · simp at hj
    subst hj
    simp only at hoj
    cases hoj
    refine⟨rfl,fun vs w' K hl hk hK=>?_⟩
    exact wp_make (.tmp 19) (.tmp 19) _ rfl 3 i0 _ Tryz.underlying22 hi0 hz0 hz1 rfl N ((putsA_eval _ _ _ _ (by decide)).trans rfl) ((putsA_eval _ _ _ _ (by decide)).trans rfl) (by rw [hz2];omega) (by simp only [maxLen];omega) (fun w1 hb1 hk1=>hK _ _ (begR_int (by decide) hk.size hb1) hk1 (fun k u hu=>hgen 0 undef 0 _ w' w' rfl k u hu))
  · simp at hj
    subst hj
    simp only at hoj
    cases hoj
    refine⟨rfl,fun vs w' K hl hk hK=>?_⟩
    exact wp_make (.tmp 21) (.tmp 21) _ rfl 4 j0 _ Tryz.underlying155 hj0 hy0 hy1 rfl N ((putsA_eval _ _ _ _ (by decide)).trans rfl) ((putsA_eval _ _ _ _ (by decide)).trans rfl) (by rw [hy2];omega) (by simp only [maxLen];omega) (fun w1 hb1 hk1=>hK _ _ (begR_bool (by decide) (by decide) hk.size hb1) hk1 (fun k u hu=>hgen 0 undef 0 _ w' w' rfl k u hu))
  · simp at hj
    subst hj
    simp only at hoj
    cases hoj
    refine⟨rfl,fun vs w' K hl hk hK=>?_⟩
    exact wp_make (.tmp 23) (.tmp 23) _ rfl 4 j0 _ Tryz.underlying155 hj0 hy0 hy1 rfl N ((putsA_eval _ _ _ _ (by decide)).trans rfl) ((putsA_eval _ _ _ _ (by decide)).trans rfl) (by rw [hy2];omega) (by simp only [maxLen];omega) (fun w1 hb1 hk1=>hK _ _ (begR_bool (by decide) (by decide) hk.size hb1) hk1 (fun k u hu=>hgen 0 undef 0 _ w' w' rfl k u hu))
  · simp at hj
    subst hj
    simp only at hoj
    cases hoj
    refine⟨rfl,fun vs w' K hl hk hK=>?_⟩
    exact wp_make (.tmp 25) (.tmp 25) _ rfl 4 j0 _ Tryz.underlying155 hj0 hy0 hy1 rfl N ((putsA_eval _ _ _ _ (by decide)).trans rfl) ((putsA_eval _ _ _ _ (by decide)).trans rfl) (by rw [hy2];omega) (by simp only [maxLen];omega) (fun w1 hb1 hk1=>hK _ _ (begR_bool (by decide) (by decide) hk.size hb1) hk1 (fun k u hu=>hgen 0 undef 0 _ w' w' rfl k u hu))
  · simp at hj
    subst hj
    simp only at hoj
    cases hoj
    refine⟨rfl,fun vs w' K hl hk hK=>?_⟩
    go_simp
    refine(Mq.rfresh_any _).mono ?_
    rintro e w2 ⟨rfl,hk2⟩
    refine hK _ _ (begR_cx _ _ _) hk2 (fun k u hu=>⟨fun g g' h1 _=>?_,fun g g' _ h2=>?_⟩)
    · simp [Value.ownBlock]at h1
    · simp [Value.ownBlock]at h2
  · simp at hj
 case fin=>
  intro vs w3 hl hk hr hr2
  obtain⟨v1,v2,v3,v4,v5,v6,rfl⟩: ∃v1 v2 v3 v4 v5 v6,vs=[v1,v2,v3,v4,v5,v6]:=by
   rcases vs with _|⟨v1,_|⟨v2,_|⟨v3,_|⟨v4,_|⟨v5,_|⟨v6,_|⟨v7,vs⟩⟩⟩⟩⟩⟩⟩<;>simp at hl
   exact⟨v1,v2,v3,v4,v5,v6,rfl⟩
  obtain⟨g1,rfl,l1,b1⟩:=(begR_is (hr 0 _ _ rfl rfl)).1 (by decide)
  obtain⟨g2,rfl,l2,b2⟩:=(begR_is (hr 1 _ _ rfl rfl)).1 (by decide)
  obtain⟨g3,rfl,l3,b3⟩:=(begR_is (hr 2 _ _ rfl rfl)).2.2 (by decide) (by decide)
  obtain⟨g4,rfl,l4,b4⟩:=(begR_is (hr 3 _ _ rfl rfl)).2.2 (by decide) (by decide)
  obtain⟨g5,rfl,l5,b5⟩:=(begR_is (hr 4 _ _ rfl rfl)).2.2 (by decide) (by decide)
  obtain rfl:=(begR_is (hr 5 _ _ rfl rfl)).2.1 rfl
  rw [cx_lit]
  unfold cxLit
  have hne:g1≠g2:=hr2 0 1 _ _ (by decide) rfl rfl g1 g2 rfl rfl
  have hkk:=HK.out.trans hk (fun _ _ h=>h)
  have HF:=hid (And.intro hkk (And.intro b1 (And.intro b2 (And.intro b3 (And.intro b4 b5)))))
  clear b1 b2 b3 b4 b5 hr hr2 hkk hk HK
  show At _ _ _ _ _ [] (#[true,true,true,true,true,true,true,true,true,true,true,true,true,true,true,false,false,false]) _ _
  simp only [List.map_cons,List.map_nil,putsA,Act.put,List.setIfInBounds_toArray,List.set_cons_zero,List.set_cons_succ]
  refine AtP 15 28 ?_
  refine AtC 16 fun K hK=>?_
  go_simp
  skip
  refine hK _ _ all_nil ?_
  clear hK K
  try simp only [NS]
  refine AtP 17 8 ?_
  refine At.done (by kernel_rfl) ?_
  go_wp2_with fail
  go_ret
  obtain⟨hk3,b1,b2,b3,b4,b5⟩:=HF.out
  have hka:=(Keep.refl (fun _=>False) w3).alloc (.cells #[.int .i64 W,.int .i64 H,.int .i64 band,.int .i64 style,.slice (some ⟨g1,0,none⟩) N N,.slice (some ⟨g2,0,none⟩) N N,.slice (some ⟨g3,0,none⟩) N N,.slice (some ⟨g4,0,none⟩) N N,.slice (some ⟨g5,0,none⟩) N N,.int .i64 4,.int .i64 0,.int .i64 0,.int .i64 0,.int .i64 0,.int .i64 0,.int .i64 0,.int .i64 0,.int .i64 0,.int .i64 0,.int .i64 0,.int .i64 0,.int .i64 0,.int .i64 0,.int .i64 0,.int .i64 0,.int .i64 0,.int .i64 0,.int .i64 0,.int .i64 0,.int .i64 0,.int .i64 0,.int .i64 0,.int .i64 0,.int .i64 0,.int .i64 0,.int .i64 0,.int .i64 0,.int .i64 0,.int .i64 0,.int .i64 0,.int .i64 0,.int .i64 0,.int .i64 0,.int .i64 3,.int .i64 0,.int .i64 46,.int .i64 0,.bool false,.bool false,.pointer none,.pointer none,.pointer none,.pointer none] 165)
  refine⟨⟨w3.heap.size,g1,g2,g3,g4,g5,W,H,0,0⟩,#[.int .i64 W,.int .i64 H,.int .i64 band,.int .i64 style,.slice (some ⟨g1,0,none⟩) N N,.slice (some ⟨g2,0,none⟩) N N,.slice (some ⟨g3,0,none⟩) N N,.slice (some ⟨g4,0,none⟩) N N,.slice (some ⟨g5,0,none⟩) N N,.int .i64 4,.int .i64 0,.int .i64 0,.int .i64 0,.int .i64 0,.int .i64 0,.int .i64 0,.int .i64 0,.int .i64 0,.int .i64 0,.int .i64 0,.int .i64 0,.int .i64 0,.int .i64 0,.int .i64 0,.int .i64 0,.int .i64 0,.int .i64 0,.int .i64 0,.int .i64 0,.int .i64 0,.int .i64 0,.int .i64 0,.int .i64 0,.int .i64 0,.int .i64 0,.int .i64 0,.int .i64 0,.int .i64 0,.int .i64 0,.int .i64 0,.int .i64 0,.int .i64 0,.int .i64 0,.int .i64 3,.int .i64 0,.int .i64 46,.int .i64 0,.bool false,.bool false,.pointer none,.pointer none,.pointer none,.pointer none],rfl,⟨Blk.new w3 _ _,⟨rfl,rfl,rfl,rfl,?_,?_,?_,?_,?_,fun k hk=>?_,by simp only [List.size_toArray,List.length_cons,List.length_nil];omega⟩,?_,?_,?_,?_,?_,hne⟩,rfl,rfl,hk3.size,?_,?_,?_,?_,?_,hk3.alloc _⟩
  · show _=some (Value.slice _ (W*H) (W*H));rw [HNN.out];rfl
  · show _=some (Value.slice _ (W*H) (W*H));rw [HNN.out];rfl
  · show _=some (Value.slice _ (W*H) (W*H));rw [HNN.out];rfl
  · show _=some (Value.slice _ (W*H) (W*H));rw [HNN.out];rfl
  · show _=some (Value.slice _ (W*H) (W*H));rw [HNN.out];rfl
  · rcases (show k=0∨k=1∨k=2∨k=3∨k=4∨k=5∨k=6∨k=7∨k=8∨k=9∨k=10∨k=11∨k=12∨k=13∨k=14∨k=15∨k=16∨k=17∨k=18 by omega)with rfl|rfl|rfl|rfl|rfl|rfl|rfl|rfl|rfl|rfl|rfl|rfl|rfl|rfl|rfl|rfl|rfl|rfl|rfl<;>first|exact⟨0,0,by omega,by omega,rfl,rfl⟩|exact⟨4,0,by omega,by omega,rfl,rfl⟩|exact⟨3,0,by omega,by omega,rfl,rfl⟩|exact⟨46,0,by omega,by omega,rfl,rfl⟩
  · show IRow _ g1 (W*H) _;rw [HNN.out];exact irow_made (b1.keep hka id) (by omega)
  · show IRow _ g2 (W*H) _;rw [HNN.out];exact irow_made (b2.keep hka id) (by omega)
  · show BRow _ g3 (W*H);rw [HNN.out];exact brow_made (b3.keep hka id)
  · show BRow _ g4 (W*H);rw [HNN.out];exact brow_made (b4.keep hka id)
  · show BRow _ g5 (W*H);rw [HNN.out];exact brow_made (b5.keep hka id)
  · simp only;omega
  · simp only;omega
  · simp only;omega
  · simp only;omega
  · simp only;omega
theorem begL_at : ∀k,k<19→ ∃i m:Nat,i≤46∧m≤1∧(cxCells begL)[k*2]? =some (.int .i64 i)∧(cxCells begL)[k*2+1]? =some (.int .i64 m):=by
 intro k hk
 rw [cx_lit]
 rcases (show k=0∨k=1∨k=2∨k=3∨k=4∨k=5∨k=6∨k=7∨k=8∨k=9∨k=10∨k=11∨k=12∨k=13∨k=14∨k=15∨k=16∨k=17∨k=18 by omega)with rfl|rfl|rfl|rfl|rfl|rfl|rfl|rfl|rfl|rfl|rfl|rfl|rfl|rfl|rfl|rfl|rfl|rfl|rfl<;>first|exact⟨0,0,by omega,by omega,rfl,rfl⟩|exact⟨4,0,by omega,by omega,rfl,rfl⟩|exact⟨3,0,by omega,by omega,rfl,rfl⟩|exact⟨46,0,by omega,by omega,rfl,rfl⟩
theorem begL_size :(cxCells begL).size=38:=by rw [cx_lit];rfl
theorem CdC.fresh {d:Cd} {band style:Int} {raw:Bool} {cs:Array Value} (h:CdC d band style raw cs):CdC d band style raw (setL cs 9 (cxCells begL).toList):=by
 have hl:(cxCells begL).toList.length=38:=by simp [begL_size]
 have hs:50<cs.size:=(Array.getElem?_eq_some_iff.1 h.c50).1
 obtain⟨c0,c1,c2,c3,c4,c5,c6,c7,c8,cx,c47,c48,c49,c50⟩:=h
 have f: ∀j,j<9∨47≤j→(setL cs 9 (cxCells begL).toList)[j]? =cs[j]?:=fun j hj=>setL_out _ _ _ _ (by omega)
 refine⟨?_,?_,?_,?_,?_,?_,?_,?_,?_,fun j hj=>?_,?_,?_,?_,?_⟩
 · rw [f _ (by omega)];exact c0
 · rw [f _ (by omega)];exact c1
 · rw [f _ (by omega)];exact c2
 · rw [f _ (by omega)];exact c3
 · rw [f _ (by omega)];exact c4
 · rw [f _ (by omega)];exact c5
 · rw [f _ (by omega)];exact c6
 · rw [f _ (by omega)];exact c7
 · rw [f _ (by omega)];exact c8
 · obtain⟨i,m,h1,h2,h3,h4⟩:=begL_at j hj
   refine⟨i,m,h1,h2,?_,?_⟩
   · rw [setL_in _ _ _ _ (by omega) (by omega)];simpa using h3
   · rw [Nat.add_assoc,setL_in _ _ _ _ (by omega) (by omega)];simpa using h4
 · rw [f _ (by omega)];exact c47
 · rw [f _ (by omega)];exact c48
 · rw [f _ (by omega)];exact c49
 · rw [f _ (by omega)];exact c50
theorem Cod.own {base:Nat} {d:Cd} {band style:Int} {raw raw':Bool} {u:Ws} {ph:Nat} {w w':World} (h:Cod base d band style raw u ph w) {cs':Array Value} (hk:Keep (fun j=>j=d.g) w w') (hb:Blk w' d.g 165 cs') (hc:CdC d band style raw' cs'):Cod base d band style raw' u ph w':=by
 obtain⟨cs,hb0,_⟩:=h.rd.blk
 obtain⟨c1,b1,_⟩:=h.rd.mag
 obtain⟨c2,b2,_⟩:=h.rd.neg
 obtain⟨c3,b3,_⟩:=h.rd.sig
 obtain⟨c4,b4,_⟩:=h.rd.seen
 obtain⟨c5,b5,_⟩:=h.rd.again
 have hf:=h.wr.notI hb0 (by decide) (by decide) (by decide)
 exact⟨⟨⟨cs',hb,hc⟩,h.rd.mag.keep hk (Blk.ne_ b1 hb0 (by decide)),h.rd.neg.keep hk (Blk.ne_ b2 hb0 (by decide)),h.rd.sig.keep hk (Blk.ne_ b3 hb0 (by decide)),h.rd.seen.keep hk (Blk.ne_ b4 hb0 (by decide)),h.rd.again.keep hk (Blk.ne_ b5 hb0 (by decide)),h.rd.w0,h.rd.h0,h.rd.w1,h.rd.h1⟩,
  ⟨h.wr.enc.keep hk (fun e=>hf.1 (.inl e.symm)) (fun ad e e2=>hf.1 (.inr ⟨ad,e,e2⟩)),h.wr.inv,h.wr.a0,h.wr.a1,Rw.RW0.keep h.wr.wr hk (fun e=>hf.2 (.inl e.symm)) (fun ad e e2=>hf.2 (.inr ⟨ad,e,e2⟩)),h.wr.binv,h.wr.ph1,h.wr.ph2,h.wr.ap,h.wr.lim,Nat.le_trans h.wr.hb hk.size⟩,h.mn⟩
theorem cx159 :(Tryz.prog.info? 159).map (·.size)=some 38:=by kernel_rfl
theorem cpass_any (w:World) (base:Nat) (d:Cd) (band style:Int) (raw:Bool) (u:Ws) (ph:Nat) (h:Cod base d band style raw u ph w) (k planes:Nat) (hp:planes≤30) (hk:k+2<3*planes) (hl:ph+7200≤536870912):
 Calls Tryz.prog 88 #[.pointer (some ⟨d.g,0,none⟩),.int .i64 k,.int .i64 planes] w (CodP base d band style raw u (ph+7200) w):=by
 obtain⟨cs,hbk,hC⟩:=h.rd.blk
 have c3:w.cell? ⟨d.g,3,none⟩=some (.int .i64 style):=(hbk.cell 3).trans hC.c3
 have HH:=hid h
 have HBK:=hid hbk
 have HC0:=hid hC
 obtain⟨q,hq⟩: ∃q:Nat,(k+2)/3=q:=⟨_,rfl⟩
 have hq2:q+1≤planes:=by omega
 obtain⟨pl,hpl⟩: ∃pl:Nat,planes=pl+1+q:=⟨planes-1-q,by omega⟩
 have e1:((k:Int)+2)/3=(q:Int):=by omega
 have e2:((k:Int)+2).tdiv 3=(q:Int):=by rw [Int.tdiv_eq_ediv_of_nonneg (by omega)];exact e1
 have e3:(planes:Int)-1-(q:Int)=(pl:Int):=by omega
 have HQ:=hid (And.intro hq hpl)
 have hpl30:pl≤30:=by omega
 clear hq hpl
 clear h hbk hC
 cases hsb:(bits BinOp.and IntKind.i64 style 2 != 0)with
 |false=>
  have HC:=HH
  have HM:=hid (Mv.refl d u w)
  go_enter Tryz.func88,Tryz.ntmps88
  go_wp2_with fail
  refine(kind_any _ k (by omega)).mono ?_
  rintro e w8 ⟨z,hz0,hz2,rfl,hw⟩
  cases hw
  rcases (show z=0∨z=1∨z=2 by omega)with rfl|rfl|rfl
  · go_wp2_with fail
    refine(csignif_any _ base d band style raw u ph HC.out pl (by omega) hl).mono ?_
    rintro e w9 ⟨u9,rfl,h9,m9⟩
    have HZ:=hid (show CodP base d band style raw u (ph+7200) w (.returned (.tuple #[])) w9 from⟨u9,rfl,h9,HM.out.trans m9⟩)
    clear h9 m9
    go_wp2_with fail
    go_end0
    exact HZ.out
  · go_wp2_with fail
    refine(crefine_any _ base d band style raw u ph HC.out pl (by omega) hl).mono ?_
    rintro e w9 ⟨u9,rfl,h9,m9⟩
    have HZ:=hid (show CodP base d band style raw u (ph+7200) w (.returned (.tuple #[])) w9 from⟨u9,rfl,h9,HM.out.trans m9⟩)
    clear h9 m9
    go_wp2_with fail
    go_end0
    exact HZ.out
  · go_wp2_with fail
    refine(ccleanup_any _ base d band style raw u ph HC.out pl (by omega) hl).mono ?_
    rintro e w9 ⟨u9,rfl,h9,m9⟩
    have HZ:=hid (show CodP base d band style raw u (ph+7200) w (.returned (.tuple #[])) w9 from⟨u9,rfl,h9,HM.out.trans m9⟩)
    clear h9 m9
    go_wp2_with fail
    go_end0
    exact HZ.out
 |true=>
  go_enter Tryz.func88,Tryz.ntmps88
  go_wp2_with fail
  refine(Mq.rfresh_any _).mono ?_
  rintro e w2 ⟨rfl,hk2⟩
  have HB2:=hid (HBK.out.keep hk2 id)
  have HC2:=hid (HH.out.keepF hk2)
  have HM2:=hid ((Mv.refl d u w).aside hk2)
  have hsz:50<cs.size:=(Array.getElem?_eq_some_iff.1 HC0.out.c50).1
  clear hk2 c3
  go_wp2_with (refine wpList_store_in HB2.out rfl _ _ _ rfl 9 (cxCells begL) rfl rfl (by rw [begL_size];omega) (by rw [begL_size];exact cx159) (cx_one _) ?_;intro w3 hb3 hk3;have HC:=hid (HC2.out.own hk3 hb3 HC0.out.fresh);have HM:=hid (show Mv d u u w w3 from HM2.out.trans ⟨hk3.mono (fun j _ hj=>.inl (.inl hj)),Grew.refl _ _,Grew.refl _ _,Nat.le_refl _,Nat.le_refl _⟩);clear hb3 hk3)
  refine(kind_any _ k (by omega)).mono ?_
  rintro e w8 ⟨z,hz0,hz2,rfl,hw⟩
  cases hw
  rcases (show z=0∨z=1∨z=2 by omega)with rfl|rfl|rfl
  · go_wp2_with fail
    refine(csignif_any _ base d band style raw u ph HC.out pl (by omega) hl).mono ?_
    rintro e w9 ⟨u9,rfl,h9,m9⟩
    have HZ:=hid (show CodP base d band style raw u (ph+7200) w (.returned (.tuple #[])) w9 from⟨u9,rfl,h9,HM.out.trans m9⟩)
    clear h9 m9
    go_wp2_with fail
    go_end0
    exact HZ.out
  · go_wp2_with fail
    refine(crefine_any _ base d band style raw u ph HC.out pl (by omega) hl).mono ?_
    rintro e w9 ⟨u9,rfl,h9,m9⟩
    have HZ:=hid (show CodP base d band style raw u (ph+7200) w (.returned (.tuple #[])) w9 from⟨u9,rfl,h9,HM.out.trans m9⟩)
    clear h9 m9
    go_wp2_with fail
    go_end0
    exact HZ.out
  · go_wp2_with fail
    refine(ccleanup_any _ base d band style raw u ph HC.out pl (by omega) hl).mono ?_
    rintro e w9 ⟨u9,rfl,h9,m9⟩
    have HZ:=hid (show CodP base d band style raw u (ph+7200) w (.returned (.tuple #[])) w9 from⟨u9,rfl,h9,HM.out.trans m9⟩)
    clear h9 m9
    go_wp2_with fail
    go_end0
    exact HZ.out
def adjI (x:List Int) (n:Int):Int:=if 0<n∧x.getD (n-1).toNat 0=255 then n-1 else n
def clip (x:List Int) (e:Int):Int:=adjI x (min e x.length)
theorem adj_lim (x:List Int) {n:Int} (h:0≤n):0≤adjI x n∧adjI x n≤n:=by unfold adjI;split<;>omega
theorem clip_lim (x:List Int) {e:Int} (h:0≤e):0≤clip x e∧clip x e≤x.length:=by
 have:=adj_lim x (n:=min e x.length) (by omega)
 unfold clip
 omega
theorem clip_mono (x:List Int) {e e':Int} (h:e≤e') (h0:0≤e):clip x e≤clip x e':=by
 unfold clip
 rcases Int.lt_or_le (min e x.length) (min e' x.length)with h1|h1
 · have a:=adj_lim x (n:=min e x.length) (by omega)
   have b:min e' x.length-1≤adjI x (min e' x.length):=by unfold adjI;split<;>omega
   omega
 · rw [show min e x.length=min e' x.length by omega]
   exact Int.le_refl _
def passL (ps:List (Int×Bool)):List Value:=ps.flatMap fun p=>[.int .i64 p.1,.bool p.2]
theorem passL_snoc (ps:List (Int×Bool)) (p:Int×Bool):passL (ps++[p])=passL ps++[.int .i64 p.1,.bool p.2]:=by unfold passL;rw [List.flatMap_append];rfl
theorem passL_at : ∀(ps:List (Int×Bool)) (i:Nat) (p:Int×Bool),ps[i]? =some p→(passL ps)[i*2]? =some (.int .i64 p.1)∧(passL ps)[i*2+1]? =some (.bool p.2)
 |[],i,p,h=>by simp at h
 |q::ps,0,p,h=>by simp at h;subst h;exact⟨rfl,rfl⟩
 |q::ps,i+1,p,h=>by
  have ih:=passL_at ps i p (by simpa using h)
  have e:passL (q::ps)=.int .i64 q.1::.bool q.2::passL ps:=rfl
  rw [e,show(i+1)*2=i*2+1+1 by omega]
  exact ih
theorem passL_set : ∀(ps:List (Int×Bool)) (i:Nat) (p:Int×Bool) (e:Int),ps[i]? =some p→(passL ps).set (i*2) (.int .i64 e)=passL (ps.set i (e,p.2))
 |[],i,p,e,h=>by simp at h
 |q::ps,0,p,e,h=>by simp at h;subst h;rfl
 |q::ps,i+1,p,e,h=>by
  have ih:=passL_set ps i p e (by simpa using h)
  have e1:passL (q::ps)=.int .i64 q.1::.bool q.2::passL ps:=rfl
  rw [e1,show(i+1)*2=i*2+1+1 by omega,List.set_cons_succ,List.set_cons_succ,ih]
  rfl
structure EndsOk (ps:List (Int×Bool)) (f:Nat) (m o:Int):Prop where
 pos: ∀(i:Nat) (p:Int×Bool),ps[i]? =some p→0≤p.1
 low: ∀(i j:Nat) (p q:Int×Bool),i≤j→j<f→ps[i]? =some p→ps[j]? =some q→p.1≤q.1∧q.1≤m
 high: ∀(i j:Nat) (p q:Int×Bool),f≤i→i≤j→ps[i]? =some p→ps[j]? =some q→p.1≤q.1
 top: ∀(i:Nat) (p:Int×Bool),f≤i→ps[i]? =some p→p.1≤o
theorem EndsOk.nil :EndsOk [] 0 0 0:=⟨fun i p h=>by simp at h,fun i j p q _ _ h=>by simp at h,fun i j p q _ _ h=>by simp at h,fun i p _ h=>by simp at h⟩
theorem EndsOk.up {ps:List (Int×Bool)} {f:Nat} {m o o':Int} (h:EndsOk ps f m o) (ho:o≤o'):EndsOk ps f m o':=⟨h.pos,h.low,h.high,fun i p hi hp=>Int.le_trans (h.top i p hi hp) ho⟩
theorem EndsOk.push {ps:List (Int×Bool)} {f:Nat} {m o:Int} (h:EndsOk ps f m o) (hf:f≤ps.length) (ho:0≤o) (b:Bool):EndsOk (ps++[(o,b)]) f m o:=by
 have key: ∀(i:Nat) (p:Int×Bool),(ps++[(o,b)])[i]? =some p→(i<ps.length∧ps[i]? =some p)∨(i=ps.length∧p=(o,b)):=fun i p hp=>by
  rcases Nat.lt_trichotomy i ps.length with h1|h1|h1
  · rw [List.getElem?_append_left h1]at hp;exact .inl ⟨h1,hp⟩
  · subst h1;simp at hp;exact .inr ⟨rfl,hp.symm⟩
  · rw [List.getElem?_append_right (by omega),List.getElem?_eq_none (by simp;omega)]at hp;cases hp
 refine⟨fun i p hp=>?_,fun i j p q hij hj hp hq=>?_,fun i j p q hi hij hp hq=>?_,fun i p hi hp=>?_⟩
 · rcases key i p hp with⟨_,h1⟩|⟨_,rfl⟩
   · exact h.pos i p h1
   · exact ho
 · rcases key i p hp with⟨_,h1⟩|⟨h1,rfl⟩<;>rcases key j q hq with⟨_,h2⟩|⟨h2,rfl⟩
   · exact h.low i j p q hij hj h1 h2
   all_goals omega
 · rcases key i p hp with⟨_,h1⟩|⟨h1,rfl⟩<;>rcases key j q hq with⟨_,h2⟩|⟨h2,rfl⟩
   · exact h.high i j p q hi hij h1 h2
   · exact h.top i p hi h1
   · omega
   · exact Int.le_refl _
 · rcases key i p hp with⟨_,h1⟩|⟨h1,rfl⟩
   · exact h.top i p hi h1
   · exact Int.le_refl _
structure Mid (ps ps':List (Int×Bool)) (f j:Nat) (m:Int) (x:List Int):Prop where
 len:ps'.length=ps.length
 at_: ∀(i:Nat) (p:Int×Bool),ps[i]? =some p→ ∃q,ps'[i]? =some q∧(i<f∨j≤i→q=p)∧(f≤i→i<j→q.1=m+clip x p.1)
theorem Mid.start (ps:List (Int×Bool)) (f:Nat) (m:Int) (x:List Int):Mid ps ps f f m x:=⟨rfl,fun i p h=>⟨p,h,fun _=>rfl,fun _ _=>by omega⟩⟩
theorem Mid.next {ps ps':List (Int×Bool)} {f j:Nat} {m:Int} {x:List Int} (h:Mid ps ps' f j m x) (hf:f≤j) {p:Int×Bool} (hp:ps[j]? =some p):Mid ps (ps'.set j (m+clip x p.1,p.2)) f (j+1) m x:=by
 refine⟨by rw [List.length_set];exact h.len,fun i q hq=>?_⟩
 obtain⟨r,h1,h2,h3⟩:=h.at_ i q hq
 by_cases e:j=i
 · subst e
   rw [hp]at hq
   cases hq
   exact⟨_,List.getElem?_set_self (List.getElem?_eq_some_iff.1 h1).1,fun hc=>by omega,fun _ _=>rfl⟩
 · exact⟨r,by rw [List.getElem?_set_ne e];exact h1,fun hc=>h2 (by omega),fun h4 h5=>h3 h4 (by omega)⟩
theorem EndsOk.close {ps ps':List (Int×Bool)} {f:Nat} {m o:Int} {x:List Int} (h:EndsOk ps f m o) (hm:0≤m) (hM:Mid ps ps' f ps.length m x) {k:Nat} (hk:k+1=ps.length) {p:Int×Bool} (hp:ps'[k]? =some p):
 EndsOk (ps'.set k (m+x.length,p.2)) (k+1) (m+x.length) 0:=by
 have back: ∀(i:Nat) (q:Int×Bool),(ps'.set k (m+x.length,p.2))[i]? =some q→i<k+1∧((i=k∧q.1=m+x.length)∨(i<k∧ ∃r,ps[i]? =some r∧(i<f→q=r)∧(f≤i→q.1=m+clip x r.1))):=fun i q hq=>by
  have hlt:=(List.getElem?_eq_some_iff.1 hq).1
  rw [List.length_set,hM.len]at hlt
  by_cases e:k=i
  · subst e
    rw [List.getElem?_set_self (by rw [hM.len];omega)]at hq
    cases hq
    exact⟨by omega,.inl ⟨rfl,rfl⟩⟩
  · rw [List.getElem?_set_ne e]at hq
    obtain⟨r,hr⟩: ∃r,ps[i]? =some r:=⟨_,List.getElem?_eq_getElem (by omega)⟩
    obtain⟨q',h1,h2,h3⟩:=hM.at_ i r hr
    rw [hq]at h1
    cases h1
    exact⟨by omega,.inr ⟨by omega,r,hr,fun h4=>h2 (.inl h4),fun h4=>h3 h4 (by omega)⟩⟩
 have lim: ∀(i:Nat) (q:Int×Bool),(ps'.set k (m+x.length,p.2))[i]? =some q→0≤q.1∧q.1≤m+x.length:=fun i q hq=>by
  obtain⟨_,⟨_,h2⟩|⟨h1,r,hr,h3,h4⟩⟩:=back i q hq
  · omega
  · have hr0:=h.pos i r hr
    have hc:=clip_lim x hr0
    by_cases hf:i<f
    · rw [h3 hf]
      have:=(h.low i i r r (Nat.le_refl _) hf hr hr).2
      omega
    · have:=h4 (by omega)
      omega
 refine⟨fun i q hq=>(lim i q hq).1,fun i j q s hij hj hq hs=>⟨?_,(lim j s hs).2⟩,fun i j q s hi hij hq hs=>?_,fun i q hi hq=>?_⟩
 · obtain⟨_,⟨e2,h2⟩|⟨h1,r,hr,h3,h4⟩⟩:=back j s hs
   · have:=(lim i q hq).2;omega
   · obtain⟨_,⟨e5,h5⟩|⟨h5,r',hr',h6,h7⟩⟩:=back i q hq
     · omega
     · have hr0:=h.pos i r' hr'
       have hr1:=h.pos j r hr
       by_cases hfj:j<f
       · rw [h3 hfj,h6 (by omega)]
         exact(h.low i j r' r hij hfj hr' hr).1
       · by_cases hfi:i<f
         · rw [h6 hfi,h4 (by omega)]
           have:=(h.low i i r' r' (Nat.le_refl _) hfi hr' hr').2
           have:=clip_lim x hr1
           omega
         · rw [h7 (by omega),h4 (by omega)]
           have:=clip_mono x (h.high i j r' r (by omega) hij hr' hr) hr0
           omega
 · have:=(back i q hq).1;omega
 · have:=(back i q hq).1;omega
theorem Cod.farT {base:Nat} {d:Cd} {band style:Int} {raw:Bool} {u:Ws} {ph:Nat} {w:World} (h:Cod base d band style raw u ph w) {g:Nat} {t:TypeId} {cs:Array Value} (hg:Blk w g t cs)
 (h0:t≠165) (h1:t≠189) (h2:t≠191) (h3:5≠t) (h4:t≠3) (h5:t≠4): ¬CF d u g:=by
 obtain⟨cs,hb,_⟩:=h.rd.blk
 obtain⟨c1,b1,_⟩:=h.rd.mag
 obtain⟨c2,b2,_⟩:=h.rd.neg
 obtain⟨c3,b3,_⟩:=h.rd.sig
 obtain⟨c4,b4,_⟩:=h.rd.seen
 obtain⟨c5,b5,_⟩:=h.rd.again
 have hn:=h.wr.notI hg h1 h2 h3
 rintro ((e|e|e)|e|e|e|e|e)
 · exact Blk.ne_ hg hb h0 e
 · exact hn.1 e
 · exact hn.2 e
 · exact Blk.ne_ hg b1 h4 e
 · exact Blk.ne_ hg b2 h4 e
 · exact Blk.ne_ hg b3 h5 e
 · exact Blk.ne_ hg b4 h5 e
 · exact Blk.ne_ hg b5 h5 e
structure TI (w0:World) (gr gb pl:Nat) (ps:List (Int×Bool)) (A:Option Addr) (cA:Nat) (bs:List Int) (B:Option Addr) (cB:Nat) (w:World):Prop where
 res:Blk w gr 117 #[.int .i64 0,.slice none 0 0,.slice none 0 0]
 blk:Blk w gb 117 #[.int .i64 pl,.slice A ps.length cA,.slice B bs.length cB]
 pas:w.ownsRow w0.heap.size 145 2 (.slice A ps.length cA) ps.length (passL ps)
 byt:w.ownsRow w0.heap.size 5 1 (.slice B bs.length cB) bs.length (bs.map (Value.int .u8))
 ne:gr≠gb
 keep:Keep (fun _=>False) w0 w
 bytes:Bytes bs
 nr:w0.heap.size≤gr
 nb:w0.heap.size≤gb
def ApB (B:Option Addr) (u:Ws):Prop:= ∀b,B=some b→(∀ a,u.A=some a→a.block≠b.block)∧(∀ a,u.B=some a→a.block≠b.block)
structure CdH (d:Cd) (band style:Int) (B0:Nat) (w:World):Prop where
 blk: ∃cs,Blk w d.g 165 cs∧CdB d band style cs∧cs[47]? =some (.bool true)
 mag:IRow w d.gm (d.W*d.H) (fun z=>0≤z∧z≤1073741823)
 neg:IRow w d.gn (d.W*d.H) (fun z=>0≤z∧z≤1)
 sig:BRow w d.gs (d.W*d.H)
 seen:BRow w d.ge (d.W*d.H)
 again:BRow w d.ga (d.W*d.H)
 mn:d.gm≠d.gn
 n0:B0≤d.g
 n1:B0≤d.gm
 n2:B0≤d.gn
 n3:B0≤d.gs
 n4:B0≤d.ge
 n5:B0≤d.ga
theorem CdB.of {d:Cd} {band style:Int} {raw:Bool} {cs:Array Value} (h:CdC d band style raw cs):CdB d band style cs:=⟨h.c0,h.c1,h.c2,h.c3,h.c4,h.c5,h.c6,h.c7,h.c8,h.cx,(Array.getElem?_eq_some_iff.1 h.c50).1⟩
theorem CdH.of {base:Nat} {d:Cd} {band style:Int} {raw:Bool} {u:Ws} {ph B0:Nat} {w0 w:World} (h:Cod base d band style raw u ph w) (h0:CdH d band style B0 w0):CdH d band style B0 w:=by
 obtain⟨cs,hb,hc⟩:=h.rd.blk
 exact⟨⟨cs,hb,CdB.of hc,hc.c47⟩,h.rd.mag,h.rd.neg,h.rd.sig,h.rd.seen,h.rd.again,h.mn,h0.n0,h0.n1,h0.n2,h0.n3,h0.n4,h0.n5⟩
theorem CdH.keep {d:Cd} {band style:Int} {B0:Nat} {w w':World} {S:Nat→Prop} (h:CdH d band style B0 w) (hk:Keep S w w') (h1: ¬S d.g) (h2: ¬S d.gm) (h3: ¬S d.gn) (h4: ¬S d.gs) (h5: ¬S d.ge) (h6: ¬S d.ga):CdH d band style B0 w':=by
 obtain⟨cs,hb,hc⟩:=h.blk
 exact⟨⟨cs,hb.keep hk h1,hc⟩,h.mag.keep hk h2,h.neg.keep hk h3,h.sig.keep hk h4,h.seen.keep hk h5,h.again.keep hk h6,h.mn,h.n0,h.n1,h.n2,h.n3,h.n4,h.n5⟩
theorem CdH.keepF {d:Cd} {band style:Int} {B0:Nat} {w w':World} (h:CdH d band style B0 w) (hk:Keep (fun _=>False) w w'):CdH d band style B0 w':=h.keep hk id id id id id id
section
variable {w0 :World} {gr gb pl:Nat} {ps:List (Int×Bool)} {A:Option Addr} {cA:Nat} {bs:List Int} {B:Option Addr} {cB:Nat} {w w':World}
theorem TI.keepF (h:TI w0 gr gb pl ps A cA bs B cB w) (hk:Keep (fun _=>False) w w'):TI w0 gr gb pl ps A cA bs B cB w':=
 ⟨h.res.keep hk id,h.blk.keep hk id,own_keepF h.pas hk,own_keepF h.byt hk,h.ne,h.keep.trans hk (fun _ _ h=>h),h.bytes,h.nr,h.nb⟩
theorem TI.keepS {S:Nat→Prop} (h:TI w0 gr gb pl ps A cA bs B cB w) (hk:Keep S w w') (h1: ¬S gr) (h2: ¬S gb) (h3: ∀a,A=some a→ ¬S a.block) (h4: ∀a,B=some a→ ¬S a.block) (hS: ∀k,S k→w0.heap.size≤k):TI w0 gr gb pl ps A cA bs B cB w':=
 ⟨h.res.keep hk h1,h.blk.keep hk h2,own_keep h.pas hk (fun k e=>by obtain⟨ad,e1,e2⟩:=own_foot e;rw [← e2];exact h3 ad e1),own_keep h.byt hk (fun k e=>by obtain⟨ad,e1,e2⟩:=own_foot e;rw [← e2];exact h4 ad e1),h.ne,h.keep.new hk hS,h.bytes,h.nr,h.nb⟩
theorem TI.pasBlk (h:TI w0 gr gb pl ps A cA bs B cB w) {a:Addr} (e:A=some a): ∃cs,Blk w a.block 145 cs:=by
 subst e
 rcases h.pas.2 with⟨h1,_⟩|⟨g,cap,cur,hv,_,hg,_⟩
 · cases h1
 · injection hv with hv
   injection hv with hv
   subst hv
   exact⟨cur,hg⟩
theorem TI.bytLt (h:TI w0 gr gb pl ps A cA bs B cB w) {a:Addr} (e:B=some a):a.block<w.heap.size:=by
 subst e
 exact(h.byt.lt a.block (by simp [Value.ownBlock])).2
theorem TI.mv {base:Nat} {d:Cd} {band style:Int} {raw:Bool} {u u':Ws} {ph:Nat} (h:TI w0 gr gb pl ps A cA bs B cB w) (hc:Cod base d band style raw u ph w) (hap:ApB B u) (hm:Mv d u u' w w') (hn: ∀k,CF d u k→w0.heap.size≤k):TI w0 gr gb pl ps A cA bs B cB w'∧ApB B u':=by
 refine⟨h.keepS hm.keep (hc.farT h.res (by decide) (by decide) (by decide) (by decide) (by decide) (by decide)) (hc.farT h.blk (by decide) (by decide) (by decide) (by decide) (by decide) (by decide)) (fun a e=>?_) (fun a e=>?_) hn,fun b e=>⟨fun a ea=>?_,fun a ea=>?_⟩⟩
 · obtain⟨cs,hb⟩:=h.pasBlk e
   exact hc.farT hb (by decide) (by decide) (by decide) (by decide) (by decide) (by decide)
 · obtain⟨hA,hB⟩:=hap a e
   subst e
   have hT: ∀(g:Nat) (t:TypeId) (cs:Array Value),Blk w g t cs→5≠t→a.block≠g:=fun g t cs hg hne e2=>own_ne h.byt hg hne (by simp [Value.ownBlock,e2])
   obtain⟨c0,b0,_⟩:=hc.rd.blk
   obtain⟨c1,b1,_⟩:=hc.rd.mag
   obtain⟨c2,b2,_⟩:=hc.rd.neg
   obtain⟨c3,b3,_⟩:=hc.rd.sig
   obtain⟨c4,b4,_⟩:=hc.rd.seen
   obtain⟨c5,b5,_⟩:=hc.rd.again
   rintro ((e|e|e)|e|e|e|e|e)
   · exact hT _ _ _ b0 (by decide) e
   · rcases e with e|⟨x,ex,e⟩
     · exact hT _ _ _ hc.wr.enc.blk (by decide) e
     · exact hA x ex e
   · rcases e with e|⟨x,ex,e⟩
     · exact hT _ _ _ hc.wr.wr.blk (by decide) e
     · exact hB x ex e
   · exact hT _ _ _ b1 (by decide) e
   · exact hT _ _ _ b2 (by decide) e
   · exact hT _ _ _ b3 (by decide) e
   · exact hT _ _ _ b4 (by decide) e
   · exact hT _ _ _ b5 (by decide) e
 · rcases hm.gA a ea with⟨x,ex,hx⟩|hx
   · rw [← hx];exact(hap b e).1 x ex
   · have:=h.bytLt e;omega
 · rcases hm.gB a ea with⟨x,ex,hx⟩|hx
   · rw [← hx];exact(hap b e).2 x ex
   · have:=h.bytLt e;omega
end
theorem TI.setT {w0:World} {gr gb pl:Nat} {ps:List (Int×Bool)} {A:Option Addr} {cA:Nat} {bs:List Int} {B:Option Addr} {cB:Nat} {w w':World} (h:TI w0 gr gb pl ps A cA bs B cB w) {g:Nat} {t:TypeId} {cs:Array Value} (hg:Blk w g t cs) (h1:t≠117) (h2:t≠145) (h3:5≠t) (hn:w0.heap.size≤g) (hk:Keep (fun j=>j=g) w w'):TI w0 gr gb pl ps A cA bs B cB w':=
 h.keepS hk (fun e=>by rw [← e]at hg;exact Blk.ne_ hg h.res h1 rfl) (fun e=>by rw [← e]at hg;exact Blk.ne_ hg h.blk h1 rfl)
  (fun a e e2=>by obtain⟨cs,hb⟩:=h.pasBlk e;rw [e2]at hb;exact Blk.ne_ hg hb h2 rfl)
  (fun a e e2=>by subst e;exact own_ne h.byt hg h3 (by simp [Value.ownBlock,e2])) (fun k e=>by rw [e];exact hn)
theorem CdH.setMag {d:Cd} {band style:Int} {B0:Nat} {w:World} (h:CdH d band style B0 w) (i:Nat) {z:Int} (hz:0≤z∧z≤1073741823):CdH d band style B0 (w.setCell ⟨d.gm,i,none⟩ (.int .i64 z)):=by
 obtain⟨cs,hb,hc⟩:=h.blk
 obtain⟨c1,b1,_⟩:=h.mag
 obtain⟨c3,b3,_⟩:=h.sig
 obtain⟨c4,b4,_⟩:=h.seen
 obtain⟨c5,b5,_⟩:=h.again
 have hk:=Keep.set1 w d.gm i (.int .i64 z)
 exact⟨⟨cs,hb.keep hk (Blk.ne_ hb b1 (by decide)),hc⟩,h.mag.set i hz,h.neg.keep hk h.mn.symm,h.sig.keep hk (Blk.ne_ b3 b1 (by decide)),h.seen.keep hk (Blk.ne_ b4 b1 (by decide)),h.again.keep hk (Blk.ne_ b5 b1 (by decide)),h.mn,h.n0,h.n1,h.n2,h.n3,h.n4,h.n5⟩
theorem CdH.setNeg {d:Cd} {band style:Int} {B0:Nat} {w:World} (h:CdH d band style B0 w) (i:Nat) {z:Int} (hz:0≤z∧z≤1):CdH d band style B0 (w.setCell ⟨d.gn,i,none⟩ (.int .i64 z)):=by
 obtain⟨cs,hb,hc⟩:=h.blk
 obtain⟨c1,b1,_⟩:=h.neg
 obtain⟨c3,b3,_⟩:=h.sig
 obtain⟨c4,b4,_⟩:=h.seen
 obtain⟨c5,b5,_⟩:=h.again
 have hk:=Keep.set1 w d.gn i (.int .i64 z)
 exact⟨⟨cs,hb.keep hk (Blk.ne_ hb b1 (by decide)),hc⟩,h.mag.keep hk h.mn,h.neg.set i hz,h.sig.keep hk (Blk.ne_ b3 b1 (by decide)),h.seen.keep hk (Blk.ne_ b4 b1 (by decide)),h.again.keep hk (Blk.ne_ b5 b1 (by decide)),h.mn,h.n0,h.n1,h.n2,h.n3,h.n4,h.n5⟩
theorem TI.setP {w0:World} {gr gb pl:Nat} {ps:List (Int×Bool)} {A:Option Addr} {cA:Nat} {bs:List Int} {B:Option Addr} {cB:Nat} {w:World} (h:TI w0 gr gb pl ps A cA bs B cB w) (q:Nat):TI w0 gr gb q ps A cA bs B cB (w.setCell ⟨gb,0,none⟩ (.int .i64 q)):=by
 have hk:=Keep.set1 w gb 0 (.int .i64 q)
 exact⟨h.res.keep hk h.ne,h.blk.set_ 0 _,own_keep h.pas hk (fun k e e2=>own_ne h.pas h.blk (by decide) (by rw [e,e2])),own_keep h.byt hk (fun k e e2=>own_ne h.byt h.blk (by decide) (by rw [e,e2])),h.ne,h.keep.setCell (p:=⟨gb,0,none⟩) (.inr h.nb) _,h.bytes,h.nr,h.nb⟩
theorem CdH.setP {d:Cd} {band style:Int} {B0:Nat} {w:World} (h:CdH d band style B0 w) {g:Nat} {cs:Array Value} (hg:Blk w g 117 cs) (i:Nat) (v:Value):CdH d band style B0 (w.setCell ⟨g,i,none⟩ v):=by
 obtain⟨c0,b0,_⟩:=h.blk
 obtain⟨c1,b1,_⟩:=h.mag
 obtain⟨c2,b2,_⟩:=h.neg
 obtain⟨c3,b3,_⟩:=h.sig
 obtain⟨c4,b4,_⟩:=h.seen
 obtain⟨c5,b5,_⟩:=h.again
 exact h.keep (Keep.set1 w g i v) (Blk.ne_ b0 hg (by decide)) (Blk.ne_ b1 hg (by decide)) (Blk.ne_ b2 hg (by decide)) (Blk.ne_ b3 hg (by decide)) (Blk.ne_ b4 hg (by decide)) (Blk.ne_ b5 hg (by decide))
theorem CF.new {base:Nat} {d:Cd} {band style:Int} {raw:Bool} {u:Ws} {ph B0:Nat} {w w1:World} (h:Cod base d band style raw u ph w) (hh:CdH d band style B0 w1) (hE:B0≤d.E) (hR:B0≤d.R) (hb:B0≤base): ∀k,CF d u k→B0≤k:=by
 have hA: ∀a,u.A=some a→B0≤a.block:=fun a e=>by
  obtain⟨A,n,c,s,B,m,k,l,r⟩:=u
  simp only at e
  subst e
  have:=(h.wr.enc.own.lt a.block (by simp [Value.ownBlock])).1
  omega
 have hB: ∀a,u.B=some a→B0≤a.block:=fun a e=>by
  obtain⟨A,n,c,s,B,m,k,l,r⟩:=u
  simp only at e
  subst e
  have:=(h.wr.wr.own.lt a.block (by simp [Value.ownBlock])).1
  omega
 rintro k ((rfl|e|e)|rfl|rfl|rfl|rfl|rfl)
 · exact hh.n0
 · rcases e with rfl|⟨x,ex,rfl⟩
   · exact hE
   · exact hA x ex
 · rcases e with rfl|⟨x,ex,rfl⟩
   · exact hR
   · exact hB x ex
 · exact hh.n1
 · exact hh.n2
 · exact hh.n3
 · exact hh.n4
 · exact hh.n5
theorem CdC.er {d:Cd} {band style:Int} {raw:Bool} {cs:Array Value} {E R:Nat} (h:CdB d band style cs) (h47:cs[47]? =some (.bool true)) (h48:cs[48]? =some (.bool raw)) (h49:cs[49]? =some (.pointer (some ⟨E,0,none⟩))) (h50:cs[50]? =some (.pointer (some ⟨R,0,none⟩))):CdC (⟨d.g,d.gm,d.gn,d.gs,d.ge,d.ga,d.W,d.H,E,R⟩:Cd) band style raw cs:=
 ⟨h.c0,h.c1,h.c2,h.c3,h.c4,h.c5,h.c6,h.c7,h.c8,h.cx,h47,h48,h49,h50⟩
theorem CdB.ofER {d:Cd} {band style:Int} {raw:Bool} {cs:Array Value} {E R:Nat} (h:CdC (⟨d.g,d.gm,d.gn,d.gs,d.ge,d.ga,d.W,d.H,E,R⟩:Cd) band style raw cs):CdB d band style cs:=⟨h.c0,h.c1,h.c2,h.c3,h.c4,h.c5,h.c6,h.c7,h.c8,h.cx,(Array.getElem?_eq_some_iff.1 h.c50).1⟩
theorem CdH.ofER {base:Nat} {d:Cd} {band style:Int} {raw:Bool} {u:Ws} {ph B0 E R:Nat} {w0 w:World} (h:Cod base (⟨d.g,d.gm,d.gn,d.gs,d.ge,d.ga,d.W,d.H,E,R⟩:Cd) band style raw u ph w) (h0:CdH d band style B0 w0):CdH d band style B0 w:=by
 obtain⟨cs,hb,hc⟩:=h.rd.blk
 exact⟨⟨cs,hb,CdB.ofER hc,hc.c47⟩,h.rd.mag,h.rd.neg,h.rd.sig,h.rd.seen,h.rd.again,h.mn,h0.n0,h0.n1,h0.n2,h0.n3,h0.n4,h0.n5⟩
theorem CdH.toER {d:Cd} {band style:Int} {B0 E R:Nat} {w:World} (h:CdH d band style B0 w):CdH (⟨d.g,d.gm,d.gn,d.gs,d.ge,d.ga,d.W,d.H,E,R⟩:Cd) band style B0 w:=by
 obtain⟨cs,hb,c,h47⟩:=h.blk
 exact⟨⟨cs,hb,⟨c.c0,c.c1,c.c2,c.c3,c.c4,c.c5,c.c6,c.c7,c.c8,c.cx,c.size⟩,h47⟩,h.mag,h.neg,h.sig,h.seen,h.again,h.mn,h.n0,h.n1,h.n2,h.n3,h.n4,h.n5⟩
theorem CdB.set {d:Cd} {band style:Int} {cs:Array Value} (h:CdB d band style cs) {i:Nat} (hi:47≤i) (v:Value):CdB d band style (cs.setIfInBounds i v):=by
 have f: ∀j,j<47→(cs.setIfInBounds i v)[j]? =cs[j]?:=fun j hj=>Array.getElem?_setIfInBounds_ne (by omega)
 exact⟨by rw [f _ (by decide)];exact h.c0,by rw [f _ (by decide)];exact h.c1,by rw [f _ (by decide)];exact h.c2,by rw [f _ (by decide)];exact h.c3,by rw [f _ (by decide)];exact h.c4,by rw [f _ (by decide)];exact h.c5,by rw [f _ (by decide)];exact h.c6,by rw [f _ (by decide)];exact h.c7,by rw [f _ (by decide)];exact h.c8,fun k hk=>by rw [f _ (by omega),f _ (by omega)];exact h.cx k hk,by simpa using h.size⟩
theorem CdH.put {d:Cd} {band style:Int} {B0:Nat} {w:World} (h:CdH d band style B0 w) {i:Nat} (hi:48≤i) (v:Value):CdH d band style B0 (w.setCell ⟨d.g,i,none⟩ v):=by
 obtain⟨cs,hb,hc,h47⟩:=h.blk
 obtain⟨c1,b1,_⟩:=h.mag
 obtain⟨c2,b2,_⟩:=h.neg
 obtain⟨c3,b3,_⟩:=h.sig
 obtain⟨c4,b4,_⟩:=h.seen
 obtain⟨c5,b5,_⟩:=h.again
 have hk:=Keep.set1 w d.g i v
 exact⟨⟨_,hb.set_ i v,hc.set (by omega) v,by rw [Array.getElem?_setIfInBounds_ne (by omega)];exact h47⟩,h.mag.keep hk (Blk.ne_ b1 hb (by decide)),h.neg.keep hk (Blk.ne_ b2 hb (by decide)),h.sig.keep hk (Blk.ne_ b3 hb (by decide)),h.seen.keep hk (Blk.ne_ b4 hb (by decide)),h.again.keep hk (Blk.ne_ b5 hb (by decide)),h.mn,h.n0,h.n1,h.n2,h.n3,h.n4,h.n5⟩
theorem CdH.has {d:Cd} {band style:Int} {B0:Nat} {w:World} (h:CdH d band style B0 w) {i:Nat} (hi:i≤50):(∃ x,w.cell? ⟨d.g,i,none⟩=some x)∧w.frozen? ⟨d.g,i,none⟩=false:=by
 obtain⟨cs,hb,hc,_⟩:=h.blk
 exact⟨⟨_,(hb.cell i).trans (Array.getElem?_eq_getElem (by have:=hc.size;omega))⟩,hb.frozen i⟩
theorem CdH.cell_put {d:Cd} {band style:Int} {B0:Nat} {w:World} (h:CdH d band style B0 w) {i:Nat} (hi:i≤50) (v:Value):(w.setCell ⟨d.g,i,none⟩ v).cell? ⟨d.g,i,none⟩=some v:=by
 obtain⟨cs,hb,hc,_⟩:=h.blk
 rw [(hb.set_ i v).cell,Array.getElem?_setIfInBounds_self_of_lt (by have:=hc.size;omega)]
theorem CdH.ownBlk {d:Cd} {band style:Int} {B0:Nat} {w:World} (h:CdH d band style B0 w): ∃cs,Blk w d.g 165 cs:=by obtain⟨cs,hb,_⟩:=h.blk;exact⟨cs,hb⟩
theorem seg_start {d:Cd} {band style:Int} {B0 base:Nat} {w:World} {raw:Bool} {E R:Nat} {A:Option Addr} {n c:Nat} (h:CdH d band style B0 w) (h48:w.cell? ⟨d.g,48,none⟩=some (.bool raw)) (hE:Mq.Er w base E A n c newM) (hR:Rw.RWr w base R none 0 0 [] 0) (hb:base≤w.heap.size) (hw0:0<d.W) (hw1:d.W≤12) (hh0:0<d.H) (hh1:d.H≤12):
 Cod base (⟨d.g,d.gm,d.gn,d.gs,d.ge,d.ga,d.W,d.H,E,R⟩:Cd) band style raw ⟨A,n,c,newM,none,0,0,[],0⟩ 3 ((w.setCell ⟨d.g,49,none⟩ (.pointer (some ⟨E,0,none⟩))).setCell ⟨d.g,50,none⟩ (.pointer (some ⟨R,0,none⟩))):=by
 have hf:=(h.put (i:=49) (by omega) (.pointer (some ⟨E,0,none⟩))).put (i:=50) (by omega) (.pointer (some ⟨R,0,none⟩))
 obtain⟨cs,hbk,hc,h47⟩:=h.blk
 have hs:=hc.size
 have hbk2:=(hbk.set_ 49 (.pointer (some ⟨E,0,none⟩))).set_ 50 (.pointer (some ⟨R,0,none⟩))
 rw [hbk.cell]at h48
 have hk:Keep (fun j=>j=d.g) w ((w.setCell ⟨d.g,49,none⟩ (.pointer (some ⟨E,0,none⟩))).setCell ⟨d.g,50,none⟩ (.pointer (some ⟨R,0,none⟩))):=(Keep.set1 w d.g 49 _).setR 50 _
 have hlen:n=1:=by have:=hE.len;simpa [newM]using this.symm
 refine⟨⟨⟨_,hbk2,CdC.er ((hc.set (by omega) _).set (by omega) _) ?_ ?_ ?_ ?_⟩,hf.mag,hf.neg,hf.sig,hf.seen,hf.again,hw0,hh0,hw1,hh1⟩,⟨hE.keep hk (fun e=>?_) (fun ad e e2=>?_),newM_inv,(by show(32768:Int)≤32768;omega),(by show(32768:Int)<65536;omega),Rw.RW0.keep hR hk (fun e=>?_) (fun ad e=>(by cases e)),BInv.nil,?_,(by simp),(fun a b _ e=>(by cases e)),(by omega),Nat.le_trans hb hk.size⟩,h.mn⟩
 · rw [Array.getElem?_setIfInBounds_ne (by omega),Array.getElem?_setIfInBounds_ne (by omega)];exact h47
 · rw [Array.getElem?_setIfInBounds_ne (by omega),Array.getElem?_setIfInBounds_ne (by omega)];exact h48
 · rw [Array.getElem?_setIfInBounds_ne (by omega),Array.getElem?_setIfInBounds_self_of_lt (by omega)]
 · rw [Array.getElem?_setIfInBounds_self_of_lt (by simpa using hs)]
 · rw [← e]at hbk;exact Blk.ne_ hbk hE.blk (by decide) rfl
 · subst e;exact own_ne hE.own hbk (by decide) (by simp [Value.ownBlock,e2])
 · rw [← e]at hbk;exact Blk.ne_ hbk hR.blk (by decide) rfl
 · simp only [newM];omega
def outI (raw:Bool) (u:Ws):Int:=if raw then u.l.length else u.n-1+5
theorem outI_mv {d:Cd} {u u':Ws} {w w':World} (h:Mv d u u' w w') (raw:Bool):outI raw u≤outI raw u':=by
 unfold outI
 have h1:=h.n
 have h2:=h.l
 split<;>omega
theorem outI_pos {base:Nat} {d:Cd} {band style:Int} {raw:Bool} {u:Ws} {ph:Nat} {w:World} (h:Cod base d band style raw u ph w):0≤outI raw u:=by unfold outI;split<;>omega
theorem TI.pass {w0:World} {gr gb pl:Nat} {ps:List (Int×Bool)} {A A':Option Addr} {cA cA':Nat} {bs:List Int} {B:Option Addr} {cB:Nat} {w w':World} (h:TI w0 gr gb pl ps A cA bs B cB w) (p:Int×Bool)
 (ho:w'.ownsRow w0.heap.size 145 2 (.slice A' (ps.length+1) cA') (ps.length+1) (passL (ps++[p]))) (hk:Keep (fun i=>(Value.slice A ps.length cA).ownBlock=some i) w w'):
 TI w0 gr gb pl (ps++[p]) A' cA' bs B cB (w'.setCell ⟨gb,1,none⟩ (.slice A' (ps.length+1) cA')):=by
 have hlen:(ps++[p]).length=ps.length+1:=by simp
 have hb1:=h.blk.keep hk (own_ne h.pas h.blk (by decide))
 have hr1:=h.res.keep hk (own_ne h.pas h.res (by decide))
 have hy1:=own_keep h.byt hk (fun k e e2=>by
  obtain⟨cs,hc⟩: ∃cs,Blk w k 145 cs:=by
   obtain⟨ad,e3,e4⟩:=own_foot e2
   obtain⟨cs,hc⟩:=h.pasBlk e3
   exact⟨cs,by rw [← e4];exact hc⟩
  exact own_ne h.byt hc (by decide) e)
 have hk2:=Keep.set1 w' gb 1 (.slice A' (ps.length+1) cA')
 refine⟨hr1.keep hk2 h.ne,?_,?_,own_keep hy1 hk2 (fun k e e2=>own_ne hy1 hb1 (by decide) (by rw [e,e2])),h.ne,(keep_app h.keep h.pas (Nat.le_refl _) hk).setCell (p:=⟨gb,1,none⟩) (.inr h.nb) _,h.bytes,h.nr,h.nb⟩
 · rw [hlen];exact hb1.set_ 1 _
 · rw [hlen];exact own_keep ho hk2 (fun k e e2=>own_ne ho hb1 (by decide) (by rw [e,e2]))
theorem Cod.beside {base:Nat} {d:Cd} {band style:Int} {raw:Bool} {u:Ws} {ph:Nat} {w w':World} (h:Cod base d band style raw u ph w) {S:Nat→Prop} (hk:Keep S w w') (hS: ∀k,S k→k<w.heap.size→ ¬CF d u k):Cod base d band style raw u ph w':=by
 have key: ∀k,CF d u k→k<w.heap.size→ ¬S k:=fun k hc hl hs=>hS k hs hl hc
 obtain⟨cs,hb,hc⟩:=h.rd.blk
 have l1:=h.rd.mag.lt
 have l2:=h.rd.neg.lt
 have l3:=h.rd.sig.lt
 have l4:=h.rd.seen.lt
 have l5:=h.rd.again.lt
 exact⟨h.rd.keep hk (key _ (.inl (.inl rfl)) hb.lt) (key _ (.inr (.inl rfl)) l1) (key _ (.inr (.inr (.inl rfl))) l2) (key _ (.inr (.inr (.inr (.inl rfl)))) l3) (key _ (.inr (.inr (.inr (.inr (.inl rfl))))) l4) (key _ (.inr (.inr (.inr (.inr (.inr rfl))))) l5),
  ⟨h.wr.enc.keep hk (key _ (.inl (.inr (.inl (.inl rfl)))) h.wr.enc.blk.lt) (fun ad e=>key _ (.inl (.inr (.inl (.inr ⟨ad,e,rfl⟩)))) (h.wr.ltA e)),h.wr.inv,h.wr.a0,h.wr.a1,Rw.RW0.keep h.wr.wr hk (key _ (.inl (.inr (.inr (.inl rfl)))) h.wr.wr.blk.lt) (fun ad e=>key _ (.inl (.inr (.inr (.inr ⟨ad,e,rfl⟩)))) (h.wr.ltB e)),h.wr.binv,h.wr.ph1,h.wr.ph2,h.wr.ap,h.wr.lim,Nat.le_trans h.wr.hb hk.size⟩,h.mn⟩
theorem flM_len1 (s:ES):(flM s).b.length=s.b.length+1:=by unfold flM;rw [outM_len]
theorem flushM_sub (l:List Int):(flushM l).length≤l.length∧ ∀z∈flushM l,z∈l:=by
 unfold flushM
 split
 · exact⟨by simp,fun z hz=>List.dropLast_subset l hz⟩
 · exact⟨Nat.le_refl _,fun z hz=>hz⟩
theorem flush_ok {s:ES} (h:EInv s) (ha:32768≤s.a):(flushM (flushE s)).length≤s.b.length+1∧Bytes (flushM (flushE s)):=by
 obtain⟨h1,h2⟩:=flushM_sub (flushE s)
 have hl:(flushE s).length=s.b.length+1:=by
  unfold flushE
  rw [List.length_tail,flM_len1,flM_len1]
  rfl
 refine⟨by omega,fun z hz=>?_⟩
 have h3:=h2 z hz
 exact((h.fl ha).fl.fl).bytes z (List.mem_of_mem_tail h3)
theorem CdH.flush {base:Nat} {d:Cd} {band style:Int} {raw:Bool} {u:Ws} {ph B0 E R:Nat} {w w':World} (h:Cod base (⟨d.g,d.gm,d.gn,d.gs,d.ge,d.ga,d.W,d.H,E,R⟩:Cd) band style raw u ph w) (hk:Keep (foot E u.A) w w') (h0:CdH d band style B0 w):CdH d band style B0 w':=by
 obtain⟨cs,hb,hc⟩:=h.rd.blk
 have hr:CdR (⟨d.g,d.gm,d.gn,d.gs,d.ge,d.ga,d.W,d.H,E,R⟩:Cd) band style raw w':=CdR.keepB h hk (fun j hj=>.inr (.inl hj)) (h.wr.notI hb (by decide) (by decide) (by decide)).1
 obtain⟨cs',hb',hc'⟩:=hr.blk
 exact⟨⟨cs',hb',CdB.ofER hc',hc'.c47⟩,hr.mag,hr.neg,hr.sig,hr.seen,hr.again,h.mn,h0.n0,h0.n1,h0.n2,h0.n3,h0.n4,h0.n5⟩
theorem Cod.flushR {base:Nat} {d:Cd} {band style:Int} {raw:Bool} {u:Ws} {ph:Nat} {w w':World} (h:Cod base d band style raw u ph w) (hk:Keep (foot d.E u.A) w w'):Rw.RWr w' base d.R u.B u.m u.k u.l u.r∧w'.cell? ⟨d.g,48,none⟩=some (.bool raw)∧w'.cell? ⟨d.g,50,none⟩=some (.pointer (some ⟨d.R,0,none⟩)):=by
 obtain⟨cs,hb,hc⟩:=h.rd.blk
 have hn:=(h.wr.notI hb (by decide) (by decide) (by decide)).1
 have hb':=hb.keep hk hn
 exact⟨Rw.RW0.keep h.wr.wr hk (fun hf=>h.wr.footE_R hf (.inl rfl)) (fun ad e hf=>h.wr.footE_R hf (.inr ⟨ad,e,rfl⟩)),(hb'.cell 48).trans hc.c48,(hb'.cell 50).trans hc.c50⟩
theorem TI.grow {w0:World} {gr gb pl:Nat} {ps:List (Int×Bool)} {A:Option Addr} {cA:Nat} {bs:List Int} {B B':Option Addr} {cB cB':Nat} {w w':World} (h:TI w0 gr gb pl ps A cA bs B cB w) (xs:List Int) (hx:Bytes xs)
 (ho:w'.ownsRow w0.heap.size 5 1 (.slice B' (bs.length+xs.length) cB') (bs.length+xs.length) (bs.map (Value.int .u8)++xs.map (Value.int .u8))) (hk:Keep (fun i=>(Value.slice B bs.length cB).ownBlock=some i) w w'):
 TI w0 gr gb pl ps A cA (bs++xs) B' cB' (w'.setCell ⟨gb,2,none⟩ (.slice B' (bs.length+xs.length) cB')):=by
 have hb1:=h.blk.keep hk (own_ne h.byt h.blk (by decide))
 have hr1:=h.res.keep hk (own_ne h.byt h.res (by decide))
 have hp1:=own_keep h.pas hk (fun k e e2=>by
  obtain⟨cs,hc⟩: ∃cs,Blk w k 145 cs:=by
   obtain⟨ad,e3,e4⟩:=own_foot e
   obtain⟨cs,hc⟩:=h.pasBlk e3
   exact⟨cs,by rw [← e4];exact hc⟩
  exact own_ne h.byt hc (by decide) e2)
 have hk2:=Keep.set1 w' gb 2 (.slice B' (bs.length+xs.length) cB')
 refine⟨hr1.keep hk2 h.ne,?_,own_keep hp1 hk2 (fun k e e2=>own_ne hp1 hb1 (by decide) (by rw [e,e2])),?_,h.ne,(keep_app h.keep h.byt (Nat.le_refl _) hk).setCell (p:=⟨gb,2,none⟩) (.inr h.nb) _,fun z hz=>?_,h.nr,h.nb⟩
 · rw [List.length_append];exact hb1.set_ 2 _
 · rw [List.length_append,List.map_append];exact own_keep ho hk2 (fun k e e2=>own_ne ho hb1 (by decide) (by rw [e,e2]))
 · rcases List.mem_append.1 hz with h1|h1
   · exact h.bytes z h1
   · exact hx z h1
theorem TI.setEnd {w0:World} {gr gb pl:Nat} {ps:List (Int×Bool)} {A:Option Addr} {cA:Nat} {bs:List Int} {B:Option Addr} {cB:Nat} {w:World} (h:TI w0 gr gb pl ps A cA bs B cB w) {j:Nat} {p:Int×Bool} (hp:ps[j]? =some p) (e:Int):
 ∃g,A=some ⟨g,0,none⟩∧w.cell? ⟨g,j*2,none⟩=some (.int .i64 p.1)∧w.frozen? ⟨g,j*2,none⟩=false∧TI w0 gr gb pl (ps.set j (e,p.2)) A cA bs B cB (w.setCell ⟨g,j*2,none⟩ (.int .i64 e))∧w0.heap.size≤g∧(∃ cs,Blk w g 145 cs):=by
 have hj:=(List.getElem?_eq_some_iff.1 hp).1
 obtain⟨g,hA,hnc,hgb,hcl,hfz⟩: ∃g,A=some ⟨g,0,none⟩∧ps.length≤cA∧w0.heap.size≤g∧(∀ j u,(passL ps)[j]? =some u→w.cell? ⟨g,j,none⟩=some u)∧(∃ cur,Blk w g 145 cur):=by
  rcases h.pas.2 with⟨_,h0⟩|⟨g,cap,cur,hv,hb,hg,hnc,_⟩
  · omega
  · injection hv with h1 h2 h3
    subst h1 h3
    refine⟨g,rfl,hnc,hb,fun j u hu=>?_,cur,hg⟩
    have:=h.pas.cells (g:=g) rfl j u hu
    rw [add_lit',Nat.zero_add]at this
    exact this
 subst hA
 obtain⟨cur,hcur⟩:=hfz
 have hk:=Keep.set1 w g (j*2) (.int .i64 e)
 have hst:=(World.ownsRow.stored h.pas (j*2) (.int .i64 e)).1
 rw [passL_set ps j p e hp]at hst
 refine⟨g,rfl,hcl _ _ (passL_at ps j p hp).1,hcur.frozen _,⟨h.res.keep hk (Blk.ne_ h.res hcur (by decide)),?_,?_,own_keep h.byt hk (fun k e1 e2=>own_ne h.byt hcur (by decide) (by rw [e1,e2])),h.ne,h.keep.setCell (p:=⟨g,j*2,none⟩) (.inr hgb) _,h.bytes,h.nr,h.nb⟩,hgb,cur,hcur⟩
 · rw [List.length_set];exact h.blk.keep hk (Blk.ne_ h.blk hcur (by decide))
 · rw [List.length_set];exact hst
theorem CdH.far {d:Cd} {band style:Int} {B0:Nat} {w w':World} {S:Nat→Prop} (h:CdH d band style B0 w) (hk:Keep S w w') (hS: ∀(g:Nat) (t:TypeId) (cs:Array Value),Blk w g t cs→t≠5→t≠117→t≠145→ ¬S g):CdH d band style B0 w':=by
 obtain⟨c0,b0,_⟩:=h.blk
 obtain⟨c1,b1,_⟩:=h.mag
 obtain⟨c2,b2,_⟩:=h.neg
 obtain⟨c3,b3,_⟩:=h.sig
 obtain⟨c4,b4,_⟩:=h.seen
 obtain⟨c5,b5,_⟩:=h.again
 exact h.keep hk (hS _ _ _ b0 (by decide) (by decide) (by decide)) (hS _ _ _ b1 (by decide) (by decide) (by decide)) (hS _ _ _ b2 (by decide) (by decide) (by decide)) (hS _ _ _ b3 (by decide) (by decide) (by decide)) (hS _ _ _ b4 (by decide) (by decide) (by decide)) (hS _ _ _ b5 (by decide) (by decide) (by decide))
structure EL (w0:World) (d:Cd) (band style gb pl:Nat) (ps ps':List (Int×Bool)) (f j m:Nat) (A:Option Addr) (cA:Nat) (bs xs:List Int) (B:Option Addr) (cB:Nat) (X:Option Addr) (w:World):Prop where
 mid:Mid ps ps' f j m xs
 ti:TI w0 w0.heap.size gb pl ps' A cA bs B cB w
 cd:CdH d band style w0.heap.size w
 rd:Rd w X xs.length (xs.map (Value.int .u8))
theorem EL.next {w0:World} {d:Cd} {band style gb pl:Nat} {ps ps':List (Int×Bool)} {f j m:Nat} {A:Option Addr} {cA:Nat} {bs xs:List Int} {B:Option Addr} {cB:Nat} {X:Option Addr} {w:World} (h:EL w0 d band style gb pl ps ps' f j m A cA bs xs B cB X w) (hfj:f≤j) (hj:j<ps.length) {s0:Nat} (hX: ∀ad,X=some ad→s0≤ad.block) (hA: ∀ad,A=some ad→ad.block<s0):
 ∃(p:Int×Bool) (g:Nat),ps[j]? =some p∧A=some ⟨g,0,none⟩∧w.cell? ⟨g,j*2,none⟩=some (.int .i64 p.1)∧w.frozen? ⟨g,j*2,none⟩=false∧EL w0 d band style gb pl ps (ps'.set j ((m:Int)+clip xs p.1,p.2)) f (j+1) m A cA bs xs B cB X (w.setCell ⟨g,j*2,none⟩ (.int .i64 ((m:Int)+clip xs p.1))):=by
 obtain⟨p,hp⟩: ∃p,ps[j]? =some p:=⟨_,List.getElem?_eq_getElem hj⟩
 obtain⟨q,hq,hq2,_⟩:=h.mid.at_ j p hp
 obtain rfl:=hq2 (.inr (Nat.le_refl _))
 obtain⟨g,hA',hc,hf,hT,_,cs,hcs⟩:=h.ti.setEnd hq ((m:Int)+clip xs q.1)
 have hk:=Keep.set1 w g (j*2) (.int .i64 ((m:Int)+clip xs q.1))
 exact⟨q,g,hp,hA',hc,hf,⟨h.mid.next hfj hp,hT,h.cd.far hk (fun g' t cs' hb h1 h2 h3 e=>by rw [e]at hb;exact Blk.ne_ hb hcs h3 rfl),h.rd.keep hk (fun ad e e2=>by have:=hX ad e;have:=hA _ hA';simp only at this;omega)⟩⟩
theorem clip_eq (x:List Int) (e:Int):clip x e=if 0<min e x.length∧x.getD (min e x.length-1).toNat 0=255 then min e x.length-1 else min e x.length:=rfl
end Go.Proofs.YthfogcgdijmaoaaGreat
