/-
  Part 33 of the proof: CodD CodE TierP TierI TierS. Conditions: those of the statements.
-/
import Derived.Test.YthfogcgdijmaoaaGreatJ26
import Derived.Test.YthfogcgdijmaoaaGreatJ31
import Derived.Test.YthfogcgdijmaoaaGreatJ32
set_option maxRecDepth 100000
set_option maxHeartbeats 16000000
set_option linter.unusedVariables false
set_option linter.unusedSimpArgs false
namespace Go.Proofs.YthfogcgdijmaoaaGreat
open Go.RowKit
theorem Cod.two {base:Nat} {d:Cd} {band style:Int} {raw:Bool} {u:Ws} {ph:Nat} {w:World} (h:Cod base d band style raw u ph w):
 w.cell? ⟨d.g,0,none⟩=some (.int .i64 d.W)∧w.cell? ⟨d.g,1,none⟩=some (.int .i64 d.H)∧w.cell? ⟨d.g,3,none⟩=some (.int .i64 style)∧w.cell? ⟨d.g,7,none⟩=some (.slice (some ⟨d.ge,0,none⟩) (d.W*d.H) (d.W*d.H)):=by
 obtain⟨cs,hbk,hC⟩:=h.rd.blk
 exact⟨(hbk.cell 0).trans hC.c0,(hbk.cell 1).trans hC.c1,(hbk.cell 3).trans hC.c3,(hbk.cell 7).trans hC.c7⟩
theorem ccleanup_any (w:World) (base:Nat) (d:Cd) (band style:Int) (raw:Bool) (u:Ws) (ph:Nat) (h:Cod base d band style raw u ph w) (plane:Nat) (hp:plane≤40) (hl:ph+7200≤536870912):
 Calls Tryz.prog 110 #[.pointer (some ⟨d.g,0,none⟩),.int .i64 plane] w (CodP base d band style raw u (ph+7200) w):=by
 have HR0:=hid h
 have HM0:=hid (Mv.refl d u w)
 have hWl:=h.rd.w1
 have hHl:=h.rd.h1
 have hW0:=h.rd.w0
 have hH0:=h.rd.h0
 have hN:=h.rd.n144
 have hN0:0<d.W*d.H:=Nat.mul_pos hW0 hH0
 have e1:(d.W:Int)*(d.H:Int)=((d.W*d.H:Nat):Int):=by push_cast;rfl
 have e2:IntKind.i64.wrap ((d.W*d.H:Nat):Int)=((d.W*d.H:Nat):Int):=IntWalk.i64_in _ (by omega)
 have e3:wrap64 ((d.W*d.H:Nat):Int)=((d.W*d.H:Nat):Int):=IntWalk.wrap64_in _ (by omega)
 have HIX:=hid (fun x y (hx:x<d.W) (hy:y<d.H)=>ix_lt hx hy)
 have HAT:=hid (fun w n (hn:n<d.W*d.H)=>at_any w d.W d.H n hW0 (by omega) hH0 (by omega) hn)
 clear h
 obtain⟨N,hNN⟩: ∃N,d.W*d.H=N:=⟨_,rfl⟩
 have HNN:=hid hNN
 rw [hNN]at e1 e2 e3 hN hN0
 clear hNN
 clear e1 e2 e3 HAT
 go_enter Tryz.func110,Tryz.ntmps110
 go_wp2_with fail
 go_loopw [4] (fun v wr=> ∃(t:Nat) (u1:Ws),4*t≤15∧v=.int .i64 (4*(t:Int))∧Hid (Cod base d band style raw u1 (ph+192*(12*t)) wr)∧Hid (Mv d u u1 w wr)) (fun v _=>16-(intOf v).toNat)
 case atStart=>exact⟨0,u,by omega,rfl,HR0,HM0⟩
 case round=>
  clear HR0 HM0
  obtain⟨t,u1,ht,rfl,HC,HM⟩:=hrel
  obtain⟨c0,c1,c3,c7⟩:=HC.out.two
  by_cases hy:4*t<d.H
  · clear c0 c3 c7
    have hyd:decide (4*(t:Int)<(d.H:Int))=true:=by simp;omega
    go_wp2_with fail
    go_loopw [5] (fun v wr=> ∃(x:Nat) (u1:Ws),x≤d.W∧v=.int .i64 x∧Hid (Cod base d band style raw u1 (ph+192*(12*t+x)) wr)∧Hid (Mv d u u1 w wr)) (fun v _=>d.W-(intOf v).toNat)
    case atStart=>exact⟨0,u1,by omega,rfl,HC,HM⟩
    case round=>
     clear HC HM c1
     obtain⟨x,u1,hx,rfl,HC,HM⟩:=hrel
     obtain⟨c0,c1,c3,c7⟩:=HC.out.two
     clear c1 c3 c7
     by_cases hxW:x<d.W
     · have CC:=hid (ccolumn_any wr base d band style raw u1 (ph+192*(12*t+x)) HC.out x (4*t) plane hxW hy hp (by omega))
       rw [show((4*t:Nat):Int)=4*(t:Int) by push_cast;rfl]at CC
       go_wp2_with fail
       refine CC.out.mono ?_
       rintro e w2 ⟨u2,rfl,h2,m2⟩
       have HC2:=hid h2
       have HM2:=hid (HM.out.trans m2)
       clear h2 m2 HC HM c0
       go_wp2_with fail
       go_roundw
       case rel=>exact⟨x+1,u2,by omega,by go_num,hid (HC2.out.up (by omega) (by omega)),HM2⟩
       case measure=>simp [intOf]<;>omega
     · obtain rfl:x=d.W:=by omega
       go_wp2_with fail
       go_roundw
       case rel=>exact⟨t+1,u1,by omega,by(congr 1)<;>omega,hid (HC.out.up (by omega) (by omega)),HM⟩
       case measure=>simp [intOf]<;>omega
  · have HC1:Hid (Cod base d band style raw u1 (ph+7000) wr):=hid (HC.out.up (by omega) (by omega))
    clear HC
    have hyd:decide (4*(t:Int)<(d.H:Int))=false:=by simp;omega
    go_wp2_with fail
    have HM1:=HM
    clear HM c0 c1 c3 c7
    go_loopw [6] (fun v wr=> ∃(n:Nat),n≤N∧v=.int .i64 n∧Hid (Cod base d band style raw u1 (ph+7000) wr)∧Hid (Mv d u u1 w wr)) (fun v _=>N-(intOf v).toNat)
    case atStart=>exact⟨0,by omega,rfl,HC1,HM1⟩
    case round=>
     clear HC1 HM1
     obtain⟨n,hn,rfl,HC,HM⟩:=hrel
     by_cases hnN:n<N
     · obtain⟨_,_,_,c7,_,_,⟨se,hse⟩,_,fse,_⟩:=HC.out.place (v:=n) (by rw [HNN.out];exact hnN)
       rw [HNN.out]at c7
       go_wp2_with fail
       go_roundw
       case rel=>exact⟨n+1,by omega,by go_num,hid (HC.out.setBool HC.out.rd.seen n false),hid (HM.out.set (.inr (.inr (.inr (.inr (.inl rfl))))) n _)⟩
       case measure=>simp [intOf]<;>omega
     · obtain rfl:n=N:=by omega
       obtain⟨c0,c1,c3,c7⟩:=HC.out.two
       rw [HNN.out]at c7
       have HZ:Hid (CodP base d band style raw u (ph+7200) w (.returned (.tuple #[])) wr):=hid ⟨u1,rfl,HC.out.up (by omega) (by omega),HM.out⟩
       cases hsb:(bits BinOp.and IntKind.i64 style 32 != 0)with
       |true=>
        go_wp2_with fail
        have HC1:=HC
        have HM1:=HM
        clear HC HM c0 c1 c3 c7
        go_loopw [7] (fun v wr=> ∃(k:Nat) (u1:Ws),k≤4∧v=.int .i64 k∧Hid (Cod base d band style raw u1 (ph+7000+16*k) wr)∧Hid (Mv d u u1 w wr)) (fun v _=>4-(intOf v).toNat)
        case atStart=>exact⟨0,u1,by omega,rfl,HC1,HM1⟩
        case round=>
         clear HC1 HM1 HZ
         obtain⟨k,u1,hk,rfl,HC,HM⟩:=hrel
         by_cases hk4:k<4
         · go_wp2_with fail
           refine(cbit_any wr base d band style raw u1 (ph+7000+16*k) HC.out 18 (by omega) _ (by omega)).mono ?_
           rintro e w2 ⟨u2,rfl,h2,m2,_⟩
           have HC2:=hid h2
           have HM2:=hid (HM.out.trans m2)
           clear h2 m2
           go_wp2_with fail
           go_roundw
           case rel=>exact⟨k+1,u2,by omega,by go_num,hid (HC2.out.up (by omega) (by omega)),HM2⟩
           case measure=>simp [intOf]<;>omega
         · have HZ:Hid (CodP base d band style raw u (ph+7200) w (.returned (.tuple #[])) wr):=hid ⟨u1,rfl,HC.out.up (by omega) (by omega),HM.out⟩
           go_wp2_with fail
           go_end0
           exact HZ.out
       |false=>
        go_wp2_with fail
        go_end0
        exact HZ.out
theorem begL_at : ∀k,k<19→ ∃i m:Nat,i≤46∧m≤1∧(cxCells begL)[k*2]?=some (.int .i64 i)∧(cxCells begL)[k*2+1]?=some (.int .i64 m):=by
 intro k hk
 rw [cx_lit]
 rcases (show k=0∨k=1∨k=2∨k=3∨k=4∨k=5∨k=6∨k=7∨k=8∨k=9∨k=10∨k=11∨k=12∨k=13∨k=14∨k=15∨k=16∨k=17∨k=18 by omega)with rfl|rfl|rfl|rfl|rfl|rfl|rfl|rfl|rfl|rfl|rfl|rfl|rfl|rfl|rfl|rfl|rfl|rfl|rfl<;>first|exact⟨0,0,by omega,by omega,rfl,rfl⟩|exact⟨4,0,by omega,by omega,rfl,rfl⟩|exact⟨3,0,by omega,by omega,rfl,rfl⟩|exact⟨46,0,by omega,by omega,rfl,rfl⟩
theorem begL_size :(cxCells begL).size=38:=by rw [cx_lit];rfl
theorem CdC.fresh {d:Cd} {band style:Int} {raw:Bool} {cs:Array Value} (h:CdC d band style raw cs):CdC d band style raw (setL cs 9 (cxCells begL).toList):=by
 have hl:(cxCells begL).toList.length=38:=by simp [begL_size]
 have hs:50<cs.size:=(Array.getElem?_eq_some_iff.1 h.c50).1
 obtain⟨c0,c1,c2,c3,c4,c5,c6,c7,c8,cx,c47,c48,c49,c50⟩:=h
 have f: ∀j,j<9∨47≤j→(setL cs 9 (cxCells begL).toList)[j]?=cs[j]?:=fun j hj=>setL_out _ _ _ _ (by omega)
 refine⟨?_,?_,?_,?_,?_,?_,?_,?_,?_,fun j hj=>?_,?_,?_,?_,?_⟩
 · rw [f _ (by omega)];exact c0
 · rw [f _ (by omega)];exact c1
 · rw [f _ (by omega)];exact c2
 · rw [f _ (by omega)];exact c3
 · rw [f _ (by omega)];exact c4
 · rw [f _ (by omega)];exact c5
 · rw [f _ (by omega)];exact c6
 · rw [f _ (by omega)];exact c7
 · rw [f _ (by omega)];exact c8
 · obtain⟨i,m,h1,h2,h3,h4⟩:=begL_at j hj
   refine⟨i,m,h1,h2,?_,?_⟩
   · rw [setL_in _ _ _ _ (by omega) (by omega)];simpa using h3
   · rw [Nat.add_assoc,setL_in _ _ _ _ (by omega) (by omega)];simpa using h4
 · rw [f _ (by omega)];exact c47
 · rw [f _ (by omega)];exact c48
 · rw [f _ (by omega)];exact c49
 · rw [f _ (by omega)];exact c50
theorem Cod.own {base:Nat} {d:Cd} {band style:Int} {raw raw':Bool} {u:Ws} {ph:Nat} {w w':World} (h:Cod base d band style raw u ph w) {cs':Array Value} (hk:Keep (fun j=>j=d.g) w w') (hb:Blk w' d.g 165 cs') (hc:CdC d band style raw' cs'):Cod base d band style raw' u ph w':=by
 obtain⟨cs,hb0,_⟩:=h.rd.blk
 obtain⟨c1,b1,_⟩:=h.rd.mag
 obtain⟨c2,b2,_⟩:=h.rd.neg
 obtain⟨c3,b3,_⟩:=h.rd.sig
 obtain⟨c4,b4,_⟩:=h.rd.seen
 obtain⟨c5,b5,_⟩:=h.rd.again
 have hf:=h.wr.notI hb0 (by decide) (by decide) (by decide)
 exact⟨⟨⟨cs',hb,hc⟩,h.rd.mag.keep hk (Blk.ne_ b1 hb0 (by decide)),h.rd.neg.keep hk (Blk.ne_ b2 hb0 (by decide)),h.rd.sig.keep hk (Blk.ne_ b3 hb0 (by decide)),h.rd.seen.keep hk (Blk.ne_ b4 hb0 (by decide)),h.rd.again.keep hk (Blk.ne_ b5 hb0 (by decide)),h.rd.w0,h.rd.h0,h.rd.w1,h.rd.h1⟩,
  ⟨h.wr.enc.keep hk (fun e=>hf.1 (.inl e.symm)) (fun ad e e2=>hf.1 (.inr ⟨ad,e,e2⟩)),h.wr.inv,h.wr.a0,h.wr.a1,Rw.RW0.keep h.wr.wr hk (fun e=>hf.2 (.inl e.symm)) (fun ad e e2=>hf.2 (.inr ⟨ad,e,e2⟩)),h.wr.binv,h.wr.ph1,h.wr.ph2,h.wr.ap,h.wr.lim,Nat.le_trans h.wr.hb hk.size⟩,h.mn⟩
theorem cx159 :(Tryz.prog.info? 159).map (·.size)=some 38:=by kernel_rfl
theorem cpass_any (w:World) (base:Nat) (d:Cd) (band style:Int) (raw:Bool) (u:Ws) (ph:Nat) (h:Cod base d band style raw u ph w) (k planes:Nat) (hp:planes≤30) (hk:k+2<3*planes) (hl:ph+7200≤536870912):
 Calls Tryz.prog 88 #[.pointer (some ⟨d.g,0,none⟩),.int .i64 k,.int .i64 planes] w (CodP base d band style raw u (ph+7200) w):=by
 obtain⟨cs,hbk,hC⟩:=h.rd.blk
 have c3:w.cell? ⟨d.g,3,none⟩=some (.int .i64 style):=(hbk.cell 3).trans hC.c3
 have HH:=hid h
 have HBK:=hid hbk
 have HC0:=hid hC
 obtain⟨q,hq⟩: ∃q:Nat,(k+2)/3=q:=⟨_,rfl⟩
 have hq2:q+1≤planes:=by omega
 obtain⟨pl,hpl⟩: ∃pl:Nat,planes=pl+1+q:=⟨planes-1-q,by omega⟩
 have e1:((k:Int)+2)/3=(q:Int):=by omega
 have e2:((k:Int)+2).tdiv 3=(q:Int):=by rw [Int.tdiv_eq_ediv_of_nonneg (by omega)];exact e1
 have e3:(planes:Int)-1-(q:Int)=(pl:Int):=by omega
 have HQ:=hid (And.intro hq hpl)
 have hpl30:pl≤30:=by omega
 clear hq hpl
 clear h hbk hC
 cases hsb:(bits BinOp.and IntKind.i64 style 2 != 0)with
 |false=>
  have HC:=HH
  have HM:=hid (Mv.refl d u w)
  go_enter Tryz.func88,Tryz.ntmps88
  go_wp2_with fail
  refine(kind_any _ k (by omega)).mono ?_
  rintro e w8 ⟨z,hz0,hz2,rfl,hw⟩
  cases hw
  rcases (show z=0∨z=1∨z=2 by omega)with rfl|rfl|rfl
  · go_wp2_with fail
    refine(csignif_any _ base d band style raw u ph HC.out pl (by omega) hl).mono ?_
    rintro e w9 ⟨u9,rfl,h9,m9⟩
    have HZ:=hid (show CodP base d band style raw u (ph+7200) w (.returned (.tuple #[])) w9 from⟨u9,rfl,h9,HM.out.trans m9⟩)
    clear h9 m9
    go_wp2_with fail
    go_end0
    exact HZ.out
  · go_wp2_with fail
    refine(crefine_any _ base d band style raw u ph HC.out pl (by omega) hl).mono ?_
    rintro e w9 ⟨u9,rfl,h9,m9⟩
    have HZ:=hid (show CodP base d band style raw u (ph+7200) w (.returned (.tuple #[])) w9 from⟨u9,rfl,h9,HM.out.trans m9⟩)
    clear h9 m9
    go_wp2_with fail
    go_end0
    exact HZ.out
  · go_wp2_with fail
    refine(ccleanup_any _ base d band style raw u ph HC.out pl (by omega) hl).mono ?_
    rintro e w9 ⟨u9,rfl,h9,m9⟩
    have HZ:=hid (show CodP base d band style raw u (ph+7200) w (.returned (.tuple #[])) w9 from⟨u9,rfl,h9,HM.out.trans m9⟩)
    clear h9 m9
    go_wp2_with fail
    go_end0
    exact HZ.out
 |true=>
  go_enter Tryz.func88,Tryz.ntmps88
  go_wp2_with fail
  refine(Mq.rfresh_any _).mono ?_
  rintro e w2 ⟨rfl,hk2⟩
  have HB2:=hid (HBK.out.keep hk2 id)
  have HC2:=hid (HH.out.keepF hk2)
  have HM2:=hid ((Mv.refl d u w).aside hk2)
  have hsz:50<cs.size:=(Array.getElem?_eq_some_iff.1 HC0.out.c50).1
  clear hk2 c3
  go_wp2_with (refine wpList_store_in HB2.out rfl _ _ _ rfl 9 (cxCells begL) rfl rfl (by rw [begL_size];omega) (by rw [begL_size];exact cx159) (cx_one _) ?_;intro w3 hb3 hk3;have HC:=hid (HC2.out.own hk3 hb3 HC0.out.fresh);have HM:=hid (show Mv d u u w w3 from HM2.out.trans ⟨hk3.mono (fun j _ hj=>.inl (.inl hj)),Grew.refl _ _,Grew.refl _ _,Nat.le_refl _,Nat.le_refl _⟩);clear hb3 hk3)
  refine(kind_any _ k (by omega)).mono ?_
  rintro e w8 ⟨z,hz0,hz2,rfl,hw⟩
  cases hw
  rcases (show z=0∨z=1∨z=2 by omega)with rfl|rfl|rfl
  · go_wp2_with fail
    refine(csignif_any _ base d band style raw u ph HC.out pl (by omega) hl).mono ?_
    rintro e w9 ⟨u9,rfl,h9,m9⟩
    have HZ:=hid (show CodP base d band style raw u (ph+7200) w (.returned (.tuple #[])) w9 from⟨u9,rfl,h9,HM.out.trans m9⟩)
    clear h9 m9
    go_wp2_with fail
    go_end0
    exact HZ.out
  · go_wp2_with fail
    refine(crefine_any _ base d band style raw u ph HC.out pl (by omega) hl).mono ?_
    rintro e w9 ⟨u9,rfl,h9,m9⟩
    have HZ:=hid (show CodP base d band style raw u (ph+7200) w (.returned (.tuple #[])) w9 from⟨u9,rfl,h9,HM.out.trans m9⟩)
    clear h9 m9
    go_wp2_with fail
    go_end0
    exact HZ.out
  · go_wp2_with fail
    refine(ccleanup_any _ base d band style raw u ph HC.out pl (by omega) hl).mono ?_
    rintro e w9 ⟨u9,rfl,h9,m9⟩
    have HZ:=hid (show CodP base d band style raw u (ph+7200) w (.returned (.tuple #[])) w9 from⟨u9,rfl,h9,HM.out.trans m9⟩)
    clear h9 m9
    go_wp2_with fail
    go_end0
    exact HZ.out
def adjI (x:List Int) (n:Int):Int:=if 0<n∧x.getD (n-1).toNat 0=255 then n-1 else n
def clip (x:List Int) (e:Int):Int:=adjI x (min e x.length)
theorem adj_lim (x:List Int) {n:Int} (h:0≤n):0≤adjI x n∧adjI x n≤n:=by unfold adjI;split<;>omega
theorem clip_lim (x:List Int) {e:Int} (h:0≤e):0≤clip x e∧clip x e≤x.length:=by
 have:=adj_lim x (n:=min e x.length) (by omega)
 unfold clip
 omega
theorem clip_mono (x:List Int) {e e':Int} (h:e≤e') (h0:0≤e):clip x e≤clip x e':=by
 unfold clip
 rcases Int.lt_or_le (min e x.length) (min e' x.length)with h1|h1
 · have a:=adj_lim x (n:=min e x.length) (by omega)
   have b:min e' x.length-1≤adjI x (min e' x.length):=by unfold adjI;split<;>omega
   omega
 · rw [show min e x.length=min e' x.length by omega]
   exact Int.le_refl _
def passL (ps:List (Int×Bool)):List Value:=ps.flatMap fun p=>[.int .i64 p.1,.bool p.2]
theorem passL_snoc (ps:List (Int×Bool)) (p:Int×Bool):passL (ps++[p])=passL ps++[.int .i64 p.1,.bool p.2]:=by unfold passL;rw [List.flatMap_append];rfl
theorem passL_at : ∀(ps:List (Int×Bool)) (i:Nat) (p:Int×Bool),ps[i]?=some p→(passL ps)[i*2]?=some (.int .i64 p.1)∧(passL ps)[i*2+1]?=some (.bool p.2)
 |[],i,p,h=>by simp at h
 |q::ps,0,p,h=>by simp at h;subst h;exact⟨rfl,rfl⟩
 |q::ps,i+1,p,h=>by
  have ih:=passL_at ps i p (by simpa using h)
  have e:passL (q::ps)=.int .i64 q.1::.bool q.2::passL ps:=rfl
  rw [e,show(i+1)*2=i*2+1+1 by omega]
  exact ih
theorem passL_set : ∀(ps:List (Int×Bool)) (i:Nat) (p:Int×Bool) (e:Int),ps[i]?=some p→(passL ps).set (i*2) (.int .i64 e)=passL (ps.set i (e,p.2))
 |[],i,p,e,h=>by simp at h
 |q::ps,0,p,e,h=>by simp at h;subst h;rfl
 |q::ps,i+1,p,e,h=>by
  have ih:=passL_set ps i p e (by simpa using h)
  have e1:passL (q::ps)=.int .i64 q.1::.bool q.2::passL ps:=rfl
  rw [e1,show(i+1)*2=i*2+1+1 by omega,List.set_cons_succ,List.set_cons_succ,ih]
  rfl
structure EndsOk (ps:List (Int×Bool)) (f:Nat) (m o:Int):Prop where
 pos: ∀(i:Nat) (p:Int×Bool),ps[i]?=some p→0≤p.1
 low: ∀(i j:Nat) (p q:Int×Bool),i≤j→j<f→ps[i]?=some p→ps[j]?=some q→p.1≤q.1∧q.1≤m
 high: ∀(i j:Nat) (p q:Int×Bool),f≤i→i≤j→ps[i]?=some p→ps[j]?=some q→p.1≤q.1
 top: ∀(i:Nat) (p:Int×Bool),f≤i→ps[i]?=some p→p.1≤o
theorem EndsOk.nil :EndsOk [] 0 0 0:=⟨fun i p h=>by simp at h,fun i j p q _ _ h=>by simp at h,fun i j p q _ _ h=>by simp at h,fun i p _ h=>by simp at h⟩
theorem EndsOk.up {ps:List (Int×Bool)} {f:Nat} {m o o':Int} (h:EndsOk ps f m o) (ho:o≤o'):EndsOk ps f m o':=⟨h.pos,h.low,h.high,fun i p hi hp=>Int.le_trans (h.top i p hi hp) ho⟩
theorem EndsOk.push {ps:List (Int×Bool)} {f:Nat} {m o:Int} (h:EndsOk ps f m o) (hf:f≤ps.length) (ho:0≤o) (b:Bool):EndsOk (ps++[(o,b)]) f m o:=by
 have key: ∀(i:Nat) (p:Int×Bool),(ps++[(o,b)])[i]?=some p→(i<ps.length∧ps[i]?=some p)∨(i=ps.length∧p=(o,b)):=fun i p hp=>by
  rcases Nat.lt_trichotomy i ps.length with h1|h1|h1
  · rw [List.getElem?_append_left h1]at hp;exact .inl ⟨h1,hp⟩
  · subst h1;simp at hp;exact .inr ⟨rfl,hp.symm⟩
  · rw [List.getElem?_append_right (by omega),List.getElem?_eq_none (by simp;omega)]at hp;cases hp
 refine⟨fun i p hp=>?_,fun i j p q hij hj hp hq=>?_,fun i j p q hi hij hp hq=>?_,fun i p hi hp=>?_⟩
 · rcases key i p hp with⟨_,h1⟩|⟨_,rfl⟩
   · exact h.pos i p h1
   · exact ho
 · rcases key i p hp with⟨_,h1⟩|⟨h1,rfl⟩<;>rcases key j q hq with⟨_,h2⟩|⟨h2,rfl⟩
   · exact h.low i j p q hij hj h1 h2
   all_goals omega
 · rcases key i p hp with⟨_,h1⟩|⟨h1,rfl⟩<;>rcases key j q hq with⟨_,h2⟩|⟨h2,rfl⟩
   · exact h.high i j p q hi hij h1 h2
   · exact h.top i p hi h1
   · omega
   · exact Int.le_refl _
 · rcases key i p hp with⟨_,h1⟩|⟨h1,rfl⟩
   · exact h.top i p hi h1
   · exact Int.le_refl _
structure Mid (ps ps':List (Int×Bool)) (f j:Nat) (m:Int) (x:List Int):Prop where
 len:ps'.length=ps.length
 at_: ∀(i:Nat) (p:Int×Bool),ps[i]?=some p→ ∃q,ps'[i]?=some q∧(i<f∨j≤i→q=p)∧(f≤i→i<j→q.1=m+clip x p.1)
theorem Mid.start (ps:List (Int×Bool)) (f:Nat) (m:Int) (x:List Int):Mid ps ps f f m x:=⟨rfl,fun i p h=>⟨p,h,fun _=>rfl,fun _ _=>by omega⟩⟩
theorem Mid.next {ps ps':List (Int×Bool)} {f j:Nat} {m:Int} {x:List Int} (h:Mid ps ps' f j m x) (hf:f≤j) {p:Int×Bool} (hp:ps[j]?=some p):Mid ps (ps'.set j (m+clip x p.1,p.2)) f (j+1) m x:=by
 refine⟨by rw [List.length_set];exact h.len,fun i q hq=>?_⟩
 obtain⟨r,h1,h2,h3⟩:=h.at_ i q hq
 by_cases e:j=i
 · subst e
   rw [hp]at hq
   cases hq
   exact⟨_,List.getElem?_set_self (List.getElem?_eq_some_iff.1 h1).1,fun hc=>by omega,fun _ _=>rfl⟩
 · exact⟨r,by rw [List.getElem?_set_ne e];exact h1,fun hc=>h2 (by omega),fun h4 h5=>h3 h4 (by omega)⟩
theorem EndsOk.close {ps ps':List (Int×Bool)} {f:Nat} {m o:Int} {x:List Int} (h:EndsOk ps f m o) (hm:0≤m) (hM:Mid ps ps' f ps.length m x) {k:Nat} (hk:k+1=ps.length) {p:Int×Bool} (hp:ps'[k]?=some p):
 EndsOk (ps'.set k (m+x.length,p.2)) (k+1) (m+x.length) 0:=by
 have back: ∀(i:Nat) (q:Int×Bool),(ps'.set k (m+x.length,p.2))[i]?=some q→i<k+1∧((i=k∧q.1=m+x.length)∨(i<k∧ ∃r,ps[i]?=some r∧(i<f→q=r)∧(f≤i→q.1=m+clip x r.1))):=fun i q hq=>by
  have hlt:=(List.getElem?_eq_some_iff.1 hq).1
  rw [List.length_set,hM.len]at hlt
  by_cases e:k=i
  · subst e
    rw [List.getElem?_set_self (by rw [hM.len];omega)]at hq
    cases hq
    exact⟨by omega,.inl ⟨rfl,rfl⟩⟩
  · rw [List.getElem?_set_ne e]at hq
    obtain⟨r,hr⟩: ∃r,ps[i]?=some r:=⟨_,List.getElem?_eq_getElem (by omega)⟩
    obtain⟨q',h1,h2,h3⟩:=hM.at_ i r hr
    rw [hq]at h1
    cases h1
    exact⟨by omega,.inr ⟨by omega,r,hr,fun h4=>h2 (.inl h4),fun h4=>h3 h4 (by omega)⟩⟩
 have lim: ∀(i:Nat) (q:Int×Bool),(ps'.set k (m+x.length,p.2))[i]?=some q→0≤q.1∧q.1≤m+x.length:=fun i q hq=>by
  obtain⟨_,⟨_,h2⟩|⟨h1,r,hr,h3,h4⟩⟩:=back i q hq
  · omega
  · have hr0:=h.pos i r hr
    have hc:=clip_lim x hr0
    by_cases hf:i<f
    · rw [h3 hf]
      have:=(h.low i i r r (Nat.le_refl _) hf hr hr).2
      omega
    · have:=h4 (by omega)
      omega
 refine⟨fun i q hq=>(lim i q hq).1,fun i j q s hij hj hq hs=>⟨?_,(lim j s hs).2⟩,fun i j q s hi hij hq hs=>?_,fun i q hi hq=>?_⟩
 · obtain⟨_,⟨e2,h2⟩|⟨h1,r,hr,h3,h4⟩⟩:=back j s hs
   · have:=(lim i q hq).2;omega
   · obtain⟨_,⟨e5,h5⟩|⟨h5,r',hr',h6,h7⟩⟩:=back i q hq
     · omega
     · have hr0:=h.pos i r' hr'
       have hr1:=h.pos j r hr
       by_cases hfj:j<f
       · rw [h3 hfj,h6 (by omega)]
         exact(h.low i j r' r hij hfj hr' hr).1
       · by_cases hfi:i<f
         · rw [h6 hfi,h4 (by omega)]
           have:=(h.low i i r' r' (Nat.le_refl _) hfi hr' hr').2
           have:=clip_lim x hr1
           omega
         · rw [h7 (by omega),h4 (by omega)]
           have:=clip_mono x (h.high i j r' r (by omega) hij hr' hr) hr0
           omega
 · have:=(back i q hq).1;omega
 · have:=(back i q hq).1;omega
theorem Cod.farT {base:Nat} {d:Cd} {band style:Int} {raw:Bool} {u:Ws} {ph:Nat} {w:World} (h:Cod base d band style raw u ph w) {g:Nat} {t:TypeId} {cs:Array Value} (hg:Blk w g t cs)
 (h0:t≠165) (h1:t≠189) (h2:t≠191) (h3:5≠t) (h4:t≠3) (h5:t≠4): ¬CF d u g:=by
 obtain⟨cs,hb,_⟩:=h.rd.blk
 obtain⟨c1,b1,_⟩:=h.rd.mag
 obtain⟨c2,b2,_⟩:=h.rd.neg
 obtain⟨c3,b3,_⟩:=h.rd.sig
 obtain⟨c4,b4,_⟩:=h.rd.seen
 obtain⟨c5,b5,_⟩:=h.rd.again
 have hn:=h.wr.notI hg h1 h2 h3
 rintro ((e|e|e)|e|e|e|e|e)
 · exact Blk.ne_ hg hb h0 e
 · exact hn.1 e
 · exact hn.2 e
 · exact Blk.ne_ hg b1 h4 e
 · exact Blk.ne_ hg b2 h4 e
 · exact Blk.ne_ hg b3 h5 e
 · exact Blk.ne_ hg b4 h5 e
 · exact Blk.ne_ hg b5 h5 e
structure TI (w0:World) (gr gb pl:Nat) (ps:List (Int×Bool)) (A:Option Addr) (cA:Nat) (bs:List Int) (B:Option Addr) (cB:Nat) (w:World):Prop where
 res:Blk w gr 117 #[.int .i64 0,.slice none 0 0,.slice none 0 0]
 blk:Blk w gb 117 #[.int .i64 pl,.slice A ps.length cA,.slice B bs.length cB]
 pas:w.ownsRow w0.heap.size 145 2 (.slice A ps.length cA) ps.length (passL ps)
 byt:w.ownsRow w0.heap.size 5 1 (.slice B bs.length cB) bs.length (bs.map (Value.int .u8))
 ne:gr≠gb
 keep:Keep (fun _=>False) w0 w
 bytes:Bytes bs
 nr:w0.heap.size≤gr
 nb:w0.heap.size≤gb
def ApB (B:Option Addr) (u:Ws):Prop:= ∀b,B=some b→(∀ a,u.A=some a→a.block≠b.block)∧(∀ a,u.B=some a→a.block≠b.block)
structure CdH (d:Cd) (band style:Int) (B0:Nat) (w:World):Prop where
 blk: ∃cs,Blk w d.g 165 cs∧CdB d band style cs∧cs[47]?=some (.bool true)
 mag:IRow w d.gm (d.W*d.H) (fun z=>0≤z∧z≤1073741823)
 neg:IRow w d.gn (d.W*d.H) (fun z=>0≤z∧z≤1)
 sig:BRow w d.gs (d.W*d.H)
 seen:BRow w d.ge (d.W*d.H)
 again:BRow w d.ga (d.W*d.H)
 mn:d.gm≠d.gn
 n0:B0≤d.g
 n1:B0≤d.gm
 n2:B0≤d.gn
 n3:B0≤d.gs
 n4:B0≤d.ge
 n5:B0≤d.ga
theorem CdB.of {d:Cd} {band style:Int} {raw:Bool} {cs:Array Value} (h:CdC d band style raw cs):CdB d band style cs:=⟨h.c0,h.c1,h.c2,h.c3,h.c4,h.c5,h.c6,h.c7,h.c8,h.cx,(Array.getElem?_eq_some_iff.1 h.c50).1⟩
theorem CdH.of {base:Nat} {d:Cd} {band style:Int} {raw:Bool} {u:Ws} {ph B0:Nat} {w0 w:World} (h:Cod base d band style raw u ph w) (h0:CdH d band style B0 w0):CdH d band style B0 w:=by
 obtain⟨cs,hb,hc⟩:=h.rd.blk
 exact⟨⟨cs,hb,CdB.of hc,hc.c47⟩,h.rd.mag,h.rd.neg,h.rd.sig,h.rd.seen,h.rd.again,h.mn,h0.n0,h0.n1,h0.n2,h0.n3,h0.n4,h0.n5⟩
theorem CdH.keep {d:Cd} {band style:Int} {B0:Nat} {w w':World} {S:Nat→Prop} (h:CdH d band style B0 w) (hk:Keep S w w') (h1: ¬S d.g) (h2: ¬S d.gm) (h3: ¬S d.gn) (h4: ¬S d.gs) (h5: ¬S d.ge) (h6: ¬S d.ga):CdH d band style B0 w':=by
 obtain⟨cs,hb,hc⟩:=h.blk
 exact⟨⟨cs,hb.keep hk h1,hc⟩,h.mag.keep hk h2,h.neg.keep hk h3,h.sig.keep hk h4,h.seen.keep hk h5,h.again.keep hk h6,h.mn,h.n0,h.n1,h.n2,h.n3,h.n4,h.n5⟩
theorem CdH.keepF {d:Cd} {band style:Int} {B0:Nat} {w w':World} (h:CdH d band style B0 w) (hk:Keep (fun _=>False) w w'):CdH d band style B0 w':=h.keep hk id id id id id id
section
variable {w0 :World} {gr gb pl:Nat} {ps:List (Int×Bool)} {A:Option Addr} {cA:Nat} {bs:List Int} {B:Option Addr} {cB:Nat} {w w':World}
theorem TI.keepF (h:TI w0 gr gb pl ps A cA bs B cB w) (hk:Keep (fun _=>False) w w'):TI w0 gr gb pl ps A cA bs B cB w':=
 ⟨h.res.keep hk id,h.blk.keep hk id,own_keepF h.pas hk,own_keepF h.byt hk,h.ne,h.keep.trans hk (fun _ _ h=>h),h.bytes,h.nr,h.nb⟩
theorem TI.keepS {S:Nat→Prop} (h:TI w0 gr gb pl ps A cA bs B cB w) (hk:Keep S w w') (h1: ¬S gr) (h2: ¬S gb) (h3: ∀a,A=some a→ ¬S a.block) (h4: ∀a,B=some a→ ¬S a.block) (hS: ∀k,S k→w0.heap.size≤k):TI w0 gr gb pl ps A cA bs B cB w':=
 ⟨h.res.keep hk h1,h.blk.keep hk h2,own_keep h.pas hk (fun k e=>by obtain⟨ad,e1,e2⟩:=own_foot e;rw [← e2];exact h3 ad e1),own_keep h.byt hk (fun k e=>by obtain⟨ad,e1,e2⟩:=own_foot e;rw [← e2];exact h4 ad e1),h.ne,h.keep.new hk hS,h.bytes,h.nr,h.nb⟩
theorem TI.pasBlk (h:TI w0 gr gb pl ps A cA bs B cB w) {a:Addr} (e:A=some a): ∃cs,Blk w a.block 145 cs:=by
 subst e
 rcases h.pas.2 with⟨h1,_⟩|⟨g,cap,cur,hv,_,hg,_⟩
 · cases h1
 · injection hv with hv
   injection hv with hv
   subst hv
   exact⟨cur,hg⟩
theorem TI.bytLt (h:TI w0 gr gb pl ps A cA bs B cB w) {a:Addr} (e:B=some a):a.block<w.heap.size:=by
 subst e
 exact(h.byt.lt a.block (by simp [Value.ownBlock])).2
theorem TI.mv {base:Nat} {d:Cd} {band style:Int} {raw:Bool} {u u':Ws} {ph:Nat} (h:TI w0 gr gb pl ps A cA bs B cB w) (hc:Cod base d band style raw u ph w) (hap:ApB B u) (hm:Mv d u u' w w') (hn: ∀k,CF d u k→w0.heap.size≤k):TI w0 gr gb pl ps A cA bs B cB w'∧ApB B u':=by
 refine⟨h.keepS hm.keep (hc.farT h.res (by decide) (by decide) (by decide) (by decide) (by decide) (by decide)) (hc.farT h.blk (by decide) (by decide) (by decide) (by decide) (by decide) (by decide)) (fun a e=>?_) (fun a e=>?_) hn,fun b e=>⟨fun a ea=>?_,fun a ea=>?_⟩⟩
 · obtain⟨cs,hb⟩:=h.pasBlk e
   exact hc.farT hb (by decide) (by decide) (by decide) (by decide) (by decide) (by decide)
 · obtain⟨hA,hB⟩:=hap a e
   subst e
   have hT: ∀(g:Nat) (t:TypeId) (cs:Array Value),Blk w g t cs→5≠t→a.block≠g:=fun g t cs hg hne e2=>own_ne h.byt hg hne (by simp [Value.ownBlock,e2])
   obtain⟨c0,b0,_⟩:=hc.rd.blk
   obtain⟨c1,b1,_⟩:=hc.rd.mag
   obtain⟨c2,b2,_⟩:=hc.rd.neg
   obtain⟨c3,b3,_⟩:=hc.rd.sig
   obtain⟨c4,b4,_⟩:=hc.rd.seen
   obtain⟨c5,b5,_⟩:=hc.rd.again
   rintro ((e|e|e)|e|e|e|e|e)
   · exact hT _ _ _ b0 (by decide) e
   · rcases e with e|⟨x,ex,e⟩
     · exact hT _ _ _ hc.wr.enc.blk (by decide) e
     · exact hA x ex e
   · rcases e with e|⟨x,ex,e⟩
     · exact hT _ _ _ hc.wr.wr.blk (by decide) e
     · exact hB x ex e
   · exact hT _ _ _ b1 (by decide) e
   · exact hT _ _ _ b2 (by decide) e
   · exact hT _ _ _ b3 (by decide) e
   · exact hT _ _ _ b4 (by decide) e
   · exact hT _ _ _ b5 (by decide) e
 · rcases hm.gA a ea with⟨x,ex,hx⟩|hx
   · rw [← hx];exact(hap b e).1 x ex
   · have:=h.bytLt e;omega
 · rcases hm.gB a ea with⟨x,ex,hx⟩|hx
   · rw [← hx];exact(hap b e).2 x ex
   · have:=h.bytLt e;omega
end
theorem TI.setT {w0:World} {gr gb pl:Nat} {ps:List (Int×Bool)} {A:Option Addr} {cA:Nat} {bs:List Int} {B:Option Addr} {cB:Nat} {w w':World} (h:TI w0 gr gb pl ps A cA bs B cB w) {g:Nat} {t:TypeId} {cs:Array Value} (hg:Blk w g t cs) (h1:t≠117) (h2:t≠145) (h3:5≠t) (hn:w0.heap.size≤g) (hk:Keep (fun j=>j=g) w w'):TI w0 gr gb pl ps A cA bs B cB w':=
 h.keepS hk (fun e=>by rw [← e]at hg;exact Blk.ne_ hg h.res h1 rfl) (fun e=>by rw [← e]at hg;exact Blk.ne_ hg h.blk h1 rfl)
  (fun a e e2=>by obtain⟨cs,hb⟩:=h.pasBlk e;rw [e2]at hb;exact Blk.ne_ hg hb h2 rfl)
  (fun a e e2=>by subst e;exact own_ne h.byt hg h3 (by simp [Value.ownBlock,e2])) (fun k e=>by rw [e];exact hn)
theorem CdH.setMag {d:Cd} {band style:Int} {B0:Nat} {w:World} (h:CdH d band style B0 w) (i:Nat) {z:Int} (hz:0≤z∧z≤1073741823):CdH d band style B0 (w.setCell ⟨d.gm,i,none⟩ (.int .i64 z)):=by
 obtain⟨cs,hb,hc⟩:=h.blk
 obtain⟨c1,b1,_⟩:=h.mag
 obtain⟨c3,b3,_⟩:=h.sig
 obtain⟨c4,b4,_⟩:=h.seen
 obtain⟨c5,b5,_⟩:=h.again
 have hk:=Keep.set1 w d.gm i (.int .i64 z)
 exact⟨⟨cs,hb.keep hk (Blk.ne_ hb b1 (by decide)),hc⟩,h.mag.set i hz,h.neg.keep hk h.mn.symm,h.sig.keep hk (Blk.ne_ b3 b1 (by decide)),h.seen.keep hk (Blk.ne_ b4 b1 (by decide)),h.again.keep hk (Blk.ne_ b5 b1 (by decide)),h.mn,h.n0,h.n1,h.n2,h.n3,h.n4,h.n5⟩
theorem CdH.setNeg {d:Cd} {band style:Int} {B0:Nat} {w:World} (h:CdH d band style B0 w) (i:Nat) {z:Int} (hz:0≤z∧z≤1):CdH d band style B0 (w.setCell ⟨d.gn,i,none⟩ (.int .i64 z)):=by
 obtain⟨cs,hb,hc⟩:=h.blk
 obtain⟨c1,b1,_⟩:=h.neg
 obtain⟨c3,b3,_⟩:=h.sig
 obtain⟨c4,b4,_⟩:=h.seen
 obtain⟨c5,b5,_⟩:=h.again
 have hk:=Keep.set1 w d.gn i (.int .i64 z)
 exact⟨⟨cs,hb.keep hk (Blk.ne_ hb b1 (by decide)),hc⟩,h.mag.keep hk h.mn,h.neg.set i hz,h.sig.keep hk (Blk.ne_ b3 b1 (by decide)),h.seen.keep hk (Blk.ne_ b4 b1 (by decide)),h.again.keep hk (Blk.ne_ b5 b1 (by decide)),h.mn,h.n0,h.n1,h.n2,h.n3,h.n4,h.n5⟩
theorem TI.setP {w0:World} {gr gb pl:Nat} {ps:List (Int×Bool)} {A:Option Addr} {cA:Nat} {bs:List Int} {B:Option Addr} {cB:Nat} {w:World} (h:TI w0 gr gb pl ps A cA bs B cB w) (q:Nat):TI w0 gr gb q ps A cA bs B cB (w.setCell ⟨gb,0,none⟩ (.int .i64 q)):=by
 have hk:=Keep.set1 w gb 0 (.int .i64 q)
 exact⟨h.res.keep hk h.ne,h.blk.set_ 0 _,own_keep h.pas hk (fun k e e2=>own_ne h.pas h.blk (by decide) (by rw [e,e2])),own_keep h.byt hk (fun k e e2=>own_ne h.byt h.blk (by decide) (by rw [e,e2])),h.ne,h.keep.setCell (p:=⟨gb,0,none⟩) (.inr h.nb) _,h.bytes,h.nr,h.nb⟩
theorem CdH.setP {d:Cd} {band style:Int} {B0:Nat} {w:World} (h:CdH d band style B0 w) {g:Nat} {cs:Array Value} (hg:Blk w g 117 cs) (i:Nat) (v:Value):CdH d band style B0 (w.setCell ⟨g,i,none⟩ v):=by
 obtain⟨c0,b0,_⟩:=h.blk
 obtain⟨c1,b1,_⟩:=h.mag
 obtain⟨c2,b2,_⟩:=h.neg
 obtain⟨c3,b3,_⟩:=h.sig
 obtain⟨c4,b4,_⟩:=h.seen
 obtain⟨c5,b5,_⟩:=h.again
 exact h.keep (Keep.set1 w g i v) (Blk.ne_ b0 hg (by decide)) (Blk.ne_ b1 hg (by decide)) (Blk.ne_ b2 hg (by decide)) (Blk.ne_ b3 hg (by decide)) (Blk.ne_ b4 hg (by decide)) (Blk.ne_ b5 hg (by decide))
theorem CF.new {base:Nat} {d:Cd} {band style:Int} {raw:Bool} {u:Ws} {ph B0:Nat} {w w1:World} (h:Cod base d band style raw u ph w) (hh:CdH d band style B0 w1) (hE:B0≤d.E) (hR:B0≤d.R) (hb:B0≤base): ∀k,CF d u k→B0≤k:=by
 have hA: ∀a,u.A=some a→B0≤a.block:=fun a e=>by
  obtain⟨A,n,c,s,B,m,k,l,r⟩:=u
  simp only at e
  subst e
  have:=(h.wr.enc.own.lt a.block (by simp [Value.ownBlock])).1
  omega
 have hB: ∀a,u.B=some a→B0≤a.block:=fun a e=>by
  obtain⟨A,n,c,s,B,m,k,l,r⟩:=u
  simp only at e
  subst e
  have:=(h.wr.wr.own.lt a.block (by simp [Value.ownBlock])).1
  omega
 rintro k ((rfl|e|e)|rfl|rfl|rfl|rfl|rfl)
 · exact hh.n0
 · rcases e with rfl|⟨x,ex,rfl⟩
   · exact hE
   · exact hA x ex
 · rcases e with rfl|⟨x,ex,rfl⟩
   · exact hR
   · exact hB x ex
 · exact hh.n1
 · exact hh.n2
 · exact hh.n3
 · exact hh.n4
 · exact hh.n5
theorem CdC.er {d:Cd} {band style:Int} {raw:Bool} {cs:Array Value} {E R:Nat} (h:CdB d band style cs) (h47:cs[47]?=some (.bool true)) (h48:cs[48]?=some (.bool raw)) (h49:cs[49]?=some (.pointer (some ⟨E,0,none⟩))) (h50:cs[50]?=some (.pointer (some ⟨R,0,none⟩))):CdC (⟨d.g,d.gm,d.gn,d.gs,d.ge,d.ga,d.W,d.H,E,R⟩:Cd) band style raw cs:=
 ⟨h.c0,h.c1,h.c2,h.c3,h.c4,h.c5,h.c6,h.c7,h.c8,h.cx,h47,h48,h49,h50⟩
theorem CdB.ofER {d:Cd} {band style:Int} {raw:Bool} {cs:Array Value} {E R:Nat} (h:CdC (⟨d.g,d.gm,d.gn,d.gs,d.ge,d.ga,d.W,d.H,E,R⟩:Cd) band style raw cs):CdB d band style cs:=⟨h.c0,h.c1,h.c2,h.c3,h.c4,h.c5,h.c6,h.c7,h.c8,h.cx,(Array.getElem?_eq_some_iff.1 h.c50).1⟩
theorem CdH.ofER {base:Nat} {d:Cd} {band style:Int} {raw:Bool} {u:Ws} {ph B0 E R:Nat} {w0 w:World} (h:Cod base (⟨d.g,d.gm,d.gn,d.gs,d.ge,d.ga,d.W,d.H,E,R⟩:Cd) band style raw u ph w) (h0:CdH d band style B0 w0):CdH d band style B0 w:=by
 obtain⟨cs,hb,hc⟩:=h.rd.blk
 exact⟨⟨cs,hb,CdB.ofER hc,hc.c47⟩,h.rd.mag,h.rd.neg,h.rd.sig,h.rd.seen,h.rd.again,h.mn,h0.n0,h0.n1,h0.n2,h0.n3,h0.n4,h0.n5⟩
theorem CdH.toER {d:Cd} {band style:Int} {B0 E R:Nat} {w:World} (h:CdH d band style B0 w):CdH (⟨d.g,d.gm,d.gn,d.gs,d.ge,d.ga,d.W,d.H,E,R⟩:Cd) band style B0 w:=by
 obtain⟨cs,hb,c,h47⟩:=h.blk
 exact⟨⟨cs,hb,⟨c.c0,c.c1,c.c2,c.c3,c.c4,c.c5,c.c6,c.c7,c.c8,c.cx,c.size⟩,h47⟩,h.mag,h.neg,h.sig,h.seen,h.again,h.mn,h.n0,h.n1,h.n2,h.n3,h.n4,h.n5⟩
theorem CdB.set {d:Cd} {band style:Int} {cs:Array Value} (h:CdB d band style cs) {i:Nat} (hi:47≤i) (v:Value):CdB d band style (cs.setIfInBounds i v):=by
 have f: ∀j,j<47→(cs.setIfInBounds i v)[j]?=cs[j]?:=fun j hj=>Array.getElem?_setIfInBounds_ne (by omega)
 exact⟨by rw [f _ (by decide)];exact h.c0,by rw [f _ (by decide)];exact h.c1,by rw [f _ (by decide)];exact h.c2,by rw [f _ (by decide)];exact h.c3,by rw [f _ (by decide)];exact h.c4,by rw [f _ (by decide)];exact h.c5,by rw [f _ (by decide)];exact h.c6,by rw [f _ (by decide)];exact h.c7,by rw [f _ (by decide)];exact h.c8,fun k hk=>by rw [f _ (by omega),f _ (by omega)];exact h.cx k hk,by simpa using h.size⟩
theorem CdH.put {d:Cd} {band style:Int} {B0:Nat} {w:World} (h:CdH d band style B0 w) {i:Nat} (hi:48≤i) (v:Value):CdH d band style B0 (w.setCell ⟨d.g,i,none⟩ v):=by
 obtain⟨cs,hb,hc,h47⟩:=h.blk
 obtain⟨c1,b1,_⟩:=h.mag
 obtain⟨c2,b2,_⟩:=h.neg
 obtain⟨c3,b3,_⟩:=h.sig
 obtain⟨c4,b4,_⟩:=h.seen
 obtain⟨c5,b5,_⟩:=h.again
 have hk:=Keep.set1 w d.g i v
 exact⟨⟨_,hb.set_ i v,hc.set (by omega) v,by rw [Array.getElem?_setIfInBounds_ne (by omega)];exact h47⟩,h.mag.keep hk (Blk.ne_ b1 hb (by decide)),h.neg.keep hk (Blk.ne_ b2 hb (by decide)),h.sig.keep hk (Blk.ne_ b3 hb (by decide)),h.seen.keep hk (Blk.ne_ b4 hb (by decide)),h.again.keep hk (Blk.ne_ b5 hb (by decide)),h.mn,h.n0,h.n1,h.n2,h.n3,h.n4,h.n5⟩
theorem CdH.has {d:Cd} {band style:Int} {B0:Nat} {w:World} (h:CdH d band style B0 w) {i:Nat} (hi:i≤50):(∃ x,w.cell? ⟨d.g,i,none⟩=some x)∧w.frozen? ⟨d.g,i,none⟩=false:=by
 obtain⟨cs,hb,hc,_⟩:=h.blk
 exact⟨⟨_,(hb.cell i).trans (Array.getElem?_eq_getElem (by have:=hc.size;omega))⟩,hb.frozen i⟩
theorem CdH.cell_put {d:Cd} {band style:Int} {B0:Nat} {w:World} (h:CdH d band style B0 w) {i:Nat} (hi:i≤50) (v:Value):(w.setCell ⟨d.g,i,none⟩ v).cell? ⟨d.g,i,none⟩=some v:=by
 obtain⟨cs,hb,hc,_⟩:=h.blk
 rw [(hb.set_ i v).cell,Array.getElem?_setIfInBounds_self_of_lt (by have:=hc.size;omega)]
theorem CdH.ownBlk {d:Cd} {band style:Int} {B0:Nat} {w:World} (h:CdH d band style B0 w): ∃cs,Blk w d.g 165 cs:=by obtain⟨cs,hb,_⟩:=h.blk;exact⟨cs,hb⟩
theorem seg_start {d:Cd} {band style:Int} {B0 base:Nat} {w:World} {raw:Bool} {E R:Nat} {A:Option Addr} {n c:Nat} (h:CdH d band style B0 w) (h48:w.cell? ⟨d.g,48,none⟩=some (.bool raw)) (hE:Mq.Er w base E A n c newM) (hR:Rw.RWr w base R none 0 0 [] 0) (hb:base≤w.heap.size) (hw0:0<d.W) (hw1:d.W≤12) (hh0:0<d.H) (hh1:d.H≤12):
 Cod base (⟨d.g,d.gm,d.gn,d.gs,d.ge,d.ga,d.W,d.H,E,R⟩:Cd) band style raw ⟨A,n,c,newM,none,0,0,[],0⟩ 3 ((w.setCell ⟨d.g,49,none⟩ (.pointer (some ⟨E,0,none⟩))).setCell ⟨d.g,50,none⟩ (.pointer (some ⟨R,0,none⟩))):=by
 have hf:=(h.put (i:=49) (by omega) (.pointer (some ⟨E,0,none⟩))).put (i:=50) (by omega) (.pointer (some ⟨R,0,none⟩))
 obtain⟨cs,hbk,hc,h47⟩:=h.blk
 have hs:=hc.size
 have hbk2:=(hbk.set_ 49 (.pointer (some ⟨E,0,none⟩))).set_ 50 (.pointer (some ⟨R,0,none⟩))
 rw [hbk.cell]at h48
 have hk:Keep (fun j=>j=d.g) w ((w.setCell ⟨d.g,49,none⟩ (.pointer (some ⟨E,0,none⟩))).setCell ⟨d.g,50,none⟩ (.pointer (some ⟨R,0,none⟩))):=(Keep.set1 w d.g 49 _).setR 50 _
 have hlen:n=1:=by have:=hE.len;simpa [newM]using this.symm
 refine⟨⟨⟨_,hbk2,CdC.er ((hc.set (by omega) _).set (by omega) _) ?_ ?_ ?_ ?_⟩,hf.mag,hf.neg,hf.sig,hf.seen,hf.again,hw0,hh0,hw1,hh1⟩,⟨hE.keep hk (fun e=>?_) (fun ad e e2=>?_),newM_inv,(by show(32768:Int)≤32768;omega),(by show(32768:Int)<65536;omega),Rw.RW0.keep hR hk (fun e=>?_) (fun ad e=>(by cases e)),BInv.nil,?_,(by simp),(fun a b _ e=>(by cases e)),(by omega),Nat.le_trans hb hk.size⟩,h.mn⟩
 · rw [Array.getElem?_setIfInBounds_ne (by omega),Array.getElem?_setIfInBounds_ne (by omega)];exact h47
 · rw [Array.getElem?_setIfInBounds_ne (by omega),Array.getElem?_setIfInBounds_ne (by omega)];exact h48
 · rw [Array.getElem?_setIfInBounds_ne (by omega),Array.getElem?_setIfInBounds_self_of_lt (by omega)]
 · rw [Array.getElem?_setIfInBounds_self_of_lt (by simpa using hs)]
 · rw [← e]at hbk;exact Blk.ne_ hbk hE.blk (by decide) rfl
 · subst e;exact own_ne hE.own hbk (by decide) (by simp [Value.ownBlock,e2])
 · rw [← e]at hbk;exact Blk.ne_ hbk hR.blk (by decide) rfl
 · simp only [newM];omega
def outI (raw:Bool) (u:Ws):Int:=if raw then u.l.length else u.n-1+5
theorem outI_mv {d:Cd} {u u':Ws} {w w':World} (h:Mv d u u' w w') (raw:Bool):outI raw u≤outI raw u':=by
 unfold outI
 have h1:=h.n
 have h2:=h.l
 split<;>omega
theorem outI_pos {base:Nat} {d:Cd} {band style:Int} {raw:Bool} {u:Ws} {ph:Nat} {w:World} (h:Cod base d band style raw u ph w):0≤outI raw u:=by unfold outI;split<;>omega
theorem TI.pass {w0:World} {gr gb pl:Nat} {ps:List (Int×Bool)} {A A':Option Addr} {cA cA':Nat} {bs:List Int} {B:Option Addr} {cB:Nat} {w w':World} (h:TI w0 gr gb pl ps A cA bs B cB w) (p:Int×Bool)
 (ho:w'.ownsRow w0.heap.size 145 2 (.slice A' (ps.length+1) cA') (ps.length+1) (passL (ps++[p]))) (hk:Keep (fun i=>(Value.slice A ps.length cA).ownBlock=some i) w w'):
 TI w0 gr gb pl (ps++[p]) A' cA' bs B cB (w'.setCell ⟨gb,1,none⟩ (.slice A' (ps.length+1) cA')):=by
 have hlen:(ps++[p]).length=ps.length+1:=by simp
 have hb1:=h.blk.keep hk (own_ne h.pas h.blk (by decide))
 have hr1:=h.res.keep hk (own_ne h.pas h.res (by decide))
 have hy1:=own_keep h.byt hk (fun k e e2=>by
  obtain⟨cs,hc⟩: ∃cs,Blk w k 145 cs:=by
   obtain⟨ad,e3,e4⟩:=own_foot e2
   obtain⟨cs,hc⟩:=h.pasBlk e3
   exact⟨cs,by rw [← e4];exact hc⟩
  exact own_ne h.byt hc (by decide) e)
 have hk2:=Keep.set1 w' gb 1 (.slice A' (ps.length+1) cA')
 refine⟨hr1.keep hk2 h.ne,?_,?_,own_keep hy1 hk2 (fun k e e2=>own_ne hy1 hb1 (by decide) (by rw [e,e2])),h.ne,(keep_app h.keep h.pas (Nat.le_refl _) hk).setCell (p:=⟨gb,1,none⟩) (.inr h.nb) _,h.bytes,h.nr,h.nb⟩
 · rw [hlen];exact hb1.set_ 1 _
 · rw [hlen];exact own_keep ho hk2 (fun k e e2=>own_ne ho hb1 (by decide) (by rw [e,e2]))
theorem Cod.beside {base:Nat} {d:Cd} {band style:Int} {raw:Bool} {u:Ws} {ph:Nat} {w w':World} (h:Cod base d band style raw u ph w) {S:Nat→Prop} (hk:Keep S w w') (hS: ∀k,S k→k<w.heap.size→ ¬CF d u k):Cod base d band style raw u ph w':=by
 have key: ∀k,CF d u k→k<w.heap.size→ ¬S k:=fun k hc hl hs=>hS k hs hl hc
 obtain⟨cs,hb,hc⟩:=h.rd.blk
 have l1:=h.rd.mag.lt
 have l2:=h.rd.neg.lt
 have l3:=h.rd.sig.lt
 have l4:=h.rd.seen.lt
 have l5:=h.rd.again.lt
 exact⟨h.rd.keep hk (key _ (.inl (.inl rfl)) hb.lt) (key _ (.inr (.inl rfl)) l1) (key _ (.inr (.inr (.inl rfl))) l2) (key _ (.inr (.inr (.inr (.inl rfl)))) l3) (key _ (.inr (.inr (.inr (.inr (.inl rfl))))) l4) (key _ (.inr (.inr (.inr (.inr (.inr rfl))))) l5),
  ⟨h.wr.enc.keep hk (key _ (.inl (.inr (.inl (.inl rfl)))) h.wr.enc.blk.lt) (fun ad e=>key _ (.inl (.inr (.inl (.inr ⟨ad,e,rfl⟩)))) (h.wr.ltA e)),h.wr.inv,h.wr.a0,h.wr.a1,Rw.RW0.keep h.wr.wr hk (key _ (.inl (.inr (.inr (.inl rfl)))) h.wr.wr.blk.lt) (fun ad e=>key _ (.inl (.inr (.inr (.inr ⟨ad,e,rfl⟩)))) (h.wr.ltB e)),h.wr.binv,h.wr.ph1,h.wr.ph2,h.wr.ap,h.wr.lim,Nat.le_trans h.wr.hb hk.size⟩,h.mn⟩
theorem flM_len1 (s:ES):(flM s).b.length=s.b.length+1:=by unfold flM;rw [outM_len]
theorem flushM_sub (l:List Int):(flushM l).length≤l.length∧ ∀z∈flushM l,z∈l:=by
 unfold flushM
 split
 · exact⟨by simp,fun z hz=>List.dropLast_subset l hz⟩
 · exact⟨Nat.le_refl _,fun z hz=>hz⟩
theorem flush_ok {s:ES} (h:EInv s) (ha:32768≤s.a):(flushM (flushE s)).length≤s.b.length+1∧Bytes (flushM (flushE s)):=by
 obtain⟨h1,h2⟩:=flushM_sub (flushE s)
 have hl:(flushE s).length=s.b.length+1:=by
  unfold flushE
  rw [List.length_tail,flM_len1,flM_len1]
  rfl
 refine⟨by omega,fun z hz=>?_⟩
 have h3:=h2 z hz
 exact((h.fl ha).fl.fl).bytes z (List.mem_of_mem_tail h3)
theorem CdH.flush {base:Nat} {d:Cd} {band style:Int} {raw:Bool} {u:Ws} {ph B0 E R:Nat} {w w':World} (h:Cod base (⟨d.g,d.gm,d.gn,d.gs,d.ge,d.ga,d.W,d.H,E,R⟩:Cd) band style raw u ph w) (hk:Keep (foot E u.A) w w') (h0:CdH d band style B0 w):CdH d band style B0 w':=by
 obtain⟨cs,hb,hc⟩:=h.rd.blk
 have hr:CdR (⟨d.g,d.gm,d.gn,d.gs,d.ge,d.ga,d.W,d.H,E,R⟩:Cd) band style raw w':=CdR.keepB h hk (fun j hj=>.inr (.inl hj)) (h.wr.notI hb (by decide) (by decide) (by decide)).1
 obtain⟨cs',hb',hc'⟩:=hr.blk
 exact⟨⟨cs',hb',CdB.ofER hc',hc'.c47⟩,hr.mag,hr.neg,hr.sig,hr.seen,hr.again,h.mn,h0.n0,h0.n1,h0.n2,h0.n3,h0.n4,h0.n5⟩
theorem Cod.flushR {base:Nat} {d:Cd} {band style:Int} {raw:Bool} {u:Ws} {ph:Nat} {w w':World} (h:Cod base d band style raw u ph w) (hk:Keep (foot d.E u.A) w w'):Rw.RWr w' base d.R u.B u.m u.k u.l u.r∧w'.cell? ⟨d.g,48,none⟩=some (.bool raw)∧w'.cell? ⟨d.g,50,none⟩=some (.pointer (some ⟨d.R,0,none⟩)):=by
 obtain⟨cs,hb,hc⟩:=h.rd.blk
 have hn:=(h.wr.notI hb (by decide) (by decide) (by decide)).1
 have hb':=hb.keep hk hn
 exact⟨Rw.RW0.keep h.wr.wr hk (fun hf=>h.wr.footE_R hf (.inl rfl)) (fun ad e hf=>h.wr.footE_R hf (.inr ⟨ad,e,rfl⟩)),(hb'.cell 48).trans hc.c48,(hb'.cell 50).trans hc.c50⟩
theorem TI.grow {w0:World} {gr gb pl:Nat} {ps:List (Int×Bool)} {A:Option Addr} {cA:Nat} {bs:List Int} {B B':Option Addr} {cB cB':Nat} {w w':World} (h:TI w0 gr gb pl ps A cA bs B cB w) (xs:List Int) (hx:Bytes xs)
 (ho:w'.ownsRow w0.heap.size 5 1 (.slice B' (bs.length+xs.length) cB') (bs.length+xs.length) (bs.map (Value.int .u8)++xs.map (Value.int .u8))) (hk:Keep (fun i=>(Value.slice B bs.length cB).ownBlock=some i) w w'):
 TI w0 gr gb pl ps A cA (bs++xs) B' cB' (w'.setCell ⟨gb,2,none⟩ (.slice B' (bs.length+xs.length) cB')):=by
 have hb1:=h.blk.keep hk (own_ne h.byt h.blk (by decide))
 have hr1:=h.res.keep hk (own_ne h.byt h.res (by decide))
 have hp1:=own_keep h.pas hk (fun k e e2=>by
  obtain⟨cs,hc⟩: ∃cs,Blk w k 145 cs:=by
   obtain⟨ad,e3,e4⟩:=own_foot e
   obtain⟨cs,hc⟩:=h.pasBlk e3
   exact⟨cs,by rw [← e4];exact hc⟩
  exact own_ne h.byt hc (by decide) e2)
 have hk2:=Keep.set1 w' gb 2 (.slice B' (bs.length+xs.length) cB')
 refine⟨hr1.keep hk2 h.ne,?_,own_keep hp1 hk2 (fun k e e2=>own_ne hp1 hb1 (by decide) (by rw [e,e2])),?_,h.ne,(keep_app h.keep h.byt (Nat.le_refl _) hk).setCell (p:=⟨gb,2,none⟩) (.inr h.nb) _,fun z hz=>?_,h.nr,h.nb⟩
 · rw [List.length_append];exact hb1.set_ 2 _
 · rw [List.length_append,List.map_append];exact own_keep ho hk2 (fun k e e2=>own_ne ho hb1 (by decide) (by rw [e,e2]))
 · rcases List.mem_append.1 hz with h1|h1
   · exact h.bytes z h1
   · exact hx z h1
theorem TI.setEnd {w0:World} {gr gb pl:Nat} {ps:List (Int×Bool)} {A:Option Addr} {cA:Nat} {bs:List Int} {B:Option Addr} {cB:Nat} {w:World} (h:TI w0 gr gb pl ps A cA bs B cB w) {j:Nat} {p:Int×Bool} (hp:ps[j]?=some p) (e:Int):
 ∃g,A=some ⟨g,0,none⟩∧w.cell? ⟨g,j*2,none⟩=some (.int .i64 p.1)∧w.frozen? ⟨g,j*2,none⟩=false∧TI w0 gr gb pl (ps.set j (e,p.2)) A cA bs B cB (w.setCell ⟨g,j*2,none⟩ (.int .i64 e))∧w0.heap.size≤g∧(∃ cs,Blk w g 145 cs):=by
 have hj:=(List.getElem?_eq_some_iff.1 hp).1
 obtain⟨g,hA,hnc,hgb,hcl,hfz⟩: ∃g,A=some ⟨g,0,none⟩∧ps.length≤cA∧w0.heap.size≤g∧(∀ j u,(passL ps)[j]?=some u→w.cell? ⟨g,j,none⟩=some u)∧(∃ cur,Blk w g 145 cur):=by
  rcases h.pas.2 with⟨_,h0⟩|⟨g,cap,cur,hv,hb,hg,hnc,_⟩
  · omega
  · injection hv with h1 h2 h3
    subst h1 h3
    refine⟨g,rfl,hnc,hb,fun j u hu=>?_,cur,hg⟩
    have:=h.pas.cells (g:=g) rfl j u hu
    rw [add_lit',Nat.zero_add]at this
    exact this
 subst hA
 obtain⟨cur,hcur⟩:=hfz
 have hk:=Keep.set1 w g (j*2) (.int .i64 e)
 have hst:=(World.ownsRow.stored h.pas (j*2) (.int .i64 e)).1
 rw [passL_set ps j p e hp]at hst
 refine⟨g,rfl,hcl _ _ (passL_at ps j p hp).1,hcur.frozen _,⟨h.res.keep hk (Blk.ne_ h.res hcur (by decide)),?_,?_,own_keep h.byt hk (fun k e1 e2=>own_ne h.byt hcur (by decide) (by rw [e1,e2])),h.ne,h.keep.setCell (p:=⟨g,j*2,none⟩) (.inr hgb) _,h.bytes,h.nr,h.nb⟩,hgb,cur,hcur⟩
 · rw [List.length_set];exact h.blk.keep hk (Blk.ne_ h.blk hcur (by decide))
 · rw [List.length_set];exact hst
theorem CdH.far {d:Cd} {band style:Int} {B0:Nat} {w w':World} {S:Nat→Prop} (h:CdH d band style B0 w) (hk:Keep S w w') (hS: ∀(g:Nat) (t:TypeId) (cs:Array Value),Blk w g t cs→t≠5→t≠117→t≠145→ ¬S g):CdH d band style B0 w':=by
 obtain⟨c0,b0,_⟩:=h.blk
 obtain⟨c1,b1,_⟩:=h.mag
 obtain⟨c2,b2,_⟩:=h.neg
 obtain⟨c3,b3,_⟩:=h.sig
 obtain⟨c4,b4,_⟩:=h.seen
 obtain⟨c5,b5,_⟩:=h.again
 exact h.keep hk (hS _ _ _ b0 (by decide) (by decide) (by decide)) (hS _ _ _ b1 (by decide) (by decide) (by decide)) (hS _ _ _ b2 (by decide) (by decide) (by decide)) (hS _ _ _ b3 (by decide) (by decide) (by decide)) (hS _ _ _ b4 (by decide) (by decide) (by decide)) (hS _ _ _ b5 (by decide) (by decide) (by decide))
structure EL (w0:World) (d:Cd) (band style gb pl:Nat) (ps ps':List (Int×Bool)) (f j m:Nat) (A:Option Addr) (cA:Nat) (bs xs:List Int) (B:Option Addr) (cB:Nat) (X:Option Addr) (w:World):Prop where
 mid:Mid ps ps' f j m xs
 ti:TI w0 w0.heap.size gb pl ps' A cA bs B cB w
 cd:CdH d band style w0.heap.size w
 rd:Rd w X xs.length (xs.map (Value.int .u8))
theorem EL.next {w0:World} {d:Cd} {band style gb pl:Nat} {ps ps':List (Int×Bool)} {f j m:Nat} {A:Option Addr} {cA:Nat} {bs xs:List Int} {B:Option Addr} {cB:Nat} {X:Option Addr} {w:World} (h:EL w0 d band style gb pl ps ps' f j m A cA bs xs B cB X w) (hfj:f≤j) (hj:j<ps.length) {s0:Nat} (hX: ∀ad,X=some ad→s0≤ad.block) (hA: ∀ad,A=some ad→ad.block<s0):
 ∃(p:Int×Bool) (g:Nat),ps[j]?=some p∧A=some ⟨g,0,none⟩∧w.cell? ⟨g,j*2,none⟩=some (.int .i64 p.1)∧w.frozen? ⟨g,j*2,none⟩=false∧EL w0 d band style gb pl ps (ps'.set j ((m:Int)+clip xs p.1,p.2)) f (j+1) m A cA bs xs B cB X (w.setCell ⟨g,j*2,none⟩ (.int .i64 ((m:Int)+clip xs p.1))):=by
 obtain⟨p,hp⟩: ∃p,ps[j]?=some p:=⟨_,List.getElem?_eq_getElem hj⟩
 obtain⟨q,hq,hq2,_⟩:=h.mid.at_ j p hp
 obtain rfl:=hq2 (.inr (Nat.le_refl _))
 obtain⟨g,hA',hc,hf,hT,_,cs,hcs⟩:=h.ti.setEnd hq ((m:Int)+clip xs q.1)
 have hk:=Keep.set1 w g (j*2) (.int .i64 ((m:Int)+clip xs q.1))
 exact⟨q,g,hp,hA',hc,hf,⟨h.mid.next hfj hp,hT,h.cd.far hk (fun g' t cs' hb h1 h2 h3 e=>by rw [e]at hb;exact Blk.ne_ hb hcs h3 rfl),h.rd.keep hk (fun ad e e2=>by have:=hX ad e;have:=hA _ hA';simp only at this;omega)⟩⟩
theorem clip_eq (x:List Int) (e:Int):clip x e=if 0<min e x.length∧x.getD (min e x.length-1).toNat 0=255 then min e x.length-1 else min e x.length:=rfl
end Go.Proofs.YthfogcgdijmaoaaGreat
