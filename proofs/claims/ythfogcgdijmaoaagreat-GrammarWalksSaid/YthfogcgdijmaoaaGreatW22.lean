/-
  Part 22 of the proof: CodC. Conditions: those of the statements.
-/
import Derived.Test.YthfogcgdijmaoaaGreatW21
import Derived.Deep.DeepCutAuto
set_option maxRecDepth 100000
set_option maxHeartbeats 16000000
set_option linter.unusedVariables false
set_option linter.unusedSimpArgs false
namespace Go.Proofs.YthfogcgdijmaoaaGreat
open Go.RowKit
theorem two_bits {f:Nat} (h:f<4):wrap64 (wrap64 (2*bits .and .i64 ((f:Int)/2) 1)+bits .and .i64 (f:Int) 1)=(f:Int):=by
 rw [and_one,and_one,IntWalk.wrap64_in (2*_) (by omega),IntWalk.wrap64_in _ (by omega)]
 omega
theorem ccolumn_any (w:World) (base:Nat) (d:Cd) (band style:Int) (raw:Bool) (u:Ws) (ph:Nat) (h:Cod base d band style raw u ph w) (x y plane:Nat) (hx:x<d.W) (hy:y<d.H) (hp:plane≤40) (hl:ph+192≤536870912):
 Calls Tryz.prog 122 #[.pointer (some ⟨d.g,0,none⟩),.int .i64 x,.int .i64 y,.int .i64 plane] w (CodP base d band style raw u (ph+192) w):=by
 have HC0:=hid h
 have hWl:=h.rd.w1
 have hHl:=h.rd.h1
 have hN:=h.rd.n144
 have BL:=hid (blank_any w d band style raw h.rd x y hx hy)
 clear h
 go_enter Tryz.func122,Tryz.ntmps122
 go_upto_if 15 with(go_at_call 128;refine BL.out.mono ?_;rintro e w1 ⟨b,rfl,hb,hk⟩;have HC:=hid (HC0.out.keepF hk);have HM:=hid ((Mv.refl d u w).aside hk);clear hk)
 clear BL HC0
 go_cut [8] (fun v wx=> ∃(j:Nat) (u1:Ws),j≤4∧v=.int .i64 j∧Hid (Cod base d band style raw u1 (ph+64) wx)∧Hid (Mv d u u1 w wx))
 case first=>
  cases b with
  |false=>
   go_wp2_with fail
   go_meet
   exact⟨0,u,by omega,rfl,hid (HC.out.up (by omega) (by omega)),HM⟩
  |true=>
   have hy4:=hb rfl
   clear hb
   obtain⟨cs,hbk,hC⟩:=HC.out.rd.blk
   have c0:w1.cell? ⟨d.g,0,none⟩=some (.int .i64 d.W):=(hbk.cell 0).trans hC.c0
   have c4:w1.cell? ⟨d.g,4,none⟩=some (.slice (some ⟨d.gm,0,none⟩) (d.W*d.H) (d.W*d.H)):=(hbk.cell 4).trans hC.c4
   have HMC:=hid (fun i (hi:i<d.W*d.H)=>HC.out.rd.mag.cell hi)
   have HIX:=hid (fun yy (hyy:yy<d.H)=>ix_lt (W:=d.W) (H:=d.H) hx hyy)
   have HCF:=hid (fun w2 (hk:Keep (fun _=>False) w1 w2)=>And.intro (HC.out.keepF hk) (HM.out.aside hk))
   clear hbk hC HC HM
   go_wp2_with fail
   go_loopw [9,10] (fun v z wr=> ∃(f k:Nat),f≤4∧k≤4∧v=.int .i64 f∧z=.int .i64 ((k:Int)-1)∧Hid (Keep (fun _=>False) w1 wr)) (fun _ z _=>(intOf z+1).toNat)
   case atStart=>exact⟨4,4,by omega,by omega,rfl,rfl,hid (Keep.refl _ _)⟩
   case round=>
    obtain⟨f,k,hf,hk4,rfl,rfl,HK⟩:=hrel
    have d0:=HK.out.cell c0 (fun h=>h)
    have d4:=HK.out.cell c4 (fun h=>h)
    clear c0 c4
    cases k with
    |succ k=>
     have hix:=HIX.out (y+k) (by omega)
     obtain⟨z,hz,hcz⟩:=HMC.out _ hix
     have dz:=HK.out.cell hcz (fun h=>h)
     have e0:(y:Int)+(k:Int)=((y+k:Nat):Int):=by push_cast;rfl
     have e1:((y+k:Nat):Int)*(d.W:Int)=(((y+k)*d.W:Nat):Int):=by push_cast;rfl
     have e2:IntKind.i64.wrap (((y+k)*d.W:Nat):Int)=(((y+k)*d.W:Nat):Int):=IntWalk.i64_in _ (by omega)
     have hyk:y+k<100:=by omega
     obtain⟨v,hv⟩: ∃v,(y+k)*d.W+x=v:=⟨_,rfl⟩
     rw [hv]at hix dz
     generalize (y+k)*d.W=q at*
     have e3:(q:Int)+(x:Int)=(v:Int):=by omega
     have e5:IntKind.i64.wrap ((y:Int)+(k:Int))=((y+k:Nat):Int):=by rw [e0];exact IntWalk.i64_in _ (by omega)
     have e6:IntKind.i64.wrap ((q:Int)+(x:Int))=(v:Int):=by rw [e3];exact IntWalk.i64_in _ (by omega)
     have HV:=hid hv
     have HZ:=hid hcz
     clear hv hcz e0
     generalize y+k=yk at*
     generalize d.W*d.H=N at*
     go_wp2_with fail
     go_quiet (fail)
     go_wp2_with fail
     · go_roundw
       case rel=>exact⟨k,k,by omega,by omega,by congr 1;omega,by go_num,hid (HK.out.drewN nq)⟩
       case measure=>simp [intOf]<;>omega
     · go_roundw
       case rel=>exact⟨f,k,by omega,by omega,rfl,by go_num,hid (HK.out.drewN nq)⟩
       case measure=>simp [intOf]<;>omega
    |zero=>
     obtain⟨h1,m1⟩:=HCF.out _ HK.out
     have HC:=hid h1
     have HM:=hid m1
     clear h1 m1 d0 d4 HCF HMC HIX HK
     have BT:=hid (fun b=>cbit_any wr base d band style raw u ph HC.out 17 (by omega) b (by omega))
     by_cases hf4:f<4
     · have hd:decide ((f:Int)<4)=true:=by simp;omega
       go_wp2_with (go_at_call 83;refine(one_any _ _).mono ?_;rintro e w2 ⟨rfl,hw⟩;cases hw)
       refine(BT.out _).mono ?_
       rintro e w3 ⟨u3,rfl,h3,m3,_⟩
       have HC3:=hid h3
       have HM3:=hid (HM.out.trans m3)
       clear h3 m3 BT HC HM
       have BT:=hid (fun b=>cbit_any w3 base d band style raw u3 (ph+16) HC3.out 18 (by omega) b (by omega))
       go_wp2_with fail
       refine(BT.out _).mono ?_
       rintro e w4 ⟨u4,rfl,h4,m4,_⟩
       have HC4:=hid h4
       have HM4:=hid (HM3.out.trans m4)
       have BT:=hid (fun b=>cbit_any w4 base d band style raw u4 (ph+16+16) HC4.out 18 (by omega) b (by omega))
       clear h4 m4 HC3 HM3
       go_wp2_with fail
       refine(BT.out _).mono ?_
       rintro e w5 ⟨u5,rfl,h5,m5,_⟩
       have HC5:=hid h5
       have HM5:=hid (HM4.out.trans m5)
       obtain⟨cs,hbk,hC⟩:=h5.rd.blk
       have c47:w5.cell? ⟨d.g,47,none⟩=some (.bool true):=(hbk.cell 47).trans hC.c47
       clear h5 m5 HC4 HM4 hbk hC BT
       go_wp2_with fail
       rw [two_bits hf4,show wrap64 ((y:Int)+(f:Int))=((y+f:Nat):Int) by rw [IntWalk.wrap64_in _ (by omega)];push_cast;rfl]
       refine(csign_any w5 base d band style raw u5 (ph+16+16+16) HC5.out x (y+f) hx (by omega) (by omega)).mono ?_
       rintro e w6 ⟨u6,rfl,h6,m6⟩
       have HC6:=hid h6
       have HM6:=hid (HM5.out.trans m6)
       clear h6 m6 HC5 HM5 c47
       go_wp2_with fail
       go_meet
       exact⟨f+1,u6,by omega,by go_num,hid (HC6.out.up (by omega) (by omega)),HM6⟩
     · obtain rfl:f=4:=by omega
       go_wp2_with (go_at_call 83;refine(one_any _ _).mono ?_;rintro e w2 ⟨rfl,hw⟩;cases hw)
       refine(BT.out _).mono ?_
       rintro e w3 ⟨u3,rfl,h3,m3,_⟩
       have HC3:=hid h3
       have HM3:=hid (HM.out.trans m3)
       clear h3 m3 BT HC HM
       go_wp2_with fail
       refine bodyPost_ret (results_none rfl _ _ _) rfl ?_
       exact⟨u3,rfl,HC3.out.up (by omega) (by omega),HM3.out⟩
 case rest=>
  obtain⟨j,u1,hj,rfl,HC0,HM0⟩:=hcut
  clear HC HM hb
  go_wp2_with fail
  go_loopw [8] (fun v wr=> ∃(j:Nat) (u1:Ws),j≤4∧v=.int .i64 j∧Hid (Cod base d band style raw u1 (ph+64+32*j) wr)∧Hid (Mv d u u1 w wr)) (fun v _=>4-(intOf v).toNat)
  case atStart=>exact⟨j,u1,hj,rfl,hid (HC0.out.up (by omega) (by omega)),HM0⟩
  case round=>
   clear HC0 HM0 hj
   rename_i j0 u0
   obtain⟨j,u1,hj,rfl,HC,HM⟩:=hrel
   obtain⟨cs,hbk,hC⟩:=HC.out.rd.blk
   have c1:wr.cell? ⟨d.g,1,none⟩=some (.int .i64 d.H):=(hbk.cell 1).trans hC.c1
   clear hbk hC
   by_cases hin:j<4∧y+j<d.H
   · obtain⟨hj4,hyj⟩:=hin
     have hix:=ix_lt hx hyj
     have e0:(y:Int)+(j:Int)=((y+j:Nat):Int):=by push_cast;rfl
     have e1:((y+j:Nat):Int)*(d.W:Int)=(((y+j)*d.W:Nat):Int):=by push_cast;rfl
     have e2:IntKind.i64.wrap (((y+j)*d.W:Nat):Int)=(((y+j)*d.W:Nat):Int):=IntWalk.i64_in _ (by omega)
     obtain⟨c0,_,c6,c7,_,⟨sg,hsg⟩,⟨se,hse⟩,_,_,_⟩:=HC.out.place hix
     have HIV:=hid hix
     have hykl:y+j<100:=by omega
     obtain⟨v,hv⟩: ∃v,(y+j)*d.W+x=v:=⟨_,rfl⟩
     rw [hv]at hix hsg hse HIV
     generalize (y+j)*d.W=q at*
     have e3:(q:Int)+(x:Int)=(v:Int):=by omega
     have HV:=hid hv
     have HYJ:=hid hyj
     obtain⟨yj,hyje⟩: ∃yj,y+j=yj:=⟨_,rfl⟩
     rw [hyje]at e0 e1 hykl HYJ hyj
     have HYE:=hid hyje
     obtain⟨N,hNN⟩: ∃N,d.W*d.H=N:=⟨_,rfl⟩
     have HNN:=hid hNN
     rw [hNN]at c6 c7 hix hN
     clear hv hyje hNN
     cases sg with
     |true=>
      go_wp2_with fail
      go_roundw
      case rel=>exact⟨j+1,u1,by omega,by go_num,hid (HC.out.up (by omega) (by omega)),HM⟩
      case measure=>simp [intOf]<;>omega
     |false=>
      cases se with
      |true=>
       go_wp2_with fail
       go_roundw
       case rel=>exact⟨j+1,u1,by omega,by go_num,hid (HC.out.up (by omega) (by omega)),HM⟩
       case measure=>simp [intOf]<;>omega
      |false=>
       go_wp2_with fail
       refine(czero_any _ d band style raw HC.out.rd x yj (by omega) (by omega)).mono ?_
       rintro e w3 ⟨k,hk0,hk8,rfl,hk⟩
       obtain⟨kn,rfl⟩: ∃kn:Nat,k=kn:=⟨k.toNat,by omega⟩
       have HC3:=hid (HC.out.keepF hk)
       have HM3:=hid (HM.out.aside hk)
       have HMG:=hid (cmag_any w3 base d band style raw u1 (ph+64+32*j) HC3.out v plane kn HIV.out hp (by omega) (by omega))
       clear hk HC HM c0 c1 c6 c7 hsg hse
       go_wp2_with fail
       refine HMG.out.mono ?_
       rintro e w4 ⟨b,u4,rfl,h4,m4⟩
       have HC4:=hid h4
       have HM4:=hid (HM3.out.trans m4)
       clear h4 m4 HMG HC3 HM3
       by_cases hb1:b=1
       · subst hb1
         go_wp2_with fail
         refine(csign_any w4 base d band style raw u4 (ph+64+32*j+16) HC4.out x yj hx HYJ.out (by omega)).mono ?_
         rintro e w5 ⟨u5,rfl,h5,m5⟩
         have HC5:=hid h5
         have HM5:=hid (HM4.out.trans m5)
         clear h5 m5
         go_wp2_with fail
         go_roundw
         case rel=>exact⟨j+1,u5,by omega,by go_num,hid (HC5.out.up (by omega) (by omega)),HM5⟩
         case measure=>simp [intOf]<;>omega
       · have hb1':(b==1)=false:=by simpa using hb1
         clear hb1
         go_wp2_with fail
         go_roundw
         case rel=>exact⟨j+1,u4,by omega,by go_num,hid (HC4.out.up (by omega) (by omega)),HM4⟩
         case measure=>simp [intOf]<;>omega
   · have HZ:Hid (CodP base d band style raw u (ph+192) w (.returned (.tuple #[])) wr):=hid ⟨u1,rfl,HC.out.up (by omega) (by omega),HM.out⟩
     by_cases hj4:j<4
     · have hyj:d.H≤y+j:=by omega
       clear hin
       go_wp2_with fail
       go_end0
       exact HZ.out
     · obtain rfl:j=4:=by omega
       clear hin
       go_wp2_with fail
       go_end0
       exact HZ.out
end Go.Proofs.YthfogcgdijmaoaaGreat
