/-
  Part 1 of the proof: Form LawStr. Conditions: those of the statements.
-/
import Derived.Test.YthfogcgdijmaoaaGreatJ4
import Derived.Test.YthfogcgdijmaoaaGreatJ2
import Derived.ChangeSame
import Derived.Test.YthfogcgdijmaoaaGreatChecked
import Derived.Test.YthfogcgdijmaoaaGreatM3
import Derived.Deep.DeepCutAuto
import Derived.Deep.QuietTactic
import Derived.BigQuiet
set_option maxRecDepth 100000
set_option maxHeartbeats 16000000
set_option linter.unusedVariables false
set_option linter.unusedSimpArgs false
namespace Go.Proofs.YthfogcgdijmaoaaGreat
open Go.RowKit Go.ChangeShapes Go.WideShapes
theorem wf_r64 {x:Int} (h:(Lit.int .i64 x).wf=true):R64 x:=wf_i64 h
set_option linter.unusedSimpArgs false in
theorem open_form {H:Type} {enc:TypeId×Value→H} {w:World} {base:Nat} {held:Bool} {r:Reach} {b0:Nat} {v:Value} {d:DataW H} {ps:List MemPlace} (hval:Value.okWide Tryz.prog w r b0 24 v)
 (hd:DataW.Trod enc Tryz.prog w base (fun _=>true) held 24 v d ps): ∃f:Fm,v=.agg f.cells∧FmOk w f:=by
 simp only [Value.okWide,Tryz.underlying24]at hval
 obtain⟨cs,rfl,_,_⟩:=hval
 obtain⟨fuel,hf⟩:=hd
 have hcF:Tryz.prog.cellsOf 24=21:=by kernel_rfl
 have hcI:Tryz.prog.cellsOf 3=1:=by kernel_rfl
 have hcB:Tryz.prog.cellsOf 4=1:=by kernel_rfl
 have hcS:Tryz.prog.cellsOf 22=1:=by kernel_rfl
 obtain⟨l,rfl⟩: ∃l:List Value,cs=l.toArray:=⟨cs.toList,by simp⟩
 obtain⟨ys,m,_,_,hl,hlen,hfd⟩:=DataW.trod_struct Tryz.underlying24 hf
 rw [hcF]at hl
 replace hl:l.length=21:=hl
 replace hlen:ys.length=21:=hlen
 match l,hl with
 |[c0,c1,c2,c3,c4,c5,c6,c7,c8,c9,c10,c11,c12,c13,c14,c15,c16,c17,c18,c19,c20],_=>
 match ys,hlen with
 |[y0,y1,y2,y3,y4,y5,y6,y7,y8,y9,y10,y11,y12,y13,y14,y15,y16,y17,y18,y19,y20],_=>
 have g0:=hfd 0 _ rfl
 have g1:=hfd 1 _ rfl
 have g2:=hfd 2 _ rfl
 have g3:=hfd 3 _ rfl
 have g4:=hfd 4 _ rfl
 have g5:=hfd 5 _ rfl
 have g6:=hfd 6 _ rfl
 have g7:=hfd 7 _ rfl
 have g8:=hfd 8 _ rfl
 have g9:=hfd 9 _ rfl
 have g10:=hfd 10 _ rfl
 have g11:=hfd 11 _ rfl
 have g12:=hfd 12 _ rfl
 have g13:=hfd 13 _ rfl
 have g14:=hfd 14 _ rfl
 have g15:=hfd 15 _ rfl
 have g16:=hfd 16 _ rfl
 have g17:=hfd 17 _ rfl
 have g18:=hfd 18 _ rfl
 have g19:=hfd 19 _ rfl
 have g20:=hfd 20 _ rfl
 clear hfd hf hl hlen
 replace g0:DataW.trod enc Tryz.prog w base (fun _=>true) held m 3 [c0]=some y0:=by have h:DataW.trod enc Tryz.prog w base (fun _=>true) held m 3 (([c0,c1,c2,c3,c4,c5,c6,c7,c8,c9,c10,c11,c12,c13,c14,c15,c16,c17,c18,c19,c20].drop 0).take (Tryz.prog.cellsOf 3))=some y0:=g0;rw [hcI]at h;exact h
 replace g1:DataW.trod enc Tryz.prog w base (fun _=>true) held m 3 [c1]=some y1:=by have h:DataW.trod enc Tryz.prog w base (fun _=>true) held m 3 (([c0,c1,c2,c3,c4,c5,c6,c7,c8,c9,c10,c11,c12,c13,c14,c15,c16,c17,c18,c19,c20].drop 1).take (Tryz.prog.cellsOf 3))=some y1:=g1;rw [hcI]at h;exact h
 replace g2:DataW.trod enc Tryz.prog w base (fun _=>true) held m 3 [c2]=some y2:=by have h:DataW.trod enc Tryz.prog w base (fun _=>true) held m 3 (([c0,c1,c2,c3,c4,c5,c6,c7,c8,c9,c10,c11,c12,c13,c14,c15,c16,c17,c18,c19,c20].drop 2).take (Tryz.prog.cellsOf 3))=some y2:=g2;rw [hcI]at h;exact h
 replace g3:DataW.trod enc Tryz.prog w base (fun _=>true) held m 3 [c3]=some y3:=by have h:DataW.trod enc Tryz.prog w base (fun _=>true) held m 3 (([c0,c1,c2,c3,c4,c5,c6,c7,c8,c9,c10,c11,c12,c13,c14,c15,c16,c17,c18,c19,c20].drop 3).take (Tryz.prog.cellsOf 3))=some y3:=g3;rw [hcI]at h;exact h
 replace g4:DataW.trod enc Tryz.prog w base (fun _=>true) held m 3 [c4]=some y4:=by have h:DataW.trod enc Tryz.prog w base (fun _=>true) held m 3 (([c0,c1,c2,c3,c4,c5,c6,c7,c8,c9,c10,c11,c12,c13,c14,c15,c16,c17,c18,c19,c20].drop 4).take (Tryz.prog.cellsOf 3))=some y4:=g4;rw [hcI]at h;exact h
 replace g5:DataW.trod enc Tryz.prog w base (fun _=>true) held m 3 [c5]=some y5:=by have h:DataW.trod enc Tryz.prog w base (fun _=>true) held m 3 (([c0,c1,c2,c3,c4,c5,c6,c7,c8,c9,c10,c11,c12,c13,c14,c15,c16,c17,c18,c19,c20].drop 5).take (Tryz.prog.cellsOf 3))=some y5:=g5;rw [hcI]at h;exact h
 replace g6:DataW.trod enc Tryz.prog w base (fun _=>true) held m 3 [c6]=some y6:=by have h:DataW.trod enc Tryz.prog w base (fun _=>true) held m 3 (([c0,c1,c2,c3,c4,c5,c6,c7,c8,c9,c10,c11,c12,c13,c14,c15,c16,c17,c18,c19,c20].drop 6).take (Tryz.prog.cellsOf 3))=some y6:=g6;rw [hcI]at h;exact h
 replace g7:DataW.trod enc Tryz.prog w base (fun _=>true) held m 4 [c7]=some y7:=by have h:DataW.trod enc Tryz.prog w base (fun _=>true) held m 4 (([c0,c1,c2,c3,c4,c5,c6,c7,c8,c9,c10,c11,c12,c13,c14,c15,c16,c17,c18,c19,c20].drop 7).take (Tryz.prog.cellsOf 4))=some y7:=g7;rw [hcB]at h;exact h
 replace g8:DataW.trod enc Tryz.prog w base (fun _=>true) held m 4 [c8]=some y8:=by have h:DataW.trod enc Tryz.prog w base (fun _=>true) held m 4 (([c0,c1,c2,c3,c4,c5,c6,c7,c8,c9,c10,c11,c12,c13,c14,c15,c16,c17,c18,c19,c20].drop 8).take (Tryz.prog.cellsOf 4))=some y8:=g8;rw [hcB]at h;exact h
 replace g9:DataW.trod enc Tryz.prog w base (fun _=>true) held m 4 [c9]=some y9:=by have h:DataW.trod enc Tryz.prog w base (fun _=>true) held m 4 (([c0,c1,c2,c3,c4,c5,c6,c7,c8,c9,c10,c11,c12,c13,c14,c15,c16,c17,c18,c19,c20].drop 9).take (Tryz.prog.cellsOf 4))=some y9:=g9;rw [hcB]at h;exact h
 replace g10:DataW.trod enc Tryz.prog w base (fun _=>true) held m 4 [c10]=some y10:=by have h:DataW.trod enc Tryz.prog w base (fun _=>true) held m 4 (([c0,c1,c2,c3,c4,c5,c6,c7,c8,c9,c10,c11,c12,c13,c14,c15,c16,c17,c18,c19,c20].drop 10).take (Tryz.prog.cellsOf 4))=some y10:=g10;rw [hcB]at h;exact h
 replace g11:DataW.trod enc Tryz.prog w base (fun _=>true) held m 3 [c11]=some y11:=by have h:DataW.trod enc Tryz.prog w base (fun _=>true) held m 3 (([c0,c1,c2,c3,c4,c5,c6,c7,c8,c9,c10,c11,c12,c13,c14,c15,c16,c17,c18,c19,c20].drop 11).take (Tryz.prog.cellsOf 3))=some y11:=g11;rw [hcI]at h;exact h
 replace g12:DataW.trod enc Tryz.prog w base (fun _=>true) held m 3 [c12]=some y12:=by have h:DataW.trod enc Tryz.prog w base (fun _=>true) held m 3 (([c0,c1,c2,c3,c4,c5,c6,c7,c8,c9,c10,c11,c12,c13,c14,c15,c16,c17,c18,c19,c20].drop 12).take (Tryz.prog.cellsOf 3))=some y12:=g12;rw [hcI]at h;exact h
 replace g13:DataW.trod enc Tryz.prog w base (fun _=>true) held m 3 [c13]=some y13:=by have h:DataW.trod enc Tryz.prog w base (fun _=>true) held m 3 (([c0,c1,c2,c3,c4,c5,c6,c7,c8,c9,c10,c11,c12,c13,c14,c15,c16,c17,c18,c19,c20].drop 13).take (Tryz.prog.cellsOf 3))=some y13:=g13;rw [hcI]at h;exact h
 replace g14:DataW.trod enc Tryz.prog w base (fun _=>true) held m 3 [c14]=some y14:=by have h:DataW.trod enc Tryz.prog w base (fun _=>true) held m 3 (([c0,c1,c2,c3,c4,c5,c6,c7,c8,c9,c10,c11,c12,c13,c14,c15,c16,c17,c18,c19,c20].drop 14).take (Tryz.prog.cellsOf 3))=some y14:=g14;rw [hcI]at h;exact h
 replace g15:DataW.trod enc Tryz.prog w base (fun _=>true) held m 3 [c15]=some y15:=by have h:DataW.trod enc Tryz.prog w base (fun _=>true) held m 3 (([c0,c1,c2,c3,c4,c5,c6,c7,c8,c9,c10,c11,c12,c13,c14,c15,c16,c17,c18,c19,c20].drop 15).take (Tryz.prog.cellsOf 3))=some y15:=g15;rw [hcI]at h;exact h
 replace g16:DataW.trod enc Tryz.prog w base (fun _=>true) held m 3 [c16]=some y16:=by have h:DataW.trod enc Tryz.prog w base (fun _=>true) held m 3 (([c0,c1,c2,c3,c4,c5,c6,c7,c8,c9,c10,c11,c12,c13,c14,c15,c16,c17,c18,c19,c20].drop 16).take (Tryz.prog.cellsOf 3))=some y16:=g16;rw [hcI]at h;exact h
 replace g17:DataW.trod enc Tryz.prog w base (fun _=>true) held m 3 [c17]=some y17:=by have h:DataW.trod enc Tryz.prog w base (fun _=>true) held m 3 (([c0,c1,c2,c3,c4,c5,c6,c7,c8,c9,c10,c11,c12,c13,c14,c15,c16,c17,c18,c19,c20].drop 17).take (Tryz.prog.cellsOf 3))=some y17:=g17;rw [hcI]at h;exact h
 replace g18:DataW.trod enc Tryz.prog w base (fun _=>true) held m 3 [c18]=some y18:=by have h:DataW.trod enc Tryz.prog w base (fun _=>true) held m 3 (([c0,c1,c2,c3,c4,c5,c6,c7,c8,c9,c10,c11,c12,c13,c14,c15,c16,c17,c18,c19,c20].drop 18).take (Tryz.prog.cellsOf 3))=some y18:=g18;rw [hcI]at h;exact h
 replace g19:DataW.trod enc Tryz.prog w base (fun _=>true) held m 3 [c19]=some y19:=by have h:DataW.trod enc Tryz.prog w base (fun _=>true) held m 3 (([c0,c1,c2,c3,c4,c5,c6,c7,c8,c9,c10,c11,c12,c13,c14,c15,c16,c17,c18,c19,c20].drop 19).take (Tryz.prog.cellsOf 3))=some y19:=g19;rw [hcI]at h;exact h
 replace g20:DataW.trod enc Tryz.prog w base (fun _=>true) held m 22 [c20]=some y20:=by have h:DataW.trod enc Tryz.prog w base (fun _=>true) held m 22 (([c0,c1,c2,c3,c4,c5,c6,c7,c8,c9,c10,c11,c12,c13,c14,c15,c16,c17,c18,c19,c20].drop 20).take (Tryz.prog.cellsOf 22))=some y20:=g20;rw [hcS]at h;exact h
 obtain⟨x,e0,_,s0⟩:=DataW.trod_int Tryz.underlying3 g0
 injection e0 with e0 _
 subst e0
 obtain⟨y,e1,_,s1⟩:=DataW.trod_int Tryz.underlying3 g1
 injection e1 with e1 _
 subst e1
 obtain⟨ox,e2,_,s2⟩:=DataW.trod_int Tryz.underlying3 g2
 injection e2 with e2 _
 subst e2
 obtain⟨oy,e3,_,s3⟩:=DataW.trod_int Tryz.underlying3 g3
 injection e3 with e3 _
 subst e3
 obtain⟨comps,e4,_,s4⟩:=DataW.trod_int Tryz.underlying3 g4
 injection e4 with e4 _
 subst e4
 obtain⟨depth,e5,_,s5⟩:=DataW.trod_int Tryz.underlying3 g5
 injection e5 with e5 _
 subst e5
 obtain⟨sub,e6,_,s6⟩:=DataW.trod_int Tryz.underlying3 g6
 injection e6 with e6 _
 subst e6
 obtain⟨sg,e7,_⟩:=DataW.trod_bool Tryz.underlying4 g7
 injection e7 with e7 _
 subst e7
 obtain⟨rct,e8,_⟩:=DataW.trod_bool Tryz.underlying4 g8
 injection e8 with e8 _
 subst e8
 obtain⟨sop,e9,_⟩:=DataW.trod_bool Tryz.underlying4 g9
 injection e9 with e9 _
 subst e9
 obtain⟨eph,e10,_⟩:=DataW.trod_bool Tryz.underlying4 g10
 injection e10 with e10 _
 subst e10
 obtain⟨tx,e11,_,s11⟩:=DataW.trod_int Tryz.underlying3 g11
 injection e11 with e11 _
 subst e11
 obtain⟨ty,e12,_,s12⟩:=DataW.trod_int Tryz.underlying3 g12
 injection e12 with e12 _
 subst e12
 obtain⟨lev,e13,_,s13⟩:=DataW.trod_int Tryz.underlying3 g13
 injection e13 with e13 _
 subst e13
 obtain⟨cbw,e14,_,s14⟩:=DataW.trod_int Tryz.underlying3 g14
 injection e14 with e14 _
 subst e14
 obtain⟨cbh,e15,_,s15⟩:=DataW.trod_int Tryz.underlying3 g15
 injection e15 with e15 _
 subst e15
 obtain⟨prec,e16,_,s16⟩:=DataW.trod_int Tryz.underlying3 g16
 injection e16 with e16 _
 subst e16
 obtain⟨style,e17,_,s17⟩:=DataW.trod_int Tryz.underlying3 g17
 injection e17 with e17 _
 subst e17
 obtain⟨order,e18,_,s18⟩:=DataW.trod_int Tryz.underlying3 g18
 injection e18 with e18 _
 subst e18
 obtain⟨lay,e19,_,s19⟩:=DataW.trod_int Tryz.underlying3 g19
 injection e19 with e19 _
 subst e19
 rcases open_ints Tryz.underlying22 Tryz.underlying3 hcI g20 with⟨e20,_⟩|⟨x20,k20,c20',zs,e20,_,hlc,hm,hz,_,hcell,_⟩
 · injection e20 with e20 _
   subst e20
   exact⟨⟨x,y,ox,oy,comps,depth,sub,sg,rct,sop,eph,tx,ty,lev,cbw,cbh,prec,style,order,lay,none,0,0⟩,rfl,{
    x:=wf_r64 s0
    y:=wf_r64 s1
    ox:=wf_r64 s2
    oy:=wf_r64 s3
    comps:=wf_r64 s4
    depth:=wf_r64 s5
    sub:=wf_r64 s6
    tx:=wf_r64 s11
    ty:=wf_r64 s12
    lev:=wf_r64 s13
    cbw:=wf_r64 s14
    cbh:=wf_r64 s15
    prec:=wf_r64 s16
    style:=wf_r64 s17
    order:=wf_r64 s18
    lay:=wf_r64 s19
    zs:=⟨[],Rd.nil _⟩
    nb:=Nat.zero_le _ }⟩
 · injection e20 with e20 _
   subst e20
   simp only [if_true]at hz
   exact⟨⟨x,y,ox,oy,comps,depth,sub,sg,rct,sop,eph,tx,ty,lev,cbw,cbh,prec,style,order,lay,some x20,k20,c20'⟩,rfl,{
    x:=wf_r64 s0
    y:=wf_r64 s1
    ox:=wf_r64 s2
    oy:=wf_r64 s3
    comps:=wf_r64 s4
    depth:=wf_r64 s5
    sub:=wf_r64 s6
    tx:=wf_r64 s11
    ty:=wf_r64 s12
    lev:=wf_r64 s13
    cbw:=wf_r64 s14
    cbh:=wf_r64 s15
    prec:=wf_r64 s16
    style:=wf_r64 s17
    order:=wf_r64 s18
    lay:=wf_r64 s19
    zs:=⟨zs.take k20,by simp;omega,fun hn=>⟨x20,rfl,fun j u hu=>by
     rw [List.getElem?_map,List.getElem?_take]at hu
     have hj:j<k20:=by
      rcases Nat.lt_or_ge j k20 with h|h
      · exact h
      · rw [if_neg (by omega)]at hu;cases hu
     rw [if_pos hj]at hu
     have hjl:j<zs.length:=by omega
     rw [hcell j hjl]
     simp [hjl]at hu
     subst hu
     simp [hjl]⟩⟩
    nb:=by simp only [maxLen]at hm;show k20≤_;omega }⟩
end Go.Proofs.YthfogcgdijmaoaaGreat
namespace Go.Proofs.YthfogcgdijmaoaaGreat
open Go.RowKit
theorem tmarks_len : ∀(l:List (List Int)) (p:Nat),(tmarks p l).length=2*l.length
 |[],_=>rfl
 |y::l,p=>by
  show(tmarks (p+(14+y.length)) l).length+1+1=2*(l.length+1)
  rw [tmarks_len l]
  omega
theorem tmarks_at : ∀(l:List (List Int)) (p t:Nat),t<l.length→ ∃q,(tmarks p l)[2*t]?=some (65424,q)∧(tmarks p l)[2*t+1]?=some (65427,q+12)
 |[],p,t,h=>by simp at h
 |y::l,p,0,h=>⟨p,rfl,rfl⟩
 |y::l,p,t+1,h=>by
  obtain⟨q,h1,h2⟩:=tmarks_at l (p+(14+y.length)) t (by simp at h;omega)
  exact⟨q,by rw [show 2*(t+1)=2*t+1+1 by omega];exact h1,by rw [show 2*(t+1)+1=2*t+1+1+1 by omega];exact h2⟩
theorem grammarStreams_walk (f:Fm) (A:Option Addr) (n c:Nat) (ys:List Int) (w:World) (hf:FmOk w f) (h:Arg .u8 1 w A n c ys):
 Calls Tryz.prog 4 #[.agg f.cells,.slice A n c] w fun e w'=>e=.returned (.bool true)∧Below w.heap.size w w':=by
 have HBY:=hid h.bytes
 have HL:=hid h.len
 have HR:=hid h.rd
 have hcn:n≤9223372036854775807:=by have:=h.cap;have:=h.reach;omega
 clear h
 go_enter Tryz.func4,Tryz.ntmps4
 go_wp2_with fail
 refine(known_any _).mono ?_
 rintro e w1 ⟨rfl,hk1⟩
 have HK1:=hid (((Keep.refl (fun _=>False) w).alloc (.cells f.cells 24)).trans hk1 (fun _ _ h=>h))
 have HB1:=hid ((Blk.new w 24 f.cells).keep hk1 id)
 have HF1:=hid (hf.keepF HK1.out)
 clear hk1
 by_cases hn3:300<n
 · have hd2:decide ((300:Int)<n)=true:=by simp;omega
   go_wp2_with fail
   go_ret
   exact⟨rfl,HK1.out.below (Nat.le_refl _) (fun _ h=>h.elim)⟩
 · have hd2:decide ((300:Int)<n)=false:=by simp;omega
   have hn300:n≤300:=by omega
   clear hn3
   go_wp2_with (refine wpList_load_row rfl _ _ rfl _ rfl _ _ _ _ HB1.out Tryz.underlying24 rfl (by kernel_rfl) ?_)
   refine(make_law w1 f 12 (by omega) (by omega) HF1.out).mono ?_
   rintro e w2 ⟨m,p,nx,ny,rfl,hk2,hm,hn,hE⟩
   have HK2:=hid (HK1.out.trans hk2 (fun _ _ h=>h))
   have HM:=hid hm
   have HN:=hid hn
   have HE:=hid hE
   have HI0:=hid ((Blk.new w2 29 #[.int .i64 0,.int .i64 0,.int .i64 0,.int .i64 0,.slice none 0 0]).alloc (.cells #[.int .i64 0,.int .i64 0,.int .i64 0,.int .i64 0,.int .i64 0,.int .i64 0,.int .i64 0,.int .i64 0,.int .i64 0,.bool false,.bool false,.bool false] 31))
   have HP0:=hid (Blk.new1 w2 (.cells #[.int .i64 0,.int .i64 0,.int .i64 0,.int .i64 0,.slice none 0 0] 29) 31 #[.int .i64 0,.int .i64 0,.int .i64 0,.int .i64 0,.int .i64 0,.int .i64 0,.int .i64 0,.int .i64 0,.int .i64 0,.bool false,.bool false,.bool false])
   clear hk2 hm hn hE HK1 HB1 HF1
   go_wp2_with (refine wpList_store_in (t:=29) (cs:=#[.int .i64 0,.int .i64 0,.int .i64 0,.int .i64 0,.slice none 0 0]) (g:=w2.heap.size) ?_ rfl 29 (.tmp 5) (.tmp 23) rfl 0 m.cells rfl rfl ?_ ?_ ?_ ?_)
   · exact HI0.out
   · show 0+5≤5;omega
   · kernel_rfl
   · simp [Value.oneCell',Im.cells]
   intro w3 hb3 hk3
   have HI3:=hid (show Blk w3 w2.heap.size 29 m.cells from blk_all hb3 rfl)
   have HP3:=hid (HP0.out.keep hk3 (show¬(w2.heap.size+1=w2.heap.size) by omega))
   have HK3:=hid ((((Keep.refl (fun _=>False) w2).alloc _).alloc _).new hk3 (fun j e=>by rw [show j=_ from e];exact Nat.le_refl _))
   clear hb3 hk3 HI0 HP0
   try simp only [NS]
   go_wp2_with (refine wpList_store_in (t:=31) (cs:=#[.int .i64 0,.int .i64 0,.int .i64 0,.int .i64 0,.int .i64 0,.int .i64 0,.int .i64 0,.int .i64 0,.int .i64 0,.bool false,.bool false,.bool false]) (g:=w2.heap.size+1) ?_ rfl 31 (.tmp 6) (.tmp 24) rfl 0 p.cells rfl rfl ?_ ?_ ?_ ?_)
   · exact HP3.out
   · show 0+12≤12;omega
   · kernel_rfl
   · simp [Value.oneCell',Pm.cells]
   intro w4 hb4 hk4
   have HP4:=hid (show Blk w4 (w2.heap.size+1) 31 p.cells from blk_all hb4 rfl)
   have HI4:=hid (HI3.out.keep hk4 (show¬(w2.heap.size=w2.heap.size+1) by omega))
   have HK4:=hid (HK3.out.new hk4 (fun j e=>by rw [show j=_ from e];omega))
   clear hb4 hk4 HI3 HP3 HK3
   try simp only [NS]
   go_wp2_with (first|(refine wpList_load_row rfl _ _ rfl _ rfl _ _ _ _ HI4.out Tryz.underlying29 rfl (by kernel_rfl) ?_)|(refine wpList_load_row rfl _ _ rfl _ rfl _ _ _ _ HP4.out Tryz.underlying31 rfl (by kernel_rfl) ?_))
   have HR4:=hid (HR.out.keep (HK2.out.trans HK4.out (fun _ _ h=>h)) (fun _ _ h=>h))
   refine(HE.out w4 A n c ys HK4.out HR4.out HBY.out (by omega)).mono ?_
   rintro e w5 ⟨B,k,cB,zs,mA,mB,mD,mP,mQ,tl,rfl,hk5,ho5,hb5,hn5,htl,hw5⟩
   have HK5:=hid ((HK2.out.trans HK4.out (fun _ _ h=>h)).trans hk5 (fun _ _ h=>h))
   have HI5:=hid (HI4.out.keep hk5 id)
   have HP5:=hid (HP4.out.keep hk5 id)
   have HO5:=hid ho5
   have HB5:=hid hb5
   have HW5:=hid hw5
   have HTL:=hid htl
   have hk2l:=walkM_len hw5
   have hzl:zs.length=k:=by have:=(Rd.of_own ho5).len;exact this
   obtain⟨gB,hB,_,_,_,_⟩:=own_at ho5 (by omega)
   subst hB
   obtain⟨_,hlt5,hcap5,hmax5⟩:=own_facts ho5
   have HLT5:=hid hlt5
   clear hk5 ho5 hb5 hw5 htl HE HI4 HP4 HK4 hlt5
   have hnt:0<tl.length:=by rw [HTL.out];exact HN.out.2.2.2.2.1
   have hnt6:tl.length≤6:=by rw [HTL.out];exact HN.out.2.2.2.2.2
   have HRB:=hid (Rd.of_own HO5.out)
   obtain⟨gB',hB',z1,z2,bc,z3⟩:=own_at HO5.out (by omega)
   injection hB' with hB'
   injection hB' with hB' _
   subst hB'
   have HBC:=hid bc
   clear bc z1 z2 z3
   go_wp2_with fail
   refine(walk_any w5 (some ⟨gB,0,none⟩) k cB zs HRB.out HLT5.out HB5.out (by omega) (by omega) (by omega)).mono ?_
   rintro e w6 ⟨hk6,hp6⟩
   rw [HW5.out]at hp6
   obtain⟨hd,hhd⟩: ∃hd,(hmarks mA mB mD ys).length=hd:=⟨_,rfl⟩
   have hhd2:hd=if n=0 then 4 else 5:=by
    rw [← hhd]
    unfold hmarks
    have hl:=HL.out
    by_cases hy:ys=[]
    · rw [if_pos hy,if_pos (by rw [← hl,hy];rfl)];rfl
    · rw [if_neg hy,if_neg (by intro h0;rw [h0]at hl;exact hy (List.eq_nil_of_length_eq_zero hl))];rfl
   generalize hZ:hmarks mA mB mD ys++tmarks mP tl++[(65497,mQ)]=Z at hp6
   obtain⟨M,cm,T,ct,rfl,hoM,hoT⟩:=hp6
   have hL:Z.length=hd+2*tl.length+1:=by rw [← hZ,List.length_append,List.length_append,hhd,tmarks_len];rfl
   have hZ0:Z[0]?=some (65359,0)∧Z[1]?=some (65361,2)∧(∃ a,Z[2]?=some (65362,a))∧(∃ a,Z[3]?=some (65372,a)):=by
    rw [← hZ]
    exact⟨rfl,rfl,⟨_,rfl⟩,⟨_,rfl⟩⟩
   have hZl:Z[hd+2*tl.length]?=some (65497,mQ):=by
    rw [← hZ,List.getElem?_append_right (by rw [List.length_append,hhd,tmarks_len];omega),List.length_append,hhd,tmarks_len,Nat.sub_self]
    rfl
   have hZt: ∀t,t<tl.length→ ∃q,Z[hd+2*t]?=some (65424,q)∧Z[hd+(2*t+1)]?=some (65427,q+12):=fun t ht=>by
    obtain⟨q,h1,h2⟩:=tmarks_at tl mP t ht
    refine⟨q,?_,?_⟩
    · rw [← hZ,List.append_assoc,List.getElem?_append_right (by omega),hhd,show hd+2*t-hd=2*t by omega,List.getElem?_append_left (by rw [tmarks_len];omega)]
      exact h1
    · rw [← hZ,List.append_assoc,List.getElem?_append_right (by omega),hhd,show hd+(2*t+1)-hd=2*t+1 by omega,List.getElem?_append_left (by rw [tmarks_len];omega)]
      exact h2
   have hZW: ∀x∈Z,two zs x.2=x.1∧0≤x.1:=fun x hx=>walkM_two HW5.out x (by rw [hZ];exact hx)
   obtain⟨gM,hM,z1,z2,m1,z3⟩:=own_at hoM (by omega)
   obtain⟨gT,hT,z4,z5,t1,z6⟩:=own_at hoT (by omega)
   subst hM hT
   clear z1 z2 z3 z4 z5 z6 hZ hhd
   have HM1:=hid (fun (j:Nat) (x:Int×Nat) (hx:Z[j]?=some x)=>m1 j (.int .i64 x.1) (by rw [List.getElem?_map,List.getElem?_map,hx];rfl))
   have HT1:=hid (fun (j:Nat) (x:Int×Nat) (hx:Z[j]?=some x)=>t1 j (.int .i64 (x.2:Int)) (by rw [List.getElem?_map,List.getElem?_map,hx];rfl))
   have HZ0:=hid hZ0
   have HZL:=hid hZl
   have HZT:=hid hZt
   have HZW:=hid hZW
   obtain⟨nt,hntl⟩: ∃nt,tl.length=nt:=⟨_,rfl⟩
   rw [hntl]at hL HZL HZT hnt hnt6 HTL
   obtain⟨L,hLL⟩: ∃L,Z.length=L:=⟨_,rfl⟩
   rw [hLL]at hL
   rw [hLL]
   have HLL:=hid hLL
   have hhd45:hd=4∨hd=5:=by rw [hhd2];split<;>omega
   have HHD2:=hid hhd2
   have HK6:=hid (HK5.out.trans hk6 (fun _ _ h=>h))
   have HBC6:=hid (fun (j:Nat) (z:Int) (hz:zs[j]?=some z)=>hk6.cell (HBC.out j (.int .u8 z) (by rw [List.getElem?_map,hz];rfl)) id)
   have a0:w6.cell? ⟨w2.heap.size,0,none⟩=some (.int .i64 m.x):=(HI5.out.keep hk6 id).cell 0
   have a1:w6.cell? ⟨w2.heap.size,1,none⟩=some (.int .i64 m.y):=(HI5.out.keep hk6 id).cell 1
   have b0:w6.cell? ⟨w2.heap.size+1,0,none⟩=some (.int .i64 p.tx):=(HP5.out.keep hk6 id).cell 0
   have b1:w6.cell? ⟨w2.heap.size+1,1,none⟩=some (.int .i64 p.ty):=(HP5.out.keep hk6 id).cell 1
   clear m1 t1 hoM hoT hZ0 hZl hZt hZW hntl hLL hk6 HI5 HP5 HBC HRB HO5 HLT5 hhd2 HK5 HR HR4 HBY
   have hL7:decide ((L:Int)<7)=false:=by simp;omega
   obtain⟨E,hE⟩: ∃E,hd+2*nt=E:=⟨_,rfl⟩
   rw [hE]at HZL
   have hEL:L=E+1:=by omega
   have HLE:=hid (And.intro hL (And.intro hE hEL))
   have hLb:L≤100:=by omega
   clear hL hE hEL
   go_upto_region 10 with fail
   obtain⟨x1,x2,x3,x4,x5,x6,x7,x8⟩:=HM.out
   obtain⟨n1,n2,n3,n4,_,_⟩:=HN.out
   have hnn:(nx:Int)*(ny:Int)=(nt:Int):=by rw [HTL.out];push_cast;rfl
   have e1:(m.x+p.tx-1).tdiv p.tx=nx:=by rw [Int.tdiv_eq_ediv_of_nonneg (by omega)];exact n1
   have e2:(m.y+p.ty-1).tdiv p.ty=ny:=by rw [Int.tdiv_eq_ediv_of_nonneg (by omega)];exact n2
   have v1:IntKind.i64.wrap (m.x+p.tx)=m.x+p.tx:=IntWalk.i64_in _ (by omega)
   have v2:IntKind.i64.wrap (m.x+p.tx-1)=m.x+p.tx-1:=IntWalk.i64_in _ (by omega)
   have v3:IntKind.i64.wrap (m.y+p.ty)=m.y+p.ty:=IntWalk.i64_in _ (by omega)
   have v4:IntKind.i64.wrap (m.y+p.ty-1)=m.y+p.ty-1:=IntWalk.i64_in _ (by omega)
   have v5:IntKind.i64.wrap (nx:Int)=nx:=IntWalk.i64_in _ (by omega)
   have v6:IntKind.i64.wrap (ny:Int)=ny:=IntWalk.i64_in _ (by omega)
   have v7:wrap64 (nx:Int)=nx:=IntWalk.wrap64_in _ (by omega)
   have v8:wrap64 (ny:Int)=ny:=IntWalk.wrap64_in _ (by omega)
   have v9:IntKind.i64.wrap (nt:Int)=nt:=IntWalk.i64_in _ (by omega)
   have z1:(p.tx==0)=false:=by simp;omega
   have z2:(p.ty==0)=false:=by simp;omega
   clear n1 n2
   go_quiet (fail)
   clear e1 e2 v1 v2 v3 v4 v5 v6 v7 v8 z1 z2 a0 a1 b0 b1 hnn
   have hk7:Keep (fun _=>False) w6 (w6.drewN nq):=(Keep.refl _ w6).drewN nq
   have HK7:=hid (HK6.out.trans hk7 (fun _ _ h=>h))
   have HM7:=hid (fun (j:Nat) (x:Int×Nat) (hx:Z[j]?=some x)=>hk7.cell (HM1.out j x hx) id)
   have HT7:=hid (fun (j:Nat) (x:Int×Nat) (hx:Z[j]?=some x)=>hk7.cell (HT1.out j x hx) id)
   have HB7:=hid (fun (j:Nat) (z:Int) (hz:zs[j]?=some z)=>hk7.cell (HBC6.out j z hz) id)
   clear hk7 HK6 HM1 HT1 HBC6 hL7
   generalize w6.drewN nq=w7 at*
   go_upto_if 77 with fail
   go_cut [13] (fun v wx=>v=.int .i64 hd∧wx=w7)
   case first=>
    by_cases hn0:n=0
    · have hdn:decide ((0:Int)<n)=false:=by simp;omega
      go_wp2_with fail
      go_meet
      exact⟨by rw [HHD2.out,if_pos hn0];rfl,rfl⟩
    · have hdn:decide ((0:Int)<n)=true:=by simp;omega
      go_wp2_with fail
      go_meet
      exact⟨by rw [HHD2.out,if_neg hn0];rfl,rfl⟩
   case rest=>
    obtain⟨rfl,rfl⟩:=hcut
    obtain⟨l1,l2,l3⟩:=HLE.out
    obtain⟨k0,k1,⟨_,k2⟩,⟨_,k3⟩⟩:=HZ0.out
    have c0:wc.cell? ⟨gM,0,none⟩=some (.int .i64 65359):=HM7.out 0 _ k0
    have c1:wc.cell? ⟨gM,1,none⟩=some (.int .i64 65361):=HM7.out 1 _ k1
    have c2:wc.cell? ⟨gM,2,none⟩=some (.int .i64 65362):=HM7.out 2 _ k2
    have c3:wc.cell? ⟨gM,3,none⟩=some (.int .i64 65372):=HM7.out 3 _ k3
    have cE:wc.cell? ⟨gM,E,none⟩=some (.int .i64 65497):=HM7.out E _ HZL.out
    have u1:IntKind.i64.wrap (2*(nt:Int))=2*(nt:Int):=IntWalk.i64_in _ (by omega)
    have u2:IntKind.i64.wrap ((hd:Int)+2*(nt:Int))=(hd:Int)+2*(nt:Int):=IntWalk.i64_in _ (by omega)
    have u3:IntKind.i64.wrap ((hd:Int)+2*(nt:Int)+1)=(L:Int):=by rw [show(hd:Int)+2*(nt:Int)+1=(L:Int) by omega];exact IntWalk.i64_in _ (by omega)
    have u4:IntKind.i64.wrap ((L:Int)-1)=(E:Int):=by rw [show(L:Int)-1=(E:Int) by omega];exact IntWalk.i64_in _ (by omega)
    have i0:0<L:=by omega
    have i1:1<L:=by omega
    have i2:2<L:=by omega
    have i3:3<L:=by omega
    have i4:E<L:=by omega
    have j0:(0:Int)<(L:Int):=by omega
    have j1:(1:Int)<(L:Int):=by omega
    have j2:(2:Int)<(L:Int):=by omega
    have j3:(3:Int)<(L:Int):=by omega
    have j4:(E:Int)<(L:Int):=by omega
    clear l1 l2 l3 k0 k1 k2 k3
    as_aux_lemma=>
     go_wp2_with fail
     clear c0 c1 c2 c3 cE u1 u2 u3 i0 i1 i2 i3 i4 j0 j1 j2 j3
     go_loopw [14] (fun v wr=> ∃i:Nat,i≤L∧v=.int .i64 i∧Hid (Keep (fun _=>False) wc wr)) (fun v _=>L-(intOf v).toNat)
     case atStart=>exact⟨0,by omega,rfl,hid (Keep.refl _ _)⟩
     case round=>
      obtain⟨i,hi,rfl,HKR⟩:=hrel
      as_aux_lemma=>
       by_cases hin:i<L
       · obtain⟨⟨mi,pi⟩,hzi⟩: ∃x,Z[i]?=some x:=⟨_,List.getElem?_eq_getElem (by rw [HLL.out];exact hin)⟩
         obtain⟨ht1,ht2⟩:=HZW.out _ (List.mem_of_getElem? hzi)
         simp only at ht1 ht2
         have hpl:pi+2≤zs.length:=two_none (by omega)
         obtain⟨te,tb0,tb1,tb2,tb3⟩:=two_byte HB5.out hpl
         have c1:wr.cell? ⟨gM,i,none⟩=some (.int .i64 mi):=HKR.out.cell (HM7.out i _ hzi) id
         have c2:wr.cell? ⟨gT,i,none⟩=some (.int .i64 (pi:Int)):=HKR.out.cell (HT7.out i _ hzi) id
         have c3:wr.cell? ⟨gB,pi,none⟩=some (.int .u8 (zs.getD pi 0)):=HKR.out.cell (HB7.out pi _ (by rw [List.getD_eq_getElem?_getD,List.getElem?_eq_getElem (by omega)];rfl)) id
         have c4:wr.cell? ⟨gB,pi+1,none⟩=some (.int .u8 (zs.getD (pi+1) 0)):=HKR.out.cell (HB7.out (pi+1) _ (by rw [List.getD_eq_getElem?_getD,List.getElem?_eq_getElem (by omega)];rfl)) id
         have hq:=or_byte (zs.getD pi 0) (zs.getD (pi+1) 0) tb0 (by omega) ⟨tb2,tb3⟩
         rw [← te,ht1]at hq
         generalize zs.getD pi 0=y0 at*
         generalize zs.getD (pi+1) 0=y1 at*
         have HZI:=hid hzi
         have v0:IntKind.i64.wrap y0=y0:=IntWalk.i64_in _ (by omega)
         have v1:IntKind.i64.wrap y1=y1:=IntWalk.i64_in _ (by omega)
         have v2:IntKind.i64.wrap (y0*256)=y0*256:=IntWalk.i64_in _ (by omega)
         have w1:IntKind.i64.wrap ((pi:Int)+1)=(pi:Int)+1:=IntWalk.i64_in _ (by omega)
         have hn1:((pi:Int)+1).toNat=pi+1:=by omega
         have hp1:(0:Int)≤(pi:Int)+1:=by omega
         have hp2:(pi:Int)<(k:Int):=by omega
         have hp3:(pi:Int)+1<(k:Int):=by omega
         have hi1:(i:Int)<(L:Int):=by omega
         clear te ht1 ht2 hzi
         go_upto_region 19 with fail
         go_quiet (fail)
         have hk8:Keep (fun _=>False) wc (wr.drewN nq):=HKR.out.drewN nq
         have d1:(wr.drewN nq).cell? ⟨gM,i,none⟩=some (.int .i64 mi):=c1
         have d2:(wr.drewN nq).cell? ⟨gT,i,none⟩=some (.int .i64 (pi:Int)):=c2
         have HK8:=hid hk8
         generalize wr.drewN nq=w8 at*
         clear hk8 c1 c2 c3 c4 v0 v1 v2 w1 hn1 hp1 hp2 hp3 hq
         as_aux_lemma=>
          obtain⟨l1,l2,l3⟩:=HLE.out
          by_cases hA:i<hd
          · have g1:decide ((hd:Int)≤(i:Int))=false:=by simp;omega
            have g1':decide (hd≤i)=false:=by simp;omega
            clear l1 l2 l3
            as_aux_lemma=>
             go_upto_region 21 with fail
             go_quiet (fail)
             go_wp2_with fail
             go_roundw
             case rel=>exact⟨i+1,by omega,by go_num,hid (HK8.out.drewN _)⟩
             case measure=>simp [intOf]<;>omega
          · have g1:decide ((hd:Int)≤(i:Int))=true:=by simp;omega
            have g1':decide (hd≤i)=true:=by simp;omega
            by_cases hB:i<E
            case neg=>
             have g2:decide ((i:Int)<(E:Int))=false:=by simp;omega
             have g2':decide (i<E)=false:=by simp;omega
             clear l1 l2 l3
             as_aux_lemma=>
              go_upto_region 21 with fail
              go_quiet (fail)
              go_wp2_with fail
              go_roundw
              case rel=>exact⟨i+1,by omega,by go_num,hid (HK8.out.drewN _)⟩
              case measure=>simp [intOf]<;>omega
            case pos=>
             have g2:decide ((i:Int)<(E:Int))=true:=by simp;omega
             have g2':decide (i<E)=true:=by simp;omega
             have x1:IntKind.i64.wrap ((i:Int)-(hd:Int))=(i:Int)-(hd:Int):=IntWalk.i64_in _ (by omega)
             have htm:((i:Int)-(hd:Int)).tmod 2=((i:Int)-(hd:Int))%2:=Int.tmod_eq_emod_of_nonneg (by omega)
             by_cases hev:(i-hd)%2=0
             · obtain⟨q,q1,q2⟩:=HZT.out ((i-hd)/2) (by omega)
               rw [show hd+2*((i-hd)/2)=i by omega,HZI.out]at q1
               injection q1 with q1
               injection q1 with q1 _
               subst q1
               have x2:((i:Int)-(hd:Int)).tmod 2=0:=by rw [htm];omega
               have x3:IntKind.i64.wrap 0=0:=by decide
               have x4:wrap64 0=0:=IntWalk.wrap64_in _ (by omega)
               clear l1 l2 l3 q2 htm
               as_aux_lemma=>
                go_upto_region 21 with fail
                go_quiet (fail)
                go_wp2_with fail
                go_roundw
                case rel=>exact⟨i+1,by omega,by go_num,hid (HK8.out.drewN _)⟩
                case measure=>simp [intOf]<;>omega
             · obtain⟨q,q1,q2⟩:=HZT.out ((i-hd)/2) (by omega)
               rw [show hd+(2*((i-hd)/2)+1)=i by omega,HZI.out]at q2
               injection q2 with q2
               injection q2 with q2 q3
               subst q2 q3
               have x2:((i:Int)-(hd:Int)).tmod 2=1:=by rw [htm];omega
               have x3:IntKind.i64.wrap 1=1:=by decide
               have x4:wrap64 1=1:=IntWalk.wrap64_in _ (by omega)
               have d3:w8.cell? ⟨gT,i-1,none⟩=some (.int .i64 (q:Int)):=HK8.out.cell (HT7.out (i-1) (65424,q) (by rw [show i-1=hd+2*((i-hd)/2) by omega];exact q1)) id
               have d4:w8.cell? ⟨gT,i,none⟩=some (.int .i64 ((q:Int)+12)):=by rw [d2];push_cast;rfl
               have x5:IntKind.i64.wrap ((i:Int)-1)=((i-1:Nat):Int):=by rw [show(i:Int)-1=((i-1:Nat):Int) by omega];exact IntWalk.i64_in _ (by omega)
               have x6:IntKind.i64.wrap ((q:Int)+12)=(q:Int)+12:=IntWalk.i64_in _ (by omega)
               obtain⟨i',hi'⟩: ∃i',i-1=i':=⟨_,rfl⟩
               rw [hi']at d3 x5
               have x7:(i':Int)<(L:Int):=by omega
               have HI':=hid hi'
               clear l1 l2 l3 q1 htm d2 hi'
               as_aux_lemma=>
                go_upto_region 21 with fail
                go_quiet (fail)
                go_wp2_with fail
                go_roundw
                case rel=>exact⟨i+1,by omega,by go_num,hid (HK8.out.drewN _)⟩
                case measure=>simp [intOf]<;>omega
       · obtain rfl:i=L:=by omega
         have HKZ:=hid (HK7.out.trans HKR.out (fun _ _ h=>h))
         go_wp2_with fail
         go_ret
         exact⟨rfl,HKZ.out.below (Nat.le_refl _) (fun _ h=>h.elim)⟩
end Go.Proofs.YthfogcgdijmaoaaGreat
