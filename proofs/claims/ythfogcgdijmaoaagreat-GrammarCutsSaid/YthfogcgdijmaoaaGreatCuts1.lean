/-
  Part 1 of the proof: Form LawCuts. Conditions: those of the statements.
-/
import Derived.Test.YthfogcgdijmaoaaGreatJ4
import Derived.Test.YthfogcgdijmaoaaGreatJ2
import Derived.ChangeSame
import Derived.Test.YthfogcgdijmaoaaGreatChecked
import Derived.Test.YthfogcgdijmaoaaGreatM3
import Derived.Deep.DeepCutAuto
set_option maxRecDepth 100000
set_option maxHeartbeats 16000000
set_option linter.unusedVariables false
set_option linter.unusedSimpArgs false
namespace Go.Proofs.YthfogcgdijmaoaaGreat
open Go.RowKit Go.ChangeShapes Go.WideShapes
theorem wf_r64 {x:Int} (h:(Lit.int .i64 x).wf=true):R64 x:=wf_i64 h
set_option linter.unusedSimpArgs false in
theorem open_form {H:Type} {enc:TypeId×Value→H} {w:World} {base:Nat} {held:Bool} {r:Reach} {b0:Nat} {v:Value} {d:DataW H} {ps:List MemPlace} (hval:Value.okWide Tryz.prog w r b0 24 v)
 (hd:DataW.Trod enc Tryz.prog w base (fun _=>true) held 24 v d ps): ∃f:Fm,v=.agg f.cells∧FmOk w f:=by
 simp only [Value.okWide,Tryz.underlying24]at hval
 obtain⟨cs,rfl,_,_⟩:=hval
 obtain⟨fuel,hf⟩:=hd
 have hcF:Tryz.prog.cellsOf 24=21:=by kernel_rfl
 have hcI:Tryz.prog.cellsOf 3=1:=by kernel_rfl
 have hcB:Tryz.prog.cellsOf 4=1:=by kernel_rfl
 have hcS:Tryz.prog.cellsOf 22=1:=by kernel_rfl
 obtain⟨l,rfl⟩: ∃l:List Value,cs=l.toArray:=⟨cs.toList,by simp⟩
 obtain⟨ys,m,_,_,hl,hlen,hfd⟩:=DataW.trod_struct Tryz.underlying24 hf
 rw [hcF]at hl
 replace hl:l.length=21:=hl
 replace hlen:ys.length=21:=hlen
 match l,hl with
 |[c0,c1,c2,c3,c4,c5,c6,c7,c8,c9,c10,c11,c12,c13,c14,c15,c16,c17,c18,c19,c20],_=>
 match ys,hlen with
 |[y0,y1,y2,y3,y4,y5,y6,y7,y8,y9,y10,y11,y12,y13,y14,y15,y16,y17,y18,y19,y20],_=>
 have g0:=hfd 0 _ rfl
 have g1:=hfd 1 _ rfl
 have g2:=hfd 2 _ rfl
 have g3:=hfd 3 _ rfl
 have g4:=hfd 4 _ rfl
 have g5:=hfd 5 _ rfl
 have g6:=hfd 6 _ rfl
 have g7:=hfd 7 _ rfl
 have g8:=hfd 8 _ rfl
 have g9:=hfd 9 _ rfl
 have g10:=hfd 10 _ rfl
 have g11:=hfd 11 _ rfl
 have g12:=hfd 12 _ rfl
 have g13:=hfd 13 _ rfl
 have g14:=hfd 14 _ rfl
 have g15:=hfd 15 _ rfl
 have g16:=hfd 16 _ rfl
 have g17:=hfd 17 _ rfl
 have g18:=hfd 18 _ rfl
 have g19:=hfd 19 _ rfl
 have g20:=hfd 20 _ rfl
 clear hfd hf hl hlen
 replace g0:DataW.trod enc Tryz.prog w base (fun _=>true) held m 3 [c0]=some y0:=by have h:DataW.trod enc Tryz.prog w base (fun _=>true) held m 3 (([c0,c1,c2,c3,c4,c5,c6,c7,c8,c9,c10,c11,c12,c13,c14,c15,c16,c17,c18,c19,c20].drop 0).take (Tryz.prog.cellsOf 3))=some y0:=g0;rw [hcI]at h;exact h
 replace g1:DataW.trod enc Tryz.prog w base (fun _=>true) held m 3 [c1]=some y1:=by have h:DataW.trod enc Tryz.prog w base (fun _=>true) held m 3 (([c0,c1,c2,c3,c4,c5,c6,c7,c8,c9,c10,c11,c12,c13,c14,c15,c16,c17,c18,c19,c20].drop 1).take (Tryz.prog.cellsOf 3))=some y1:=g1;rw [hcI]at h;exact h
 replace g2:DataW.trod enc Tryz.prog w base (fun _=>true) held m 3 [c2]=some y2:=by have h:DataW.trod enc Tryz.prog w base (fun _=>true) held m 3 (([c0,c1,c2,c3,c4,c5,c6,c7,c8,c9,c10,c11,c12,c13,c14,c15,c16,c17,c18,c19,c20].drop 2).take (Tryz.prog.cellsOf 3))=some y2:=g2;rw [hcI]at h;exact h
 replace g3:DataW.trod enc Tryz.prog w base (fun _=>true) held m 3 [c3]=some y3:=by have h:DataW.trod enc Tryz.prog w base (fun _=>true) held m 3 (([c0,c1,c2,c3,c4,c5,c6,c7,c8,c9,c10,c11,c12,c13,c14,c15,c16,c17,c18,c19,c20].drop 3).take (Tryz.prog.cellsOf 3))=some y3:=g3;rw [hcI]at h;exact h
 replace g4:DataW.trod enc Tryz.prog w base (fun _=>true) held m 3 [c4]=some y4:=by have h:DataW.trod enc Tryz.prog w base (fun _=>true) held m 3 (([c0,c1,c2,c3,c4,c5,c6,c7,c8,c9,c10,c11,c12,c13,c14,c15,c16,c17,c18,c19,c20].drop 4).take (Tryz.prog.cellsOf 3))=some y4:=g4;rw [hcI]at h;exact h
 replace g5:DataW.trod enc Tryz.prog w base (fun _=>true) held m 3 [c5]=some y5:=by have h:DataW.trod enc Tryz.prog w base (fun _=>true) held m 3 (([c0,c1,c2,c3,c4,c5,c6,c7,c8,c9,c10,c11,c12,c13,c14,c15,c16,c17,c18,c19,c20].drop 5).take (Tryz.prog.cellsOf 3))=some y5:=g5;rw [hcI]at h;exact h
 replace g6:DataW.trod enc Tryz.prog w base (fun _=>true) held m 3 [c6]=some y6:=by have h:DataW.trod enc Tryz.prog w base (fun _=>true) held m 3 (([c0,c1,c2,c3,c4,c5,c6,c7,c8,c9,c10,c11,c12,c13,c14,c15,c16,c17,c18,c19,c20].drop 6).take (Tryz.prog.cellsOf 3))=some y6:=g6;rw [hcI]at h;exact h
 replace g7:DataW.trod enc Tryz.prog w base (fun _=>true) held m 4 [c7]=some y7:=by have h:DataW.trod enc Tryz.prog w base (fun _=>true) held m 4 (([c0,c1,c2,c3,c4,c5,c6,c7,c8,c9,c10,c11,c12,c13,c14,c15,c16,c17,c18,c19,c20].drop 7).take (Tryz.prog.cellsOf 4))=some y7:=g7;rw [hcB]at h;exact h
 replace g8:DataW.trod enc Tryz.prog w base (fun _=>true) held m 4 [c8]=some y8:=by have h:DataW.trod enc Tryz.prog w base (fun _=>true) held m 4 (([c0,c1,c2,c3,c4,c5,c6,c7,c8,c9,c10,c11,c12,c13,c14,c15,c16,c17,c18,c19,c20].drop 8).take (Tryz.prog.cellsOf 4))=some y8:=g8;rw [hcB]at h;exact h
 replace g9:DataW.trod enc Tryz.prog w base (fun _=>true) held m 4 [c9]=some y9:=by have h:DataW.trod enc Tryz.prog w base (fun _=>true) held m 4 (([c0,c1,c2,c3,c4,c5,c6,c7,c8,c9,c10,c11,c12,c13,c14,c15,c16,c17,c18,c19,c20].drop 9).take (Tryz.prog.cellsOf 4))=some y9:=g9;rw [hcB]at h;exact h
 replace g10:DataW.trod enc Tryz.prog w base (fun _=>true) held m 4 [c10]=some y10:=by have h:DataW.trod enc Tryz.prog w base (fun _=>true) held m 4 (([c0,c1,c2,c3,c4,c5,c6,c7,c8,c9,c10,c11,c12,c13,c14,c15,c16,c17,c18,c19,c20].drop 10).take (Tryz.prog.cellsOf 4))=some y10:=g10;rw [hcB]at h;exact h
 replace g11:DataW.trod enc Tryz.prog w base (fun _=>true) held m 3 [c11]=some y11:=by have h:DataW.trod enc Tryz.prog w base (fun _=>true) held m 3 (([c0,c1,c2,c3,c4,c5,c6,c7,c8,c9,c10,c11,c12,c13,c14,c15,c16,c17,c18,c19,c20].drop 11).take (Tryz.prog.cellsOf 3))=some y11:=g11;rw [hcI]at h;exact h
 replace g12:DataW.trod enc Tryz.prog w base (fun _=>true) held m 3 [c12]=some y12:=by have h:DataW.trod enc Tryz.prog w base (fun _=>true) held m 3 (([c0,c1,c2,c3,c4,c5,c6,c7,c8,c9,c10,c11,c12,c13,c14,c15,c16,c17,c18,c19,c20].drop 12).take (Tryz.prog.cellsOf 3))=some y12:=g12;rw [hcI]at h;exact h
 replace g13:DataW.trod enc Tryz.prog w base (fun _=>true) held m 3 [c13]=some y13:=by have h:DataW.trod enc Tryz.prog w base (fun _=>true) held m 3 (([c0,c1,c2,c3,c4,c5,c6,c7,c8,c9,c10,c11,c12,c13,c14,c15,c16,c17,c18,c19,c20].drop 13).take (Tryz.prog.cellsOf 3))=some y13:=g13;rw [hcI]at h;exact h
 replace g14:DataW.trod enc Tryz.prog w base (fun _=>true) held m 3 [c14]=some y14:=by have h:DataW.trod enc Tryz.prog w base (fun _=>true) held m 3 (([c0,c1,c2,c3,c4,c5,c6,c7,c8,c9,c10,c11,c12,c13,c14,c15,c16,c17,c18,c19,c20].drop 14).take (Tryz.prog.cellsOf 3))=some y14:=g14;rw [hcI]at h;exact h
 replace g15:DataW.trod enc Tryz.prog w base (fun _=>true) held m 3 [c15]=some y15:=by have h:DataW.trod enc Tryz.prog w base (fun _=>true) held m 3 (([c0,c1,c2,c3,c4,c5,c6,c7,c8,c9,c10,c11,c12,c13,c14,c15,c16,c17,c18,c19,c20].drop 15).take (Tryz.prog.cellsOf 3))=some y15:=g15;rw [hcI]at h;exact h
 replace g16:DataW.trod enc Tryz.prog w base (fun _=>true) held m 3 [c16]=some y16:=by have h:DataW.trod enc Tryz.prog w base (fun _=>true) held m 3 (([c0,c1,c2,c3,c4,c5,c6,c7,c8,c9,c10,c11,c12,c13,c14,c15,c16,c17,c18,c19,c20].drop 16).take (Tryz.prog.cellsOf 3))=some y16:=g16;rw [hcI]at h;exact h
 replace g17:DataW.trod enc Tryz.prog w base (fun _=>true) held m 3 [c17]=some y17:=by have h:DataW.trod enc Tryz.prog w base (fun _=>true) held m 3 (([c0,c1,c2,c3,c4,c5,c6,c7,c8,c9,c10,c11,c12,c13,c14,c15,c16,c17,c18,c19,c20].drop 17).take (Tryz.prog.cellsOf 3))=some y17:=g17;rw [hcI]at h;exact h
 replace g18:DataW.trod enc Tryz.prog w base (fun _=>true) held m 3 [c18]=some y18:=by have h:DataW.trod enc Tryz.prog w base (fun _=>true) held m 3 (([c0,c1,c2,c3,c4,c5,c6,c7,c8,c9,c10,c11,c12,c13,c14,c15,c16,c17,c18,c19,c20].drop 18).take (Tryz.prog.cellsOf 3))=some y18:=g18;rw [hcI]at h;exact h
 replace g19:DataW.trod enc Tryz.prog w base (fun _=>true) held m 3 [c19]=some y19:=by have h:DataW.trod enc Tryz.prog w base (fun _=>true) held m 3 (([c0,c1,c2,c3,c4,c5,c6,c7,c8,c9,c10,c11,c12,c13,c14,c15,c16,c17,c18,c19,c20].drop 19).take (Tryz.prog.cellsOf 3))=some y19:=g19;rw [hcI]at h;exact h
 replace g20:DataW.trod enc Tryz.prog w base (fun _=>true) held m 22 [c20]=some y20:=by have h:DataW.trod enc Tryz.prog w base (fun _=>true) held m 22 (([c0,c1,c2,c3,c4,c5,c6,c7,c8,c9,c10,c11,c12,c13,c14,c15,c16,c17,c18,c19,c20].drop 20).take (Tryz.prog.cellsOf 22))=some y20:=g20;rw [hcS]at h;exact h
 obtain⟨x,e0,_,s0⟩:=DataW.trod_int Tryz.underlying3 g0
 injection e0 with e0 _
 subst e0
 obtain⟨y,e1,_,s1⟩:=DataW.trod_int Tryz.underlying3 g1
 injection e1 with e1 _
 subst e1
 obtain⟨ox,e2,_,s2⟩:=DataW.trod_int Tryz.underlying3 g2
 injection e2 with e2 _
 subst e2
 obtain⟨oy,e3,_,s3⟩:=DataW.trod_int Tryz.underlying3 g3
 injection e3 with e3 _
 subst e3
 obtain⟨comps,e4,_,s4⟩:=DataW.trod_int Tryz.underlying3 g4
 injection e4 with e4 _
 subst e4
 obtain⟨depth,e5,_,s5⟩:=DataW.trod_int Tryz.underlying3 g5
 injection e5 with e5 _
 subst e5
 obtain⟨sub,e6,_,s6⟩:=DataW.trod_int Tryz.underlying3 g6
 injection e6 with e6 _
 subst e6
 obtain⟨sg,e7,_⟩:=DataW.trod_bool Tryz.underlying4 g7
 injection e7 with e7 _
 subst e7
 obtain⟨rct,e8,_⟩:=DataW.trod_bool Tryz.underlying4 g8
 injection e8 with e8 _
 subst e8
 obtain⟨sop,e9,_⟩:=DataW.trod_bool Tryz.underlying4 g9
 injection e9 with e9 _
 subst e9
 obtain⟨eph,e10,_⟩:=DataW.trod_bool Tryz.underlying4 g10
 injection e10 with e10 _
 subst e10
 obtain⟨tx,e11,_,s11⟩:=DataW.trod_int Tryz.underlying3 g11
 injection e11 with e11 _
 subst e11
 obtain⟨ty,e12,_,s12⟩:=DataW.trod_int Tryz.underlying3 g12
 injection e12 with e12 _
 subst e12
 obtain⟨lev,e13,_,s13⟩:=DataW.trod_int Tryz.underlying3 g13
 injection e13 with e13 _
 subst e13
 obtain⟨cbw,e14,_,s14⟩:=DataW.trod_int Tryz.underlying3 g14
 injection e14 with e14 _
 subst e14
 obtain⟨cbh,e15,_,s15⟩:=DataW.trod_int Tryz.underlying3 g15
 injection e15 with e15 _
 subst e15
 obtain⟨prec,e16,_,s16⟩:=DataW.trod_int Tryz.underlying3 g16
 injection e16 with e16 _
 subst e16
 obtain⟨style,e17,_,s17⟩:=DataW.trod_int Tryz.underlying3 g17
 injection e17 with e17 _
 subst e17
 obtain⟨order,e18,_,s18⟩:=DataW.trod_int Tryz.underlying3 g18
 injection e18 with e18 _
 subst e18
 obtain⟨lay,e19,_,s19⟩:=DataW.trod_int Tryz.underlying3 g19
 injection e19 with e19 _
 subst e19
 rcases open_ints Tryz.underlying22 Tryz.underlying3 hcI g20 with⟨e20,_⟩|⟨x20,k20,c20',zs,e20,_,hlc,hm,hz,_,hcell,_⟩
 · injection e20 with e20 _
   subst e20
   exact⟨⟨x,y,ox,oy,comps,depth,sub,sg,rct,sop,eph,tx,ty,lev,cbw,cbh,prec,style,order,lay,none,0,0⟩,rfl,{
    x:=wf_r64 s0
    y:=wf_r64 s1
    ox:=wf_r64 s2
    oy:=wf_r64 s3
    comps:=wf_r64 s4
    depth:=wf_r64 s5
    sub:=wf_r64 s6
    tx:=wf_r64 s11
    ty:=wf_r64 s12
    lev:=wf_r64 s13
    cbw:=wf_r64 s14
    cbh:=wf_r64 s15
    prec:=wf_r64 s16
    style:=wf_r64 s17
    order:=wf_r64 s18
    lay:=wf_r64 s19
    zs:=⟨[],Rd.nil _⟩
    nb:=Nat.zero_le _ }⟩
 · injection e20 with e20 _
   subst e20
   simp only [if_true]at hz
   exact⟨⟨x,y,ox,oy,comps,depth,sub,sg,rct,sop,eph,tx,ty,lev,cbw,cbh,prec,style,order,lay,some x20,k20,c20'⟩,rfl,{
    x:=wf_r64 s0
    y:=wf_r64 s1
    ox:=wf_r64 s2
    oy:=wf_r64 s3
    comps:=wf_r64 s4
    depth:=wf_r64 s5
    sub:=wf_r64 s6
    tx:=wf_r64 s11
    ty:=wf_r64 s12
    lev:=wf_r64 s13
    cbw:=wf_r64 s14
    cbh:=wf_r64 s15
    prec:=wf_r64 s16
    style:=wf_r64 s17
    order:=wf_r64 s18
    lay:=wf_r64 s19
    zs:=⟨zs.take k20,by simp;omega,fun hn=>⟨x20,rfl,fun j u hu=>by
     rw [List.getElem?_map,List.getElem?_take]at hu
     have hj:j<k20:=by
      rcases Nat.lt_or_ge j k20 with h|h
      · exact h
      · rw [if_neg (by omega)]at hu;cases hu
     rw [if_pos hj]at hu
     have hjl:j<zs.length:=by omega
     rw [hcell j hjl]
     simp [hjl]at hu
     subst hu
     simp [hjl]⟩⟩
    nb:=by simp only [maxLen]at hm;show k20≤_;omega }⟩
end Go.Proofs.YthfogcgdijmaoaaGreat
namespace Go.Proofs.YthfogcgdijmaoaaGreat
open Go.RowKit
theorem grammarCuts_walk (f:Fm) (x:Int) (A:Option Addr) (n c:Nat) (ys:List Int) (w:World) (hf:FmOk w f) (hx:(Lit.int .i64 x).wf=true) (h:Arg .u8 1 w A n c ys):
 Calls Tryz.prog 5 #[.agg f.cells,.int .i64 x,.slice A n c] w fun e w'=>e=.returned (.bool true)∧Below w.heap.size w w':=by
 obtain⟨hx0,hx1⟩:=wf_i64 hx
 have HBY:=hid h.bytes
 have HL:=hid h.len
 have HR:=hid h.rd
 have hcn:n≤9223372036854775807:=by have:=h.cap;have:=h.reach;omega
 clear h hx
 go_enter Tryz.func5,Tryz.ntmps5
 go_wp2_with fail
 refine(known_any _).mono ?_
 rintro e w1 ⟨rfl,hk1⟩
 have HK1:=hid (((Keep.refl (fun _=>False) w).alloc (.cells f.cells 24)).trans hk1 (fun _ _ h=>h))
 have HB1:=hid ((Blk.new w 24 f.cells).keep hk1 id)
 have HF1:=hid (hf.keepF HK1.out)
 clear hk1
 by_cases hn:n=0∨50<n
 · rcases hn with rfl|hn
   · go_wp2_with fail
     go_ret
     exact⟨rfl,HK1.out.below (Nat.le_refl _) (fun _ h=>h.elim)⟩
   · have hd0:((n:Int)==0)=false:=by simp;omega
     have hd2:decide ((50:Int)<n)=true:=by simp;omega
     go_wp2_with fail
     go_ret
     exact⟨rfl,HK1.out.below (Nat.le_refl _) (fun _ h=>h.elim)⟩
 · have hd0:((n:Int)==0)=false:=by simp;omega
   have hd2:decide ((50:Int)<n)=false:=by simp;omega
   have hn50:0<n∧n≤50:=by omega
   clear hn
   go_wp2_with (refine wpList_load_row rfl _ _ rfl _ rfl _ _ _ _ HB1.out Tryz.underlying24 rfl (by kernel_rfl) ?_)
   refine(make_law w1 f 6 (by omega) (by omega) HF1.out).mono ?_
   rintro e w2 ⟨m,p,nx,ny,rfl,hk2,hm,hn,hE⟩
   have HK2:=hid (HK1.out.trans hk2 (fun _ _ h=>h))
   have HM:=hid hm
   have HN:=hid hn
   have HE:=hid hE
   have HI0:=hid ((Blk.new w2 29 #[.int .i64 0,.int .i64 0,.int .i64 0,.int .i64 0,.slice none 0 0]).alloc (.cells #[.int .i64 0,.int .i64 0,.int .i64 0,.int .i64 0,.int .i64 0,.int .i64 0,.int .i64 0,.int .i64 0,.int .i64 0,.bool false,.bool false,.bool false] 31))
   have HP0:=hid (Blk.new1 w2 (.cells #[.int .i64 0,.int .i64 0,.int .i64 0,.int .i64 0,.slice none 0 0] 29) 31 #[.int .i64 0,.int .i64 0,.int .i64 0,.int .i64 0,.int .i64 0,.int .i64 0,.int .i64 0,.int .i64 0,.int .i64 0,.bool false,.bool false,.bool false])
   clear hk2 hm hn hE HK1 HB1 HF1
   go_wp2_with (refine wpList_store_in (t:=29) (cs:=#[.int .i64 0,.int .i64 0,.int .i64 0,.int .i64 0,.slice none 0 0]) (g:=w2.heap.size) ?_ rfl 29 (.tmp 7) (.tmp 30) rfl 0 m.cells rfl rfl ?_ ?_ ?_ ?_)
   · exact HI0.out
   · show 0+5≤5;omega
   · kernel_rfl
   · simp [Value.oneCell',Im.cells]
   intro w3 hb3 hk3
   have HI3:=hid (show Blk w3 w2.heap.size 29 m.cells from blk_all hb3 rfl)
   have HP3:=hid (HP0.out.keep hk3 (show¬(w2.heap.size+1=w2.heap.size) by omega))
   have HK3:=hid ((((Keep.refl (fun _=>False) w2).alloc _).alloc _).new hk3 (fun j e=>by rw [show j=_ from e];exact Nat.le_refl _))
   clear hb3 hk3 HI0 HP0
   try simp only [NS]
   go_wp2_with (refine wpList_store_in (t:=31) (cs:=#[.int .i64 0,.int .i64 0,.int .i64 0,.int .i64 0,.int .i64 0,.int .i64 0,.int .i64 0,.int .i64 0,.int .i64 0,.bool false,.bool false,.bool false]) (g:=w2.heap.size+1) ?_ rfl 31 (.tmp 8) (.tmp 31) rfl 0 p.cells rfl rfl ?_ ?_ ?_ ?_)
   · exact HP3.out
   · show 0+12≤12;omega
   · kernel_rfl
   · simp [Value.oneCell',Pm.cells]
   intro w4 hb4 hk4
   have HP4:=hid (show Blk w4 (w2.heap.size+1) 31 p.cells from blk_all hb4 rfl)
   have HI4:=hid (HI3.out.keep hk4 (show¬(w2.heap.size=w2.heap.size+1) by omega))
   have HK4:=hid (HK3.out.new hk4 (fun j e=>by rw [show j=_ from e];omega))
   clear hb4 hk4 HI3 HP3 HK3
   try simp only [NS]
   go_wp2_with (first|(refine wpList_load_row rfl _ _ rfl _ rfl _ _ _ _ HI4.out Tryz.underlying29 rfl (by kernel_rfl) ?_)|(refine wpList_load_row rfl _ _ rfl _ rfl _ _ _ _ HP4.out Tryz.underlying31 rfl (by kernel_rfl) ?_))
   refine(HE.out w4 none 0 0 [] HK4.out (Rd.nil _) (fun _ h=>by cases h) (by omega)).mono ?_
   rintro e w5 ⟨B,k,cB,zs,mA,mB,mD,mP,mQ,tl,rfl,hk5,ho5,hb5,hn5,htl,hw5⟩
   have HK5:=hid ((HK2.out.trans HK4.out (fun _ _ h=>h)).trans hk5 (fun _ _ h=>h))
   have HI5:=hid (HI4.out.keep hk5 id)
   have HP5:=hid (HP4.out.keep hk5 id)
   have HO5:=hid ho5
   have HB5:=hid hb5
   have HW5:=hid hw5
   have HTL:=hid htl
   have hk2l:=walkM_len hw5
   have hzl:zs.length=k:=by have:=(Rd.of_own ho5).len;exact this
   obtain⟨gB,hB,_,_,_,_⟩:=own_at ho5 (by omega)
   subst hB
   obtain⟨_,hlt5,hcap5,hmax5⟩:=own_facts ho5
   have HLT5:=hid hlt5
   clear hk5 ho5 hb5 hw5 htl HE HI4 HP4 HK4 hlt5
   go_wp2_with fail
   refine(within_any w5 x k hx0 hx1 (by omega) (by omega)).mono ?_
   rintro e w6 ⟨rfl,rfl⟩
   obtain⟨j,hj,hjk⟩: ∃j:Nat,x%(k:Int)=j∧j<k:=by
    have h1:=Int.emod_nonneg x (show(k:Int)≠0 by omega)
    have h2:=Int.emod_lt_of_pos x (show 0<(k:Int) by omega)
    exact⟨(x%(k:Int)).toNat,by omega,by omega⟩
   rw [hj]
   have HJ:=hid hj
   clear hj
   have hjc:(j:Int)≤(cB:Int):=by omega
   go_wp2_with fail
   have HRB:=hid (Rd.of_own HO5.out)
   refine(walk_any w5 (some ⟨gB,0,none⟩) j cB (zs.take j) (by rw [List.map_take];exact HRB.out.take (by omega)) HLT5.out (fun z hz=>HB5.out z (List.mem_of_mem_take hz)) (by omega) (by omega) (by omega)).mono ?_
   rintro e w7 ⟨hk7,hp7⟩
   rw [walk_cut HW5.out (by omega)]at hp7
   obtain rfl:e=.returned (.tuple #[.slice none 0 0,.slice none 0 0,.int .i64 10]):=hp7
   have HK7:=hid (HK5.out.trans hk7 (fun _ _ h=>h))
   have HRB7:=hid (HRB.out.keep hk7 (fun _ _ h=>h))
   have HR7:=hid (HR.out.keep HK7.out (fun _ _ h=>h))
   clear hk7 HK5 HO5 HRB HLT5
   have HKE:=hid ((Keep.refl (fun _=>False) w7).alloc (.cells #[] 5))
   go_wp2_with (
    at_builtin
    go_must (refine wpList_app rfl (.tmp 50) (.tmp 51) rfl (w0:=w7) (own_none w7 w7 (Keep.refl _ _)) HKE.out rfl (HRB7.out.keep HKE.out (fun _ _ h=>h)) rfl (by omega) ?_))
   intro A8 c8 w8 how8 hkw8
   have HOw8:=hid how8
   have HKw8:=hid hkw8
   clear how8 hkw8
   try simp only [NS]
   have HR8:=hid (HR7.out.keep HKw8.out (fun _ _ h=>h))
   go_wp2_with (
    at_builtin
    go_must (refine wpList_app rfl (.tmp 52) (.tmp 53) rfl (w0:=w7) HOw8.out HKw8.out rfl HR8.out rfl (by omega) ?_))
   intro A9 c9 w9 how9 hkw9
   have HOw9:=hid how9
   have HKw9:=hid hkw9
   clear how9 hkw9
   try simp only [NS]
   obtain⟨hr9,hlt9,hcap9,hmax9⟩:=own_facts HOw9.out
   have HR9:=hid (show Rd w9 A9 (k+n) ((zs++ys).map (Value.int .u8)) by first|exact hr9|(rw [List.map_append];exact hr9))
   have HLT9:=hid hlt9
   have HB9:=hid (show Bytes (zs++ys)from fun z hz=>by
    rcases List.mem_append.1 hz with h|h
    · exact HB5.out z h
    · exact HBY.out z h)
   have hyn:ys≠[]:=fun e=>by have:=HL.out;rw [e]at this;simp at this;omega
   have HKF:=hid (HK7.out.trans HKw9.out (fun _ _ h=>h))
   clear hr9 hlt9 HOw8 HOw9 HKw8 HKw9 HKE
   go_wp2_with fail
   refine(walk_any w9 A9 (k+n) c9 (zs++ys) HR9.out HLT9.out HB9.out (by omega) (by omega) (by omega)).mono ?_
   rintro e w10 ⟨hk10,hp10⟩
   rw [walk_ext HW5.out hyn]at hp10
   obtain rfl:e=.returned (.tuple #[.slice none 0 0,.slice none 0 0,.int .i64 10]):=hp10
   have HKZ:=hid (HKF.out.trans hk10 (fun _ _ h=>h))
   clear hk10
   go_wp2_with fail
   go_ret
   exact⟨rfl,HKZ.out.below (Nat.le_refl _) (fun _ h=>h.elim)⟩
end Go.Proofs.YthfogcgdijmaoaaGreat
