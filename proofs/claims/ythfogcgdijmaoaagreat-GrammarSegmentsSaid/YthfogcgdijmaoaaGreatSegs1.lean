/-
  Part 1 of the proof: Zeros Form LawSegs. Conditions: those of the statements.
-/
import Derived.Test.YthfogcgdijmaoaaGreatJ44
import Derived.Test.YthfogcgdijmaoaaGreatJ4
import Derived.Test.YthfogcgdijmaoaaGreatJ2
import Derived.ChangeSame
import Derived.Test.YthfogcgdijmaoaaGreatChecked
import Derived.Test.YthfogcgdijmaoaaGreatM3
import Derived.Deep.DeepCutAuto
set_option maxRecDepth 100000
set_option maxHeartbeats 16000000
set_option linter.unusedVariables false
set_option linter.unusedSimpArgs false
namespace Go.Proofs.YthfogcgdijmaoaaGreat
open Go.RowKit
theorem zeroCells_list (n:Nat):(Builtin.zeroCells #[Value.int .u8 0] n).toList=(List.replicate n (0:Int)).map (Value.int .u8):=by
 unfold Builtin.zeroCells
 rw [Array.toList_map,List.map_replicate,List.eq_replicate_iff]
 refine⟨by simp,fun b hb=>?_⟩
 obtain⟨i,_,rfl⟩:=List.mem_map.1 hb
 show(#[Value.int .u8 0]:Array Value)[i%1]! =_
 rw [Nat.mod_one]
 rfl
theorem run_zeros {w0 w:World} (hk:Keep (fun _=>False) w0 w) (a b c d:Int) (n:Nat) (hn:n<60) (ty:TypeId):
 ∃A' c' w',(Builtin.append_ #[25,3] ty #[.slice (some ⟨w.heap.size,0,none⟩) 4 4,.int .i64 n]).run Tryz.prog (w.alloc (.cells #[.int .u8 a,.int .u8 b,.int .u8 c,.int .u8 d] 5))=.ok (.slice A' (4+n) c') w'∧
  w'.ownsRow w0.heap.size 5 1 (.slice A' (4+n) c') (4+n) (([a,b,c,d]++List.replicate n 0).map (Value.int .u8))∧Keep (fun _=>False) w0 w':=by
 obtain⟨i0,hi0,hz0,hz1,hz2⟩:=info_parts info_u8L
 obtain⟨w1,hw1⟩: ∃w1,w.alloc (.cells #[.int .u8 a,.int .u8 b,.int .u8 c,.int .u8 d] 5)=w1:=⟨_,rfl⟩
 have hb:Blk w1 w.heap.size 5 #[.int .u8 a,.int .u8 b,.int .u8 c,.int .u8 d]:=by rw [← hw1];exact Blk.new w _ _
 have hk1:Keep (fun _=>False) w0 w1:=by rw [← hw1];exact hk.alloc _
 have hsz:w0.heap.size≤w.heap.size:=hk.size
 rw [hw1]
 generalize w.heap.size=g at*
 have hwr:IntKind.i64.wrap (n:Int)=(n:Int):=IntWalk.i64_in _ (by omega)
 have hneg: ¬((n:Int)<0):=by omega
 have hun:=Tryz.underlying3
 rcases Nat.eq_zero_or_pos n with rfl|hp
 · refine⟨some ⟨g,0,none⟩,4,w1,?_,⟨rfl,.inr ⟨g,4,_,rfl,hsz,hb,Nat.le_refl _,by simp only [maxLen];omega,rfl,rfl⟩⟩,hk1⟩
   have hw0:IntKind.i64.wrap 0=0:=by decide
   simp [Builtin.append_,run_underlying Tryz.underlying25,run_underlying hun,sizeOf,typeInfo,hi0,hz1,hz2,asInt,asIntOf,storeCells,hw0]
 · have hnn: ¬(4+n≤4):=by omega
   have hfo:=run_firstCells_some (P:=Tryz.prog) w1.drew i0.size 4 ⟨g,0,none⟩ 4 4 [.int .u8 a,.int .u8 b,.int .u8 c,.int .u8 d] (by rw [hz1];rfl) (fun j v hj=>by rw [add_lit',Nat.zero_add,hb.drew.cell];simpa using hj)
   have hnc:Builtin.nextslicecap (4+n) 4≤100:=by
    unfold Builtin.nextslicecap
    split
    · omega
    · rw [if_pos (by omega)];omega
   have h48: ¬(281474976710656<Builtin.nextslicecap (4+n) 4):=by omega
   have h63: ¬(9223372036854775807<4+(n:Int)):=by omega
   have hmx:max (n:Int) 0=(n:Int):=by omega
   have hn0: ¬(n=0):=by omega
   have hnz: ¬((n:Int)≤0):=by omega
   have hbig: ¬(281474976710656<(n:Int)):=by omega
   refine⟨some ⟨w1.heap.size,0,none⟩,grownCap w1 (4+n) 4 5,w1.drew.alloc (.cells ((([.int .u8 a,.int .u8 b,.int .u8 c,.int .u8 d]:List Value).toArray++Builtin.zeroCells #[.int .u8 0] n)++Builtin.zeroCells #[.int .u8 0] (grownCap w1 (4+n) 4 5-(4+n))) 5),?_,?_,hk1.drew.alloc _⟩
   · simp [Builtin.append_,run_underlying Tryz.underlying25,run_underlying hun,sizeOf,typeInfo,zeroValue,hi0,hz0,hz2,asInt,asIntOf,hwr,hneg,hnn,h48,h63,hn0,hnz,hbig,hmx,Question.forced,hfo,newRow,grownCap]
     rw [if_neg (by rw [hz1];omega)]
     rfl
   · have hge:=grownCap_ge w1 (4+n) 4 5
     have hle:=grownCap_le_maxLen w1 (4+n) 4 5 (by simp only [maxLen];omega)
     generalize grownCap w1 (4+n) 4 5=cp at*
     have hzs: ∀m,(Builtin.zeroCells #[Value.int .u8 0] m).size=m:=fun m=>by unfold Builtin.zeroCells;simp
     refine⟨by simp;omega,.inr ⟨w1.heap.size,cp,_,rfl,hk1.size,Blk.new w1.drew _ _,hge,hle,?_,?_⟩⟩
     · rw [Array.size_append,Array.size_append,hzs,hzs]
       show 4+n+(cp-(4+n))=cp*1
       omega
     · rw [Array.toList_append,Array.toList_append,List.take_left' (by simp [hzs];omega),zeroCells_list,List.map_append]
       rfl
theorem wpList_zeros {ops:Array Oper} {rest:List Oper} {o:Oper} {st:Act} {Q:Exit→Act→World→Prop} (hgd:o.guard=none) (s x:Operand) (ho:o.op=.call { callee:=.builtin .append,args:=#[s,x],argTypes:=#[25,3] })
 {w0 w:World} (hk:Keep (fun _=>False) w0 w) (a b c d:Int) (n:Nat) (hn:n<60) (hs:st.eval s=.slice (some ⟨w.heap.size,0,none⟩) 4 4) (hx:st.eval x=.int .i64 n)
 (h: ∀A' c' w',w'.ownsRow w0.heap.size 5 1 (.slice A' (4+n) c') (4+n) (([a,b,c,d]++List.replicate n 0).map (Value.int .u8))→Keep (fun _=>False) w0 w'→wpList Tryz.prog ops Q rest (st.put o.dst (.slice A' (4+n) c')) w'):
 wpList Tryz.prog ops Q (o::rest) st (w.alloc (.cells #[.int .u8 a,.int .u8 b,.int .u8 c,.int .u8 d] 5)):=by
 refine wpList_plain hgd fun K hK=>?_
 obtain⟨A',c',w',hr,h2,h3⟩:=run_zeros hk a b c d n hn o.type
 unfold Oper.wp execOp
 simp only [ho,resolve,invoke,builtin,Sem.run_bind,Sem.run_pure,Result.andThen_ok,List.map_toArray,List.map_cons,List.map_nil,hs,hx,hr]
 exact hK _ _ (h A' c' w' h2 h3)
end Go.Proofs.YthfogcgdijmaoaaGreat
namespace Go.Proofs.YthfogcgdijmaoaaGreat
open Go.RowKit Go.ChangeShapes Go.WideShapes
theorem wf_r64 {x:Int} (h:(Lit.int .i64 x).wf=true):R64 x:=wf_i64 h
set_option linter.unusedSimpArgs false in
theorem open_form {H:Type} {enc:TypeId×Value→H} {w:World} {base:Nat} {held:Bool} {r:Reach} {b0:Nat} {v:Value} {d:DataW H} {ps:List MemPlace} (hval:Value.okWide Tryz.prog w r b0 24 v)
 (hd:DataW.Trod enc Tryz.prog w base (fun _=>true) held 24 v d ps): ∃f:Fm,v=.agg f.cells∧FmOk w f:=by
 simp only [Value.okWide,Tryz.underlying24]at hval
 obtain⟨cs,rfl,_,_⟩:=hval
 obtain⟨fuel,hf⟩:=hd
 have hcF:Tryz.prog.cellsOf 24=21:=by kernel_rfl
 have hcI:Tryz.prog.cellsOf 3=1:=by kernel_rfl
 have hcB:Tryz.prog.cellsOf 4=1:=by kernel_rfl
 have hcS:Tryz.prog.cellsOf 22=1:=by kernel_rfl
 obtain⟨l,rfl⟩: ∃l:List Value,cs=l.toArray:=⟨cs.toList,by simp⟩
 obtain⟨ys,m,_,_,hl,hlen,hfd⟩:=DataW.trod_struct Tryz.underlying24 hf
 rw [hcF]at hl
 replace hl:l.length=21:=hl
 replace hlen:ys.length=21:=hlen
 match l,hl with
 |[c0,c1,c2,c3,c4,c5,c6,c7,c8,c9,c10,c11,c12,c13,c14,c15,c16,c17,c18,c19,c20],_=>
 match ys,hlen with
 |[y0,y1,y2,y3,y4,y5,y6,y7,y8,y9,y10,y11,y12,y13,y14,y15,y16,y17,y18,y19,y20],_=>
 have g0:=hfd 0 _ rfl
 have g1:=hfd 1 _ rfl
 have g2:=hfd 2 _ rfl
 have g3:=hfd 3 _ rfl
 have g4:=hfd 4 _ rfl
 have g5:=hfd 5 _ rfl
 have g6:=hfd 6 _ rfl
 have g7:=hfd 7 _ rfl
 have g8:=hfd 8 _ rfl
 have g9:=hfd 9 _ rfl
 have g10:=hfd 10 _ rfl
 have g11:=hfd 11 _ rfl
 have g12:=hfd 12 _ rfl
 have g13:=hfd 13 _ rfl
 have g14:=hfd 14 _ rfl
 have g15:=hfd 15 _ rfl
 have g16:=hfd 16 _ rfl
 have g17:=hfd 17 _ rfl
 have g18:=hfd 18 _ rfl
 have g19:=hfd 19 _ rfl
 have g20:=hfd 20 _ rfl
 clear hfd hf hl hlen
 replace g0:DataW.trod enc Tryz.prog w base (fun _=>true) held m 3 [c0]=some y0:=by have h:DataW.trod enc Tryz.prog w base (fun _=>true) held m 3 (([c0,c1,c2,c3,c4,c5,c6,c7,c8,c9,c10,c11,c12,c13,c14,c15,c16,c17,c18,c19,c20].drop 0).take (Tryz.prog.cellsOf 3))=some y0:=g0;rw [hcI]at h;exact h
 replace g1:DataW.trod enc Tryz.prog w base (fun _=>true) held m 3 [c1]=some y1:=by have h:DataW.trod enc Tryz.prog w base (fun _=>true) held m 3 (([c0,c1,c2,c3,c4,c5,c6,c7,c8,c9,c10,c11,c12,c13,c14,c15,c16,c17,c18,c19,c20].drop 1).take (Tryz.prog.cellsOf 3))=some y1:=g1;rw [hcI]at h;exact h
 replace g2:DataW.trod enc Tryz.prog w base (fun _=>true) held m 3 [c2]=some y2:=by have h:DataW.trod enc Tryz.prog w base (fun _=>true) held m 3 (([c0,c1,c2,c3,c4,c5,c6,c7,c8,c9,c10,c11,c12,c13,c14,c15,c16,c17,c18,c19,c20].drop 2).take (Tryz.prog.cellsOf 3))=some y2:=g2;rw [hcI]at h;exact h
 replace g3:DataW.trod enc Tryz.prog w base (fun _=>true) held m 3 [c3]=some y3:=by have h:DataW.trod enc Tryz.prog w base (fun _=>true) held m 3 (([c0,c1,c2,c3,c4,c5,c6,c7,c8,c9,c10,c11,c12,c13,c14,c15,c16,c17,c18,c19,c20].drop 3).take (Tryz.prog.cellsOf 3))=some y3:=g3;rw [hcI]at h;exact h
 replace g4:DataW.trod enc Tryz.prog w base (fun _=>true) held m 3 [c4]=some y4:=by have h:DataW.trod enc Tryz.prog w base (fun _=>true) held m 3 (([c0,c1,c2,c3,c4,c5,c6,c7,c8,c9,c10,c11,c12,c13,c14,c15,c16,c17,c18,c19,c20].drop 4).take (Tryz.prog.cellsOf 3))=some y4:=g4;rw [hcI]at h;exact h
 replace g5:DataW.trod enc Tryz.prog w base (fun _=>true) held m 3 [c5]=some y5:=by have h:DataW.trod enc Tryz.prog w base (fun _=>true) held m 3 (([c0,c1,c2,c3,c4,c5,c6,c7,c8,c9,c10,c11,c12,c13,c14,c15,c16,c17,c18,c19,c20].drop 5).take (Tryz.prog.cellsOf 3))=some y5:=g5;rw [hcI]at h;exact h
 replace g6:DataW.trod enc Tryz.prog w base (fun _=>true) held m 3 [c6]=some y6:=by have h:DataW.trod enc Tryz.prog w base (fun _=>true) held m 3 (([c0,c1,c2,c3,c4,c5,c6,c7,c8,c9,c10,c11,c12,c13,c14,c15,c16,c17,c18,c19,c20].drop 6).take (Tryz.prog.cellsOf 3))=some y6:=g6;rw [hcI]at h;exact h
 replace g7:DataW.trod enc Tryz.prog w base (fun _=>true) held m 4 [c7]=some y7:=by have h:DataW.trod enc Tryz.prog w base (fun _=>true) held m 4 (([c0,c1,c2,c3,c4,c5,c6,c7,c8,c9,c10,c11,c12,c13,c14,c15,c16,c17,c18,c19,c20].drop 7).take (Tryz.prog.cellsOf 4))=some y7:=g7;rw [hcB]at h;exact h
 replace g8:DataW.trod enc Tryz.prog w base (fun _=>true) held m 4 [c8]=some y8:=by have h:DataW.trod enc Tryz.prog w base (fun _=>true) held m 4 (([c0,c1,c2,c3,c4,c5,c6,c7,c8,c9,c10,c11,c12,c13,c14,c15,c16,c17,c18,c19,c20].drop 8).take (Tryz.prog.cellsOf 4))=some y8:=g8;rw [hcB]at h;exact h
 replace g9:DataW.trod enc Tryz.prog w base (fun _=>true) held m 4 [c9]=some y9:=by have h:DataW.trod enc Tryz.prog w base (fun _=>true) held m 4 (([c0,c1,c2,c3,c4,c5,c6,c7,c8,c9,c10,c11,c12,c13,c14,c15,c16,c17,c18,c19,c20].drop 9).take (Tryz.prog.cellsOf 4))=some y9:=g9;rw [hcB]at h;exact h
 replace g10:DataW.trod enc Tryz.prog w base (fun _=>true) held m 4 [c10]=some y10:=by have h:DataW.trod enc Tryz.prog w base (fun _=>true) held m 4 (([c0,c1,c2,c3,c4,c5,c6,c7,c8,c9,c10,c11,c12,c13,c14,c15,c16,c17,c18,c19,c20].drop 10).take (Tryz.prog.cellsOf 4))=some y10:=g10;rw [hcB]at h;exact h
 replace g11:DataW.trod enc Tryz.prog w base (fun _=>true) held m 3 [c11]=some y11:=by have h:DataW.trod enc Tryz.prog w base (fun _=>true) held m 3 (([c0,c1,c2,c3,c4,c5,c6,c7,c8,c9,c10,c11,c12,c13,c14,c15,c16,c17,c18,c19,c20].drop 11).take (Tryz.prog.cellsOf 3))=some y11:=g11;rw [hcI]at h;exact h
 replace g12:DataW.trod enc Tryz.prog w base (fun _=>true) held m 3 [c12]=some y12:=by have h:DataW.trod enc Tryz.prog w base (fun _=>true) held m 3 (([c0,c1,c2,c3,c4,c5,c6,c7,c8,c9,c10,c11,c12,c13,c14,c15,c16,c17,c18,c19,c20].drop 12).take (Tryz.prog.cellsOf 3))=some y12:=g12;rw [hcI]at h;exact h
 replace g13:DataW.trod enc Tryz.prog w base (fun _=>true) held m 3 [c13]=some y13:=by have h:DataW.trod enc Tryz.prog w base (fun _=>true) held m 3 (([c0,c1,c2,c3,c4,c5,c6,c7,c8,c9,c10,c11,c12,c13,c14,c15,c16,c17,c18,c19,c20].drop 13).take (Tryz.prog.cellsOf 3))=some y13:=g13;rw [hcI]at h;exact h
 replace g14:DataW.trod enc Tryz.prog w base (fun _=>true) held m 3 [c14]=some y14:=by have h:DataW.trod enc Tryz.prog w base (fun _=>true) held m 3 (([c0,c1,c2,c3,c4,c5,c6,c7,c8,c9,c10,c11,c12,c13,c14,c15,c16,c17,c18,c19,c20].drop 14).take (Tryz.prog.cellsOf 3))=some y14:=g14;rw [hcI]at h;exact h
 replace g15:DataW.trod enc Tryz.prog w base (fun _=>true) held m 3 [c15]=some y15:=by have h:DataW.trod enc Tryz.prog w base (fun _=>true) held m 3 (([c0,c1,c2,c3,c4,c5,c6,c7,c8,c9,c10,c11,c12,c13,c14,c15,c16,c17,c18,c19,c20].drop 15).take (Tryz.prog.cellsOf 3))=some y15:=g15;rw [hcI]at h;exact h
 replace g16:DataW.trod enc Tryz.prog w base (fun _=>true) held m 3 [c16]=some y16:=by have h:DataW.trod enc Tryz.prog w base (fun _=>true) held m 3 (([c0,c1,c2,c3,c4,c5,c6,c7,c8,c9,c10,c11,c12,c13,c14,c15,c16,c17,c18,c19,c20].drop 16).take (Tryz.prog.cellsOf 3))=some y16:=g16;rw [hcI]at h;exact h
 replace g17:DataW.trod enc Tryz.prog w base (fun _=>true) held m 3 [c17]=some y17:=by have h:DataW.trod enc Tryz.prog w base (fun _=>true) held m 3 (([c0,c1,c2,c3,c4,c5,c6,c7,c8,c9,c10,c11,c12,c13,c14,c15,c16,c17,c18,c19,c20].drop 17).take (Tryz.prog.cellsOf 3))=some y17:=g17;rw [hcI]at h;exact h
 replace g18:DataW.trod enc Tryz.prog w base (fun _=>true) held m 3 [c18]=some y18:=by have h:DataW.trod enc Tryz.prog w base (fun _=>true) held m 3 (([c0,c1,c2,c3,c4,c5,c6,c7,c8,c9,c10,c11,c12,c13,c14,c15,c16,c17,c18,c19,c20].drop 18).take (Tryz.prog.cellsOf 3))=some y18:=g18;rw [hcI]at h;exact h
 replace g19:DataW.trod enc Tryz.prog w base (fun _=>true) held m 3 [c19]=some y19:=by have h:DataW.trod enc Tryz.prog w base (fun _=>true) held m 3 (([c0,c1,c2,c3,c4,c5,c6,c7,c8,c9,c10,c11,c12,c13,c14,c15,c16,c17,c18,c19,c20].drop 19).take (Tryz.prog.cellsOf 3))=some y19:=g19;rw [hcI]at h;exact h
 replace g20:DataW.trod enc Tryz.prog w base (fun _=>true) held m 22 [c20]=some y20:=by have h:DataW.trod enc Tryz.prog w base (fun _=>true) held m 22 (([c0,c1,c2,c3,c4,c5,c6,c7,c8,c9,c10,c11,c12,c13,c14,c15,c16,c17,c18,c19,c20].drop 20).take (Tryz.prog.cellsOf 22))=some y20:=g20;rw [hcS]at h;exact h
 obtain⟨x,e0,_,s0⟩:=DataW.trod_int Tryz.underlying3 g0
 injection e0 with e0 _
 subst e0
 obtain⟨y,e1,_,s1⟩:=DataW.trod_int Tryz.underlying3 g1
 injection e1 with e1 _
 subst e1
 obtain⟨ox,e2,_,s2⟩:=DataW.trod_int Tryz.underlying3 g2
 injection e2 with e2 _
 subst e2
 obtain⟨oy,e3,_,s3⟩:=DataW.trod_int Tryz.underlying3 g3
 injection e3 with e3 _
 subst e3
 obtain⟨comps,e4,_,s4⟩:=DataW.trod_int Tryz.underlying3 g4
 injection e4 with e4 _
 subst e4
 obtain⟨depth,e5,_,s5⟩:=DataW.trod_int Tryz.underlying3 g5
 injection e5 with e5 _
 subst e5
 obtain⟨sub,e6,_,s6⟩:=DataW.trod_int Tryz.underlying3 g6
 injection e6 with e6 _
 subst e6
 obtain⟨sg,e7,_⟩:=DataW.trod_bool Tryz.underlying4 g7
 injection e7 with e7 _
 subst e7
 obtain⟨rct,e8,_⟩:=DataW.trod_bool Tryz.underlying4 g8
 injection e8 with e8 _
 subst e8
 obtain⟨sop,e9,_⟩:=DataW.trod_bool Tryz.underlying4 g9
 injection e9 with e9 _
 subst e9
 obtain⟨eph,e10,_⟩:=DataW.trod_bool Tryz.underlying4 g10
 injection e10 with e10 _
 subst e10
 obtain⟨tx,e11,_,s11⟩:=DataW.trod_int Tryz.underlying3 g11
 injection e11 with e11 _
 subst e11
 obtain⟨ty,e12,_,s12⟩:=DataW.trod_int Tryz.underlying3 g12
 injection e12 with e12 _
 subst e12
 obtain⟨lev,e13,_,s13⟩:=DataW.trod_int Tryz.underlying3 g13
 injection e13 with e13 _
 subst e13
 obtain⟨cbw,e14,_,s14⟩:=DataW.trod_int Tryz.underlying3 g14
 injection e14 with e14 _
 subst e14
 obtain⟨cbh,e15,_,s15⟩:=DataW.trod_int Tryz.underlying3 g15
 injection e15 with e15 _
 subst e15
 obtain⟨prec,e16,_,s16⟩:=DataW.trod_int Tryz.underlying3 g16
 injection e16 with e16 _
 subst e16
 obtain⟨style,e17,_,s17⟩:=DataW.trod_int Tryz.underlying3 g17
 injection e17 with e17 _
 subst e17
 obtain⟨order,e18,_,s18⟩:=DataW.trod_int Tryz.underlying3 g18
 injection e18 with e18 _
 subst e18
 obtain⟨lay,e19,_,s19⟩:=DataW.trod_int Tryz.underlying3 g19
 injection e19 with e19 _
 subst e19
 rcases open_ints Tryz.underlying22 Tryz.underlying3 hcI g20 with⟨e20,_⟩|⟨x20,k20,c20',zs,e20,_,hlc,hm,hz,_,hcell,_⟩
 · injection e20 with e20 _
   subst e20
   exact⟨⟨x,y,ox,oy,comps,depth,sub,sg,rct,sop,eph,tx,ty,lev,cbw,cbh,prec,style,order,lay,none,0,0⟩,rfl,{
    x:=wf_r64 s0
    y:=wf_r64 s1
    ox:=wf_r64 s2
    oy:=wf_r64 s3
    comps:=wf_r64 s4
    depth:=wf_r64 s5
    sub:=wf_r64 s6
    tx:=wf_r64 s11
    ty:=wf_r64 s12
    lev:=wf_r64 s13
    cbw:=wf_r64 s14
    cbh:=wf_r64 s15
    prec:=wf_r64 s16
    style:=wf_r64 s17
    order:=wf_r64 s18
    lay:=wf_r64 s19
    zs:=⟨[],Rd.nil _⟩
    nb:=Nat.zero_le _ }⟩
 · injection e20 with e20 _
   subst e20
   simp only [if_true]at hz
   exact⟨⟨x,y,ox,oy,comps,depth,sub,sg,rct,sop,eph,tx,ty,lev,cbw,cbh,prec,style,order,lay,some x20,k20,c20'⟩,rfl,{
    x:=wf_r64 s0
    y:=wf_r64 s1
    ox:=wf_r64 s2
    oy:=wf_r64 s3
    comps:=wf_r64 s4
    depth:=wf_r64 s5
    sub:=wf_r64 s6
    tx:=wf_r64 s11
    ty:=wf_r64 s12
    lev:=wf_r64 s13
    cbw:=wf_r64 s14
    cbh:=wf_r64 s15
    prec:=wf_r64 s16
    style:=wf_r64 s17
    order:=wf_r64 s18
    lay:=wf_r64 s19
    zs:=⟨zs.take k20,by simp;omega,fun hn=>⟨x20,rfl,fun j u hu=>by
     rw [List.getElem?_map,List.getElem?_take]at hu
     have hj:j<k20:=by
      rcases Nat.lt_or_ge j k20 with h|h
      · exact h
      · rw [if_neg (by omega)]at hu;cases hu
     rw [if_pos hj]at hu
     have hjl:j<zs.length:=by omega
     rw [hcell j hjl]
     simp [hjl]at hu
     subst hu
     simp [hjl]⟩⟩
    nb:=by simp only [maxLen]at hm;show k20≤_;omega }⟩
end Go.Proofs.YthfogcgdijmaoaaGreat
namespace Go.Proofs.YthfogcgdijmaoaaGreat
open Go.RowKit
theorem grammarSegments_walk (f:Fm) (x y:Int) (w:World) (hf:FmOk w f) (hx:(Lit.int .i64 x).wf=true) (hy:(Lit.int .i64 y).wf=true):
 Calls Tryz.prog 6 #[.agg f.cells,.int .i64 x,.int .i64 y] w fun e w'=>e=.returned (.bool true)∧Below w.heap.size w w':=by
 obtain⟨hx0,hx1⟩:=wf_i64 hx
 obtain⟨hy0,hy1⟩:=wf_i64 hy
 clear hx hy
 go_enter Tryz.func6,Tryz.ntmps6
 go_wp2_with fail
 refine(known_any _).mono ?_
 rintro e w1 ⟨rfl,hk1⟩
 have HK1:=hid (((Keep.refl (fun _=>False) w).alloc (.cells f.cells 24)).trans hk1 (fun _ _ h=>h))
 have HB1:=hid ((Blk.new w 24 f.cells).keep hk1 id)
 have HF1:=hid (hf.keepF HK1.out)
 clear hk1
 go_wp2_with (refine wpList_load_row rfl _ _ rfl _ rfl _ _ _ _ HB1.out Tryz.underlying24 rfl (by kernel_rfl) ?_)
 refine(make_law w1 f 6 (by omega) (by omega) HF1.out).mono ?_
 rintro e w2 ⟨m,p,nx,ny,rfl,hk2,hm,hn,hE⟩
 have HK2:=hid (HK1.out.trans hk2 (fun _ _ h=>h))
 have HM:=hid hm
 have HN:=hid hn
 have HE:=hid hE
 have HI0:=hid ((Blk.new w2 29 #[.int .i64 0,.int .i64 0,.int .i64 0,.int .i64 0,.slice none 0 0]).alloc (.cells #[.int .i64 0,.int .i64 0,.int .i64 0,.int .i64 0,.int .i64 0,.int .i64 0,.int .i64 0,.int .i64 0,.int .i64 0,.bool false,.bool false,.bool false] 31))
 have HP0:=hid (Blk.new1 w2 (.cells #[.int .i64 0,.int .i64 0,.int .i64 0,.int .i64 0,.slice none 0 0] 29) 31 #[.int .i64 0,.int .i64 0,.int .i64 0,.int .i64 0,.int .i64 0,.int .i64 0,.int .i64 0,.int .i64 0,.int .i64 0,.bool false,.bool false,.bool false])
 clear hk2 hm hn hE HK1 HB1 HF1
 go_wp2_with (refine wpList_store_in (t:=29) (cs:=#[.int .i64 0,.int .i64 0,.int .i64 0,.int .i64 0,.slice none 0 0]) (g:=w2.heap.size) ?_ rfl 29 (.tmp 7) (.tmp 21) rfl 0 m.cells rfl rfl ?_ ?_ ?_ ?_)
 · exact HI0.out
 · show 0+5≤5;omega
 · kernel_rfl
 · simp [Value.oneCell',Im.cells]
 intro w3 hb3 hk3
 have HI3:=hid (show Blk w3 w2.heap.size 29 m.cells from blk_all hb3 rfl)
 have HP3:=hid (HP0.out.keep hk3 (show¬(w2.heap.size+1=w2.heap.size) by omega))
 have HK3:=hid ((((Keep.refl (fun _=>False) w2).alloc _).alloc _).new hk3 (fun j e=>by rw [show j=_ from e];exact Nat.le_refl _))
 clear hb3 hk3 HI0 HP0
 try simp only [NS]
 go_wp2_with (refine wpList_store_in (t:=31) (cs:=#[.int .i64 0,.int .i64 0,.int .i64 0,.int .i64 0,.int .i64 0,.int .i64 0,.int .i64 0,.int .i64 0,.int .i64 0,.bool false,.bool false,.bool false]) (g:=w2.heap.size+1) ?_ rfl 31 (.tmp 8) (.tmp 22) rfl 0 p.cells rfl rfl ?_ ?_ ?_ ?_)
 · exact HP3.out
 · show 0+12≤12;omega
 · kernel_rfl
 · simp [Value.oneCell',Pm.cells]
 intro w4 hb4 hk4
 have HP4:=hid (show Blk w4 (w2.heap.size+1) 31 p.cells from blk_all hb4 rfl)
 have HI4:=hid (HI3.out.keep hk4 (show¬(w2.heap.size=w2.heap.size+1) by omega))
 have HK4:=hid (HK3.out.new hk4 (fun j e=>by rw [show j=_ from e];omega))
 clear hb4 hk4 HI3 HP3 HK3
 try simp only [NS]
 go_wp2_with (first|(refine wpList_load_row rfl _ _ rfl _ rfl _ _ _ _ HI4.out Tryz.underlying29 rfl (by kernel_rfl) ?_)|(refine wpList_load_row rfl _ _ rfl _ rfl _ _ _ _ HP4.out Tryz.underlying31 rfl (by kernel_rfl) ?_))
 refine(HE.out w4 none 0 0 [] HK4.out (Rd.nil _) (fun _ h=>by cases h) (by omega)).mono ?_
 rintro e w5 ⟨B,k,cB,zs,mA,mB,mD,mP,mQ,tl,rfl,hk5,ho5,hb5,hn5,htl,hw5⟩
 have HK5:=hid ((HK2.out.trans HK4.out (fun _ _ h=>h)).trans hk5 (fun _ _ h=>h))
 have HI5:=hid (HI4.out.keep hk5 id)
 have HP5:=hid (HP4.out.keep hk5 id)
 have HO5:=hid ho5
 have HB5:=hid hb5
 have HW5:=hid hw5
 have HTL:=hid htl
 have hk2l:=walkM_len hw5
 have hzl:zs.length=k:=by have:=(Rd.of_own ho5).len;exact this
 obtain⟨gB,hB,_,_,_,_⟩:=own_at ho5 (by omega)
 subst hB
 obtain⟨_,hlt5,hcap5,hmax5⟩:=own_facts ho5
 have HLT5:=hid hlt5
 clear hk5 ho5 hb5 hw5 htl HE HI4 HP4 HK4 hlt5
 have hnt:0<tl.length:=by rw [HTL.out];exact HN.out.2.2.2.2.1
 go_wp2_with fail
 refine(within_any w5 x 256 hx0 hx1 (by omega) (by omega)).mono ?_
 rintro e w6 ⟨rfl,rfl⟩
 obtain⟨mk,hmk,hm256⟩: ∃j:Nat,x%256=j∧j<256:=⟨(x%256).toNat,by omega,by omega⟩
 rw [hmk]
 go_wp2_with fail
 refine(within_any w5 y 60 hy0 hy1 (by omega) (by omega)).mono ?_
 rintro e w6 ⟨rfl,rfl⟩
 obtain⟨n,hn,hn60⟩: ∃j:Nat,y%60=j∧j<60:=⟨(y%60).toNat,by omega,by omega⟩
 rw [hn]
 clear hmk hn
 have hw1:IntKind.u8.wrap (mk:Int)=(mk:Int):=by show(mk:Int)%256=_;omega
 have hw2:IntKind.i64.wrap ((n:Int)+2)=(n:Int)+2:=IntWalk.i64_in _ (by omega)
 have hw3:IntKind.u8.wrap ((n:Int)+2)=(n:Int)+2:=by show((n:Int)+2)%256=_;omega
 go_wp2_with (
  at_builtin
  go_must (refine wpList_zeros rfl (.tmp 38) (.tmp 39) rfl (w0:=w5) (Keep.refl _ _) 255 mk 0 ((n:Int)+2) n hn60 rfl rfl ?_))
 intro A6 c6 w6 hoS0 hkS
 have hoS:w6.ownsRow w5.heap.size 5 1 (.slice A6 (4+n) c6) (4+n) (([255,(mk:Int),0,(n:Int)+2]++List.replicate n 0).map (Value.int .u8)):=by simpa using hoS0
 clear hoS0
 try simp only [NS]
 obtain⟨gS,hS,z1,z2,z3,z4⟩:=own_at hoS (by omega)
 subst hS
 clear z1 z2 z3 z4
 obtain⟨hrS,_,hcS,hmS⟩:=own_facts hoS
 have hrs:Rd w6 (some ⟨gS,0,none⟩) (segS mk n).length ((segS mk n).map (Value.int .u8)):=by
  unfold segS
  by_cases hr:48≤mk∧mk≤63
  · rw [if_pos hr]
    have h2:=hrS.take (k:=2) (by omega)
    rw [← List.map_take]at h2
    exact h2
  · rw [if_neg hr]
    have hl:([255,(mk:Int),0,(n:Int)+2]++List.replicate n 0).length=4+n:=by simp;omega
    rw [hl]
    exact hrS
 obtain⟨q,hq⟩: ∃q,4+n=q:=⟨_,rfl⟩
 rw [hq]at hcS
 rw [hq]
 have hq64:4≤q∧q<64:=by omega
 have hl2:(segS mk n).length=if 48≤mk∧mk≤63 then 2 else q:=by
  unfold segS
  split
  · rfl
  · simp;omega
 have HRS:=hid hrs
 have HK6:=hid (HK5.out.trans hkS (fun _ _ h=>h))
 have HR6:=hid ((Rd.of_own HO5.out).keep hkS (fun _ _ h=>h))
 have hc64:(2:Int)≤c6:=by omega
 clear hoS hkS hrS hrs HK5 HO5 HLT5
 have HL2:=hid hl2
 clear hl2 hq hw1 hw2 hw3
 have hk2:(2:Int)≤k:=by omega
 have hcb2:(2:Int)≤cB:=by omega
 have hkc:(k:Int)≤cB:=by omega
 have HT2:=hid (walkM_two HW5.out (65361,2) (by simp [hmarks])).1
 have hk4:4≤k:=by have:=two_none (zs:=zs) (p:=2) (by rw [HT2.out];omega);omega
 have hne2: ¬cB=2:=by omega
 go_upto_region 7 with fail
 go_cut [46] (fun v wx=> ∃b:Bool,v=.bool b∧(b=true↔48≤mk∧mk≤63)∧wx=w6)
 case first=>
  by_cases hr1:48≤mk
  · have hd1:decide ((48:Int)≤mk)=true:=by simp;omega
    by_cases hr2:mk≤63
    · have hd2:decide ((mk:Int)≤63)=true:=by simp;omega
      go_wp2_with fail
      go_meet
      exact⟨true,rfl,by simp;omega,rfl⟩
    · have hd2:decide ((mk:Int)≤63)=false:=by simp;omega
      go_wp2_with fail
      go_meet
      exact⟨false,rfl,by simp;omega,rfl⟩
  · have hd1:decide ((48:Int)≤mk)=false:=by simp;omega
    go_wp2_with fail
    go_meet
    exact⟨false,rfl,by simp;omega,rfl⟩
 case rest=>
  obtain⟨b,rfl,hbb,hw⟩:=hcut
  obtain rfl:w6=wc:=hw.symm
  have HBB:=hid hbb
  clear hw hbb
  go_upto_if 46 with fail
  go_cut [11] (fun v wx=> ∃ls:Nat,v=.slice (some ⟨gS,0,none⟩) ls c6∧(segS mk n).length=ls∧ls<64∧wx=w6)
  case first=>
   cases b with
   |true=>
    go_wp2_with fail
    go_meet
    exact⟨2,rfl,by rw [HL2.out,if_pos (by first|exact HBB.out.1 rfl|exact HBB.out.1 trivial)],by omega,rfl⟩
   |false=>
    go_wp2_with fail
    go_meet
    exact⟨q,rfl,by rw [HL2.out,if_neg (fun h=>by have:=HBB.out.2 h;cases this)],by omega,rfl⟩
  case rest=>
   obtain⟨ls,rfl,hls,hls64,hw⟩:=hcut
   obtain rfl:w6=wc:=hw.symm
   clear hw HBB
   rw [hls]at HRS
   have HLS:=hid hls
   clear hls HL2
   go_upto_region 9 with fail
   refine At.start (L:=#[false,false,false,false,false,false,false,false,false,false]) (by kernel_rfl) rfl ?_
   refine AtP 1 (some 50) ?_
   try simp only [NS]
   refine AtP 2 (some 51) ?_
   try simp only [NS]
   refine AtP 4 (some 53) ?_
   try simp only [NS]
   refine AtP 6 (some 55) ?_
   try simp only [NS]
   refine AtP 7 (some 56) ?_
   try simp only [NS]
   refine AtC 0 fun K hK=>?_
   go_simp
   skip
   refine hK _ _ all_nil ?_
   clear hK K
   try simp only [NS]
   refine AtC 3 fun K hK=>?_
   refine wp_app (.tmp 49) (.tmp 51) rfl (w0:=w6) (own_none w6 w6.drew ((Keep.refl _ w6).drew)) (((Keep.refl _ w6).drew).alloc _) rfl (X:=some ⟨gB,0,none⟩) (m:=2) (d:=cB) (xs:=zs.take 2) (by rw [List.map_take];exact(HR6.out.take (by omega)).keep (((Keep.refl (fun _=>False) w6).drew).alloc _) (fun _ _ h=>h)) rfl (by omega) ?_
   intro A7 c7 w7 ho7 hk7
   refine hK _ _ all_nil ?_
   clear hK K
   try simp only [NS]
   refine AtC 5 fun K hK=>?_
   refine wp_app (.tmp 52) (.tmp 53) rfl (w0:=w6) ho7 hk7 rfl (HRS.out.keep hk7 (fun _ _ h=>h)) rfl (by omega) ?_
   intro A8 c8 w8 ho8 hk8
   refine hK _ _ all_nil ?_
   clear hK K
   try simp only [NS]
   refine AtC 8 fun K hK=>?_
   refine wp_app (.tmp 54) (.tmp 56) rfl (w0:=w6) ho8 hk8 rfl (X:=some ⟨gB,2,none⟩) (m:=k-2) (d:=cB-2) (xs:=zs.drop 2) (by have h:=HR6.out.drop (k:=2) (cap:=cB) (by omega) (by omega);rw [if_neg hne2,←List.map_drop]at h;exact h.keep hk8 (fun _ _ h=>h)) rfl (by omega) ?_
   intro A9 c9 w9 ho9 hk9
   have HO9:=hid (show w9.ownsRow w6.heap.size 5 1 (.slice A9 (0+2+ls+(k-2)) c9) (0+2+ls+(k-2)) ((insS zs mk n).map (Value.int .u8))from ho9)
   have HK9:=hid (HK6.out.trans hk9 (fun _ _ h=>h))
   clear ho7 hk7 ho8 hk8 ho9 hk9
   refine hK _ _ all_nil ?_
   clear hK K
   try simp only [NS]
   refine AtP 9 (some 12) ?_
   try simp only [NS]
   refine At.done (by kernel_rfl) ?_
   obtain⟨N,hN⟩: ∃N,0+2+ls+(k-2)=N:=⟨_,rfl⟩
   rw [hN]at HO9
   have hNb:N≤60000000000:=by omega
   have HBI:=hid (show Bytes (insS zs mk n)from fun z hz=>by
    unfold insS at hz
    rcases List.mem_append.1 hz with h|h
    · rcases List.mem_append.1 h with h|h
      · exact HB5.out z (List.mem_of_mem_take h)
      · unfold segS at h
        split at h
        · simp at h;omega
        · simp at h;omega
    · exact HB5.out z (List.mem_of_mem_drop h))
   have HNS:=hid hN
   clear hN
   as_aux_lemma=>
    go_wp2_with fail
    obtain⟨hr9,hlt9,hcap9,hmax9⟩:=own_facts HO9.out
    rw [show 2+ls+(k-2)=N from by have:=HNS.out;omega]
    refine(walk_any w9 A9 N c9 (insS zs mk n) hr9 hlt9 HBI.out hcap9 hmax9 (by omega)).mono ?_
    rintro e w10 ⟨hk10,hp10⟩
    have hins:=ins_marks (zs:=zs) (l:=(65362,2+(4+mA))::(65372,2+(4+mA)+(4+mB))::(tmarks mP tl++[(65497,mQ)])) (by rw [HW5.out];simp [hmarks]) (by rw [HT2.out];omega) mk n hm256 hn60
    have HKZ:=hid (HK9.out.trans hk10 (fun _ _ h=>h))
    by_cases hbad:mk=79∨mk=147∨mk=217∨mk=144
    · rw [hins,if_pos hbad]at hp10
      obtain rfl:e=.returned (.tuple #[.slice none 0 0,.slice none 0 0,.int .i64 10]):=hp10
      clear hr9 hlt9 hins hk10 HO9 HBI
      rcases hbad with h|h|h|h
      · have b1:((mk:Int)==79)=true:=by simp;omega
        go_wp2_with fail
        go_ret
        exact⟨rfl,HKZ.out.below (Nat.le_refl _) (fun _ h=>h.elim)⟩
      · have b1:((mk:Int)==79)=false:=by simp;omega
        have b2:((mk:Int)==147)=true:=by simp;omega
        go_wp2_with fail
        go_ret
        exact⟨rfl,HKZ.out.below (Nat.le_refl _) (fun _ h=>h.elim)⟩
      · have b1:((mk:Int)==79)=false:=by simp;omega
        have b2:((mk:Int)==147)=false:=by simp;omega
        have b3:((mk:Int)==217)=true:=by simp;omega
        go_wp2_with fail
        go_ret
        exact⟨rfl,HKZ.out.below (Nat.le_refl _) (fun _ h=>h.elim)⟩
      · have b1:((mk:Int)==79)=false:=by simp;omega
        have b2:((mk:Int)==147)=false:=by simp;omega
        have b3:((mk:Int)==217)=false:=by simp;omega
        have b4:((mk:Int)==144)=true:=by simp;omega
        go_wp2_with fail
        go_ret
        exact⟨rfl,HKZ.out.below (Nat.le_refl _) (fun _ h=>h.elim)⟩
    · have b1:((mk:Int)==79)=false:=by simp;omega
      have b2:((mk:Int)==147)=false:=by simp;omega
      have b3:((mk:Int)==217)=false:=by simp;omega
      have b4:((mk:Int)==144)=false:=by simp;omega
      rw [hins,if_neg hbad,HLS.out]at hp10
      generalize hZ:((65359,0)::(65280+(mk:Int),2)::shiftL ls ((65361,2)::(65362,2+(4+mA))::(65372,2+(4+mA)+(4+mB))::(tmarks mP tl++[(65497,mQ)])):List (Int×Nat))=Z at hp10
      obtain⟨M,cm,T,ct,rfl,hoM,hoT⟩:=hp10
      have hL:4<Z.length:=by rw [← hZ];simp [shiftL]
      obtain⟨gM,hM,z1,z2,m1,z3⟩:=own_at hoM (by omega)
      obtain⟨gT,hT,z4,z5,t1,z6⟩:=own_at hoT (by omega)
      subst hM hT
      have q1:w10.cell? ⟨gM,1,none⟩=some (.int .i64 (65280+mk)):=m1 1 _ (by rw [← hZ];rfl)
      have q2:w10.cell? ⟨gT,1,none⟩=some (.int .i64 2):=t1 1 _ (by rw [← hZ];rfl)
      have q3:w10.cell? ⟨gT,2,none⟩=some (.int .i64 (2+ls)):=t1 2 _ (by rw [← hZ];show some (Value.int .i64 ((2+ls:Nat):Int))=_;push_cast;rfl)
      clear m1 t1 hoM hoT hr9 hlt9 hins hk10 HO9 HBI z1 z2 z3 z4 z5 z6
      generalize Z.length=L at*
      clear hZ
      have hL3:decide ((3:Int)<L)=true:=by simp;omega
      have hL1:1<L:=by omega
      have hL2:2<L:=by omega
      have hi1:(1:Int)<L:=by omega
      have hi2:(2:Int)<L:=by omega
      have hwm:IntKind.i64.wrap (65280+(mk:Int))=65280+(mk:Int):=IntWalk.i64_in _ (by omega)
      have hwl:IntKind.i64.wrap (2+(ls:Int))=2+(ls:Int):=IntWalk.i64_in _ (by omega)
      go_wp2_with fail
      go_ret
      exact⟨ret_bool (by simp),HKZ.out.below (Nat.le_refl _) (fun _ h=>h.elim)⟩
end Go.Proofs.YthfogcgdijmaoaaGreat
