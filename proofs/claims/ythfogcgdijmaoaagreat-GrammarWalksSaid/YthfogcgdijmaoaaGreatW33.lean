/-
  Part 33 of the proof: Make. Conditions: those of the statements.
-/
import Derived.Test.YthfogcgdijmaoaaGreatW2
import Derived.Test.YthfogcgdijmaoaaGreatW14
import Derived.Test.YthfogcgdijmaoaaGreatW28
import Derived.Deep.DeepCutAuto
import Derived.Deep.QuietTactic
import Derived.BigQuiet
set_option maxRecDepth 100000
set_option maxHeartbeats 16000000
set_option linter.unusedVariables false
set_option linter.unusedSimpArgs false
namespace Go.Proofs.YthfogcgdijmaoaaGreat
open Go.RowKit
def MakeP (w:World) (e:Ending) (w':World):Prop:= ∃(m:Im) (p:Pm) (cs:List Cm) (nx ny:Nat),e=.returned (.tuple #[.agg m.cells,.agg p.cells])∧Pict w' m p cs nx ny∧nx*ny≤6∧Keep (fun _=>False) w w'
theorem mk_raw (i n:Nat) (h0:0<n) (hi:i≤4611686018427387904) (hn:n≤9223372036854775807): ∃j d e:Nat,j<n∧(i:Int).tmod (n:Int)=(j:Int)∧(i:Int).tdiv (n:Int)=(d:Int)∧wrap64 (j:Int)=j∧IntKind.i64.wrap (j:Int)=j∧wrap64 (d:Int)=d∧IntKind.i64.wrap (d:Int)=d∧IntKind.i64.wrap (1+(d:Int))=1+(d:Int)∧((n:Int)==0)=false∧(1+(d:Int)==0)=false∧(j:Int)<(n:Int)∧(i:Int).tdiv 7=(e:Int)∧(i:Int)/7=(e:Int)∧wrap64 (e:Int)=e∧IntKind.i64.wrap (e:Int)=e:=by
 have hj:i%n<n:=Nat.mod_lt _ h0
 have hd:i/n≤i:=Nat.div_le_self _ _
 have he:i/7≤i:=Nat.div_le_self _ _
 obtain⟨j,hjj⟩: ∃j,i%n=j:=⟨_,rfl⟩
 obtain⟨d,hdd⟩: ∃d,i/n=d:=⟨_,rfl⟩
 obtain⟨e,hee⟩: ∃e,i/7=e:=⟨_,rfl⟩
 have t1:(i:Int).tmod (n:Int)=(j:Int):=by rw [Int.tmod_eq_emod_of_nonneg (by omega),←hjj];exact(Int.natCast_emod i n).symm
 have t2:(i:Int).tdiv (n:Int)=(d:Int):=by rw [Int.tdiv_eq_ediv_of_nonneg (by omega),←hdd];exact(Int.natCast_ediv i n).symm
 have t3:(i:Int).tdiv 7=(e:Int):=by rw [Int.tdiv_eq_ediv_of_nonneg (by omega),←hee];exact(Int.natCast_ediv i 7).symm
 have t4:(i:Int)/7=(e:Int):=by rw [← hee];exact(Int.natCast_ediv i 7).symm
 rw [hjj]at hj
 rw [hdd]at hd
 rw [hee]at he
 clear hjj hdd hee
 have b1:(j:Int)<n:=by omega
 have b2:(d:Int)≤i:=by omega
 have b3:(e:Int)≤i:=by omega
 exact⟨j,d,e,hj,t1,t2,IntWalk.wrap64_in _ (by omega),IntWalk.i64_in _ (by omega),IntWalk.wrap64_in _ (by omega),IntWalk.i64_in _ (by omega),IntWalk.i64_in _ (by omega),by simp;omega,by simp;omega,b1,t3,t4,IntWalk.wrap64_in _ (by omega),IntWalk.i64_in _ (by omega)⟩
theorem mk_q (y:Int) (d e:Nat): ∃q z:Int,IntKind.i64.wrap (y.tdiv (1+(d:Int)))=q∧wrap64 (y.tdiv (1+(d:Int)))=q∧IntKind.i64.wrap (q+(e:Int))=z∧wrap64 (q+(e:Int))=z∧R64 z:=
 have h: ∀x:Int,wrap64 x=IntKind.i64.wrap x:=fun x=>by rw [IntKind.wrap_i64];unfold wrap64;first|rfl|omega
 ⟨_,_,rfl,h _,rfl,h _,r64_wrap _⟩
theorem built_pm (lev cbw cbh prec style order lay:Nat) (sop eph:Bool):Tryz.prog.built 31 [(2,.int .i64 lev),(3,.int .i64 cbw),(4,.int .i64 cbh),(5,.int .i64 prec),(6,.int .i64 style),(7,.int .i64 order),(8,.int .i64 lay),(10,.bool sop),(11,.bool eph)]=some #[.int .i64 0,.int .i64 0,.int .i64 lev,.int .i64 cbw,.int .i64 cbh,.int .i64 prec,.int .i64 style,.int .i64 order,.int .i64 lay,.bool false,.bool sop,.bool eph]:=by kernel_rfl
theorem make_any (w:World) (f:Fm) (side:Nat) (hs1:1≤side) (hs12:side≤12) (hf:FmOk w f):
 Calls Tryz.prog 8 #[.agg f.cells,.int .i64 side] w (MakeP w):=by
 obtain⟨i1,hi1,hj0,hj1,hj2⟩:=info_parts info_int
 obtain⟨i2,hi2,ey0,ey1,ey2⟩:=info_parts info_comp
 have HF:=hid hf
 have HFC:=hid (show f.cells=#[.int .i64 f.x,.int .i64 f.y,.int .i64 f.ox,.int .i64 f.oy,.int .i64 f.comps,.int .i64 f.depth,.int .i64 f.sub,.bool f.sg,.bool f.rct,.bool f.sop,.bool f.eph,.int .i64 f.tx,.int .i64 f.ty,.int .i64 f.lev,.int .i64 f.cbw,.int .i64 f.cbh,.int .i64 f.prec,.int .i64 f.style,.int .i64 f.order,.int .i64 f.lay,.slice f.A f.n f.c]from rfl)
 have W6:=hid (fun (w:World) (x:Int) (hx:R64 x) (n:Int) (h1:0<n) (h2:n≤64)=>within12_any w x n hx.1 hx.2 h1 (by omega))
 have ka:Keep (fun _=>False) w (w.alloc (.cells f.cells 24)):=(Keep.refl _ w).alloc _
 have kb:Keep (fun _=>False) (w.alloc (.cells f.cells 24)) (((w.alloc (.cells f.cells 24)).alloc (.cells zIm 29)).alloc (.cells zPm 31)):=((Keep.refl _ _).alloc _).alloc _
 have q1:=(Wk.start w 52).callRo ka
 have q2:=q1.1.callF kb
 have HW:=hid q2.1
 have HBF:=hid (((Wk.start w 52).roB (w':=w.alloc (.cells f.cells 24)) (Blk.new w 24 f.cells) (Nat.le_refl _)).nx q2.2)
 have HR1:=hid (((Blk.new1 w (.cells f.cells 24) 29 zIm).alloc (.cells zPm 31)))
 have HR2:=hid (Blk.new2 w (.cells f.cells 24) (.cells zIm 29) 31 zPm)
 have HG:=hid (show roF (fun _=>none) w.heap.size (w.alloc (.cells f.cells 24)).heap.size (w.heap.size+1)=none∧roF (fun _=>none) w.heap.size (w.alloc (.cells f.cells 24)).heap.size (w.heap.size+2)=none from
  ⟨roF_out rfl (.inr (by rw [World.size_alloc];omega)),roF_out rfl (.inr (by rw [World.size_alloc];omega))⟩)
 have HSZ:=hid (show w.heap.size+2<(((w.alloc (.cells f.cells 24)).alloc (.cells zIm 29)).alloc (.cells zPm 31)).heap.size from by simp only [World.size_alloc];omega)
 generalize roF (fun _=>none) w.heap.size (w.alloc (.cells f.cells 24)).heap.size=G1 at*
 clear hf ka kb q1 q2
 unfold zIm zPm at HW HBF HR1 HR2 HSZ
 go_enter Tryz.func8,Tryz.ntmps8
 go_upto_region 1 with fail
 generalize ((w.alloc (.cells f.cells 24)).alloc (.cells #[.int .i64 0,.int .i64 0,.int .i64 0,.int .i64 0,.slice none 0 0] 29)).alloc (.cells #[.int .i64 0,.int .i64 0,.int .i64 0,.int .i64 0,.int .i64 0,.int .i64 0,.int .i64 0,.int .i64 0,.int .i64 0,.bool false,.bool false,.bool false] 31)=w1 at*
 obtain⟨s,hs⟩: ∃s,w.heap.size=s:=⟨_,rfl⟩
 rw [hs]at HBF HR1 HR2 HG HSZ ⊢
 have HSS:=hid hs
 clear hs
 obtain⟨ox,hox⟩: ∃ox,f.ox%6=ox:=⟨_,rfl⟩
 obtain⟨oy,hoy⟩: ∃oy,f.oy%6=oy:=⟨_,rfl⟩
 have lox:=mod_lim f.ox (n:=6) (by omega)
 have loy:=mod_lim f.oy (n:=6) (by omega)
 rw [hox]at lox
 rw [hoy]at loy
 have HOX:=hid hox
 have HOY:=hid hoy
 clear hox hoy
 go_cut [6] (fun v wx=> ∃g:Nat,v=.pointer (some ⟨g,0,none⟩)∧Hid (w1.heap.size≤g)∧Hid (Blk wx g 29 #[.int .i64 0,.int .i64 0,.int .i64 ox,.int .i64 oy,.slice none 0 0])∧Hid (Keep (fun _=>False) w1 wx))
 case first=>
  as_aux_lemma=>
   have d2:w1.drew.cell? ⟨s,2,none⟩=some (.int .i64 f.ox):=by have h:=HBF.out.1.cell 2;rw [HFC.out]at h;exact h
   have d3:w1.drew.cell? ⟨s,3,none⟩=some (.int .i64 f.oy):=by have h:=HBF.out.1.cell 3;rw [HFC.out]at h;exact h
   refine At.start (L:=#[false,false,false,false,false,false,false,false,false]) (by kernel_rfl) rfl ?_
   refine AtP 0 17 ?_
   refine AtL 1 18 Tryz.underlying3 ?_
   refine AtP 3 20 ?_
   refine AtL 4 21 Tryz.underlying3 ?_
   refine At.two_all 2 7 rfl rfl (by kernel_rfl) rfl rfl (fun K hK=>?_) (fun K hK=>?_)
   · skip
     go_simp
     refine(W6.out _ f.ox HF.out.ox 6 (by omega) (by omega)).mono ?_
     rintro e w5 ⟨rfl,rfl⟩
     rw [HOX.out]
     refine hK _ _ (by repeat' first|exact all_nil|refine all_cons (by first|assumption|exact((Keep.refl (fun _=>False) _).alloc _).cell (by assumption) (fun h=>h)) ?_) ?_
     clear hK K
     try simp only [NS]
     refine At.two_all 5 7 rfl rfl (by kernel_rfl) rfl rfl (fun K hK=>?_) (fun K hK=>?_)
     · skip
       go_simp
       refine(W6.out _ f.oy HF.out.oy 6 (by omega) (by omega)).mono ?_
       rintro e w5 ⟨rfl,rfl⟩
       rw [HOY.out]
       refine hK _ _ (by repeat' first|exact all_nil|refine all_cons (by first|assumption|exact((Keep.refl (fun _=>False) _).alloc _).cell (by assumption) (fun h=>h)) ?_) ?_
       clear hK K
       try simp only [NS]
       refine AtP 6 23 ?_
       refine At.call_all 7 rfl (by kernel_rfl) rfl (fun K hK=>?_)
       go_simp
       skip
       refine hK _ _ (by repeat' first|exact all_nil|refine all_cons (by first|assumption|exact((Keep.refl (fun _=>False) _).alloc _).cell (by assumption) (fun h=>h)) ?_) ?_
       clear hK K
       try simp only [NS]
       refine AtC 8 fun K hK=>?_
       refine wp_store_in (Blk.new w1.drew _ _) 29 _ _ rfl 0 #[.int .i64 0,.int .i64 0,.int .i64 ox,.int .i64 oy,.slice none 0 0] rfl rfl (by show 0+5≤5;omega) (by kernel_rfl) (by simp [Value.oneCell']) ?_
       intro w7 hb7 hk7
       have HZ1:=hid (blk_all hb7 rfl)
       have HZ2:=hid ((((Keep.refl (fun _=>False) w1).drew).alloc _).new hk7 (fun j e=>by rw [show j=_ from e];exact Nat.le_refl _))
       clear hb7 hk7
       refine hK _ _ all_nil ?_
       clear hK K
       try simp only [NS]
       refine At.done (by kernel_rfl) ?_
       go_wp2_with fail
       go_meet
       exact⟨_,rfl,hid (Nat.le_refl _),HZ1,HZ2⟩
     · skip
       go_simp
       skip
       refine hK _ _ (by repeat' first|exact all_nil|refine all_cons (by first|assumption|exact((Keep.refl (fun _=>False) _).alloc _).cell (by assumption) (fun h=>h)) ?_) ?_
       clear hK K
       try simp only [NS]
       refine AtC 5 fun K hK=>?_
       go_simp
       refine(W6.out _ f.oy HF.out.oy 6 (by omega) (by omega)).mono ?_
       rintro e w5 ⟨rfl,rfl⟩
       rw [HOY.out]
       refine hK _ _ all_nil ?_
       clear hK K
       try simp only [NS]
       refine AtP 6 23 ?_
       refine AtC 8 fun K hK=>?_
       refine wp_store_in (Blk.new w1.drew _ _) 29 _ _ rfl 0 #[.int .i64 0,.int .i64 0,.int .i64 ox,.int .i64 oy,.slice none 0 0] rfl rfl (by show 0+5≤5;omega) (by kernel_rfl) (by simp [Value.oneCell']) ?_
       intro w7 hb7 hk7
       have HZ1:=hid (blk_all hb7 rfl)
       have HZ2:=hid ((((Keep.refl (fun _=>False) w1).drew).alloc _).new hk7 (fun j e=>by rw [show j=_ from e];exact Nat.le_refl _))
       clear hb7 hk7
       refine hK _ _ all_nil ?_
       clear hK K
       try simp only [NS]
       refine At.done (by kernel_rfl) ?_
       go_wp2_with fail
       go_meet
       exact⟨_,rfl,hid (Nat.le_refl _),HZ1,HZ2⟩
   · skip
     go_simp
     skip
     refine hK _ _ (by repeat' first|exact all_nil|refine all_cons (by first|assumption|exact((Keep.refl (fun _=>False) _).alloc _).cell (by assumption) (fun h=>h)) ?_) ?_
     clear hK K
     try simp only [NS]
     refine At.call_all 2 rfl (by kernel_rfl) rfl (fun K hK=>?_)
     go_simp
     refine(W6.out _ f.ox HF.out.ox 6 (by omega) (by omega)).mono ?_
     rintro e w5 ⟨rfl,rfl⟩
     rw [HOX.out]
     refine hK _ _ (by repeat' first|exact all_nil|refine all_cons (by first|assumption|exact((Keep.refl (fun _=>False) _).alloc _).cell (by assumption) (fun h=>h)) ?_) ?_
     clear hK K
     try simp only [NS]
     refine AtC 5 fun K hK=>?_
     go_simp
     refine(W6.out _ f.oy HF.out.oy 6 (by omega) (by omega)).mono ?_
     rintro e w5 ⟨rfl,rfl⟩
     rw [HOY.out]
     refine hK _ _ all_nil ?_
     clear hK K
     try simp only [NS]
     refine AtP 6 23 ?_
     refine AtC 8 fun K hK=>?_
     refine wp_store_in (Blk.new w1.drew _ _) 29 _ _ rfl 0 #[.int .i64 0,.int .i64 0,.int .i64 ox,.int .i64 oy,.slice none 0 0] rfl rfl (by show 0+5≤5;omega) (by kernel_rfl) (by simp [Value.oneCell']) ?_
     intro w7 hb7 hk7
     have HZ1:=hid (blk_all hb7 rfl)
     have HZ2:=hid ((((Keep.refl (fun _=>False) w1).drew).alloc _).new hk7 (fun j e=>by rw [show j=_ from e];exact Nat.le_refl _))
     clear hb7 hk7
     refine hK _ _ all_nil ?_
     clear hK K
     try simp only [NS]
     refine At.done (by kernel_rfl) ?_
     go_wp2_with fail
     go_meet
     exact⟨_,rfl,hid (Nat.le_refl _),HZ1,HZ2⟩
 case rest=>
  obtain⟨gm,rfl,HGM,HBM,HK⟩:=hcut
  have HGN:=hid (HW.out.fits.none_of HGM.out)
  have hsg:s+2<gm:=by have:=HSZ.out;have:=HGM.out;omega
  have q1:=HW.out.callF HK.out
  replace HW:=hid q1.1
  replace HBF:=hid (HBF.out.nx q1.2)
  replace HR1:=hid (HR1.out.keep HK.out id)
  replace HR2:=hid (HR2.out.keep HK.out id)
  clear q1 HK HGM HSZ
  have q1:=HW.out.callF ((Keep.refl _ wc).drew)
  replace HW:=hid q1.1
  replace HBF:=hid (HBF.out.nx q1.2)
  replace HR1:=hid (HR1.out.drew)
  replace HR2:=hid (HR2.out.drew)
  replace HBM:=hid (HBM.out.drew)
  clear q1
  obtain⟨a,ha⟩: ∃a,f.x%side=a:=⟨_,rfl⟩
  obtain⟨b,hb⟩: ∃b,f.y%side=b:=⟨_,rfl⟩
  have la:=mod_lim f.x (n:=side) (by omega)
  have lb:=mod_lim f.y (n:=side) (by omega)
  rw [ha]at la
  rw [hb]at lb
  have HA:=hid ha
  have HB:=hid hb
  clear ha hb
  have d0:wc.drew.cell? ⟨s,0,none⟩=some (.int .i64 f.x):=by have h:=HBF.out.1.cell 0;rw [HFC.out]at h;exact h
  have d1:wc.drew.cell? ⟨s,1,none⟩=some (.int .i64 f.y):=by have h:=HBF.out.1.cell 1;rw [HFC.out]at h;exact h
  have e0:wc.drew.cell? ⟨gm,0,none⟩=some (.int .i64 0):=HBM.out.cell 0
  have e2:wc.drew.cell? ⟨gm,2,none⟩=some (.int .i64 ox):=HBM.out.cell 2
  have e3:wc.drew.cell? ⟨gm,3,none⟩=some (.int .i64 oy):=HBM.out.cell 3
  have f0:=HBM.out.frozen 0
  have g1:wc.cell? ⟨gm,1,none⟩=some (.int .i64 0):=HBM.out.cell 1
  have f1:wc.frozen? ⟨gm,1,none⟩=false:=HBM.out.frozen 1
  obtain⟨mx,hmx⟩: ∃mx,ox+1+a=mx:=⟨_,rfl⟩
  obtain⟨my,hmy⟩: ∃my,oy+1+b=my:=⟨_,rfl⟩
  have hw1:IntKind.i64.wrap (ox+1)=ox+1:=IntWalk.i64_in _ (by omega)
  have hw2:IntKind.i64.wrap (oy+1)=oy+1:=IntWalk.i64_in _ (by omega)
  have hw3:IntKind.i64.wrap (ox+1+a)=mx:=by rw [← hmx];exact IntWalk.i64_in _ (by omega)
  have hw4:IntKind.i64.wrap (oy+1+b)=my:=by rw [← hmy];exact IntWalk.i64_in _ (by omega)
  have lmx:ox<mx∧mx≤ox+side:=by omega
  have lmy:oy<my∧my≤oy+side:=by omega
  have HMX:=hid (And.intro hmx hmy)
  clear hmx hmy
  go_upto_region 2 with fail
  go_cut [] (fun wx=>Hid (Wk 52 G1 w [] none wx)∧Hid (RoB G1 wx s 24 f.cells)∧Hid (Blk wx (s+1) 29 #[.int .i64 0,.int .i64 0,.int .i64 0,.int .i64 0,.slice none 0 0])∧Hid (Blk wx (s+2) 31 #[.int .i64 0,.int .i64 0,.int .i64 0,.int .i64 0,.int .i64 0,.int .i64 0,.int .i64 0,.int .i64 0,.int .i64 0,.bool false,.bool false,.bool false])∧Hid (Blk wx gm 29 #[.int .i64 mx,.int .i64 my,.int .i64 ox,.int .i64 oy,.slice none 0 0]))
  case first=>
   as_aux_lemma=>
    refine At.start (L:=#[false,false,false,false,false,false,false,false,false,false,false,false,false,false,false,false,false,false,false,false]) (by kernel_rfl) rfl ?_
    refine AtP 0 24 ?_
    refine AtL 1 25 Tryz.underlying3 ?_
    refine AtP 2 26 ?_
    refine AtP 3 27 ?_
    refine AtL 4 28 Tryz.underlying3 ?_
    refine AtP 5 29 ?_
    refine AtP 8 32 ?_
    refine AtL 9 33 Tryz.underlying3 ?_
    refine AtP 10 34 ?_
    refine AtP 11 35 ?_
    refine AtL 12 36 Tryz.underlying3 ?_
    refine AtP 13 37 ?_
    refine At.call_all 6 rfl (by kernel_rfl) rfl (fun K hK=>?_)
    go_simp
    refine(W6.out _ f.x HF.out.x side (by omega) (by omega)).mono ?_
    rintro e w5 ⟨rfl,rfl⟩
    rw [HA.out]
    refine hK _ _ (by repeat' first|exact all_nil|refine all_cons (by assumption) ?_) ?_
    clear hK K
    try simp only [NS]
    refine AtP 7 31 ?_
    refine AtP 16 40 ?_
    refine At.call_all 14 rfl (by kernel_rfl) rfl (fun K hK=>?_)
    go_simp
    refine(W6.out _ f.y HF.out.y side (by omega) (by omega)).mono ?_
    rintro e w5 ⟨rfl,rfl⟩
    rw [HB.out]
    refine hK _ _ (by repeat' first|exact all_nil|refine all_cons (by assumption) ?_) ?_
    clear hK K
    try simp only [NS]
    refine AtP 15 39 ?_
    refine AtC 17 fun K hK=>?_
    go_simp
    skip
    have HBM2:=HBM.out.set_ 0 (.int .i64 mx)
    have t2:(wc.drew.setCell ⟨gm,0,none⟩ (.int .i64 mx)).cell? ⟨gm,2,none⟩=some (.int .i64 ox):=HBM2.cell 2
    have t3:(wc.drew.setCell ⟨gm,0,none⟩ (.int .i64 mx)).cell? ⟨gm,3,none⟩=some (.int .i64 oy):=HBM2.cell 3
    have t4:(wc.drew.setCell ⟨gm,0,none⟩ (.int .i64 mx)).cell? ⟨gm,1,none⟩=some (.int .i64 0):=HBM2.cell 1
    have ft:=HBM2.frozen 1
    have t0:=(Keep.set1 wc.drew gm 0 (.int .i64 mx)).cell d0 (show s≠gm by omega)
    have t1:=(Keep.set1 wc.drew gm 0 (.int .i64 mx)).cell d1 (show s≠gm by omega)
    refine hK _ _ all_nil ?_
    clear hK K
    try simp only [NS]
    refine AtP 18 41 ?_
    refine AtC 19 fun K hK=>?_
    go_simp
    skip
    refine hK _ _ all_nil ?_
    clear hK K
    try simp only [NS]
    refine At.done (by kernel_rfl) ?_
    have HBM3:=hid (show Blk ((wc.setCell ⟨gm,0,none⟩ (.int .i64 mx)).setCell ⟨gm,1,none⟩ (.int .i64 my)).drew gm 29 #[.int .i64 mx,.int .i64 my,.int .i64 ox,.int .i64 oy,.slice none 0 0]from(HBM.out.set_ 0 _).set_ 1 _)
    have hkg:Keep (fun j=>j=gm) wc.drew ((wc.setCell ⟨gm,0,none⟩ (.int .i64 mx)).setCell ⟨gm,1,none⟩ (.int .i64 my)).drew:=(Keep.set1 wc.drew gm 0 (.int .i64 mx)).trans (Keep.set1 (wc.drew.setCell ⟨gm,0,none⟩ (.int .i64 mx)) gm 1 (.int .i64 my)) (fun _ _ h=>h)
    have q1:=HW.out.other hkg (fun j e=>by rw [show j=gm from e];exact⟨HGN.out,by have:=HSS.out;omega⟩) (fun i u a hu _=>by simp at hu) (fun g cs e=>by cases e)
    replace HW:=hid q1.1
    replace HBF:=hid (HBF.out.nx q1.2)
    replace HR1:=hid (HR1.out.keep hkg (show s+1≠gm by omega))
    replace HR2:=hid (HR2.out.keep hkg (show s+2≠gm by omega))
    go_wp2_with fail
    go_meet
    exact⟨HW,HBF,HR1,HR2,HBM3⟩
  obtain⟨HW',HBF',HR1',HR2',HBM3⟩:=hcut
  replace HW:=HW'
  replace HBF:=HBF'
  replace HR1:=HR1'
  replace HR2:=HR2'
  generalize wc=w2 at*
  clear HW' HBF' HR1' HR2' HBM d0 d1 e0 e2 e3 f0 g1 f1 hw1 hw2 hw3 hw4
  obtain⟨c0,hc0⟩: ∃c0:Int,f.lev%6=c0:=⟨_,rfl⟩
  have lc0:=mod_lim f.lev (n:=6) (by omega)
  rw [hc0]at lc0
  have HC0:=hid hc0
  clear hc0
  obtain⟨lev,vc0⟩: ∃lev:Nat,c0=lev:=⟨c0.toNat,by omega⟩
  subst vc0
  obtain⟨c1,hc1⟩: ∃c1:Int,f.cbw%3=c1:=⟨_,rfl⟩
  have lc1:=mod_lim f.cbw (n:=3) (by omega)
  rw [hc1]at lc1
  have HC1:=hid hc1
  clear hc1
  obtain⟨cbw,vc1⟩: ∃cbw:Nat,2+c1=cbw:=⟨(2+c1).toNat,by omega⟩
  have hwc1:IntKind.i64.wrap (2+c1)=(cbw:Int):=by rw [vc1];exact IntWalk.i64_in _ (by omega)
  obtain⟨c2,hc2⟩: ∃c2:Int,f.cbh%3=c2:=⟨_,rfl⟩
  have lc2:=mod_lim f.cbh (n:=3) (by omega)
  rw [hc2]at lc2
  have HC2:=hid hc2
  clear hc2
  obtain⟨cbh,vc2⟩: ∃cbh:Nat,2+c2=cbh:=⟨(2+c2).toNat,by omega⟩
  have hwc2:IntKind.i64.wrap (2+c2)=(cbh:Int):=by rw [vc2];exact IntWalk.i64_in _ (by omega)
  obtain⟨c3,hc3⟩: ∃c3:Int,f.prec%5=c3:=⟨_,rfl⟩
  have lc3:=mod_lim f.prec (n:=5) (by omega)
  rw [hc3]at lc3
  have HC3:=hid hc3
  clear hc3
  obtain⟨prec,vc3⟩: ∃prec:Nat,1+c3=prec:=⟨(1+c3).toNat,by omega⟩
  have hwc3:IntKind.i64.wrap (1+c3)=(prec:Int):=by rw [vc3];exact IntWalk.i64_in _ (by omega)
  obtain⟨c4,hc4⟩: ∃c4:Int,f.style%64=c4:=⟨_,rfl⟩
  have lc4:=mod_lim f.style (n:=64) (by omega)
  rw [hc4]at lc4
  have HC4:=hid hc4
  clear hc4
  obtain⟨style,vc4⟩: ∃style:Nat,c4=style:=⟨c4.toNat,by omega⟩
  subst vc4
  obtain⟨c5,hc5⟩: ∃c5:Int,f.order%5=c5:=⟨_,rfl⟩
  have lc5:=mod_lim f.order (n:=5) (by omega)
  rw [hc5]at lc5
  have HC5:=hid hc5
  clear hc5
  obtain⟨order,vc5⟩: ∃order:Nat,c5=order:=⟨c5.toNat,by omega⟩
  subst vc5
  obtain⟨c6,hc6⟩: ∃c6:Int,f.lay%4=c6:=⟨_,rfl⟩
  have lc6:=mod_lim f.lay (n:=4) (by omega)
  rw [hc6]at lc6
  have HC6:=hid hc6
  clear hc6
  obtain⟨lay,vc6⟩: ∃lay:Nat,1+c6=lay:=⟨(1+c6).toNat,by omega⟩
  have hwc6:IntKind.i64.wrap (1+c6)=(lay:Int):=by rw [vc6];exact IntWalk.i64_in _ (by omega)
  have blev:lev<6:=by omega
  have bcbw:2≤cbw∧cbw<5:=by omega
  have Vcbw:=hid vc1
  clear vc1
  have bcbh:2≤cbh∧cbh<5:=by omega
  have Vcbh:=hid vc2
  clear vc2
  have bprec:1≤prec∧prec<6:=by omega
  have Vprec:=hid vc3
  clear vc3
  have bstyle:style<64:=by omega
  have border:order<5:=by omega
  have blay:1≤lay∧lay<5:=by omega
  have Vlay:=hid vc6
  clear vc6
  go_upto_region 3 with fail
  go_cut [7] (fun v wx=> ∃g:Nat,v=.pointer (some ⟨g,0,none⟩)∧Hid (w2.heap.size≤g)∧Hid (Blk wx g 31 #[.int .i64 0,.int .i64 0,.int .i64 lev,.int .i64 cbw,.int .i64 cbh,.int .i64 prec,.int .i64 style,.int .i64 order,.int .i64 lay,.bool false,.bool f.sop,.bool f.eph])∧Hid (Keep (fun _=>False) w2 wx))
  case first=>
   as_aux_lemma=>
    have d13:w2.drew.cell? ⟨s,13,none⟩=some (.int .i64 f.lev):=by have h:=HBF.out.1.cell 13;rw [HFC.out]at h;exact h
    have d14:w2.drew.cell? ⟨s,14,none⟩=some (.int .i64 f.cbw):=by have h:=HBF.out.1.cell 14;rw [HFC.out]at h;exact h
    have d15:w2.drew.cell? ⟨s,15,none⟩=some (.int .i64 f.cbh):=by have h:=HBF.out.1.cell 15;rw [HFC.out]at h;exact h
    have d16:w2.drew.cell? ⟨s,16,none⟩=some (.int .i64 f.prec):=by have h:=HBF.out.1.cell 16;rw [HFC.out]at h;exact h
    have d17:w2.drew.cell? ⟨s,17,none⟩=some (.int .i64 f.style):=by have h:=HBF.out.1.cell 17;rw [HFC.out]at h;exact h
    have d18:w2.drew.cell? ⟨s,18,none⟩=some (.int .i64 f.order):=by have h:=HBF.out.1.cell 18;rw [HFC.out]at h;exact h
    have d19:w2.drew.cell? ⟨s,19,none⟩=some (.int .i64 f.lay):=by have h:=HBF.out.1.cell 19;rw [HFC.out]at h;exact h
    have d9:w2.drew.cell? ⟨s,9,none⟩=some (.bool f.sop):=by have h:=HBF.out.1.cell 9;rw [HFC.out]at h;exact h
    have d10:w2.drew.cell? ⟨s,10,none⟩=some (.bool f.eph):=by have h:=HBF.out.1.cell 10;rw [HFC.out]at h;exact h
    have HL0:=hid (show∀w',Calls Tryz.prog 16 #[.int .i64 f.lev,.int .i64 6] w' (fun e w''=>e=.returned (.int .i64 lev)∧w''=w')from fun w'=>by have h:=W6.out w' f.lev HF.out.lev 6 (by omega) (by omega);rw [HC0.out]at h;exact h.mono (fun e w'' he=>⟨he.1,he.2.symm⟩))
    have HL1:=hid (show∀w',Calls Tryz.prog 16 #[.int .i64 f.cbw,.int .i64 3] w' (fun e w''=>e=.returned (.int .i64 c1)∧w''=w')from fun w'=>by have h:=W6.out w' f.cbw HF.out.cbw 3 (by omega) (by omega);rw [HC1.out]at h;exact h.mono (fun e w'' he=>⟨he.1,he.2.symm⟩))
    have HL2:=hid (show∀w',Calls Tryz.prog 16 #[.int .i64 f.cbh,.int .i64 3] w' (fun e w''=>e=.returned (.int .i64 c2)∧w''=w')from fun w'=>by have h:=W6.out w' f.cbh HF.out.cbh 3 (by omega) (by omega);rw [HC2.out]at h;exact h.mono (fun e w'' he=>⟨he.1,he.2.symm⟩))
    have HL3:=hid (show∀w',Calls Tryz.prog 16 #[.int .i64 f.prec,.int .i64 5] w' (fun e w''=>e=.returned (.int .i64 c3)∧w''=w')from fun w'=>by have h:=W6.out w' f.prec HF.out.prec 5 (by omega) (by omega);rw [HC3.out]at h;exact h.mono (fun e w'' he=>⟨he.1,he.2.symm⟩))
    have HL4:=hid (show∀w',Calls Tryz.prog 16 #[.int .i64 f.style,.int .i64 64] w' (fun e w''=>e=.returned (.int .i64 style)∧w''=w')from fun w'=>by have h:=W6.out w' f.style HF.out.style 64 (by omega) (by omega);rw [HC4.out]at h;exact h.mono (fun e w'' he=>⟨he.1,he.2.symm⟩))
    have HL5:=hid (show∀w',Calls Tryz.prog 16 #[.int .i64 f.order,.int .i64 5] w' (fun e w''=>e=.returned (.int .i64 order)∧w''=w')from fun w'=>by have h:=W6.out w' f.order HF.out.order 5 (by omega) (by omega);rw [HC5.out]at h;exact h.mono (fun e w'' he=>⟨he.1,he.2.symm⟩))
    have HL6:=hid (show∀w',Calls Tryz.prog 16 #[.int .i64 f.lay,.int .i64 4] w' (fun e w''=>e=.returned (.int .i64 c6)∧w''=w')from fun w'=>by have h:=W6.out w' f.lay HF.out.lay 4 (by omega) (by omega);rw [HC6.out]at h;exact h.mono (fun e w'' he=>⟨he.1,he.2.symm⟩))
    refine At.start (L:=#[false,false,false,false,false,false,false,false,false,false,false,false,false,false,false,false,false,false,false,false,false,false,false,false,false,false,false,false,false,false,false,false]) (by kernel_rfl) rfl ?_
    refine AtP 0 42 ?_
    refine AtL 1 43 Tryz.underlying3 ?_
    refine At.given 2 (some 44) (.int .i64 lev) rfl rfl (by kernel_rfl) (fun _ _ _ h=>h) rfl (fun w'=>?y2c) (fun w'=>HL0.out w') ?_
    case y2c=>go_simp;try with_reducible rfl
    try simp only [NS]
    refine AtP 3 45 ?_
    refine AtL 4 46 Tryz.underlying3 ?_
    refine At.given 5 (some 47) (.int .i64 c1) rfl rfl (by kernel_rfl) (fun _ _ _ h=>h) rfl (fun w'=>?y5c) (fun w'=>HL1.out w') ?_
    case y5c=>go_simp;try with_reducible rfl
    try simp only [NS]
    refine AtP 6 48 ?_
    refine AtP 7 49 ?_
    refine AtL 8 50 Tryz.underlying3 ?_
    refine At.given 9 (some 51) (.int .i64 c2) rfl rfl (by kernel_rfl) (fun _ _ _ h=>h) rfl (fun w'=>?y9c) (fun w'=>HL2.out w') ?_
    case y9c=>go_simp;try with_reducible rfl
    try simp only [NS]
    refine AtP 10 52 ?_
    refine AtP 11 53 ?_
    refine AtL 12 54 Tryz.underlying3 ?_
    refine At.given 13 (some 55) (.int .i64 c3) rfl rfl (by kernel_rfl) (fun _ _ _ h=>h) rfl (fun w'=>?y13c) (fun w'=>HL3.out w') ?_
    case y13c=>go_simp;try with_reducible rfl
    try simp only [NS]
    refine AtP 14 56 ?_
    refine AtP 15 57 ?_
    refine AtL 16 58 Tryz.underlying3 ?_
    refine At.given 17 (some 59) (.int .i64 style) rfl rfl (by kernel_rfl) (fun _ _ _ h=>h) rfl (fun w'=>?y17c) (fun w'=>HL4.out w') ?_
    case y17c=>go_simp;try with_reducible rfl
    try simp only [NS]
    refine AtP 18 60 ?_
    refine AtL 19 61 Tryz.underlying3 ?_
    refine At.given 20 (some 62) (.int .i64 order) rfl rfl (by kernel_rfl) (fun _ _ _ h=>h) rfl (fun w'=>?y20c) (fun w'=>HL5.out w') ?_
    case y20c=>go_simp;try with_reducible rfl
    try simp only [NS]
    refine AtP 21 63 ?_
    refine AtL 22 64 Tryz.underlying3 ?_
    refine At.given 23 (some 65) (.int .i64 c6) rfl rfl (by kernel_rfl) (fun _ _ _ h=>h) rfl (fun w'=>?y23c) (fun w'=>HL6.out w') ?_
    case y23c=>go_simp;try with_reducible rfl
    try simp only [NS]
    refine AtP 24 66 ?_
    refine AtP 25 67 ?_
    refine AtL 26 68 Tryz.underlying4 ?_
    refine AtP 27 69 ?_
    refine AtL 28 70 Tryz.underlying4 ?_
    refine At.read 29 (some 71) (fun _=>True) (v:=(.agg #[.int .i64 0,.int .i64 0,.int .i64 lev,.int .i64 cbw,.int .i64 cbh,.int .i64 prec,.int .i64 style,.int .i64 order,.int .i64 lay,.bool false,.bool f.sop,.bool f.eph])) rfl rfl (by kernel_rfl) (fun _ _ _ h=>h) rfl trivial (fun w' hw'=>?y29c) ?_
    case y29c=>refine run_build_op rfl [(2,.int .i64 lev),(3,.int .i64 cbw),(4,.int .i64 cbh),(5,.int .i64 prec),(6,.int .i64 style),(7,.int .i64 order),(8,.int .i64 lay),(10,.bool f.sop),(11,.bool f.eph)] ?_ (built_pm lev cbw cbh prec style order lay f.sop f.eph) w';go_simp;try with_reducible rfl
    try simp only [NS]
    refine At.call_all 30 rfl (by kernel_rfl) rfl (fun K hK=>?_)
    go_simp
    skip
    refine hK _ _ (by repeat' first|exact all_nil|refine all_cons (by first|exact trivial|assumption|exact((Keep.refl (fun _=>False) _).alloc _).cell (by assumption) (fun h=>h)) ?_) ?_
    clear hK K
    try simp only [NS]
    refine AtC 31 fun K hK=>?_
    refine wp_store_in (Blk.new w2.drew _ _) 31 _ _ rfl 0 #[.int .i64 0,.int .i64 0,.int .i64 lev,.int .i64 cbw,.int .i64 cbh,.int .i64 prec,.int .i64 style,.int .i64 order,.int .i64 lay,.bool false,.bool f.sop,.bool f.eph] rfl rfl (by show 0+12≤12;omega) (by kernel_rfl) (by simp [Value.oneCell']) ?_
    intro w7 hb7 hk7
    have HZ1:=hid (blk_all hb7 rfl)
    have HZ2:=hid ((((Keep.refl (fun _=>False) w2).drew).alloc _).new hk7 (fun j e=>by rw [show j=_ from e];exact Nat.le_refl _))
    clear hb7 hk7
    refine hK _ _ all_nil ?_
    clear hK K
    try simp only [NS]
    refine At.done (by kernel_rfl) ?_
    go_wp2_with fail
    go_meet
    exact⟨_,rfl,hid (Nat.le_refl _),HZ1,HZ2⟩
  case rest=>
   obtain⟨gp,rfl,HGP,HBP,HK⟩:=hcut
   have HGPN:=hid (HW.out.fits.none_of HGP.out)
   have hsp:s+2<gp:=by have h1:=HR2.out.lt;have h2:=HGP.out;omega
   have q1:=HW.out.callF HK.out
   have HM:=hid (show Mk G1 w [] none s gm gp f #[.int .i64 mx,.int .i64 my,.int .i64 ox,.int .i64 oy,.slice none 0 0] #[.int .i64 0,.int .i64 0,.int .i64 lev,.int .i64 cbw,.int .i64 cbh,.int .i64 prec,.int .i64 style,.int .i64 order,.int .i64 lay,.bool false,.bool f.sop,.bool f.eph] wc from
    ⟨q1.1,fun u h=>(by cases h),HBF.out.nx q1.2,HR1.out.keep HK.out id,HG.out.1,HR2.out.keep HK.out id,HG.out.2,HBM3.out.keep HK.out id,HGN.out,hsg,HBP.out,HGPN.out,hsp,by rw [HSS.out];exact Nat.le_refl _⟩)
   clear q1 HK HGP HBP HGPN HW HBF HR1 HR2 HG HBM3 HGN
   have z16:wc.cell? ⟨s,16,none⟩=some (.int .i64 f.prec):=by have h:=HM.out.bf.1.cell 16;rw [HFC.out]at h;exact h
   have z5:wc.cell? ⟨gp,5,none⟩=some (.int .i64 prec):=HM.out.bp.cell 5
   have y5:wc.frozen? ⟨gp,5,none⟩=false:=HM.out.bp.frozen 5
   go_upto_if 75 with fail
   go_cut [] (fun wx=> ∃pr:Nat,Hid (1≤pr∧pr≤15)∧Hid (Mk G1 w [] none s gm gp f #[.int .i64 mx,.int .i64 my,.int .i64 ox,.int .i64 oy,.slice none 0 0] #[.int .i64 0,.int .i64 0,.int .i64 lev,.int .i64 cbw,.int .i64 cbh,.int .i64 pr,.int .i64 style,.int .i64 order,.int .i64 lay,.bool false,.bool f.sop,.bool f.eph] wx))
   case first=>
    as_aux_lemma=>
     go_wp2_with fail
     all_goals(go_meet;first|exact⟨15,hid ⟨by omega,by omega⟩,hid (HM.out.setP5 (.int .i64 15))⟩|exact⟨prec,hid ⟨by omega,by omega⟩,HM⟩)
   case rest=>
    clear z16 z5 y5
    obtain⟨pr,HPR,HM'⟩:=hcut
    replace HM:=hid (HM'.out.callF ((Keep.refl _ wc).drew)).1
    clear HM'
    obtain⟨a,ha⟩: ∃a,f.tx%side=a:=⟨_,rfl⟩
    have la:=mod_lim f.tx (n:=side) (by omega)
    rw [ha]at la
    have HLa:=hid (show∀w',Calls Tryz.prog 16 #[.int .i64 f.tx,.int .i64 side] w' (fun e w''=>e=.returned (.int .i64 a)∧w''=w')from fun w'=>by have h:=W6.out w' f.tx HF.out.tx side (by omega) (by omega);rw [ha]at h;exact h.mono (fun e w'' he=>⟨he.1,he.2.symm⟩))
    clear ha
    obtain⟨tx0,htx0⟩: ∃tx0,ox+1+a=tx0:=⟨_,rfl⟩
    obtain⟨b,hb⟩: ∃b,f.ty%side=b:=⟨_,rfl⟩
    have lb:=mod_lim f.ty (n:=side) (by omega)
    rw [hb]at lb
    have HLb:=hid (show∀w',Calls Tryz.prog 16 #[.int .i64 f.ty,.int .i64 side] w' (fun e w''=>e=.returned (.int .i64 b)∧w''=w')from fun w'=>by have h:=W6.out w' f.ty HF.out.ty side (by omega) (by omega);rw [hb]at h;exact h.mono (fun e w'' he=>⟨he.1,he.2.symm⟩))
    clear hb
    obtain⟨ty0,hty0⟩: ∃ty0,oy+1+b=ty0:=⟨_,rfl⟩
    have hw1:IntKind.i64.wrap (ox+1)=ox+1:=IntWalk.i64_in _ (by omega)
    have hw2:IntKind.i64.wrap (oy+1)=oy+1:=IntWalk.i64_in _ (by omega)
    have hw3:IntKind.i64.wrap (ox+1+a)=tx0:=by rw [← htx0];exact IntWalk.i64_in _ (by omega)
    have hw4:IntKind.i64.wrap (oy+1+b)=ty0:=by rw [← hty0];exact IntWalk.i64_in _ (by omega)
    have ltx:ox<tx0∧tx0≤17:=by omega
    have lty:oy<ty0∧ty0≤17:=by omega
    clear htx0 hty0
    have d11:wc.drew.cell? ⟨s,11,none⟩=some (.int .i64 f.tx):=by have h:=HM.out.bf.1.cell 11;rw [HFC.out]at h;exact h
    have d12:wc.drew.cell? ⟨s,12,none⟩=some (.int .i64 f.ty):=by have h:=HM.out.bf.1.cell 12;rw [HFC.out]at h;exact h
    have e2:wc.drew.cell? ⟨gm,2,none⟩=some (.int .i64 ox):=HM.out.bm.cell 2
    have e3:wc.drew.cell? ⟨gm,3,none⟩=some (.int .i64 oy):=HM.out.bm.cell 3
    have e0:wc.drew.cell? ⟨gp,0,none⟩=some (.int .i64 0):=HM.out.bp.cell 0
    have f0:wc.drew.frozen? ⟨gp,0,none⟩=false:=HM.out.bp.frozen 0
    have g1:wc.cell? ⟨gp,1,none⟩=some (.int .i64 0):=HM.out.bp.cell 1
    have f1:wc.frozen? ⟨gp,1,none⟩=false:=HM.out.bp.frozen 1
    have hgm:gm≠gp:=Blk.ne_ HM.out.bm HM.out.bp (by decide)
    have q1:=HM.out.setP 0 (.int .i64 tx0)
    have t4:(wc.drew.setCell ⟨gp,0,none⟩ (.int .i64 tx0)).cell? ⟨gp,1,none⟩=some (.int .i64 0):=q1.1.bp.cell 1
    have ft:=q1.1.bp.frozen 1
    have HM3:=hid (show Mk G1 w [] none s gm gp f #[.int .i64 mx,.int .i64 my,.int .i64 ox,.int .i64 oy,.slice none 0 0] #[.int .i64 tx0,.int .i64 ty0,.int .i64 lev,.int .i64 cbw,.int .i64 cbh,.int .i64 pr,.int .i64 style,.int .i64 order,.int .i64 lay,.bool false,.bool f.sop,.bool f.eph] ((wc.setCell ⟨gp,0,none⟩ (.int .i64 tx0)).setCell ⟨gp,1,none⟩ (.int .i64 ty0)).drew from(q1.1.setP 1 (.int .i64 ty0)).1)
    clear q1
    go_upto_region 6 with fail
    go_cut [] (fun wx=>Hid (Mk G1 w [] none s gm gp f #[.int .i64 mx,.int .i64 my,.int .i64 ox,.int .i64 oy,.slice none 0 0] #[.int .i64 tx0,.int .i64 ty0,.int .i64 lev,.int .i64 cbw,.int .i64 cbh,.int .i64 pr,.int .i64 style,.int .i64 order,.int .i64 lay,.bool false,.bool f.sop,.bool f.eph] wx))
    case first=>
     as_aux_lemma=>
      refine At.start (L:=#[false,false,false,false,false,false,false,false,false,false,false,false,false,false,false,false,false,false,false,false]) (by kernel_rfl) rfl ?_
      refine AtP 0 77 ?_
      refine AtL 1 78 Tryz.underlying3 ?_
      refine AtP 2 79 ?_
      refine AtP 3 80 ?_
      refine AtL 4 81 Tryz.underlying3 ?_
      refine AtP 5 82 ?_
      refine At.given 6 (some 83) (.int .i64 a) rfl rfl (by kernel_rfl) (fun _ _ _ h=>h) rfl (fun w'=>?y6d) (fun w'=>HLa.out w') ?_
      case y6d=>go_simp;try with_reducible rfl
      try simp only [NS]
      refine AtP 7 84 ?_
      refine AtP 8 85 ?_
      refine AtL 9 86 Tryz.underlying3 ?_
      refine AtP 10 87 ?_
      refine AtP 11 88 ?_
      refine AtL 12 89 Tryz.underlying3 ?_
      refine AtP 13 90 ?_
      refine At.given 14 (some 91) (.int .i64 b) rfl rfl (by kernel_rfl) (fun _ _ _ h=>h) rfl (fun w'=>?y14d) (fun w'=>HLb.out w') ?_
      case y14d=>go_simp;try with_reducible rfl
      try simp only [NS]
      refine AtP 15 92 ?_
      refine AtP 16 93 ?_
      refine At.call_all 17 rfl (by kernel_rfl) rfl (fun K hK=>?_)
      go_simp
      skip
      refine hK _ _ (by repeat' first|exact all_nil|refine all_cons (by first|assumption|exact(Keep.set1 _ gp 0 _).cell (by assumption) (by first|exact hgm|(have:=HM.out.hp;show s≠gp;omega))) ?_) ?_
      clear hK K
      try simp only [NS]
      refine AtP 18 94 ?_
      refine AtC 19 fun K hK=>?_
      go_simp
      skip
      refine hK _ _ all_nil ?_
      clear hK K
      try simp only [NS]
      refine At.done (by kernel_rfl) ?_
      go_wp2_with fail
      go_meet
      exact HM3
    replace HM:=hcut
    generalize wc=w4 at*
    clear HM3 hcut t4 ft d11 d12 e0 e2 e3 f0 g1 f1 hw1 hw2 hw3 hw4 HLa HLb
    have lox6:ox<6:=lox.2
    have loy6:oy<6:=loy.2
    have hmx17:mx≤ox+12:=by omega
    have hmy17:my≤oy+12:=by omega
    have TIL: ∀(w':World) (tx ty:Int) (nx ny:Nat),ox<tx→tx≤65536→oy<ty→ty≤65536→ceilI mx tx=nx→ceilI my ty=ny→Calls Tryz.prog 17 #[.agg #[.int .i64 mx,.int .i64 my,.int .i64 ox,.int .i64 oy,.slice none 0 0],.agg #[.int .i64 tx,.int .i64 ty,.int .i64 lev,.int .i64 cbw,.int .i64 cbh,.int .i64 pr,.int .i64 style,.int .i64 order,.int .i64 lay,.bool false,.bool f.sop,.bool f.eph]] w' fun e w''=>e=.returned (.int .i64 (nx*ny:Nat))∧Keep (fun _=>False) w' w'':=fun w' tx ty nx ny h1 h2 h3 h4 h5 h6=>
     tiles12_any w' ⟨mx,my,ox,oy,none,0,0⟩ ⟨tx,ty,lev,cbw,cbh,pr,style,order,lay,false,f.sop,f.eph⟩ nx ny lox.1 lmx.1 (by show mx≤64;omega) loy.1 lmy.1 (by show my≤64;omega) h1 h2 h3 h4 h5 h6
    have TIL:=hid TIL
    replace lmx:=lmx.1
    replace lmy:=lmy.1
    clear la lb
    go_upto_region 7 with fail
    go_loopw [] (fun wr=> ∃(q:Nat) (tx ty:Int),Hid ((q=1∨q=2∨q=4∨q=8∨q=16∨q=32)∧(q:Int)≤tx∧tx≤17*q∧(q:Int)≤ty∧ty≤17*q∧ox<tx∧oy<ty)∧Hid (Mk G1 w [] none s gm gp f #[.int .i64 mx,.int .i64 my,.int .i64 ox,.int .i64 oy,.slice none 0 0] #[.int .i64 tx,.int .i64 ty,.int .i64 lev,.int .i64 cbw,.int .i64 cbh,.int .i64 pr,.int .i64 style,.int .i64 order,.int .i64 lay,.bool false,.bool f.sop,.bool f.eph] wr)) (fun wr=>txF gp wr)
    case atStart=>exact⟨1,tx0,ty0,hid (by omega),HM⟩
    case round=>
     clear HM ltx lty
     obtain⟨q,tx,ty,HQ,HM⟩:=hrel
     have HMr:=HM
     have hq:=HQ.out
     obtain⟨nx,hnx⟩: ∃nx:Nat,ceilI mx tx=nx:=⟨(ceilI mx tx).toNat,by have:=ceilI_lim (a:=mx) (b:=tx) (by omega) (by omega);omega⟩
     obtain⟨ny,hny⟩: ∃ny:Nat,ceilI my ty=ny:=⟨(ceilI my ty).toNat,by have:=ceilI_lim (a:=my) (b:=ty) (by omega) (by omega);omega⟩
     have htx:tx≤544:=by omega
     have hty:ty≤544:=by omega
     have htx0:ox<tx:=by omega
     have hty0:oy<ty:=by omega
     have T1:=hid (fun w'=>TIL.out w' tx ty nx ny htx0 (by omega) hty0 (by omega) hnx hny)
     obtain⟨N,hN⟩: ∃N,nx*ny=N:=⟨_,rfl⟩
     rw [hN]at T1
     have HN:=hid hN
     have HCX:=hid hnx
     have HCY:=hid hny
     have HBM:=hid HM.out.bm
     have HBP:=hid HM.out.bp
     clear hq hnx hny hN
     go_wp2_with (first|(refine wpList_load_row rfl _ _ rfl _ rfl _ _ _ _ HBM.out Tryz.underlying29 rfl (by kernel_rfl) ?_)|(refine wpList_load_row rfl _ _ rfl _ rfl _ _ _ _ HBP.out Tryz.underlying31 rfl (by kernel_rfl) ?_))
     refine(T1.out _).mono ?_
     rintro e w5 ⟨rfl,hk5⟩
     replace HM:=hid (HM.out.callF hk5).1
     clear hk5 HBM HBP T1
     by_cases h6:6<N
     · have hd6:decide ((6:Int)<(N:Int))=true:=by simp;omega
       have hd6':decide (6<N)=true:=by simp;omega
       have hq16:q≤16:=by
        have hq:=HQ.out
        rcases Nat.lt_or_ge q 32 with h|h
        · omega
        · have h1:=HCX.out
          have h2:=HCY.out
          have h3:=HN.out
          rw [ceil_one (by omega) (by omega)]at h1
          rw [ceil_one (by omega) (by omega)]at h2
          obtain rfl:nx=1:=by omega
          obtain rfl:ny=1:=by omega
          omega
       have v0:w5.cell? ⟨gp,0,none⟩=some (.int .i64 tx):=HM.out.bp.cell 0
       have v1:w5.cell? ⟨gp,1,none⟩=some (.int .i64 ty):=HM.out.bp.cell 1
       have y0:=HM.out.bp.frozen 0
       have y1:=HM.out.bp.frozen 1
       have hw1:IntKind.i64.wrap (2*tx)=2*tx:=IntWalk.i64_in _ (by omega)
       have hw2:IntKind.i64.wrap (2*ty)=2*ty:=IntWalk.i64_in _ (by omega)
       have HM6:=hid (show Mk G1 w [] none s gm gp f #[.int .i64 mx,.int .i64 my,.int .i64 ox,.int .i64 oy,.slice none 0 0] #[.int .i64 (2*tx),.int .i64 (2*ty),.int .i64 lev,.int .i64 cbw,.int .i64 cbh,.int .i64 pr,.int .i64 style,.int .i64 order,.int .i64 lay,.bool false,.bool f.sop,.bool f.eph] ((w5.setCell ⟨gp,0,none⟩ (.int .i64 (2*tx))).setCell ⟨gp,1,none⟩ (.int .i64 (2*ty)))from HM.out.setP01 _ _)
       have hm1:=hid (txF_blk HM.out.bp (z:=tx) rfl)
       have hm2:=hid (txF_blk HM6.out.bp (z:=2*tx) rfl)
       go_wp2_with fail
       go_roundw
       case rel=>exact⟨2*q,2*tx,2*ty,hid (by have hq:=HQ.out;omega),HM6⟩
       case measure=>
        have h0:=hid (txF_blk HMr.out.bp (z:=tx) rfl)
        rw [hm2.out,h0.out]
        omega
     · have hd6:decide ((6:Int)<(N:Int))=false:=by simp;omega
       have hd6':decide (6<N)=false:=by simp;omega
       have HN6:=hid (show N≤6 from by omega)
       clear h6
       go_upto_region 9 with fail
       clear hd6 hd6' HMr
       have z5:w5.cell? ⟨s,5,none⟩=some (.int .i64 f.depth):=by have h:=HM.out.bf.1.cell 5;rw [HFC.out]at h;exact h
       have z4:w5.cell? ⟨s,4,none⟩=some (.int .i64 f.comps):=by have h:=HM.out.bf.1.cell 4;rw [HFC.out]at h;exact h
       obtain⟨c7,hc7⟩: ∃c7:Int,f.depth%10=c7:=⟨_,rfl⟩
       have lc7:=mod_lim f.depth (n:=10) (by omega)
       rw [hc7]at lc7
       obtain⟨dep,vdep⟩: ∃dep:Nat,1+c7=dep:=⟨(1+c7).toNat,by omega⟩
       have hw7:IntKind.i64.wrap (1+c7)=(dep:Int):=by rw [vdep];exact IntWalk.i64_in _ (by omega)
       obtain⟨c8,hc8⟩: ∃c8:Int,f.comps%4=c8:=⟨_,rfl⟩
       have lc8:=mod_lim f.comps (n:=4) (by omega)
       rw [hc8]at lc8
       obtain⟨n,vn⟩: ∃n:Nat,1+c8=n:=⟨(1+c8).toNat,by omega⟩
       have hw8:IntKind.i64.wrap (1+c8)=(n:Int):=by rw [vn];exact IntWalk.i64_in _ (by omega)
       have bdep:1≤dep∧dep≤10:=by omega
       have bn:1≤n∧n≤4:=by omega
       have HC7:=hid hc7
       have HC8:=hid hc8
       clear hc7 hc8 vdep vn
       go_wp2_with fail
       refine(W6.out _ f.depth HF.out.depth 10 (by omega) (by omega)).mono ?_
       rintro e w6 ⟨rfl,rfl⟩
       rw [HC7.out]
       go_wp2_with fail
       refine(W6.out _ f.comps HF.out.comps 4 (by omega) (by omega)).mono ?_
       rintro e w6 ⟨rfl,rfl⟩
       rw [HC8.out]
       obtain⟨sb,hsb⟩: ∃sb:Bool,(f.sub.tmod 5==1)=sb:=⟨_,rfl⟩
       have HM0:=hid (HM.out.nil 52 5 (.inl rfl))
       go_wp2_with fail
       clear z5 z4 lc7 lc8 hw7 hw8 HC7 HC8
       go_loopw [10] (fun v wr=> ∃(c:Nat) (G:Nat→Option Kd) (A:Option Addr) (cap:Nat) (cs:List Cm),c≤n∧v=.int .i64 c∧Hid (Mk G w [⟨52,5,A,c,cap,cms cs⟩] none s gm gp f #[.int .i64 mx,.int .i64 my,.int .i64 ox,.int .i64 oy,.slice A c cap] #[.int .i64 tx,.int .i64 ty,.int .i64 lev,.int .i64 cbw,.int .i64 cbh,.int .i64 pr,.int .i64 style,.int .i64 order,.int .i64 lay,.bool false,.bool f.sop,.bool f.eph] wr)∧Hid (cs.length=c)∧Hid (∀ C∈cs,CmM G wr ⟨ox,oy,mx,my⟩ dep f.sg sb C)) (fun v _=>n-(intOf v).toNat)
       case atStart=>exact⟨0,G1,none,0,[],by omega,rfl,HM0,hid rfl,hid (fun _ h=>by cases h)⟩
       case round=>
        clear HM HM0
        obtain⟨c,G,A,cap,cs,hc,rfl,HM,HCL,HCS⟩:=hrel
        by_cases hcn:c<n
        · skip
          have z7:wr.cell? ⟨s,7,none⟩=some (.bool f.sg):=by have h:=HM.out.bf.1.cell 7;rw [HFC.out]at h;exact h
          go_upto_region 15 with(refine wpList_store_row rfl _ _ _ rfl wr.heap.size _ rfl rfl _ _ (Blk.new wr _ _) (by kernel_rfl) rfl (by simp [Value.oneCell']) ?_)
          rw [World.setRow_alloc_new]
          try simp only [NS]
          have q1:=HM.out.newB #[.int .i64 dep,.bool f.sg,.int .i64 1,.int .i64 1,.slice none 0 0]
          have HCS1:=hid (fun C hC=>(HCS.out C hC).nx q1.2)
          have HM1:=hid q1.1
          obtain⟨gx,hgx⟩: ∃gx,wr.heap.size=gx:=⟨_,rfl⟩
          rw [hgx]at HM1
          rw [hgx]
          clear q1 HM HCS z7
          generalize wr.alloc (.cells #[.int .i64 dep,.bool f.sg,.int .i64 1,.int .i64 1,.slice none 0 0] 52)=w6 at*
          clear hgx
          have z6:w6.cell? ⟨s,6,none⟩=some (.int .i64 f.sub):=by have h:=HM1.out.bf.1.cell 6;rw [HFC.out]at h;exact h
          have hsub:=HF.out.sub
          obtain⟨ht1,ht2,ht3,ht4⟩:=tmod_fix f.sub 5 (by omega)
          have tw1:wrap64 (f.sub.tmod 5)=f.sub.tmod 5:=IntWalk.wrap64_in _ (by omega)
          have tw2:IntKind.i64.wrap (f.sub.tmod 5)=f.sub.tmod 5:=IntWalk.i64_in _ (by omega)
          clear ht1 ht2 ht3 ht4
          go_cut [131] (fun v wx=> ∃b:Bool,v=.bool b∧Hid (b=true→sb=true)∧w6=wx)
          case first=>
           as_aux_lemma=>
            cases sb with
            |false=>
             go_wp2_with fail
             go_meet
             exact⟨false,rfl,hid (fun h=>by cases h),rfl⟩
            |true=>
             go_wp2_with fail
             go_meet
             exact⟨_,rfl,hid (fun _=>by simp),rfl⟩
          obtain⟨b,rfl,HB,rfl⟩:=hcut
          go_upto_if 131 with fail
          go_cut [] (fun wx=> ∃(dp dx dy:Nat),Hid ((1≤dp∧dp≤10)∧(1≤dx∧dx≤3)∧(1≤dy∧dy≤3))∧Hid (sb=false→dp=dep∧dx=1∧dy=1)∧Hid (Mk G w [⟨52,5,A,c,cap,cms cs⟩] (some (gx,#[.int .i64 dp,.bool f.sg,.int .i64 dx,.int .i64 dy,.slice none 0 0])) s gm gp f #[.int .i64 mx,.int .i64 my,.int .i64 ox,.int .i64 oy,.slice A c cap] #[.int .i64 tx,.int .i64 ty,.int .i64 lev,.int .i64 cbw,.int .i64 cbh,.int .i64 pr,.int .i64 style,.int .i64 order,.int .i64 lay,.bool false,.bool f.sop,.bool f.eph] wx)∧Hid (Nx G w6 G wx))
          case first=>
           as_aux_lemma=>
            cases b with
            |false=>
             go_wp2_with fail
             go_meet
             exact⟨dep,1,1,hid ⟨bdep,by omega,by omega⟩,hid (fun _=>⟨rfl,rfl,rfl⟩),HM1,hid Nx.refl⟩
            |true=>
             have hst:=HB.out rfl
             have e5:=wrap_i64_tdiv f.sub 5 hsub.1 hsub.2 (by omega)
             have e15:=wrap_i64_tdiv f.sub 15 hsub.1 hsub.2 (by omega)
             have e5':wrap64 (f.sub.tdiv 5)=f.sub.tdiv 5:=by have h:=e5;rw [IntKind.wrap_i64]at h;unfold wrap64;exact h
             have e15':wrap64 (f.sub.tdiv 15)=f.sub.tdiv 15:=by have h:=e15;rw [IntKind.wrap_i64]at h;unfold wrap64;exact h
             obtain⟨Z1,hz1⟩: ∃Z1,IntKind.i64.wrap (f.sub.tdiv 5+(c:Int))=Z1:=⟨_,rfl⟩
             have r1:R64 Z1:=by rw [← hz1];exact r64_wrap _
             obtain⟨Z2,hz2⟩: ∃Z2,f.sub.tdiv 15=Z2:=⟨_,rfl⟩
             have r2:R64 Z2:=by rw [← hz2,←e15];exact r64_wrap _
             rw [hz2]at e15 e15'
             have hz3:IntKind.i64.wrap ((dep:Int)+(c:Int))=(dep:Int)+(c:Int):=IntWalk.i64_in _ (by omega)
             obtain⟨k1,hk1⟩: ∃k1,Z1%3=k1:=⟨_,rfl⟩
             obtain⟨k2,hk2⟩: ∃k2,Z2%3=k2:=⟨_,rfl⟩
             obtain⟨k3,hk3⟩: ∃k3,((dep:Int)+(c:Int))%10=k3:=⟨_,rfl⟩
             have l1:=mod_lim Z1 (n:=3) (by omega)
             have l2:=mod_lim Z2 (n:=3) (by omega)
             have l3:=mod_lim ((dep:Int)+(c:Int)) (n:=10) (by omega)
             rw [hk1]at l1
             rw [hk2]at l2
             rw [hk3]at l3
             have L1:=hid (show∀w',Calls Tryz.prog 16 #[.int .i64 Z1,.int .i64 3] w' (fun e w''=>e=.returned (.int .i64 k1)∧w''=w')from fun w'=>by have h:=W6.out w' Z1 r1 3 (by omega) (by omega);rw [hk1]at h;exact h.mono (fun e w'' he=>⟨he.1,he.2.symm⟩))
             have L2:=hid (show∀w',Calls Tryz.prog 16 #[.int .i64 Z2,.int .i64 3] w' (fun e w''=>e=.returned (.int .i64 k2)∧w''=w')from fun w'=>by have h:=W6.out w' Z2 r2 3 (by omega) (by omega);rw [hk2]at h;exact h.mono (fun e w'' he=>⟨he.1,he.2.symm⟩))
             have L3:=hid (show∀w',Calls Tryz.prog 16 #[.int .i64 ((dep:Int)+(c:Int)),.int .i64 10] w' (fun e w''=>e=.returned (.int .i64 k3)∧w''=w')from fun w'=>by have h:=W6.out w' ((dep:Int)+(c:Int)) ⟨by omega,by omega⟩ 10 (by omega) (by omega);rw [hk3]at h;exact h.mono (fun e w'' he=>⟨he.1,he.2.symm⟩))
             obtain⟨dx,vdx⟩: ∃dx:Nat,1+k1=dx:=⟨(1+k1).toNat,by omega⟩
             obtain⟨dy,vdy⟩: ∃dy:Nat,1+k2=dy:=⟨(1+k2).toNat,by omega⟩
             obtain⟨dp,vdp⟩: ∃dp:Nat,1+k3=dp:=⟨(1+k3).toNat,by omega⟩
             have u1:IntKind.i64.wrap (1+k1)=(dx:Int):=by rw [vdx];exact IntWalk.i64_in _ (by omega)
             have u2:IntKind.i64.wrap (1+k2)=(dy:Int):=by rw [vdy];exact IntWalk.i64_in _ (by omega)
             have u3:IntKind.i64.wrap (1+k3)=(dp:Int):=by rw [vdp];exact IntWalk.i64_in _ (by omega)
             have HDB:=hid (show(1≤dp∧dp≤10)∧(1≤dx∧dx≤3)∧(1≤dy∧dy≤3) by omega)
             clear vdx vdy vdp hk1 hk2 hk3 r1 r2 l1 l2 l3
             have hbx:=(HM1.out.wk.bk gx _ rfl).1
             have HSX:=hid (Blk.ne_ HM1.out.bf.1 hbx (by decide))
             have q2:=HM1.out.setB230 (.int .i64 dx) (.int .i64 dy) (.int .i64 dp)
             have q3:=q2.1.callF ((Keep.refl _ _).drew)
             have HMZ:=hid (show Mk G w [⟨52,5,A,c,cap,cms cs⟩] (some (gx,#[.int .i64 dp,.bool f.sg,.int .i64 dx,.int .i64 dy,.slice none 0 0])) s gm gp f #[.int .i64 mx,.int .i64 my,.int .i64 ox,.int .i64 oy,.slice A c cap] #[.int .i64 tx,.int .i64 ty,.int .i64 lev,.int .i64 cbw,.int .i64 cbh,.int .i64 pr,.int .i64 style,.int .i64 order,.int .i64 lay,.bool false,.bool f.sop,.bool f.eph] (((w6.setCell ⟨gx,2,none⟩ (.int .i64 dx)).setCell ⟨gx,3,none⟩ (.int .i64 dy)).setCell ⟨gx,0,none⟩ (.int .i64 dp)).drew from q3.1)
             have HNZ:=hid (show Nx G w6 G (((w6.setCell ⟨gx,2,none⟩ (.int .i64 dx)).setCell ⟨gx,3,none⟩ (.int .i64 dy)).setCell ⟨gx,0,none⟩ (.int .i64 dp)).drew from q2.2.trans q3.2)
             have z6':w6.drew.cell? ⟨s,6,none⟩=some (.int .i64 f.sub):=z6
             have xa:w6.drew.cell? ⟨gx,2,none⟩=some (.int .i64 1):=hbx.cell 2
             have xb:w6.drew.frozen? ⟨gx,2,none⟩=false:=hbx.frozen 2
             have xa':w6.cell? ⟨gx,2,none⟩=some (.int .i64 1):=hbx.cell 2
             have xb':w6.frozen? ⟨gx,2,none⟩=false:=hbx.frozen 2
             have h2:=hbx.set_ 2 (.int .i64 dx)
             have xc:(w6.drew.setCell ⟨gx,2,none⟩ (.int .i64 dx)).cell? ⟨gx,3,none⟩=some (.int .i64 1):=h2.cell 3
             have xd:(w6.drew.setCell ⟨gx,2,none⟩ (.int .i64 dx)).frozen? ⟨gx,3,none⟩=false:=h2.frozen 3
             have xc':w6.cell? ⟨gx,3,none⟩=some (.int .i64 1):=hbx.cell 3
             have xd':w6.frozen? ⟨gx,3,none⟩=false:=hbx.frozen 3
             have xe':w6.cell? ⟨gx,0,none⟩=some (.int .i64 dep):=hbx.cell 0
             have xf':w6.frozen? ⟨gx,0,none⟩=false:=hbx.frozen 0
             clear q2 q3 hbx h2
             go_upto_region 16 with fail
             refine At.start (L:=#[false,false,false,false,false,false,false,false,false,false,false,false,false,false,false,false,false,false,false,false,false,false,false]) (by kernel_rfl) rfl ?_
             refine AtP 0 132 ?_
             refine AtL 1 133 Tryz.underlying3 ?_
             refine AtP 2 134 ?_
             refine AtP 3 135 ?_
             refine AtP 4 136 ?_
             refine At.given 5 (some 137) (.int .i64 k1) rfl rfl (by kernel_rfl) (fun _ _ _ h=>h) rfl (fun w'=>?y5g) (fun w'=>L1.out w') ?_
             case y5g=>go_simp;try with_reducible rfl
             try simp only [NS]
             refine AtP 6 138 ?_
             refine AtP 7 139 ?_
             refine AtL 8 140 Tryz.underlying3 ?_
             refine AtP 9 141 ?_
             refine At.given 10 (some 142) (.int .i64 k2) rfl rfl (by kernel_rfl) (fun _ _ _ h=>h) rfl (fun w'=>?y10g) (fun w'=>L2.out w') ?_
             case y10g=>go_simp;try with_reducible rfl
             try simp only [NS]
             refine AtP 11 143 ?_
             refine AtP 12 144 ?_
             refine AtP 13 145 ?_
             refine AtP 14 146 ?_
             refine At.given 15 (some 147) (.int .i64 k3) rfl rfl (by kernel_rfl) (fun _ _ _ h=>h) rfl (fun w'=>?y15g) (fun w'=>L3.out w') ?_
             case y15g=>go_simp;try with_reducible rfl
             try simp only [NS]
             refine AtP 16 148 ?_
             refine AtP 17 149 ?_
             refine AtC 18 fun K hK=>?_
             go_simp
             skip
             refine hK _ _ all_nil ?_
             clear hK K
             try simp only [NS]
             refine AtP 19 150 ?_
             refine AtC 20 fun K hK=>?_
             go_simp
             skip
             refine hK _ _ all_nil ?_
             clear hK K
             try simp only [NS]
             refine AtP 21 151 ?_
             refine AtC 22 fun K hK=>?_
             go_simp
             skip
             refine hK _ _ all_nil ?_
             clear hK K
             try simp only [NS]
             refine At.done (by kernel_rfl) ?_
             go_wp2_with fail
             go_meet
             exact⟨dp,dx,dy,HDB,hid (fun h=>by rw [hst]at h;cases h),HMZ,HNZ⟩
          obtain⟨dp,dx,dy,HDB,HONE,HM,HNX⟩:=hcut
          replace HCS:=hid (fun C hC=>(HCS1.out C hC).nx HNX.out)
          clear HCS1 HNX HM1 z6 tw1 tw2 hsub
          generalize wc=w7 at*
          have hdb:=HDB.out
          obtain⟨lo,hlo⟩: ∃lo,loB dp f.sg=lo:=⟨_,rfl⟩
          obtain⟨hi,hhi⟩: ∃hi,hiB dp f.sg=hi:=⟨_,rfl⟩
          have lh:=lo_hi dp f.sg hdb.1.1 hdb.1.2
          rw [hlo,hhi]at lh
          have BND:=hid (fun w'=>bounds_any w' dp f.sg hdb.1.1 hdb.1.2)
          rw [hlo,hhi]at BND
          have HLO:=hid (And.intro hlo hhi)
          clear hlo hhi
          have hok:Rc.ok ⟨ox,oy,mx,my⟩ 12 17:=⟨lox.1,by simp only;omega,by simp only;omega,by simp only;omega,loy.1,by simp only;omega,by simp only;omega,by simp only;omega⟩
          have hpo:(Rc.part ⟨ox,oy,mx,my⟩ dx dy).ok 12 17:=hok.over ⟨by omega,by omega⟩ ⟨by omega,by omega⟩
          obtain⟨R,hR⟩: ∃R:Nat,(Rc.part ⟨ox,oy,mx,my⟩ dx dy).area=R:=⟨((Rc.part ⟨ox,oy,mx,my⟩ dx dy).area).toNat,by have:=hpo.area_le.1;omega⟩
          have hR144:R≤144:=by have:=hpo.area_le.2;omega
          have CPA:=hid (fun w'=>cpart_any w' ⟨mx,my,ox,oy,A,c,cap⟩ ⟨dp,f.sg,dx,dy,none,0,0⟩ (hok.fits24 (by omega)) (by show 1≤dx;omega) (by show dx≤4;omega) (by show 1≤dy;omega) (by show dy≤4;omega) (hpo.fits24 (by omega)))
          have CPB:Hid (∀ w',Calls Tryz.prog 19 #[.agg #[.int .i64 mx,.int .i64 my,.int .i64 ox,.int .i64 oy,.slice A c cap],.agg #[.int .i64 dp,.bool f.sg,.int .i64 dx,.int .i64 dy,.slice none 0 0]] w' fun e w''=>e=.returned (.int .i64 R)∧Keep (fun _=>False) w' w''):=hid (fun w'=>(CPA.out w').mono (fun e w'' he=>⟨by rw [he.1];show Ending.returned (.int .i64 (Rc.part ⟨ox,oy,mx,my⟩ dx dy).area)=_;rw [hR],he.2⟩))
          have HR:=hid hR
          clear hR hok hpo hdb CPA
          have HBX:=hid (HM.out.wk.bk gx _ rfl).1
          have x0:w7.cell? ⟨gx,0,none⟩=some (.int .i64 dp):=HBX.out.cell 0
          have x1:w7.cell? ⟨gx,1,none⟩=some (.bool f.sg):=HBX.out.cell 1
          go_wp2_with fail
          refine(BND.out _).mono ?_
          rintro e w8 ⟨rfl,rfl⟩
          clear x0 x1
          have HBM:=hid HM.out.bm
          go_wp2_with (first|(refine wpList_load_row rfl _ _ rfl _ rfl _ _ _ _ HBM.out Tryz.underlying29 rfl (by kernel_rfl) ?_)|(refine wpList_load_row rfl _ _ rfl _ rfl _ _ _ _ HBX.out Tryz.underlying52 rfl (by kernel_rfl) ?_))
          refine(CPB.out _).mono ?_
          rintro e w8 ⟨rfl,hk8⟩
          have q1:=HM.out.callF hk8
          replace HM:=hid q1.1
          replace HCS:=hid (fun C hC=>(HCS.out C hC).nx q1.2)
          clear q1 hk8 HBM HBX BND CPB
          have HM2:=hid (HM.out.nil 3 1 (.inr rfl))
          clear HM
          go_wp2_with fail
          go_loopw [15] (fun v wl=> ∃(i:Nat) (B:Option Addr) (bc:Nat) (zs:List Int),i≤R∧v=.int .i64 i∧Hid (Mk G w [⟨52,5,A,c,cap,cms cs⟩,⟨3,1,B,i,bc,zs.map (Value.int .i64)⟩] (some (gx,#[.int .i64 dp,.bool f.sg,.int .i64 dx,.int .i64 dy,.slice B i bc])) s gm gp f #[.int .i64 mx,.int .i64 my,.int .i64 ox,.int .i64 oy,.slice A c cap] #[.int .i64 tx,.int .i64 ty,.int .i64 lev,.int .i64 cbw,.int .i64 cbh,.int .i64 pr,.int .i64 style,.int .i64 order,.int .i64 lay,.bool false,.bool f.sop,.bool f.eph] wl)∧Hid (∀ z∈zs,lo≤z∧z≤hi)∧Hid (Nx G w8 G wl)) (fun v _=>R-(intOf v).toNat)
          case atStart=>exact⟨0,none,0,[],by omega,rfl,HM2,hid (fun _ h=>by cases h),hid Nx.refl⟩
          case round=>
           clear HM2
           obtain⟨i,B,bc,zs,hiR,rfl,HM,HZS,HNX⟩:=hrel
           by_cases hin:i<R
           · have z20:wr.cell? ⟨s,20,none⟩=some (.slice f.A f.n f.c):=by have h:=HM.out.bf.1.cell 20;rw [HFC.out]at h;exact h
             go_upto_if 172 with fail
             go_cut [16] (fun v wx=> ∃z:Int,v=.int .i64 z∧Hid (R64 z)∧Hid (Mk G w [⟨52,5,A,c,cap,cms cs⟩,⟨3,1,B,i,bc,zs.map (Value.int .i64)⟩] (some (gx,#[.int .i64 dp,.bool f.sg,.int .i64 dx,.int .i64 dy,.slice B i bc])) s gm gp f #[.int .i64 mx,.int .i64 my,.int .i64 ox,.int .i64 oy,.slice A c cap] #[.int .i64 tx,.int .i64 ty,.int .i64 lev,.int .i64 cbw,.int .i64 cbh,.int .i64 pr,.int .i64 style,.int .i64 order,.int .i64 lay,.bool false,.bool f.sop,.bool f.eph] wx)∧Hid (Nx G wr G wx))
             case first=>
              as_aux_lemma=>
               clear hs1 hs12 lox loy la lb lc0 lc1 lc2 lc3 lc4 lc5 lc6 hwc1 hwc2 hwc3 hwc6 blev bcbw bcbh bprec bstyle border blay hsg hsp hgm lox6 loy6 hmx17 hmy17 lmx lmy htx hty htx0 hty0 bdep bn hc hcn hsb lh
               by_cases h0:0<f.n
               · have hd0:decide ((0:Int)<(f.n:Int))=true:=by simp;omega
                 have hd0':decide (0<f.n)=true:=by simp;omega
                 obtain⟨ns,hns⟩:=HF.out.zs
                 have hnb:=HF.out.nb
                 have hr:=hns.keep HM.out.wk.keep (fun _ _ h=>h)
                 obtain⟨j,d,e7,hjn,t1,t2,t3,t4,t5,t6,t7,t8,t9,t10,u1,u2,u3,u4⟩:=mk_raw i f.n h0 (by omega) (by omega)
                 obtain⟨bb,o,hA,hcj0⟩:=hr.int_ix (k:=j) hjn
                 obtain⟨y0,hcj⟩: ∃y0,wr.cell? ⟨bb,o+j,none⟩=some (.int .i64 y0):=⟨_,hcj0⟩
                 clear hcj0 hns hr
                 rw [hA]at z20
                 obtain⟨q,z,hq,hq',hz,hz',hrz⟩:=mk_q y0 d e7
                 have HRZ:=hid hrz
                 clear hrz
                 have c20:wr.drew.cell? ⟨s,20,none⟩=_:=z20
                 have cj:wr.drew.cell? ⟨bb,o+j,none⟩=some (.int .i64 y0):=hcj
                 clear hcj z20
                 go_upto_region 24 with fail
                 refine At.start (L:=#[false,false,false,false,false,false,false,false,false,false,false,false,false,false,false,false,false,false,false,false]) (by kernel_rfl) rfl ?_
                 refine AtP 0 173 ?_
                 refine AtL 1 174 Tryz.underlying22 ?_
                 refine AtP 2 175 ?_
                 refine AtP 3 176 ?_
                 refine AtL 4 177 Tryz.underlying22 ?_
                 refine AtP 5 178 ?_
                 refine At.read 6 (some 179) (fun _=>True) (v:=(.int .i64 j)) rfl rfl (by kernel_rfl) (fun _ _ _ h=>h) rfl trivial (fun w' hw'=>?y6i) ?_
                 case y6i=>exact run_rem_op rfl rfl rfl (by simpa using t8) t1 w'
                 try simp only [NS]
                 refine AtP 7 180 ?_
                 refine AtL 8 181 Tryz.underlying3 ?_
                 refine AtP 9 182 ?_
                 refine AtP 10 183 ?_
                 refine AtL 11 184 Tryz.underlying22 ?_
                 refine AtP 12 185 ?_
                 refine At.read 13 (some 186) (fun _=>True) (v:=(.int .i64 d)) rfl rfl (by kernel_rfl) (fun _ _ _ h=>h) rfl trivial (fun w' hw'=>?y13i) ?_
                 case y13i=>exact run_quo_op rfl rfl rfl (by simpa using t8) (by rw [t2];exact t6) w'
                 try simp only [NS]
                 refine AtP 14 187 ?_
                 refine At.read 15 (some 188) (fun _=>True) (v:=(.int .i64 q)) rfl rfl (by kernel_rfl) (fun _ _ _ h=>h) rfl trivial (fun w' hw'=>?y15i) ?_
                 case y15i=>exact run_quo_op rfl rfl rfl (by simpa using t9) hq w'
                 try simp only [NS]
                 refine AtP 16 189 ?_
                 refine At.read 17 (some 190) (fun _=>True) (v:=(.int .i64 e7)) rfl rfl (by kernel_rfl) (fun _ _ _ h=>h) rfl trivial (fun w' hw'=>?y17i) ?_
                 case y17i=>exact run_quo_op rfl rfl rfl (by decide) (by rw [u1];exact u4) w'
                 try simp only [NS]
                 refine AtP 18 191 ?_
                 refine AtP 19 16 ?_
                 refine At.done (by kernel_rfl) ?_
                 go_wp2_with fail
                 go_meet
                 exact⟨z,rfl,HRZ,hid (HM.out.callF ((Keep.refl _ wr).drew)).1,hid (HM.out.callF ((Keep.refl _ wr).drew)).2⟩
               · have hd0:decide ((0:Int)<(f.n:Int))=false:=by simp;omega
                 have hd0':decide (0<f.n)=false:=by simp;omega
                 go_wp2_with fail
                 go_meet
                 exact⟨i,rfl,hid ⟨by omega,by omega⟩,HM,hid Nx.refl⟩
             obtain⟨z,rfl,HZR,HM',HNX2⟩:=hcut
             replace HNX:=hid (HNX.out.trans HNX2.out)
             have q1:=HM'.out.callF ((Keep.refl _ wc).drew)
             replace HM:=hid q1.1
             replace HNX:=hid (HNX.out.trans q1.2)
             obtain⟨kk,hkk⟩: ∃kk,z%(hi-lo+1)=kk:=⟨_,rfl⟩
             have lk:=mod_lim z (n:=hi-lo+1) (by omega)
             rw [hkk]at lk
             have WL:=hid (show∀w',Calls Tryz.prog 16 #[.int .i64 z,.int .i64 (hi-lo+1)] w' (fun e w''=>e=.returned (.int .i64 kk)∧w''=w')from fun w'=>by have h:=within12_any w' z (hi-lo+1) HZR.out.1 HZR.out.2 (by omega) (by omega);rw [hkk]at h;exact h.mono (fun e w'' he=>⟨he.1,he.2.symm⟩))
             obtain⟨y,hy⟩: ∃y,lo+kk=y:=⟨_,rfl⟩
             have s1:IntKind.i64.wrap (hi-lo)=hi-lo:=IntWalk.i64_in _ (by omega)
             have s2:IntKind.i64.wrap (hi-lo+1)=hi-lo+1:=IntWalk.i64_in _ (by omega)
             have s3:IntKind.i64.wrap (lo+kk)=y:=by rw [hy];exact IntWalk.i64_in _ (by omega)
             have hyb:lo≤y∧y≤hi:=by omega
             have x4:wc.drew.cell? ⟨gx,4,none⟩=some (.slice B i bc):=(HM.out.wk.bk gx _ rfl).1.cell 4
             have HOW:=hid (show wc.drew.ownsRow w.heap.size 3 1 (.slice B i bc) i (zs.map (Value.int .i64))from HM.out.wk.at_ 1 rfl)
             have hbw:w.heap.size≤wc.drew.heap.size:=HM.out.wk.keep.size
             clear q1 HM' HNX2 HZR hkk hy z20
             go_upto_region 25 with fail
             refine At.start (L:=#[false,false,false,false,false,false,false,false,false,false,false,false,false,false]) (by kernel_rfl) rfl ?_
             refine AtP 0 192 ?_
             refine AtL 1 193 Tryz.underlying22 ?_
             refine AtP 2 194 ?_
             refine AtP 3 195 ?_
             refine AtP 4 196 ?_
             refine AtP 5 197 ?_
             refine AtP 6 198 ?_
             refine AtP 7 199 ?_
             refine At.given 8 (some 200) (.int .i64 kk) rfl rfl (by kernel_rfl) (fun _ _ _ h=>h) rfl (fun w'=>?y8h) (fun w'=>WL.out w') ?_
             case y8h=>go_simp;try with_reducible rfl
             try simp only [NS]
             refine AtP 9 201 ?_
             refine At.call_all 10 rfl (by kernel_rfl) rfl (fun K hK=>?_)
             go_simp
             skip
             refine hK _ _ (all_cons (by first|exact((Keep.refl (fun _=>False) _).alloc _).cell (by assumption) (fun h=>h)) all_nil) ?_
             clear hK K
             try simp only [NS]
             refine AtC 11 fun K hK=>?_
             refine wp_append_rowsA _ (.tmp 193) (.tmp 202) 22 rfl w.heap.size 3 i1 _ 1 8 Tryz.underlying22 hi1 hj0 hj1 hj2 rfl (by omega) HOW.out rfl #[.int .i64 y] rfl rfl (by intro v hv;simp at hv;subst hv;rfl) (by simp only [maxLen];omega) (by omega) hbw ?_
             intro A8 c8 w10 hown8 hk8 hat8
             have hx:=HM.out.row 1 (u':=⟨3,1,A8,i+1,c8,(zs++[y]).map (Value.int .i64)⟩) rfl rfl (by rw [List.map_append];exact hown8) hk8 hat8
             have t7:w10.cell? ⟨gx,4,none⟩=some (.slice B i bc):=(hx.1.wk.bk gx _ rfl).1.cell 4
             have f7:w10.frozen? ⟨gx,4,none⟩=false:=(hx.1.wk.bk gx _ rfl).1.frozen 4
             have q4:=hx.1.setB4 (.slice A8 (i+1) c8)
             have HM8:=hid (show Mk G w [⟨52,5,A,c,cap,cms cs⟩,⟨3,1,A8,i+1,c8,(zs++[y]).map (Value.int .i64)⟩] (some (gx,#[.int .i64 dp,.bool f.sg,.int .i64 dx,.int .i64 dy,.slice A8 (i+1) c8])) s gm gp f #[.int .i64 mx,.int .i64 my,.int .i64 ox,.int .i64 oy,.slice A c cap] #[.int .i64 tx,.int .i64 ty,.int .i64 lev,.int .i64 cbw,.int .i64 cbh,.int .i64 pr,.int .i64 style,.int .i64 order,.int .i64 lay,.bool false,.bool f.sop,.bool f.eph] (w10.setCell ⟨gx,4,none⟩ (.slice A8 (i+1) c8))from q4.1)
             have HNX8:=hid (HNX.out.trans (hx.2.trans q4.2))
             clear hx hown8 hk8 hat8 q4
             refine hK _ _ all_nil ?_
             clear hK K
             try simp only [NS]
             refine AtP 12 204 ?_
             refine AtC 13 fun K hK=>?_
             go_simp
             skip
             refine hK _ _ all_nil ?_
             clear hK K
             try simp only [NS]
             refine At.done (by kernel_rfl) ?_
             have HZS8:=hid (show∀v∈zs++[y],lo≤v∧v≤hi from fun v hv=>by
              rcases List.mem_append.1 hv with h|h
              · exact HZS.out v h
              · rw [List.mem_singleton]at h;rw [h];exact hyb)
             clear HM HNX HOW t7 f7 s1 s2 s3 x4
             go_wp2_with fail
             go_roundw
             case rel=>exact⟨i+1,A8,c8,zs++[y],by omega,by go_num,HM8,HZS8,HNX8⟩
             case measure=>simp [intOf]<;>omega
           · obtain rfl:i=R:=by omega
             obtain⟨G',hF,hN,hRo,hOw⟩:=HM.out.fin (us:=[⟨52,5,A,c,cap,cms cs⟩]) (u:=⟨3,1,B,i,bc,zs.map (Value.int .i64)⟩) Nat.one_pos
             have hcap:=own_cap hOw
             have HMF:=hid hF
             have HCN:=hid (show CmM G' wr ⟨ox,oy,mx,my⟩ dep f.sg sb ⟨dp,f.sg,dx,dy,B,i,bc⟩from by
              have hdb:=HDB.out
              have hlh:=HLO.out
              refine⟨⟨hdb.1.1,by simp only;omega,hdb.2.1.1,by simp only;omega,hdb.2.2.1,by simp only;omega⟩,hdb.1.2,HR.out,hcap,⟨zs,hRo,fun v hv=>?_⟩,fun h=>⟨(HONE.out h).1,rfl,(HONE.out h).2.1,(HONE.out h).2.2⟩⟩
              show loB dp f.sg≤v∧v≤hiB dp f.sg
              rw [hlh.1,hlh.2]
              exact HZS.out v hv)
             have HCS2:=hid (fun C hC=>((HCS.out C hC).nx HNX.out).nx hN)
             have HOW:=hid (show wr.ownsRow w.heap.size 52 5 (.slice A c cap) c (cms cs)from hF.wk.at_ 0 rfl)
             have hbw:w.heap.size≤wr.heap.size:=hF.wk.keep.size
             have HBX:=hid (hF.wk.bk gx _ rfl).1
             have m4:wr.cell? ⟨gm,4,none⟩=some (.slice A c cap):=hF.bm.cell 4
             clear hF hN hRo hOw HM HNX hcap
             go_wp2_with (first|(refine wpList_load_row rfl _ _ rfl _ rfl _ _ _ _ HBX.out Tryz.underlying52 rfl (by kernel_rfl) ?_)|(
              at_builtin
              go_must (refine wpList_append_rowsA _ rfl (.tmp 206) (.tmp 208) 27 rfl w.heap.size 52 i2 _ 5 56 Tryz.underlying27 hi2 ey0 ey1 ey2 rfl (by omega) HOW.out rfl #[.int .i64 dp,.bool f.sg,.int .i64 dx,.int .i64 dy,.slice B i bc] rfl rfl (by intro v hv;simp at hv;rcases hv with rfl|rfl|rfl|rfl|rfl<;>rfl) (by simp only [maxLen];omega) (by omega) hbw ?_)
              intro A8 c8 w8' hown8 hk8 hat8
              have hx:=HMF.out.row 0 (u':=⟨52,5,A8,c+1,c8,cms (cs++[⟨dp,f.sg,dx,dy,B,i,bc⟩])⟩) rfl rfl (by rw [cms_snoc];exact hown8) hk8 hat8
              have t4:w8'.cell? ⟨gm,4,none⟩=some (.slice A c cap):=hx.1.bm.cell 4
              have f4:w8'.frozen? ⟨gm,4,none⟩=false:=hx.1.bm.frozen 4
              have q4:=hx.1.setM4 (.slice A8 (c+1) c8)
              have HM8:=hid (show Mk G' w [⟨52,5,A8,c+1,c8,cms (cs++[⟨dp,f.sg,dx,dy,B,i,bc⟩])⟩] none s gm gp f #[.int .i64 mx,.int .i64 my,.int .i64 ox,.int .i64 oy,.slice A8 (c+1) c8] #[.int .i64 tx,.int .i64 ty,.int .i64 lev,.int .i64 cbw,.int .i64 cbh,.int .i64 pr,.int .i64 style,.int .i64 order,.int .i64 lay,.bool false,.bool f.sop,.bool f.eph] (w8'.setCell ⟨gm,4,none⟩ (.slice A8 (c+1) c8))from q4.1.noB)
              have HNX8:=hid (hx.2.trans q4.2)
              clear hx hown8 hk8 hat8 q4 m4))
             have HCS8:=hid (show∀C∈cs++[(⟨dp,f.sg,dx,dy,B,i,bc⟩:Cm)],CmM G' (w8'.setCell ⟨gm,4,none⟩ (.slice A8 (c+1) c8)) ⟨ox,oy,mx,my⟩ dep f.sg sb C from fun C hC=>by
              rcases List.mem_append.1 hC with h|h
              · exact(HCS2.out C h).nx HNX8.out
              · rw [List.mem_singleton]at h;rw [h];exact HCN.out.nx HNX8.out)
             go_roundw
             case rel=>exact⟨c+1,G',A8,c8,cs++[⟨dp,f.sg,dx,dy,B,i,bc⟩],by omega,by go_num,HM8,hid (by rw [List.length_append,HCL.out];rfl),HCS8⟩
             case measure=>simp [intOf]<;>omega
        · obtain rfl:c=n:=by omega
          obtain⟨rb,hrb⟩: ∃rb,f.rct=rb:=⟨_,rfl⟩
          have z8:wr.cell? ⟨s,8,none⟩=some (.bool f.rct):=by have h:=HM.out.bf.1.cell 8;rw [HFC.out]at h;exact h
          rw [hrb]at z8
          have z6:wr.cell? ⟨s,6,none⟩=some (.int .i64 f.sub):=by have h:=HM.out.bf.1.cell 6;rw [HFC.out]at h;exact h
          have v9:wr.cell? ⟨gp,9,none⟩=some (.bool false):=HM.out.bp.cell 9
          have y9:=HM.out.bp.frozen 9
          have hsub:=HF.out.sub
          obtain⟨ht1,ht2,ht3,ht4⟩:=tmod_fix f.sub 5 (by omega)
          have tw1:wrap64 (f.sub.tmod 5)=f.sub.tmod 5:=IntWalk.wrap64_in _ (by omega)
          have tw2:IntKind.i64.wrap (f.sub.tmod 5)=f.sub.tmod 5:=IntWalk.i64_in _ (by omega)
          clear ht1 ht2 ht3 ht4 hsub
          go_upto_region 27 with fail
          go_cut [] (fun wx=> ∃rct:Bool,Hid (rct=true→3≤c∧sb=false)∧Hid (Mk G w [⟨52,5,A,c,cap,cms cs⟩] none s gm gp f #[.int .i64 mx,.int .i64 my,.int .i64 ox,.int .i64 oy,.slice A c cap] #[.int .i64 tx,.int .i64 ty,.int .i64 lev,.int .i64 cbw,.int .i64 cbh,.int .i64 pr,.int .i64 style,.int .i64 order,.int .i64 lay,.bool rct,.bool f.sop,.bool f.eph] wx)∧Hid (Nx G wr G wx))
          case first=>
           as_aux_lemma=>
            have hne:(f.sub.tmod 5 != 1)=!sb:=by rw [← hsb];rfl
            have HSB:=hid hsb
            clear hsb hrb
            have fin: ∀b:Bool,(b=true→3≤c∧sb=false)→ ∃rct:Bool,Hid (rct=true→3≤c∧sb=false)∧Hid (Mk G w [⟨52,5,A,c,cap,cms cs⟩] none s gm gp f #[.int .i64 mx,.int .i64 my,.int .i64 ox,.int .i64 oy,.slice A c cap] #[.int .i64 tx,.int .i64 ty,.int .i64 lev,.int .i64 cbw,.int .i64 cbh,.int .i64 pr,.int .i64 style,.int .i64 order,.int .i64 lay,.bool rct,.bool f.sop,.bool f.eph] (wr.setCell ⟨gp,9,none⟩ (.bool b)))∧Hid (Nx G wr G (wr.setCell ⟨gp,9,none⟩ (.bool b))):=fun b hb=>⟨b,hid hb,hid (HM.out.setP9 (.bool b)).1,hid (HM.out.setP9 (.bool b)).2⟩
            have FIN:=hid fin
            clear fin
            cases rb with
            |false=>
             go_wp2_with fail
             go_meet
             exact FIN.out false (fun h=>by cases h)
            |true=>
             by_cases h3:3≤c
             · have g3:decide ((3:Int)≤(c:Int))=true:=by simp;omega
               have g3':decide (3≤c)=true:=by simp;omega
               cases sb with
               |false=>
                have hne':(f.sub.tmod 5 != 1)=true:=hne
                clear hne
                go_wp2_with fail
                go_meet
                exact FIN.out true (fun _=>⟨h3,rfl⟩)
               |true=>
                have hne':(f.sub.tmod 5 != 1)=false:=hne
                clear hne
                go_wp2_with fail
                go_meet
                exact FIN.out false (fun h=>by cases h)
             · have g3:decide ((3:Int)≤(c:Int))=false:=by simp;omega
               have g3':decide (3≤c)=false:=by simp;omega
               go_wp2_with fail
               go_meet
               exact FIN.out false (fun h=>by cases h)
          case rest=>
           obtain⟨rct,HRC,HM',HNX⟩:=hcut
           have HCS':=hid (fun C hC=>(HCS.out C hC).nx HNX.out)
           have q1:=HM'.out.callF ((Keep.refl _ wc).drew)
           replace HM:=hid q1.1
           replace HCS:=hid (fun C hC=>(HCS'.out C hC).nx q1.2)
           clear q1 HM' HNX HCS' z8 z6 v9 y9 tw1 tw2
           obtain⟨G',hF,hN,hRo,_⟩:=HM.out.fin (us:=[]) (u:=⟨52,5,A,c,cap,cms cs⟩) (by show 0<5;omega)
           have HF9:=hid hF
           have HRo:=hid hRo
           replace HCS:=hid (fun C hC=>(HCS.out C hC).nx hN)
           clear hF hN hRo HM
           have dm:wc.drew.rangeAt gm 0 (#[.int .i64 mx,.int .i64 my,.int .i64 ox,.int .i64 oy,.slice A c cap]:Array Value).toList:=HF9.out.bm.range
           have dp:wc.drew.rangeAt gp 0 (#[.int .i64 tx,.int .i64 ty,.int .i64 lev,.int .i64 cbw,.int .i64 cbh,.int .i64 pr,.int .i64 style,.int .i64 order,.int .i64 lay,.bool rct,.bool f.sop,.bool f.eph]:Array Value).toList:=HF9.out.bp.range
           have hs1g:s+1≠gp:=by have:=HF9.out.hp;omega
           have hs1m:s+1≠gm:=by have:=HF9.out.hm;omega
           go_upto_region 28 with fail
           rename_i KK hKK
           refine At.start (L:=#[false,false,false,false]) (by kernel_rfl) rfl ?_
           first|refine AtL 0 224 Tryz.underlying29 ?_|refine AtR 0 224 Tryz.underlying29 ?_
           first|refine AtL 1 225 Tryz.underlying31 ?_|refine AtR 1 225 Tryz.underlying31 ?_
           refine At.call_all 2 rfl (by kernel_rfl) rfl (fun K hK=>?_)
           refine wp_store_in0 rfl (Blk.drew HF9.out.r1) 29 _ _ rfl #[.int .i64 mx,.int .i64 my,.int .i64 ox,.int .i64 oy,.slice A c cap] rfl rfl rfl (by kernel_rfl) (by simp [Value.oneCell']) ?_
           intro wA hbA hkA
           have HBA:=hid hbA
           have HR2:=hid (HF9.out.r2.keep hkA (show¬(s+2=s+1) by omega))
           refine hK _ _ (by repeat' first|exact all_nil|refine all_cons (range_keep (by assumption) hkA (fun h=>by first|exact hs1g h.symm|exact hs1m h.symm)) ?_) ?_
           clear hK K
           try simp only [NS]
           refine AtC 3 fun K hK=>?_
           refine wp_store_in0 rfl HR2.out 31 _ _ rfl #[.int .i64 tx,.int .i64 ty,.int .i64 lev,.int .i64 cbw,.int .i64 cbh,.int .i64 pr,.int .i64 style,.int .i64 order,.int .i64 lay,.bool rct,.bool f.sop,.bool f.eph] rfl rfl rfl (by kernel_rfl) (by simp [Value.oneCell']) ?_
           intro wB hbB hkB
           have HBB:=hid hbB
           refine hK _ _ all_nil ?_
           clear hK K
           try simp only [NS]
           refine At.done (by kernel_rfl) ?_
           have HBA':=hid (HBA.out.keep hkB (show¬(s+1=s+2) by omega))
           have hk1:Keep (fun j=>j=s+1∨j=s+2) wc.drew wB:=(hkA.mono (fun _ _ h=>.inl h)).trans hkB (fun _ _ h=>.inr h)
           have hnx:Nx G' wc.drew G' wB:=⟨Mono.refl,_,hk1,fun j hj hr=>by
            rcases hj with h|h
            · rw [h,HF9.out.g1]at hr;cases hr
            · rw [h,HF9.out.g2]at hr;cases hr⟩
           have HKZ:=hid (HF9.out.wk.keep.new hk1 (fun j hj=>by have:=HF9.out.hs;rcases hj with h|h<;>omega))
           have HROZ:=hid (HRo.out.nx hnx)
           have HCSZ:=hid (fun C hC=>(HCS.out C hC).nx hnx)
           clear hbA hkA hbB hkB hk1 hnx HBA HR2 dm dp
           show KK _ _
           refine hKK _ _ (wp_ret ?_)
           have hPm:PmOk ⟨tx,ty,lev,cbw,cbh,pr,style,order,lay,rct,f.sop,f.eph⟩:=by
            have h1:=HPR.out
            have h2:=HQ.out
            constructor<;>(simp only;omega)
           have hpic:Pict wB ⟨mx,my,ox,oy,A,c,cap⟩ ⟨tx,ty,lev,cbw,cbh,pr,style,order,lay,rct,f.sop,f.eph⟩ cs nx ny:=
            pict_of (sb:=sb) (sg:=f.sg) (dep:=dep) ⟨lox.1,lox6,lmx,hmx17⟩ ⟨loy.1,loy6,lmy,hmy17⟩ HROZ.out.1 HCL.out bn HCSZ.out hPm (by show lay≤4;omega) htx0 hty0 HCX.out HCY.out (by rw [HN.out];exact HN6.out) HRC.out
           exact bodyPost_ret (v:=.tuple #[.agg #[.int .i64 mx,.int .i64 my,.int .i64 ox,.int .i64 oy,.slice A c cap],.agg #[.int .i64 tx,.int .i64 ty,.int .i64 lev,.int .i64 cbw,.int .i64 cbh,.int .i64 pr,.int .i64 style,.int .i64 order,.int .i64 lay,.bool rct,.bool f.sop,.bool f.eph]]) (ret_cell_cell rfl _ _ (s+1) (s+2) 29 31 _ _ _ _ HBA'.out HBB.out rfl rfl Tryz.underlying29 rfl (by kernel_rfl) Tryz.underlying31 rfl (by kernel_rfl)) rfl ⟨⟨mx,my,ox,oy,A,c,cap⟩,⟨tx,ty,lev,cbw,cbh,pr,style,order,lay,rct,f.sop,f.eph⟩,cs,nx,ny,rfl,hpic,by rw [HN.out];exact HN6.out,HKZ.out⟩
end Go.Proofs.YthfogcgdijmaoaaGreat
