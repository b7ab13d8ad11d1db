/-
  Part 24 of the proof: Tier. Conditions: those of the statements.
-/
import Derived.Test.YthfogcgdijmaoaaGreatW23
import Derived.Deep.DeepCutAuto
set_option maxRecDepth 100000
set_option maxHeartbeats 16000000
set_option linter.unusedVariables false
set_option linter.unusedSimpArgs false
namespace Go.Proofs.YthfogcgdijmaoaaGreat
open Go.RowKit
def TierP (w:World) (e:Ending) (w':World):Prop:=
 ∃(pl:Nat) (ps:List (Int×Bool)) (A:Option Addr) (cA:Nat) (bs:List Int) (B:Option Addr) (cB:Nat) (er:Int),
  e=.returned (.tuple #[.agg #[.int .i64 pl,.slice A ps.length cA,.slice B bs.length cB],.int .i64 er])∧pl≤30∧ps.length≤88∧bs.length≤100000∧bs.length≤cB∧EndsOk ps ps.length bs.length 0∧Bytes bs∧
  w'.ownsRow w.heap.size 145 2 (.slice A ps.length cA) ps.length (passL ps)∧w'.ownsRow w.heap.size 5 1 (.slice B bs.length cB) bs.length (bs.map (Value.int .u8))∧Keep (fun _=>False) w w'
theorem TierP.zero {w w':World} (er:Int) (hk:Keep (fun _=>False) w w'):TierP w (.returned (.tuple #[.agg #[.int .i64 0,.slice none 0 0,.slice none 0 0],.int .i64 er])) w':=
 ⟨0,[],none,0,[],none,0,er,rfl,by omega,by simp,by simp,by simp,EndsOk.nil,(fun _ h=>by cases h),World.ownsRow_nil _ _ _ _,World.ownsRow_nil _ _ _ _,hk⟩
def plF (gb:Nat) (w:World):Nat:=match w.cell? ⟨gb,0,none⟩with
 |some (.int _ p)=>(31-p).toNat
 |_=>0
theorem plF_ti {w0:World} {gr gb pl:Nat} {ps:List (Int×Bool)} {A:Option Addr} {cA:Nat} {bs:List Int} {B:Option Addr} {cB:Nat} {w:World} (h:TI w0 gr gb pl ps A cA bs B cB w):plF gb w=31-pl:=by
 unfold plF
 rw [show w.cell? ⟨gb,0,none⟩=some (.int .i64 pl)from h.blk.cell 0]
 simp only
 omega
theorem info_pass :(Tryz.prog.info? 145).map (fun i=>(i.zero,i.size,i.bytes))=some (some (.agg #[.int .i64 0,.bool false]),2,16):=by kernel_rfl
theorem two_one (a:Int) (b:Bool): ∀v∈(#[Value.int .i64 a,.bool b]).toList,v.oneCell'=true:=by
 intro v hv
 simp at hv
 rcases hv with rfl|rfl<;>rfl
theorem max_abs (z:Int) (h1: ¬z>1073741823) (h2: ¬z< -1073741823):0≤max z (-z)∧max z (-z)≤1073741823:=by omega
def Seg (B0:Nat) (d:Cd) (band style:Nat) (ps:List (Int×Bool)) (B:Option Addr) (f m lim:Nat) (w:World):Prop:=
 ∃(E R base ph:Nat) (raw:Bool) (u:Ws),Cod base (⟨d.g,d.gm,d.gn,d.gs,d.ge,d.ga,d.W,d.H,E,R⟩:Cd) band style raw u ph w∧ApB B u∧ph≤3+lim∧B0≤E∧B0≤R∧B0≤base∧EndsOk ps f m (outI raw u)
theorem tier_any (w:World) (W H band style:Nat) (V:Option Addr) (cV:Nat) (zs:List Int) (hv:Rd w V (W*H) (zs.map (Value.int .i64))) (hW:0<W) (hW2:W≤12) (hH:0<H) (hH2:H≤12) (hb:band≤3) (hs:style≤63):
 Calls Tryz.prog 60 #[.int .i64 W,.int .i64 H,.int .i64 band,.int .i64 style,.slice V (W*H) cV] w (TierP w):=by
 have hN:W*H≤12*12:=Nat.mul_le_mul hW2 hH2
 have e1:(W:Int)*(H:Int)=((W*H:Nat):Int):=by push_cast;rfl
 have e2:IntKind.i64.wrap ((W*H:Nat):Int)=((W*H:Nat):Int):=IntWalk.i64_in _ (by omega)
 have e3:wrap64 ((W*H:Nat):Int)=((W*H:Nat):Int):=IntWalk.wrap64_in _ (by omega)
 have HV:=hid hv
 have MAY:=hid (fun w=>may_any w W H band style ⟨by omega,by omega⟩ ⟨by omega,by omega⟩ hb hs)
 have BEG:=hid (fun w=>cbegin_any w W H band style hW hW2 hH hH2)
 obtain⟨N,hNN⟩: ∃N,W*H=N:=⟨_,rfl⟩
 have HNN:=hid hNN
 rw [hNN]at e1 e2 e3 hN HV
 rw [hNN]
 clear hNN hv
 obtain⟨ui0,uhi0,uhz0,uhz1,uhz2⟩:=info_parts info_u8
 obtain⟨pi0,phi0,phz0,phz1,phz2⟩:=info_parts info_pass
 have HK0:=hid ((Keep.refl (fun _=>False) w).alloc (.cells #[.int .i64 0,.slice none 0 0,.slice none 0 0] 117))
 have HR0:=hid (Blk.new w 117 #[.int .i64 0,.slice none 0 0,.slice none 0 0])
 go_enter Tryz.func60,Tryz.ntmps60
 go_wp2_with (go_at_call 81;refine(MAY.out _).mono ?_;rintro e w2 ⟨rfl,hw⟩;cases hw)
 refine(BEG.out _).mono ?_
 rintro e w2 ⟨d,cs,rfl,hn,hdW,hdH,n0,n1,n2,n3,n4,n5,hk⟩
 have hne0:w.heap.size<d.g:=by rw [World.size_alloc]at n0;omega
 have hc47: ∃x,w2.cell? ⟨d.g,47,none⟩=some x:=⟨_,(hn.blk.cell 47).trans (Array.getElem?_eq_getElem (by have:=hn.cb.size;omega))⟩
 obtain⟨x47,c47⟩:=hc47
 have f47:=hn.blk.frozen 47
 have HN:=hid hn
 have HK2:=hid (HK0.out.trans hk (fun _ _ h=>h))
 have HR2:=hid (HR0.out.keep hk id)
 clear hn hk HK0 HR0 BEG MAY
 go_wp2_with fail
 have hgr3:=HN.out.blk
 have HK3:=hid (((Keep.setCell HK2.out (p:=⟨d.g,47,none⟩) (.inr (by simp only;omega)) (.bool true))).alloc (.cells #[.int .i64 0,.slice none 0 0,.slice none 0 0] 117))
 have HC3:Hid (CdH d band style w.heap.size ((w2.setCell ⟨d.g,47,none⟩ (.bool true)).alloc (.cells #[.int .i64 0,.slice none 0 0,.slice none 0 0] 117))):=hid (by
  have hh:=HN.out
  rw [World.size_alloc]at n0 n1 n2 n3 n4 n5
  have hk:=(Keep.set1 w2 d.g 47 (.bool true))
  have hsz:=hh.cb.size
  have hb47: ∀j,j≠47→(cs.setIfInBounds 47 (.bool true))[j]? =cs[j]?:=fun j hj=>Array.getElem?_setIfInBounds_ne (by omega)
  obtain⟨c1,b1,_⟩:=hh.mag
  obtain⟨c2,b2,_⟩:=hh.neg
  obtain⟨c3,b3,_⟩:=hh.sig
  obtain⟨c4,b4,_⟩:=hh.seen
  obtain⟨c5,b5,_⟩:=hh.again
  have h0:CdH d band style w.heap.size (w2.setCell ⟨d.g,47,none⟩ (.bool true)):=⟨⟨_,hh.blk.set_ 47 _,⟨by rw [hb47 _ (by decide)];exact hh.cb.c0,by rw [hb47 _ (by decide)];exact hh.cb.c1,by rw [hb47 _ (by decide)];exact hh.cb.c2,by rw [hb47 _ (by decide)];exact hh.cb.c3,by rw [hb47 _ (by decide)];exact hh.cb.c4,by rw [hb47 _ (by decide)];exact hh.cb.c5,by rw [hb47 _ (by decide)];exact hh.cb.c6,by rw [hb47 _ (by decide)];exact hh.cb.c7,by rw [hb47 _ (by decide)];exact hh.cb.c8,fun k hk=>by rw [hb47 _ (by omega),hb47 _ (by omega)];exact hh.cb.cx k hk,by simpa using hsz⟩,Array.getElem?_setIfInBounds_self_of_lt (by omega)⟩,
   hh.mag.keep hk (Blk.ne_ b1 hh.blk (by decide)),hh.neg.keep hk (Blk.ne_ b2 hh.blk (by decide)),hh.sig.keep hk (Blk.ne_ b3 hh.blk (by decide)),hh.seen.keep hk (Blk.ne_ b4 hh.blk (by decide)),hh.again.keep hk (Blk.ne_ b5 hh.blk (by decide)),hh.mn,by omega,by omega,by omega,by omega,by omega,by omega⟩
  exact h0.keepF ((Keep.refl _ _).alloc _))
 have HT3:Hid (TI w w.heap.size w2.heap.size 0 [] none 0 [] none 0 ((w2.setCell ⟨d.g,47,none⟩ (.bool true)).alloc (.cells #[.int .i64 0,.slice none 0 0,.slice none 0 0] 117))):=hid (by
  have hsz:(w2.setCell ⟨d.g,47,none⟩ (.bool true)).heap.size=w2.heap.size:=by simp [World.setCell]
  refine⟨((HR2.out.far (p:=⟨d.g,47,none⟩) (by simp only;omega) _).alloc _),?_,World.ownsRow_nil _ _ _ _,World.ownsRow_nil _ _ _ _,?_,HK3.out,(fun _ h=>by cases h),Nat.le_refl _,HK2.out.size⟩
  · have:=Blk.new (w2.setCell ⟨d.g,47,none⟩ (.bool true)) 117 #[.int .i64 0,.slice none 0 0,.slice none 0 0]
    rw [hsz]at this
    exact this
  · have:=HR2.out.lt
    omega)
 clear hgr3 HN HK2 HR2 HK3 c47 f47 n0 n1 n2 n3 n4 n5
 generalize (w2.setCell ⟨d.g,47,none⟩ (.bool true)).alloc (.cells #[.int .i64 0,.slice none 0 0,.slice none 0 0] 117)=w3 at*
 generalize w2.heap.size=gb at*
 have HDN:=hid (show d.W*d.H=N by rw [hdW,hdH];exact HNN.out)
 go_loopw [14] (fun v wr=> ∃(i p:Nat),i≤N∧v=.int .i64 i∧p≤30∧Hid (CdH d band style w.heap.size wr)∧Hid (TI w w.heap.size gb p [] none 0 [] none 0 wr)) (fun v _=>N-(intOf v).toNat)
 case atStart=>exact⟨0,0,by omega,rfl,by omega,HC3,HT3⟩
 case round=>
  clear HC3 HT3
  obtain⟨i,p,hi,rfl,hp,HC,HT⟩:=hrel
  by_cases hiN:i<N
  ·
   as_aux_lemma=>
    obtain⟨ad,hVa,hcell⟩:=(HV.out.keepF HT.out.keep).at_ hiN
    obtain⟨z,hz,hzz⟩: ∃z,(zs.map (Value.int .i64)).getD i undef=.int .i64 z∧z∈zs:=by
     have hl:i<zs.length:=by have:=HV.out.1;rw [List.length_map]at this;omega
     exact⟨zs[i],by simp [hl],List.getElem_mem hl⟩
    have HZE:=hid (show(zs.map (Value.int .i64))[i]? =some (.int .i64 z) by
     have hl:i<(zs.map (Value.int .i64)).length:=by have:=HV.out.1;omega
     rw [← hz,List.getD_eq_getElem?_getD,List.getElem?_eq_getElem hl,Option.getD_some])
    rw [hz]at hcell
    clear hz hzz
    subst hVa
    by_cases hbig:z>1073741823
    · go_wp2_with (refine wpList_store_row rfl _ _ _ rfl w.heap.size _ rfl rfl _ _ HT.out.res (by kernel_rfl) rfl (by simp [Value.oneCell']) ?_)
      (exact bodyPost_ret (v:=.tuple #[.agg #[.int .i64 0,.slice none 0 0,.slice none 0 0],.int .i64 11]) (ret_cell_tmp rfl _ _ w.heap.size 117 _ _ _ HT.out.res.row rfl rfl Tryz.underlying117 rfl (by kernel_rfl)) rfl (TierP.zero 11 (HT.out.keep.row (.inr (Nat.le_refl _)) _)))
    · by_cases hsm:z< -1073741823
      · go_wp2_with (refine wpList_store_row rfl _ _ _ rfl w.heap.size _ rfl rfl _ _ HT.out.res (by kernel_rfl) rfl (by simp [Value.oneCell']) ?_)
        (exact bodyPost_ret (v:=.tuple #[.agg #[.int .i64 0,.slice none 0 0,.slice none 0 0],.int .i64 11]) (ret_cell_tmp rfl _ _ w.heap.size 117 _ _ _ HT.out.res.row rfl rfl Tryz.underlying117 rfl (by kernel_rfl)) rfl (TierP.zero 11 (HT.out.keep.row (.inr (Nat.le_refl _)) _)))
      · obtain⟨m0,m1⟩:=max_abs z hbig hsm
        have hn0:IntKind.i64.wrap (-z)=-z:=IntWalk.i64_in _ (by omega)
        obtain⟨csd,hbd,hcd,_⟩:=HC.out.blk
        have c4:wr.cell? ⟨d.g,4,none⟩=some (.slice (some ⟨d.gm,0,none⟩) N N):=by rw [hbd.cell,hcd.c4,HDN.out]
        have c5:wr.cell? ⟨d.g,5,none⟩=some (.slice (some ⟨d.gn,0,none⟩) N N):=by rw [hbd.cell,hcd.c5,HDN.out]
        obtain⟨y,_,hy⟩:=HC.out.mag.cell (i:=i) (by rw [HDN.out];exact hiN)
        obtain⟨y2,_,hy2⟩:=HC.out.neg.cell (i:=i) (by rw [HDN.out];exact hiN)
        have fy:=HC.out.mag.frozen i
        clear hbd hcd
        go_wp2_with fail
        have d4:wr.drew.cell? ⟨d.g,4,none⟩=some (.slice (some ⟨d.gm,0,none⟩) N N):=c4
        have dV:wr.drew.cell? (ad.add i)=some (.int .i64 z):=hcell
        have dy:wr.drew.cell? ⟨d.gm,i,none⟩=some (.int .i64 y):=hy
        have dfy:wr.drew.frozen? ⟨d.gm,i,none⟩=false:=fy
        have HC5:=hid (show CdH d band style w.heap.size (wr.setCell ⟨d.gm,i,none⟩ (.int .i64 (max z (-z)))).drew from(HC.out.keepF (Keep.refl _ wr).drew).setMag i ⟨m0,m1⟩)
        have HT5:=hid (show TI w w.heap.size gb p [] none 0 [] none 0 (wr.setCell ⟨d.gm,i,none⟩ (.int .i64 (max z (-z)))).drew from by
         obtain⟨c1,b1,_⟩:=(HC.out.keepF (Keep.refl _ wr).drew).mag
         exact(HT.out.keepF (Keep.refl _ wr).drew).setT b1 (by decide) (by decide) (by decide) HC.out.n1 (Keep.set1 wr.drew d.gm i (.int .i64 (max z (-z)))))
        have HZI:=hid (fun (w9:World) (hc: ∀j u,(zs.map (Value.int .i64))[j]? =some u→w9.cell? (ad.add j)=some u)=>hc i (.int .i64 z) HZE.out)
        clear c4 c5 hcell hy fy hy2 HC HT
        refine At.start (L:=#[false,false,false,false,false,false,false,false,false,false,false,false,false,false,false,false,false]) (by kernel_rfl) rfl ?_
        refine AtPo 0 (some 66) ?_
        try simp only [NS]
        refine AtPo 1 (some 67) ?_
        try simp only [NS]
        refine AtPo 2 (some 68) ?_
        try simp only [NS]
        first|refine AtLo 3 (some 69) Tryz.underlying22 ?_|refine AtRo 3 (some 69) Tryz.underlying22 ?_
        try simp only [NS]
        refine AtPo 4 (some 70) ?_
        try simp only [NS]
        refine AtPo 5 (some 71) ?_
        try simp only [NS]
        refine AtPo 6 (some 72) ?_
        try simp only [NS]
        refine AtPo 7 (some 73) ?_
        try simp only [NS]
        first|refine AtLo 8 (some 74) Tryz.underlying3 ?_|refine AtRo 8 (some 74) Tryz.underlying3 ?_
        try simp only [NS]
        refine AtPo 9 (some 75) ?_
        try simp only [NS]
        refine AtPo 10 (some 76) ?_
        try simp only [NS]
        refine AtPo 11 (some 77) ?_
        try simp only [NS]
        first|refine AtLo 12 (some 78) Tryz.underlying3 ?_|refine AtRo 12 (some 78) Tryz.underlying3 ?_
        try simp only [NS]
        refine AtPo 13 (some 79) ?_
        try simp only [NS]
        refine At.max 14 (some 80) rfl rfl (by kernel_rfl) (fun _ _ _ h=>h) rfl rfl rfl rfl ?_
        try simp only [NS]
        refine AtPo 15 (some 81) ?_
        try simp only [NS]
        refine AtC 16 fun K hK=>?_
        go_simp
        skip
        refine hK _ _ all_nil ?_
        clear hK K
        try simp only [NS]
        refine At.done (by kernel_rfl) ?_
        have HVV:=hid ((HV.out.keepF HT5.out.keep).2 (by omega))
        have hV5:(wr.setCell ⟨d.gm,i,none⟩ (.int .i64 (max z (-z)))).drew.cell? (ad.add i)=some (.int .i64 z):=by
         obtain⟨ad',e,hc⟩:=HVV.out
         injection e with e
         subst e
         exact HZI.out _ hc
        generalize (wr.setCell ⟨d.gm,i,none⟩ (.int .i64 (max z (-z)))).drew=w5 at*
        clear d4 dV dy dfy HVV HZI
        obtain⟨csd,hbd,hcd,_⟩:=HC5.out.blk
        have d5:w5.drew.cell? ⟨d.g,5,none⟩=some (.slice (some ⟨d.gn,0,none⟩) N N):=by rw [(hbd.drew).cell,hcd.c5,HDN.out]
        obtain⟨y2,_,hy2⟩:=HC5.out.neg.cell (i:=i) (by rw [HDN.out];exact hiN)
        have dV:w5.drew.cell? (ad.add i)=some (.int .i64 z):=hV5
        have dy:w5.drew.cell? ⟨d.gn,i,none⟩=some (.int .i64 y2):=hy2
        have dfy:w5.drew.frozen? ⟨d.gn,i,none⟩=false:=HC5.out.neg.frozen i
        have HC6:=hid (fun o (ho:0≤o∧o≤1)=>(HC5.out.keepF (Keep.refl _ w5).drew).setNeg i ho)
        have HT6:=hid (fun o=>by
         obtain⟨c1,b1,_⟩:=(HC5.out.keepF (Keep.refl _ w5).drew).neg
         exact(HT5.out.keepF (Keep.refl _ w5).drew).setT b1 (by decide) (by decide) (by decide) HC5.out.n2 (Keep.set1 w5.drew d.gn i (.int .i64 o)))
        clear hbd hcd hV5 hy2
        go_wp2_with fail
        refine At.start (L:=#[false,false,false,false,false,false,false,false,false,false,false,false,false]) (by kernel_rfl) rfl ?_
        refine AtPo 0 (some 82) ?_
        try simp only [NS]
        refine AtPo 1 (some 83) ?_
        try simp only [NS]
        refine AtPo 2 (some 84) ?_
        try simp only [NS]
        first|refine AtLo 3 (some 85) Tryz.underlying22 ?_|refine AtRo 3 (some 85) Tryz.underlying22 ?_
        try simp only [NS]
        refine AtPo 4 (some 86) ?_
        try simp only [NS]
        refine AtPo 5 (some 87) ?_
        try simp only [NS]
        refine AtPo 6 (some 88) ?_
        try simp only [NS]
        refine AtPo 7 (some 89) ?_
        try simp only [NS]
        first|refine AtLo 8 (some 90) Tryz.underlying3 ?_|refine AtRo 8 (some 90) Tryz.underlying3 ?_
        try simp only [NS]
        refine AtPo 9 (some 91) ?_
        try simp only [NS]
        refine At.call_all 10 rfl (by kernel_rfl) rfl (fun K hK=>?_)
        go_simp
        refine(one_any _ _).mono ?_
        rintro e w6 ⟨rfl,hw⟩
        cases hw
        have ho:=one_lim (decide (z<0))
        generalize (if decide (z<0)=true then(1:Int)else 0)=o at*
        refine hK _ _ (by repeat' first|exact all_nil|refine all_cons (by assumption) ?_) ?_
        clear hK K
        try simp only [NS]
        refine AtPo 11 (some 93) ?_
        try simp only [NS]
        refine AtC 12 fun K hK=>?_
        go_simp
        skip
        refine hK _ _ all_nil ?_
        clear hK K
        try simp only [NS]
        refine At.done (by kernel_rfl) ?_
        as_aux_lemma=>
         have HC7:=hid (show CdH d band style w.heap.size (w5.setCell ⟨d.gn,i,none⟩ (.int .i64 o)).drew from HC6.out o ho)
         have HT7:=hid (show TI w w.heap.size gb p [] none 0 [] none 0 (w5.setCell ⟨d.gn,i,none⟩ (.int .i64 o)).drew from HT6.out o)
         clear HC5 HT5 HC6 HT6 d5 dV dy dfy
         generalize (w5.setCell ⟨d.gn,i,none⟩ (.int .i64 o)).drew=w7 at*
         go_wp2_with fail
         go_loopw [] (fun wx=> ∃p:Nat,p≤30∧Hid (CdH d band style w.heap.size wx)∧Hid (TI w w.heap.size gb p [] none 0 [] none 0 wx)) (fun wx=>plF gb wx)
         case atStart=>exact⟨p,hp,HC7,HT7⟩
         case round=>
          clear HC7 HT7
          clear hp
          obtain⟨p,hp,HC,HT⟩:=hrel
          obtain⟨csd,hbd,hcd,_⟩:=HC.out.blk
          have c4:wr.cell? ⟨d.g,4,none⟩=some (.slice (some ⟨d.gm,0,none⟩) N N):=by rw [hbd.cell,hcd.c4,HDN.out]
          obtain⟨y,hy0,hy⟩:=HC.out.mag.cell (i:=i) (by rw [HDN.out];exact hiN)
          have b0:wr.cell? ⟨gb,0,none⟩=some (.int .i64 p):=HT.out.blk.cell 0
          have fb:=HT.out.blk.frozen 0
          have HPS:=hid (show 0<y/2^p→p<30 from fun h=>by
           rcases Nat.lt_or_ge p 30 with h1|h1
           · exact h1
           · obtain rfl:p=30:=by omega
             rw [Int.ediv_eq_zero_of_lt hy0.1 (by omega)]at h
             omega)
          clear hbd hcd
          go_wp2_with fail
          go_quiet (fail)
          have HC8:=hid (HC.out.keepF ((Keep.refl _ wr).drewN nq))
          have HT8:=hid (HT.out.keepF ((Keep.refl _ wr).drewN nq))
          have b8:(wr.drewN nq).cell? ⟨gb,0,none⟩=some (.int .i64 p):=b0
          have f8:(wr.drewN nq).frozen? ⟨gb,0,none⟩=false:=fb
          have hpl:=hid (plF_ti HT.out)
          clear HC HT c4 hy b0 fb
          generalize wr.drewN nq=w8 at*
          go_wp2_with fail
          · have hlt:=HPS.out (by assumption)
            have HTN:=hid (HT8.out.setP (p+1))
            have HCN:=hid (HC8.out.setP HT8.out.blk 0 (.int .i64 ((p+1:Nat):Int)))
            refine⟨⟨p+1,by omega,by simpa using HCN,by simpa using HTN⟩,?_⟩
            rw [hpl.out]
            have:=plF_ti HTN.out
            simp only [Int.natCast_add,Int.cast_ofNat_Int]at this
            first|omega|(show plF gb _<_;rw [this];omega)
          · go_roundw
            case rel=>exact⟨i+1,p,by omega,by go_num,hp,HC8,HT8⟩
            case measure=>simp [intOf]<;>omega
  · obtain rfl:i=N:=by omega
    have b0:wr.cell? ⟨gb,0,none⟩=some (.int .i64 p):=HT.out.blk.cell 0
    have hWd:0<d.W∧d.W≤12∧0<d.H∧d.H≤12:=by omega
    go_wp2_with fail
    refine(count_any8 wr p (by omega)).mono ?_
    rintro e w4 ⟨rfl,hw⟩
    cases hw
    obtain⟨nn,hnn⟩: ∃nn,3*p-2=nn:=⟨_,rfl⟩
    rw [hnn]
    have HNN2:=hid hnn
    have hnn88:nn≤88:=by omega
    clear hnn b0
    go_wp2_with fail
    have HC0:=HC
    have HT0:=HT
    clear HC HT
    go_loopw [16,17] (fun v z wr=> ∃(k f:Nat) (ps:List (Int×Bool)) (A:Option Addr) (cA:Nat) (bs:List Int) (B:Option Addr) (cB:Nat),k≤nn∧f≤k∧v=.int .i64 f∧z=.int .i64 k∧Hid (ps.length=k)∧Hid (k=nn→f=nn)∧Hid (bs.length≤1100*f)∧Hid (CdH d band style w.heap.size wr)∧Hid (TI w w.heap.size gb p ps A cA bs B cB wr)∧Hid (f=k∧EndsOk ps f bs.length 0∨f<k∧Seg w.heap.size d band style ps B f bs.length (7200*(k-f)) wr)) (fun _ z _=>nn-(intOf z).toNat)
    case atStart=>exact⟨0,0,[],none,0,[],none,0,by omega,by omega,rfl,rfl,hid rfl,hid (fun h=>h),hid (by simp),HC0,HT0,hid (.inl ⟨rfl,EndsOk.nil⟩)⟩
    case round=>
     clear HC0 HT0
     obtain⟨k,f,ps,A,cA,bs,B,cB,hk,hf,rfl,rfl,HL,HNF,HBL,HC,HT,HS⟩:=hrel
     by_cases hkn:k<nn
     · go_upto_if 120 with fail
       go_cut [] (fun wx=>Hid (CdH d band style w.heap.size wx)∧Hid (TI w w.heap.size gb p ps A cA bs B cB wx)∧Hid (Seg w.heap.size d band style ps B f bs.length (7200*(k-f)) wx))
       case first=>
        as_aux_lemma=>
         by_cases hkf:k=f
         · subst hkf
           have HE0:=hid (show EndsOk ps k bs.length 0 from by
            rcases HS.out with⟨_,h⟩|⟨h,_⟩
            · exact h
            · omega)
           obtain⟨⟨x48,c48⟩,f48⟩:=HC.out.has (i:=48) (by omega)
           go_wp2_with (go_at_call 85;refine(israw_any _ _ _ (by omega)).mono ?_;rintro e w5 ⟨raw,rfl,hw⟩;cases hw)
           obtain⟨csd,hbd⟩:=HC.out.ownBlk
           have HC5:=hid (HC.out.put (i:=48) (by omega) (.bool raw))
           have HT5:=hid (HT.out.setT hbd (by decide) (by decide) (by decide) HC.out.n0 (Keep.set1 wr d.g 48 (.bool raw)))
           have H48:=hid (HC.out.cell_put (i:=48) (by omega) (.bool raw))
           clear hbd HC HT c48 f48
           generalize wr.setCell ⟨d.g,48,none⟩ (.bool raw)=w5 at*
           refine(Mq.rnewe_any _).mono ?_
           rintro e w6 ⟨E,A1,n1,c1,rfl,hE0,hE,hk6⟩
           have HE:=hid hE
           have HC6:=hid (HC5.out.keepF hk6)
           have HT6:=hid (HT5.out.keepF hk6)
           have H486:=hid (hk6.cell H48.out id)
           have HK6:=hid hk6
           clear hE hk6 H48 HC5
           go_wp2_with fail
           refine(Rw.newrw_any _).mono ?_
           rintro e w7 ⟨rfl,hR,hk7⟩
           have HC7:=hid (HC6.out.keepF hk7)
           have HT7:=hid (HT6.out.keepF hk7)
           have h487:=hk7.cell H486.out id
           have hE7:=HE.out.keep hk7 id (fun _ _=>id)
           have hR7:Rw.RWr w7 w5.heap.size w6.heap.size none 0 0 [] 0:=⟨hR.blk,own_mono hR.own HK6.out.size⟩
           obtain⟨⟨x49,c49⟩,f49⟩:=HC7.out.has (i:=49) (by omega)
           obtain⟨⟨x50,c50⟩,f50⟩:=HC7.out.has (i:=50) (by omega)
           have HCF:=hid (seg_start HC7.out h487 hE7 hR7 (Nat.le_trans HK6.out.size hk7.size) hWd.1 hWd.2.1 hWd.2.2.1 hWd.2.2.2)
           have HTF:=hid (by
            obtain⟨csd,hbd⟩:=HC7.out.ownBlk
            have h1:=HT7.out.setT hbd (by decide) (by decide) (by decide) HC7.out.n0 (Keep.set1 w7 d.g 49 (.pointer (some ⟨E,0,none⟩)))
            exact h1.setT (hbd.set_ 49 _) (by decide) (by decide) (by decide) HC7.out.n0 (Keep.set1 _ d.g 50 (.pointer (some ⟨w6.heap.size,0,none⟩))))
           have HSG:=hid (show Seg w.heap.size d band style ps B k bs.length (7200*(k-k)) _ from⟨E,w6.heap.size,w5.heap.size,3,raw,_,HCF.out,fun b hb=>⟨fun a ha=>by
            have h1:=HT5.out.bytLt hb
            have h2:A1=some a:=ha
            subst h2
            have:=(HE.out.own.lt a.block (by simp [Value.ownBlock])).1
            omega,fun a ha=>(by cases ha)⟩,by omega,Nat.le_trans HT5.out.keep.size hE0,Nat.le_trans HT6.out.keep.size (Nat.le_refl _),HT5.out.keep.size,HE0.out.up (outI_pos HCF.out)⟩)
           have HCC:=hid (CdH.ofER HCF.out HC7.out)
           clear hR hk7 hE7 hR7 h487 HC7 HT7 HCF
           go_wp2_with fail
           go_meet
           exact⟨HCC,HTF,HSG⟩
         · have hfk:f<k:=by omega
           have HS1:=hid (show Seg w.heap.size d band style ps B f bs.length (7200*(k-f)) wr from by
            rcases HS.out with⟨h,_⟩|⟨_,h⟩
            · omega
            · exact h)
           have hkf':((k:Int)==(f:Int))=false:=by simp;omega
           clear hkf HS
           go_wp2_with fail
           go_meet
           exact⟨HC,HT,HS1⟩
       case rest=>
        as_aux_lemma=>
         clear HC HT HS
         obtain⟨HC,HT,HS⟩:=hcut
         have h3p:=HNN2.out
         obtain⟨E,R,base,ph,raw,u,hcod,hap,hph,hE,hR,hbase,hends⟩:=HS.out
         have b0:wc.cell? ⟨gb,0,none⟩=some (.int .i64 p):=HT.out.blk.cell 0
         have PASS:=hid (cpass_any wc base (⟨d.g,d.gm,d.gn,d.gs,d.ge,d.ga,d.W,d.H,E,R⟩:Cd) band style raw u ph hcod k p hp (by omega) (by omega))
         have MV:=hid (fun w5 u5 (m:Mv (⟨d.g,d.gm,d.gn,d.gs,d.ge,d.ga,d.W,d.H,E,R⟩:Cd) u u5 wc w5)=>HT.out.mv hcod hap m (CF.new hcod HC.out.toER hE hR hbase))
         have HHC:=hid (fun w5 raw u5 ph5 (h:Cod base (⟨d.g,d.gm,d.gn,d.gs,d.ge,d.ga,d.W,d.H,E,R⟩:Cd) band style raw u5 ph5 w5)=>CdH.ofER h HC.out)
         have HEN:=hid hends
         clear HS hcod hends h3p HC
         go_wp2_with fail
         refine PASS.out.mono ?_
         rintro e w5 ⟨u1,rfl,h1,m1⟩
         obtain⟨ht1,hap1⟩:=MV.out w5 u1 m1
         have HC1:=hid (HHC.out w5 raw u1 _ h1)
         have HE1:=hid (HEN.out.up (outI_mv m1 raw))
         have HT1:=hid ht1
         have HAP1:=hid hap1
         have HCO:=hid h1
         have OUT:=hid (Mq.route_any w5 base E u1.A u1.n u1.c u1.s h1.wr.enc (by have:=h1.wr.enc.len;have:=h1.wr.inv.some_;omega) (by have:=h1.wr.n30;omega))
         have HLEN:=hid h1.wr.enc.len
         obtain⟨csd,hbd,hcd⟩:=h1.rd.blk
         have c48:w5.cell? ⟨d.g,48,none⟩=some (.bool raw):=(hbd.cell 48).trans hcd.c48
         have c49:w5.cell? ⟨d.g,49,none⟩=some (.pointer (some ⟨E,0,none⟩)):=(hbd.cell 49).trans hcd.c49
         have c50:w5.cell? ⟨d.g,50,none⟩=some (.pointer (some ⟨R,0,none⟩)):=(hbd.cell 50).trans hcd.c50
         have hnl:u1.n≤1073741000:=h1.wr.n30
         clear ht1 hap1 h1 m1 hbd hcd MV HHC HEN PASS HT b0
         go_upto_if 149 with(go_at_call 89;refine OUT.out.mono ?_;rintro e w6 ⟨rfl,hw⟩;cases hw;rw [HLEN.out])
         go_cut [18] (fun v wx=>v=.int .i64 (outI raw u1)∧Hid (Cod base (⟨d.g,d.gm,d.gn,d.gs,d.ge,d.ga,d.W,d.H,E,R⟩:Cd) band style raw u1 (ph+7200) wx)∧Hid (TI w w.heap.size gb p ps A cA bs B cB wx)∧Hid (CdH d band style w.heap.size wx))
         case first=>
          cases raw with
          |false=>
           go_wp2_with fail
           go_meet
           exact⟨rfl,HCO,HT1,HC1⟩
          |true=>
           have RO:=hid (Rw.rout_any w5 base R u1.B u1.m u1.k u1.l u1.r HCO.out.wr.wr HCO.out.wr.binv (by have:=HCO.out.wr.m30;omega))
           go_wp2_with (go_at_call 90;refine RO.out.mono ?_;rintro e w6 ⟨rfl,hk6⟩;have HCO:=hid (HCO.out.keepF hk6);have HT1:=hid (HT1.out.keepF hk6);have HC1:=hid (HC1.out.keepF hk6);clear hk6)
           go_meet
           exact⟨rfl,HCO,HT1,HC1⟩
         case rest=>
          as_aux_lemma=>
           clear HCO HT1 HC1 OUT c48 c49 c50
           obtain⟨rfl,HCO,HT1,HC1⟩:=hcut
           have ho0:=outI_pos HCO.out
           have HE1:=HE1
           generalize hoo:outI raw u1=o at*
           have HOO:=hid hoo
           clear hoo
           have EN:=hid (fun w=>ends8_any w (style:Int) k (by omega))
           go_upto_region 29 with fail
           go_cut [19] (fun v wx=> ∃b:Bool,v=.bool b∧Hid (k+1=nn→b=true)∧wx=wc)
           case first=>
            as_aux_lemma=>
             go_wp2_with fail
             refine(EN.out _).mono ?_
             rintro e w6 ⟨en,rfl,hw⟩
             cases hw
             cases en with
             |true=>
              go_wp2_with fail
              go_meet
              exact⟨true,rfl,hid (fun _=>rfl),rfl⟩
             |false=>
              by_cases hl:k+1=nn
              · have hl2:(k:Int)=(nn:Int)-1:=by omega
                have hl3:((k:Int)==(nn:Int)-1)=true:=by simp;omega
                clear hl2 hl
                go_wp2_with fail
                go_meet
                exact⟨true,rfl,hid (fun _=>rfl),rfl⟩
              · have HNL:=hid hl
                have hl3:((k:Int)==(nn:Int)-1)=false:=by simp;omega
                clear hl
                go_wp2_with fail
                go_meet
                exact⟨false,rfl,hid (fun h=>absurd h HNL.out),rfl⟩
           case rest=>
            as_aux_lemma=>
             obtain⟨en,rfl,HEND,rfl⟩:=hcut
             have b1:wc.cell? ⟨gb,1,none⟩=some (.slice A ps.length cA):=HT1.out.blk.cell 1
             have hpl88:ps.length≤88:=by have:=HL.out;omega
             have hb0:=HT1.out.keep.size
             have HB6:=hid (fun w6 (hk6:Keep (fun i=>(Value.slice A ps.length cA).ownBlock=some i) wc w6)=>HT1.out.blk.keep hk6 (own_ne HT1.out.pas HT1.out.blk (by decide)))
             go_upto_if 173 with(
              at_builtin
              go_must (refine wpList_append_rows wc rfl (.tmp 165) (.tmp 169) 115 rfl w.heap.size 145 pi0 _ 2 16 Tryz.underlying115 phi0 phz0 phz1 phz2 rfl (by omega) HT1.out.pas rfl _ rfl rfl (two_one _ _) (by simp only [maxLen];omega) (by omega) hb0 ?_)
              intro A6 c6 w6 hown6 hk6
              have HT6:=hid (HT1.out.pass (o,en) (by rw [passL_snoc];exact hown6) hk6)
              have h61:w6.cell? ⟨gb,1,none⟩=some (.slice A ps.length cA):=(HB6.out w6 hk6).cell 1
              have h6f:=(HB6.out w6 hk6).frozen 1
              have HK6:=hid hk6
              clear hown6 hk6)
             have HC7:=hid (show Cod base (⟨d.g,d.gm,d.gn,d.gs,d.ge,d.ga,d.W,d.H,E,R⟩:Cd) band style raw u1 (ph+7200) (w6.setCell ⟨gb,1,none⟩ (.slice A6 (ps.length+1) c6))from by
              have h6:=HCO.out.beside HK6.out (fun k e _=>by
               obtain⟨ad,e3,e4⟩:=own_foot e
               obtain⟨cs,hc⟩:=HT1.out.pasBlk e3
               rw [e4]at hc
               exact HCO.out.farT hc (by decide) (by decide) (by decide) (by decide) (by decide) (by decide))
              exact h6.beside (Keep.set1 w6 gb 1 _) (fun k e _=>by
               rw [e]
               exact h6.farT (HB6.out w6 HK6.out) (by decide) (by decide) (by decide) (by decide) (by decide) (by decide)))
             have HE7:=hid (show EndsOk (ps++[(o,en)]) f bs.length o from HE1.out.push (by have:=HL.out;omega) ho0 en)
             clear b1 h61 h6f HK6 HCO HT1 HB6 HE1 hb0
             generalize w6.setCell ⟨gb,1,none⟩ (.slice A6 (ps.length+1) c6)=w7 at*
             have HC8:=hid (CdH.ofER HC7.out HC1.out)
             have HL7:=hid (show(ps++[(o,en)]).length=k+1 from by rw [List.length_append,HL.out];rfl)
             cases en with
             |false=>
              have HNF7:=hid (show k+1=nn→f=nn from fun h=>by have:=HEND.out h;cases this)
              have HSG:=hid (show Seg w.heap.size d band style (ps++[(o,false)]) B f bs.length (7200*(k+1-f)) w7 from⟨E,R,base,ph+7200,raw,u1,HC7.out,HAP1.out,by omega,hE,hR,hbase,by rw [HOO.out];exact HE7.out⟩)
              go_wp2_with fail
              go_roundw
              case rel=>exact⟨k+1,f,ps++[(o,false)],A6,c6,bs,B,cB,by omega,by omega,rfl,by go_num,HL7,HNF7,HBL,HC8,HT6,hid (.inr ⟨by omega,HSG.out⟩)⟩
              case measure=>simp [intOf]<;>omega
             |true=>
              as_aux_lemma=>
               have hcod:=HC7.out
               have FL:=hid (Mq.rflush_any w7 base E u1.A u1.n u1.c u1.s hcod.wr.enc hcod.wr.inv hcod.wr.a0 hcod.wr.a1 hcod.wr.hb (by have:=hcod.wr.n30;omega))
               obtain⟨csd,hbd,hcd⟩:=hcod.rd.blk
               have c49:w7.cell? ⟨d.g,49,none⟩=some (.pointer (some ⟨E,0,none⟩)):=(hbd.cell 49).trans hcd.c49
               clear hbd hcd hcod
               go_wp2_with fail
               refine FL.out.mono ?_
               rintro e w8 ⟨X,nX,cX,rfl,hX,hXf,hkX⟩
               have HC9:=hid (CdH.flush HC7.out hkX HC8.out)
               have HT9:=hid (HT6.out.mv HC7.out HAP1.out (⟨hkX.mono (fun j _ h=>.inl (.inr (.inl h))),Grew.refl _ _,Grew.refl _ _,Nat.le_refl _,Nat.le_refl _⟩:Mv (⟨d.g,d.gm,d.gn,d.gs,d.ge,d.ga,d.W,d.H,E,R⟩:Cd) u1 u1 w7 w8) (CF.new HC7.out HC8.out.toER hE hR hbase)).1
               obtain⟨hRW,c48,c50⟩:=HC7.out.flushR hkX
               obtain⟨hf1,hf2⟩:=flush_ok HC7.out.wr.inv HC7.out.wr.a0
               have hx1:(flushM (flushE u1.s)).length≤1100*(k+1-f):=by
                have h1:=HC7.out.wr.ph1
                have h2:=HC7.out.wr.inv.ct12
                have h3:=HC7.out.wr.enc.len
                omega
               have hx2:u1.l.length≤1100*(k+1-f):=by
                have h1:=HC7.out.wr.ph2
                have h2:=HC7.out.wr.binv.r7
                omega
               have HX:=hid (And.intro hX (And.intro hf2 (And.intro hx1 hXf)))
               have RF:=hid (Rw.rflush_any w8 base R u1.B u1.m u1.k u1.l u1.r hRW HC7.out.wr.binv (by have:=HC7.out.wr.m30;omega))
               have RB:=hid (And.intro HC7.out.wr.binv.bytes hx2)
               have hs78:=hkX.size
               clear hX hXf hkX hRW hf1 hf2 hx1 hx2 FL c49
               go_upto_if 182 with fail
               go_cut [20] (fun v wx=> ∃(X:Option Addr) (cX:Nat) (xs:List Int),v=.slice X xs.length cX∧Hid (Rd wx X xs.length (xs.map (Value.int .u8)))∧Hid (Bytes xs)∧Hid (xs.length≤1100*(k+1-f))∧Hid (∀ ad,X=some ad→w7.heap.size≤ad.block)∧Hid (CdH d band style w.heap.size wx)∧Hid (TI w w.heap.size gb p (ps++[(o,true)]) A6 c6 bs B cB wx)∧w7.heap.size≤wx.heap.size)
               case first=>
                as_aux_lemma=>
                 cases raw with
                 |false=>
                  obtain⟨h1,h2,h3,h4⟩:=HX.out
                  have h5:=h1.1
                  rw [List.length_map]at h5
                  subst h5
                  go_wp2_with fail
                  go_meet
                  exact⟨X,cX,_,rfl,hid h1,hid h2,hid h3,hid h4,HC9,HT9,hs78⟩
                 |true=>
                  go_wp2_with fail
                  refine RF.out.mono ?_
                  rintro e w9 ⟨Y,nY,cY,rfl,hY,hYf,hkY⟩
                  have h5:=hY.1
                  rw [List.length_map]at h5
                  subst h5
                  obtain⟨f1,f2⟩:=flushM_sub u1.l
                  have HYY:=hid (show Rd w9 Y (flushM u1.l).length ((flushM u1.l).map (Value.int .u8))∧Bytes (flushM u1.l)∧(flushM u1.l).length≤1100*(k+1-f)∧(∀ ad,Y=some ad→w7.heap.size≤ad.block)∧CdH d band style w.heap.size w9∧TI w w.heap.size gb p (ps++[(o,true)]) A6 c6 bs B cB w9∧w7.heap.size≤w9.heap.size from⟨hY,fun z hz=>RB.out.1 z (f2 z hz),Nat.le_trans f1 RB.out.2,fun ad e=>Nat.le_trans hs78 (hYf ad e),HC9.out.keepF hkY,HT9.out.keepF hkY,Nat.le_trans hs78 hkY.size⟩)
                  clear hY hYf hkY f1 f2
                  go_wp2_with fail
                  go_meet
                  obtain⟨h1,h2,h3,h4,h6,h7,h8⟩:=HYY.out
                  exact⟨Y,cY,_,rfl,hid h1,hid h2,hid h3,hid h4,hid h6,hid h7,h8⟩
               case rest=>
                as_aux_lemma=>
                 have HG7:=HT6
                 clear HC9 HT9 HX RF RB c48 c50
                 obtain⟨X,cX,xs,rfl,HRX,HBX,HXL,HXF,HC,HT,hs7⟩:=hcut
                 have b1:wc.cell? ⟨gb,1,none⟩=some (.slice A6 (ps++[(o,true)]).length c6):=HT.out.blk.cell 1
                 have b2:wc.cell? ⟨gb,2,none⟩=some (.slice B bs.length cB):=HT.out.blk.cell 2
                 have hbl:=HBL.out
                 have hxl:=HXL.out
                 have hsz0:=HT.out.keep.size
                 have HB6:=hid (fun w6 (hk6:Keep (fun i=>(Value.slice B bs.length cB).ownBlock=some i) wc w6)=>HT.out.blk.keep hk6 (own_ne HT.out.byt HT.out.blk (by decide)))
                 go_upto_region 37 with(
                  at_builtin
                  go_must (refine wpList_append_src _ rfl (.tmp 192) (.tmp 193) 25 rfl w.heap.size 5 ui0 _ 1 Tryz.underlying25 uhi0 uhz0 uhz1 uhz2 rfl HT.out.byt rfl HRX.out rfl (oneCell_ints _ _) (by simp only [maxLen];omega) (by omega) hsz0 ?_)
                  intro v6 w6 hown6 hg6 _h6 _h7
                  obtain⟨B6,cB6,rfl⟩:=own_form hown6
                  have HK6:=hid ((Keep.refl (fun i=>(Value.slice B bs.length cB).ownBlock=some i) wc).grown hg6 (fun k hk=>.inl hk))
                  have h62:w6.cell? ⟨gb,2,none⟩=some (.slice B bs.length cB):=(HB6.out w6 HK6.out).cell 2
                  have h6f:=(HB6.out w6 HK6.out).frozen 2
                  have HT7:=hid (HT.out.grow xs HBX.out hown6 HK6.out)
                  have HC6:=hid (HC.out.far HK6.out (fun g t cs hb h1 h2 h3=>own_ne HT.out.byt hb (fun e=>h1 e.symm)))
                  have HX6:=hid (HRX.out.keep HK6.out (fun ad e hS=>by
                   obtain⟨ad2,e3,e4⟩:=own_foot hS
                   have:=HG7.out.bytLt e3
                   have:=HXF.out ad e
                   omega))
                  clear hown6 hg6 _h6 _h7)
                 have hgbl:=HG7.out.blk.lt
                 have HC7':=hid (HC6.out.far (Keep.set1 w6 gb 2 (.slice B6 (bs.length+xs.length) cB6)) (fun g t cs hb h1 h2 h3 e=>by rw [e]at hb;exact Blk.ne_ hb (HB6.out w6 HK6.out) h2 rfl))
                 have HX7:=hid (HX6.out.keep (Keep.set1 w6 gb 2 (.slice B6 (bs.length+xs.length) cB6)) (fun ad e e2=>by have:=HXF.out ad e;omega))
                 have hcl:(bs++xs).length=bs.length+xs.length:=List.length_append
                 clear b1 b2 HB6 h62 h6f HK6 HC6 HX6 HT HC HRX hsz0 hgbl
                 generalize w6.setCell ⟨gb,2,none⟩ (.slice B6 (bs.length+xs.length) cB6)=w8 at*
                 go_wp2_with fail
                 have HE0:=hid (show EL w d band style gb p (ps++[(o,true)]) (ps++[(o,true)]) f f bs.length A6 c6 (bs++xs) xs B6 cB6 X w8 from⟨Mid.start _ _ _ _,HT7.out,HC7'.out,HX7.out⟩)
                 have HA6:=hid (fun ad (e:A6=some ad)=>by
                  obtain⟨cs9,hb9⟩:=HG7.out.pasBlk e
                  exact hb9.lt)
                 have HPOS:=hid (HE7.out.pos)
                 clear HT7 HC7' HX7
                 go_loopw [22] (fun v wr=> ∃(j:Nat) (ps':List (Int×Bool)),f≤j∧j≤k+1∧v=.int .i64 j∧Hid (EL w d band style gb p (ps++[(o,true)]) ps' f j bs.length A6 c6 (bs++xs) xs B6 cB6 X wr)) (fun v _=>k+1-(intOf v).toNat)
                 case atStart=>exact⟨f,_,by omega,by omega,rfl,HE0⟩
                 case round=>
                  as_aux_lemma=>
                   clear HE0
                   obtain⟨j,ps',hfj,hjk,rfl,HEL⟩:=hrel
                   by_cases hjk1:j≤k
                   · obtain⟨q,g,hq,hAg,hcq,hfq,hnx⟩:=HEL.out.next hfj (by rw [HL7.out];omega) HXF.out HA6.out
                     have b1:wr.cell? ⟨gb,1,none⟩=some (.slice A6 ps'.length c6):=HEL.out.ti.blk.cell 1
                     have hlp:ps'.length=k+1:=HEL.out.mid.len.trans HL7.out
                     rw [hlp]at b1
                     have hq0:=HPOS.out j q hq
                     have HNX:=hid hnx
                     have HCL:=hid (clip_eq xs q.1)
                     have HXC:=hid (fun t (ht:t<xs.length)=>HEL.out.rd.at_ ht)
                     subst hAg
                     clear hnx hq hlp
                     obtain⟨mm,hmm⟩: ∃mm:Nat,min q.1 (xs.length:Int)=mm:=⟨(min q.1 (xs.length:Int)).toNat,by omega⟩
                     have hmx:mm≤xs.length:=by omega
                     have HMM:=hid hmm
                     generalize hq1:q.1=e0 at*
                     have HFIN:=hid (fun (n0:Int) (hn:n0=clip xs e0)=>show n0=clip xs e0 from hn)
                     have hwr: ∀z:Int,0≤z→z≤xs.length→IntKind.i64.wrap ((bs.length:Int)+z)=(bs.length:Int)+z:=fun z h1 h2=>IntWalk.i64_in _ (by omega)
                     have HWR:=hid hwr
                     clear hwr
                     by_cases hm0:mm=0
                     · subst hm0
                       have hc0:clip xs e0=0:=by rw [HCL.out,hmm,if_neg (by omega)];rfl
                       rw [hc0]at HNX
                       clear HXC
                       go_wp2_with (first|refine wpList_max rfl _ _ _ rfl _ _ rfl rfl ?_|refine wpList_min rfl _ _ _ rfl _ _ rfl rfl ?_)
                       go_roundw
                       case rel=>exact⟨j+1,_,by omega,by omega,by go_num,by simpa using HNX⟩
                       case measure=>simp [intOf]<;>omega
                     · obtain⟨m1,rfl⟩: ∃m1,mm=m1+1:=⟨mm-1,by omega⟩
                       obtain⟨adx,hXa,hcx⟩:=HXC.out m1 (by omega)
                       obtain⟨z,hz⟩: ∃z,xs[m1]? =some z:=⟨_,List.getElem?_eq_getElem (by omega)⟩
                       rw [show(xs.map (Value.int .u8)).getD m1 undef=.int .u8 z by rw [List.getD_eq_getElem?_getD,List.getElem?_map,hz];rfl]at hcx
                       have hgz:xs.getD (((m1+1:Nat):Int)-1).toNat 0=z:=by rw [show(((m1+1:Nat):Int)-1).toNat=m1 by omega,List.getD_eq_getElem?_getD,hz];rfl
                       have hw1:IntKind.i64.wrap (((m1+1:Nat):Int)-1)=(m1:Int):=by rw [IntWalk.i64_in _ (by omega)];omega
                       subst hXa
                       by_cases h255:z=255
                       · subst h255
                         have hc0:clip xs e0=(m1:Int):=by rw [HCL.out,hmm,if_pos ⟨by omega,hgz⟩];omega
                         rw [hc0]at HNX
                         clear hgz hz HXC
                         go_wp2_with (first|refine wpList_max rfl _ _ _ rfl _ _ rfl rfl ?_|refine wpList_min rfl _ _ _ rfl _ _ rfl rfl ?_)
                         go_roundw
                         case rel=>exact⟨j+1,_,by omega,by omega,by go_num,by simpa using HNX⟩
                         case measure=>simp [intOf]<;>omega
                       · have hz5:(z==255)=false:=by simpa using h255
                         have hc0:clip xs e0=((m1+1:Nat):Int):=by rw [HCL.out,hmm,if_neg (fun h=>h255 (hgz.symm.trans h.2))]
                         rw [hc0]at HNX
                         clear hgz hz HXC h255
                         go_wp2_with (first|refine wpList_max rfl _ _ _ rfl _ _ rfl rfl ?_|refine wpList_min rfl _ _ _ rfl _ _ rfl rfl ?_)
                         go_roundw
                         case rel=>exact⟨j+1,_,by omega,by omega,by go_num,by simpa using HNX⟩
                         case measure=>simp [intOf]<;>omega
                   · obtain rfl:j=k+1:=by omega
                     have hl9:ps'.length=k+1:=HEL.out.mid.len.trans HL7.out
                     obtain⟨q',hq'⟩: ∃q',ps'[k]? =some q':=⟨_,List.getElem?_eq_getElem (by omega)⟩
                     obtain⟨g,hAg,hcq,hfq,hT,_,csg,hcsg⟩:=HEL.out.ti.setEnd hq' (((bs++xs).length:Nat):Int)
                     have b1:wr.cell? ⟨gb,1,none⟩=some (.slice A6 ps'.length c6):=HEL.out.ti.blk.cell 1
                     have b2:wr.cell? ⟨gb,2,none⟩=some (.slice B6 (bs++xs).length cB6):=HEL.out.ti.blk.cell 2
                     rw [hl9]at b1
                     have HCN:=hid (HEL.out.cd.far (Keep.set1 wr g (k*2) (.int .i64 (((bs++xs).length:Nat):Int))) (fun g' t cs' hb h1 h2 h3 e=>by rw [e]at hb;exact Blk.ne_ hb hcsg h3 rfl))
                     have HEN:=hid (show EndsOk (ps'.set k ((((bs++xs).length:Nat):Int),q'.2)) (k+1) ((bs++xs).length:Nat) 0 from by
                      have h1:=HE7.out.close (by omega) (x:=xs) (ps':=ps') (by rw [HL7.out];exact HEL.out.mid) (k:=k) (by rw [HL7.out]) hq'
                      have h2:(((bs++xs).length:Nat):Int)=(bs.length:Int)+(xs.length:Int):=by rw [hcl];push_cast;rfl
                      rw [h2]
                      exact h1)
                     have HTN:=hid hT
                     have HLN:=hid (show(ps'.set k ((((bs++xs).length:Nat):Int),q'.2)).length=k+1 from by rw [List.length_set];exact hl9)
                     have HBN:=hid (show(bs++xs).length≤1100*(k+1)from by omega)
                     subst hAg
                     clear hT hq' hl9 hcsg hcl
                     generalize bs++xs=bx at*
                     generalize ps'.set k ((bx.length:Int),q'.2)=px at*
                     go_wp2_with fail
                     go_roundw
                     case rel=>exact⟨k+1,k+1,px,some ⟨g,0,none⟩,c6,bx,B6,cB6,by omega,by omega,rfl,by go_num,HLN,hid (fun h=>h),HBN,HCN,HTN,hid (.inl ⟨rfl,HEN.out⟩)⟩
                     case measure=>simp [intOf]<;>omega
     · obtain rfl:k=nn:=by omega
       have hfk:=HNF.out rfl
       have HE:=hid (show EndsOk ps ps.length bs.length 0 from by
        rcases HS.out with⟨_,h⟩|⟨h,_⟩
        · rw [HL.out,←hfk];exact h
        · omega)
       have hbl:=HBL.out
       have HZ:=hid (show TierP w (.returned (.tuple #[.agg #[.int .i64 p,.slice A ps.length cA,.slice B bs.length cB],.int .i64 0])) (wr.setRow w.heap.size #[.int .i64 p,.slice A ps.length cA,.slice B bs.length cB])from by
        have hkr:Keep (fun j=>j=w.heap.size) wr (wr.setRow w.heap.size #[.int .i64 p,.slice A ps.length cA,.slice B bs.length cB]):=Keep.row (S:=fun j=>j=w.heap.size) (Keep.refl _ wr) (.inl rfl) _
        exact⟨p,ps,A,cA,bs,B,cB,0,rfl,hp,by rw [HL.out];omega,by omega,own_cap HT.out.byt,HE.out,HT.out.bytes,own_keep HT.out.pas hkr (fun k e e2=>own_ne HT.out.pas HT.out.res (by decide) (by rw [e,e2])),own_keep HT.out.byt hkr (fun k e e2=>own_ne HT.out.byt HT.out.res (by decide) (by rw [e,e2])),HT.out.keep.row (.inr (Nat.le_refl _)) _⟩)
       clear hfk hbl
       go_wp2_with (first|(refine wpList_load_row rfl _ _ rfl _ rfl _ _ _ _ HT.out.blk Tryz.underlying117 rfl (by kernel_rfl) ?_)|(refine wpList_store_row rfl _ _ _ rfl w.heap.size _ rfl rfl _ _ HT.out.res (by kernel_rfl) rfl (by simp [Value.oneCell']) ?_))
       exact bodyPost_ret (v:=.tuple #[.agg #[.int .i64 p,.slice A ps.length cA,.slice B bs.length cB],.int .i64 0]) (ret_cell_tmp rfl _ _ w.heap.size 117 _ _ _ HT.out.res.row rfl rfl Tryz.underlying117 rfl (by kernel_rfl)) rfl HZ.out
end Go.Proofs.YthfogcgdijmaoaaGreat
