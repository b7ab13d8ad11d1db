/-
  Part 13 of the proof: Lift2 Dwt. Conditions: those of the statements.
-/
import Derived.Test.YthfogcgdijmaoaaGreatJ9
import Derived.Test.YthfogcgdijmaoaaGreatJ12
set_option maxRecDepth 100000
set_option maxHeartbeats 16000000
set_option linter.unusedVariables false
set_option linter.unusedSimpArgs false
namespace Go.Proofs.YthfogcgdijmaoaaGreat
open Go.RowKit
theorem odd_lim (x:Int):0≤bits .and .i64 x 1∧bits .and .i64 x 1≤1:=by rw [and_one];omega
theorem Rd.int {w:World} {A:Option Addr} {n:Nat} {zs:List Int} (h:Rd w A n (zs.map (Value.int .i64))) {k:Nat} (hk:k<n): ∃ad z,A=some ad∧w.cell? (ad.add k)=some (.int .i64 z):=by
 obtain⟨ad,e,hc⟩:=h.at_ hk
 have hl:k<zs.length:=by have:=h.1;rw [List.length_map]at this;omega
 exact⟨ad,zs[k],e,by rw [hc];simp [hl]⟩
theorem lsplit_any (w:World) (at0:Int) (A:Option Addr) (n c:Nat) (zs:List Int) (h:Rd w A n (zs.map (Value.int .i64))) (hn:n≤64):
 Calls Tryz.prog 105 #[.int .i64 at0,.slice A n c] w (RowP n w):=by
 obtain⟨i0,hi0,hz0,hz1,hz2⟩:=info_parts info_int
 have HV:=hid h
 obtain⟨o1,o2⟩:=odd_lim at0
 obtain⟨od,hod⟩: ∃od,bits BinOp.and IntKind.i64 at0 1=od:=⟨_,rfl⟩
 rw [hod]at o1 o2
 have hwod:IntKind.i64.wrap (1-od)=1-od:=IntWalk.i64_in _ (by omega)
 have HZS:=hid (show zs.length=n from by have:=h.1;rwa [List.length_map]at this)
 clear h
 go_enter Tryz.func105,Tryz.ntmps105
 go_upto_region 3 with(
  at_builtin
  go_must (refine wpList_append_src _ rfl (.tmp 15) (.tmp 16) 22 rfl w.heap.size 3 i0 _ 8 Tryz.underlying22 hi0 hz0 hz1 hz2 rfl (World.ownsRow_made w #[] 0 (Nat.le_refl _) (by simp [maxLen]) rfl) rfl (HV.out.alloc _) rfl (oneCell_ints _ _) (by simp only [maxLen];omega) (by omega) (by simp) ?_)
  intro v6 w6 hown6 hg6 _h6 _h7
  obtain⟨X,cX,rfl⟩:=own_form hown6
  have HX6:=hid (show Own w6 w.heap.size X n cX from⟨zs,HZS.out,by simpa using hown6⟩)
  have HK6:=hid (show Keep (fun _=>False) w w6 from((Keep.refl (fun _=>False) w).alloc _).grown hg6 (fun k hk=>by
   have:k=w.heap.size:=by simpa [Value.ownBlock]using hk.symm
   exact .inr (by omega)))
  clear hown6 hg6 _h6 _h7)
 by_cases hn1:n=1
 · subst hn1
   obtain⟨g,z,rfl,hcX,hgb,hc,hf,hset⟩:=HX6.out.get (i:=0) (by omega)
   by_cases ho1:od=1
   · subst ho1
     have HO:=hid (hset (wrap64 (2*z)))
     have HKK:=hid (HK6.out.setCell (p:=⟨g,0,none⟩) (.inr hgb) (.int .i64 (wrap64 (2*z))))
     go_wp2_with fail
     go_ret
     obtain⟨ys,h1,h2⟩:=HO.out
     exact⟨_,cX,ys,rfl,h1,h2,HKK.out⟩
   · have ho2:(od==1)=false:=by simpa using ho1
     clear ho1 hset hc hf
     go_wp2_with fail
     go_ret
     obtain⟨ys,h1,h2⟩:=HX6.out
     exact⟨_,cX,ys,rfl,h1,h2,HK6.out⟩
 · have hn1b:((n:Int)==1)=false:=by simp;omega
   go_wp2_with fail
   go_loopw [8] (fun v wr=> ∃i:Nat,i≤n+1∧v=.int .i64 i∧Hid (Own wr w.heap.size X n cX)∧Hid (Keep (fun _=>False) w wr)) (fun v _=>n+2-(intOf v).toNat)
   case atStart=>exact⟨(1-od).toNat,by omega,by congr 1;omega,HX6,HK6⟩
   case round=>
    clear HX6 HK6 hod
    obtain⟨i,hi,rfl,HX,HK⟩:=hrel
    by_cases hin:i<n
    · skip
      have hn2:2≤n:=by omega
      obtain⟨g,z,hXg,hcX,hgb,hc,hf,hset⟩:=HX.out.get hin
      have HSET:=hid (fun y=>And.intro (hset y) (HK.out.setCell (p:=⟨g,i,none⟩) (.inr hgb) (.int .i64 y)))
      have HGET:=hid (fun k (hk:k<n)=>(HV.out.keepF HK.out).int hk)
      have NR:=hid (fun w x (h1:-1≤x) (h2:x≤(n:Int))=>near_any w x n hn2 hn h1 h2)
      have hw1:IntKind.i64.wrap ((i:Int)-1)=(i:Int)-1:=IntWalk.i64_in _ (by omega)
      have hw2:IntKind.i64.wrap ((i:Int)+1)=(i:Int)+1:=IntWalk.i64_in _ (by omega)
      obtain⟨ad,_,hAad,_⟩:=(HV.out.keepF HK.out).int hin
      subst hXg
      subst hAad
      have dc:wr.drew.cell? ⟨g,i,none⟩=some (.int .i64 z):=hc
      have df:wr.drew.frozen? ⟨g,i,none⟩=false:=hf
      clear hc hf hset HX HK
      go_wp2_with fail
      refine At.start (L:=#[false,false,false,false,false,false,false,false,false,false,false,false,false,false,false,false,false,false,false,false,false,false,false,false,false]) (by kernel_rfl) rfl ?_
      refine AtP 0 (some 38) ?_
      try simp only [NS]
      refine AtP 1 (some 39) ?_
      try simp only [NS]
      refine AtP 2 (some 40) ?_
      try simp only [NS]
      refine AtP 3 (some 41) ?_
      try simp only [NS]
      refine AtP 4 (some 42) ?_
      try simp only [NS]
      first|refine AtL 5 (some 43) Tryz.underlying3 ?_|refine AtR 5 (some 43) Tryz.underlying3 ?_
      try simp only [NS]
      refine AtP 6 (some 44) ?_
      try simp only [NS]
      refine AtP 7 (some 45) ?_
      try simp only [NS]
      refine AtP 8 (some 46) ?_
      try simp only [NS]
      refine AtP 9 (some 47) ?_
      try simp only [NS]
      refine AtP 13 (some 51) ?_
      try simp only [NS]
      refine AtP 14 (some 52) ?_
      try simp only [NS]
      refine AtP 15 (some 53) ?_
      try simp only [NS]
      refine AtP 16 (some 54) ?_
      try simp only [NS]
      refine At.call_all 10 rfl (by kernel_rfl) rfl (fun K hK=>?_)
      go_simp
      refine(NR.out _ _ (by omega) (by omega)).mono ?_
      rintro e w7 ⟨k1,hk1,rfl,hw⟩
      cases hw
      obtain⟨ad1,y1,e1,hc1⟩:=HGET.out k1 hk1
      injection e1 with e1
      subst e1
      have d1:wr.drew.cell? (ad.add k1)=some (.int .i64 y1):=hc1
      clear hc1
      refine hK _ _ (all_cons (by assumption) all_nil) ?_
      clear hK K
      try simp only [NS]
      refine AtP 11 (some 49) ?_
      try simp only [NS]
      first|refine AtL 12 (some 50) Tryz.underlying3 ?_|refine AtR 12 (some 50) Tryz.underlying3 ?_
      try simp only [NS]
      refine At.call_all 17 rfl (by kernel_rfl) rfl (fun K hK=>?_)
      go_simp
      refine(NR.out _ _ (by omega) (by omega)).mono ?_
      rintro e w7 ⟨k2,hk2,rfl,hw⟩
      cases hw
      obtain⟨ad2,y2,e2,hc2⟩:=HGET.out k2 hk2
      injection e2 with e2
      subst e2
      have d2:wr.drew.cell? (ad.add k2)=some (.int .i64 y2):=hc2
      clear hc2
      refine hK _ _ (by repeat' first|exact all_nil|refine all_cons (by assumption) ?_) ?_
      clear hK K
      try simp only [NS]
      refine AtP 18 (some 56) ?_
      try simp only [NS]
      first|refine AtL 19 (some 57) Tryz.underlying3 ?_|refine AtR 19 (some 57) Tryz.underlying3 ?_
      try simp only [NS]
      refine AtP 20 (some 58) ?_
      try simp only [NS]
      refine AtP 21 (some 59) ?_
      try simp only [NS]
      refine AtP 22 (some 60) ?_
      try simp only [NS]
      refine AtP 23 (some 61) ?_
      try simp only [NS]
      refine AtC 24 fun K hK=>?_
      go_simp
      skip
      refine hK _ _ all_nil ?_
      clear hK K
      try simp only [NS]
      refine At.done (by kernel_rfl) ?_
      go_wp2_with fail
      go_roundw
      case rel=>exact⟨i+2,by omega,by go_num,hid (HSET.out _).1,hid (HSET.out _).2.drew⟩
      case measure=>simp [intOf]<;>omega
    · go_wp2_with fail
      have HX0:=HX
      have HK0:=HK
      clear HX HK hi hin
      go_loopw [9] (fun v wr=> ∃i:Nat,i≤n+1∧v=.int .i64 i∧Hid (Own wr w.heap.size X n cX)∧Hid (Keep (fun _=>False) w wr)) (fun v _=>n+2-(intOf v).toNat)
      case atStart=>exact⟨od.toNat,by omega,by congr 1;omega,HX0,HK0⟩
      case round=>
       clear HX0 HK0
       obtain⟨j,hj,rfl,HX,HK⟩:=hrel
       by_cases hin:j<n
       · skip
         have hn2:2≤n:=by omega
         obtain⟨g,z,hXg,hcX,hgb,hc,hf,hset⟩:=HX.out.get hin
         have HSET:=hid (fun y=>And.intro (hset y) (HK.out.setCell (p:=⟨g,j,none⟩) (.inr hgb) (.int .i64 y)))
         have HGET:=hid (fun k (hk:k<n)=>HX.out.get hk)
         have NR:=hid (fun w x (h1:-1≤x) (h2:x≤(n:Int))=>near_any w x n hn2 hn h1 h2)
         have hw1:IntKind.i64.wrap ((j:Int)-1)=(j:Int)-1:=IntWalk.i64_in _ (by omega)
         have hw2:IntKind.i64.wrap ((j:Int)+1)=(j:Int)+1:=IntWalk.i64_in _ (by omega)
         subst hXg
         have dc:wr.drew.cell? ⟨g,j,none⟩=some (.int .i64 z):=hc
         have df:wr.drew.frozen? ⟨g,j,none⟩=false:=hf
         clear hc hf hset HX HK
         go_wp2_with fail
         refine At.start (L:=#[false,false,false,false,false,false,false,false,false,false,false,false,false,false,false,false,false,false,false,false,false,false,false,false,false,false]) (by kernel_rfl) rfl ?_
         refine AtP 0 (some 68) ?_
         try simp only [NS]
         refine AtP 1 (some 69) ?_
         try simp only [NS]
         refine AtP 2 (some 70) ?_
         try simp only [NS]
         refine AtP 3 (some 71) ?_
         try simp only [NS]
         refine AtP 4 (some 72) ?_
         try simp only [NS]
         first|refine AtL 5 (some 73) Tryz.underlying3 ?_|refine AtR 5 (some 73) Tryz.underlying3 ?_
         try simp only [NS]
         refine AtP 6 (some 74) ?_
         try simp only [NS]
         refine AtP 7 (some 75) ?_
         try simp only [NS]
         refine AtP 8 (some 76) ?_
         try simp only [NS]
         refine AtP 9 (some 77) ?_
         try simp only [NS]
         refine AtP 13 (some 81) ?_
         try simp only [NS]
         refine AtP 14 (some 82) ?_
         try simp only [NS]
         refine AtP 15 (some 83) ?_
         try simp only [NS]
         refine AtP 16 (some 84) ?_
         try simp only [NS]
         refine At.call_all 10 rfl (by kernel_rfl) rfl (fun K hK=>?_)
         go_simp
         refine(NR.out _ _ (by omega) (by omega)).mono ?_
         rintro e w7 ⟨k1,hk1,rfl,hw⟩
         cases hw
         obtain⟨g1,y1,e1,_,_,hc1,_,_⟩:=HGET.out k1 hk1
         injection e1 with e1
         injection e1 with e1
         subst e1
         have d1:wr.drew.cell? ⟨g,k1,none⟩=some (.int .i64 y1):=hc1
         clear hc1
         refine hK _ _ (all_cons (by assumption) all_nil) ?_
         clear hK K
         try simp only [NS]
         refine AtP 11 (some 79) ?_
         try simp only [NS]
         first|refine AtL 12 (some 80) Tryz.underlying3 ?_|refine AtR 12 (some 80) Tryz.underlying3 ?_
         try simp only [NS]
         refine At.call_all 17 rfl (by kernel_rfl) rfl (fun K hK=>?_)
         go_simp
         refine(NR.out _ _ (by omega) (by omega)).mono ?_
         rintro e w7 ⟨k2,hk2,rfl,hw⟩
         cases hw
         obtain⟨g2,y2,e2,_,_,hc2,_,_⟩:=HGET.out k2 hk2
         injection e2 with e2
         injection e2 with e2
         subst e2
         have d2:wr.drew.cell? ⟨g,k2,none⟩=some (.int .i64 y2):=hc2
         clear hc2
         refine hK _ _ (by repeat' first|exact all_nil|refine all_cons (by assumption) ?_) ?_
         clear hK K
         try simp only [NS]
         refine AtP 18 (some 86) ?_
         try simp only [NS]
         first|refine AtL 19 (some 87) Tryz.underlying3 ?_|refine AtR 19 (some 87) Tryz.underlying3 ?_
         try simp only [NS]
         refine AtP 20 (some 88) ?_
         try simp only [NS]
         refine AtP 21 (some 89) ?_
         try simp only [NS]
         refine AtP 22 (some 90) ?_
         try simp only [NS]
         refine AtP 23 (some 91) ?_
         try simp only [NS]
         refine AtP 24 (some 92) ?_
         try simp only [NS]
         refine AtC 25 fun K hK=>?_
         go_simp
         skip
         refine hK _ _ all_nil ?_
         clear hK K
         try simp only [NS]
         refine At.done (by kernel_rfl) ?_
         go_wp2_with fail
         go_roundw
         case rel=>exact⟨j+2,by omega,by go_num,hid (HSET.out _).1,hid (HSET.out _).2.drew⟩
         case measure=>simp [intOf]<;>omega
       · have HT0:=hid (show TwoR w X n cX none 0 0 wr from⟨HX.out,Own.nil _ _,fun a b e=>(by cases e),HK.out⟩)
         clear HX HK
         go_wp2_with fail
         clear hj hin
         go_loopw [10,11] (fun u v wr=> ∃(m:Nat) (O:Option Addr) (cO:Nat),u=.slice O m cO∧v=.int .i64 (od+2*m)∧od+2*m≤n+1∧Hid (TwoR w X n cX O m cO wr)) (fun _ v _=>n+2-(intOf v).toNat)
         case atStart=>exact⟨0,none,0,rfl,by simp,by omega,HT0⟩
         case round=>
          clear HT0
          obtain⟨m,O,cO,rfl,rfl,hm,HT⟩:=hrel
          by_cases hin:od+2*m<n
          · obtain⟨t,ht⟩: ∃t:Nat,od+2*m=t:=⟨(od+2*m).toNat,by omega⟩
            obtain⟨g,z,hXg,hcX,hgb,hc,hf,_⟩:=HT.out.x.get (i:=t) (by omega)
            obtain⟨zo,hzo,ho⟩:=HT.out.o
            have HOO:=hid ho
            have HTX:=hid ht
            have hb0:=HT.out.keep.size
            rw [ht]at hin ⊢
            clear ho hf
            subst hXg
            go_wp2_with (
             at_builtin
             go_must (refine wpList_append_one wr rfl (.tmp 99) (.tmp 104) _ rfl w.heap.size 3 i0 _ 8 Tryz.underlying22 hi0 hz0 hz1 hz2 rfl HOO.out rfl _ rfl rfl (by simp only [maxLen];omega) (by omega) hb0 ?_)
             intro v2 w2 hown2 hg2 hat2 _hold2
             obtain⟨O2,cO2,rfl⟩:=own_form hown2
             have HN:=hid (HT.out.push hzo hown2 hg2 hat2)
             clear hown2 hg2 hat2 _hold2)
            go_roundw
            case rel=>exact⟨m+1,O2,cO2,rfl,by congr 1;have:=HTX.out;omega,by have:=HTX.out;omega,HN⟩
            case measure=>simp [intOf]<;>omega
          · have hM:od+2*m=n∨od+2*m=n+1:=by omega
            have HMM:=hid hM
            clear hM
            have HT0:=hid (show TwoR w X n cX O (m+0) cO wr from HT.out)
            clear HT
            go_wp2_with fail
            clear hin
            go_loopw [10,12] (fun u v wr=> ∃(q:Nat) (O:Option Addr) (cO:Nat),u=.slice O (m+q) cO∧v=.int .i64 (1-od+2*q)∧1-od+2*q≤n+1∧Hid (TwoR w X n cX O (m+q) cO wr)) (fun _ v _=>n+2-(intOf v).toNat)
            case atStart=>exact⟨0,O,cO,rfl,by simp,by omega,HT0⟩
            case round=>
             clear HT0
             obtain⟨q,O,cO,rfl,rfl,hq,HT⟩:=hrel
             by_cases hin:1-od+2*q<n
             · obtain⟨t,ht⟩: ∃t:Nat,1-od+2*q=t:=⟨(1-od+2*q).toNat,by omega⟩
               obtain⟨g,z,hXg,hcX,hgb,hc,hf,_⟩:=HT.out.x.get (i:=t) (by omega)
               obtain⟨zo,hzo,ho⟩:=HT.out.o
               have HOO:=hid ho
               have HTX:=hid ht
               have hb0:=HT.out.keep.size
               rw [ht]at hin ⊢
               clear ho hf
               subst hXg
               go_wp2_with (
                at_builtin
                go_must (refine wpList_append_one wr rfl (.tmp 113) (.tmp 118) _ rfl w.heap.size 3 i0 _ 8 Tryz.underlying22 hi0 hz0 hz1 hz2 rfl HOO.out rfl _ rfl rfl (by simp only [maxLen];omega) (by omega) hb0 ?_)
                intro v2 w2 hown2 hg2 hat2 _hold2
                obtain⟨O2,cO2,rfl⟩:=own_form hown2
                have HN:=hid (HT.out.push hzo hown2 hg2 hat2)
                clear hown2 hg2 hat2 _hold2)
               go_roundw
               case rel=>exact⟨q+1,O2,cO2,rfl,by congr 1;have:=HTX.out;omega,by have:=HTX.out;omega,HN⟩
               case measure=>simp [intOf]<;>omega
             · have hmq:m+q=n:=by have:=HMM.out;omega
               go_wp2_with fail
               go_ret
               obtain⟨zo,hzo,ho⟩:=HT.out.o
               rw [hmq]at ho hzo
               exact⟨O,cO,zo,rfl,hzo,ho,HT.out.keep⟩
theorem half_any (w:World) (r:Rc) (h:r.pos 16777216):
 Calls Tryz.prog 80 #[r.val] w fun e w'=>e=.returned r.half.val∧Keep (fun _=>False) w w':=by
 have HK:=hid (((Keep.refl (fun _=>False) w).alloc (.cells r.cells 63)).alloc (.cells #[.int .i64 0,.int .i64 0,.int .i64 0,.int .i64 0] 63))
 have HB2:=hid (Blk.new1 w (.cells r.cells 63) 63 #[.int .i64 0,.int .i64 0,.int .i64 0,.int .i64 0])
 obtain⟨x0,y0,x1,y1⟩:=r
 obtain⟨h1,h2,h3,h4⟩:=h
 simp only at h1 h2 h3 h4
 unfold Rc.val Rc.half
 unfold Rc.cells at HK HB2
 simp only at HK HB2 ⊢
 have t0:(x0+1).tdiv 2=(x0+1)/2:=Int.tdiv_eq_ediv_of_nonneg (by omega)
 have t1:(y0+1).tdiv 2=(y0+1)/2:=Int.tdiv_eq_ediv_of_nonneg (by omega)
 have t2:(x1+1).tdiv 2=(x1+1)/2:=Int.tdiv_eq_ediv_of_nonneg (by omega)
 have t3:(y1+1).tdiv 2=(y1+1)/2:=Int.tdiv_eq_ediv_of_nonneg (by omega)
 go_enter Tryz.func80,Tryz.ntmps80
 go_wp2_with (refine wpList_store_row rfl _ _ _ rfl (w.heap.size+1) _ rfl rfl _ _ HB2.out (by kernel_rfl) rfl (by simp [Value.oneCell']) ?_)
 exact bodyPost_ret (ret_row rfl _ _ (w.heap.size+1) 63 _ _ HB2.out.row rfl Tryz.underlying63 rfl (by kernel_rfl)) rfl ⟨rfl,HK.out.row (.inr (by omega)) _⟩
theorem lows_any (w:World) (a b:Int) (ha:0≤a∧a≤16777216) (hb:0≤b∧b≤16777216):
 Calls Tryz.prog 78 #[.int .i64 a,.int .i64 b] w fun e w'=>e=.returned (.int .i64 (lowsI a b))∧w=w':=by
 have e1:(b+1).tdiv 2=(b+1)/2:=Int.tdiv_eq_ediv_of_nonneg (by omega)
 have e2:(a+1).tdiv 2=(a+1)/2:=Int.tdiv_eq_ediv_of_nonneg (by omega)
 go_enter Tryz.func78,Tryz.ntmps78
 go_wp2_with fail
 go_ret
 exact⟨ret_i64 (by unfold lowsI;omega),rfl⟩
theorem made_ints (n:Nat):(madeCells #[Value.int .i64 0] n).toList=(List.replicate n (0:Int)).map (Value.int .i64):=by
 apply List.ext_getElem?
 intro i
 by_cases h:i<n
 · have:=made_at (.int .i64 0) n i h
   rw [Array.getElem?_toList,this]
   simp [h]
 · rw [List.getElem?_eq_none (by simp [size_madeCells];omega),List.getElem?_eq_none (by simp;omega)]
theorem wpList_make_ints {P:Program} {ops:Array Oper} {rest:List Oper} {o:Oper} {a:Act} {Q:Exit→Act→World→Prop} (w:World) (hgd:o.guard=none) (l c:Operand) (t:TypeId) (hop:o.op=Op.makeSlice t l c) (i:TypeInfo) (h1:P.underlying t=some (.slice 3)) (h2:P.info? 3=some i) (h3:i.zero=some (.int .i64 0)) (h4:i.size=1) (h5:i.bytes=8)
 (n:Nat) (hl:a.eval l=.int .i64 n) (hc:a.eval c=.int .i64 n) (hn:n≤1000000)
 (h: ∀w2,Own w2 w.heap.size (some ⟨w.heap.size,0,none⟩) n n→Keep (fun _=>False) w w2→wpList P ops Q rest (a.put o.dst (.slice (some ⟨w.heap.size,0,none⟩) n n)) w2):wpList P ops Q (o::rest) a w:=
 wpList_make hgd l c t hop 3 i _ h1 h2 h3 h4 rfl n hl hc (by rw [h5];omega) (by simp only [maxLen];omega) (fun w2 hb hk=>h w2 ⟨List.replicate n 0,by simp,⟨by simp,.inr ⟨w.heap.size,n,_,rfl,Nat.le_refl _,hb,Nat.le_refl _,by simp only [maxLen];omega,by rw [size_madeCells,Nat.mul_one],by rw [Nat.mul_one,List.take_of_length_le (by simp [size_madeCells]),made_ints]⟩⟩⟩ hk)
theorem columns_any (w:World) (W H:Nat) (at0:Int) (A:Option Addr) (c:Nat) (zs:List Int) (h:Rd w A (W*H) (zs.map (Value.int .i64))) (hW:W≤12) (hH:H≤12):
 Calls Tryz.prog 77 #[.int .i64 W,.int .i64 H,.int .i64 at0,.slice A (W*H) c,.bool false] w (RowP (W*H) w):=by
 obtain⟨i0,hi0,hz0,hz1,hz2⟩:=info_parts info_int
 have HIX:=hid (fun x y (hx:x<W) (hy:y<H)=>ix_lt hx hy)
 have hN:W*H≤12*12:=Nat.mul_le_mul hW hH
 have HV:=hid h
 obtain⟨N,hNN⟩: ∃N,W*H=N:=⟨_,rfl⟩
 rw [hNN]at HV hN ⊢
 have HNN:=hid hNN
 clear hNN h
 go_enter Tryz.func77,Tryz.ntmps77
 go_upto_region 2 with(refine wpList_make_ints _ rfl (.tmp 17) (.tmp 17) _ rfl i0 Tryz.underlying22 hi0 hz0 hz1 hz2 N rfl rfl (by omega) ?_;intro w2 ho hk;have HO2:=hid ho;have HK2:=hid hk;clear ho hk)
 go_wp2_with fail
 go_loopw [12] (fun v wr=> ∃x:Nat,x≤W∧v=.int .i64 x∧Hid (Own wr w.heap.size (some ⟨w.heap.size,0,none⟩) N N)∧Hid (Keep (fun _=>False) w wr)) (fun v _=>W-(intOf v).toNat)
 case atStart=>exact⟨0,by omega,rfl,HO2,HK2⟩
 case round=>
  clear HO2 HK2
  obtain⟨x,hx,rfl,HO,HK⟩:=hrel
  by_cases hxW:x<W
  · have HT0:=hid (show TwoR w (some ⟨w.heap.size,0,none⟩) N N none 0 0 wr from⟨HO.out,Own.nil _ _,fun a b e=>(by cases e),HK.out⟩)
    clear HO HK
    go_wp2_with fail
    go_loopw [13,14] (fun u v wr=> ∃(y:Nat) (O:Option Addr) (cO:Nat),y≤H∧u=.slice O y cO∧v=.int .i64 y∧Hid (TwoR w (some ⟨w.heap.size,0,none⟩) N N O y cO wr)) (fun _ v _=>H-(intOf v).toNat)
    case atStart=>exact⟨0,none,0,by omega,rfl,rfl,HT0⟩
    case round=>
     clear HT0
     obtain⟨y,O,cO,hy,rfl,rfl,HT⟩:=hrel
     by_cases hyH:y<H
     · have hix:=HIX.out x y hxW hyH
       rw [HNN.out]at hix
       have e1:(y:Int)*(W:Int)=((y*W:Nat):Int):=by push_cast;rfl
       have e2:IntKind.i64.wrap ((y*W:Nat):Int)=((y*W:Nat):Int):=IntWalk.i64_in _ (by omega)
       obtain⟨v,hv⟩: ∃v,y*W+x=v:=⟨_,rfl⟩
       rw [hv]at hix
       generalize y*W=q at*
       have e3:(q:Int)+(x:Int)=(v:Int):=by omega
       obtain⟨ad,z,hA,hcz⟩:=(HV.out.keepF HT.out.keep).int hix
       obtain⟨zo,hzo,ho⟩:=HT.out.o
       have HOO:=hid ho
       have hb0:=HT.out.keep.size
       subst hA
       clear ho hv
       go_wp2_with (
        at_builtin
        go_must (refine wpList_append_one wr rfl (.tmp 29) (.tmp 38) _ rfl w.heap.size 3 i0 _ 8 Tryz.underlying22 hi0 hz0 hz1 hz2 rfl HOO.out rfl _ rfl rfl (by simp only [maxLen];omega) (by omega) hb0 ?_)
        intro v2 w2 hown2 hg2 hat2 _hold2
        obtain⟨O2,cO2,rfl⟩:=own_form hown2
        have HN:=hid (HT.out.push hzo hown2 hg2 hat2)
        clear hown2 hg2 hat2 _hold2)
       go_roundw
       case rel=>exact⟨y+1,O2,cO2,by omega,rfl,by go_num,HN⟩
       case measure=>simp [intOf]<;>omega
     · obtain rfl:y=H:=by omega
       obtain⟨zo,hzo,hro⟩:=HT.out.o.rd
       have LS:=hid (lsplit_any wr at0 O y cO zo hro (by omega))
       clear hro
       go_wp2_with fail
       refine LS.out.mono ?_
       rintro e w3 ⟨C,cC,zc,rfl,hzc,hoc,hk3⟩
       have HT3:=hid (TwoR.of HT.out.x HT.out.keep (show Own w3 wr.heap.size C y cC from⟨zc,hzc,hoc⟩) hk3)
       clear hoc hk3 HT LS
       go_wp2_with fail
       go_loopw [15] (fun v wr=> ∃t:Nat,t≤y∧v=.int .i64 t∧Hid (TwoR w (some ⟨w.heap.size,0,none⟩) N N C y cC wr)) (fun v _=>y-(intOf v).toNat)
       case atStart=>exact⟨0,by omega,rfl,HT3⟩
       case round=>
        clear HT3
        obtain⟨t,ht,rfl,HT⟩:=hrel
        by_cases hty:t<y
        · have hix:=HIX.out x t hxW hty
          rw [HNN.out]at hix
          have e1:(t:Int)*(W:Int)=((t*W:Nat):Int):=by push_cast;rfl
          have e2:IntKind.i64.wrap ((t*W:Nat):Int)=((t*W:Nat):Int):=IntWalk.i64_in _ (by omega)
          obtain⟨v,hv⟩: ∃v,t*W+x=v:=⟨_,rfl⟩
          rw [hv]at hix
          generalize t*W=q at*
          have e3:(q:Int)+(x:Int)=(v:Int):=by omega
          obtain⟨g,z,hX,_,hc,hf,hset⟩:=HT.out.setX hix
          obtain⟨g2,z2,hC,hcC,_,hc2,_,_⟩:=HT.out.o.get hty
          have HS:=hid hset
          injection hX with hX
          injection hX with hX
          subst hX
          subst hC
          clear hset hv
          go_wp2_with fail
          go_roundw
          case rel=>exact⟨t+1,by omega,by go_num,hid (HS.out _)⟩
          case measure=>simp [intOf]<;>omega
        · obtain rfl:t=y:=by omega
          go_wp2_with fail
          go_roundw
          case rel=>exact⟨x+1,by omega,by go_num,hid HT.out.x,hid HT.out.keep⟩
          case measure=>simp [intOf]<;>omega
  · obtain rfl:x=W:=by omega
    go_wp2_with fail
    go_ret
    obtain⟨zs',h1,h2⟩:=HO.out
    exact⟨_,N,zs',rfl,h1,h2,HK.out⟩
end Go.Proofs.YthfogcgdijmaoaaGreat
