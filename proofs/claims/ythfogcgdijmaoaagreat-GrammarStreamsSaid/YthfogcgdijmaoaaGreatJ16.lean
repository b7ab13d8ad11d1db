/-
  Part 16 of the proof: Dwt2 Dwt3 Shift CodR2 Flat SetL. Conditions: those of the statements.
-/
import Derived.Test.YthfogcgdijmaoaaGreatJ12
import Derived.Test.YthfogcgdijmaoaaGreatJ13
import Derived.Test.YthfogcgdijmaoaaGreatJ14
import Derived.Test.YthfogcgdijmaoaaGreatJ15
set_option maxRecDepth 100000
set_option maxHeartbeats 16000000
set_option linter.unusedVariables false
set_option linter.unusedSimpArgs false
namespace Go.Proofs.YthfogcgdijmaoaaGreat
open Go.RowKit
theorem Rd.part {w:World} {A:Option Addr} {n:Nat} {xs:List Value} (h:Rd w A n xs) {k m cap:Nat} (hk:k+m≤n) (hc:n≤cap):Rd w (if cap=k then A else A.map (·.add k)) m ((xs.drop k).take m):=by
 have h1:=h.drop (k:=k) (cap:=cap) (by omega) hc
 exact h1.take (k:=m) (by omega)
theorem ints_part {zs:List Int} {k m:Nat}:((zs.map (Value.int .i64)).drop k).take m=((zs.drop k).take m).map (Value.int .i64):=by rw [List.map_take,List.map_drop]
theorem rows_any10 (w:World) (W H:Nat) (at0:Int) (A:Option Addr) (c:Nat) (zs:List Int) (h:Rd w A (W*H) (zs.map (Value.int .i64))) (hc:W*H≤c) (hW:W≤12) (hH:H≤12):
 Calls Tryz.prog 76 #[.int .i64 W,.int .i64 H,.int .i64 at0,.slice A (W*H) c,.bool false] w (RowP (W*H) w):=by
 obtain⟨i0,hi0,hz0,hz1,hz2⟩:=info_parts info_int
 have hN:W*H≤12*12:=Nat.mul_le_mul hW hH
 have HV:=hid h
 obtain⟨N,hNN⟩: ∃N,W*H=N:=⟨_,rfl⟩
 have HNN:=hid hNN
 have HMUL:=hid (fun y (hy:y<H)=>show y*W+W≤N from by
  rw [← hNN]
  have:(y+1)*W≤H*W:=Nat.mul_le_mul_right W hy
  rw [Nat.add_mul,Nat.one_mul,Nat.mul_comm H W]at this
  exact this)
 rw [hNN]at HV hN hc ⊢
 clear hNN h
 go_enter Tryz.func76,Tryz.ntmps76
 go_wp2_with fail
 go_loopw [11,12] (fun u v wr=> ∃(y:Nat) (O:Option Addr) (cO:Nat),y≤H∧u=.slice O (W*y) cO∧v=.int .i64 y∧Hid (Own wr w.heap.size O (W*y) cO)∧Hid (Keep (fun _=>False) w wr)) (fun _ v _=>H-(intOf v).toNat)
 case atStart=>exact⟨0,none,0,by omega,by rw [Nat.mul_zero],rfl,by rw [Nat.mul_zero];exact hid (Own.nil _ _),hid (Keep.refl _ _)⟩
 case round=>
  obtain⟨y,O,cO,hy,rfl,rfl,HO,HK⟩:=hrel
  by_cases hyH:y<H
  · have hml:=HMUL.out y hyH
    have e1:(y:Int)*(W:Int)=((y*W:Nat):Int):=by push_cast;rfl
    have e1':((y:Int)+1)*(W:Int)=((y*W+W:Nat):Int):=by rw [Int.add_mul,Int.one_mul,e1];push_cast;rfl
    obtain⟨q,hq⟩: ∃q,y*W=q:=⟨_,rfl⟩
    rw [hq]at e1 e1' hml
    have e2:IntKind.i64.wrap (q:Int)=(q:Int):=IntWalk.i64_in _ (by omega)
    obtain⟨t,ht⟩: ∃t,q+W=t:=⟨_,rfl⟩
    rw [ht]at e1' hml
    have e2':IntKind.i64.wrap (t:Int)=(t:Int):=IntWalk.i64_in _ (by omega)
    have htq:q≤t:=by omega
    have HPT:=hid ((HV.out.keepF HK.out).part (k:=q) (m:=W) (cap:=c) (by omega) hc)
    have HQ:=hid (And.intro hq ht)
    clear hq ht
    have htw:t-q=W:=by have:=HQ.out;omega
    have hWy:W*y≤12*12:=Nat.mul_le_mul hW (by omega)
    by_cases hcq:c=q
    · have HP:=HPT.out
      rw [if_pos hcq,ints_part]at HP
      have HP:=hid HP
      subst hcq
      go_wp2_with fail
      try rw [htw]
      refine(lsplit_any wr at0 _ W _ _ HP.out (by omega)).mono ?_
      rintro e w3 ⟨C,cC,zc,rfl,hzc,hoc,hk3⟩
      have HO3:=hid (HO.out.keepF hk3)
      have HK3:=hid (HK.out.trans hk3 (fun _ _ h=>h))
      have HC3:=hid (Rd.of_own hoc)
      obtain⟨zo,hzo,ho⟩:=HO3.out
      have HOO:=hid ho
      have hb0:=HK3.out.size
      have hzc2:=hid hzc
      clear hoc hk3 ho hzc HO HK HO3 HP HPT
      go_wp2_with (
       at_builtin
       go_must (refine wpList_append_src _ rfl (.tmp 32) (.tmp 43) 22 rfl w.heap.size 3 i0 _ 8 Tryz.underlying22 hi0 hz0 hz1 hz2 rfl HOO.out rfl HC3.out rfl (oneCell_ints _ _) (by simp only [maxLen];omega) (by omega) hb0 ?_)
       intro v6 w6 hown6 hg6 _h6 _h7
       obtain⟨O2,cO2,rfl⟩:=own_form hown6
       have HN:=hid (show Own w6 w.heap.size O2 (W*(y+1)) cO2 from⟨zo++zc,by rw [List.length_append,hzo,hzc2.out,Nat.mul_succ],by rw [List.map_append,Nat.mul_succ];exact hown6⟩)
       have HKN:=hid (keep_app HK3.out HOO.out (Nat.le_refl _) ((Keep.refl (fun i=>(Value.slice O (W*y) cO).ownBlock=some i) w3).grown hg6 (fun k hk=>.inl hk)))
       clear hown6 hg6 _h6 _h7)
      go_roundw
      case rel=>exact⟨y+1,O2,cO2,by omega,by rw [Nat.mul_succ],by go_num,HN,HKN⟩
      case measure=>simp [intOf]<;>omega
    · have HP:=HPT.out
      rw [if_neg hcq,ints_part]at HP
      have HP:=hid HP
      go_wp2_with fail
      try rw [htw]
      refine(lsplit_any wr at0 _ W _ _ HP.out (by omega)).mono ?_
      rintro e w3 ⟨C,cC,zc,rfl,hzc,hoc,hk3⟩
      have HO3:=hid (HO.out.keepF hk3)
      have HK3:=hid (HK.out.trans hk3 (fun _ _ h=>h))
      have HC3:=hid (Rd.of_own hoc)
      obtain⟨zo,hzo,ho⟩:=HO3.out
      have HOO:=hid ho
      have hb0:=HK3.out.size
      have hzc2:=hid hzc
      clear hoc hk3 ho hzc HO HK HO3 HP HPT
      go_wp2_with (
       at_builtin
       go_must (refine wpList_append_src _ rfl (.tmp 32) (.tmp 43) 22 rfl w.heap.size 3 i0 _ 8 Tryz.underlying22 hi0 hz0 hz1 hz2 rfl HOO.out rfl HC3.out rfl (oneCell_ints _ _) (by simp only [maxLen];omega) (by omega) hb0 ?_)
       intro v6 w6 hown6 hg6 _h6 _h7
       obtain⟨O2,cO2,rfl⟩:=own_form hown6
       have HN:=hid (show Own w6 w.heap.size O2 (W*(y+1)) cO2 from⟨zo++zc,by rw [List.length_append,hzo,hzc2.out,Nat.mul_succ],by rw [List.map_append,Nat.mul_succ];exact hown6⟩)
       have HKN:=hid (keep_app HK3.out HOO.out (Nat.le_refl _) ((Keep.refl (fun i=>(Value.slice O (W*y) cO).ownBlock=some i) w3).grown hg6 (fun k hk=>.inl hk)))
       clear hown6 hg6 _h6 _h7)
      go_roundw
      case rel=>exact⟨y+1,O2,cO2,by omega,by rw [Nat.mul_succ],by go_num,HN,HKN⟩
      case measure=>simp [intOf]<;>omega
  · obtain rfl:y=H:=by omega
    go_wp2_with fail
    go_ret
    obtain⟨zs',h1,h2⟩:=HO.out
    rw [HNN.out]at h1 h2
    exact⟨_,cO,zs',by rw [← HNN.out];rfl,h1,h2,HK.out⟩
theorem cut10_any (w:World) (W H:Nat) (A:Option Addr) (c:Nat) (zs:List Int) (x0 y0 D E:Nat) (h:Rd w A (W*H) (zs.map (Value.int .i64))) (hc:W*H≤c) (hW:W≤12) (hH:H≤12) (hx:x0+D≤W) (hy:y0+E≤H):
 Calls Tryz.prog 79 #[.int .i64 W,.slice A (W*H) c,.int .i64 x0,.int .i64 y0,.int .i64 ((x0+D:Nat):Int),.int .i64 ((y0+E:Nat):Int)] w (RowP (D*E) w):=by
 obtain⟨i0,hi0,hz0,hz1,hz2⟩:=info_parts info_int
 have hN:W*H≤12*12:=Nat.mul_le_mul hW hH
 have HV:=hid h
 have HZL:=hid (show zs.length=W*H from by have:=h.1;rwa [List.length_map]at this)
 obtain⟨N,hNN⟩: ∃N,W*H=N:=⟨_,rfl⟩
 have HMUL:=hid (fun y (hy:y<H)=>show y*W+W≤N from by
  rw [← hNN]
  have:(y+1)*W≤H*W:=Nat.mul_le_mul_right W hy
  rw [Nat.add_mul,Nat.one_mul,Nat.mul_comm H W]at this
  exact this)
 rw [hNN]at HV hN hc HZL ⊢
 clear hNN h
 obtain⟨x1,hx1⟩: ∃x1,x0+D=x1:=⟨_,rfl⟩
 obtain⟨y1,hy1⟩: ∃y1,y0+E=y1:=⟨_,rfl⟩
 rw [hx1,hy1]
 have HX1:=hid hx1
 have HY1:=hid hy1
 have hDl:D≤12:=by omega
 rw [hx1]at hx
 rw [hy1]at hy
 have hx01:x0≤x1:=by omega
 have hy01:y0≤y1:=by omega
 clear hx1 hy1
 go_enter Tryz.func79,Tryz.ntmps79
 go_wp2_with fail
 go_loopw [13,14] (fun u v wr=> ∃(y:Nat) (O:Option Addr) (cO:Nat),y0+y≤y1∧u=.slice O (D*y) cO∧v=.int .i64 ((y0:Int)+y)∧Hid (Own wr w.heap.size O (D*y) cO)∧Hid (Keep (fun _=>False) w wr)) (fun _ v _=>y1-(intOf v).toNat)
 case atStart=>exact⟨0,none,0,by omega,by rw [Nat.mul_zero],by simp,by rw [Nat.mul_zero];exact hid (Own.nil _ _),hid (Keep.refl _ _)⟩
 case round=>
  obtain⟨y,O,cO,hy2,rfl,rfl,HO,HK⟩:=hrel
  by_cases hyH:y0+y<y1
  · have hml:=HMUL.out (y0+y) (by omega)
    have hxe:=HX1.out
    have e1:((y0:Int)+(y:Int))*(W:Int)=(((y0+y)*W:Nat):Int):=by push_cast;rfl
    obtain⟨p,hp⟩: ∃p,(y0+y)*W=p:=⟨_,rfl⟩
    rw [hp]at e1 hml
    have e2:IntKind.i64.wrap (p:Int)=(p:Int):=IntWalk.i64_in _ (by omega)
    obtain⟨q,hq⟩: ∃q,p+x0=q:=⟨_,rfl⟩
    obtain⟨t,ht⟩: ∃t,p+x1=t:=⟨_,rfl⟩
    have f1:(p:Int)+(x0:Int)=(q:Int):=by omega
    have f2:(p:Int)+(x1:Int)=(t:Int):=by omega
    have htq:q≤t:=by omega
    have htN:t≤N:=by omega
    have htw:t-q=D:=by omega
    have HPT:=hid ((HV.out.keepF HK.out).part (k:=q) (m:=D) (cap:=c) (by omega) hc)
    have HLN:=hid (show((zs.drop q).take D).length=D from by rw [List.length_take,List.length_drop,HZL.out];omega)
    have hDy:D*y≤12*12:=Nat.mul_le_mul hDl (by omega)
    obtain⟨zo,hzo,ho⟩:=HO.out
    have HOO:=hid ho
    have hb0:=HK.out.size
    have hql:q≤400:=by omega
    have htl:t≤400:=by omega
    clear hp hq ht hxe hml ho HO
    by_cases hcq:c=q
    · have HP:=HPT.out
      rw [if_pos hcq,ints_part]at HP
      have HP:=hid HP
      obtain rfl:q=c:=hcq.symm
      go_wp2_with (
       at_builtin
       go_must (refine wpList_append_src _ rfl (.tmp 21) (.tmp 33) 22 rfl w.heap.size 3 i0 _ 8 Tryz.underlying22 hi0 hz0 hz1 hz2 rfl HOO.out rfl HP.out rfl (oneCell_ints _ _) (by simp only [maxLen];omega) (by omega) hb0 ?_)
       intro v6 w6 hown6 hg6 _h6 _h7
       obtain⟨O2,cO2,rfl⟩:=own_form hown6
       have HN:=hid (show Own w6 w.heap.size O2 (D*(y+1)) cO2 from⟨zo++((zs.drop q).take D),by rw [List.length_append,hzo,HLN.out,Nat.mul_succ],by rw [List.map_append,Nat.mul_succ];exact hown6⟩)
       have HKN:=hid (keep_app HK.out HOO.out (Nat.le_refl _) ((Keep.refl (fun i=>(Value.slice O (D*y) cO).ownBlock=some i) wr).grown hg6 (fun k hk=>.inl hk)))
       clear hown6 hg6 _h6 _h7)
      go_roundw
      case rel=>exact⟨y+1,O2,cO2,by omega,by rw [Nat.mul_succ],by(congr 1)<;>omega,HN,HKN⟩
      case measure=>simp [intOf]<;>omega
    · have HP:=HPT.out
      rw [if_neg hcq,ints_part]at HP
      have HP:=hid HP
      go_wp2_with (
       at_builtin
       go_must (refine wpList_append_src _ rfl (.tmp 21) (.tmp 33) 22 rfl w.heap.size 3 i0 _ 8 Tryz.underlying22 hi0 hz0 hz1 hz2 rfl HOO.out rfl HP.out rfl (oneCell_ints _ _) (by simp only [maxLen];omega) (by omega) hb0 ?_)
       intro v6 w6 hown6 hg6 _h6 _h7
       obtain⟨O2,cO2,rfl⟩:=own_form hown6
       have HN:=hid (show Own w6 w.heap.size O2 (D*(y+1)) cO2 from⟨zo++((zs.drop q).take D),by rw [List.length_append,hzo,HLN.out,Nat.mul_succ],by rw [List.map_append,Nat.mul_succ];exact hown6⟩)
       have HKN:=hid (keep_app HK.out HOO.out (Nat.le_refl _) ((Keep.refl (fun i=>(Value.slice O (D*y) cO).ownBlock=some i) wr).grown hg6 (fun k hk=>.inl hk)))
       clear hown6 hg6 _h6 _h7)
      go_roundw
      case rel=>exact⟨y+1,O2,cO2,by omega,by rw [Nat.mul_succ],by(congr 1)<;>omega,HN,HKN⟩
      case measure=>simp [intOf]<;>omega
  · obtain rfl:y1=y0+y:=by omega
    have hEy:y=E:=by have:=HY1.out;omega
    subst hEy
    go_wp2_with fail
    go_ret
    obtain⟨zs',h1,h2⟩:=HO.out
    exact⟨_,cO,zs',rfl,h1,h2,HK.out⟩
theorem shift_any (w:World) (dp:Nat) (sg:Bool) (A:Option Addr) (n c:Nat) (zs:List Int) (h:Rd w A n (zs.map (Value.int .i64))) (hn:n≤144) (hd1:1≤dp) (hd:dp≤16):
 Calls Tryz.prog 56 #[.int .i64 dp,.bool sg,.slice A n c] w (RowP n w):=by
 obtain⟨i0,hi0,hz0,hz1,hz2⟩:=info_parts info_int
 have HV:=hid h
 have HZS:=hid (show zs.length=n from by have:=h.1;rwa [List.length_map]at this)
 obtain⟨d,rfl⟩: ∃d,dp=d+1:=⟨dp-1,by omega⟩
 have hw1:IntKind.i64.wrap (((d+1:Nat):Int)-1)=(d:Int):=by rw [IntWalk.i64_in _ (by omega)];omega
 clear h
 go_enter Tryz.func56,Tryz.ntmps56
 go_upto_region 2 with(
  at_builtin
  go_must (refine wpList_append_src _ rfl (.tmp 9) (.tmp 10) 22 rfl w.heap.size 3 i0 _ 8 Tryz.underlying22 hi0 hz0 hz1 hz2 rfl (World.ownsRow_made w #[] 0 (Nat.le_refl _) (by simp [maxLen]) rfl) rfl (HV.out.alloc _) rfl (oneCell_ints _ _) (by simp only [maxLen];omega) (by omega) (by simp) ?_)
  intro v6 w6 hown6 hg6 _h6 _h7
  obtain⟨X,cX,rfl⟩:=own_form hown6
  have HX6:=hid (show Own w6 w.heap.size X n cX from⟨zs,HZS.out,by simpa using hown6⟩)
  have HK6:=hid (show Keep (fun _=>False) w w6 from((Keep.refl (fun _=>False) w).alloc _).grown hg6 (fun k hk=>by
   have:k=w.heap.size:=by simpa [Value.ownBlock]using hk.symm
   exact .inr (by omega)))
  clear hown6 hg6 _h6 _h7)
 go_wp2_with fail
 go_loopw [8] (fun v wr=> ∃i:Nat,i≤n∧v=.int .i64 i∧Hid (Own wr w.heap.size X n cX)∧Hid (Keep (fun _=>False) w wr)) (fun v _=>n-(intOf v).toNat)
 case atStart=>exact⟨0,by omega,rfl,HX6,HK6⟩
 case round=>
  clear HX6 HK6
  obtain⟨i,hi,rfl,HX,HK⟩:=hrel
  have HZ:=hid (show RowP n w (.returned (.slice X n cX)) wr from by
   obtain⟨zs',h1,h2⟩:=HX.out
   exact⟨X,cX,zs',rfl,h1,h2,HK.out⟩)
  by_cases hin:i<n
  · cases sg with
    |true=>
     go_wp2_with fail
     go_ret
     exact HZ.out
    |false=>
     obtain⟨g,z,hXg,hcX,hgb,hc,hf,hset⟩:=HX.out.get hin
     have HS:=hid (fun y=>And.intro (hset y) (HK.out.setCell (p:=⟨g,i,none⟩) (.inr hgb) (.int .i64 y)))
     subst hXg
     clear hset HX HK
     go_wp2_with fail
     go_roundw
     case rel=>exact⟨i+1,by omega,by go_num,hid (HS.out _).1,hid (HS.out _).2⟩
     case measure=>simp [intOf]<;>omega
  · obtain rfl:i=n:=by omega
    go_wp2_with fail
    go_ret
    exact HZ.out
structure CutR (w0:World) (r q:Rc) (O:Option Addr) (m cO:Nat) (w:World):Prop where
 br:Blk w w0.heap.size 63 r.cells
 bq:Blk w (w0.heap.size+1) 63 q.cells
 o:Own w w0.heap.size O m cO
 keep:Keep (fun _=>False) w0 w
theorem CutR.push {w0 w w2:World} {r q:Rc} {O O2:Option Addr} {m cO cO2:Nat} (h:CutR w0 r q O m cO w) {zo:List Int} {z:Int} {ob:Obj} (hl:zo.length=m)
 (ho:w2.ownsRow w0.heap.size 3 1 (.slice O2 (m+1) cO2) (m+1) (zo.map (Value.int .i64)++[.int .i64 z])) (hg:(w.alloc ob).grownBy w2 (Value.slice O m cO).ownBlock):CutR w0 r q O2 (m+1) cO2 w2:=by
 have hk:Keep (fun i=>(Value.slice O m cO).ownBlock=some i) w w2:=((Keep.refl _ w).alloc ob).grown hg (fun k hk=>.inl hk)
 obtain⟨zo',ho1,ho2⟩:=h.o
 exact⟨h.br.keep hk (own_ne ho2 h.br (by decide)),h.bq.keep hk (own_ne ho2 h.bq (by decide)),⟨zo++[z],by simp [hl],by rw [List.map_append];exact ho⟩,keep_app h.keep ho2 (Nat.le_refl _) hk⟩
theorem place_ix {r q:Rc} {S B:Int} (hq:q.sub r) (hr:r.ok S B) {a b:Int} (h1:q.x0≤a) (h2:a<q.x1) (h3:q.y0≤b) (h4:b<q.y1):0≤(b-r.y0)*(r.x1-r.x0)+a-r.x0∧(b-r.y0)*(r.x1-r.x0)+a-r.x0<r.area:=by
 obtain⟨s1,s2,s3,s4,s5,s6⟩:=hq
 rw [hr.area_eq]
 have e:(b-r.y0)*(r.x1-r.x0)+(r.x1-r.x0)≤(r.x1-r.x0)*(r.y1-r.y0):=by
  have:(b-r.y0+1)*(r.x1-r.x0)≤(r.y1-r.y0)*(r.x1-r.x0):=Int.mul_le_mul_of_nonneg_right (by omega) (by omega)
  rw [Int.add_mul,Int.one_mul,Int.mul_comm (r.y1-r.y0)]at this
  exact this
 have e2:0≤(b-r.y0)*(r.x1-r.x0):=Int.mul_nonneg (by omega) (by omega)
 omega
theorem cut18_any (w:World) (r q:Rc) (A:Option Addr) (n c:Nat) (zs:List Int) (h:Rd w A n (zs.map (Value.int .i64))) (hr:r.ok 12 17) (hq:q.sub r) (hn:(n:Int)=r.area) (hnc:n≤c) (D E:Nat) (hD:q.x1-q.x0=D) (hE:q.y1-q.y0=E):
 Calls Tryz.prog 57 #[.agg r.cells,.slice A n c,.agg q.cells] w (RowP (D*E) w):=by
 obtain⟨i0,hi0,hz0,hz1,hz2⟩:=info_parts info_int
 have HIX:=hid (fun a b h1 h2 h3 h4=>place_ix (r:=r) (q:=q) hq hr (a:=a) (b:=b) h1 h2 h3 h4)
 have har:=hr.area_le
 have HV:=hid h
 have HB0:=hid (Blk.new w 63 r.cells)
 have HB1:=hid (Blk.new1 w (.cells r.cells 63) 63 q.cells)
 have HK0:=hid (((Keep.refl (fun _=>False) w).alloc (.cells r.cells 63)).alloc (.cells q.cells 63))
 have HRC:=hid (show r.cells=#[.int .i64 r.x0,.int .i64 r.y0,.int .i64 r.x1,.int .i64 r.y1]from rfl)
 have HQC:=hid (show q.cells=#[.int .i64 q.x0,.int .i64 q.y0,.int .i64 q.x1,.int .i64 q.y1]from rfl)
 obtain⟨s1,s2,s3,s4,s5,s6⟩:=hq
 obtain⟨r1,r2,r3,r4,r5,r6,r7,r8⟩:=hr
 have HB0':=hid (HB0.out.alloc (.cells q.cells 63))
 clear h HB0
 go_enter Tryz.func57,Tryz.ntmps57
 go_upto_region 1 with fail
 generalize (w.alloc (.cells r.cells 63)).alloc (.cells q.cells 63)=w1 at*
 have c0:w1.cell? ⟨w.heap.size,0,none⟩=some (.int .i64 r.x0):=by rw [HB0'.out.cell,HRC.out];rfl
 have c2:w1.cell? ⟨w.heap.size,2,none⟩=some (.int .i64 r.x1):=by rw [HB0'.out.cell,HRC.out];rfl
 have d1:w1.cell? ⟨w.heap.size+1,1,none⟩=some (.int .i64 q.y0):=by rw [HB1.out.cell,HQC.out];rfl
 have HC0:=hid (show CutR w r q none 0 0 w1 from⟨HB0'.out,HB1.out,Own.nil _ _,HK0.out⟩)
 clear HB0' HB1 HK0
 go_wp2_with fail
 clear c0 c2 d1
 go_loopw [7,9] (fun u v wr=> ∃(j:Nat) (O:Option Addr) (cO:Nat),j≤E∧u=.slice O (D*j) cO∧v=.int .i64 (q.y0+j)∧Hid (CutR w r q O (D*j) cO wr)) (fun _ v _=>(q.y1-intOf v).toNat)
 case atStart=>exact⟨0,none,0,by omega,by rw [Nat.mul_zero],by simp,by rw [Nat.mul_zero];exact HC0⟩
 case round=>
  clear HC0
  obtain⟨j,O,cO,hj,rfl,rfl,HC⟩:=hrel
  have d3:wr.cell? ⟨w.heap.size+1,3,none⟩=some (.int .i64 q.y1):=by rw [HC.out.bq.cell,HQC.out];rfl
  have d0:wr.cell? ⟨w.heap.size+1,0,none⟩=some (.int .i64 q.x0):=by rw [HC.out.bq.cell,HQC.out];rfl
  by_cases hjE:j<E
  · have hlt:q.y0+j<q.y1:=by omega
    have HC0:Hid (CutR w r q O (D*j+0) cO wr):=HC
    clear HC
    go_wp2_with fail
    clear d3 d0
    go_loopw [7,10] (fun u v wr=> ∃(i:Nat) (O:Option Addr) (cO:Nat),i≤D∧u=.slice O (D*j+i) cO∧v=.int .i64 (q.x0+i)∧Hid (CutR w r q O (D*j+i) cO wr)) (fun _ v _=>(q.x1-intOf v).toNat)
    case atStart=>exact⟨0,O,cO,by omega,rfl,by simp,HC0⟩
    case round=>
     clear HC0
     obtain⟨i,O,cO,hi,rfl,rfl,HC⟩:=hrel
     have d2:wr.cell? ⟨w.heap.size+1,2,none⟩=some (.int .i64 q.x1):=by rw [HC.out.bq.cell,HQC.out];rfl
     have b1:wr.cell? ⟨w.heap.size,1,none⟩=some (.int .i64 r.y0):=by rw [HC.out.br.cell,HRC.out];rfl
     have b0:wr.cell? ⟨w.heap.size,0,none⟩=some (.int .i64 r.x0):=by rw [HC.out.br.cell,HRC.out];rfl
     by_cases hiD:i<D
     · have hlx:q.x0+i<q.x1:=by omega
       obtain⟨p1,p2⟩:=HIX.out (q.x0+i) (q.y0+j) (by omega) hlx (by omega) hlt
       rw [← hn]at p2
       have hm0:0≤(q.y0+j-r.y0)*(r.x1-r.x0):=Int.mul_nonneg (by omega) (by omega)
       have hm1:(q.y0+j-r.y0)*(r.x1-r.x0)≤12*12:=Int.mul_le_mul (by omega) (by omega) (by omega) (by omega)
       obtain⟨u,hu⟩: ∃u,(q.y0+j-r.y0)*(r.x1-r.x0)=u:=⟨_,rfl⟩
       rw [hu]at p1 p2 hm0 hm1
       obtain⟨t,ht⟩: ∃t:Nat,u+(q.x0+i)-r.x0=t:=⟨(u+(q.x0+i)-r.x0).toNat,by omega⟩
       have htn:t<n:=by omega
       have hw1:IntKind.i64.wrap u=u:=IntWalk.i64_in _ (by omega)
       have hw2:wrap64 u=u:=IntWalk.wrap64_in _ (by omega)
       obtain⟨ad,z,hA,hcz⟩:=(HV.out.keepF HC.out.keep).int htn
       obtain⟨zo,hzo,ho⟩:=HC.out.o
       have HOO:=hid ho
       have hDj:D*j≤12*12:=Nat.mul_le_mul (by omega) (by omega)
       have hb0:=HC.out.keep.size
       subst hA
       clear ho
       go_wp2_with (
        at_builtin
        go_must (refine wpList_append_one wr rfl (.tmp 32) (.tmp 47) _ rfl w.heap.size 3 i0 _ 8 Tryz.underlying22 hi0 hz0 hz1 hz2 rfl HOO.out rfl _ rfl rfl (by simp only [maxLen];omega) (by omega) hb0 ?_)
        intro v2 w2 hown2 hg2 hat2 _hold2
        obtain⟨O2,cO2,rfl⟩:=own_form hown2
        have HN:=hid (HC.out.push hzo hown2 hg2)
        clear hown2 hg2 hat2 _hold2)
       go_roundw
       case rel=>exact⟨i+1,O2,cO2,by omega,rfl,by(congr 1)<;>omega,HN⟩
       case measure=>simp [intOf]<;>omega
     · have hge:q.x1≤q.x0+i:=by omega
       obtain rfl:i=D:=by omega
       have HC1:Hid (CutR w r q O (i*(j+1)) cO wr):=HC
       go_wp2_with fail
       go_roundw
       case rel=>exact⟨j+1,O,cO,by omega,rfl,by(congr 1)<;>omega,HC1⟩
       case measure=>simp [intOf]<;>omega
  · have hge:q.y1≤q.y0+j:=by omega
    obtain rfl:j=E:=by omega
    go_wp2_with fail
    go_ret
    obtain⟨zs',h1,h2⟩:=HC.out.o
    exact⟨O,cO,zs',rfl,h1,h2,HC.out.keep⟩
def SomeK (a b:Int) (w:World) (e:Ending) (w':World):Prop:= ∃k:Int,a≤k∧k≤b∧e=.returned (.int .i64 k)∧Keep (fun _=>False) w w'
def SomeBK (w:World) (e:Ending) (w':World):Prop:= ∃b:Bool,e=.returned (.bool b)∧Keep (fun _=>False) w w'
theorem czero_any (w:World) (d:Cd) (band style:Int) (raw:Bool) (h:CdR d band style raw w) (x y:Int) (hx:0≤x∧x≤99) (hy:0≤y∧y≤99):
 Calls Tryz.prog 117 #[.pointer (some ⟨d.g,0,none⟩),.int .i64 x,.int .i64 y] w (SomeK 0 8 w):=by
 have HR:=hid h
 clear h
 go_enter Tryz.func117,Tryz.ntmps117
 go_wp2_with fail
 refine(around_any _ d band style raw HR.out x y hx hy).mono ?_
 rintro e w2 ⟨a,b,c,ha,hb,hc,rfl,hk⟩
 obtain⟨cs,hcc,_,hC⟩:=(HR.out.keepF hk).f
 have c2:w2.cell? ⟨d.g,2,none⟩=some (.int .i64 band):=(hcc 2).trans hC.c2
 have HK:=hid hk
 clear hcc hC hk
 go_wp2_with fail
 refine(zero_any _ _ _ _ _ ha hb hc).mono ?_
 rintro e w3 ⟨k,h1,h2,rfl,hw⟩
 cases hw
 go_wp2_with fail
 go_ret
 exact⟨k,h1,h2,rfl,HK.out⟩
theorem says_any (w:World) (d:Cd) (band style:Int) (raw:Bool) (h:CdR d band style raw w) (x y dx dy:Int) (hx:0≤x∧x≤99) (hy:0≤y∧y≤99) (hdx:-1≤dx∧dx≤1) (hdy:-1≤dy∧dy≤1):
 Calls Tryz.prog 125 #[.pointer (some ⟨d.g,0,none⟩),.int .i64 x,.int .i64 y,.int .i64 dx,.int .i64 dy] w (SomeK (-1) 1 w):=by
 have HR:=hid h
 have HK:=hid (Keep.refl (fun _=>False) w)
 clear h
 go_enter Tryz.func125,Tryz.ntmps125
 go_wp2_with fail
 (go_at_call 127;refine(sig_any _ d band style raw HR.out _ _ _ _ (by omega) (by omega) (by omega) (by omega)).mono ?_;rintro e w2 ⟨b,rfl,hb,hk⟩;replace HR:=hid (HR.out.keepF hk);replace HK:=hid (HK.out.trans hk (fun _ _ h=>h));clear hk)
 cases b with
 |false=>
  go_wp2_with fail
  go_ret
  exact⟨0,by omega,by omega,rfl,HK.out⟩
 |true=>
  obtain⟨i1,i2,i3,i4⟩:=hb rfl
  clear hb
  obtain⟨cs,hcc,_,hC⟩:=HR.out.f
  have c0:w2.cell? ⟨d.g,0,none⟩=some (.int .i64 d.W):=(hcc 0).trans hC.c0
  have c5:w2.cell? ⟨d.g,5,none⟩=some (.slice (some ⟨d.gn,0,none⟩) (d.W*d.H) (d.W*d.H)):=(hcc 5).trans hC.c5
  obtain⟨p,hp⟩: ∃p:Nat,x+dx=p:=⟨(x+dx).toNat,by omega⟩
  obtain⟨q,hq⟩: ∃q:Nat,y+dy=q:=⟨(y+dy).toNat,by omega⟩
  have hix:=ix_lt (W:=d.W) (H:=d.H) (x:=p) (y:=q) (by omega) (by omega)
  obtain⟨s,hs0,hs⟩:=HR.out.neg.cell hix
  have hN:=HR.out.n144
  have hWl:=HR.out.w1
  clear hcc hC
  generalize d.W*d.H=N at*
  generalize d.W=W at*
  have e1:(q:Int)*(W:Int)=((q*W:Nat):Int):=by push_cast;rfl
  have e2:IntKind.i64.wrap ((q*W:Nat):Int)=((q*W:Nat):Int):=IntWalk.i64_in _ (by omega)
  have hw2:IntKind.i64.wrap (y+dy)=q:=by rw [hq];exact IntWalk.i64_in _ (by omega)
  have hqy:y+dy=(q:Int):=hq
  generalize q*W=u at*
  obtain⟨v,hv⟩: ∃v,u+p=v:=⟨_,rfl⟩
  rw [hv]at hs hix
  have hA:IntKind.i64.wrap ((u:Int)+x)=(u:Int)+x:=IntWalk.i64_in _ (by omega)
  have hB0:(u:Int)+x+dx=(v:Int):=by omega
  have hB:IntKind.i64.wrap ((u:Int)+x+dx)=(v:Int):=by rw [hB0];exact IntWalk.i64_in _ (by omega)
  have HV:=hid (And.intro hv (And.intro hp hq))
  have hz0:0≤2*s∧2*s≤2:=by omega
  clear hv hp hq
  go_wp2_with fail
  go_quiet (fail)
  go_wp2_with fail
  go_ret
  exact⟨_,by omega,by omega,rfl,HK.out.drewN _⟩
theorem blank_any (w:World) (d:Cd) (band style:Int) (raw:Bool) (h:CdR d band style raw w) (x y:Nat) (hx:x<d.W) (hy:y<d.H):
 Calls Tryz.prog 128 #[.pointer (some ⟨d.g,0,none⟩),.int .i64 x,.int .i64 y] w (fun e w'=> ∃b:Bool,e=.returned (.bool b)∧(b=true→y+4≤d.H)∧Keep (fun _=>False) w w'):=by
 have HR:=hid h
 have HK:=hid (Keep.refl (fun _=>False) w)
 have hWl:=h.w1
 have hHl:=h.h1
 have hN:=h.n144
 clear h
 obtain⟨cs,hcc,_,hC⟩:=HR.out.f
 have c1:w.cell? ⟨d.g,1,none⟩=some (.int .i64 d.H):=(hcc 1).trans hC.c1
 clear hcc hC
 by_cases h4:y+4≤d.H
 · have hd:decide ((d.H:Int)-(y:Int)<4)=false:=by simp;omega
   have HZ:=hid (fun (w2:World) (b:Bool) (hk:Keep (fun _=>False) w w2)=>show∃c:Bool,Ending.returned (.bool b)=.returned (.bool c)∧(c=true→y+4≤d.H)∧Keep (fun _=>False) w w2 from⟨b,rfl,fun _=>h4,hk⟩)
   go_enter Tryz.func128,Tryz.ntmps128
   go_wp2_with fail
   go_loopw [7] (fun v wr=> ∃j:Nat,j≤4∧v=.int .i64 j∧Hid (CdR d band style raw wr)∧Hid (Keep (fun _=>False) w wr)) (fun v _=>4-(intOf v).toNat)
   case atStart=>exact⟨0,by omega,rfl,HR,HK⟩
   case round=>
    clear HR HK c1
    obtain⟨j,hj,rfl,HR,HK⟩:=hrel
    by_cases hj4:j<4
    · obtain⟨cs,hcc,_,hC⟩:=HR.out.f
      have c0:wr.cell? ⟨d.g,0,none⟩=some (.int .i64 d.W):=(hcc 0).trans hC.c0
      have c6:wr.cell? ⟨d.g,6,none⟩=some (.slice (some ⟨d.gs,0,none⟩) (d.W*d.H) (d.W*d.H)):=(hcc 6).trans hC.c6
      have c7:wr.cell? ⟨d.g,7,none⟩=some (.slice (some ⟨d.ge,0,none⟩) (d.W*d.H) (d.W*d.H)):=(hcc 7).trans hC.c7
      have hix:=ix_lt (W:=d.W) (H:=d.H) (x:=x) (y:=y+j) hx (by omega)
      obtain⟨s,hs⟩:=HR.out.sig.cell hix
      obtain⟨t,ht⟩:=HR.out.seen.cell hix
      have CZ:=hid (fun w2 (hk:Keep (fun _=>False) wr w2)=>czero_any w2 d band style raw (HR.out.keepF hk) x (((y+j:Nat):Int)) (by omega) (by omega))
      clear hcc hC
      have e1:((y+j:Nat):Int)*(d.W:Int)=(((y+j)*d.W:Nat):Int):=by push_cast;rfl
      have e0:(y:Int)+(j:Int)=((y+j:Nat):Int):=by push_cast;rfl
      have HJ:=hid (show y+j<200 by omega)
      generalize y+j=yj at*
      have e2:IntKind.i64.wrap ((yj*d.W:Nat):Int)=((yj*d.W:Nat):Int):=IntWalk.i64_in _ (by omega)
      generalize yj*d.W=u at*
      obtain⟨v,hv⟩: ∃v,u+x=v:=⟨_,rfl⟩
      have hB:(u:Int)+(x:Int)=(v:Int):=by omega
      rw [hv]at hs ht hix
      have HV:=hid hv
      clear hv
      generalize d.W*d.H=N at*
      cases s with
      |true=>
       go_wp2_with fail
       go_ret
       exact HZ.out _ _ HK.out
      |false=>
       cases t with
       |true=>
        go_wp2_with fail
        go_ret
        exact HZ.out _ _ HK.out
       |false=>
        go_wp2_with (go_at_call 117;refine(CZ.out _ (Keep.refl _ _)).mono ?_;rintro e w2 ⟨z,hz1,hz2,rfl,hk⟩;replace HR:=hid (HR.out.keepF hk);replace HK:=hid (HK.out.trans hk (fun _ _ h=>h));clear hk)
        · go_ret
          exact HZ.out _ _ HK.out
        · go_roundw
          case rel=>exact⟨j+1,by omega,by go_num,HR,HK⟩
          case measure=>simp [intOf];omega
    · obtain rfl:j=4:=by omega
      go_wp2_with fail
      go_ret
      exact HZ.out _ _ HK.out
 · have hd:decide ((d.H:Int)-(y:Int)<4)=true:=by simp;omega
   go_enter Tryz.func128,Tryz.ntmps128
   go_wp2_with fail
   go_ret
   exact⟨false,rfl,(fun h=>absurd h (by decide)),HK.out⟩
def fl {α:Type} (f:α→List Value) (l:List α):List Value:=l.flatMap f
section
variable {α :Type} {f:α→List Value} {k:Nat}
theorem fl_app (a b:List α):fl f (a++b)=fl f a++fl f b:=by unfold fl;rw [List.flatMap_append]
theorem fl_one (a:α):fl f [a]=f a:=by unfold fl;simp
theorem fl_snoc (a:List α) (x:α):fl f (a++[x])=fl f a++f x:=by rw [fl_app,fl_one]
theorem fl_len (hf: ∀x,(f x).length=k): ∀l:List α,(fl f l).length=l.length*k
 |[]=>by simp [fl]
 |a::l=>by
  show(f a++fl f l).length=_
  rw [List.length_append,fl_len hf l,hf,List.length_cons,Nat.add_mul]
  omega
theorem fl_at (hf: ∀x,(f x).length=k): ∀(l:List α) (i j:Nat) (x:α),l[i]?=some x→j<k→(fl f l)[i*k+j]?=(f x)[j]?
 |[],i,j,x,h,_=>by simp at h
 |a::l,0,j,x,h,hj=>by
  simp at h
  subst h
  show(f a++fl f l)[0*k+j]?=_
  rw [Nat.zero_mul,Nat.zero_add,List.getElem?_append_left (by rw [hf];exact hj)]
 |a::l,i+1,j,x,h,hj=>by
  show(f a++fl f l)[(i+1)*k+j]?=_
  rw [List.getElem?_append_right (by rw [hf,Nat.add_mul];omega),hf,show(i+1)*k+j-k=i*k+j by rw [Nat.add_mul];omega]
  exact fl_at hf l i j x (by simpa using h) hj
theorem fl_take (hf: ∀x,(f x).length=k) (l:List α) (n:Nat):(fl f l).take (n*k)=fl f (l.take n):=by
 rcases Nat.lt_or_ge l.length n with h|h
 · rw [List.take_of_length_le (by rw [fl_len hf];exact Nat.mul_le_mul_right k (by omega)),List.take_of_length_le (by omega)]
 · have e:l=l.take n++l.drop n:=(List.take_append_drop n l).symm
   have e2:fl f l=fl f (l.take n)++fl f (l.drop n):=by rw [← fl_app,←e]
   rw [e2,List.take_left' (by rw [fl_len hf,List.length_take];congr 1;omega)]
theorem fl_drop (hf: ∀x,(f x).length=k) (l:List α) (n:Nat):(fl f l).drop (n*k)=fl f (l.drop n):=by
 rcases Nat.lt_or_ge l.length n with h|h
 · rw [List.drop_eq_nil_of_le (by rw [fl_len hf];exact Nat.mul_le_mul_right k (by omega)),List.drop_eq_nil_of_le (by omega)];rfl
 · have e:l=l.take n++l.drop n:=(List.take_append_drop n l).symm
   have e2:fl f l=fl f (l.take n)++fl f (l.drop n):=by rw [← fl_app,←e]
   rw [e2,List.drop_left' (by rw [fl_len hf,List.length_take];congr 1;omega)]
end
theorem RdS.get {α:Type} {f:α→List Value} {k:Nat} {w:World} {A:Option Addr} {n:Nat} {l:List α} (h:RdS w A n k (fl f l)) (hf: ∀x,(f x).length=k) {i:Nat} {x:α} (hi:i<n) (hx:l[i]?=some x):
 ∃b o,A=some ⟨b,o,none⟩∧w.rangeAt b (o+i*k) (f x):=by
 obtain⟨b,o,e,hc⟩:=h.2 (by omega)
 refine⟨b,o,e,fun j v hj=>?_⟩
 have hjk:j<k:=by rw [← hf x];exact(List.getElem?_eq_some_iff.1 hj).1
 have:=hc (i*k+j) v ((fl_at hf l i j x hx hjk).trans hj)
 rwa [← Nat.add_assoc]at this
theorem RdS.llen {α:Type} {f:α→List Value} {k:Nat} {w:World} {A:Option Addr} {n:Nat} {l:List α} (h:RdS w A n k (fl f l)) (hf: ∀x,(f x).length=k) (hk:0<k):l.length=n:=by
 have:=h.1
 rw [fl_len hf]at this
 exact Nat.eq_of_mul_eq_mul_right hk this
theorem setL_all (cs cells:Array Value) (h:cs.size=cells.size):setL cs 0 cells.toList=cells:=by
 refine Array.ext_getElem? (fun j=>?_)
 rcases Nat.lt_or_ge j cells.size with hj|hj
 · have:=setL_in cells.toList cs 0 j (by simp;omega) (by simpa using hj)
   rw [Nat.zero_add]at this
   rw [this]
   simp
 · rw [Array.getElem?_eq_none (by rw [setL_size];omega),Array.getElem?_eq_none (by omega)]
theorem blk_all {w:World} {g:Nat} {t:TypeId} {cs cells:Array Value} (h:Blk w g t (setL cs 0 cells.toList)) (hs:cs.size=cells.size):Blk w g t cells:=by rw [setL_all cs cells hs]at h;exact h
theorem wp_store_in0 {P:Program} {op:Oper} {a:Act} {w:World} {K:Act→World→Prop} {Q:Exit→Act→World→Prop} {g:Nat} {t:TypeId} {cs:Array Value} (hd:op.dst=none) (hb:Blk w g t cs) (ty:TypeId) (x y:Operand) (ho:op.op=.store ty x y)
 (cells:Array Value) (hx:a.eval x=.pointer (some ⟨g,0,none⟩)) (hy:a.eval y=.agg cells) (hn:cs.size=cells.size)
 (hi:(P.info? ty).map (·.size)=some cells.size) (h1:cells.all (·.oneCell')=true)
 (h: ∀w2,Blk w2 g t cells→Keep (fun j=>j=g) w w2→K a w2):op.wp P a w K Q:=
 wp_store_in hb ty x y ho 0 cells hx hy (by omega) hi h1 (fun w2 h2 h3=>by rw [hd];exact h w2 (blk_all h2 hn) h3)
end Go.Proofs.YthfogcgdijmaoaaGreat
