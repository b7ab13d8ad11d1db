/-
  Part 14 of the proof: Dwt2 Dwt3 Shift Turn Flat Blocks Rank WalkS GramAll SetL. Conditions: those of the statements.
-/
import Derived.Test.YthfogcgdijmaoaaGreatW7
import Derived.Test.YthfogcgdijmaoaaGreatW10
import Derived.Test.YthfogcgdijmaoaaGreatW11
import Derived.Test.YthfogcgdijmaoaaGreatW12
import Derived.Test.YthfogcgdijmaoaaGreatW13
import Derived.Deep.QuietTactic
import Derived.BigQuiet
set_option maxRecDepth 100000
set_option maxHeartbeats 16000000
set_option linter.unusedVariables false
set_option linter.unusedSimpArgs false
namespace Go.Proofs.YthfogcgdijmaoaaGreat
open Go.RowKit
theorem Rd.part {w:World} {A:Option Addr} {n:Nat} {xs:List Value} (h:Rd w A n xs) {k m cap:Nat} (hk:k+m≤n) (hc:n≤cap):Rd w (if cap=k then A else A.map (·.add k)) m ((xs.drop k).take m):=by
 have h1:=h.drop (k:=k) (cap:=cap) (by omega) hc
 exact h1.take (k:=m) (by omega)
theorem ints_part {zs:List Int} {k m:Nat}:((zs.map (Value.int .i64)).drop k).take m=((zs.drop k).take m).map (Value.int .i64):=by rw [List.map_take,List.map_drop]
theorem rows_any10 (w:World) (W H:Nat) (at0:Int) (A:Option Addr) (c:Nat) (zs:List Int) (h:Rd w A (W*H) (zs.map (Value.int .i64))) (hc:W*H≤c) (hW:W≤12) (hH:H≤12):
 Calls Tryz.prog 76 #[.int .i64 W,.int .i64 H,.int .i64 at0,.slice A (W*H) c,.bool false] w (RowP (W*H) w):=by
 obtain⟨i0,hi0,hz0,hz1,hz2⟩:=info_parts info_int
 have hN:W*H≤12*12:=Nat.mul_le_mul hW hH
 have HV:=hid h
 obtain⟨N,hNN⟩: ∃N,W*H=N:=⟨_,rfl⟩
 have HNN:=hid hNN
 have HMUL:=hid (fun y (hy:y<H)=>show y*W+W≤N from by
  rw [← hNN]
  have:(y+1)*W≤H*W:=Nat.mul_le_mul_right W hy
  rw [Nat.add_mul,Nat.one_mul,Nat.mul_comm H W]at this
  exact this)
 rw [hNN]at HV hN hc ⊢
 clear hNN h
 go_enter Tryz.func76,Tryz.ntmps76
 go_wp2_with fail
 go_loopw [11,12] (fun u v wr=> ∃(y:Nat) (O:Option Addr) (cO:Nat),y≤H∧u=.slice O (W*y) cO∧v=.int .i64 y∧Hid (Own wr w.heap.size O (W*y) cO)∧Hid (Keep (fun _=>False) w wr)) (fun _ v _=>H-(intOf v).toNat)
 case atStart=>exact⟨0,none,0,by omega,by rw [Nat.mul_zero],rfl,by rw [Nat.mul_zero];exact hid (Own.nil _ _),hid (Keep.refl _ _)⟩
 case round=>
  obtain⟨y,O,cO,hy,rfl,rfl,HO,HK⟩:=hrel
  by_cases hyH:y<H
  · have hml:=HMUL.out y hyH
    have e1:(y:Int)*(W:Int)=((y*W:Nat):Int):=by push_cast;rfl
    have e1':((y:Int)+1)*(W:Int)=((y*W+W:Nat):Int):=by rw [Int.add_mul,Int.one_mul,e1];push_cast;rfl
    obtain⟨q,hq⟩: ∃q,y*W=q:=⟨_,rfl⟩
    rw [hq]at e1 e1' hml
    have e2:IntKind.i64.wrap (q:Int)=(q:Int):=IntWalk.i64_in _ (by omega)
    obtain⟨t,ht⟩: ∃t,q+W=t:=⟨_,rfl⟩
    rw [ht]at e1' hml
    have e2':IntKind.i64.wrap (t:Int)=(t:Int):=IntWalk.i64_in _ (by omega)
    have htq:q≤t:=by omega
    have HPT:=hid ((HV.out.keepF HK.out).part (k:=q) (m:=W) (cap:=c) (by omega) hc)
    have HQ:=hid (And.intro hq ht)
    clear hq ht
    have htw:t-q=W:=by have:=HQ.out;omega
    have hWy:W*y≤12*12:=Nat.mul_le_mul hW (by omega)
    by_cases hcq:c=q
    · have HP:=HPT.out
      rw [if_pos hcq,ints_part]at HP
      have HP:=hid HP
      subst hcq
      go_wp2_with fail
      try rw [htw]
      refine(lsplit_any wr at0 _ W _ _ HP.out (by omega)).mono ?_
      rintro e w3 ⟨C,cC,zc,rfl,hzc,hoc,hk3⟩
      have HO3:=hid (HO.out.keepF hk3)
      have HK3:=hid (HK.out.trans hk3 (fun _ _ h=>h))
      have HC3:=hid (Rd.of_own hoc)
      obtain⟨zo,hzo,ho⟩:=HO3.out
      have HOO:=hid ho
      have hb0:=HK3.out.size
      have hzc2:=hid hzc
      clear hoc hk3 ho hzc HO HK HO3 HP HPT
      go_wp2_with (
       at_builtin
       go_must (refine wpList_append_src _ rfl (.tmp 32) (.tmp 43) 22 rfl w.heap.size 3 i0 _ 8 Tryz.underlying22 hi0 hz0 hz1 hz2 rfl HOO.out rfl HC3.out rfl (oneCell_ints _ _) (by simp only [maxLen];omega) (by omega) hb0 ?_)
       intro v6 w6 hown6 hg6 _h6 _h7
       obtain⟨O2,cO2,rfl⟩:=own_form hown6
       have HN:=hid (show Own w6 w.heap.size O2 (W*(y+1)) cO2 from⟨zo++zc,by rw [List.length_append,hzo,hzc2.out,Nat.mul_succ],by rw [List.map_append,Nat.mul_succ];exact hown6⟩)
       have HKN:=hid (keep_app HK3.out HOO.out (Nat.le_refl _) ((Keep.refl (fun i=>(Value.slice O (W*y) cO).ownBlock=some i) w3).grown hg6 (fun k hk=>.inl hk)))
       clear hown6 hg6 _h6 _h7)
      go_roundw
      case rel=>exact⟨y+1,O2,cO2,by omega,by rw [Nat.mul_succ],by go_num,HN,HKN⟩
      case measure=>simp [intOf]<;>omega
    · have HP:=HPT.out
      rw [if_neg hcq,ints_part]at HP
      have HP:=hid HP
      go_wp2_with fail
      try rw [htw]
      refine(lsplit_any wr at0 _ W _ _ HP.out (by omega)).mono ?_
      rintro e w3 ⟨C,cC,zc,rfl,hzc,hoc,hk3⟩
      have HO3:=hid (HO.out.keepF hk3)
      have HK3:=hid (HK.out.trans hk3 (fun _ _ h=>h))
      have HC3:=hid (Rd.of_own hoc)
      obtain⟨zo,hzo,ho⟩:=HO3.out
      have HOO:=hid ho
      have hb0:=HK3.out.size
      have hzc2:=hid hzc
      clear hoc hk3 ho hzc HO HK HO3 HP HPT
      go_wp2_with (
       at_builtin
       go_must (refine wpList_append_src _ rfl (.tmp 32) (.tmp 43) 22 rfl w.heap.size 3 i0 _ 8 Tryz.underlying22 hi0 hz0 hz1 hz2 rfl HOO.out rfl HC3.out rfl (oneCell_ints _ _) (by simp only [maxLen];omega) (by omega) hb0 ?_)
       intro v6 w6 hown6 hg6 _h6 _h7
       obtain⟨O2,cO2,rfl⟩:=own_form hown6
       have HN:=hid (show Own w6 w.heap.size O2 (W*(y+1)) cO2 from⟨zo++zc,by rw [List.length_append,hzo,hzc2.out,Nat.mul_succ],by rw [List.map_append,Nat.mul_succ];exact hown6⟩)
       have HKN:=hid (keep_app HK3.out HOO.out (Nat.le_refl _) ((Keep.refl (fun i=>(Value.slice O (W*y) cO).ownBlock=some i) w3).grown hg6 (fun k hk=>.inl hk)))
       clear hown6 hg6 _h6 _h7)
      go_roundw
      case rel=>exact⟨y+1,O2,cO2,by omega,by rw [Nat.mul_succ],by go_num,HN,HKN⟩
      case measure=>simp [intOf]<;>omega
  · obtain rfl:y=H:=by omega
    go_wp2_with fail
    go_ret
    obtain⟨zs',h1,h2⟩:=HO.out
    rw [HNN.out]at h1 h2
    exact⟨_,cO,zs',by rw [← HNN.out];rfl,h1,h2,HK.out⟩
theorem cut10_any (w:World) (W H:Nat) (A:Option Addr) (c:Nat) (zs:List Int) (x0 y0 D E:Nat) (h:Rd w A (W*H) (zs.map (Value.int .i64))) (hc:W*H≤c) (hW:W≤12) (hH:H≤12) (hx:x0+D≤W) (hy:y0+E≤H):
 Calls Tryz.prog 79 #[.int .i64 W,.slice A (W*H) c,.int .i64 x0,.int .i64 y0,.int .i64 ((x0+D:Nat):Int),.int .i64 ((y0+E:Nat):Int)] w (RowP (D*E) w):=by
 obtain⟨i0,hi0,hz0,hz1,hz2⟩:=info_parts info_int
 have hN:W*H≤12*12:=Nat.mul_le_mul hW hH
 have HV:=hid h
 have HZL:=hid (show zs.length=W*H from by have:=h.1;rwa [List.length_map]at this)
 obtain⟨N,hNN⟩: ∃N,W*H=N:=⟨_,rfl⟩
 have HMUL:=hid (fun y (hy:y<H)=>show y*W+W≤N from by
  rw [← hNN]
  have:(y+1)*W≤H*W:=Nat.mul_le_mul_right W hy
  rw [Nat.add_mul,Nat.one_mul,Nat.mul_comm H W]at this
  exact this)
 rw [hNN]at HV hN hc HZL ⊢
 clear hNN h
 obtain⟨x1,hx1⟩: ∃x1,x0+D=x1:=⟨_,rfl⟩
 obtain⟨y1,hy1⟩: ∃y1,y0+E=y1:=⟨_,rfl⟩
 rw [hx1,hy1]
 have HX1:=hid hx1
 have HY1:=hid hy1
 have hDl:D≤12:=by omega
 rw [hx1]at hx
 rw [hy1]at hy
 have hx01:x0≤x1:=by omega
 have hy01:y0≤y1:=by omega
 clear hx1 hy1
 go_enter Tryz.func79,Tryz.ntmps79
 go_wp2_with fail
 go_loopw [13,14] (fun u v wr=> ∃(y:Nat) (O:Option Addr) (cO:Nat),y0+y≤y1∧u=.slice O (D*y) cO∧v=.int .i64 ((y0:Int)+y)∧Hid (Own wr w.heap.size O (D*y) cO)∧Hid (Keep (fun _=>False) w wr)) (fun _ v _=>y1-(intOf v).toNat)
 case atStart=>exact⟨0,none,0,by omega,by rw [Nat.mul_zero],by simp,by rw [Nat.mul_zero];exact hid (Own.nil _ _),hid (Keep.refl _ _)⟩
 case round=>
  obtain⟨y,O,cO,hy2,rfl,rfl,HO,HK⟩:=hrel
  by_cases hyH:y0+y<y1
  · have hml:=HMUL.out (y0+y) (by omega)
    have hxe:=HX1.out
    have e1:((y0:Int)+(y:Int))*(W:Int)=(((y0+y)*W:Nat):Int):=by push_cast;rfl
    obtain⟨p,hp⟩: ∃p,(y0+y)*W=p:=⟨_,rfl⟩
    rw [hp]at e1 hml
    have e2:IntKind.i64.wrap (p:Int)=(p:Int):=IntWalk.i64_in _ (by omega)
    obtain⟨q,hq⟩: ∃q,p+x0=q:=⟨_,rfl⟩
    obtain⟨t,ht⟩: ∃t,p+x1=t:=⟨_,rfl⟩
    have f1:(p:Int)+(x0:Int)=(q:Int):=by omega
    have f2:(p:Int)+(x1:Int)=(t:Int):=by omega
    have htq:q≤t:=by omega
    have htN:t≤N:=by omega
    have htw:t-q=D:=by omega
    have HPT:=hid ((HV.out.keepF HK.out).part (k:=q) (m:=D) (cap:=c) (by omega) hc)
    have HLN:=hid (show((zs.drop q).take D).length=D from by rw [List.length_take,List.length_drop,HZL.out];omega)
    have hDy:D*y≤12*12:=Nat.mul_le_mul hDl (by omega)
    obtain⟨zo,hzo,ho⟩:=HO.out
    have HOO:=hid ho
    have hb0:=HK.out.size
    have hql:q≤400:=by omega
    have htl:t≤400:=by omega
    clear hp hq ht hxe hml ho HO
    by_cases hcq:c=q
    · have HP:=HPT.out
      rw [if_pos hcq,ints_part]at HP
      have HP:=hid HP
      obtain rfl:q=c:=hcq.symm
      go_wp2_with (
       at_builtin
       go_must (refine wpList_append_src _ rfl (.tmp 21) (.tmp 33) 22 rfl w.heap.size 3 i0 _ 8 Tryz.underlying22 hi0 hz0 hz1 hz2 rfl HOO.out rfl HP.out rfl (oneCell_ints _ _) (by simp only [maxLen];omega) (by omega) hb0 ?_)
       intro v6 w6 hown6 hg6 _h6 _h7
       obtain⟨O2,cO2,rfl⟩:=own_form hown6
       have HN:=hid (show Own w6 w.heap.size O2 (D*(y+1)) cO2 from⟨zo++((zs.drop q).take D),by rw [List.length_append,hzo,HLN.out,Nat.mul_succ],by rw [List.map_append,Nat.mul_succ];exact hown6⟩)
       have HKN:=hid (keep_app HK.out HOO.out (Nat.le_refl _) ((Keep.refl (fun i=>(Value.slice O (D*y) cO).ownBlock=some i) wr).grown hg6 (fun k hk=>.inl hk)))
       clear hown6 hg6 _h6 _h7)
      go_roundw
      case rel=>exact⟨y+1,O2,cO2,by omega,by rw [Nat.mul_succ],by(congr 1)<;>omega,HN,HKN⟩
      case measure=>simp [intOf]<;>omega
    · have HP:=HPT.out
      rw [if_neg hcq,ints_part]at HP
      have HP:=hid HP
      go_wp2_with (
       at_builtin
       go_must (refine wpList_append_src _ rfl (.tmp 21) (.tmp 33) 22 rfl w.heap.size 3 i0 _ 8 Tryz.underlying22 hi0 hz0 hz1 hz2 rfl HOO.out rfl HP.out rfl (oneCell_ints _ _) (by simp only [maxLen];omega) (by omega) hb0 ?_)
       intro v6 w6 hown6 hg6 _h6 _h7
       obtain⟨O2,cO2,rfl⟩:=own_form hown6
       have HN:=hid (show Own w6 w.heap.size O2 (D*(y+1)) cO2 from⟨zo++((zs.drop q).take D),by rw [List.length_append,hzo,HLN.out,Nat.mul_succ],by rw [List.map_append,Nat.mul_succ];exact hown6⟩)
       have HKN:=hid (keep_app HK.out HOO.out (Nat.le_refl _) ((Keep.refl (fun i=>(Value.slice O (D*y) cO).ownBlock=some i) wr).grown hg6 (fun k hk=>.inl hk)))
       clear hown6 hg6 _h6 _h7)
      go_roundw
      case rel=>exact⟨y+1,O2,cO2,by omega,by rw [Nat.mul_succ],by(congr 1)<;>omega,HN,HKN⟩
      case measure=>simp [intOf]<;>omega
  · obtain rfl:y1=y0+y:=by omega
    have hEy:y=E:=by have:=HY1.out;omega
    subst hEy
    go_wp2_with fail
    go_ret
    obtain⟨zs',h1,h2⟩:=HO.out
    exact⟨_,cO,zs',rfl,h1,h2,HK.out⟩
theorem shift_any (w:World) (dp:Nat) (sg:Bool) (A:Option Addr) (n c:Nat) (zs:List Int) (h:Rd w A n (zs.map (Value.int .i64))) (hn:n≤144) (hd1:1≤dp) (hd:dp≤16):
 Calls Tryz.prog 56 #[.int .i64 dp,.bool sg,.slice A n c] w (RowP n w):=by
 obtain⟨i0,hi0,hz0,hz1,hz2⟩:=info_parts info_int
 have HV:=hid h
 have HZS:=hid (show zs.length=n from by have:=h.1;rwa [List.length_map]at this)
 obtain⟨d,rfl⟩: ∃d,dp=d+1:=⟨dp-1,by omega⟩
 have hw1:IntKind.i64.wrap (((d+1:Nat):Int)-1)=(d:Int):=by rw [IntWalk.i64_in _ (by omega)];omega
 clear h
 go_enter Tryz.func56,Tryz.ntmps56
 go_upto_region 2 with(
  at_builtin
  go_must (refine wpList_append_src _ rfl (.tmp 9) (.tmp 10) 22 rfl w.heap.size 3 i0 _ 8 Tryz.underlying22 hi0 hz0 hz1 hz2 rfl (World.ownsRow_made w #[] 0 (Nat.le_refl _) (by simp [maxLen]) rfl) rfl (HV.out.alloc _) rfl (oneCell_ints _ _) (by simp only [maxLen];omega) (by omega) (by simp) ?_)
  intro v6 w6 hown6 hg6 _h6 _h7
  obtain⟨X,cX,rfl⟩:=own_form hown6
  have HX6:=hid (show Own w6 w.heap.size X n cX from⟨zs,HZS.out,by simpa using hown6⟩)
  have HK6:=hid (show Keep (fun _=>False) w w6 from((Keep.refl (fun _=>False) w).alloc _).grown hg6 (fun k hk=>by
   have:k=w.heap.size:=by simpa [Value.ownBlock]using hk.symm
   exact .inr (by omega)))
  clear hown6 hg6 _h6 _h7)
 go_wp2_with fail
 go_loopw [8] (fun v wr=> ∃i:Nat,i≤n∧v=.int .i64 i∧Hid (Own wr w.heap.size X n cX)∧Hid (Keep (fun _=>False) w wr)) (fun v _=>n-(intOf v).toNat)
 case atStart=>exact⟨0,by omega,rfl,HX6,HK6⟩
 case round=>
  clear HX6 HK6
  obtain⟨i,hi,rfl,HX,HK⟩:=hrel
  have HZ:=hid (show RowP n w (.returned (.slice X n cX)) wr from by
   obtain⟨zs',h1,h2⟩:=HX.out
   exact⟨X,cX,zs',rfl,h1,h2,HK.out⟩)
  by_cases hin:i<n
  · cases sg with
    |true=>
     go_wp2_with fail
     go_ret
     exact HZ.out
    |false=>
     obtain⟨g,z,hXg,hcX,hgb,hc,hf,hset⟩:=HX.out.get hin
     have HS:=hid (fun y=>And.intro (hset y) (HK.out.setCell (p:=⟨g,i,none⟩) (.inr hgb) (.int .i64 y)))
     subst hXg
     clear hset HX HK
     go_wp2_with fail
     go_roundw
     case rel=>exact⟨i+1,by omega,by go_num,hid (HS.out _).1,hid (HS.out _).2⟩
     case measure=>simp [intOf]<;>omega
  · obtain rfl:i=n:=by omega
    go_wp2_with fail
    go_ret
    exact HZ.out
structure CutR (w0:World) (r q:Rc) (O:Option Addr) (m cO:Nat) (w:World):Prop where
 br:Blk w w0.heap.size 63 r.cells
 bq:Blk w (w0.heap.size+1) 63 q.cells
 o:Own w w0.heap.size O m cO
 keep:Keep (fun _=>False) w0 w
theorem CutR.push {w0 w w2:World} {r q:Rc} {O O2:Option Addr} {m cO cO2:Nat} (h:CutR w0 r q O m cO w) {zo:List Int} {z:Int} {ob:Obj} (hl:zo.length=m)
 (ho:w2.ownsRow w0.heap.size 3 1 (.slice O2 (m+1) cO2) (m+1) (zo.map (Value.int .i64)++[.int .i64 z])) (hg:(w.alloc ob).grownBy w2 (Value.slice O m cO).ownBlock):CutR w0 r q O2 (m+1) cO2 w2:=by
 have hk:Keep (fun i=>(Value.slice O m cO).ownBlock=some i) w w2:=((Keep.refl _ w).alloc ob).grown hg (fun k hk=>.inl hk)
 obtain⟨zo',ho1,ho2⟩:=h.o
 exact⟨h.br.keep hk (own_ne ho2 h.br (by decide)),h.bq.keep hk (own_ne ho2 h.bq (by decide)),⟨zo++[z],by simp [hl],by rw [List.map_append];exact ho⟩,keep_app h.keep ho2 (Nat.le_refl _) hk⟩
theorem place_ix {r q:Rc} {S B:Int} (hq:q.sub r) (hr:r.ok S B) {a b:Int} (h1:q.x0≤a) (h2:a<q.x1) (h3:q.y0≤b) (h4:b<q.y1):0≤(b-r.y0)*(r.x1-r.x0)+a-r.x0∧(b-r.y0)*(r.x1-r.x0)+a-r.x0<r.area:=by
 obtain⟨s1,s2,s3,s4,s5,s6⟩:=hq
 rw [hr.area_eq]
 have e:(b-r.y0)*(r.x1-r.x0)+(r.x1-r.x0)≤(r.x1-r.x0)*(r.y1-r.y0):=by
  have:(b-r.y0+1)*(r.x1-r.x0)≤(r.y1-r.y0)*(r.x1-r.x0):=Int.mul_le_mul_of_nonneg_right (by omega) (by omega)
  rw [Int.add_mul,Int.one_mul,Int.mul_comm (r.y1-r.y0)]at this
  exact this
 have e2:0≤(b-r.y0)*(r.x1-r.x0):=Int.mul_nonneg (by omega) (by omega)
 omega
theorem cut18_any (w:World) (r q:Rc) (A:Option Addr) (n c:Nat) (zs:List Int) (h:Rd w A n (zs.map (Value.int .i64))) (hr:r.ok 12 17) (hq:q.sub r) (hn:(n:Int)=r.area) (hnc:n≤c) (D E:Nat) (hD:q.x1-q.x0=D) (hE:q.y1-q.y0=E):
 Calls Tryz.prog 57 #[.agg r.cells,.slice A n c,.agg q.cells] w (RowP (D*E) w):=by
 obtain⟨i0,hi0,hz0,hz1,hz2⟩:=info_parts info_int
 have HIX:=hid (fun a b h1 h2 h3 h4=>place_ix (r:=r) (q:=q) hq hr (a:=a) (b:=b) h1 h2 h3 h4)
 have har:=hr.area_le
 have HV:=hid h
 have HB0:=hid (Blk.new w 63 r.cells)
 have HB1:=hid (Blk.new1 w (.cells r.cells 63) 63 q.cells)
 have HK0:=hid (((Keep.refl (fun _=>False) w).alloc (.cells r.cells 63)).alloc (.cells q.cells 63))
 have HRC:=hid (show r.cells=#[.int .i64 r.x0,.int .i64 r.y0,.int .i64 r.x1,.int .i64 r.y1]from rfl)
 have HQC:=hid (show q.cells=#[.int .i64 q.x0,.int .i64 q.y0,.int .i64 q.x1,.int .i64 q.y1]from rfl)
 obtain⟨s1,s2,s3,s4,s5,s6⟩:=hq
 obtain⟨r1,r2,r3,r4,r5,r6,r7,r8⟩:=hr
 have HB0':=hid (HB0.out.alloc (.cells q.cells 63))
 clear h HB0
 go_enter Tryz.func57,Tryz.ntmps57
 go_upto_region 1 with fail
 generalize (w.alloc (.cells r.cells 63)).alloc (.cells q.cells 63)=w1 at*
 have c0:w1.cell? ⟨w.heap.size,0,none⟩=some (.int .i64 r.x0):=by rw [HB0'.out.cell,HRC.out];rfl
 have c2:w1.cell? ⟨w.heap.size,2,none⟩=some (.int .i64 r.x1):=by rw [HB0'.out.cell,HRC.out];rfl
 have d1:w1.cell? ⟨w.heap.size+1,1,none⟩=some (.int .i64 q.y0):=by rw [HB1.out.cell,HQC.out];rfl
 have HC0:=hid (show CutR w r q none 0 0 w1 from⟨HB0'.out,HB1.out,Own.nil _ _,HK0.out⟩)
 clear HB0' HB1 HK0
 go_wp2_with fail
 clear c0 c2 d1
 go_loopw [7,9] (fun u v wr=> ∃(j:Nat) (O:Option Addr) (cO:Nat),j≤E∧u=.slice O (D*j) cO∧v=.int .i64 (q.y0+j)∧Hid (CutR w r q O (D*j) cO wr)) (fun _ v _=>(q.y1-intOf v).toNat)
 case atStart=>exact⟨0,none,0,by omega,by rw [Nat.mul_zero],by simp,by rw [Nat.mul_zero];exact HC0⟩
 case round=>
  clear HC0
  obtain⟨j,O,cO,hj,rfl,rfl,HC⟩:=hrel
  have d3:wr.cell? ⟨w.heap.size+1,3,none⟩=some (.int .i64 q.y1):=by rw [HC.out.bq.cell,HQC.out];rfl
  have d0:wr.cell? ⟨w.heap.size+1,0,none⟩=some (.int .i64 q.x0):=by rw [HC.out.bq.cell,HQC.out];rfl
  by_cases hjE:j<E
  · have hlt:q.y0+j<q.y1:=by omega
    have HC0:Hid (CutR w r q O (D*j+0) cO wr):=HC
    clear HC
    go_wp2_with fail
    clear d3 d0
    go_loopw [7,10] (fun u v wr=> ∃(i:Nat) (O:Option Addr) (cO:Nat),i≤D∧u=.slice O (D*j+i) cO∧v=.int .i64 (q.x0+i)∧Hid (CutR w r q O (D*j+i) cO wr)) (fun _ v _=>(q.x1-intOf v).toNat)
    case atStart=>exact⟨0,O,cO,by omega,rfl,by simp,HC0⟩
    case round=>
     clear HC0
     obtain⟨i,O,cO,hi,rfl,rfl,HC⟩:=hrel
     have d2:wr.cell? ⟨w.heap.size+1,2,none⟩=some (.int .i64 q.x1):=by rw [HC.out.bq.cell,HQC.out];rfl
     have b1:wr.cell? ⟨w.heap.size,1,none⟩=some (.int .i64 r.y0):=by rw [HC.out.br.cell,HRC.out];rfl
     have b0:wr.cell? ⟨w.heap.size,0,none⟩=some (.int .i64 r.x0):=by rw [HC.out.br.cell,HRC.out];rfl
     by_cases hiD:i<D
     · have hlx:q.x0+i<q.x1:=by omega
       obtain⟨p1,p2⟩:=HIX.out (q.x0+i) (q.y0+j) (by omega) hlx (by omega) hlt
       rw [← hn]at p2
       have hm0:0≤(q.y0+j-r.y0)*(r.x1-r.x0):=Int.mul_nonneg (by omega) (by omega)
       have hm1:(q.y0+j-r.y0)*(r.x1-r.x0)≤12*12:=Int.mul_le_mul (by omega) (by omega) (by omega) (by omega)
       obtain⟨u,hu⟩: ∃u,(q.y0+j-r.y0)*(r.x1-r.x0)=u:=⟨_,rfl⟩
       rw [hu]at p1 p2 hm0 hm1
       obtain⟨t,ht⟩: ∃t:Nat,u+(q.x0+i)-r.x0=t:=⟨(u+(q.x0+i)-r.x0).toNat,by omega⟩
       have htn:t<n:=by omega
       have hw1:IntKind.i64.wrap u=u:=IntWalk.i64_in _ (by omega)
       have hw2:wrap64 u=u:=IntWalk.wrap64_in _ (by omega)
       obtain⟨ad,z,hA,hcz⟩:=(HV.out.keepF HC.out.keep).int htn
       obtain⟨zo,hzo,ho⟩:=HC.out.o
       have HOO:=hid ho
       have hDj:D*j≤12*12:=Nat.mul_le_mul (by omega) (by omega)
       have hb0:=HC.out.keep.size
       subst hA
       clear ho
       go_wp2_with (
        at_builtin
        go_must (refine wpList_append_one wr rfl (.tmp 32) (.tmp 47) _ rfl w.heap.size 3 i0 _ 8 Tryz.underlying22 hi0 hz0 hz1 hz2 rfl HOO.out rfl _ rfl rfl (by simp only [maxLen];omega) (by omega) hb0 ?_)
        intro v2 w2 hown2 hg2 hat2 _hold2
        obtain⟨O2,cO2,rfl⟩:=own_form hown2
        have HN:=hid (HC.out.push hzo hown2 hg2)
        clear hown2 hg2 hat2 _hold2)
       go_roundw
       case rel=>exact⟨i+1,O2,cO2,by omega,rfl,by(congr 1)<;>omega,HN⟩
       case measure=>simp [intOf]<;>omega
     · have hge:q.x1≤q.x0+i:=by omega
       obtain rfl:i=D:=by omega
       have HC1:Hid (CutR w r q O (i*(j+1)) cO wr):=HC
       go_wp2_with fail
       go_roundw
       case rel=>exact⟨j+1,O,cO,by omega,rfl,by(congr 1)<;>omega,HC1⟩
       case measure=>simp [intOf]<;>omega
  · have hge:q.y1≤q.y0+j:=by omega
    obtain rfl:j=E:=by omega
    go_wp2_with fail
    go_ret
    obtain⟨zs',h1,h2⟩:=HC.out.o
    exact⟨O,cO,zs',rfl,h1,h2,HC.out.keep⟩
structure ThreeR (w0:World) (X:Option Addr) (n cX:Nat) (Y:Option Addr) (m cY:Nat) (O:Option Addr) (k cO:Nat) (w:World):Prop where
 x:Own w w0.heap.size X n cX
 y:Own w w0.heap.size Y m cY
 o:Own w w0.heap.size O k cO
 xy: ∀a b,X=some a→Y=some b→a.block≠b.block
 xo: ∀a b,X=some a→O=some b→a.block≠b.block
 yo: ∀a b,Y=some a→O=some b→a.block≠b.block
 keep:Keep (fun _=>False) w0 w
theorem ThreeR.turn {w0 w:World} {X Y O:Option Addr} {n cX m cY k cO:Nat} (h:ThreeR w0 X n cX Y m cY O k cO w):ThreeR w0 Y m cY O k cO X n cX w:=
 ⟨h.y,h.o,h.x,h.yo,fun a b ea eb e=>h.xy b a eb ea e.symm,fun a b ea eb e=>h.xo b a eb ea e.symm,h.keep⟩
theorem ThreeR.push {w0 w w2:World} {X Y O O2:Option Addr} {n cX m cY k cO cO2:Nat} (h:ThreeR w0 X n cX Y m cY O k cO w) {zo:List Int} {z:Int} {ob:Obj} (hl:zo.length=k)
 (ho:w2.ownsRow w0.heap.size 3 1 (.slice O2 (k+1) cO2) (k+1) (zo.map (Value.int .i64)++[.int .i64 z])) (hg:(w.alloc ob).grownBy w2 (Value.slice O k cO).ownBlock) (hat:(Value.slice O2 (k+1) cO2).ownBlock=(Value.slice O k cO).ownBlock∨(Value.slice O2 (k+1) cO2).ownBlock=some (w.heap.size+1)):
 ThreeR w0 X n cX Y m cY O2 (k+1) cO2 w2:=by
 have h1:=TwoR.push (X:=X) (n:=n) (cX:=cX) ⟨h.x,h.o,fun a b ea eb e=>h.xo b a eb ea e.symm,h.keep⟩ hl ho hg hat
 have h2:=TwoR.push (X:=Y) (n:=m) (cX:=cY) ⟨h.y,h.o,fun a b ea eb e=>h.yo b a eb ea e.symm,h.keep⟩ hl ho hg hat
 exact⟨h1.x,h2.x,h1.o,h.xy,fun a b ea eb e=>h1.ap b a eb ea e.symm,fun a b ea eb e=>h2.ap b a eb ea e.symm,h1.keep⟩
theorem ThreeR.drew {w0 w:World} {X Y O:Option Addr} {n cX m cY k cO:Nat} (h:ThreeR w0 X n cX Y m cY O k cO w):ThreeR w0 X n cX Y m cY O k cO w.drew:=by
 have hk:Keep (fun _=>False) w w.drew:=(Keep.refl _ w).drew
 exact⟨h.x.keepF hk,h.y.keepF hk,h.o.keepF hk,h.xy,h.xo,h.yo,h.keep.drew⟩
theorem turn_any (w:World) (A B C:Option Addr) (n cA cB cC:Nat) (z1 z2 z3:List Int) (h1:Rd w A n (z1.map (Value.int .i64))) (h2:Rd w B n (z2.map (Value.int .i64))) (h3:Rd w C n (z3.map (Value.int .i64))) (hn:n≤144):
 Calls Tryz.prog 58 #[.slice A n cA,.slice B n cB,.slice C n cC] w (fun e w'=> ∃X cX Y cY O cO,e=.returned (.tuple #[.slice X n cX,.slice Y n cY,.slice O n cO])∧Own w' w.heap.size X n cX∧Own w' w.heap.size Y n cY∧Own w' w.heap.size O n cO∧Keep (fun _=>False) w w'):=by
 obtain⟨i0,hi0,hz0,hz1,hz2⟩:=info_parts info_int
 have HV1:=hid h1
 have HV2:=hid h2
 have HV3:=hid h3
 have HT0:=hid (show ThreeR w none 0 0 none 0 0 none 0 0 w from⟨Own.nil _ _,Own.nil _ _,Own.nil _ _,fun a b e=>(by cases e),fun a b e=>(by cases e),fun a b e=>(by cases e),Keep.refl _ _⟩)
 clear h1 h2 h3
 go_enter Tryz.func58,Tryz.ntmps58
 go_wp2_with fail
 go_loopw [9,10,11,12] (fun y u v q wr=> ∃(i:Nat) (X:Option Addr) (cX:Nat) (Y:Option Addr) (cY:Nat) (O:Option Addr) (cO:Nat),i≤n∧q=.int .i64 i∧y=.slice O i cO∧u=.slice X i cX∧v=.slice Y i cY∧Hid (ThreeR w X i cX Y i cY O i cO wr)) (fun _ _ _ q _=>n-(intOf q).toNat)
 case atStart=>exact⟨0,none,0,none,0,none,0,by omega,rfl,rfl,rfl,rfl,HT0⟩
 case round=>
  clear HT0
  obtain⟨i,X,cX,Y,cY,O,cO,hi,rfl,rfl,rfl,rfl,HT⟩:=hrel
  by_cases hin:i<n
  · obtain⟨a1,za,e1,hca⟩:=HV1.out.int hin
    obtain⟨a2,zb,e2,hcb⟩:=HV2.out.int hin
    obtain⟨a3,zc,e3,hcc⟩:=HV3.out.int hin
    subst e1 e2 e3
    go_wp2_with fail
    obtain⟨zo,hzo,ho⟩:=HT.out.o
    have HOO:=hid ho
    have hb0:=HT.out.keep.size
    have da:wr.drew.cell? (a1.add i)=some (.int .i64 za):=HT.out.keep.cell hca (fun h=>h)
    have db:wr.drew.cell? (a2.add i)=some (.int .i64 zb):=HT.out.keep.cell hcb (fun h=>h)
    have dc:wr.drew.cell? (a3.add i)=some (.int .i64 zc):=HT.out.keep.cell hcc (fun h=>h)
    clear ho
    refine At.start (L:=#[false,false,false,false,false,false,false,false,false,false,false,false,false,false,false,false,false,false,false,false]) (by kernel_rfl) rfl ?_
    refine AtP 0 19 ?_
    refine AtP 1 20 ?_
    refine AtP 2 21 ?_
    refine AtP 3 22 ?_
    refine AtL 4 23 Tryz.underlying3 ?_
    refine AtP 5 24 ?_
    refine AtP 6 25 ?_
    refine AtP 7 26 ?_
    refine AtL 8 27 Tryz.underlying3 ?_
    refine AtP 9 28 ?_
    refine AtP 10 29 ?_
    refine AtP 11 30 ?_
    refine AtP 12 31 ?_
    refine AtP 13 32 ?_
    refine AtL 14 33 Tryz.underlying3 ?_
    refine AtP 15 34 ?_
    refine AtP 16 35 ?_
    refine AtC 17 fun K hK=>?_
    go_simp
    skip
    refine hK _ _ all_nil ?_
    clear hK K
    try simp only [NS]
    refine AtC 18 fun K hK=>?_
    refine wp_append_one wr.drew (.tmp 19) (.tmp 36) _ rfl w.heap.size 3 i0 _ 8 Tryz.underlying22 hi0 hz0 hz1 hz2 rfl (own_drew HOO.out) rfl _ rfl rfl (by simp only [maxLen];omega) (by omega) hb0 ?_
    intro v2 w5 hown2 hg2 hat2 _hold2
    show K (Act.put _ (some 37) _) _
    obtain⟨O2,cO2,rfl⟩:=own_form hown2
    have HT:=hid ((HT.out.drew).push hzo hown2 hg2 hat2).turn
    clear hown2 hg2 hat2 _hold2 da db dc HOO
    refine hK _ _ all_nil ?_
    clear hK K
    try simp only [NS]
    refine AtP 19 9 ?_
    refine At.done (by kernel_rfl) ?_
    go_wp2_with fail
    obtain⟨zo,hzo,ho⟩:=HT.out.o
    have HOO:=hid ho
    have hb0:=HT.out.keep.size
    have da:w5.drew.cell? (a1.add i)=some (.int .i64 za):=HT.out.keep.cell hca (fun h=>h)
    have db:w5.drew.cell? (a2.add i)=some (.int .i64 zb):=HT.out.keep.cell hcb (fun h=>h)
    have dc:w5.drew.cell? (a3.add i)=some (.int .i64 zc):=HT.out.keep.cell hcc (fun h=>h)
    clear ho
    refine At.start (L:=#[false,false,false,false,false,false,false,false,false,false,false,false,false]) (by kernel_rfl) rfl ?_
    refine AtP 0 38 ?_
    refine AtP 1 39 ?_
    refine AtP 2 40 ?_
    refine AtP 3 41 ?_
    refine AtL 4 42 Tryz.underlying3 ?_
    refine AtP 5 43 ?_
    refine AtP 6 44 ?_
    refine AtP 7 45 ?_
    refine AtL 8 46 Tryz.underlying3 ?_
    refine AtP 9 47 ?_
    refine AtC 10 fun K hK=>?_
    go_simp
    skip
    refine hK _ _ all_nil ?_
    clear hK K
    try simp only [NS]
    refine AtC 11 fun K hK=>?_
    refine wp_append_one w5.drew (.tmp 38) (.tmp 48) _ rfl w.heap.size 3 i0 _ 8 Tryz.underlying22 hi0 hz0 hz1 hz2 rfl (own_drew HOO.out) rfl _ rfl rfl (by simp only [maxLen];omega) (by omega) hb0 ?_
    intro v2 w6 hown2 hg2 hat2 _hold2
    show K (Act.put _ (some 49) _) _
    obtain⟨O2,cO2,rfl⟩:=own_form hown2
    have HT:=hid ((HT.out.drew).push hzo hown2 hg2 hat2).turn
    clear hown2 hg2 hat2 _hold2 da db dc HOO
    refine hK _ _ all_nil ?_
    clear hK K
    try simp only [NS]
    refine AtP 12 10 ?_
    refine At.done (by kernel_rfl) ?_
    go_wp2_with fail
    obtain⟨zo,hzo,ho⟩:=HT.out.o
    have HOO:=hid ho
    have hb0:=HT.out.keep.size
    have da:w6.drew.cell? (a1.add i)=some (.int .i64 za):=HT.out.keep.cell hca (fun h=>h)
    have db:w6.drew.cell? (a2.add i)=some (.int .i64 zb):=HT.out.keep.cell hcb (fun h=>h)
    have dc:w6.drew.cell? (a3.add i)=some (.int .i64 zc):=HT.out.keep.cell hcc (fun h=>h)
    clear ho
    refine At.start (L:=#[false,false,false,false,false,false,false,false,false,false,false,false,false]) (by kernel_rfl) rfl ?_
    refine AtP 0 50 ?_
    refine AtP 1 51 ?_
    refine AtP 2 52 ?_
    refine AtP 3 53 ?_
    refine AtL 4 54 Tryz.underlying3 ?_
    refine AtP 5 55 ?_
    refine AtP 6 56 ?_
    refine AtP 7 57 ?_
    refine AtL 8 58 Tryz.underlying3 ?_
    refine AtP 9 59 ?_
    refine AtC 10 fun K hK=>?_
    go_simp
    skip
    refine hK _ _ all_nil ?_
    clear hK K
    try simp only [NS]
    refine AtC 11 fun K hK=>?_
    refine wp_append_one w6.drew (.tmp 50) (.tmp 60) _ rfl w.heap.size 3 i0 _ 8 Tryz.underlying22 hi0 hz0 hz1 hz2 rfl (own_drew HOO.out) rfl _ rfl rfl (by simp only [maxLen];omega) (by omega) hb0 ?_
    intro v2 w7 hown2 hg2 hat2 _hold2
    show K (Act.put _ (some 61) _) _
    obtain⟨O2,cO2,rfl⟩:=own_form hown2
    have HT:=hid ((HT.out.drew).push hzo hown2 hg2 hat2).turn
    clear hown2 hg2 hat2 _hold2 da db dc HOO
    refine hK _ _ all_nil ?_
    clear hK K
    try simp only [NS]
    refine AtP 12 11 ?_
    refine At.done (by kernel_rfl) ?_
    go_wp2_with fail
    go_roundw
    case rel=>exact⟨i+1,_,_,_,_,_,_,by omega,by go_num,rfl,rfl,rfl,HT⟩
    case measure=>simp [intOf]<;>omega
  · obtain rfl:i=n:=by omega
    have HZ:=hid (show∃X' cX' Y' cY' O' cO',Ending.returned (.tuple #[.slice O i cO,.slice X i cX,.slice Y i cY])=.returned (.tuple #[.slice X' i cX',.slice Y' i cY',.slice O' i cO'])∧Own wr w.heap.size X' i cX'∧Own wr w.heap.size Y' i cY'∧Own wr w.heap.size O' i cO'∧Keep (fun _=>False) w wr from⟨O,cO,X,cX,Y,cY,rfl,HT.out.o,HT.out.x,HT.out.y,HT.out.keep⟩)
    go_wp2_with fail
    exact bodyPost_ret (v:=.tuple #[_,_,_]) (by simp [results,Tryz.results58,go_sem]<;>exact⟨rfl,rfl,rfl⟩) rfl HZ.out
def fl {α:Type} (f:α→List Value) (l:List α):List Value:=l.flatMap f
section
variable {α :Type} {f:α→List Value} {k:Nat}
theorem fl_app (a b:List α):fl f (a++b)=fl f a++fl f b:=by unfold fl;rw [List.flatMap_append]
theorem fl_one (a:α):fl f [a]=f a:=by unfold fl;simp
theorem fl_snoc (a:List α) (x:α):fl f (a++[x])=fl f a++f x:=by rw [fl_app,fl_one]
theorem fl_len (hf: ∀x,(f x).length=k): ∀l:List α,(fl f l).length=l.length*k
 |[]=>by simp [fl]
 |a::l=>by
  show(f a++fl f l).length=_
  rw [List.length_append,fl_len hf l,hf,List.length_cons,Nat.add_mul]
  omega
theorem fl_at (hf: ∀x,(f x).length=k): ∀(l:List α) (i j:Nat) (x:α),l[i]? =some x→j<k→(fl f l)[i*k+j]? =(f x)[j]?
 |[],i,j,x,h,_=>by simp at h
 |a::l,0,j,x,h,hj=>by
  simp at h
  subst h
  show(f a++fl f l)[0*k+j]? =_
  rw [Nat.zero_mul,Nat.zero_add,List.getElem?_append_left (by rw [hf];exact hj)]
 |a::l,i+1,j,x,h,hj=>by
  show(f a++fl f l)[(i+1)*k+j]? =_
  rw [List.getElem?_append_right (by rw [hf,Nat.add_mul];omega),hf,show(i+1)*k+j-k=i*k+j by rw [Nat.add_mul];omega]
  exact fl_at hf l i j x (by simpa using h) hj
theorem fl_take (hf: ∀x,(f x).length=k) (l:List α) (n:Nat):(fl f l).take (n*k)=fl f (l.take n):=by
 rcases Nat.lt_or_ge l.length n with h|h
 · rw [List.take_of_length_le (by rw [fl_len hf];exact Nat.mul_le_mul_right k (by omega)),List.take_of_length_le (by omega)]
 · have e:l=l.take n++l.drop n:=(List.take_append_drop n l).symm
   have e2:fl f l=fl f (l.take n)++fl f (l.drop n):=by rw [← fl_app,←e]
   rw [e2,List.take_left' (by rw [fl_len hf,List.length_take];congr 1;omega)]
theorem fl_drop (hf: ∀x,(f x).length=k) (l:List α) (n:Nat):(fl f l).drop (n*k)=fl f (l.drop n):=by
 rcases Nat.lt_or_ge l.length n with h|h
 · rw [List.drop_eq_nil_of_le (by rw [fl_len hf];exact Nat.mul_le_mul_right k (by omega)),List.drop_eq_nil_of_le (by omega)];rfl
 · have e:l=l.take n++l.drop n:=(List.take_append_drop n l).symm
   have e2:fl f l=fl f (l.take n)++fl f (l.drop n):=by rw [← fl_app,←e]
   rw [e2,List.drop_left' (by rw [fl_len hf,List.length_take];congr 1;omega)]
end
theorem RdS.get {α:Type} {f:α→List Value} {k:Nat} {w:World} {A:Option Addr} {n:Nat} {l:List α} (h:RdS w A n k (fl f l)) (hf: ∀x,(f x).length=k) {i:Nat} {x:α} (hi:i<n) (hx:l[i]? =some x):
 ∃b o,A=some ⟨b,o,none⟩∧w.rangeAt b (o+i*k) (f x):=by
 obtain⟨b,o,e,hc⟩:=h.2 (by omega)
 refine⟨b,o,e,fun j v hj=>?_⟩
 have hjk:j<k:=by rw [← hf x];exact(List.getElem?_eq_some_iff.1 hj).1
 have:=hc (i*k+j) v ((fl_at hf l i j x hx hjk).trans hj)
 rwa [← Nat.add_assoc]at this
theorem RdS.llen {α:Type} {f:α→List Value} {k:Nat} {w:World} {A:Option Addr} {n:Nat} {l:List α} (h:RdS w A n k (fl f l)) (hf: ∀x,(f x).length=k) (hk:0<k):l.length=n:=by
 have:=h.1
 rw [fl_len hf]at this
 exact Nat.eq_of_mul_eq_mul_right hk this
def blkT (prec:Nat):Nat:=if prec≤2 then 1 else if prec=3 then 2 else if prec=4 then 4 else 5
theorem blk_wide {i x0 x1:Int} {q c prec:Nat} (hc:c≤q) (hc2:c=q∨2≤c) (hq:q=prec∨q+1=prec) (hp:prec≤15) (h0:i*p2 q≤x0) (h1:x1≤(i+1)*p2 q) (hx0:0≤x0) (hlt:x0<x1) (hx1:x1≤17):
 0<ceilI x1 (p2 c)-x0/p2 c∧ceilI x1 (p2 c)-x0/p2 c≤blkT prec:=by
 have hpc:=p2_pos c
 obtain⟨d,rfl⟩: ∃d,q=c+d:=⟨q-c,by omega⟩
 have hpd:=p2_pos d
 have e:p2 (c+d)=p2 c*p2 d:=by unfold p2;rw [Int.pow_add]
 have hs:=ceilI_spec (a:=x1) hpc
 have hd1:=Int.mul_ediv_add_emod x0 (p2 c)
 have hd2:=Int.emod_nonneg x0 (show p2 c≠0 by omega)
 have hd3:=Int.emod_lt_of_pos x0 hpc
 have hd0:=Int.ediv_nonneg hx0 (show 0≤p2 c by omega)
 rw [e]at h0 h1
 have e1:i*(p2 c*p2 d)=p2 c*(i*p2 d):=by rw [Int.mul_left_comm]
 have e2:(i+1)*(p2 c*p2 d)=p2 c*(i*p2 d+p2 d):=by rw [Int.mul_left_comm,Int.add_mul,Int.one_mul]
 rw [e1]at h0
 rw [e2]at h1
 generalize hq0:x0/p2 c=u at*
 generalize hq1:ceilI x1 (p2 c)=v at*
 generalize i*p2 d=s at*
 have a1:s<u+1:=mul_lt_of hpc (by rw [Int.mul_add];omega)
 have a2:v-1<s+p2 d:=mul_lt_of hpc (by omega)
 have a3:u<v:=mul_lt_of hpc (by omega)
 have a4:2≤c→v≤5:=fun h=>by
  have h4:(4:Int)≤p2 c:=p2_mono (d:=2) h
  have:=mul_lt_of (a:=v-1) (b:=5) hpc (by omega)
  omega
 have a5: ∀t:Nat,d≤t→p2 d≤p2 t:=fun t h=>p2_mono h
 refine⟨by omega,?_⟩
 unfold blkT
 split
 · have:=a5 0 (by omega)
   rw [show p2 0=1 from rfl]at this
   omega
 · split
   · have:=a5 1 (by omega)
     rw [show p2 1=2 from rfl]at this
     show _≤(2:Int)
     omega
   · split
     · have:=a5 2 (by omega)
       rw [show p2 2=4 from rfl]at this
       show _≤(4:Int)
       omega
     · have:=a4 (by omega)
       show _≤(5:Int)
       omega
def precT (prec:Nat):Nat:=if prec=1 then 9 else if prec=2 then 5 else if prec=3 then 3 else if prec=4 then 2 else 1
theorem prec_wide {r:Rc} (h:r.ok 12 17) {p:Nat} (h1:1≤p):0≤r.preW p∧r.preW p≤precT p∧0≤r.preH p∧r.preH p≤precT p:=by
 have hp:=p2_pos p
 have key: ∀a b:Int,0≤a→a≤b→b≤17→0≤ceilI b (p2 p)-a/p2 p∧ceilI b (p2 p)-a/p2 p≤precT p:=fun a b ha hab hb=>by
  have hs:=ceilI_spec (a:=b) hp
  have hd0:=Int.ediv_nonneg ha (show 0≤p2 p by omega)
  have hd1:=Int.mul_ediv_add_emod a (p2 p)
  have hd2:=Int.emod_nonneg a (show p2 p≠0 by omega)
  have hl:a/p2 p-1<ceilI b (p2 p):=mul_lt_of hp (by rw [Int.mul_sub];omega)
  have hl2:a/p2 p<ceilI b (p2 p)+1:=mul_lt_of hp (by rw [Int.mul_add];omega)
  refine⟨by omega,?_⟩
  unfold precT
  have top: ∀t:Int,17≤p2 p*t→ceilI b (p2 p)≤t:=fun t ht=>by
   have:=mul_lt_of (a:=ceilI b (p2 p)-1) (b:=t) hp (by omega)
   omega
  split
  · subst p
    have:=top 9 (by decide)
    show _≤(9:Int)
    omega
  · split
    · subst p
      have:=top 5 (by decide)
      show _≤(5:Int)
      omega
    · split
      · subst p
        have:=top 3 (by decide)
        show _≤(3:Int)
        omega
      · split
        · subst p
          have:=top 2 (by decide)
          show _≤(2:Int)
          omega
        · have h5:p2 5≤p2 p:=p2_mono (by omega)
          rw [show p2 5=32 from rfl]at h5
          have:=top 1 (by omega)
          show _≤(1:Int)
          omega
 obtain⟨a1,a2,a3,a4,a5,a6,a7,a8⟩:=h
 unfold Rc.preW Rc.preH
 split
 · have:(0:Int)≤precT p:=by omega
   exact⟨by omega,this,by omega,this⟩
 · have k1:=key r.x0 r.x1 a1 a2 a3
   have k2:=key r.y0 r.y1 a5 a6 a7
   exact⟨k1.1,k1.2,k2.1,k2.2⟩
theorem prec_blk (p:Nat):precT p*blkT p≤9:=by
 unfold precT blkT
 repeat(first|split|omega)
def Rc.inn (q r:Rc):Prop:=q.sub r∧q.x0<q.x1∧q.y0<q.y1
theorem Rc.inn.trans {q r s:Rc} (h:q.inn r) (k:r.sub s):q.inn s:=⟨h.1.trans k,h.2⟩
theorem blk_sub {part:Rc} {x y:Int} {a b:Int} (hx:0<x) (hy:0<y) (h1:part.x0/x≤a) (h2:a*x<part.x1) (h3:part.y0/y≤b) (h4:b*y<part.y1) (hxx:part.x0<part.x1) (hyy:part.y0<part.y1):
 (part.meet ⟨a*x,b*y,(a+1)*x,(b+1)*y⟩).inn part:=by
 have d1:=Int.lt_mul_ediv_self_add (x:=part.x0) hx
 have d2:=Int.lt_mul_ediv_self_add (x:=part.y0) hy
 have m1:x*(part.x0/x)≤x*a:=Int.mul_le_mul_of_nonneg_left h1 (by omega)
 have m2:y*(part.y0/y)≤y*b:=Int.mul_le_mul_of_nonneg_left h3 (by omega)
 have e1:(a+1)*x=a*x+x:=by rw [Int.add_mul];omega
 have e2:(b+1)*y=b*y+y:=by rw [Int.add_mul];omega
 rw [e1,e2]
 rw [Int.mul_comm x a]at m1
 rw [Int.mul_comm y b]at m2
 generalize a*x=u at*
 generalize b*y=v at*
 refine⟨⟨?_,?_,?_,?_,?_,?_⟩,?_,?_⟩<;>simp only [Rc.meet]<;>omega
structure Spt where
 res:Nat
 comp:Nat
 prec:Nat
 x:Int
 y:Int
def Spt.cells (s:Spt):List Value:=[.int .i64 s.res,.int .i64 s.comp,.int .i64 s.prec,.int .i64 s.x,.int .i64 s.y]
def Six (cs:Array Value):Prop:= ∃a b c d e f:Int,cs=#[.int .i64 a,.int .i64 b,.int .i64 c,.int .i64 d,.int .i64 e,.int .i64 f]
def RankP (w:World) (e:Ending) (w':World):Prop:= ∃cs,e=.returned (.agg cs)∧Six cs∧Keep (fun _=>False) w w'
theorem rank_any (w:World) (o:Nat) (s:Spt) (l:Nat) (ho:o≤4):
 Calls Tryz.prog 63 #[.int .i64 o,.agg s.cells.toArray,.int .i64 l] w (RankP w):=by
 have HB:=hid (Blk.new w 125 s.cells.toArray)
 have HK:=hid (((Keep.refl (fun _=>False) w).alloc (.cells s.cells.toArray 125)).alloc (.cells #[.int .i64 0,.int .i64 0,.int .i64 0,.int .i64 0,.int .i64 0,.int .i64 0] 126))
 have HB2:=hid (Blk.new1 w (.cells s.cells.toArray 125) 126 #[.int .i64 0,.int .i64 0,.int .i64 0,.int .i64 0,.int .i64 0,.int .i64 0])
 have HB3:=hid (HB.out.alloc (.cells #[.int .i64 0,.int .i64 0,.int .i64 0,.int .i64 0,.int .i64 0,.int .i64 0] 126))
 have HD:=hid (show∀(a b c d e f:Int) (w':World),Keep (fun _=>False) w w'→RankP w (.returned (.agg #[.int .i64 a,.int .i64 b,.int .i64 c,.int .i64 d,.int .i64 e,.int .i64 f])) w' from fun a b c d e f w' hk=>⟨_,rfl,⟨a,b,c,d,e,f,rfl⟩,hk⟩)
 obtain⟨res,comp,prec,x,y⟩:=s
 unfold Spt.cells at*
 simp only at HB HK HB2 HB3 ⊢
 have c0:=HB3.out.cell 0
 have c1:=HB3.out.cell 1
 have c2:=HB3.out.cell 2
 have c3:=HB3.out.cell 3
 have c4:=HB3.out.cell 4
 simp at c0 c1 c2 c3 c4
 rcases (show o=0∨o=1∨o=2∨o=3∨o=4 by omega)with rfl|rfl|rfl|rfl|rfl
 all_goals(
  go_enter Tryz.func63,Tryz.ntmps63
  go_wp2_with (refine wpList_store_row rfl _ _ _ rfl (w.heap.size+1) _ rfl rfl _ _ HB2.out (by kernel_rfl) rfl (by simp [Value.oneCell']) ?_)
  exact bodyPost_ret (ret_row rfl _ _ (w.heap.size+1) 126 _ _ HB2.out.row rfl Tryz.underlying126 rfl (by kernel_rfl)) rfl (HD.out _ _ _ _ _ _ _ (HK.out.row (.inr (by omega)) _)))
theorem less_any (w:World) (a b:Array Value) (ha:Six a) (hb:Six b):
 Calls Tryz.prog 112 #[.agg a,.agg b] w (fun e w'=> ∃r:Bool,e=.returned (.bool r)∧Keep (fun _=>False) w w'):=by
 have HK:=hid (((Keep.refl (fun _=>False) w).alloc (.cells a 126)).alloc (.cells b 126))
 have HB1:=hid ((Blk.new w 126 a).alloc (.cells b 126))
 have HB2:=hid (Blk.new1 w (.cells a 126) 126 b)
 have HSa:=hid (show∀i:Nat,i<6→ ∃z:Int,a[i]? =some (.int .i64 z)from by
  obtain⟨x0,x1,x2,x3,x4,x5,rfl⟩:=ha
  intro i hi
  rcases (show i=0∨i=1∨i=2∨i=3∨i=4∨i=5 by omega)with rfl|rfl|rfl|rfl|rfl|rfl
  all_goals exact⟨_,rfl⟩)
 have HSb:=hid (show∀i:Nat,i<6→ ∃z:Int,b[i]? =some (.int .i64 z)from by
  obtain⟨x0,x1,x2,x3,x4,x5,rfl⟩:=hb
  intro i hi
  rcases (show i=0∨i=1∨i=2∨i=3∨i=4∨i=5 by omega)with rfl|rfl|rfl|rfl|rfl|rfl
  all_goals exact⟨_,rfl⟩)
 clear ha hb
 go_enter Tryz.func112,Tryz.ntmps112
 go_wp2_with fail
 generalize (w.alloc (.cells a 126)).alloc (.cells b 126)=w1 at*
 go_loopw [5] (fun v wr=> ∃i:Nat,i≤6∧v=.int .i64 i∧Hid (Keep (fun _=>False) w wr)∧Hid (Blk wr w.heap.size 126 a)∧Hid (Blk wr (w.heap.size+1) 126 b)) (fun v _=>6-(intOf v).toNat)
 case atStart=>exact⟨0,by omega,rfl,HK,HB1,HB2⟩
 case round=>
  clear HK HB1 HB2
  obtain⟨i,hi,rfl,HK,HB1,HB2⟩:=hrel
  by_cases hi6:i<6
  · obtain⟨z1,e1⟩:=HSa.out i hi6
    obtain⟨z2,e2⟩:=HSb.out i hi6
    have c1:wr.cell? ⟨w.heap.size,i,none⟩=some (.int .i64 z1):=by rw [HB1.out.cell];exact e1
    have c2:wr.cell? ⟨w.heap.size+1,i,none⟩=some (.int .i64 z2):=by rw [HB2.out.cell];exact e2
    clear e1 e2
    have hi0:(0:Int)≤(i:Int):=by omega
    have hi1:(i:Int)<6:=by omega
    by_cases hz:z1=z2
    · subst hz
      go_wp2_with fail
      go_quiet (fail)
      go_wp2_with fail
      go_roundw
      case rel=>exact⟨i+1,by omega,by go_num,hid (HK.out.drewN _),hid (HB1.out.drewN _),hid (HB2.out.drewN _)⟩
      case measure=>simp [intOf]<;>omega
    · have hz2:(z1==z2)=false:=by simpa using hz
      go_wp2_with fail
      go_quiet (fail)
      go_wp2_with fail
      go_quiet (fail)
      go_wp2_with fail
      go_ret
      exact⟨_,rfl,(HK.out.drewN _).drewN _⟩
  · obtain rfl:i=6:=by omega
    go_wp2_with fail
    go_ret
    exact⟨_,rfl,HK.out⟩
def Leads (zs:List Int) (x:Nat) (tl:Bool) (acc:List (Int×Nat)) (R:Option (List (Int×Nat))):Prop:=x≤zs.length∧ ∀f,zs.length<x+f→walkF zs f x tl acc=R
theorem leads_step {zs:List Int} {x:Nat} {tl:Bool} {acc:List (Int×Nat)} {R:Option (List (Int×Nat))} (h:Leads zs x tl acc R):match stepW zs x tl with
 |.bad=>R=none
 |.fin=>R=some (acc++[(65497,x)])
 |.go l p' t'=>Leads zs p' t' (acc++l) R:=by
 have h1:=h.2 (zs.length-x+1) (by omega)
 unfold walkF at h1
 cases hs:stepW zs x tl with
 |bad=>rw [hs]at h1;exact h1.symm
 |fin=>rw [hs]at h1;exact h1.symm
 |go l p' t'=>
  rw [hs]at h1
  have:=stepW_go hs
  have h0:=h.1
  exact⟨this.2,fun f hf=>by rw [← h1];exact walkF_more zs _ _ _ _ _ hf (by omega) this.2⟩
theorem leads_bad {zs:List Int} {x:Nat} {tl:Bool} {acc:List (Int×Nat)} {R:Option (List (Int×Nat))} (h:Leads zs x tl acc R) (hs:stepW zs x tl=.bad):R=none:=by
 have:=leads_step h
 rw [hs]at this
 exact this
theorem leads_fin {zs:List Int} {x:Nat} {tl:Bool} {acc:List (Int×Nat)} {R:Option (List (Int×Nat))} (h:Leads zs x tl acc R) (hs:stepW zs x tl=.fin):R=some (acc++[(65497,x)]):=by
 have:=leads_step h
 rw [hs]at this
 exact this
theorem leads_go {zs:List Int} {x:Nat} {tl:Bool} {acc:List (Int×Nat)} {R:Option (List (Int×Nat))} (h:Leads zs x tl acc R) {l:List (Int×Nat)} {p':Nat} {t':Bool} (hs:stepW zs x tl=.go l p' t'):Leads zs p' t' (acc++l) R:=by
 have:=leads_step h
 rw [hs]at this
 exact this
theorem leads_start {zs:List Int} (h:two zs 0=65359):Leads zs 2 false [(65359,0)] (walkM zs):=by
 have hl:2≤zs.length:=by
  rcases Nat.lt_or_ge zs.length (0+2)with hh|hh
  · rw [two_lt hh]at h;omega
  · omega
 refine⟨hl,fun f hf=>?_⟩
 unfold walkM
 rw [if_pos h]
 exact walkF_more zs _ _ _ _ _ hf (by omega) hl
theorem walkM_none {zs:List Int} (h:two zs 0≠65359):walkM zs=none:=if_neg h
theorem step_low {zs:List Int} {x:Nat} {tl:Bool} (h:two zs x<65280∨two zs x=65359∨two zs x=65427):stepW zs x tl=.bad:=by
 unfold stepW
 simp only
 rw [if_pos (by omega)]
theorem step_end {zs:List Int} {x:Nat} {tl:Bool} (h:two zs x=65497):stepW zs x tl=if tl=true∧zs.length=x+2 then .fin else .bad:=by
 unfold stepW
 simp only
 cases tl with
 |false=>rw [if_pos (by simp [h]),if_neg (by simp)]
 |true=>
  rw [if_neg (by simp [h]),if_pos h]
  by_cases hl:zs.length=x+2
  · rw [if_pos hl,if_pos ⟨rfl,hl⟩]
  · rw [if_neg hl,if_neg (fun hh=>hl hh.2)]
theorem step_tile {zs:List Int} {x:Nat} {tl:Bool} (h:two zs x=65424):stepW zs x tl=if tileGood zs x then .go [(65424,x),(65427,x+12)] (x+(tileSize zs x).toNat) true else .bad:=by
 unfold stepW
 simp only
 rw [if_neg (by rw [h];simp),if_neg (by omega),if_neg (by omega)]
 by_cases h1:two zs (x+2)=10∧12≤(zs.length:Int)-x
 · rw [if_neg (by omega),if_neg (by simp [h])]
   by_cases h2:two zs (x+12)=65427
   · rw [if_neg (by simp [h2])]
     by_cases h3:tileSize zs x<14∨(zs.length:Int)-x<tileSize zs x
     · exact(if_pos h3).trans (if_neg (fun g=>by have:=g.2.2.2;omega)).symm
     · exact(if_neg h3).trans (if_pos ⟨h1.1,h1.2,h2,by omega,by omega⟩).symm
   · rw [if_pos h2,if_neg (fun g=>h2 g.2.2.1)]
 · rw [if_pos (by omega),if_neg (fun g=>h1 ⟨g.1,g.2.1⟩)]
theorem step_seg {zs:List Int} {x:Nat} (h0:65280≤two zs x) (h1:two zs x≠65359) (h2:two zs x≠65427) (h3:two zs x≠65424) (h4:two zs x≠65497):stepW zs x false=if 65328≤two zs x∧two zs x≤65343 then .go [(two zs x,x)] (x+2) false else if two zs (x+2)<2∨(zs.length:Int)-x-2<two zs (x+2)then .bad else .go [(two zs x,x)] (x+2+(two zs (x+2)).toNat) false:=by
 unfold stepW
 simp only
 rw [if_neg (by simp;omega),if_neg h4]
 by_cases hr:65328≤two zs x∧two zs x≤65343
 · rw [if_pos hr,if_pos hr]
 · rw [if_neg hr,if_neg hr]
   by_cases hc:two zs (x+2)<2∨(zs.length:Int)-x-2<two zs (x+2)
   · rw [if_pos (by omega),if_pos hc]
   · rw [if_neg (by omega),if_neg hc,if_pos h3]
theorem step_late {zs:List Int} {x:Nat} (h3:two zs x≠65424) (h4:two zs x≠65497):stepW zs x true=.bad:=by
 unfold stepW
 simp only
 rw [if_pos (.inr (.inr (.inr (.inr ⟨trivial,h3,h4⟩))))]
def AllP (w:World) (base V:Nat) (A:Option Addr) (n c:Nat) (zs:List Int) (e:Ending) (w':World):Prop:=
 Keep (fun j=>base≤j) w w'∧match walkM zs with
  |none=>e=.returned (.bool false)
  |some l=>e=.returned (.bool true)∧ ∃x M m cm T ct tl,WkG w' base V A n c zs x M m cm T ct l tl
def posW (w:World) (V:Nat):Nat:=match w.cell? ⟨V,1,none⟩with|some v=>(intOf v).toNat|none=>0
theorem posW_of {w:World} {V x:Nat} (h:w.cell? ⟨V,1,none⟩=some (.int .i64 x)):posW w V=x:=by
 unfold posW
 rw [h]
 simp [intOf]
def InAll (w:World) (base V:Nat) (A:Option Addr) (n c:Nat) (zs:List Int) (wr:World):Prop:=
 Keep (fun j=>base≤j) w wr∧ ∃x M m cm T ct acc tl,WkG wr base V A n c zs x M m cm T ct acc tl∧Leads zs x tl acc (walkM zs)
theorem all_any (w:World) (base V:Nat) (A:Option Addr) (n c:Nat) (zs:List Int) (h:WkG w base V A n c zs 0 none 0 0 none 0 [] false) (hb:base≤w.heap.size):
 Calls Tryz.prog 25 #[.pointer (some ⟨V,0,none⟩)] w (AllP w base V A n c zs):=by
 have HW:=hid h
 have hlen:=hid h.len
 have HNO:=hid (show∀w',Keep (fun j=>base≤j) w w'→walkM zs=none→AllP w base V A n c zs (.returned (.bool false)) w' from fun w' k g=>⟨k,by rw [g]⟩)
 clear h
 by_cases hlo:two zs 0<65280
 · have MK:=hid (mark_no w base V A n c zs 0 none 0 0 none 0 [] false HW.out hlo)
   have HN:=hid (walkM_none (zs:=zs) (by omega))
   clear HW
   go_enter Tryz.func25,Tryz.ntmps25
   go_wp2_with fail
   refine MK.out.mono ?_
   rintro e w2 ⟨rfl,hk2⟩
   have HF:=hid (HNO.out w2 (hk2.mono (fun _ _ h=>h.elim)) HN.out)
   clear hk2
   go_wp2_with fail
   go_ret
   exact HF.out
 · have MK:=hid (mark_yes w base V A n c zs 0 none 0 0 none 0 [] false HW.out hb (by omega))
   clear HW
   go_enter Tryz.func25,Tryz.ntmps25
   go_wp2_with fail
   refine MK.out.mono ?_
   rintro e w2 ⟨rfl,⟨M,cm,T,ct,hw2⟩,hk2⟩
   by_cases hsoc:two zs 0=65359
   · have HI:Hid (InAll w base V A n c zs w2):=hid ⟨hk2,0+2,M,0+1,cm,T,ct,_,false,hw2,by rw [hsoc];exact leads_start hsoc⟩
     clear hw2 hk2 MK
     rw [hsoc]
     go_wp2_with fail
     go_loopw [] (fun wr=>Hid (InAll w base V A n c zs wr)) (fun wr=>n-posW wr V)
     case atStart=>exact HI
     case round=>
      obtain⟨hk,x,M,m,cm,T,ct,acc,tl,hw,hl⟩:=hrel.out
      have HW:=hid hw
      have HK:=hid hk
      have HL:=hid hl
      have hposr:=posW_of (hw.blk.cell 1)
      have hat:=hw.at_
      have hbr:base≤wr.heap.size:=Nat.le_trans hb hk.size
      clear hw hk hl hrel HI
      have HGO:=hid (show∀w' y M m cm T ct acc tl,Keep (fun j=>base≤j) wr w'→WkG w' base V A n c zs y M m cm T ct acc tl→Leads zs y tl acc (walkM zs)→x<y→x<n→Hid (InAll w base V A n c zs w')∧n-posW w' V<n-posW wr V from fun w' y M m cm T ct acc tl k g l hxy hxn=>
       ⟨hid ⟨HK.out.trans k (fun _ _ h=>h),y,M,m,cm,T,ct,acc,tl,g,l⟩,by rw [hposr,posW_of (g.blk.cell 1)];omega⟩)
      have HBAD:=hid (show∀w',Keep (fun j=>base≤j) wr w'→stepW zs x tl=.bad→AllP w base V A n c zs (.returned (.bool false)) w' from fun w' k hs=>HNO.out w' (HK.out.trans k (fun _ _ h=>h)) (leads_bad HL.out hs))
      have HK0:=hid HK.out
      clear HNO HK hposr
      by_cases hmk:two zs x<65280
      · have MK:=hid (mark_no wr base V A n c zs x M m cm T ct acc tl HW.out hmk)
        clear HW HGO
        go_wp2_with fail
        refine MK.out.mono ?_
        rintro e w3 ⟨rfl,hk3⟩
        have HF:=hid (HBAD.out w3 (hk3.mono (fun _ _ h=>h.elim)) (step_low (.inl hmk)))
        clear hk3
        go_wp2_with fail
        go_ret
        exact HF.out
      · have MK:=hid (mark_yes wr base V A n c zs x M m cm T ct acc tl HW.out hbr (by omega))
        have hxn:x+2≤n:=by rw [← hlen.out];exact(two_parts HW.out.byt (by omega)).1
        clear HW
        go_wp2_with fail
        refine MK.out.mono ?_
        rintro e w3 ⟨rfl,⟨M3,cm3,T3,ct3,hw3⟩,hk3⟩
        have HW3:=hid hw3
        have HK3:=hid hk3
        have hb3:base≤w3.heap.size:=Nat.le_trans hbr hk3.size
        clear hw3 hk3 MK
        by_cases hc1:two zs x=65359∨two zs x=65427
        · have HF:=hid (HBAD.out w3 HK3.out (step_low (.inr hc1)))
          clear HW3 HK3 HGO
          rcases hc1 with hc|hc
          · rw [hc]
            go_wp2_with fail
            go_ret
            exact HF.out
          · rw [hc]
            go_wp2_with fail
            go_ret
            exact HF.out
        · by_cases hc2:two zs x=65424
          · have HST:=hid (step_tile (tl:=tl) hc2)
            rw [hc2]at HW3 ⊢
            have TI:=hid (tile_any w3 base V A n c zs (x+2) x M3 (m+1) cm3 T3 ct3 (acc++[(65424,x)]) tl HW3.out hb3 rfl)
            go_wp2_with fail
            refine TI.out.mono ?_
            rintro e w4 ⟨hk4,hp⟩
            by_cases hg:tileGood zs x
            · rw [if_pos hg]at hp
              obtain⟨rfl,M4,m4,cm4,T4,ct4,hw4⟩:=hp
              have HF:=hid (HGO.out w4 _ M4 m4 cm4 T4 ct4 _ true (HK3.out.trans hk4 (fun _ _ h=>h)) hw4 (by
               have:=leads_go HL.out (HST.out.trans (if_pos hg))
               rw [List.append_assoc]
               exact this) (by have:=hg.2.2.2.1;omega) (by omega))
              clear hw4 hk4
              go_wp2_with fail
              exact HF.out
            · rw [if_neg hg]at hp
              subst hp
              have HF:=hid (HBAD.out w4 (HK3.out.trans hk4 (fun _ _ h=>h)) (HST.out.trans (if_neg hg)))
              clear hk4
              go_wp2_with fail
              go_ret
              exact HF.out
          · by_cases hc3:two zs x=65497
            · have HST:=hid (step_end (tl:=tl) hc3)
              rw [hc3]at HW3 ⊢
              have p0:w3.cell? ⟨V,0,none⟩=some (.slice A n c):=HW3.out.blk.cell 0
              have p1:w3.cell? ⟨V,1,none⟩=some (.int .i64 ((x:Int)+2)):=HW3.out.blk.cell 1
              have p4:w3.cell? ⟨V,4,none⟩=some (.bool tl):=HW3.out.blk.cell 4
              cases tl with
              |false=>
               have HF:=hid (HBAD.out w3.drew HK3.out.drew (HST.out.trans (if_neg (by simp))))
               clear HW3 HK3 HGO
               go_wp2_with fail
               refine At.start (L:=#[false,false,false,false,false,false,false,false,false,false,false,false,false,false,false,false,false]) (by kernel_rfl) rfl ?_
               refine AtP 0 52 ?_
               refine AtP 1 53 ?_
               refine AtP 2 54 ?_
               refine At.read 3 (some 55) (fun w'=>w'.cell? ⟨V,4,none⟩=some (.bool false)) (v:=?v3a) rfl rfl (by kernel_rfl) (fun _ _ _ h=>h) rfl p4 (fun w' hw'=>?y3a) ?_
               case y3a=>skip;go_simp;try with_reducible rfl
               try simp only [NS]
               refine AtP 4 56 ?_
               refine At.skip 5 (some 57) rfl rfl (by kernel_rfl) (fun _ _ _ h=>h) rfl ?_
               try simp only [NS]
               refine At.skip 6 (some 58) rfl rfl (by kernel_rfl) (fun _ _ _ h=>h) rfl ?_
               try simp only [NS]
               refine At.skip 7 (some 59) rfl rfl (by kernel_rfl) (fun _ _ _ h=>h) rfl ?_
               try simp only [NS]
               refine At.skip 8 (some 60) rfl rfl (by kernel_rfl) (fun _ _ _ h=>h) rfl ?_
               try simp only [NS]
               refine At.skip 9 (some 61) rfl rfl (by kernel_rfl) (fun _ _ _ h=>h) rfl ?_
               try simp only [NS]
               refine At.skip 10 (some 62) rfl rfl (by kernel_rfl) (fun _ _ _ h=>h) rfl ?_
               try simp only [NS]
               refine At.skip 11 (some 63) rfl rfl (by kernel_rfl) (fun _ _ _ h=>h) rfl ?_
               try simp only [NS]
               refine At.skip 12 (some 64) rfl rfl (by kernel_rfl) (fun _ _ _ h=>h) rfl ?_
               try simp only [NS]
               refine At.skip 13 (some 65) rfl rfl (by kernel_rfl) (fun _ _ _ h=>h) rfl ?_
               try simp only [NS]
               refine At.skip 14 (some 66) rfl rfl (by kernel_rfl) (fun _ _ _ h=>h) rfl ?_
               try simp only [NS]
               refine AtP 15 67 ?_
               refine AtP 16 2 ?_
               refine At.done (by kernel_rfl) ?_
               go_wp2_with fail
               go_ret
               exact HF.out
              |true=>
               by_cases hend:n=x+2
               · have hde:((x:Int)+2==(n:Int))=true:=by simp;omega
                 have HF:=hid (show AllP w base V A n c zs (.returned (.bool true)) w3.drew from⟨by
                  exact HK0.out.trans HK3.out.drew (fun _ _ h=>h),by
                  rw [leads_fin HL.out (HST.out.trans (if_pos ⟨rfl,by rw [hlen.out];exact hend⟩))]
                  exact⟨rfl,x+2,M3,m+1,cm3,T3,ct3,true,HW3.out.drew⟩⟩)
                 clear HW3 HK3 HGO hend
                 go_wp2_with fail
                 refine At.start (L:=#[false,false,false,false,false,false,false,false,false,false,false,false,false,false,false,false,false]) (by kernel_rfl) rfl ?_
                 refine AtP 0 52 ?_
                 refine AtP 1 53 ?_
                 refine AtP 2 54 ?_
                 refine At.read 3 (some 55) (fun w'=>w'.cell? ⟨V,4,none⟩=some (.bool true)) (v:=?v3b) rfl rfl (by kernel_rfl) (fun _ _ _ h=>h) rfl p4 (fun w' hw'=>?y3b) ?_
                 case y3b=>skip;go_simp;try with_reducible rfl
                 try simp only [NS]
                 refine AtP 4 56 ?_
                 refine AtP 5 57 ?_
                 refine AtP 6 58 ?_
                 refine AtP 7 59 ?_
                 refine At.read 8 (some 60) (fun w'=>w'.cell? ⟨V,1,none⟩=some (.int .i64 ((x:Int)+2))) (v:=?v8b) rfl rfl (by kernel_rfl) (fun _ _ _ h=>h) rfl p1 (fun w' hw'=>?y8b) ?_
                 case y8b=>skip;go_simp;try with_reducible rfl
                 try simp only [NS]
                 refine AtP 9 61 ?_
                 refine AtP 10 62 ?_
                 refine AtP 11 63 ?_
                 refine At.read 12 (some 64) (fun w'=>w'.cell? ⟨V,0,none⟩=some (.slice A n c)) (v:=?v12b) rfl rfl (by kernel_rfl) (fun _ _ _ h=>h) rfl p0 (fun w' hw'=>?y12b) ?_
                 case y12b=>skip;go_simp;try with_reducible rfl
                 try simp only [NS]
                 refine AtP 13 65 ?_
                 refine AtP 14 66 ?_
                 refine AtP 15 67 ?_
                 refine AtP 16 2 ?_
                 refine At.done (by kernel_rfl) ?_
                 go_wp2_with fail
                 go_ret
                 exact HF.out
               · have hde:((x:Int)+2==(n:Int))=false:=by simp;omega
                 have HF:=hid (HBAD.out w3.drew HK3.out.drew (HST.out.trans (if_neg (fun h=>hend (by rw [← hlen.out];exact h.2)))))
                 clear HW3 HK3 HGO
                 go_wp2_with fail
                 refine At.start (L:=#[false,false,false,false,false,false,false,false,false,false,false,false,false,false,false,false,false]) (by kernel_rfl) rfl ?_
                 refine AtP 0 52 ?_
                 refine AtP 1 53 ?_
                 refine AtP 2 54 ?_
                 refine At.read 3 (some 55) (fun w'=>w'.cell? ⟨V,4,none⟩=some (.bool true)) (v:=?v3c) rfl rfl (by kernel_rfl) (fun _ _ _ h=>h) rfl p4 (fun w' hw'=>?y3c) ?_
                 case y3c=>skip;go_simp;try with_reducible rfl
                 try simp only [NS]
                 refine AtP 4 56 ?_
                 refine AtP 5 57 ?_
                 refine AtP 6 58 ?_
                 refine AtP 7 59 ?_
                 refine At.read 8 (some 60) (fun w'=>w'.cell? ⟨V,1,none⟩=some (.int .i64 ((x:Int)+2))) (v:=?v8c) rfl rfl (by kernel_rfl) (fun _ _ _ h=>h) rfl p1 (fun w' hw'=>?y8c) ?_
                 case y8c=>skip;go_simp;try with_reducible rfl
                 try simp only [NS]
                 refine AtP 9 61 ?_
                 refine AtP 10 62 ?_
                 refine AtP 11 63 ?_
                 refine At.read 12 (some 64) (fun w'=>w'.cell? ⟨V,0,none⟩=some (.slice A n c)) (v:=?v12c) rfl rfl (by kernel_rfl) (fun _ _ _ h=>h) rfl p0 (fun w' hw'=>?y12c) ?_
                 case y12c=>skip;go_simp;try with_reducible rfl
                 try simp only [NS]
                 refine AtP 13 65 ?_
                 refine AtP 14 66 ?_
                 refine AtP 15 67 ?_
                 refine AtP 16 2 ?_
                 refine At.done (by kernel_rfl) ?_
                 go_wp2_with fail
                 go_ret
                 exact HF.out
            · have p4:w3.cell? ⟨V,4,none⟩=some (.bool tl):=HW3.out.blk.cell 4
              have e1:(two zs x==65359)=false:=by simp;omega
              have e2:(two zs x==65427)=false:=by simp;omega
              have e3:(two zs x==65424)=false:=by simp;omega
              have e4:(two zs x==65497)=false:=by simp;omega
              cases tl with
              |true=>
               have HF:=hid (HBAD.out w3 HK3.out (step_late hc2 hc3))
               clear HW3 HK3 HGO
               generalize two zs x=z at*
               go_wp2_with fail
               go_ret
               exact HF.out
              |false=>
               have HST:=hid (step_seg (zs:=zs) (x:=x) (by omega) (fun h=>hc1 (.inl h)) (fun h=>hc1 (.inr h)) hc2 hc3)
               have SG:=hid (segment_any w3 base V A n c zs (x+2) M3 (m+1) cm3 T3 ct3 (acc++[(two zs x,x)]) false (two zs x) HW3.out)
               have htwo:=HW3.out.byt
               clear HW3
               have HX:=hid (show∀e w4,SegP w3 base V A n c zs (x+2) M3 (m+1) cm3 T3 ct3 (acc++[(two zs x,x)]) false (two zs x) e w4→(e=.returned (.bool false)∧AllP w base V A n c zs (.returned (.bool false)) w4)∨(e=.returned (.bool true)∧Hid (InAll w base V A n c zs w4)∧n-posW w4 V<n-posW wr V)from fun e w4 hp=>by
                obtain⟨hk4,hp⟩:=hp
                by_cases hr:65328≤two zs x∧two zs x≤65343
                · rw [if_pos hr]at hp
                  exact .inr ⟨hp.1,HGO.out w4 _ _ _ _ _ _ _ _ (HK3.out.trans hk4 (fun _ _ h=>h)) hp.2 (leads_go HL.out (HST.out.trans (if_pos hr))) (by omega) (by omega)⟩
                · rw [if_neg hr]at hp
                  have hs1:=HST.out.trans (if_neg hr)
                  have hl:=hlen.out
                  by_cases hq:two zs (x+2)<2∨(zs.length:Int)-x-2<two zs (x+2)
                  · rw [if_pos (by omega)]at hp
                    exact .inl ⟨hp,HBAD.out w4 (HK3.out.trans hk4 (fun _ _ h=>h)) (hs1.trans (if_pos hq))⟩
                  · rw [if_neg (by omega)]at hp
                    exact .inr ⟨hp.1,HGO.out w4 _ _ _ _ _ _ _ _ (HK3.out.trans hk4 (fun _ _ h=>h)) hp.2 (leads_go HL.out (hs1.trans (if_neg hq))) (by omega) (by omega)⟩)
               clear HK3 HGO HST HBAD hc1 hc2 hc3 htwo
               have SG2:=hid (SG.out.mono (R':=fun e w4=>(e=.returned (.bool false)∧AllP w base V A n c zs (.returned (.bool false)) w4)∨(e=.returned (.bool true)∧Hid (InAll w base V A n c zs w4)∧n-posW w4 V<n-posW wr V)) (fun e w4 h=>HX.out e w4 h))
               clear SG HX
               generalize two zs x=z at*
               go_wp2_with fail
               refine SG2.out.mono ?_
               rintro e w4 (⟨rfl,hf⟩|⟨rfl,hf⟩)
               · have HF:=hid hf
                 clear hf
                 go_wp2_with fail
                 go_ret
                 exact HF.out
               · have HF:=hid hf
                 clear hf
                 go_wp2_with fail
                 exact HF.out
   · have HF:=hid (HNO.out w2 hk2 (walkM_none hsoc))
     have hne:(two zs 0 != 65359)=true:=by simpa using hsoc
     clear hw2 hk2 MK
     generalize two zs 0=z at*
     go_wp2_with fail
     go_ret
     exact HF.out
theorem setL_all (cs cells:Array Value) (h:cs.size=cells.size):setL cs 0 cells.toList=cells:=by
 refine Array.ext_getElem? (fun j=>?_)
 rcases Nat.lt_or_ge j cells.size with hj|hj
 · have:=setL_in cells.toList cs 0 j (by simp;omega) (by simpa using hj)
   rw [Nat.zero_add]at this
   rw [this]
   simp
 · rw [Array.getElem?_eq_none (by rw [setL_size];omega),Array.getElem?_eq_none (by omega)]
theorem blk_all {w:World} {g:Nat} {t:TypeId} {cs cells:Array Value} (h:Blk w g t (setL cs 0 cells.toList)) (hs:cs.size=cells.size):Blk w g t cells:=by rw [setL_all cs cells hs]at h;exact h
theorem wp_store_in0 {P:Program} {op:Oper} {a:Act} {w:World} {K:Act→World→Prop} {Q:Exit→Act→World→Prop} {g:Nat} {t:TypeId} {cs:Array Value} (hd:op.dst=none) (hb:Blk w g t cs) (ty:TypeId) (x y:Operand) (ho:op.op=.store ty x y)
 (cells:Array Value) (hx:a.eval x=.pointer (some ⟨g,0,none⟩)) (hy:a.eval y=.agg cells) (hn:cs.size=cells.size)
 (hi:(P.info? ty).map (·.size)=some cells.size) (h1:cells.all (·.oneCell')=true)
 (h: ∀w2,Blk w2 g t cells→Keep (fun j=>j=g) w w2→K a w2):op.wp P a w K Q:=
 wp_store_in hb ty x y ho 0 cells hx hy (by omega) hi h1 (fun w2 h2 h3=>by rw [hd];exact h w2 (blk_all h2 hn) h3)
end Go.Proofs.YthfogcgdijmaoaaGreat
