/-
  Part 11 of the proof: Dwt CodR2. Conditions: those of the statements.
-/
import Derived.Test.YthfogcgdijmaoaaGreatW8
import Derived.Test.YthfogcgdijmaoaaGreatW10
set_option maxRecDepth 100000
set_option maxHeartbeats 16000000
set_option linter.unusedVariables false
set_option linter.unusedSimpArgs false
namespace Go.Proofs.YthfogcgdijmaoaaGreat
open Go.RowKit
theorem half_any (w:World) (r:Rc) (h:r.pos 16777216):
 Calls Tryz.prog 80 #[r.val] w fun e w'=>e=.returned r.half.val∧Keep (fun _=>False) w w':=by
 have HK:=hid (((Keep.refl (fun _=>False) w).alloc (.cells r.cells 63)).alloc (.cells #[.int .i64 0,.int .i64 0,.int .i64 0,.int .i64 0] 63))
 have HB2:=hid (Blk.new1 w (.cells r.cells 63) 63 #[.int .i64 0,.int .i64 0,.int .i64 0,.int .i64 0])
 obtain⟨x0,y0,x1,y1⟩:=r
 obtain⟨h1,h2,h3,h4⟩:=h
 simp only at h1 h2 h3 h4
 unfold Rc.val Rc.half
 unfold Rc.cells at HK HB2
 simp only at HK HB2 ⊢
 have t0:(x0+1).tdiv 2=(x0+1)/2:=Int.tdiv_eq_ediv_of_nonneg (by omega)
 have t1:(y0+1).tdiv 2=(y0+1)/2:=Int.tdiv_eq_ediv_of_nonneg (by omega)
 have t2:(x1+1).tdiv 2=(x1+1)/2:=Int.tdiv_eq_ediv_of_nonneg (by omega)
 have t3:(y1+1).tdiv 2=(y1+1)/2:=Int.tdiv_eq_ediv_of_nonneg (by omega)
 go_enter Tryz.func80,Tryz.ntmps80
 go_wp2_with (refine wpList_store_row rfl _ _ _ rfl (w.heap.size+1) _ rfl rfl _ _ HB2.out (by kernel_rfl) rfl (by simp [Value.oneCell']) ?_)
 exact bodyPost_ret (ret_row rfl _ _ (w.heap.size+1) 63 _ _ HB2.out.row rfl Tryz.underlying63 rfl (by kernel_rfl)) rfl ⟨rfl,HK.out.row (.inr (by omega)) _⟩
theorem lows_any (w:World) (a b:Int) (ha:0≤a∧a≤16777216) (hb:0≤b∧b≤16777216):
 Calls Tryz.prog 78 #[.int .i64 a,.int .i64 b] w fun e w'=>e=.returned (.int .i64 (lowsI a b))∧w=w':=by
 have e1:(b+1).tdiv 2=(b+1)/2:=Int.tdiv_eq_ediv_of_nonneg (by omega)
 have e2:(a+1).tdiv 2=(a+1)/2:=Int.tdiv_eq_ediv_of_nonneg (by omega)
 go_enter Tryz.func78,Tryz.ntmps78
 go_wp2_with fail
 go_ret
 exact⟨ret_i64 (by unfold lowsI;omega),rfl⟩
theorem made_ints (n:Nat):(madeCells #[Value.int .i64 0] n).toList=(List.replicate n (0:Int)).map (Value.int .i64):=by
 apply List.ext_getElem?
 intro i
 by_cases h:i<n
 · have:=made_at (.int .i64 0) n i h
   rw [Array.getElem?_toList,this]
   simp [h]
 · rw [List.getElem?_eq_none (by simp [size_madeCells];omega),List.getElem?_eq_none (by simp;omega)]
theorem wpList_make_ints {P:Program} {ops:Array Oper} {rest:List Oper} {o:Oper} {a:Act} {Q:Exit→Act→World→Prop} (w:World) (hgd:o.guard=none) (l c:Operand) (t:TypeId) (hop:o.op=Op.makeSlice t l c) (i:TypeInfo) (h1:P.underlying t=some (.slice 3)) (h2:P.info? 3=some i) (h3:i.zero=some (.int .i64 0)) (h4:i.size=1) (h5:i.bytes=8)
 (n:Nat) (hl:a.eval l=.int .i64 n) (hc:a.eval c=.int .i64 n) (hn:n≤1000000)
 (h: ∀w2,Own w2 w.heap.size (some ⟨w.heap.size,0,none⟩) n n→Keep (fun _=>False) w w2→wpList P ops Q rest (a.put o.dst (.slice (some ⟨w.heap.size,0,none⟩) n n)) w2):wpList P ops Q (o::rest) a w:=
 wpList_make hgd l c t hop 3 i _ h1 h2 h3 h4 rfl n hl hc (by rw [h5];omega) (by simp only [maxLen];omega) (fun w2 hb hk=>h w2 ⟨List.replicate n 0,by simp,⟨by simp,.inr ⟨w.heap.size,n,_,rfl,Nat.le_refl _,hb,Nat.le_refl _,by simp only [maxLen];omega,by rw [size_madeCells,Nat.mul_one],by rw [Nat.mul_one,List.take_of_length_le (by simp [size_madeCells]),made_ints]⟩⟩⟩ hk)
theorem columns_any (w:World) (W H:Nat) (at0:Int) (A:Option Addr) (c:Nat) (zs:List Int) (h:Rd w A (W*H) (zs.map (Value.int .i64))) (hW:W≤12) (hH:H≤12):
 Calls Tryz.prog 77 #[.int .i64 W,.int .i64 H,.int .i64 at0,.slice A (W*H) c,.bool false] w (RowP (W*H) w):=by
 obtain⟨i0,hi0,hz0,hz1,hz2⟩:=info_parts info_int
 have HIX:=hid (fun x y (hx:x<W) (hy:y<H)=>ix_lt hx hy)
 have hN:W*H≤12*12:=Nat.mul_le_mul hW hH
 have HV:=hid h
 obtain⟨N,hNN⟩: ∃N,W*H=N:=⟨_,rfl⟩
 rw [hNN]at HV hN ⊢
 have HNN:=hid hNN
 clear hNN h
 go_enter Tryz.func77,Tryz.ntmps77
 go_upto_region 2 with(refine wpList_make_ints _ rfl (.tmp 17) (.tmp 17) _ rfl i0 Tryz.underlying22 hi0 hz0 hz1 hz2 N rfl rfl (by omega) ?_;intro w2 ho hk;have HO2:=hid ho;have HK2:=hid hk;clear ho hk)
 go_wp2_with fail
 go_loopw [12] (fun v wr=> ∃x:Nat,x≤W∧v=.int .i64 x∧Hid (Own wr w.heap.size (some ⟨w.heap.size,0,none⟩) N N)∧Hid (Keep (fun _=>False) w wr)) (fun v _=>W-(intOf v).toNat)
 case atStart=>exact⟨0,by omega,rfl,HO2,HK2⟩
 case round=>
  clear HO2 HK2
  obtain⟨x,hx,rfl,HO,HK⟩:=hrel
  by_cases hxW:x<W
  · have HT0:=hid (show TwoR w (some ⟨w.heap.size,0,none⟩) N N none 0 0 wr from⟨HO.out,Own.nil _ _,fun a b e=>(by cases e),HK.out⟩)
    clear HO HK
    go_wp2_with fail
    go_loopw [13,14] (fun u v wr=> ∃(y:Nat) (O:Option Addr) (cO:Nat),y≤H∧u=.slice O y cO∧v=.int .i64 y∧Hid (TwoR w (some ⟨w.heap.size,0,none⟩) N N O y cO wr)) (fun _ v _=>H-(intOf v).toNat)
    case atStart=>exact⟨0,none,0,by omega,rfl,rfl,HT0⟩
    case round=>
     clear HT0
     obtain⟨y,O,cO,hy,rfl,rfl,HT⟩:=hrel
     by_cases hyH:y<H
     · have hix:=HIX.out x y hxW hyH
       rw [HNN.out]at hix
       have e1:(y:Int)*(W:Int)=((y*W:Nat):Int):=by push_cast;rfl
       have e2:IntKind.i64.wrap ((y*W:Nat):Int)=((y*W:Nat):Int):=IntWalk.i64_in _ (by omega)
       obtain⟨v,hv⟩: ∃v,y*W+x=v:=⟨_,rfl⟩
       rw [hv]at hix
       generalize y*W=q at*
       have e3:(q:Int)+(x:Int)=(v:Int):=by omega
       obtain⟨ad,z,hA,hcz⟩:=(HV.out.keepF HT.out.keep).int hix
       obtain⟨zo,hzo,ho⟩:=HT.out.o
       have HOO:=hid ho
       have hb0:=HT.out.keep.size
       subst hA
       clear ho hv
       go_wp2_with (
        at_builtin
        go_must (refine wpList_append_one wr rfl (.tmp 29) (.tmp 38) _ rfl w.heap.size 3 i0 _ 8 Tryz.underlying22 hi0 hz0 hz1 hz2 rfl HOO.out rfl _ rfl rfl (by simp only [maxLen];omega) (by omega) hb0 ?_)
        intro v2 w2 hown2 hg2 hat2 _hold2
        obtain⟨O2,cO2,rfl⟩:=own_form hown2
        have HN:=hid (HT.out.push hzo hown2 hg2 hat2)
        clear hown2 hg2 hat2 _hold2)
       go_roundw
       case rel=>exact⟨y+1,O2,cO2,by omega,rfl,by go_num,HN⟩
       case measure=>simp [intOf]<;>omega
     · obtain rfl:y=H:=by omega
       obtain⟨zo,hzo,hro⟩:=HT.out.o.rd
       have LS:=hid (lsplit_any wr at0 O y cO zo hro (by omega))
       clear hro
       go_wp2_with fail
       refine LS.out.mono ?_
       rintro e w3 ⟨C,cC,zc,rfl,hzc,hoc,hk3⟩
       have HT3:=hid (TwoR.of HT.out.x HT.out.keep (show Own w3 wr.heap.size C y cC from⟨zc,hzc,hoc⟩) hk3)
       clear hoc hk3 HT LS
       go_wp2_with fail
       go_loopw [15] (fun v wr=> ∃t:Nat,t≤y∧v=.int .i64 t∧Hid (TwoR w (some ⟨w.heap.size,0,none⟩) N N C y cC wr)) (fun v _=>y-(intOf v).toNat)
       case atStart=>exact⟨0,by omega,rfl,HT3⟩
       case round=>
        clear HT3
        obtain⟨t,ht,rfl,HT⟩:=hrel
        by_cases hty:t<y
        · have hix:=HIX.out x t hxW hty
          rw [HNN.out]at hix
          have e1:(t:Int)*(W:Int)=((t*W:Nat):Int):=by push_cast;rfl
          have e2:IntKind.i64.wrap ((t*W:Nat):Int)=((t*W:Nat):Int):=IntWalk.i64_in _ (by omega)
          obtain⟨v,hv⟩: ∃v,t*W+x=v:=⟨_,rfl⟩
          rw [hv]at hix
          generalize t*W=q at*
          have e3:(q:Int)+(x:Int)=(v:Int):=by omega
          obtain⟨g,z,hX,_,hc,hf,hset⟩:=HT.out.setX hix
          obtain⟨g2,z2,hC,hcC,_,hc2,_,_⟩:=HT.out.o.get hty
          have HS:=hid hset
          injection hX with hX
          injection hX with hX
          subst hX
          subst hC
          clear hset hv
          go_wp2_with fail
          go_roundw
          case rel=>exact⟨t+1,by omega,by go_num,hid (HS.out _)⟩
          case measure=>simp [intOf]<;>omega
        · obtain rfl:t=y:=by omega
          go_wp2_with fail
          go_roundw
          case rel=>exact⟨x+1,by omega,by go_num,hid HT.out.x,hid HT.out.keep⟩
          case measure=>simp [intOf]<;>omega
  · obtain rfl:x=W:=by omega
    go_wp2_with fail
    go_ret
    obtain⟨zs',h1,h2⟩:=HO.out
    exact⟨_,N,zs',rfl,h1,h2,HK.out⟩
def SomeK (a b:Int) (w:World) (e:Ending) (w':World):Prop:= ∃k:Int,a≤k∧k≤b∧e=.returned (.int .i64 k)∧Keep (fun _=>False) w w'
def SomeBK (w:World) (e:Ending) (w':World):Prop:= ∃b:Bool,e=.returned (.bool b)∧Keep (fun _=>False) w w'
theorem czero_any (w:World) (d:Cd) (band style:Int) (raw:Bool) (h:CdR d band style raw w) (x y:Int) (hx:0≤x∧x≤99) (hy:0≤y∧y≤99):
 Calls Tryz.prog 117 #[.pointer (some ⟨d.g,0,none⟩),.int .i64 x,.int .i64 y] w (SomeK 0 8 w):=by
 have HR:=hid h
 clear h
 go_enter Tryz.func117,Tryz.ntmps117
 go_wp2_with fail
 refine(around_any _ d band style raw HR.out x y hx hy).mono ?_
 rintro e w2 ⟨a,b,c,ha,hb,hc,rfl,hk⟩
 obtain⟨cs,hcc,_,hC⟩:=(HR.out.keepF hk).f
 have c2:w2.cell? ⟨d.g,2,none⟩=some (.int .i64 band):=(hcc 2).trans hC.c2
 have HK:=hid hk
 clear hcc hC hk
 go_wp2_with fail
 refine(zero_any _ _ _ _ _ ha hb hc).mono ?_
 rintro e w3 ⟨k,h1,h2,rfl,hw⟩
 cases hw
 go_wp2_with fail
 go_ret
 exact⟨k,h1,h2,rfl,HK.out⟩
theorem says_any (w:World) (d:Cd) (band style:Int) (raw:Bool) (h:CdR d band style raw w) (x y dx dy:Int) (hx:0≤x∧x≤99) (hy:0≤y∧y≤99) (hdx:-1≤dx∧dx≤1) (hdy:-1≤dy∧dy≤1):
 Calls Tryz.prog 125 #[.pointer (some ⟨d.g,0,none⟩),.int .i64 x,.int .i64 y,.int .i64 dx,.int .i64 dy] w (SomeK (-1) 1 w):=by
 have HR:=hid h
 have HK:=hid (Keep.refl (fun _=>False) w)
 clear h
 go_enter Tryz.func125,Tryz.ntmps125
 go_wp2_with fail
 (go_at_call 127;refine(sig_any _ d band style raw HR.out _ _ _ _ (by omega) (by omega) (by omega) (by omega)).mono ?_;rintro e w2 ⟨b,rfl,hb,hk⟩;replace HR:=hid (HR.out.keepF hk);replace HK:=hid (HK.out.trans hk (fun _ _ h=>h));clear hk)
 cases b with
 |false=>
  go_wp2_with fail
  go_ret
  exact⟨0,by omega,by omega,rfl,HK.out⟩
 |true=>
  obtain⟨i1,i2,i3,i4⟩:=hb rfl
  clear hb
  obtain⟨cs,hcc,_,hC⟩:=HR.out.f
  have c0:w2.cell? ⟨d.g,0,none⟩=some (.int .i64 d.W):=(hcc 0).trans hC.c0
  have c5:w2.cell? ⟨d.g,5,none⟩=some (.slice (some ⟨d.gn,0,none⟩) (d.W*d.H) (d.W*d.H)):=(hcc 5).trans hC.c5
  obtain⟨p,hp⟩: ∃p:Nat,x+dx=p:=⟨(x+dx).toNat,by omega⟩
  obtain⟨q,hq⟩: ∃q:Nat,y+dy=q:=⟨(y+dy).toNat,by omega⟩
  have hix:=ix_lt (W:=d.W) (H:=d.H) (x:=p) (y:=q) (by omega) (by omega)
  obtain⟨s,hs0,hs⟩:=HR.out.neg.cell hix
  have hN:=HR.out.n144
  have hWl:=HR.out.w1
  clear hcc hC
  generalize d.W*d.H=N at*
  generalize d.W=W at*
  have e1:(q:Int)*(W:Int)=((q*W:Nat):Int):=by push_cast;rfl
  have e2:IntKind.i64.wrap ((q*W:Nat):Int)=((q*W:Nat):Int):=IntWalk.i64_in _ (by omega)
  have hw2:IntKind.i64.wrap (y+dy)=q:=by rw [hq];exact IntWalk.i64_in _ (by omega)
  have hqy:y+dy=(q:Int):=hq
  generalize q*W=u at*
  obtain⟨v,hv⟩: ∃v,u+p=v:=⟨_,rfl⟩
  rw [hv]at hs hix
  have hA:IntKind.i64.wrap ((u:Int)+x)=(u:Int)+x:=IntWalk.i64_in _ (by omega)
  have hB0:(u:Int)+x+dx=(v:Int):=by omega
  have hB:IntKind.i64.wrap ((u:Int)+x+dx)=(v:Int):=by rw [hB0];exact IntWalk.i64_in _ (by omega)
  have HV:=hid (And.intro hv (And.intro hp hq))
  have hz0:0≤2*s∧2*s≤2:=by omega
  clear hv hp hq
  go_wp2_with fail
  go_quiet (fail)
  go_wp2_with fail
  go_ret
  exact⟨_,by omega,by omega,rfl,HK.out.drewN _⟩
theorem blank_any (w:World) (d:Cd) (band style:Int) (raw:Bool) (h:CdR d band style raw w) (x y:Nat) (hx:x<d.W) (hy:y<d.H):
 Calls Tryz.prog 128 #[.pointer (some ⟨d.g,0,none⟩),.int .i64 x,.int .i64 y] w (fun e w'=> ∃b:Bool,e=.returned (.bool b)∧(b=true→y+4≤d.H)∧Keep (fun _=>False) w w'):=by
 have HR:=hid h
 have HK:=hid (Keep.refl (fun _=>False) w)
 have hWl:=h.w1
 have hHl:=h.h1
 have hN:=h.n144
 clear h
 obtain⟨cs,hcc,_,hC⟩:=HR.out.f
 have c1:w.cell? ⟨d.g,1,none⟩=some (.int .i64 d.H):=(hcc 1).trans hC.c1
 clear hcc hC
 by_cases h4:y+4≤d.H
 · have hd:decide ((d.H:Int)-(y:Int)<4)=false:=by simp;omega
   have HZ:=hid (fun (w2:World) (b:Bool) (hk:Keep (fun _=>False) w w2)=>show∃c:Bool,Ending.returned (.bool b)=.returned (.bool c)∧(c=true→y+4≤d.H)∧Keep (fun _=>False) w w2 from⟨b,rfl,fun _=>h4,hk⟩)
   go_enter Tryz.func128,Tryz.ntmps128
   go_wp2_with fail
   go_loopw [7] (fun v wr=> ∃j:Nat,j≤4∧v=.int .i64 j∧Hid (CdR d band style raw wr)∧Hid (Keep (fun _=>False) w wr)) (fun v _=>4-(intOf v).toNat)
   case atStart=>exact⟨0,by omega,rfl,HR,HK⟩
   case round=>
    clear HR HK c1
    obtain⟨j,hj,rfl,HR,HK⟩:=hrel
    by_cases hj4:j<4
    · obtain⟨cs,hcc,_,hC⟩:=HR.out.f
      have c0:wr.cell? ⟨d.g,0,none⟩=some (.int .i64 d.W):=(hcc 0).trans hC.c0
      have c6:wr.cell? ⟨d.g,6,none⟩=some (.slice (some ⟨d.gs,0,none⟩) (d.W*d.H) (d.W*d.H)):=(hcc 6).trans hC.c6
      have c7:wr.cell? ⟨d.g,7,none⟩=some (.slice (some ⟨d.ge,0,none⟩) (d.W*d.H) (d.W*d.H)):=(hcc 7).trans hC.c7
      have hix:=ix_lt (W:=d.W) (H:=d.H) (x:=x) (y:=y+j) hx (by omega)
      obtain⟨s,hs⟩:=HR.out.sig.cell hix
      obtain⟨t,ht⟩:=HR.out.seen.cell hix
      have CZ:=hid (fun w2 (hk:Keep (fun _=>False) wr w2)=>czero_any w2 d band style raw (HR.out.keepF hk) x (((y+j:Nat):Int)) (by omega) (by omega))
      clear hcc hC
      have e1:((y+j:Nat):Int)*(d.W:Int)=(((y+j)*d.W:Nat):Int):=by push_cast;rfl
      have e0:(y:Int)+(j:Int)=((y+j:Nat):Int):=by push_cast;rfl
      have HJ:=hid (show y+j<200 by omega)
      generalize y+j=yj at*
      have e2:IntKind.i64.wrap ((yj*d.W:Nat):Int)=((yj*d.W:Nat):Int):=IntWalk.i64_in _ (by omega)
      generalize yj*d.W=u at*
      obtain⟨v,hv⟩: ∃v,u+x=v:=⟨_,rfl⟩
      have hB:(u:Int)+(x:Int)=(v:Int):=by omega
      rw [hv]at hs ht hix
      have HV:=hid hv
      clear hv
      generalize d.W*d.H=N at*
      cases s with
      |true=>
       go_wp2_with fail
       go_ret
       exact HZ.out _ _ HK.out
      |false=>
       cases t with
       |true=>
        go_wp2_with fail
        go_ret
        exact HZ.out _ _ HK.out
       |false=>
        go_wp2_with (go_at_call 117;refine(CZ.out _ (Keep.refl _ _)).mono ?_;rintro e w2 ⟨z,hz1,hz2,rfl,hk⟩;replace HR:=hid (HR.out.keepF hk);replace HK:=hid (HK.out.trans hk (fun _ _ h=>h));clear hk)
        · go_ret
          exact HZ.out _ _ HK.out
        · go_roundw
          case rel=>exact⟨j+1,by omega,by go_num,HR,HK⟩
          case measure=>simp [intOf];omega
    · obtain rfl:j=4:=by omega
      go_wp2_with fail
      go_ret
      exact HZ.out _ _ HK.out
 · have hd:decide ((d.H:Int)-(y:Int)<4)=true:=by simp;omega
   go_enter Tryz.func128,Tryz.ntmps128
   go_wp2_with fail
   go_ret
   exact⟨false,rfl,(fun h=>absurd h (by decide)),HK.out⟩
end Go.Proofs.YthfogcgdijmaoaaGreat
