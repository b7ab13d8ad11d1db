/-
  Part 8 of the proof: CodR SRaw. Conditions: those of the statements.
-/
import Derived.Test.YthfogcgdijmaoaaGreatW2
import Derived.Test.YthfogcgdijmaoaaGreatW5
import Derived.Test.YthfogcgdijmaoaaGreatW7
import Derived.Deep.QuietTactic
import Derived.BigQuiet
set_option maxRecDepth 100000
set_option maxHeartbeats 16000000
set_option linter.unusedVariables false
set_option linter.unusedSimpArgs false
namespace Go.Proofs.YthfogcgdijmaoaaGreat
open Go.RowKit
def SigP (d:Cd) (p q:Int) (w:World) (e:Ending) (w':World):Prop:= ∃b:Bool,e=.returned (.bool b)∧(b=true→0≤p∧p<d.W∧0≤q∧q<d.H)∧Keep (fun _=>False) w w'
theorem sig_any (w:World) (d:Cd) (band style:Int) (raw:Bool) (h:CdR d band style raw w) (x y dx dy:Int) (hx:-1≤x∧x≤100) (hy:0≤y∧y≤100) (hdx:-1≤dx∧dx≤1) (hdy:-1≤dy∧dy≤1):
 Calls Tryz.prog 127 #[.pointer (some ⟨d.g,0,none⟩),.int .i64 x,.int .i64 y,.int .i64 dx,.int .i64 dy] w (SigP d (x+dx) (y+dy) w):=by
 obtain⟨cs,hc,_,hC⟩:=h.f
 have c0:w.cell? ⟨d.g,0,none⟩=some (.int .i64 d.W):=(hc 0).trans hC.c0
 have c1:w.cell? ⟨d.g,1,none⟩=some (.int .i64 d.H):=(hc 1).trans hC.c1
 have c3:w.cell? ⟨d.g,3,none⟩=some (.int .i64 style):=(hc 3).trans hC.c3
 have c6:w.cell? ⟨d.g,6,none⟩=some (.slice (some ⟨d.gs,0,none⟩) (d.W*d.H) (d.W*d.H)):=(hc 6).trans hC.c6
 have HF:Hid (∀ n,SigP d (x+dx) (y+dy) w (.returned (.bool false)) (w.drewN n)):=hid (fun n=>⟨false,rfl,(fun h=>absurd h (by decide)),(Keep.refl _ w).drewN n⟩)
 have HF0:Hid (SigP d (x+dx) (y+dy) w (.returned (.bool false)) w):=hid ⟨false,rfl,(fun h=>absurd h (by decide)),Keep.refl _ w⟩
 have hWl:=h.w1
 have hHl:=h.h1
 have hN:=h.n144
 obtain⟨W,hW⟩: ∃W,d.W=W:=⟨_,rfl⟩
 obtain⟨H,hH⟩: ∃H,d.H=H:=⟨_,rfl⟩
 have HT:Hid (∀ (b:Bool) n,0≤x+dx→x+dx<W→0≤y+dy→y+dy<H→SigP d (x+dx) (y+dy) w (.returned (.bool b)) (w.drewN n)):=hid (fun b n h1 h2 h3 h4=>⟨b,rfl,fun _=>⟨h1,by rw [hW];exact h2,h3,by rw [hH];exact h4⟩,(Keep.refl _ w).drewN n⟩)
 have HR:=hid h
 have HC:Hid (∀ a b:Nat,a<W→b<H→ ∃s,w.cell? ⟨d.gs,b*W+a,none⟩=some (.bool s)):=hid (fun a b h1 h2=>h.sig.cell (by rw [hW,hH];exact ix_lt h1 h2))
 rw [hW]at c0 hWl hN
 rw [hH]at c1 hHl hN
 rw [hW,hH]at c6
 clear hc hC h hW hH
 by_cases hin:0≤x+dx∧x+dx<W∧0≤y+dy∧y+dy<H
 · obtain⟨i1,i2,i3,i4⟩:=hin
   obtain⟨p,hp⟩: ∃p:Nat,x+dx=p:=⟨(x+dx).toNat,by omega⟩
   obtain⟨q,hq⟩: ∃q:Nat,y+dy=q:=⟨(y+dy).toNat,by omega⟩
   have HTT:=hid (fun (b:Bool) n=>HT.out b n i1 i2 i3 i4)
   rw [hp]at HF0 HF i1 i2
   rw [hq]at HF0 HF i3 i4
   have hix:=ix_lt (W:=W) (H:=H) (x:=p) (y:=q) (by omega) (by omega)
   obtain⟨s,hs⟩:=HC.out p q (by omega) (by omega)
   have hm:q*W≤144:=by omega
   have e1:(q:Int)*(W:Int)=((q*W:Nat):Int):=by push_cast;rfl
   have e2:IntKind.i64.wrap ((q*W:Nat):Int)=((q*W:Nat):Int):=IntWalk.i64_in _ (by omega)
   rw [hp,hq]at HTT
   generalize q*W=u at*
   generalize W*H=N at*
   have HPQ:=hid (And.intro hp hq)
   have HTU:=hid HTT.out
   rw [hp,hq]
   have hw1:IntKind.i64.wrap (x+dx)=p:=by rw [hp];exact IntWalk.i64_in _ (by omega)
   have hw2:IntKind.i64.wrap (y+dy)=q:=by rw [hq];exact IntWalk.i64_in _ (by omega)
   clear HT HC hm
   go_enter Tryz.func127,Tryz.ntmps127
   go_wp2_with fail
   all_goals(first|(go_ret;exact HF0.out)|(go_quiet (fail);go_wp2_with fail;go_ret;exact HTU.out _ _))
 · have h1:x+dx<0∨W≤x+dx∨y+dy<0∨H≤y+dy:=by omega
   clear hin HT HC
   rcases h1 with h1|h1|h1|h1
   all_goals(
    go_enter Tryz.func127,Tryz.ntmps127
    go_wp2_with fail
    all_goals(go_ret;exact HF0.out))
def AroundP (w:World) (e:Ending) (w':World):Prop:= ∃h v d:Int,(0≤h∧h≤2)∧(0≤v∧v≤2)∧(0≤d∧d≤4)∧e=.returned (.tuple #[.int .i64 h,.int .i64 v,.int .i64 d])∧Keep (fun _=>False) w w'
theorem one_lim (b:Bool):0≤(if b then(1:Int)else 0)∧(if b then(1:Int)else 0)≤1:=by cases b<;>simp
theorem around_any (w:World) (d:Cd) (band style:Int) (raw:Bool) (h:CdR d band style raw w) (x y:Int) (hx:0≤x∧x≤99) (hy:0≤y∧y≤99):
 Calls Tryz.prog 120 #[.pointer (some ⟨d.g,0,none⟩),.int .i64 x,.int .i64 y] w (AroundP w):=by
 have HR:=hid h
 have HK:=hid (Keep.refl (fun _=>False) w)
 clear h
 go_enter Tryz.func120,Tryz.ntmps120
 go_wp2_with (first|(go_at_call 127;refine(sig_any _ d band style raw HR.out _ _ _ _ (by omega) (by omega) (by omega) (by omega)).mono ?_;rintro e w2 ⟨b,rfl,_hb,hk⟩;replace HR:=hid (HR.out.keepF hk);replace HK:=hid (HK.out.trans hk (fun _ _ h=>h));clear hk _hb)|(go_at_call 83;refine(one_any _ _).mono ?_;rintro e w2 ⟨rfl,hw⟩;cases hw;first|(have l1:=one_lim b);generalize (if b=true then(1:Int)else 0)=o at *))
 exact bodyPost_ret (v:=.tuple #[_,_,_]) (by simp [results,Tryz.results120,go_sem]<;>exact⟨rfl,rfl,rfl⟩) rfl ⟨_,_,_,⟨by omega,by omega⟩,⟨by omega,by omega⟩,⟨by omega,by omega⟩,rfl,HK.out⟩
end Go.Proofs.YthfogcgdijmaoaaGreat
namespace Go.Proofs.YthfogcgdijmaoaaGreat.Rw
open Go.RowKit
def roomM (z:Int):Int:=if z=255 then 7 else 8
def orB (z x:Int) (t:Nat):Int:=bits .or .u8 z (bits .and .i64 x 1%256*2^t%256)
def refB (l:List Int) (r:Int):List Int:=if r=0 then l else l.dropLast
def curM (l:List Int) (r:Int):Int:=if r=0 then 0 else lastM l
def freeM (l:List Int) (r:Int):Int:=if r=0 then topM l else r
structure RW0 (w:World) (base W:Nat) (A:Option Addr) (n c:Nat) (b:List Int) (u f t:Int):Prop where
 blk:Blk w W 191 #[.slice A n c,.int .i64 u,.int .i64 f,.int .i64 t]
 own:w.ownsRow base 5 1 (.slice A n c) n (b.map (Value.int .u8))
section
variable {w w':World} {base W:Nat} {A:Option Addr} {n c:Nat} {b:List Int} {u f t:Int}
theorem RW0.len (h:RW0 w base W A n c b u f t):b.length=n:=by have:=h.own.1;simpa using this
theorem RW0.keep (h:RW0 w base W A n c b u f t) {S:Nat→Prop} (hk:Keep S w w') (hW: ¬S W) (hA: ∀ad,A=some ad→ ¬S ad.block):RW0 w' base W A n c b u f t:=
 ⟨h.blk.keep hk hW,own_keep h.own hk (fun k e hs=>by
  obtain⟨ad,rfl,rfl⟩:=own_foot e
  exact hA ad rfl hs)⟩
theorem RW0.set (h:RW0 w base W A n c b u f t) {u' f' t':Int} {w':World} (hk:Keep (fun k=>k=W) w w') (hb:Blk w' W 191 #[.slice A n c,.int .i64 u',.int .i64 f',.int .i64 t']):RW0 w' base W A n c b u' f' t':=
 ⟨hb,own_keep h.own hk (fun k e hs=>own_ne h.own h.blk (by decide) (by rw [e,hs]))⟩
end
def orI (u x:Int) (t:Nat):Int:=bits .or .i64 u (wrap64 (bits .and .i64 x 1*2^t))
theorem rbit_more (w:World) (base W:Nat) (A:Option Addr) (n c:Nat) (b:List Int) (u f t x:Int) (h:RW0 w base W A n c b u f t) (hf:2≤f) (hf8:f≤8):
 Calls Tryz.prog 129 #[.pointer (some ⟨W,0,none⟩),.int .i64 x] w fun e w'=>e=.returned (.tuple #[])∧RW0 w' base W A n c b (orI u x (f.toNat-1)) (f-1) t∧Keep (fun k=>k=W) w w':=by
 have h1:w.cell? ⟨W,1,none⟩=some (.int .i64 u):=h.blk.cell 1
 have h2:w.cell? ⟨W,2,none⟩=some (.int .i64 f):=h.blk.cell 2
 have f1:=h.blk.frozen 1
 have f2:=h.blk.frozen 2
 have hf0:(0:Int)<f-1:=by omega
 have H:=hid h
 clear h
 go_enter Tryz.func129,Tryz.ntmps129
 go_wp2_with fail
 go_region
 go_wp2_with fail
 (try simp only [Exit.inBlock,Exit.then]);refine bodyPost_ret (results_none rfl _ _ _) rfl ?_
 have hk:Keep (fun k=>k=W) w ((w.setCell ⟨W,2,none⟩ (.int .i64 (f-1))).setCell ⟨W,1,none⟩ (.int .i64 (orI u x (f.toNat-1)))).drew:=(((Keep.refl _ w).setR 2 _).setR 1 _).drew
 refine⟨rfl,?_,hk⟩
 exact H.out.set hk ((H.out.blk.set_ 2 (.int .i64 (f-1))).set_ 1 (.int .i64 (orI u x (f.toNat-1)))).drew
def RWP (w:World) (base W:Nat) (A:Option Addr) (b:List Int) (u f t:Int) (e:Ending) (w':World):Prop:=
 ∃A' n' c',e=.returned (.tuple #[])∧RW0 w' base W A' n' c' b u f t∧Grew w A A'∧Keep (foot W A) w w'
theorem rbit_last (w:World) (base W:Nat) (A:Option Addr) (n c:Nat) (b:List Int) (u t x q F:Int) (h:RW0 w base W A n c b u 1 t) (hb:base≤w.heap.size) (hn:n≤1073741824) (hq:orI u x 0=q) (hF:Hid (F=if q=255 then 7 else 8)):
 Calls Tryz.prog 129 #[.pointer (some ⟨W,0,none⟩),.int .i64 x] w (RWP w base W A (b++[IntKind.u8.wrap q]) 0 F F):=by
 obtain⟨i0,hi0,hz0,hz1,hz2⟩:=info_parts info_u8
 have h0:w.cell? ⟨W,0,none⟩=some (.slice A n c):=h.blk.cell 0
 have h1:w.cell? ⟨W,1,none⟩=some (.int .i64 u):=h.blk.cell 1
 have h2:w.cell? ⟨W,2,none⟩=some (.int .i64 1):=h.blk.cell 2
 have f0:=h.blk.frozen 0
 have f1:=h.blk.frozen 1
 have f2:=h.blk.frozen 2
 have H:=hid h
 have hq':bits BinOp.or IntKind.i64 u (wrap64 (bits BinOp.and IntKind.i64 x 1))=q:=by
  rw [← hq]
  unfold orI
  simp
 clear h hq
 go_enter Tryz.func129,Tryz.ntmps129
 go_wp2_with fail
 go_region
 generalize wrap64 (bits BinOp.and IntKind.i64 x 1)=x1 at*
 generalize bits BinOp.and IntKind.i64 x 1=x2 at*
 clear hq'
 go_wp2_with fail
 generalize hw:World.drew _=w5
 have hk5:Keep (fun k=>k=W) w w5:=by
  rw [← hw]
  exact(((Keep.refl _ w).setR 2 _).setR 1 _).drew
 have H5:=hid (show RW0 w5 base W A n c b q 0 t from H.out.set hk5 (by
  rw [← hw]
  exact((H.out.blk.set_ 2 (.int .i64 0)).set_ 1 (.int .i64 q)).drew))
 clear hw
 have c0:w5.cell? ⟨W,0,none⟩=some (.slice A n c):=H5.out.blk.cell 0
 have c1:w5.cell? ⟨W,1,none⟩=some (.int .i64 q):=H5.out.blk.cell 1
 have d0:=H5.out.blk.frozen 0
 have hne:=own_ne H5.out.own H5.out.blk (by decide)
 have HN:=hid hne
 have hw5:=H5.out.blk.lt
 clear hne
 refine At.start (L:=#[false,false,false,false,false,false,false,false,false,false,false,false,false,false,false]) (by kernel_rfl) rfl ?_
 refine AtP 0 32 ?_
 refine AtP 1 33 ?_
 refine AtP 2 34 ?_
 refine AtP 3 35 ?_
 refine At.read 4 (some 36) (fun w'=>w'.cell? ⟨W,0,none⟩=some (.slice A n c)) (v:=?v4) rfl rfl (by kernel_rfl) (fun _ _ _ h=>h) rfl c0 (fun w' hw'=>?y4) ?_
 case y4=>skip;go_simp;try with_reducible rfl
 try simp only [NS]
 refine AtP 5 37 ?_
 refine AtP 6 38 ?_
 refine AtP 7 39 ?_
 refine At.read 8 (some 40) (fun w'=>w'.cell? ⟨W,1,none⟩=some (.int .i64 q)) (v:=(.int .i64 q)) rfl rfl (by kernel_rfl) (fun _ _ _ h=>h) rfl c1 (fun w' hw'=>?y8) ?_
 case y8=>skip;go_simp;try with_reducible rfl
 try simp only [NS]
 refine AtP 9 41 ?_
 refine At.call 10 (pend':=[(4,(fun w'=>w'.cell? ⟨W,0,none⟩=some (.slice A n c)))]) rfl (by kernel_rfl) rfl (by kernel_rfl) (fun K hK=>?_)
 go_simp
 skip
 refine hK _ _ (all_cons (((Keep.refl (fun _=>False) _).alloc _).cell c0 (fun h=>h)) all_nil) ?_
 clear hK K
 try simp only [NS]
 refine AtC 11 fun K hK=>?_
 refine wp_append_one w5.drew (.tmp 36) (.tmp 42) _ rfl base 5 i0 _ 1 Tryz.underlying25 hi0 hz0 hz1 hz2 rfl H5.out.own.drew rfl _ rfl rfl (by simp only [maxLen];omega) (by omega) (Nat.le_trans hb hk5.size) ?_
 intro v2 w2 hown2 hg2 hat2 _hold2
 obtain⟨A2,c2,rfl⟩:=own_form hown2
 have b2:=(H5.out.blk.drew.alloc (.cells #[.int .u8 (IntKind.u8.wrap q)] 5)).grown hg2 (Ne.symm HN.out)
 have e2:w2.cell? ⟨W,0,none⟩=some (.slice A n c):=b2.cell 0
 have e3:=b2.frozen 0
 have e4:w2.cell? ⟨W,1,none⟩=some (.int .i64 q):=b2.cell 1
 have e5:=b2.frozen 1
 have e6:w2.cell? ⟨W,2,none⟩=some (.int .i64 0):=b2.cell 2
 have e7:=b2.frozen 2
 have e8:w2.cell? ⟨W,3,none⟩=some (.int .i64 t):=b2.cell 3
 have e9:=b2.frozen 3
 have B2:=hid b2
 have hk2:Keep (fun k=>(Value.slice A n c).ownBlock=some k) w5 w2:=(((Keep.refl _ w5).drew).alloc _).grown hg2 (fun k hk=>.inl hk)
 clear b2
 refine hK _ _ all_nil ?_
 clear hK K
 try simp only [NS]
 refine AtP 12 44 ?_
 refine AtP 13 45 ?_
 refine AtC 14 fun K hK=>?_
 go_simp
 skip
 refine hK _ _ all_nil ?_
 clear hK K
 try simp only [NS]
 refine At.done (by kernel_rfl) ?_
 have hne2:=own_ne hown2 B2.out (by decide)
 have HNE2:=hid hne2
 have HO2:=hid hown2
 have HA2:=hid hat2
 clear hne2 hown2 hat2 _hold2 hg2
 have HF2:=hid (show∀w6,Keep (fun k=>k=W) w2 w6→Blk w6 W 191 #[.slice A2 (n+1) c2,.int .i64 0,.int .i64 F,.int .i64 F]→RWP w base W A (b++[IntKind.u8.wrap q]) 0 F F (.returned (.tuple #[])) w6 from fun w6 hk6 hb6=>by
  refine⟨A2,n+1,c2,rfl,⟨hb6,?_⟩,?_,?_⟩
  · have:=own_keep HO2.out hk6 (fun k e hk=>HNE2.out (by rw [e,hk]))
    simpa using this
  · exact Grew.of HA2.out (by have:=hk5.size;show _≤w5.heap.size+1;omega)
  · exact(hk5.mono (fun k _ h=>.inl h)).trans ((hk2.mono (fun k _ h=>.inr (own_foot h))).trans hk6 (fun k _ h=>.inl h)) (fun k _ h=>h))
 by_cases he:q=255
 · have HE:=hid (show F=7 by rw [hF.out,if_pos he])
   subst he
   go_wp2_with fail
   go_end0
   refine HF2.out _ (((((((Keep.refl _ w2).setR 0 _).setR 2 _).setR 3 _).setR 2 _).setR 3 _).setR 1 _) ?_
   rw [HE.out]
   exact(((((B2.out.set_ 0 (.slice A2 (n+1) c2)).set_ 2 (.int .i64 8)).set_ 3 (.int .i64 8)).set_ 2 (.int .i64 7)).set_ 3 (.int .i64 7)).set_ 1 (.int .i64 0)
 · have HE:=hid (show F=8 by rw [hF.out,if_neg he])
   have he':(q==255)=false:=by simpa using he
   go_wp2_with fail
   go_end0
   refine HF2.out _ (((((Keep.refl _ w2).setR 0 _).setR 2 _).setR 3 _).setR 1 _) ?_
   rw [HE.out]
   exact(((B2.out.set_ 0 (.slice A2 (n+1) c2)).set_ 2 (.int .i64 8)).set_ 3 (.int .i64 8)).set_ 1 (.int .i64 0)
theorem rbit_any (w:World) (base W:Nat) (A:Option Addr) (n c:Nat) (l:List Int) (r x:Int) (h:RW0 w base W A n c (refB l r) (curM l r) (freeM l r) (topM (refB l r))) (hi:BInv l r) (hb:base≤w.heap.size) (hn:n≤1073741824):
 Calls Tryz.prog 129 #[.pointer (some ⟨W,0,none⟩),.int .i64 x] w (RWP w base W A (refB (stepL l r x) (stepR l r)) (curM (stepL l r x) (stepR l r)) (freeM (stepL l r x) (stepR l r)) (topM (refB (stepL l r x) (stepR l r)))):=by
 have ht:=top_le l
 have hbb:=lastM_byte hi.bytes
 by_cases hr:r=0
 · subst hr
   have e1:refB l 0=l:=if_pos rfl
   have e2:curM l 0=0:=if_pos rfl
   have e3:freeM l 0=topM l:=if_pos rfl
   rw [e1,e2,e3]at h
   refine(rbit_more w base W A n c l 0 (topM l) (topM l) x h (by omega) (by omega)).mono ?_
   rintro e w' ⟨rfl,h',hk⟩
   refine⟨A,n,c,rfl,?_,Grew.refl w A,hk.mono (fun k _ h=>.inl h)⟩
   unfold orI at h'
   rw [orI_add 0 x _ (by omega) (by omega) (by omega) (by simp),Int.zero_add]at h'
   unfold stepL stepR refB curM freeM
   rw [if_pos rfl,if_pos rfl,if_neg (by omega),if_neg (by omega),if_neg (by omega),List.dropLast_concat,lastM_snoc]
   exact h'
 · have hr0:=hi.r0
   have h7:=hi.r7
   have hl:=hi.some_ (by omega)
   have hlow:=hi.low
   have e0:r.toNat=r.toNat-1+1:=by omega
   rw [e0]at hlow
   have e1:refB l r=l.dropLast:=if_neg hr
   have e2:curM l r=lastM l:=if_neg hr
   have e3:freeM l r=r:=if_neg hr
   rw [e1,e2,e3]at h
   have es:stepL l r x=l.dropLast++[lastM l+x%2*2^(r.toNat-1)]:=by
    unfold stepL
    rw [if_neg hr,set_last l hl]
   have er:stepR l r=r-1:=by unfold stepR;rw [if_neg hr]
   rw [es,er]
   by_cases h1:r=1
   · subst h1
     have hq:orI (lastM l) x 0=lastM l+x%2*2^0:=orI_add _ x 0 hbb.1 hbb.2 (by omega) hlow
     have hf:=add_fits (lastM l) (x%2) 0 hbb.1 8 (by omega) (by omega) hlow (mod2 x)
     refine(rbit_last w base W A n c l.dropLast (lastM l) _ x _ (topM (l.dropLast++[lastM l+x%2*2^0])) h hb hn hq (hid (by unfold topM;rw [lastM_snoc]))).mono ?_
     rintro e w' h'
     rw [IntWalk.u8_in _ (by omega)]at h'
     unfold refB curM freeM
     rw [if_pos (by omega),if_pos (by omega),if_pos (by omega)]
     exact h'
   · refine(rbit_more w base W A n c l.dropLast (lastM l) r _ x h (by omega) (by omega)).mono ?_
     rintro e w' ⟨rfl,h',hk⟩
     refine⟨A,n,c,rfl,?_,Grew.refl w A,hk.mono (fun k _ h=>.inl h)⟩
     unfold orI at h'
     rw [orI_add _ x _ hbb.1 hbb.2 (by omega) hlow]at h'
     unfold refB curM freeM
     rw [if_neg (by omega),if_neg (by omega),if_neg (by omega),List.dropLast_concat,lastM_snoc]
     exact h'
def RWr (w:World) (base W:Nat) (A:Option Addr) (n c:Nat) (l:List Int) (r:Int):Prop:=RW0 w base W A n c (refB l r) (curM l r) (freeM l r) (topM (refB l r))
theorem refB_le (l:List Int) (r:Int):l.length≤(refB l r).length+1∧(refB l r).length≤l.length:=by
 unfold refB
 split<;>simp<;>omega
theorem rout_any (w:World) (base W:Nat) (A:Option Addr) (n c:Nat) (l:List Int) (r:Int) (h:RWr w base W A n c l r) (hi:BInv l r) (hn:n≤1073741824):
 Calls Tryz.prog 90 #[.pointer (some ⟨W,0,none⟩)] w fun e w'=>e=.returned (.int .i64 l.length)∧Keep (fun _=>False) w w':=by
 have h0:w.cell? ⟨W,0,none⟩=some (.slice A n c):=h.blk.cell 0
 have hl:=RW0.len h
 by_cases hr:r=0
 · have e1:refB l r=l:=if_pos hr
   have e3:freeM l r=topM l:=if_pos hr
   have h2:w.cell? ⟨W,2,none⟩=some (.int .i64 (topM l)):=by rw [← e3];exact h.blk.cell 2
   have h3:w.cell? ⟨W,3,none⟩=some (.int .i64 (topM l)):=by have:=h.blk.cell 3;rw [e1]at this;exact this
   rw [e1]at hl
   have HL:=hid hl
   clear h hl e1 e3
   generalize topM l=t at*
   go_enter Tryz.func90,Tryz.ntmps90
   go_wp2
   go_quiet (fail)
   go_wp2
   go_ret
   exact⟨by rw [HL.out];rfl,(Keep.refl _ _).drewN _⟩
 · have hr0:=hi.r0
   have e1:refB l r=l.dropLast:=if_neg hr
   have e3:freeM l r=r:=if_neg hr
   have h2:w.cell? ⟨W,2,none⟩=some (.int .i64 r):=by rw [← e3];exact h.blk.cell 2
   have h3:w.cell? ⟨W,3,none⟩=some (.int .i64 (topM l.dropLast)):=by have:=h.blk.cell 3;rw [e1]at this;exact this
   have hlt:=hi.top (by omega)
   have hs:=hi.some_ (by omega)
   rw [e1,List.length_dropLast]at hl
   have HL:=hid (show(n:Int)+1=l.length by omega)
   clear h hl e1 e3
   generalize topM l.dropLast=t at*
   go_enter Tryz.func90,Tryz.ntmps90
   go_wp2
   go_quiet (fail)
   go_wp2
   go_ret
   exact⟨by rw [← HL.out];rfl,(Keep.refl _ _).drewN _⟩
def BytesP (w:World) (out:List Int) (e:Ending) (w':World):Prop:=
 ∃A' n' c',e=.returned (.slice A' n' c')∧Rd w' A' n' (out.map (Value.int .u8))∧(∀ ad,A'=some ad→w.heap.size≤ad.block)∧Keep (fun _=>False) w w'
theorem own_fresh {w:World} {base:Nat} {e:TypeId} {size n m c:Nat} {A:Option Addr} {xs:List Value} (h:w.ownsRow base e size (.slice A n c) m xs): ∀ad,A=some ad→base≤ad.block:=fun ad e=>by
 subst e
 exact(h.lt ad.block (by simp [Value.ownBlock])).1
theorem bytesP_mk {w w':World} {out:List Int} {A:Option Addr} {n c:Nat} (h:Rd w' A n (out.map (Value.int .u8))) (hf: ∀ad,A=some ad→w.heap.size≤ad.block) (hk:Keep (fun _=>False) w w'):BytesP w out (.returned (.slice A n c)) w':=⟨A,n,c,rfl,h,hf,hk⟩
theorem rflush_more (w:World) (base W:Nat) (A:Option Addr) (n c:Nat) (b:List Int) (u f t:Int) (h:RW0 w base W A n c b u f t) (hn:n≤1073741824) (hf:f<t) (hu:0≤u∧u≤255):
 Calls Tryz.prog 93 #[.pointer (some ⟨W,0,none⟩)] w (BytesP w (flushM (b++[u]))):=by
 obtain⟨i0,hi0,hz0,hz1,hz2⟩:=info_parts info_u8
 have h0:(w.alloc (.cells #[] 5)).cell? ⟨W,0,none⟩=some (.slice A n c):=(h.blk.alloc _).cell 0
 have h1:w.cell? ⟨W,1,none⟩=some (.int .i64 u):=h.blk.cell 1
 have h2:w.cell? ⟨W,2,none⟩=some (.int .i64 f):=h.blk.cell 2
 have h3:w.cell? ⟨W,3,none⟩=some (.int .i64 t):=h.blk.cell 3
 have HR:=hid (Rd.of_own h.own)
 have hlb:=h.len
 have hum:u%256=u:=by omega
 clear h
 have wn:IntKind.i64.wrap (((n+1:Nat):Int)-1)=(n:Int):=by rw [IntWalk.i64_in _ (by omega)];omega
 by_cases hz:u=255
 · subst hz
   have HM:=hid (show flushM (b++[255])=b by unfold flushM;rw [lastM_snoc,if_pos rfl,List.dropLast_concat])
   go_enter Tryz.func93,Tryz.ntmps93
   go_wp2_with (
    at_builtin
    first
    |refine wpList_append_src _ rfl (.tmp 4) (.tmp 8) _ rfl w.heap.size 5 i0 _ 1 Tryz.underlying25 hi0 hz0 hz1 hz2 rfl (World.ownsRow_made w #[] 0 (Nat.le_refl _) (by simp [maxLen]) rfl) rfl (HR.out.alloc _) rfl (oneCell_ints _ _) (by simp only [maxLen];omega) (by omega) (by simp) ?_
     intro v1 w1 hown1 hg1 _hat1 _hold1
     rw [Nat.zero_add,List.nil_append]at hown1
     obtain⟨A1,c1,rfl⟩:=own_form hown1
     have hk1:Keep (fun _=>False) w w1:=((Keep.refl _ w).alloc _).grown hg1 (fun k hk=>.inr (by simp [Value.ownBlock]at hk;omega))
     have H1:=hid hown1
     have HK1:=hid hk1
     have g3:=hk1.cell h3 (fun h=>h)
     have g2:=hk1.cell h2 (fun h=>h)
     have g1:=hk1.cell h1 (fun h=>h)
     have hs1:=hk1.size
     clear hown1 hg1 _hat1 _hold1 hk1
    )
   go_quiet (fail)
   rename_i nq
   have H9:=hid (show(w1.drewN nq).ownsRow w.heap.size 5 1 (.slice A1 n c1) n (b.map (Value.int .u8))from H1.out)
   have HK9:=hid (HK1.out.drewN nq)
   have g9:(w1.drewN nq).cell? ⟨W,1,none⟩=some (.int .i64 255):=g1
   have hs9:w.heap.size≤(w1.drewN nq).heap.size:=hs1
   generalize w1.drewN nq=w9 at*
   clear H1 HK1 g1 g2 g3 hs1
   go_wp2_with (
    at_builtin
    first
    |refine wpList_append_one w9 rfl (.tmp 19) (.tmp 25) _ rfl w.heap.size 5 i0 _ 1 Tryz.underlying25 hi0 hz0 hz1 hz2 rfl H9.out rfl _ rfl rfl (by simp only [maxLen];omega) (by omega) (by omega) ?_
     intro v2 w2 hown2 hg2 _hat2 _hold2
     obtain⟨A2,c2,rfl⟩:=own_form hown2
     obtain⟨g,rfl,hgc,hgb,hgl,hgf⟩:=own_at hown2 (by omega)
     have gu:w2.cell? ⟨g,n,none⟩=some (.int .u8 255):=hgl n _ (by rw [← hlb];simp)
     have hk2:Keep (fun _=>False) w w2:=(HK9.out.alloc _).grown hg2 (fun k hk=>.inr (H9.out.lt k hk).1)
     have H2:=hid (show w2.ownsRow w.heap.size 5 1 (.slice (some ⟨g,0,none⟩) (n+1) c2) (n+1) ((b++[255]).map (Value.int .u8)) by simpa using hown2)
     have HK2:=hid hk2
     have hs2:=hk2.size
     clear hown2 hg2 _hat2 _hold2 hk2 hgl hgf
    )
   go_ret
   rw [HM.out]
   have hr:=(Rd.of_own H2.out).take (k:=n) (by omega)
   rw [← List.map_take,List.take_left' (by omega)]at hr
   exact bytesP_mk hr (own_fresh H2.out) HK2.out
 · have HM:=hid (show flushM (b++[u])=b++[u] by unfold flushM;rw [lastM_snoc,if_neg hz])
   have hz':(u==255)=false:=by simpa using hz
   go_enter Tryz.func93,Tryz.ntmps93
   go_wp2_with (
    at_builtin
    first
    |refine wpList_append_src _ rfl (.tmp 4) (.tmp 8) _ rfl w.heap.size 5 i0 _ 1 Tryz.underlying25 hi0 hz0 hz1 hz2 rfl (World.ownsRow_made w #[] 0 (Nat.le_refl _) (by simp [maxLen]) rfl) rfl (HR.out.alloc _) rfl (oneCell_ints _ _) (by simp only [maxLen];omega) (by omega) (by simp) ?_
     intro v1 w1 hown1 hg1 _hat1 _hold1
     rw [Nat.zero_add,List.nil_append]at hown1
     obtain⟨A1,c1,rfl⟩:=own_form hown1
     have hk1:Keep (fun _=>False) w w1:=((Keep.refl _ w).alloc _).grown hg1 (fun k hk=>.inr (by simp [Value.ownBlock]at hk;omega))
     have H1:=hid hown1
     have HK1:=hid hk1
     have g3:=hk1.cell h3 (fun h=>h)
     have g2:=hk1.cell h2 (fun h=>h)
     have g1:=hk1.cell h1 (fun h=>h)
     have hs1:=hk1.size
     clear hown1 hg1 _hat1 _hold1 hk1
    )
   go_quiet (fail)
   rename_i nq
   have H9:=hid (show(w1.drewN nq).ownsRow w.heap.size 5 1 (.slice A1 n c1) n (b.map (Value.int .u8))from H1.out)
   have HK9:=hid (HK1.out.drewN nq)
   have g9:(w1.drewN nq).cell? ⟨W,1,none⟩=some (.int .i64 u):=g1
   have hs9:w.heap.size≤(w1.drewN nq).heap.size:=hs1
   generalize w1.drewN nq=w9 at*
   clear H1 HK1 g1 g2 g3 hs1
   go_wp2_with (
    at_builtin
    first
    |refine wpList_append_one w9 rfl (.tmp 19) (.tmp 25) _ rfl w.heap.size 5 i0 _ 1 Tryz.underlying25 hi0 hz0 hz1 hz2 rfl H9.out rfl _ rfl rfl (by simp only [maxLen];omega) (by omega) (by omega) ?_
     intro v2 w2 hown2 hg2 _hat2 _hold2
     obtain⟨A2,c2,rfl⟩:=own_form hown2
     obtain⟨g,rfl,hgc,hgb,hgl,hgf⟩:=own_at hown2 (by omega)
     have gu:w2.cell? ⟨g,n,none⟩=some (.int .u8 u):=hgl n _ (by rw [← hlb];simp)
     have hk2:Keep (fun _=>False) w w2:=(HK9.out.alloc _).grown hg2 (fun k hk=>.inr (H9.out.lt k hk).1)
     have H2:=hid (show w2.ownsRow w.heap.size 5 1 (.slice (some ⟨g,0,none⟩) (n+1) c2) (n+1) ((b++[u]).map (Value.int .u8)) by simpa using hown2)
     have HK2:=hid hk2
     have hs2:=hk2.size
     clear hown2 hg2 _hat2 _hold2 hk2 hgl hgf
    )
   go_ret
   rw [HM.out]
   exact bytesP_mk (Rd.of_own H2.out) (own_fresh H2.out) HK2.out
theorem rflush_whole (w:World) (base W:Nat) (A:Option Addr) (n c:Nat) (b:List Int) (u t:Int) (h:RW0 w base W A n c b u t t) (hn:n≤1073741824):
 Calls Tryz.prog 93 #[.pointer (some ⟨W,0,none⟩)] w (BytesP w (flushM b)):=by
 obtain⟨i0,hi0,hz0,hz1,hz2⟩:=info_parts info_u8
 have h0:(w.alloc (.cells #[] 5)).cell? ⟨W,0,none⟩=some (.slice A n c):=(h.blk.alloc _).cell 0
 have h1:w.cell? ⟨W,1,none⟩=some (.int .i64 u):=h.blk.cell 1
 have h2:w.cell? ⟨W,2,none⟩=some (.int .i64 t):=h.blk.cell 2
 have h3:w.cell? ⟨W,3,none⟩=some (.int .i64 t):=h.blk.cell 3
 have HR:=hid (Rd.of_own h.own)
 have hlb:=h.len
 clear h
 by_cases hn0:n<1
 · have HM:=hid (show flushM b=b by unfold flushM;rw [List.eq_nil_of_length_eq_zero (l:=b) (by omega)];decide)
   go_enter Tryz.func93,Tryz.ntmps93
   go_wp2_with (
    at_builtin
    first
    |refine wpList_append_src _ rfl (.tmp 4) (.tmp 8) _ rfl w.heap.size 5 i0 _ 1 Tryz.underlying25 hi0 hz0 hz1 hz2 rfl (World.ownsRow_made w #[] 0 (Nat.le_refl _) (by simp [maxLen]) rfl) rfl (HR.out.alloc _) rfl (oneCell_ints _ _) (by simp only [maxLen];omega) (by omega) (by simp) ?_
     intro v1 w1 hown1 hg1 _hat1 _hold1
     rw [Nat.zero_add,List.nil_append]at hown1
     obtain⟨A1,c1,rfl⟩:=own_form hown1
     have hk1:Keep (fun _=>False) w w1:=((Keep.refl _ w).alloc _).grown hg1 (fun k hk=>.inr (by simp [Value.ownBlock]at hk;omega))
     have H1:=hid hown1
     have HK1:=hid hk1
     have g3:=hk1.cell h3 (fun h=>h)
     have g2:=hk1.cell h2 (fun h=>h)
     have g1:=hk1.cell h1 (fun h=>h)
     have hs1:=hk1.size
     clear hown1 hg1 _hat1 _hold1 hk1
    )
   go_quiet (fail)
   go_wp2_with fail
   go_ret
   rw [HM.out]
   exact bytesP_mk (Rd.of_own H1.out) (own_fresh H1.out) (HK1.out.drewN _)
 · obtain⟨m,rfl⟩: ∃m,n=m+1:=⟨n-1,by omega⟩
   have wn:IntKind.i64.wrap (((m+1:Nat):Int)-1)=(m:Int):=by rw [IntWalk.i64_in _ (by omega)];omega
   have HLM:=hid (fun (w:World) (g:Nat) (hgl: ∀j u,(b.map (Value.int .u8))[j]? =some u→w.cell? ⟨g,j,none⟩=some u)=>(show w.cell? ⟨g,m,none⟩=some (.int .u8 (lastM b)) by
    have:=hgl m _ (map_at _ _ m (by omega))
    unfold lastM
    rw [hlb]
    exact this))
   by_cases hz:lastM b=255
   · have HM:=hid (show flushM b=b.dropLast from if_pos hz)
     have HZ:=hid hz
     clear hz
     go_enter Tryz.func93,Tryz.ntmps93
     go_wp2_with (
      at_builtin
      first
      |refine wpList_append_src _ rfl (.tmp 4) (.tmp 8) _ rfl w.heap.size 5 i0 _ 1 Tryz.underlying25 hi0 hz0 hz1 hz2 rfl (World.ownsRow_made w #[] 0 (Nat.le_refl _) (by simp [maxLen]) rfl) rfl (HR.out.alloc _) rfl (oneCell_ints _ _) (by simp only [maxLen];omega) (by omega) (by simp) ?_
       intro v1 w1 hown1 hg1 _hat1 _hold1
       rw [Nat.zero_add,List.nil_append]at hown1
       obtain⟨A1,c1,rfl⟩:=own_form hown1
       have hk1:Keep (fun _=>False) w w1:=((Keep.refl _ w).alloc _).grown hg1 (fun k hk=>.inr (by simp [Value.ownBlock]at hk;omega))
       have H1:=hid hown1
       have HK1:=hid hk1
       have g3:=hk1.cell h3 (fun h=>h)
       have g2:=hk1.cell h2 (fun h=>h)
       have g1:=hk1.cell h1 (fun h=>h)
       have hs1:=hk1.size
       clear hown1 hg1 _hat1 _hold1 hk1
      )
     go_quiet (fail)
     rename_i nq
     obtain⟨g,rfl,hgc,hgb,hgl,hgf⟩:=own_at H1.out (by omega)
     have gu:(w1.drewN nq).cell? ⟨g,m,none⟩=some (.int .u8 255):=by
      have:=HLM.out w1 g hgl
      rw [HZ.out]at this
      exact this
     clear hgl hgf
     go_wp2_with fail
     go_ret
     rw [HM.out]
     have hr:=(Rd.of_own H1.out).take (k:=m) (by omega)
     rw [← List.map_take]at hr
     have e:b.take m=b.dropLast:=by rw [List.dropLast_eq_take,hlb];rfl
     rw [e]at hr
     exact bytesP_mk hr (own_fresh H1.out) (HK1.out.drewN _)
   · have HM:=hid (show flushM b=b from if_neg hz)
     have hz':(lastM b==255)=false:=by simpa using hz
     clear hz
     go_enter Tryz.func93,Tryz.ntmps93
     go_wp2_with (
      at_builtin
      first
      |refine wpList_append_src _ rfl (.tmp 4) (.tmp 8) _ rfl w.heap.size 5 i0 _ 1 Tryz.underlying25 hi0 hz0 hz1 hz2 rfl (World.ownsRow_made w #[] 0 (Nat.le_refl _) (by simp [maxLen]) rfl) rfl (HR.out.alloc _) rfl (oneCell_ints _ _) (by simp only [maxLen];omega) (by omega) (by simp) ?_
       intro v1 w1 hown1 hg1 _hat1 _hold1
       rw [Nat.zero_add,List.nil_append]at hown1
       obtain⟨A1,c1,rfl⟩:=own_form hown1
       have hk1:Keep (fun _=>False) w w1:=((Keep.refl _ w).alloc _).grown hg1 (fun k hk=>.inr (by simp [Value.ownBlock]at hk;omega))
       have H1:=hid hown1
       have HK1:=hid hk1
       have g3:=hk1.cell h3 (fun h=>h)
       have g2:=hk1.cell h2 (fun h=>h)
       have g1:=hk1.cell h1 (fun h=>h)
       have hs1:=hk1.size
       clear hown1 hg1 _hat1 _hold1 hk1
      )
     go_quiet (fail)
     rename_i nq
     obtain⟨g,rfl,hgc,hgb,hgl,hgf⟩:=own_at H1.out (by omega)
     have gu:(w1.drewN nq).cell? ⟨g,m,none⟩=some (.int .u8 (lastM b)):=HLM.out w1 g hgl
     clear hgl hgf
     generalize lastM b=z at*
     go_wp2_with fail
     go_ret
     rw [HM.out]
     exact bytesP_mk (Rd.of_own H1.out) (own_fresh H1.out) (HK1.out.drewN _)
theorem rflush_any (w:World) (base W:Nat) (A:Option Addr) (n c:Nat) (l:List Int) (r:Int) (h:RWr w base W A n c l r) (hi:BInv l r) (hn:n≤1073741824):
 Calls Tryz.prog 93 #[.pointer (some ⟨W,0,none⟩)] w (BytesP w (flushM l)):=by
 unfold RWr at h
 by_cases hr:r=0
 · have e1:refB l r=l:=if_pos hr
   have e3:freeM l r=topM l:=if_pos hr
   rw [e1,e3]at h
   exact rflush_whole w base W A n c l _ _ h hn
 · have hr0:=hi.r0
   have e1:refB l r=l.dropLast:=if_neg hr
   have e2:curM l r=lastM l:=if_neg hr
   have e3:freeM l r=r:=if_neg hr
   rw [e1,e2,e3]at h
   have:=rflush_more w base W A n c _ _ _ _ h hn (hi.top (by omega)) (lastM_byte hi.bytes)
   rwa [snoc_last l (hi.some_ (by omega))]at this
theorem newrw_any (w:World):
 Calls Tryz.prog 87 #[] w fun e w'=>e=.returned (.pointer (some ⟨w.heap.size,0,none⟩))∧RWr w' w.heap.size w.heap.size none 0 0 [] 0∧Keep (fun _=>False) w w':=by
 go_enter Tryz.func87,Tryz.ntmps87
 go_wp2_with fail
 go_ret
 refine⟨rfl,⟨?_,?_⟩,(Keep.refl _ w).alloc _⟩
 · exact Blk.new _ _ _
 · exact World.ownsRow_nil _ _ _ _
theorem foot_grew {w:World} {W:Nat} {A A1:Option Addr} (g:Grew w A A1) (k:Nat) (h:foot W A1 k):foot W A k∨w.heap.size≤k:=by
 rcases h with h|⟨ad,e,h⟩
 · exact .inl (.inl h)
 · rcases g ad e with⟨a0,e0,h'⟩|h'
   · exact .inl (.inr ⟨a0,e0,by omega⟩)
   · exact .inr (by omega)
theorem RW0.foot_lt {w:World} {base W:Nat} {A:Option Addr} {n c:Nat} {b:List Int} {u f t:Int} (h:RW0 w base W A n c b u f t) (k:Nat) (hk:foot W A k):k<w.heap.size:=by
 rcases hk with rfl|⟨ad,e,rfl⟩
 · exact h.blk.lt
 · exact(own_foot_lt h.own ad e).2
end Go.Proofs.YthfogcgdijmaoaaGreat.Rw
