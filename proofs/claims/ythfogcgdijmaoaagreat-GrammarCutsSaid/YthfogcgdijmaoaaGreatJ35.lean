/-
  Part 35 of the proof: SBits. Conditions: those of the statements.
-/
import Derived.Test.YthfogcgdijmaoaaGreatJ4
import Derived.Test.YthfogcgdijmaoaaGreatJ8
import Derived.Deep.QuietTactic
import Derived.BigQuiet
set_option maxRecDepth 100000
set_option maxHeartbeats 16000000
set_option linter.unusedVariables false
set_option linter.unusedSimpArgs false
namespace Go.Proofs.YthfogcgdijmaoaaGreat.Bw
open Go.RowKit
def orB (z x:Int) (t:Nat):Int:=bits .or .u8 z (bits .and .i64 x 1%256*2^t%256)
def refB (l:List Int) (r:Int):List Int:=if r=0 then l else l.dropLast
def curM (l:List Int) (r:Int):Int:=if r=0 then 0 else lastM l
def freeM (l:List Int) (r:Int):Int:=if r=0 then topM l else r
structure RW0 (w:World) (base W:Nat) (A:Option Addr) (n c:Nat) (b:List Int) (u f:Int):Prop where
 blk:Blk w W 174 #[.slice A n c,.int .i64 u,.int .i64 f]
 own:w.ownsRow base 5 1 (.slice A n c) n (b.map (Value.int .u8))
section
variable {w w':World} {base W:Nat} {A:Option Addr} {n c:Nat} {b:List Int} {u f:Int}
theorem RW0.len (h:RW0 w base W A n c b u f):b.length=n:=by have:=h.own.1;simpa using this
theorem RW0.keep (h:RW0 w base W A n c b u f) {S:Nat→Prop} (hk:Keep S w w') (hW: ¬S W) (hA: ∀ad,A=some ad→ ¬S ad.block):RW0 w' base W A n c b u f:=
 ⟨h.blk.keep hk hW,own_keep h.own hk (fun k e hs=>by
  obtain⟨ad,rfl,rfl⟩:=own_foot e
  exact hA ad rfl hs)⟩
theorem RW0.set (h:RW0 w base W A n c b u f) {u' f':Int} {w':World} (hk:Keep (fun k=>k=W) w w') (hb:Blk w' W 174 #[.slice A n c,.int .i64 u',.int .i64 f']):RW0 w' base W A n c b u' f':=
 ⟨hb,own_keep h.own hk (fun k e hs=>own_ne h.own h.blk (by decide) (by rw [e,hs]))⟩
end
def orI (u x:Int) (t:Nat):Int:=bits .or .i64 u (wrap64 (bits .and .i64 x 1*2^t))
theorem rbit_more (w:World) (base W:Nat) (A:Option Addr) (n c:Nat) (b:List Int) (u f x:Int) (h:RW0 w base W A n c b u f) (hf:2≤f) (hf8:f≤8):
 Calls Tryz.prog 68 #[.pointer (some ⟨W,0,none⟩),.int .i64 x] w fun e w'=>e=.returned (.tuple #[])∧RW0 w' base W A n c b (orI u x (f.toNat-1)) (f-1)∧Keep (fun k=>k=W) w w':=by
 have h1:w.cell? ⟨W,1,none⟩=some (.int .i64 u):=h.blk.cell 1
 have h2:w.cell? ⟨W,2,none⟩=some (.int .i64 f):=h.blk.cell 2
 have f1:=h.blk.frozen 1
 have f2:=h.blk.frozen 2
 have hf0:(f-1==0)=false:=by simp;omega
 have H:=hid h
 clear h
 go_enter Tryz.func68,Tryz.ntmps68
 go_wp2_with fail
 go_region
 go_wp2_with fail
 go_end0
 have hk:Keep (fun k=>k=W) w ((w.setCell ⟨W,2,none⟩ (.int .i64 (f-1))).setCell ⟨W,1,none⟩ (.int .i64 (orI u x (f.toNat-1)))).drew:=(((Keep.refl _ w).setR 2 _).setR 1 _).drew
 refine⟨rfl,?_,hk⟩
 exact H.out.set hk ((H.out.blk.set_ 2 (.int .i64 (f-1))).set_ 1 (.int .i64 (orI u x (f.toNat-1)))).drew
def RWP (w:World) (base W:Nat) (A:Option Addr) (b:List Int) (u f:Int) (e:Ending) (w':World):Prop:=
 ∃A' n' c',e=.returned (.tuple #[])∧RW0 w' base W A' n' c' b u f∧Grew w A A'∧Keep (foot W A) w w'
theorem rbit_last (w:World) (base W:Nat) (A:Option Addr) (n c:Nat) (b:List Int) (u x q F:Int) (h:RW0 w base W A n c b u 1) (hb:base≤w.heap.size) (hn:n≤1073741824) (hq:orI u x 0=q) (hF:Hid (F=if q=255 then 7 else 8)):
 Calls Tryz.prog 68 #[.pointer (some ⟨W,0,none⟩),.int .i64 x] w (RWP w base W A (b++[IntKind.u8.wrap q]) 0 F):=by
 obtain⟨i0,hi0,hz0,hz1,hz2⟩:=info_parts info_u8
 have h0:w.cell? ⟨W,0,none⟩=some (.slice A n c):=h.blk.cell 0
 have h1:w.cell? ⟨W,1,none⟩=some (.int .i64 u):=h.blk.cell 1
 have h2:w.cell? ⟨W,2,none⟩=some (.int .i64 1):=h.blk.cell 2
 have f0:=h.blk.frozen 0
 have f1:=h.blk.frozen 1
 have f2:=h.blk.frozen 2
 have H:=hid h
 have hq':bits BinOp.or IntKind.i64 u (wrap64 (bits BinOp.and IntKind.i64 x 1))=q:=by
  rw [← hq]
  unfold orI
  simp
 clear h hq
 go_enter Tryz.func68,Tryz.ntmps68
 go_wp2_with fail
 go_region
 generalize wrap64 (bits BinOp.and IntKind.i64 x 1)=x1 at*
 generalize bits BinOp.and IntKind.i64 x 1=x2 at*
 clear hq'
 by_cases he:q=255
 · subst he
   go_wp2_with fail
   generalize hw:World.drew _=w5
   have hk5:Keep (fun k=>k=W) w w5:=by
    rw [← hw]
    exact(((((Keep.refl _ w).setR 2 _).setR 1 _).setR 2 _).setR 2 _).drew
   have H5:=hid (show RW0 w5 base W A n c b 255 7 from H.out.set hk5 (by
    rw [← hw]
    exact((((H.out.blk.set_ 2 (.int .i64 0)).set_ 1 (.int .i64 255)).set_ 2 (.int .i64 8)).set_ 2 (.int .i64 7)).drew))
   clear hw
   have HE:=hid (show F=7 by rw [hF.out];rfl)
   have c0:w5.cell? ⟨W,0,none⟩=some (.slice A n c):=H5.out.blk.cell 0
   have c1:w5.cell? ⟨W,1,none⟩=some (.int .i64 255):=H5.out.blk.cell 1
   have d0:=H5.out.blk.frozen 0
   have hne:=own_ne H5.out.own H5.out.blk (by decide)
   have HN:=hid hne
   have hw5:=H5.out.blk.lt
   clear hne
   refine At.start (L:=#[false,false,false,false,false,false,false,false,false,false,false,false,false,false,false]) (by kernel_rfl) rfl ?_
   refine AtP 0 (some 43) ?_
   try simp only [NS]
   refine AtP 1 (some 44) ?_
   try simp only [NS]
   refine AtP 2 (some 45) ?_
   try simp only [NS]
   refine AtP 3 (some 46) ?_
   try simp only [NS]
   refine At.read 4 (some 47) (fun w'=>w'.cell? ⟨W,0,none⟩=some (.slice A n c)) (v:=?v4a) rfl rfl (by kernel_rfl) (fun _ _ _ h=>h) rfl c0 (fun w' hw'=>?y4a) ?_
   case y4a=>skip;go_simp;try with_reducible rfl
   try simp only [NS]
   refine AtP 5 (some 48) ?_
   try simp only [NS]
   refine AtP 6 (some 49) ?_
   try simp only [NS]
   refine AtP 7 (some 50) ?_
   try simp only [NS]
   refine At.read 8 (some 51) (fun w'=>w'.cell? ⟨W,1,none⟩=some (.int .i64 255)) (v:=(.int .i64 255)) rfl rfl (by kernel_rfl) (fun _ _ _ h=>h) rfl c1 (fun w' hw'=>?y8a) ?_
   case y8a=>skip;go_simp;try with_reducible rfl
   try simp only [NS]
   refine AtP 9 (some 52) ?_
   try simp only [NS]
   refine At.call 10 (pend':=[(4,(fun w'=>w'.cell? ⟨W,0,none⟩=some (.slice A n c)))]) rfl (by kernel_rfl) rfl (by kernel_rfl) (fun K hK=>?_)
   go_simp
   skip
   refine hK _ _ (all_cons (((Keep.refl (fun _=>False) _).alloc _).cell c0 (fun h=>h)) all_nil) ?_
   clear hK K
   try simp only [NS]
   refine AtC 11 fun K hK=>?_
   refine wp_append_one w5.drew (.tmp 47) (.tmp 53) _ rfl base 5 i0 _ 1 Tryz.underlying25 hi0 hz0 hz1 hz2 rfl H5.out.own.drew rfl _ rfl rfl (by simp only [maxLen];omega) (by omega) (Nat.le_trans hb hk5.size) ?_
   intro v2 w2 hown2 hg2 hat2 _hold2
   obtain⟨A2,c2,rfl⟩:=own_form hown2
   have b2:=(H5.out.blk.drew.alloc (.cells #[.int .u8 (IntKind.u8.wrap 255)] 5)).grown hg2 (Ne.symm HN.out)
   have e2:w2.cell? ⟨W,0,none⟩=some (.slice A n c):=b2.cell 0
   have e3:=b2.frozen 0
   have e4:w2.cell? ⟨W,1,none⟩=some (.int .i64 255):=b2.cell 1
   have e5:=b2.frozen 1
   have B2:=hid b2
   have hk2:Keep (fun k=>(Value.slice A n c).ownBlock=some k) w5 w2:=(((Keep.refl _ w5).drew).alloc _).grown hg2 (fun k hk=>.inl hk)
   clear b2
   refine hK _ _ all_nil ?_
   clear hK K
   try simp only [NS]
   refine AtP 12 (some 55) ?_
   try simp only [NS]
   refine AtP 13 (some 56) ?_
   try simp only [NS]
   refine AtC 14 fun K hK=>?_
   go_simp
   skip
   refine hK _ _ all_nil ?_
   clear hK K
   try simp only [NS]
   refine At.done (by kernel_rfl) ?_
   go_wp2_with fail
   go_end0
   have hne2:=own_ne hown2 B2.out (by decide)
   have hkW:Keep (fun k=>k=W) w2 ((w2.setCell ⟨W,0,none⟩ (.slice A2 (n+1) c2)).setCell ⟨W,1,none⟩ (.int .i64 0)):=((Keep.refl _ w2).setR 0 _).setR 1 _
   refine⟨A2,n+1,c2,rfl,⟨?_,?_⟩,?_,?_⟩
   · rw [HE.out]
     exact(B2.out.set_ 0 _).set_ 1 _
   · have:=own_keep hown2 hkW (fun k e hk=>hne2 (by rw [e,hk]))
     simpa using this
   · exact Grew.of hat2 (by have:=hk5.size;show _≤w5.heap.size+1;omega)
   · refine(hk5.mono (fun k _ h=>.inl h)).trans ((hk2.mono (fun k _ h=>.inr (own_foot h))).trans hkW (fun k _ h=>.inl h)) (fun k _ h=>h)
 · have he':(q==255)=false:=by simpa using he
   go_wp2_with fail
   generalize hw:World.drew _=w5
   have hk5:Keep (fun k=>k=W) w w5:=by
    rw [← hw]
    exact((((Keep.refl _ w).setR 2 _).setR 1 _).setR 2 _).drew
   have H5:=hid (show RW0 w5 base W A n c b q 8 from H.out.set hk5 (by
    rw [← hw]
    exact(((H.out.blk.set_ 2 (.int .i64 0)).set_ 1 (.int .i64 q)).set_ 2 (.int .i64 8)).drew))
   clear hw
   have HE:=hid (show F=8 by rw [hF.out];exact if_neg he)
   have c0:w5.cell? ⟨W,0,none⟩=some (.slice A n c):=H5.out.blk.cell 0
   have c1:w5.cell? ⟨W,1,none⟩=some (.int .i64 q):=H5.out.blk.cell 1
   have d0:=H5.out.blk.frozen 0
   have hne:=own_ne H5.out.own H5.out.blk (by decide)
   have HN:=hid hne
   have hw5:=H5.out.blk.lt
   clear hne
   refine At.start (L:=#[false,false,false,false,false,false,false,false,false,false,false,false,false,false,false]) (by kernel_rfl) rfl ?_
   refine AtP 0 (some 43) ?_
   try simp only [NS]
   refine AtP 1 (some 44) ?_
   try simp only [NS]
   refine AtP 2 (some 45) ?_
   try simp only [NS]
   refine AtP 3 (some 46) ?_
   try simp only [NS]
   refine At.read 4 (some 47) (fun w'=>w'.cell? ⟨W,0,none⟩=some (.slice A n c)) (v:=?v4b) rfl rfl (by kernel_rfl) (fun _ _ _ h=>h) rfl c0 (fun w' hw'=>?y4b) ?_
   case y4b=>skip;go_simp;try with_reducible rfl
   try simp only [NS]
   refine AtP 5 (some 48) ?_
   try simp only [NS]
   refine AtP 6 (some 49) ?_
   try simp only [NS]
   refine AtP 7 (some 50) ?_
   try simp only [NS]
   refine At.read 8 (some 51) (fun w'=>w'.cell? ⟨W,1,none⟩=some (.int .i64 q)) (v:=(.int .i64 q)) rfl rfl (by kernel_rfl) (fun _ _ _ h=>h) rfl c1 (fun w' hw'=>?y8b) ?_
   case y8b=>skip;go_simp;try with_reducible rfl
   try simp only [NS]
   refine AtP 9 (some 52) ?_
   try simp only [NS]
   refine At.call 10 (pend':=[(4,(fun w'=>w'.cell? ⟨W,0,none⟩=some (.slice A n c)))]) rfl (by kernel_rfl) rfl (by kernel_rfl) (fun K hK=>?_)
   go_simp
   skip
   refine hK _ _ (all_cons (((Keep.refl (fun _=>False) _).alloc _).cell c0 (fun h=>h)) all_nil) ?_
   clear hK K
   try simp only [NS]
   refine AtC 11 fun K hK=>?_
   refine wp_append_one w5.drew (.tmp 47) (.tmp 53) _ rfl base 5 i0 _ 1 Tryz.underlying25 hi0 hz0 hz1 hz2 rfl H5.out.own.drew rfl _ rfl rfl (by simp only [maxLen];omega) (by omega) (Nat.le_trans hb hk5.size) ?_
   intro v2 w2 hown2 hg2 hat2 _hold2
   obtain⟨A2,c2,rfl⟩:=own_form hown2
   have b2:=(H5.out.blk.drew.alloc (.cells #[.int .u8 (IntKind.u8.wrap q)] 5)).grown hg2 (Ne.symm HN.out)
   have e2:w2.cell? ⟨W,0,none⟩=some (.slice A n c):=b2.cell 0
   have e3:=b2.frozen 0
   have e4:w2.cell? ⟨W,1,none⟩=some (.int .i64 q):=b2.cell 1
   have e5:=b2.frozen 1
   have B2:=hid b2
   have hk2:Keep (fun k=>(Value.slice A n c).ownBlock=some k) w5 w2:=(((Keep.refl _ w5).drew).alloc _).grown hg2 (fun k hk=>.inl hk)
   clear b2
   refine hK _ _ all_nil ?_
   clear hK K
   try simp only [NS]
   refine AtP 12 (some 55) ?_
   try simp only [NS]
   refine AtP 13 (some 56) ?_
   try simp only [NS]
   refine AtC 14 fun K hK=>?_
   go_simp
   skip
   refine hK _ _ all_nil ?_
   clear hK K
   try simp only [NS]
   refine At.done (by kernel_rfl) ?_
   go_wp2_with fail
   go_end0
   have hne2:=own_ne hown2 B2.out (by decide)
   have hkW:Keep (fun k=>k=W) w2 ((w2.setCell ⟨W,0,none⟩ (.slice A2 (n+1) c2)).setCell ⟨W,1,none⟩ (.int .i64 0)):=((Keep.refl _ w2).setR 0 _).setR 1 _
   refine⟨A2,n+1,c2,rfl,⟨?_,?_⟩,?_,?_⟩
   · rw [HE.out]
     exact(B2.out.set_ 0 _).set_ 1 _
   · have:=own_keep hown2 hkW (fun k e hk=>hne2 (by rw [e,hk]))
     simpa using this
   · exact Grew.of hat2 (by have:=hk5.size;show _≤w5.heap.size+1;omega)
   · refine(hk5.mono (fun k _ h=>.inl h)).trans ((hk2.mono (fun k _ h=>.inr (own_foot h))).trans hkW (fun k _ h=>.inl h)) (fun k _ h=>h)
theorem rbit_any (w:World) (base W:Nat) (A:Option Addr) (n c:Nat) (l:List Int) (r x:Int) (h:RW0 w base W A n c (refB l r) (curM l r) (freeM l r)) (hi:BInv l r) (hb:base≤w.heap.size) (hn:n≤1073741824):
 Calls Tryz.prog 68 #[.pointer (some ⟨W,0,none⟩),.int .i64 x] w (RWP w base W A (refB (stepL l r x) (stepR l r)) (curM (stepL l r x) (stepR l r)) (freeM (stepL l r x) (stepR l r))):=by
 have ht:=top_le l
 have hbb:=lastM_byte hi.bytes
 by_cases hr:r=0
 · subst hr
   have e1:refB l 0=l:=if_pos rfl
   have e2:curM l 0=0:=if_pos rfl
   have e3:freeM l 0=topM l:=if_pos rfl
   rw [e1,e2,e3]at h
   refine(rbit_more w base W A n c l 0 (topM l) x h (by omega) (by omega)).mono ?_
   rintro e w' ⟨rfl,h',hk⟩
   refine⟨A,n,c,rfl,?_,Grew.refl w A,hk.mono (fun k _ h=>.inl h)⟩
   unfold orI at h'
   rw [orI_add 0 x _ (by omega) (by omega) (by omega) (by simp),Int.zero_add]at h'
   unfold stepL stepR refB curM freeM
   rw [if_pos rfl,if_pos rfl,if_neg (by omega),if_neg (by omega),if_neg (by omega),List.dropLast_concat,lastM_snoc]
   exact h'
 · have hr0:=hi.r0
   have h7:=hi.r7
   have hl:=hi.some_ (by omega)
   have hlow:=hi.low
   have e0:r.toNat=r.toNat-1+1:=by omega
   rw [e0]at hlow
   have e1:refB l r=l.dropLast:=if_neg hr
   have e2:curM l r=lastM l:=if_neg hr
   have e3:freeM l r=r:=if_neg hr
   rw [e1,e2,e3]at h
   have es:stepL l r x=l.dropLast++[lastM l+x%2*2^(r.toNat-1)]:=by
    unfold stepL
    rw [if_neg hr,set_last l hl]
   have er:stepR l r=r-1:=by unfold stepR;rw [if_neg hr]
   rw [es,er]
   by_cases h1:r=1
   · subst h1
     have hq:orI (lastM l) x 0=lastM l+x%2*2^0:=orI_add _ x 0 hbb.1 hbb.2 (by omega) hlow
     have hf:=add_fits (lastM l) (x%2) 0 hbb.1 8 (by omega) (by omega) hlow (mod2 x)
     refine(rbit_last w base W A n c l.dropLast (lastM l) x _ (topM (l.dropLast++[lastM l+x%2*2^0])) h hb hn hq (hid (by unfold topM;rw [lastM_snoc]))).mono ?_
     rintro e w' h'
     rw [IntWalk.u8_in _ (by omega)]at h'
     unfold refB curM freeM
     rw [if_pos (by omega),if_pos (by omega),if_pos (by omega)]
     exact h'
   · refine(rbit_more w base W A n c l.dropLast (lastM l) r x h (by omega) (by omega)).mono ?_
     rintro e w' ⟨rfl,h',hk⟩
     refine⟨A,n,c,rfl,?_,Grew.refl w A,hk.mono (fun k _ h=>.inl h)⟩
     unfold orI at h'
     rw [orI_add _ x _ hbb.1 hbb.2 (by omega) hlow]at h'
     unfold refB curM freeM
     rw [if_neg (by omega),if_neg (by omega),if_neg (by omega),List.dropLast_concat,lastM_snoc]
     exact h'
def RWr (w:World) (base W:Nat) (A:Option Addr) (n c:Nat) (l:List Int) (r:Int):Prop:=RW0 w base W A n c (refB l r) (curM l r) (freeM l r)
theorem refB_le (l:List Int) (r:Int):l.length≤(refB l r).length+1∧(refB l r).length≤l.length:=by
 unfold refB
 split<;>simp<;>omega
theorem rbits_any (w:World) (base W:Nat) (A:Option Addr) (n c:Nat) (l:List Int) (r x size:Int) (h:RWr w base W A n c l r) (hi:BInv l r) (hb:base≤w.heap.size) (hn:l.length≤1073741000):
 Calls Tryz.prog 103 #[.pointer (some ⟨W,0,none⟩),.int .i64 x,.int .i64 size] w fun e w'=>e=.returned (.tuple #[])∧ ∃A',(∃ n' c',
  RWr w' base W A' n' c' (runM (l,r) (numB x size)).1 (runM (l,r) (numB x size)).2)∧Grew w A A'∧Keep (foot W A) w w':=by
 by_cases hs:1≤size∧size≤32
 · obtain⟨s,rfl⟩:=Int.eq_ofNat_of_zero_le (show 0≤size by omega)
   have e0:numB x s=bitsOf x s:=by unfold numB;rw [if_pos hs];simp
   rw [e0]
   clear e0
   have H0:=hid h
   have HI:=hid hi
   clear h hi
   go_enter Tryz.func103,Tryz.ntmps103
   go_wp2_with fail
   go_loopw [6] (fun v wr=> ∃j:Nat,j≤32∧v=.int .i64 ((j:Int)-1)∧ ∃A1 n1 c1 l1 r1,Hid (RWr wr base W A1 n1 c1 l1 r1)∧Hid (BInv l1 r1)∧Hid (runM (l1,r1) (bitsOf x j)=runM (l,r) (bitsOf x s))∧Hid (l1.length+j≤l.length+s)∧Hid (Grew w A A1)∧Hid (Keep (foot W A) w wr)) (fun v _=>(intOf v+1).toNat)
   case atStart=>exact⟨s,by omega,rfl,A,n,c,l,r,H0,HI,hid rfl,hid (by omega),hid (Grew.refl w A),hid (Keep.refl _ _)⟩
   case round=>
    obtain⟨j,hj,rfl,A1,n1,c1,l1,r1,H1,HI1,HR,HL1,HG,HK⟩:=hrel
    have hbs:base≤wr.heap.size:=Nat.le_trans hb HK.out.size
    cases j with
    |zero=>
     go_wp2_with fail
     go_end0
     have:=HR.out
     simp only [bitsOf,runM,List.foldl_nil]at this
     exact⟨rfl,A1,⟨n1,c1,by rw [show runM (l,r) (bitsOf x s)=(l1,r1)from this.symm];exact H1.out⟩,HG.out,HK.out⟩
    |succ j=>
     go_wp2_with fail
     refine(rbit_any wr base W A1 n1 c1 l1 r1 (x/2^j) H1.out HI1.out hbs (by
      have:=HL1.out
      have:=refB_le l1 r1
      have:=RW0.len H1.out
      omega)).mono ?_
     rintro e w2 ⟨A2,n2,c2,rfl,H2,hg2,hk2⟩
     have hgk:=grew_next HG.out HK.out hg2 hk2
     have HH2:=hid H2
     have HGK:=hid hgk
     have HI2:=hid (HI1.out.step (x/2^j))
     clear H2 hgk hg2 hk2
     go_wp2_with fail
     go_roundw
     case rel=>
      refine⟨j,by omega,by go_num,A2,n2,c2,_,_,HH2,HI2,hid ?_,hid ?_,hid HGK.out.1,hid HGK.out.2⟩
      · have:=HR.out
        rw [← this]
        show _=runM (stepM (l1,r1) (x/2^j%2)) (bitsOf x j)
        unfold stepM
        rw [stepL_mod]
      · have hl2:=stepL_length l1 r1 (x/2^j)
        have:=HL1.out
        omega
     case measure=>simp [intOf]
 · have e0:numB x size=[]:=by unfold numB;rw [if_neg hs]
   rw [e0]
   have H0:=hid h
   clear e0
   by_cases h1:size<1
   · go_enter Tryz.func103,Tryz.ntmps103
     go_wp2_with fail
     (try simp only [Exit.inBlock,Exit.then]);refine bodyPost_ret (results_none rfl _ _ _) rfl ?_
     exact⟨rfl,A,⟨n,c,H0.out⟩,Grew.refl w A,Keep.refl _ _⟩
   · have h2:32<size:=by omega
     go_enter Tryz.func103,Tryz.ntmps103
     go_wp2_with fail
     (try simp only [Exit.inBlock,Exit.then]);refine bodyPost_ret (results_none rfl _ _ _) rfl ?_
     exact⟨rfl,A,⟨n,c,H0.out⟩,Grew.refl w A,Keep.refl _ _⟩
def BytesP (w:World) (out:List Int) (e:Ending) (w':World):Prop:=
 ∃A' n' c',e=.returned (.slice A' n' c')∧w'.ownsRow w.heap.size 5 1 (.slice A' n' c') n' (out.map (Value.int .u8))∧Keep (fun _=>False) w w'
theorem bytesP_mk {w w':World} {out:List Int} {A:Option Addr} {n c:Nat} (h:w'.ownsRow w.heap.size 5 1 (.slice A n c) n (out.map (Value.int .u8))) (hk:Keep (fun _=>False) w w'):BytesP w out (.returned (.slice A n c)) w':=⟨A,n,c,rfl,h,hk⟩
def rbytesM (b:List Int) (u f:Int):List Int:=outB (if f<topM b then b++[u%256]else b)
theorem lastM_at {w:World} {g n:Nat} {b:List Int} (hgl: ∀j u,(b.map (Value.int .u8))[j]?=some u→w.cell? ⟨g,j,none⟩=some u) (hl:b.length=n+1):w.cell? ⟨g,n,none⟩=some (.int .u8 (lastM b)):=by
 have:=hgl n _ (map_at _ _ n (by omega))
 unfold lastM
 rw [hl]
 exact this
theorem rbytes_nil (w:World) (base W:Nat) (A:Option Addr) (c:Nat) (b:List Int) (u f:Int) (n:Nat) (h:RW0 w base W A n c b u f) (hn0:n<1):
 Calls Tryz.prog 69 #[.pointer (some ⟨W,0,none⟩)] w (BytesP w (rbytesM b u f)):=by
 obtain⟨i0,hi0,hz0,hz1,hz2⟩:=info_parts info_u8
 have h0:(w.alloc (.cells #[] 5)).cell? ⟨W,0,none⟩=some (.slice A n c):=(h.blk.alloc _).cell 0
 have h1:w.cell? ⟨W,1,none⟩=some (.int .i64 u):=h.blk.cell 1
 have h2:w.cell? ⟨W,2,none⟩=some (.int .i64 f):=h.blk.cell 2
 have HR:=hid (Rd.of_own h.own)
 have hlb:=h.len
 clear h
 have ht:topM b=8:=by rw [List.eq_nil_of_length_eq_zero (l:=b) (by omega)];decide
 by_cases hf:f<8
 · by_cases hu:u%256=255
   · have HM:=hid (show rbytesM b u f=(b++[255])++[0] by unfold rbytesM outB;rw [ht,if_pos hf,lastM_snoc,if_pos hu,hu])
     go_enter Tryz.func69,Tryz.ntmps69
     go_wp2_with (
      at_builtin
      first
      |refine wpList_append_src _ rfl (.tmp 5) (.tmp 9) _ rfl w.heap.size 5 i0 _ 1 Tryz.underlying25 hi0 hz0 hz1 hz2 rfl (World.ownsRow_made w #[] 0 (Nat.le_refl _) (by simp [maxLen]) rfl) rfl (HR.out.alloc _) rfl (oneCell_ints _ _) (by simp only [maxLen];omega) (by omega) (by simp) ?_
       intro v1 w1 hown1 hg1 _hat1 _hold1
       rw [Nat.zero_add,List.nil_append]at hown1
       obtain⟨A1,c1,rfl⟩:=own_form hown1
       have hk1:Keep (fun _=>False) w w1:=((Keep.refl _ w).alloc _).grown hg1 (fun k hk=>.inr (by simp [Value.ownBlock]at hk;omega))
       have H1:=hid hown1
       have HK1:=hid hk1
       have g2:=hk1.cell h2 (fun h=>h)
       have g1:=hk1.cell h1 (fun h=>h)
       have hs1:=hk1.size
       clear hown1 hg1 _hat1 _hold1 hk1
      |refine wpList_append_one w1 rfl (.tmp 29) (.tmp 35) _ rfl w.heap.size 5 i0 _ 1 Tryz.underlying25 hi0 hz0 hz1 hz2 rfl H1.out rfl _ rfl rfl (by simp only [maxLen];omega) (by omega) (by omega) ?_
       intro v2 w2 hown2 hg2 _hat2 _hold2
       obtain⟨A2,c2,rfl⟩:=own_form hown2
       obtain⟨g,rfl,hgc,hgb,hgl,hgf⟩:=own_at hown2 (by omega)
       have gu:w2.cell? ⟨g,n,none⟩=some (.int .u8 255):=hgl n _ (by rw [← hlb];simp)
       have hk2:Keep (fun _=>False) w w2:=(HK1.out.alloc _).grown hg2 (fun k hk=>.inr (H1.out.lt k hk).1)
       have H2:=hid (show w2.ownsRow w.heap.size 5 1 (.slice (some ⟨g,0,none⟩) (n+1) c2) (n+1) ((b++[255]).map (Value.int .u8)) by simpa using hown2)
       have HK2:=hid hk2
       have hs2:=hk2.size
       clear hown2 hg2 _hat2 _hold2 hk2 hgl hgf
      |refine wpList_append_one w2 rfl (.tmp 49) (.tmp 50) _ rfl w.heap.size 5 i0 _ 1 Tryz.underlying25 hi0 hz0 hz1 hz2 rfl H2.out rfl _ rfl rfl (by simp only [maxLen];omega) (by omega) (by omega) ?_
       intro v3 w3 hown3 hg3 _hat3 _hold3
       obtain⟨A3,c3,rfl⟩:=own_form hown3
       have H3:=hid (show w3.ownsRow w.heap.size 5 1 (.slice A3 ((n+1)+1) c3) ((n+1)+1) (((b++[255])++[0]).map (Value.int .u8)) by simpa using hown3)
       have HK3:=hid (show Keep (fun _=>False) w w3 from(HK2.out.alloc _).grown hg3 (fun k hk=>.inr (H2.out.lt k hk).1))
       clear hown3 hg3 _hat3 _hold3
      )
     go_ret
     rw [HM.out]
     exact bytesP_mk H3.out HK3.out
   · have HM:=hid (show rbytesM b u f=b++[u%256] by unfold rbytesM outB;rw [ht,if_pos hf,lastM_snoc,if_neg hu])
     have hu':(u%256==255)=false:=by simpa using hu
     go_enter Tryz.func69,Tryz.ntmps69
     go_wp2_with (
      at_builtin
      first
      |refine wpList_append_src _ rfl (.tmp 5) (.tmp 9) _ rfl w.heap.size 5 i0 _ 1 Tryz.underlying25 hi0 hz0 hz1 hz2 rfl (World.ownsRow_made w #[] 0 (Nat.le_refl _) (by simp [maxLen]) rfl) rfl (HR.out.alloc _) rfl (oneCell_ints _ _) (by simp only [maxLen];omega) (by omega) (by simp) ?_
       intro v1 w1 hown1 hg1 _hat1 _hold1
       rw [Nat.zero_add,List.nil_append]at hown1
       obtain⟨A1,c1,rfl⟩:=own_form hown1
       have hk1:Keep (fun _=>False) w w1:=((Keep.refl _ w).alloc _).grown hg1 (fun k hk=>.inr (by simp [Value.ownBlock]at hk;omega))
       have H1:=hid hown1
       have HK1:=hid hk1
       have g2:=hk1.cell h2 (fun h=>h)
       have g1:=hk1.cell h1 (fun h=>h)
       have hs1:=hk1.size
       clear hown1 hg1 _hat1 _hold1 hk1
      |refine wpList_append_one w1 rfl (.tmp 29) (.tmp 35) _ rfl w.heap.size 5 i0 _ 1 Tryz.underlying25 hi0 hz0 hz1 hz2 rfl H1.out rfl _ rfl rfl (by simp only [maxLen];omega) (by omega) (by omega) ?_
       intro v2 w2 hown2 hg2 _hat2 _hold2
       obtain⟨A2,c2,rfl⟩:=own_form hown2
       obtain⟨g,rfl,hgc,hgb,hgl,hgf⟩:=own_at hown2 (by omega)
       have gu:w2.cell? ⟨g,n,none⟩=some (.int .u8 (u%256)):=hgl n _ (by rw [← hlb];simp)
       have hk2:Keep (fun _=>False) w w2:=(HK1.out.alloc _).grown hg2 (fun k hk=>.inr (H1.out.lt k hk).1)
       have H2:=hid (show w2.ownsRow w.heap.size 5 1 (.slice (some ⟨g,0,none⟩) (n+1) c2) (n+1) ((b++[(u%256)]).map (Value.int .u8)) by simpa using hown2)
       have HK2:=hid hk2
       have hs2:=hk2.size
       clear hown2 hg2 _hat2 _hold2 hk2 hgl hgf
      )
     go_ret
     rw [HM.out]
     exact bytesP_mk H2.out HK2.out
 · have HM:=hid (show rbytesM b u f=b by unfold rbytesM outB;rw [ht,if_neg hf,List.eq_nil_of_length_eq_zero (l:=b) (by omega)];decide)
   go_enter Tryz.func69,Tryz.ntmps69
   go_wp2_with (
    at_builtin
    first
    |refine wpList_append_src _ rfl (.tmp 5) (.tmp 9) _ rfl w.heap.size 5 i0 _ 1 Tryz.underlying25 hi0 hz0 hz1 hz2 rfl (World.ownsRow_made w #[] 0 (Nat.le_refl _) (by simp [maxLen]) rfl) rfl (HR.out.alloc _) rfl (oneCell_ints _ _) (by simp only [maxLen];omega) (by omega) (by simp) ?_
     intro v1 w1 hown1 hg1 _hat1 _hold1
     rw [Nat.zero_add,List.nil_append]at hown1
     obtain⟨A1,c1,rfl⟩:=own_form hown1
     have hk1:Keep (fun _=>False) w w1:=((Keep.refl _ w).alloc _).grown hg1 (fun k hk=>.inr (by simp [Value.ownBlock]at hk;omega))
     have H1:=hid hown1
     have HK1:=hid hk1
     have g2:=hk1.cell h2 (fun h=>h)
     have g1:=hk1.cell h1 (fun h=>h)
     have hs1:=hk1.size
     clear hown1 hg1 _hat1 _hold1 hk1
    )
   go_ret
   rw [HM.out]
   exact bytesP_mk H1.out HK1.out
theorem rbytes_full (w:World) (base W:Nat) (A:Option Addr) (c:Nat) (b:List Int) (u f:Int) (m:Nat) (h:RW0 w base W A (m+1) c b u f) (hn:m+1≤1073741824) (hz:lastM b=255):
 Calls Tryz.prog 69 #[.pointer (some ⟨W,0,none⟩)] w (BytesP w (rbytesM b u f)):=by
 obtain⟨i0,hi0,hz0,hz1,hz2⟩:=info_parts info_u8
 have h0:(w.alloc (.cells #[] 5)).cell? ⟨W,0,none⟩=some (.slice A (m+1) c):=(h.blk.alloc _).cell 0
 have h1:w.cell? ⟨W,1,none⟩=some (.int .i64 u):=h.blk.cell 1
 have h2:w.cell? ⟨W,2,none⟩=some (.int .i64 f):=h.blk.cell 2
 have HR:=hid (Rd.of_own h.own)
 have hlb:=h.len
 clear h
 have ht:topM b=7:=by unfold topM;simp [hz]
 have hz':(lastM b==255)=true:=by simpa using hz
 have wm:IntKind.i64.wrap (((m+1:Nat):Int)-1)=(m:Int):=by rw [IntWalk.i64_in _ (by omega)];omega
 by_cases hf:f<7
 · by_cases hu:u%256=255
   · have HM:=hid (show rbytesM b u f=(b++[255])++[0] by unfold rbytesM outB;rw [ht,if_pos hf,lastM_snoc,if_pos hu,hu])
     go_enter Tryz.func69,Tryz.ntmps69
     go_wp2_with (
      at_builtin
      first
      |refine wpList_append_src _ rfl (.tmp 5) (.tmp 9) _ rfl w.heap.size 5 i0 _ 1 Tryz.underlying25 hi0 hz0 hz1 hz2 rfl (World.ownsRow_made w #[] 0 (Nat.le_refl _) (by simp [maxLen]) rfl) rfl (HR.out.alloc _) rfl (oneCell_ints _ _) (by simp only [maxLen];omega) (by omega) (by simp) ?_
       intro v1 w1 hown1 hg1 _hat1 _hold1
       rw [Nat.zero_add,List.nil_append]at hown1
       obtain⟨A1,c1,rfl⟩:=own_form hown1
       have hk1:Keep (fun _=>False) w w1:=((Keep.refl _ w).alloc _).grown hg1 (fun k hk=>.inr (by simp [Value.ownBlock]at hk;omega))
       have H1:=hid hown1
       have HK1:=hid hk1
       have g2:=hk1.cell h2 (fun h=>h)
       have g1:=hk1.cell h1 (fun h=>h)
       have hs1:=hk1.size
       clear hown1 hg1 _hat1 _hold1 hk1
       obtain⟨gg,rfl,hgc1,hgb1,hgl1,_⟩:=own_at H1.out (by omega)
       have gz:=lastM_at hgl1 hlb
       clear hgl1
      |refine wpList_append_one w1 rfl (.tmp 29) (.tmp 35) _ rfl w.heap.size 5 i0 _ 1 Tryz.underlying25 hi0 hz0 hz1 hz2 rfl H1.out rfl _ rfl rfl (by simp only [maxLen];omega) (by omega) (by omega) ?_
       intro v2 w2 hown2 hg2 _hat2 _hold2
       obtain⟨A2,c2,rfl⟩:=own_form hown2
       obtain⟨g,rfl,hgc,hgb,hgl,hgf⟩:=own_at hown2 (by omega)
       have gu:w2.cell? ⟨g,(m+1),none⟩=some (.int .u8 255):=hgl (m+1) _ (by rw [← hlb];simp)
       have hk2:Keep (fun _=>False) w w2:=(HK1.out.alloc _).grown hg2 (fun k hk=>.inr (H1.out.lt k hk).1)
       have H2:=hid (show w2.ownsRow w.heap.size 5 1 (.slice (some ⟨g,0,none⟩) ((m+1)+1) c2) ((m+1)+1) ((b++[255]).map (Value.int .u8)) by simpa using hown2)
       have HK2:=hid hk2
       have hs2:=hk2.size
       clear hown2 hg2 _hat2 _hold2 hk2 hgl hgf
      |refine wpList_append_one w2 rfl (.tmp 49) (.tmp 50) _ rfl w.heap.size 5 i0 _ 1 Tryz.underlying25 hi0 hz0 hz1 hz2 rfl H2.out rfl _ rfl rfl (by simp only [maxLen];omega) (by omega) (by omega) ?_
       intro v3 w3 hown3 hg3 _hat3 _hold3
       obtain⟨A3,c3,rfl⟩:=own_form hown3
       have H3:=hid (show w3.ownsRow w.heap.size 5 1 (.slice A3 (((m+1)+1)+1) c3) (((m+1)+1)+1) (((b++[255])++[0]).map (Value.int .u8)) by simpa using hown3)
       have HK3:=hid (show Keep (fun _=>False) w w3 from(HK2.out.alloc _).grown hg3 (fun k hk=>.inr (H2.out.lt k hk).1))
       clear hown3 hg3 _hat3 _hold3
      )
     go_ret
     rw [HM.out]
     exact bytesP_mk H3.out HK3.out
   · have HM:=hid (show rbytesM b u f=b++[u%256] by unfold rbytesM outB;rw [ht,if_pos hf,lastM_snoc,if_neg hu])
     have hu':(u%256==255)=false:=by simpa using hu
     go_enter Tryz.func69,Tryz.ntmps69
     go_wp2_with (
      at_builtin
      first
      |refine wpList_append_src _ rfl (.tmp 5) (.tmp 9) _ rfl w.heap.size 5 i0 _ 1 Tryz.underlying25 hi0 hz0 hz1 hz2 rfl (World.ownsRow_made w #[] 0 (Nat.le_refl _) (by simp [maxLen]) rfl) rfl (HR.out.alloc _) rfl (oneCell_ints _ _) (by simp only [maxLen];omega) (by omega) (by simp) ?_
       intro v1 w1 hown1 hg1 _hat1 _hold1
       rw [Nat.zero_add,List.nil_append]at hown1
       obtain⟨A1,c1,rfl⟩:=own_form hown1
       have hk1:Keep (fun _=>False) w w1:=((Keep.refl _ w).alloc _).grown hg1 (fun k hk=>.inr (by simp [Value.ownBlock]at hk;omega))
       have H1:=hid hown1
       have HK1:=hid hk1
       have g2:=hk1.cell h2 (fun h=>h)
       have g1:=hk1.cell h1 (fun h=>h)
       have hs1:=hk1.size
       clear hown1 hg1 _hat1 _hold1 hk1
       obtain⟨gg,rfl,hgc1,hgb1,hgl1,_⟩:=own_at H1.out (by omega)
       have gz:=lastM_at hgl1 hlb
       clear hgl1
      |refine wpList_append_one w1 rfl (.tmp 29) (.tmp 35) _ rfl w.heap.size 5 i0 _ 1 Tryz.underlying25 hi0 hz0 hz1 hz2 rfl H1.out rfl _ rfl rfl (by simp only [maxLen];omega) (by omega) (by omega) ?_
       intro v2 w2 hown2 hg2 _hat2 _hold2
       obtain⟨A2,c2,rfl⟩:=own_form hown2
       obtain⟨g,rfl,hgc,hgb,hgl,hgf⟩:=own_at hown2 (by omega)
       have gu:w2.cell? ⟨g,(m+1),none⟩=some (.int .u8 (u%256)):=hgl (m+1) _ (by rw [← hlb];simp)
       have hk2:Keep (fun _=>False) w w2:=(HK1.out.alloc _).grown hg2 (fun k hk=>.inr (H1.out.lt k hk).1)
       have H2:=hid (show w2.ownsRow w.heap.size 5 1 (.slice (some ⟨g,0,none⟩) ((m+1)+1) c2) ((m+1)+1) ((b++[(u%256)]).map (Value.int .u8)) by simpa using hown2)
       have HK2:=hid hk2
       have hs2:=hk2.size
       clear hown2 hg2 _hat2 _hold2 hk2 hgl hgf
      )
     go_ret
     rw [HM.out]
     exact bytesP_mk H2.out HK2.out
 · have HM:=hid (show rbytesM b u f=b++[0] by unfold rbytesM outB;rw [ht,if_neg hf,if_pos hz])
   go_enter Tryz.func69,Tryz.ntmps69
   go_wp2_with (
    at_builtin
    first
    |refine wpList_append_src _ rfl (.tmp 5) (.tmp 9) _ rfl w.heap.size 5 i0 _ 1 Tryz.underlying25 hi0 hz0 hz1 hz2 rfl (World.ownsRow_made w #[] 0 (Nat.le_refl _) (by simp [maxLen]) rfl) rfl (HR.out.alloc _) rfl (oneCell_ints _ _) (by simp only [maxLen];omega) (by omega) (by simp) ?_
     intro v1 w1 hown1 hg1 _hat1 _hold1
     rw [Nat.zero_add,List.nil_append]at hown1
     obtain⟨A1,c1,rfl⟩:=own_form hown1
     have hk1:Keep (fun _=>False) w w1:=((Keep.refl _ w).alloc _).grown hg1 (fun k hk=>.inr (by simp [Value.ownBlock]at hk;omega))
     have H1:=hid hown1
     have HK1:=hid hk1
     have g2:=hk1.cell h2 (fun h=>h)
     have g1:=hk1.cell h1 (fun h=>h)
     have hs1:=hk1.size
     clear hown1 hg1 _hat1 _hold1 hk1
     obtain⟨gg,rfl,hgc1,hgb1,hgl1,_⟩:=own_at H1.out (by omega)
     have gz:=lastM_at hgl1 hlb
     clear hgl1
    |refine wpList_append_one w1 rfl (.tmp 49) (.tmp 50) _ rfl w.heap.size 5 i0 _ 1 Tryz.underlying25 hi0 hz0 hz1 hz2 rfl H1.out rfl _ rfl rfl (by simp only [maxLen];omega) (by omega) (by omega) ?_
     intro v3 w3 hown3 hg3 _hat3 _hold3
     obtain⟨A3,c3,rfl⟩:=own_form hown3
     have H3:=hid (show w3.ownsRow w.heap.size 5 1 (.slice A3 ((m+1)+1) c3) ((m+1)+1) ((b++[0]).map (Value.int .u8)) by simpa using hown3)
     have HK3:=hid (show Keep (fun _=>False) w w3 from(HK1.out.alloc _).grown hg3 (fun k hk=>.inr (H1.out.lt k hk).1))
     clear hown3 hg3 _hat3 _hold3
    )
   go_ret
   rw [HM.out]
   exact bytesP_mk H3.out HK3.out
theorem rbytes_free (w:World) (base W:Nat) (A:Option Addr) (c:Nat) (b:List Int) (u f:Int) (m:Nat) (h:RW0 w base W A (m+1) c b u f) (hn:m+1≤1073741824) (hz:¬lastM b=255):
 Calls Tryz.prog 69 #[.pointer (some ⟨W,0,none⟩)] w (BytesP w (rbytesM b u f)):=by
 obtain⟨i0,hi0,hz0,hz1,hz2⟩:=info_parts info_u8
 have h0:(w.alloc (.cells #[] 5)).cell? ⟨W,0,none⟩=some (.slice A (m+1) c):=(h.blk.alloc _).cell 0
 have h1:w.cell? ⟨W,1,none⟩=some (.int .i64 u):=h.blk.cell 1
 have h2:w.cell? ⟨W,2,none⟩=some (.int .i64 f):=h.blk.cell 2
 have HR:=hid (Rd.of_own h.own)
 have hlb:=h.len
 clear h
 have ht:topM b=8:=by unfold topM;simp [hz]
 have hz':(lastM b==255)=false:=by simpa using hz
 have wm:IntKind.i64.wrap (((m+1:Nat):Int)-1)=(m:Int):=by rw [IntWalk.i64_in _ (by omega)];omega
 by_cases hf:f<8
 · by_cases hu:u%256=255
   · have HM:=hid (show rbytesM b u f=(b++[255])++[0] by unfold rbytesM outB;rw [ht,if_pos hf,lastM_snoc,if_pos hu,hu])
     go_enter Tryz.func69,Tryz.ntmps69
     go_wp2_with (
      at_builtin
      first
      |refine wpList_append_src _ rfl (.tmp 5) (.tmp 9) _ rfl w.heap.size 5 i0 _ 1 Tryz.underlying25 hi0 hz0 hz1 hz2 rfl (World.ownsRow_made w #[] 0 (Nat.le_refl _) (by simp [maxLen]) rfl) rfl (HR.out.alloc _) rfl (oneCell_ints _ _) (by simp only [maxLen];omega) (by omega) (by simp) ?_
       intro v1 w1 hown1 hg1 _hat1 _hold1
       rw [Nat.zero_add,List.nil_append]at hown1
       obtain⟨A1,c1,rfl⟩:=own_form hown1
       have hk1:Keep (fun _=>False) w w1:=((Keep.refl _ w).alloc _).grown hg1 (fun k hk=>.inr (by simp [Value.ownBlock]at hk;omega))
       have H1:=hid hown1
       have HK1:=hid hk1
       have g2:=hk1.cell h2 (fun h=>h)
       have g1:=hk1.cell h1 (fun h=>h)
       have hs1:=hk1.size
       clear hown1 hg1 _hat1 _hold1 hk1
       obtain⟨gg,rfl,hgc1,hgb1,hgl1,_⟩:=own_at H1.out (by omega)
       have gz:=lastM_at hgl1 hlb
       clear hgl1
      |refine wpList_append_one w1 rfl (.tmp 29) (.tmp 35) _ rfl w.heap.size 5 i0 _ 1 Tryz.underlying25 hi0 hz0 hz1 hz2 rfl H1.out rfl _ rfl rfl (by simp only [maxLen];omega) (by omega) (by omega) ?_
       intro v2 w2 hown2 hg2 _hat2 _hold2
       obtain⟨A2,c2,rfl⟩:=own_form hown2
       obtain⟨g,rfl,hgc,hgb,hgl,hgf⟩:=own_at hown2 (by omega)
       have gu:w2.cell? ⟨g,(m+1),none⟩=some (.int .u8 255):=hgl (m+1) _ (by rw [← hlb];simp)
       have hk2:Keep (fun _=>False) w w2:=(HK1.out.alloc _).grown hg2 (fun k hk=>.inr (H1.out.lt k hk).1)
       have H2:=hid (show w2.ownsRow w.heap.size 5 1 (.slice (some ⟨g,0,none⟩) ((m+1)+1) c2) ((m+1)+1) ((b++[255]).map (Value.int .u8)) by simpa using hown2)
       have HK2:=hid hk2
       have hs2:=hk2.size
       clear hown2 hg2 _hat2 _hold2 hk2 hgl hgf
      |refine wpList_append_one w2 rfl (.tmp 49) (.tmp 50) _ rfl w.heap.size 5 i0 _ 1 Tryz.underlying25 hi0 hz0 hz1 hz2 rfl H2.out rfl _ rfl rfl (by simp only [maxLen];omega) (by omega) (by omega) ?_
       intro v3 w3 hown3 hg3 _hat3 _hold3
       obtain⟨A3,c3,rfl⟩:=own_form hown3
       have H3:=hid (show w3.ownsRow w.heap.size 5 1 (.slice A3 (((m+1)+1)+1) c3) (((m+1)+1)+1) (((b++[255])++[0]).map (Value.int .u8)) by simpa using hown3)
       have HK3:=hid (show Keep (fun _=>False) w w3 from(HK2.out.alloc _).grown hg3 (fun k hk=>.inr (H2.out.lt k hk).1))
       clear hown3 hg3 _hat3 _hold3
      )
     go_ret
     rw [HM.out]
     exact bytesP_mk H3.out HK3.out
   · have HM:=hid (show rbytesM b u f=b++[u%256] by unfold rbytesM outB;rw [ht,if_pos hf,lastM_snoc,if_neg hu])
     have hu':(u%256==255)=false:=by simpa using hu
     go_enter Tryz.func69,Tryz.ntmps69
     go_wp2_with (
      at_builtin
      first
      |refine wpList_append_src _ rfl (.tmp 5) (.tmp 9) _ rfl w.heap.size 5 i0 _ 1 Tryz.underlying25 hi0 hz0 hz1 hz2 rfl (World.ownsRow_made w #[] 0 (Nat.le_refl _) (by simp [maxLen]) rfl) rfl (HR.out.alloc _) rfl (oneCell_ints _ _) (by simp only [maxLen];omega) (by omega) (by simp) ?_
       intro v1 w1 hown1 hg1 _hat1 _hold1
       rw [Nat.zero_add,List.nil_append]at hown1
       obtain⟨A1,c1,rfl⟩:=own_form hown1
       have hk1:Keep (fun _=>False) w w1:=((Keep.refl _ w).alloc _).grown hg1 (fun k hk=>.inr (by simp [Value.ownBlock]at hk;omega))
       have H1:=hid hown1
       have HK1:=hid hk1
       have g2:=hk1.cell h2 (fun h=>h)
       have g1:=hk1.cell h1 (fun h=>h)
       have hs1:=hk1.size
       clear hown1 hg1 _hat1 _hold1 hk1
       obtain⟨gg,rfl,hgc1,hgb1,hgl1,_⟩:=own_at H1.out (by omega)
       have gz:=lastM_at hgl1 hlb
       clear hgl1
      |refine wpList_append_one w1 rfl (.tmp 29) (.tmp 35) _ rfl w.heap.size 5 i0 _ 1 Tryz.underlying25 hi0 hz0 hz1 hz2 rfl H1.out rfl _ rfl rfl (by simp only [maxLen];omega) (by omega) (by omega) ?_
       intro v2 w2 hown2 hg2 _hat2 _hold2
       obtain⟨A2,c2,rfl⟩:=own_form hown2
       obtain⟨g,rfl,hgc,hgb,hgl,hgf⟩:=own_at hown2 (by omega)
       have gu:w2.cell? ⟨g,(m+1),none⟩=some (.int .u8 (u%256)):=hgl (m+1) _ (by rw [← hlb];simp)
       have hk2:Keep (fun _=>False) w w2:=(HK1.out.alloc _).grown hg2 (fun k hk=>.inr (H1.out.lt k hk).1)
       have H2:=hid (show w2.ownsRow w.heap.size 5 1 (.slice (some ⟨g,0,none⟩) ((m+1)+1) c2) ((m+1)+1) ((b++[(u%256)]).map (Value.int .u8)) by simpa using hown2)
       have HK2:=hid hk2
       have hs2:=hk2.size
       clear hown2 hg2 _hat2 _hold2 hk2 hgl hgf
      )
     go_ret
     rw [HM.out]
     exact bytesP_mk H2.out HK2.out
 · have HM:=hid (show rbytesM b u f=b by unfold rbytesM outB;rw [ht,if_neg hf,if_neg hz])
   go_enter Tryz.func69,Tryz.ntmps69
   go_wp2_with (
    at_builtin
    first
    |refine wpList_append_src _ rfl (.tmp 5) (.tmp 9) _ rfl w.heap.size 5 i0 _ 1 Tryz.underlying25 hi0 hz0 hz1 hz2 rfl (World.ownsRow_made w #[] 0 (Nat.le_refl _) (by simp [maxLen]) rfl) rfl (HR.out.alloc _) rfl (oneCell_ints _ _) (by simp only [maxLen];omega) (by omega) (by simp) ?_
     intro v1 w1 hown1 hg1 _hat1 _hold1
     rw [Nat.zero_add,List.nil_append]at hown1
     obtain⟨A1,c1,rfl⟩:=own_form hown1
     have hk1:Keep (fun _=>False) w w1:=((Keep.refl _ w).alloc _).grown hg1 (fun k hk=>.inr (by simp [Value.ownBlock]at hk;omega))
     have H1:=hid hown1
     have HK1:=hid hk1
     have g2:=hk1.cell h2 (fun h=>h)
     have g1:=hk1.cell h1 (fun h=>h)
     have hs1:=hk1.size
     clear hown1 hg1 _hat1 _hold1 hk1
     obtain⟨gg,rfl,hgc1,hgb1,hgl1,_⟩:=own_at H1.out (by omega)
     have gz:=lastM_at hgl1 hlb
     clear hgl1
    )
   go_ret
   rw [HM.out]
   exact bytesP_mk H1.out HK1.out
theorem rbytes_any (w:World) (base W:Nat) (A:Option Addr) (n c:Nat) (l:List Int) (r:Int) (h:RWr w base W A n c l r) (hi:BInv l r) (hn:l.length≤1073741824):
 Calls Tryz.prog 69 #[.pointer (some ⟨W,0,none⟩)] w (BytesP w (outB l)):=by
 have e:rbytesM (refB l r) (curM l r) (freeM l r)=outB l:=by
  unfold rbytesM
  by_cases hr:r=0
  · have e1:refB l r=l:=if_pos hr
    have e3:freeM l r=topM l:=if_pos hr
    rw [e1,e3,if_neg (by omega)]
  · have hr0:=hi.r0
    have e1:refB l r=l.dropLast:=if_neg hr
    have e2:curM l r=lastM l:=if_neg hr
    have e3:freeM l r=r:=if_neg hr
    have hb:=lastM_byte hi.bytes
    have hm:lastM l%256=lastM l:=by omega
    rw [e1,e2,e3,if_pos (hi.top (by omega)),hm,snoc_last l (hi.some_ (by omega))]
 rw [← e]
 have hl:=refB_le l r
 have hn':=RW0.len h
 rcases Nat.eq_zero_or_pos n with h0|h0
 · exact rbytes_nil w base W A c _ _ _ n h (by omega)
 · obtain⟨m,rfl⟩: ∃m,n=m+1:=⟨n-1,by omega⟩
   by_cases hz:lastM (refB l r)=255
   · exact rbytes_full w base W A c _ _ _ m h (by omega) hz
   · exact rbytes_free w base W A c _ _ _ m h (by omega) hz
theorem newrw_any (w:World):
 Calls Tryz.prog 65 #[] w fun e w'=>e=.returned (.pointer (some ⟨w.heap.size,0,none⟩))∧RWr w' w.heap.size w.heap.size none 0 0 [] 0∧Keep (fun _=>False) w w':=by
 go_enter Tryz.func65,Tryz.ntmps65
 go_wp2_with fail
 go_ret
 refine⟨rfl,⟨?_,?_⟩,(Keep.refl _ w).alloc _⟩
 · exact Blk.new _ _ _
 · exact World.ownsRow_nil _ _ _ _
theorem foot_grew {w:World} {W:Nat} {A A1:Option Addr} (g:Grew w A A1) (k:Nat) (h:foot W A1 k):foot W A k∨w.heap.size≤k:=by
 rcases h with h|⟨ad,e,h⟩
 · exact .inl (.inl h)
 · rcases g ad e with⟨a0,e0,h'⟩|h'
   · exact .inl (.inr ⟨a0,e0,by omega⟩)
   · exact .inr (by omega)
theorem RW0.foot_lt {w:World} {base W:Nat} {A:Option Addr} {n c:Nat} {b:List Int} {u f:Int} (h:RW0 w base W A n c b u f) (k:Nat) (hk:foot W A k):k<w.heap.size:=by
 rcases hk with rfl|⟨ad,e,rfl⟩
 · exact h.blk.lt
 · exact(own_foot_lt h.own ad e).2
end Go.Proofs.YthfogcgdijmaoaaGreat.Bw
