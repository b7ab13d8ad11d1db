/-
  Part 11 of the proof: Bands. Conditions: those of the statements.
-/
import Derived.Test.YthfogcgdijmaoaaGreatJ6
set_option maxRecDepth 100000
set_option maxHeartbeats 16000000
set_option linter.unusedVariables false
set_option linter.unusedSimpArgs false
namespace Go.Proofs.YthfogcgdijmaoaaGreat
open Go.RowKit
def rcs (l:List Rc):List Value:=l.flatMap fun r=>r.cells.toList
def bandsR (r:Rc) (L k:Nat):List Rc:=if k=0 then [r.over (p2 L) (p2 L) 0 0]else [r.over (p2 (L-k+1)) (p2 (L-k+1)) (p2 (L-k)) 0,r.over (p2 (L-k+1)) (p2 (L-k+1)) 0 (p2 (L-k)),r.over (p2 (L-k+1)) (p2 (L-k+1)) (p2 (L-k)) (p2 (L-k))]
def bandsK (k:Nat):List Int:=if k=0 then [0]else [1,2,3]
def BandsP (w:World) (r:Rc) (L k:Nat) (e:Ending) (w':World):Prop:=
 ∃g g',e=.returned (.tuple #[.slice (some ⟨g,0,none⟩) (bandsK k).length (bandsK k).length,.slice (some ⟨g',0,none⟩) (bandsR r L k).length (bandsR r L k).length])∧w.heap.size≤g∧w.heap.size≤g'∧Blk w' g 3 ((bandsK k).map (Value.int .i64)).toArray∧Blk w' g' 63 (rcs (bandsR r L k)).toArray∧Keep (fun _=>False) w w'
theorem bands_low (w:World) (r:Rc) (L:Nat) (h:r.fits 16777216) (hL:L≤8):
 Calls Tryz.prog 52 #[r.val,.int .i64 L,.int .i64 0] w (BandsP w r L 0):=by
 have RE:=fun w=>res_any w r L 0 h (by omega) hL
 have HK:=hid (((Keep.refl (fun _=>False) w).alloc (.cells r.cells 63)).alloc (.cells #[.int .i64 0] 3))
 have HB:=hid (Blk.new1 w (.cells r.cells 63) 3 #[.int .i64 0])
 obtain⟨x0,y0,x1,y1⟩:=r
 have HD:=hid (show∀w' g',w.heap.size≤g'→Blk w' (w.heap.size+1) 3 #[.int .i64 0]→Blk w' g' 63 ((Rc.over ⟨x0,y0,x1,y1⟩ (p2 L) (p2 L) 0 0).cells)→Keep (fun _=>False) w w'→BandsP w ⟨x0,y0,x1,y1⟩ L 0 (.returned (.tuple #[.slice (some ⟨w.heap.size+1,0,none⟩) 1 1,.slice (some ⟨g',0,none⟩) 1 1])) w' from fun w' g' h1 h2 h3 h4=>⟨_,g',rfl,by omega,h1,h2,h3,h4⟩)
 unfold Rc.val at RE ⊢
 unfold Rc.cells at HK HB
 simp only at HK HB RE ⊢
 go_enter Tryz.func52,Tryz.ntmps52
 go_wp2_with fail
 refine(RE _).mono ?_
 rintro e w2 ⟨rfl,hk⟩
 have HK2:=hid (HK.out.trans hk (fun _ _ h=>h))
 have HB3:=hid (HB.out.keep hk (fun h=>h))
 clear hk HB HK RE
 go_wp2_with fail
 refine bodyPost_ret (v:=.tuple #[.slice (some ⟨w.heap.size+1,0,none⟩) 1 1,.slice (some ⟨w2.heap.size,0,none⟩) 1 1]) (by simp [results,Tryz.results52,go_sem]) rfl (HD.out _ _ (HK2.out.size' (Nat.le_refl _)) (HB3.out.alloc _) (Blk.new _ _ _) (HK2.out.alloc _))
theorem bands_high (w:World) (r:Rc) (L k:Nat) (h:r.fits 16777216) (hL:L≤8) (hk0:0<k) (hkL:k≤L):
 Calls Tryz.prog 52 #[r.val,.int .i64 L,.int .i64 k] w (BandsP w r L k):=by
 obtain⟨d,rfl⟩: ∃d,L=k+d:=⟨L-k,by omega⟩
 have hd:d≤7:=by omega
 have OV:=fun w ax ay (h1:0≤ax∧ax≤16777216) (h2:0≤ay∧ay≤16777216)=>over_any w r (p2 (d+1)) (p2 (d+1)) ax ay h ⟨p2_pos _,by have:=p2_16 (d:=d+1) (by omega);omega⟩ ⟨p2_pos _,by have:=p2_16 (d:=d+1) (by omega);omega⟩ h1 h2
 have hp1:=p2_pos d
 have hp2:=p2_16 (d:=d) (by omega)
 have hps:=p2_succ d
 have HK:=hid ((Keep.refl (fun _=>False) w).alloc (.cells r.cells 63))
 have HB:=hid (Blk.new w 63 r.cells)
 have HD:=hid (show∀w' g g',w.heap.size≤g→w.heap.size≤g'→Blk w' g 3 #[.int .i64 1,.int .i64 2,.int .i64 3]→Blk w' g' 63 ([(r.over (p2 (d+1)) (p2 (d+1)) (p2 d) 0).x0,(r.over (p2 (d+1)) (p2 (d+1)) (p2 d) 0).y0,(r.over (p2 (d+1)) (p2 (d+1)) (p2 d) 0).x1,(r.over (p2 (d+1)) (p2 (d+1)) (p2 d) 0).y1,(r.over (p2 (d+1)) (p2 (d+1)) 0 (p2 d)).x0,(r.over (p2 (d+1)) (p2 (d+1)) 0 (p2 d)).y0,(r.over (p2 (d+1)) (p2 (d+1)) 0 (p2 d)).x1,(r.over (p2 (d+1)) (p2 (d+1)) 0 (p2 d)).y1,(r.over (p2 (d+1)) (p2 (d+1)) (p2 d) (p2 d)).x0,(r.over (p2 (d+1)) (p2 (d+1)) (p2 d) (p2 d)).y0,(r.over (p2 (d+1)) (p2 (d+1)) (p2 d) (p2 d)).x1,(r.over (p2 (d+1)) (p2 (d+1)) (p2 d) (p2 d)).y1].map (Value.int .i64)).toArray→Keep (fun _=>False) w w'→BandsP w r (k+d) k (.returned (.tuple #[.slice (some ⟨g,0,none⟩) 3 3,.slice (some ⟨g',0,none⟩) 3 3])) w' from fun w' g g' h1 h1' h2 h3 h4=>by
  have e1:bandsK k=[1,2,3]:=if_neg (by omega)
  have e2:bandsR r (k+d) k=[r.over (p2 (d+1)) (p2 (d+1)) (p2 d) 0,r.over (p2 (d+1)) (p2 (d+1)) 0 (p2 d),r.over (p2 (d+1)) (p2 (d+1)) (p2 d) (p2 d)]:=by
   unfold bandsR
   rw [if_neg (by omega),show k+d-k=d by omega]
  exact⟨g,g',by rw [e1,e2];rfl,h1,h1',by rw [e1];exact h2,by rw [e2];exact h3,h4⟩)
 have hw:IntKind.i64.wrap (((k+d:Nat):Int)-(k:Int))=(d:Int):=by rw [IntWalk.i64_in _ (by omega)];omega
 have hw1:IntKind.i64.wrap ((d:Int)+1)=((d+1:Nat):Int):=by rw [IntWalk.i64_in _ (by omega)];omega
 have hpw:=p2_wrap (d:=d+1) (by omega)
 have hq:(p2 (d+1))/2=p2 d:=by rw [hps];omega
 have hqt:(p2 (d+1)).tdiv 2=p2 d:=by rw [Int.tdiv_eq_ediv_of_nonneg (by omega),hq]
 have hqw:IntKind.i64.wrap (p2 d)=p2 d:=IntWalk.i64_in _ (by omega)
 have HP:=hid hps
 clear hps hq
 obtain⟨x0,y0,x1,y1⟩:=r
 unfold Rc.val at OV ⊢
 unfold Rc.cells at HK HB
 simp only at HK HB OV ⊢
 go_enter Tryz.func52,Tryz.ntmps52
 go_wp2_with fail
 have hrg:(w.alloc (.cells #[.int .i64 x0,.int .i64 y0,.int .i64 x1,.int .i64 y1] 63)).drew.rangeAt w.heap.size 0 [.int .i64 x0,.int .i64 y0,.int .i64 x1,.int .i64 y1]:=HB.out.range
 replace HK:=hid HK.out.drew
 clear HB
 generalize w.alloc (.cells #[.int .i64 x0,.int .i64 y0,.int .i64 x1,.int .i64 y1] 63)=w1 at*
 refine At.start (L:=#[false,false,false,false,false,false,false,false,false,false,false,false,false,false,false,false,false,false,false,false,false,false,false,false]) (by kernel_rfl) rfl ?_
 generalize w1.drew=w9 at*
 first|refine AtL 1 (some 23) Tryz.underlying63 ?_|refine AtR 1 (some 23) Tryz.underlying63 ?_
 try simp only [NS]
 refine AtP 2 (some 24) ?_
 try simp only [NS]
 refine AtP 3 (some 25) ?_
 try simp only [NS]
 refine AtP 4 (some 26) ?_
 try simp only [NS]
 refine AtP 5 (some 27) ?_
 try simp only [NS]
 first|refine AtL 7 (some 29) Tryz.underlying63 ?_|refine AtR 7 (some 29) Tryz.underlying63 ?_
 try simp only [NS]
 refine AtP 8 (some 30) ?_
 try simp only [NS]
 refine AtP 9 (some 31) ?_
 try simp only [NS]
 refine AtP 10 (some 32) ?_
 try simp only [NS]
 refine AtP 11 (some 33) ?_
 try simp only [NS]
 first|refine AtL 13 (some 35) Tryz.underlying63 ?_|refine AtR 13 (some 35) Tryz.underlying63 ?_
 try simp only [NS]
 refine AtP 14 (some 36) ?_
 try simp only [NS]
 refine AtP 15 (some 37) ?_
 try simp only [NS]
 refine AtP 16 (some 38) ?_
 try simp only [NS]
 refine AtP 17 (some 39) ?_
 try simp only [NS]
 refine AtP 18 (some 40) ?_
 try simp only [NS]
 refine AtP 19 (some 41) ?_
 try simp only [NS]
 refine At.two_all 0 6 rfl rfl (by kernel_rfl) rfl rfl (fun K hK=>?_) (fun K hK=>?_)
 · skip
   go_simp
   generalize hwn:World.alloc _ (.cells #[.int .i64 1,.int .i64 2,.int .i64 3] 3)=wn
   have hgi:=HK.out.size
   obtain⟨hk,hbi⟩:=alloc_new hwn
   replace HK:=hid (HK.out.trans hk (fun _ _ h=>h))
   have HI:=hid hbi
   replace hrg:=range_keep hrg hk (fun h=>h)
   try replace HR:=hid (HR.out.keep hk (fun h=>h))
   clear hk hbi hwn
   refine hK _ _ (by repeat' first|exact all_nil|refine all_cons (by first|assumption|exact hk.cell (by assumption) (fun h=>h)|exact range_keep (by assumption) hk (fun h=>h)) ?_) ?_
   clear hK K
   try simp only [NS]
   refine At.call_all 6 rfl (by kernel_rfl) rfl (fun K hK=>?_)
   go_simp
   refine(OV _ (p2 d) 0 (by omega) (by omega)).mono ?_
   rintro e w2 ⟨rfl,hk⟩
   replace HK:=hid (HK.out.trans hk (fun _ _ h=>h))
   try replace HI:=hid (HI.out.keep hk (fun h=>h))
   replace hrg:=range_keep hrg hk (fun h=>h)
   clear hk
   refine hK _ _ (by repeat' first|exact all_nil|refine all_cons (by first|assumption|exact hk.cell (by assumption) (fun h=>h)|exact range_keep (by assumption) hk (fun h=>h)) ?_) ?_
   clear hK K
   try simp only [NS]
   refine At.call_all 12 rfl (by kernel_rfl) rfl (fun K hK=>?_)
   go_simp
   refine(OV _ 0 (p2 d) (by omega) (by omega)).mono ?_
   rintro e w2 ⟨rfl,hk⟩
   replace HK:=hid (HK.out.trans hk (fun _ _ h=>h))
   try replace HI:=hid (HI.out.keep hk (fun h=>h))
   replace hrg:=range_keep hrg hk (fun h=>h)
   clear hk
   refine hK _ _ (by repeat' first|exact all_nil|refine all_cons (by first|assumption|exact hk.cell (by assumption) (fun h=>h)|exact range_keep (by assumption) hk (fun h=>h)) ?_) ?_
   clear hK K
   try simp only [NS]
   refine AtC 20 fun K hK=>?_
   go_simp
   refine(OV _ (p2 d) (p2 d) (by omega) (by omega)).mono ?_
   rintro e w2 ⟨rfl,hk⟩
   replace HK:=hid (HK.out.trans hk (fun _ _ h=>h))
   try replace HI:=hid (HI.out.keep hk (fun h=>h))
   replace hrg:=range_keep hrg hk (fun h=>h)
   clear hk
   refine hK _ _ all_nil ?_
   clear hK K
   try simp only [NS]
   refine AtP 22 (some 6) ?_
   try simp only [NS]
   refine AtC 21 fun K hK=>?_
   go_simp
   generalize hwn:World.alloc _ (.cells _ 63)=wn
   have hgr:=HK.out.size
   obtain⟨hk,hbr⟩:=alloc_new hwn
   replace HK:=hid (HK.out.trans hk (fun _ _ h=>h))
   have HR:=hid hbr
   replace hrg:=range_keep hrg hk (fun h=>h)
   try replace HI:=hid (HI.out.keep hk (fun h=>h))
   clear hk hbr hwn
   refine hK _ _ all_nil ?_
   clear hK K
   try simp only [NS]
   refine AtP 23 (some 7) ?_
   try simp only [NS]
   refine At.done (by kernel_rfl) ?_
   go_wp2_with fail
   exact bodyPost_ret (v:=.tuple #[_,_]) (by simp [results,Tryz.results52,go_sem]<;>exact⟨rfl,rfl⟩) rfl (HD.out _ _ _ hgi hgr HI.out HR.out HK.out)
 · skip
   go_simp
   refine(OV _ (p2 d) 0 (by omega) (by omega)).mono ?_
   rintro e w2 ⟨rfl,hk⟩
   replace HK:=hid (HK.out.trans hk (fun _ _ h=>h))
   try replace HI:=hid (HI.out.keep hk (fun h=>h))
   replace hrg:=range_keep hrg hk (fun h=>h)
   clear hk
   refine hK _ _ (by repeat' first|exact all_nil|refine all_cons (by first|assumption|exact hk.cell (by assumption) (fun h=>h)|exact range_keep (by assumption) hk (fun h=>h)) ?_) ?_
   clear hK K
   try simp only [NS]
   refine At.two_all 0 12 rfl rfl (by kernel_rfl) rfl rfl (fun K hK=>?_) (fun K hK=>?_)
   · skip
     go_simp
     generalize hwn:World.alloc _ (.cells #[.int .i64 1,.int .i64 2,.int .i64 3] 3)=wn
     have hgi:=HK.out.size
     obtain⟨hk,hbi⟩:=alloc_new hwn
     replace HK:=hid (HK.out.trans hk (fun _ _ h=>h))
     have HI:=hid hbi
     replace hrg:=range_keep hrg hk (fun h=>h)
     try replace HR:=hid (HR.out.keep hk (fun h=>h))
     clear hk hbi hwn
     refine hK _ _ (by repeat' first|exact all_nil|refine all_cons (by first|assumption|exact hk.cell (by assumption) (fun h=>h)|exact range_keep (by assumption) hk (fun h=>h)) ?_) ?_
     clear hK K
     try simp only [NS]
     refine At.call_all 12 rfl (by kernel_rfl) rfl (fun K hK=>?_)
     go_simp
     refine(OV _ 0 (p2 d) (by omega) (by omega)).mono ?_
     rintro e w2 ⟨rfl,hk⟩
     replace HK:=hid (HK.out.trans hk (fun _ _ h=>h))
     try replace HI:=hid (HI.out.keep hk (fun h=>h))
     replace hrg:=range_keep hrg hk (fun h=>h)
     clear hk
     refine hK _ _ (by repeat' first|exact all_nil|refine all_cons (by first|assumption|exact hk.cell (by assumption) (fun h=>h)|exact range_keep (by assumption) hk (fun h=>h)) ?_) ?_
     clear hK K
     try simp only [NS]
     refine AtC 20 fun K hK=>?_
     go_simp
     refine(OV _ (p2 d) (p2 d) (by omega) (by omega)).mono ?_
     rintro e w2 ⟨rfl,hk⟩
     replace HK:=hid (HK.out.trans hk (fun _ _ h=>h))
     try replace HI:=hid (HI.out.keep hk (fun h=>h))
     replace hrg:=range_keep hrg hk (fun h=>h)
     clear hk
     refine hK _ _ all_nil ?_
     clear hK K
     try simp only [NS]
     refine AtP 22 (some 6) ?_
     try simp only [NS]
     refine AtC 21 fun K hK=>?_
     go_simp
     generalize hwn:World.alloc _ (.cells _ 63)=wn
     have hgr:=HK.out.size
     obtain⟨hk,hbr⟩:=alloc_new hwn
     replace HK:=hid (HK.out.trans hk (fun _ _ h=>h))
     have HR:=hid hbr
     replace hrg:=range_keep hrg hk (fun h=>h)
     try replace HI:=hid (HI.out.keep hk (fun h=>h))
     clear hk hbr hwn
     refine hK _ _ all_nil ?_
     clear hK K
     try simp only [NS]
     refine AtP 23 (some 7) ?_
     try simp only [NS]
     refine At.done (by kernel_rfl) ?_
     go_wp2_with fail
     exact bodyPost_ret (v:=.tuple #[_,_]) (by simp [results,Tryz.results52,go_sem]<;>exact⟨rfl,rfl⟩) rfl (HD.out _ _ _ hgi hgr HI.out HR.out HK.out)
   · skip
     go_simp
     refine(OV _ 0 (p2 d) (by omega) (by omega)).mono ?_
     rintro e w2 ⟨rfl,hk⟩
     replace HK:=hid (HK.out.trans hk (fun _ _ h=>h))
     try replace HI:=hid (HI.out.keep hk (fun h=>h))
     replace hrg:=range_keep hrg hk (fun h=>h)
     clear hk
     refine hK _ _ (by repeat' first|exact all_nil|refine all_cons (by first|assumption|exact hk.cell (by assumption) (fun h=>h)|exact range_keep (by assumption) hk (fun h=>h)) ?_) ?_
     clear hK K
     try simp only [NS]
     refine At.two_all 0 20 rfl rfl (by kernel_rfl) rfl rfl (fun K hK=>?_) (fun K hK=>?_)
     · skip
       go_simp
       generalize hwn:World.alloc _ (.cells #[.int .i64 1,.int .i64 2,.int .i64 3] 3)=wn
       have hgi:=HK.out.size
       obtain⟨hk,hbi⟩:=alloc_new hwn
       replace HK:=hid (HK.out.trans hk (fun _ _ h=>h))
       have HI:=hid hbi
       replace hrg:=range_keep hrg hk (fun h=>h)
       try replace HR:=hid (HR.out.keep hk (fun h=>h))
       clear hk hbi hwn
       refine hK _ _ (by repeat' first|exact all_nil|refine all_cons (by first|assumption|exact hk.cell (by assumption) (fun h=>h)|exact range_keep (by assumption) hk (fun h=>h)) ?_) ?_
       clear hK K
       try simp only [NS]
       refine AtC 20 fun K hK=>?_
       go_simp
       refine(OV _ (p2 d) (p2 d) (by omega) (by omega)).mono ?_
       rintro e w2 ⟨rfl,hk⟩
       replace HK:=hid (HK.out.trans hk (fun _ _ h=>h))
       try replace HI:=hid (HI.out.keep hk (fun h=>h))
       replace hrg:=range_keep hrg hk (fun h=>h)
       clear hk
       refine hK _ _ all_nil ?_
       clear hK K
       try simp only [NS]
       refine AtP 22 (some 6) ?_
       try simp only [NS]
       refine AtC 21 fun K hK=>?_
       go_simp
       generalize hwn:World.alloc _ (.cells _ 63)=wn
       have hgr:=HK.out.size
       obtain⟨hk,hbr⟩:=alloc_new hwn
       replace HK:=hid (HK.out.trans hk (fun _ _ h=>h))
       have HR:=hid hbr
       replace hrg:=range_keep hrg hk (fun h=>h)
       try replace HI:=hid (HI.out.keep hk (fun h=>h))
       clear hk hbr hwn
       refine hK _ _ all_nil ?_
       clear hK K
       try simp only [NS]
       refine AtP 23 (some 7) ?_
       try simp only [NS]
       refine At.done (by kernel_rfl) ?_
       go_wp2_with fail
       exact bodyPost_ret (v:=.tuple #[_,_]) (by simp [results,Tryz.results52,go_sem]<;>exact⟨rfl,rfl⟩) rfl (HD.out _ _ _ hgi hgr HI.out HR.out HK.out)
     · skip
       go_simp
       refine(OV _ (p2 d) (p2 d) (by omega) (by omega)).mono ?_
       rintro e w2 ⟨rfl,hk⟩
       replace HK:=hid (HK.out.trans hk (fun _ _ h=>h))
       try replace HI:=hid (HI.out.keep hk (fun h=>h))
       replace hrg:=range_keep hrg hk (fun h=>h)
       clear hk
       refine hK _ _ (by repeat' first|exact all_nil|refine all_cons (by first|assumption|exact hk.cell (by assumption) (fun h=>h)|exact range_keep (by assumption) hk (fun h=>h)) ?_) ?_
       clear hK K
       try simp only [NS]
       refine At.two_all 0 21 rfl rfl (by kernel_rfl) rfl rfl (fun K hK=>?_) (fun K hK=>?_)
       · skip
         go_simp
         generalize hwn:World.alloc _ (.cells #[.int .i64 1,.int .i64 2,.int .i64 3] 3)=wn
         have hgi:=HK.out.size
         obtain⟨hk,hbi⟩:=alloc_new hwn
         replace HK:=hid (HK.out.trans hk (fun _ _ h=>h))
         have HI:=hid hbi
         replace hrg:=range_keep hrg hk (fun h=>h)
         try replace HR:=hid (HR.out.keep hk (fun h=>h))
         clear hk hbi hwn
         refine hK _ _ (by repeat' first|exact all_nil|refine all_cons (by first|assumption|exact hk.cell (by assumption) (fun h=>h)|exact range_keep (by assumption) hk (fun h=>h)) ?_) ?_
         clear hK K
         try simp only [NS]
         refine AtP 22 (some 6) ?_
         try simp only [NS]
         refine AtC 21 fun K hK=>?_
         go_simp
         generalize hwn:World.alloc _ (.cells _ 63)=wn
         have hgr:=HK.out.size
         obtain⟨hk,hbr⟩:=alloc_new hwn
         replace HK:=hid (HK.out.trans hk (fun _ _ h=>h))
         have HR:=hid hbr
         replace hrg:=range_keep hrg hk (fun h=>h)
         try replace HI:=hid (HI.out.keep hk (fun h=>h))
         clear hk hbr hwn
         refine hK _ _ all_nil ?_
         clear hK K
         try simp only [NS]
         refine AtP 23 (some 7) ?_
         try simp only [NS]
         refine At.done (by kernel_rfl) ?_
         go_wp2_with fail
         exact bodyPost_ret (v:=.tuple #[_,_]) (by simp [results,Tryz.results52,go_sem]<;>exact⟨rfl,rfl⟩) rfl (HD.out _ _ _ hgi hgr HI.out HR.out HK.out)
       · skip
         go_simp
         generalize hwn:World.alloc _ (.cells _ 63)=wn
         have hgr:=HK.out.size
         obtain⟨hk,hbr⟩:=alloc_new hwn
         replace HK:=hid (HK.out.trans hk (fun _ _ h=>h))
         have HR:=hid hbr
         replace hrg:=range_keep hrg hk (fun h=>h)
         try replace HI:=hid (HI.out.keep hk (fun h=>h))
         clear hk hbr hwn
         refine hK _ _ (by repeat' first|exact all_nil|refine all_cons (by first|assumption|exact hk.cell (by assumption) (fun h=>h)|exact range_keep (by assumption) hk (fun h=>h)) ?_) ?_
         clear hK K
         try simp only [NS]
         refine At.call_all 0 rfl (by kernel_rfl) rfl (fun K hK=>?_)
         go_simp
         generalize hwn:World.alloc _ (.cells #[.int .i64 1,.int .i64 2,.int .i64 3] 3)=wn
         have hgi:=HK.out.size
         obtain⟨hk,hbi⟩:=alloc_new hwn
         replace HK:=hid (HK.out.trans hk (fun _ _ h=>h))
         have HI:=hid hbi
         replace hrg:=range_keep hrg hk (fun h=>h)
         try replace HR:=hid (HR.out.keep hk (fun h=>h))
         clear hk hbi hwn
         refine hK _ _ (by repeat' first|exact all_nil|refine all_cons (by first|assumption|exact hk.cell (by assumption) (fun h=>h)|exact range_keep (by assumption) hk (fun h=>h)) ?_) ?_
         clear hK K
         try simp only [NS]
         refine AtP 22 (some 6) ?_
         try simp only [NS]
         refine AtP 23 (some 7) ?_
         try simp only [NS]
         refine At.done (by kernel_rfl) ?_
         go_wp2_with fail
         exact bodyPost_ret (v:=.tuple #[_,_]) (by simp [results,Tryz.results52,go_sem]<;>exact⟨rfl,rfl⟩) rfl (HD.out _ _ _ hgi hgr HI.out HR.out HK.out)
end Go.Proofs.YthfogcgdijmaoaaGreat
