/-
  Part 3 of the proof: Over Part Bands. Conditions: those of the statements.
-/
import Derived.Test.YthfogcgdijmaoaaGreatW2
set_option maxRecDepth 100000
set_option maxHeartbeats 16000000
set_option linter.unusedVariables false
set_option linter.unusedSimpArgs false
namespace Go.Proofs.YthfogcgdijmaoaaGreat
open Go.RowKit
def Rc.over (r:Rc) (dx dy ax ay:Int):Rc:=⟨ceilI (r.x0-ax) dx,ceilI (r.y0-ay) dy,ceilI (r.x1-ax) dx,ceilI (r.y1-ay) dy⟩
def Rc.cells (r:Rc):Array Value:=#[.int .i64 r.x0,.int .i64 r.y0,.int .i64 r.x1,.int .i64 r.y1]
theorem over_any (w:World) (r:Rc) (dx dy ax ay:Int) (h:r.fits 16777216) (hdx:0<dx∧dx≤16777216) (hdy:0<dy∧dy≤16777216) (hax:0≤ax∧ax≤16777216) (hay:0≤ay∧ay≤16777216):
 Calls Tryz.prog 47 #[r.val,.int .i64 dx,.int .i64 dy,.int .i64 ax,.int .i64 ay] w fun e w'=>e=.returned (r.over dx dy ax ay).val∧Keep (fun _=>False) w w':=by
 obtain⟨x0,y0,x1,y1⟩:=r
 obtain⟨h1,h2,h3,h4⟩:=h
 simp only at h1 h2 h3 h4
 have hb:=Blk.new w 63 #[.int .i64 x0,.int .i64 y0,.int .i64 x1,.int .i64 y1]
 have hw1:IntKind.i64.wrap (x0-ax)=x0-ax:=IntWalk.i64_in _ (by omega)
 have hw2:IntKind.i64.wrap (y0-ay)=y0-ay:=IntWalk.i64_in _ (by omega)
 have hw3:IntKind.i64.wrap (x1-ax)=x1-ax:=IntWalk.i64_in _ (by omega)
 have hw4:IntKind.i64.wrap (y1-ay)=y1-ay:=IntWalk.i64_in _ (by omega)
 have HB:=hid hb
 clear hb
 go_enter Tryz.func47,Tryz.ntmps47
 unfold Rc.val
 simp only
 go_wp2_with fail
 have hb1:=HB.out.alloc (.cells #[.int .i64 0,.int .i64 0,.int .i64 0,.int .i64 0] 63)
 have hb2:=Blk.new (w.alloc (.cells #[.int .i64 x0,.int .i64 y0,.int .i64 x1,.int .i64 y1] 63)) 63 #[.int .i64 0,.int .i64 0,.int .i64 0,.int .i64 0]
 have hkk:=((Keep.refl (fun _=>False) w).alloc (.cells #[.int .i64 x0,.int .i64 y0,.int .i64 x1,.int .i64 y1] 63)).alloc (.cells #[.int .i64 0,.int .i64 0,.int .i64 0,.int .i64 0] 63)
 generalize (w.alloc (.cells #[.int .i64 x0,.int .i64 y0,.int .i64 x1,.int .i64 y1] 63)).alloc (.cells #[.int .i64 0,.int .i64 0,.int .i64 0,.int .i64 0] 63)=w1 at*
 have c0:w1.drew.cell? ⟨w.heap.size,0,none⟩=some (.int .i64 x0):=hb1.cell 0
 have c1:w1.drew.cell? ⟨w.heap.size,1,none⟩=some (.int .i64 y0):=hb1.cell 1
 have c2:w1.drew.cell? ⟨w.heap.size,2,none⟩=some (.int .i64 x1):=hb1.cell 2
 have c3:w1.drew.cell? ⟨w.heap.size,3,none⟩=some (.int .i64 y1):=hb1.cell 3
 have HK:=hid hkk.drew
 have HB2:=hid (show Blk w1 (w.heap.size+1) 63 #[.int .i64 0,.int .i64 0,.int .i64 0,.int .i64 0] by simpa using hb2).drew
 clear hb1 hb2 hkk HB
 refine At.start (L:=#[false,false,false,false,false,false,false,false,false,false,false,false,false,false,false,false,false,false,false,false,false,false,false,false,false,false]) (by kernel_rfl) rfl ?_
 refine AtP 0 11 ?_
 refine AtL 1 12 Tryz.underlying3 ?_
 refine AtP 2 13 ?_
 refine AtP 3 14 ?_
 refine AtP 4 15 ?_
 refine AtP 6 17 ?_
 refine AtL 7 18 Tryz.underlying3 ?_
 refine AtP 8 19 ?_
 refine AtP 9 20 ?_
 refine AtP 10 21 ?_
 refine AtP 12 23 ?_
 refine AtL 13 24 Tryz.underlying3 ?_
 refine AtP 14 25 ?_
 refine AtP 15 26 ?_
 refine AtP 16 27 ?_
 refine AtP 18 29 ?_
 refine AtL 19 30 Tryz.underlying3 ?_
 refine AtP 20 31 ?_
 refine AtP 21 32 ?_
 refine AtP 22 33 ?_
 refine At.call_all 5 rfl (by kernel_rfl) rfl (fun K hK=>?_)
 go_simp
 refine(ceil_any _ (x0-ax) dx (by omega) (by omega) hdx.1 (by omega)).mono ?_
 rintro e w2 ⟨rfl,rfl⟩
 refine hK _ _ (by repeat' first|exact all_nil|refine all_cons (by first|assumption|exact hk.cell (by assumption) (fun h=>h)|exact range_keep (by assumption) hk (fun h=>h)) ?_) ?_
 clear hK K
 try simp only [NS]
 refine At.call_all 11 rfl (by kernel_rfl) rfl (fun K hK=>?_)
 go_simp
 refine(ceil_any _ (y0-ay) dy (by omega) (by omega) hdy.1 (by omega)).mono ?_
 rintro e w2 ⟨rfl,rfl⟩
 refine hK _ _ (by repeat' first|exact all_nil|refine all_cons (by first|assumption|exact hk.cell (by assumption) (fun h=>h)|exact range_keep (by assumption) hk (fun h=>h)) ?_) ?_
 clear hK K
 try simp only [NS]
 refine At.call_all 17 rfl (by kernel_rfl) rfl (fun K hK=>?_)
 go_simp
 refine(ceil_any _ (x1-ax) dx (by omega) (by omega) hdx.1 (by omega)).mono ?_
 rintro e w2 ⟨rfl,rfl⟩
 refine hK _ _ (by repeat' first|exact all_nil|refine all_cons (by first|assumption|exact hk.cell (by assumption) (fun h=>h)|exact range_keep (by assumption) hk (fun h=>h)) ?_) ?_
 clear hK K
 try simp only [NS]
 refine AtC 23 fun K hK=>?_
 go_simp
 refine(ceil_any _ (y1-ay) dy (by omega) (by omega) hdy.1 (by omega)).mono ?_
 rintro e w2 ⟨rfl,rfl⟩
 refine hK _ _ all_nil ?_
 clear hK K
 try simp only [NS]
 refine AtP 24 35 ?_
 refine AtC 25 fun K hK=>?_
 refine wp_store_row 63 _ _ rfl (w.heap.size+1) (#[.int .i64 (ceilI (x0-ax) dx),.int .i64 (ceilI (y0-ay) dy),.int .i64 (ceilI (x1-ax) dx),.int .i64 (ceilI (y1-ay) dy)]) rfl rfl 63 _ HB2.out (by kernel_rfl) rfl (by simp [Value.oneCell']) ?_
 refine hK _ _ all_nil ?_
 clear hK K
 try simp only [NS]
 refine At.done (by kernel_rfl) ?_
 go_wp2_with fail
 exact bodyPost_ret (ret_row rfl _ _ (w.heap.size+1) 63 _ _ HB2.out.row rfl Tryz.underlying63 rfl (by kernel_rfl)) rfl ⟨rfl,HK.out.row (.inr (by omega)) _⟩
def Rc.part (r:Rc) (dx dy:Int):Rc:=r.over dx dy 0 0
theorem part_any (w:World) (r:Rc) (dx dy:Int) (h:r.fits 16777216) (hdx:0<dx∧dx≤16777216) (hdy:0<dy∧dy≤16777216):
 Calls Tryz.prog 31 #[r.val,.int .i64 dx,.int .i64 dy] w fun e w'=>e=.returned (r.part dx dy).val∧Keep (fun _=>False) w w':=by
 have OV:=fun w=>over_any w r dx dy 0 0 h hdx hdy ⟨by omega,by omega⟩ ⟨by omega,by omega⟩
 have HB:=hid (Blk.new w 63 r.cells)
 have HK:=hid (((Keep.refl (fun _=>False) w).alloc (.cells r.cells 63)).alloc (.cells #[.int .i64 0,.int .i64 0,.int .i64 0,.int .i64 0] 63))
 have HB2:=hid (Blk.new1 w (.cells r.cells 63) 63 #[.int .i64 0,.int .i64 0,.int .i64 0,.int .i64 0])
 obtain⟨x0,y0,x1,y1⟩:=r
 unfold Rc.val at OV ⊢
 unfold Rc.cells at HB HK HB2
 simp only at OV ⊢
 go_enter Tryz.func31,Tryz.ntmps31
 go_wp2_with fail
 refine(OV _).mono ?_
 rintro e w2 ⟨rfl,hk⟩
 have HK2:=hid (HK.out.trans hk (fun _ _ h=>h))
 have HB3:=hid (HB2.out.keep hk (fun h=>h))
 clear hk HB HB2 HK OV
 simp only [Rc.part]
 go_wp2_with (refine wpList_store_row rfl _ _ _ rfl (w.heap.size+1) _ rfl rfl _ _ HB3.out (by kernel_rfl) rfl (by simp [Value.oneCell']) ?_)
 exact bodyPost_ret (ret_row rfl _ _ (w.heap.size+1) 63 _ _ HB3.out.row rfl Tryz.underlying63 rfl (by kernel_rfl)) rfl ⟨rfl,HK2.out.row (.inr (by omega)) _⟩
structure Im where
 x:Int
 y:Int
 ox:Int
 oy:Int
 A:Option Addr
 n:Nat
 c:Nat
def Im.cells (m:Im):Array Value:=#[.int .i64 m.x,.int .i64 m.y,.int .i64 m.ox,.int .i64 m.oy,.slice m.A m.n m.c]
def Im.val (m:Im):Value:=.agg m.cells
def Im.whole (m:Im):Rc:=⟨m.ox,m.oy,m.x,m.y⟩
theorem whole_any (w:World) (m:Im):
 Calls Tryz.prog 32 #[m.val] w fun e w'=>e=.returned m.whole.val∧Keep (fun _=>False) w w':=by
 have HK:=hid (((Keep.refl (fun _=>False) w).alloc (.cells m.cells 29)).alloc (.cells #[.int .i64 0,.int .i64 0,.int .i64 0,.int .i64 0] 63))
 have HB2:=hid (Blk.new1 w (.cells m.cells 29) 63 #[.int .i64 0,.int .i64 0,.int .i64 0,.int .i64 0])
 obtain⟨x,y,ox,oy,A,n,c⟩:=m
 unfold Im.val
 unfold Im.cells at HK HB2 ⊢
 simp only at HK HB2 ⊢
 go_enter Tryz.func32,Tryz.ntmps32
 go_wp2_with (refine wpList_store_row rfl _ _ _ rfl (w.heap.size+1) _ rfl rfl _ _ HB2.out (by kernel_rfl) rfl (by simp [Value.oneCell']) ?_)
 exact bodyPost_ret (ret_row rfl _ _ (w.heap.size+1) 63 _ _ HB2.out.row rfl Tryz.underlying63 rfl (by kernel_rfl)) rfl ⟨rfl,HK.out.row (.inr (by omega)) _⟩
def p2 (d:Nat):Int:=2^d
theorem p2_nat (d:Nat):p2 d=((2^d:Nat):Int):=by simp [p2]
theorem p2_pos (d:Nat):0<p2 d:=by rw [p2_nat];have:=Nat.pow_pos (n:=d) (show 0<2 by decide);omega
theorem p2_mono {d e:Nat} (h:d≤e):p2 d≤p2 e:=by rw [p2_nat,p2_nat];have:=Nat.pow_le_pow_right (n:=2) (by decide) h;omega
theorem p2_16 {d:Nat} (h:d≤16):p2 d≤65536:=p2_mono h
theorem p2_succ (d:Nat):p2 (d+1)=2*p2 d:=by unfold p2;rw [Int.pow_succ];omega
theorem p2_wrap {d:Nat} (h:d≤16):wrap64 (2^d)=p2 d:=IntWalk.wrap64_in _ (by have:=p2_16 h;have:=p2_pos d;unfold p2 at *;omega)
theorem res_any (w:World) (r:Rc) (L k:Nat) (h:r.fits 16777216) (hk:k≤L) (hL:L≤8):
 Calls Tryz.prog 51 #[r.val,.int .i64 L,.int .i64 k] w fun e w'=>e=.returned (r.over (p2 (L-k)) (p2 (L-k)) 0 0).val∧Keep (fun _=>False) w w':=by
 have HK:=hid (((Keep.refl (fun _=>False) w).alloc (.cells r.cells 63)).alloc (.cells #[.int .i64 0,.int .i64 0,.int .i64 0,.int .i64 0] 63))
 have HB2:=hid (Blk.new1 w (.cells r.cells 63) 63 #[.int .i64 0,.int .i64 0,.int .i64 0,.int .i64 0])
 have OV:=fun w d (hd:d≤8)=>over_any w r (p2 d) (p2 d) 0 0 h ⟨p2_pos d,by have:=p2_16 (d:=d) (by omega);omega⟩ ⟨p2_pos d,by have:=p2_16 (d:=d) (by omega);omega⟩ ⟨by omega,by omega⟩ ⟨by omega,by omega⟩
 obtain⟨d,rfl⟩: ∃d,L=k+d:=⟨L-k,by omega⟩
 have hd:d≤8:=by omega
 have hw:IntKind.i64.wrap (((k+d:Nat):Int)-(k:Int))=(d:Int):=by rw [IntWalk.i64_in _ (by omega)];omega
 have hp:=p2_wrap (d:=d) (by omega)
 rw [show k+d-k=d by omega]
 obtain⟨x0,y0,x1,y1⟩:=r
 unfold Rc.val at OV ⊢
 unfold Rc.cells at HK HB2
 simp only at HK HB2 OV ⊢
 go_enter Tryz.func51,Tryz.ntmps51
 go_wp2_with fail
 refine(OV _ d hd).mono ?_
 rintro e w2 ⟨rfl,hk⟩
 have HK2:=hid (HK.out.trans hk (fun _ _ h=>h))
 have HB3:=hid (HB2.out.keep hk (fun h=>h))
 clear hk HB2 HK OV
 go_wp2_with (refine wpList_store_row rfl _ _ _ rfl (w.heap.size+1) _ rfl rfl _ _ HB3.out (by kernel_rfl) rfl (by simp [Value.oneCell']) ?_)
 exact bodyPost_ret (ret_row rfl _ _ (w.heap.size+1) 63 _ _ HB3.out.row rfl Tryz.underlying63 rfl (by kernel_rfl)) rfl ⟨rfl,HK2.out.row (.inr (by omega)) _⟩
def Rc.meet (a b:Rc):Rc:=⟨max a.x0 b.x0,max a.y0 b.y0,min a.x1 b.x1,min a.y1 b.y1⟩
theorem meet_any (w:World) (a b:Rc):
 Calls Tryz.prog 74 #[a.val,b.val] w fun e w'=>e=.returned (a.meet b).val∧Keep (fun _=>False) w w':=by
 have HK:=hid ((((Keep.refl (fun _=>False) w).alloc (.cells a.cells 63)).alloc (.cells b.cells 63)).alloc (.cells #[.int .i64 0,.int .i64 0,.int .i64 0,.int .i64 0] 63))
 have HB2:=hid (Blk.new2 w (.cells a.cells 63) (.cells b.cells 63) 63 #[.int .i64 0,.int .i64 0,.int .i64 0,.int .i64 0])
 obtain⟨x0,y0,x1,y1⟩:=a
 obtain⟨u0,v0,u1,v1⟩:=b
 unfold Rc.val
 unfold Rc.cells at HK HB2
 simp only at HK HB2 ⊢
 go_enter Tryz.func74,Tryz.ntmps74
 go_wp2_with (first|(first|refine wpList_max rfl _ _ _ rfl _ _ rfl rfl ?_|refine wpList_min rfl _ _ _ rfl _ _ rfl rfl ?_)|(refine wpList_store_row rfl _ _ _ rfl (w.heap.size+2) _ rfl rfl _ _ HB2.out (by kernel_rfl) rfl (by simp [Value.oneCell']) ?_))
 exact bodyPost_ret (ret_row rfl _ _ (w.heap.size+2) 63 _ _ HB2.out.row rfl Tryz.underlying63 rfl (by kernel_rfl)) rfl ⟨rfl,HK.out.row (.inr (by omega)) _⟩
def rcs (l:List Rc):List Value:=l.flatMap fun r=>r.cells.toList
def bandsR (r:Rc) (L k:Nat):List Rc:=if k=0 then [r.over (p2 L) (p2 L) 0 0]else [r.over (p2 (L-k+1)) (p2 (L-k+1)) (p2 (L-k)) 0,r.over (p2 (L-k+1)) (p2 (L-k+1)) 0 (p2 (L-k)),r.over (p2 (L-k+1)) (p2 (L-k+1)) (p2 (L-k)) (p2 (L-k))]
def bandsK (k:Nat):List Int:=if k=0 then [0]else [1,2,3]
def BandsP (w:World) (r:Rc) (L k:Nat) (e:Ending) (w':World):Prop:=
 ∃g g',e=.returned (.tuple #[.slice (some ⟨g,0,none⟩) (bandsK k).length (bandsK k).length,.slice (some ⟨g',0,none⟩) (bandsR r L k).length (bandsR r L k).length])∧w.heap.size≤g∧w.heap.size≤g'∧Blk w' g 3 ((bandsK k).map (Value.int .i64)).toArray∧Blk w' g' 63 (rcs (bandsR r L k)).toArray∧Keep (fun _=>False) w w'
theorem bands_low (w:World) (r:Rc) (L:Nat) (h:r.fits 16777216) (hL:L≤8):
 Calls Tryz.prog 52 #[r.val,.int .i64 L,.int .i64 0] w (BandsP w r L 0):=by
 have RE:=fun w=>res_any w r L 0 h (by omega) hL
 have HK:=hid (((Keep.refl (fun _=>False) w).alloc (.cells r.cells 63)).alloc (.cells #[.int .i64 0] 3))
 have HB:=hid (Blk.new1 w (.cells r.cells 63) 3 #[.int .i64 0])
 obtain⟨x0,y0,x1,y1⟩:=r
 have HD:=hid (show∀w' g',w.heap.size≤g'→Blk w' (w.heap.size+1) 3 #[.int .i64 0]→Blk w' g' 63 ((Rc.over ⟨x0,y0,x1,y1⟩ (p2 L) (p2 L) 0 0).cells)→Keep (fun _=>False) w w'→BandsP w ⟨x0,y0,x1,y1⟩ L 0 (.returned (.tuple #[.slice (some ⟨w.heap.size+1,0,none⟩) 1 1,.slice (some ⟨g',0,none⟩) 1 1])) w' from fun w' g' h1 h2 h3 h4=>⟨_,g',rfl,by omega,h1,h2,h3,h4⟩)
 unfold Rc.val at RE ⊢
 unfold Rc.cells at HK HB
 simp only at HK HB RE ⊢
 go_enter Tryz.func52,Tryz.ntmps52
 go_wp2_with fail
 refine(RE _).mono ?_
 rintro e w2 ⟨rfl,hk⟩
 have HK2:=hid (HK.out.trans hk (fun _ _ h=>h))
 have HB3:=hid (HB.out.keep hk (fun h=>h))
 clear hk HB HK RE
 go_wp2_with fail
 refine bodyPost_ret (v:=.tuple #[.slice (some ⟨w.heap.size+1,0,none⟩) 1 1,.slice (some ⟨w2.heap.size,0,none⟩) 1 1]) (by simp [results,Tryz.results52,go_sem]) rfl (HD.out _ _ (HK2.out.size' (Nat.le_refl _)) (HB3.out.alloc _) (Blk.new _ _ _) (HK2.out.alloc _))
theorem bands_high (w:World) (r:Rc) (L k:Nat) (h:r.fits 16777216) (hL:L≤8) (hk0:0<k) (hkL:k≤L):
 Calls Tryz.prog 52 #[r.val,.int .i64 L,.int .i64 k] w (BandsP w r L k):=by
 obtain⟨d,rfl⟩: ∃d,L=k+d:=⟨L-k,by omega⟩
 have hd:d≤7:=by omega
 have OV:=fun w ax ay (h1:0≤ax∧ax≤16777216) (h2:0≤ay∧ay≤16777216)=>over_any w r (p2 (d+1)) (p2 (d+1)) ax ay h ⟨p2_pos _,by have:=p2_16 (d:=d+1) (by omega);omega⟩ ⟨p2_pos _,by have:=p2_16 (d:=d+1) (by omega);omega⟩ h1 h2
 have hp1:=p2_pos d
 have hp2:=p2_16 (d:=d) (by omega)
 have hps:=p2_succ d
 have HK:=hid ((Keep.refl (fun _=>False) w).alloc (.cells r.cells 63))
 have HB:=hid (Blk.new w 63 r.cells)
 have HD:=hid (show∀w' g g',w.heap.size≤g→w.heap.size≤g'→Blk w' g 3 #[.int .i64 1,.int .i64 2,.int .i64 3]→Blk w' g' 63 ([(r.over (p2 (d+1)) (p2 (d+1)) (p2 d) 0).x0,(r.over (p2 (d+1)) (p2 (d+1)) (p2 d) 0).y0,(r.over (p2 (d+1)) (p2 (d+1)) (p2 d) 0).x1,(r.over (p2 (d+1)) (p2 (d+1)) (p2 d) 0).y1,(r.over (p2 (d+1)) (p2 (d+1)) 0 (p2 d)).x0,(r.over (p2 (d+1)) (p2 (d+1)) 0 (p2 d)).y0,(r.over (p2 (d+1)) (p2 (d+1)) 0 (p2 d)).x1,(r.over (p2 (d+1)) (p2 (d+1)) 0 (p2 d)).y1,(r.over (p2 (d+1)) (p2 (d+1)) (p2 d) (p2 d)).x0,(r.over (p2 (d+1)) (p2 (d+1)) (p2 d) (p2 d)).y0,(r.over (p2 (d+1)) (p2 (d+1)) (p2 d) (p2 d)).x1,(r.over (p2 (d+1)) (p2 (d+1)) (p2 d) (p2 d)).y1].map (Value.int .i64)).toArray→Keep (fun _=>False) w w'→BandsP w r (k+d) k (.returned (.tuple #[.slice (some ⟨g,0,none⟩) 3 3,.slice (some ⟨g',0,none⟩) 3 3])) w' from fun w' g g' h1 h1' h2 h3 h4=>by
  have e1:bandsK k=[1,2,3]:=if_neg (by omega)
  have e2:bandsR r (k+d) k=[r.over (p2 (d+1)) (p2 (d+1)) (p2 d) 0,r.over (p2 (d+1)) (p2 (d+1)) 0 (p2 d),r.over (p2 (d+1)) (p2 (d+1)) (p2 d) (p2 d)]:=by
   unfold bandsR
   rw [if_neg (by omega),show k+d-k=d by omega]
  exact⟨g,g',by rw [e1,e2];rfl,h1,h1',by rw [e1];exact h2,by rw [e2];exact h3,h4⟩)
 have hw:IntKind.i64.wrap (((k+d:Nat):Int)-(k:Int))=(d:Int):=by rw [IntWalk.i64_in _ (by omega)];omega
 have hw1:IntKind.i64.wrap ((d:Int)+1)=((d+1:Nat):Int):=by rw [IntWalk.i64_in _ (by omega)];omega
 have hpw:=p2_wrap (d:=d+1) (by omega)
 have hq:(p2 (d+1))/2=p2 d:=by rw [hps];omega
 have hqt:(p2 (d+1)).tdiv 2=p2 d:=by rw [Int.tdiv_eq_ediv_of_nonneg (by omega),hq]
 have hqw:IntKind.i64.wrap (p2 d)=p2 d:=IntWalk.i64_in _ (by omega)
 have HP:=hid hps
 clear hps hq
 obtain⟨x0,y0,x1,y1⟩:=r
 unfold Rc.val at OV ⊢
 unfold Rc.cells at HK HB
 simp only at HK HB OV ⊢
 go_enter Tryz.func52,Tryz.ntmps52
 go_wp2_with fail
 have hrg:(w.alloc (.cells #[.int .i64 x0,.int .i64 y0,.int .i64 x1,.int .i64 y1] 63)).drew.rangeAt w.heap.size 0 [.int .i64 x0,.int .i64 y0,.int .i64 x1,.int .i64 y1]:=HB.out.range
 replace HK:=hid HK.out.drew
 clear HB
 generalize w.alloc (.cells #[.int .i64 x0,.int .i64 y0,.int .i64 x1,.int .i64 y1] 63)=w1 at*
 refine At.start (L:=#[false,false,false,false,false,false,false,false,false,false,false,false,false,false,false,false,false,false,false,false,false,false,false,false]) (by kernel_rfl) rfl ?_
 generalize w1.drew=w9 at*
 first|refine AtL 1 23 Tryz.underlying63 ?_|refine AtR 1 23 Tryz.underlying63 ?_
 refine AtP 2 24 ?_
 refine AtP 3 25 ?_
 refine AtP 4 26 ?_
 refine AtP 5 27 ?_
 first|refine AtL 7 29 Tryz.underlying63 ?_|refine AtR 7 29 Tryz.underlying63 ?_
 refine AtP 8 30 ?_
 refine AtP 9 31 ?_
 refine AtP 10 32 ?_
 refine AtP 11 33 ?_
 first|refine AtL 13 35 Tryz.underlying63 ?_|refine AtR 13 35 Tryz.underlying63 ?_
 refine AtP 14 36 ?_
 refine AtP 15 37 ?_
 refine AtP 16 38 ?_
 refine AtP 17 39 ?_
 refine AtP 18 40 ?_
 refine AtP 19 41 ?_
 refine At.two_all 0 6 rfl rfl (by kernel_rfl) rfl rfl (fun K hK=>?_) (fun K hK=>?_)
 · skip
   go_simp
   generalize hwn:World.alloc _ (.cells #[.int .i64 1,.int .i64 2,.int .i64 3] 3)=wn
   have hgi:=HK.out.size
   obtain⟨hk,hbi⟩:=alloc_new hwn
   replace HK:=hid (HK.out.trans hk (fun _ _ h=>h))
   have HI:=hid hbi
   replace hrg:=range_keep hrg hk (fun h=>h)
   try replace HR:=hid (HR.out.keep hk (fun h=>h))
   clear hk hbi hwn
   refine hK _ _ (by repeat' first|exact all_nil|refine all_cons (by first|assumption|exact hk.cell (by assumption) (fun h=>h)|exact range_keep (by assumption) hk (fun h=>h)) ?_) ?_
   clear hK K
   try simp only [NS]
   refine At.call_all 6 rfl (by kernel_rfl) rfl (fun K hK=>?_)
   go_simp
   refine(OV _ (p2 d) 0 (by omega) (by omega)).mono ?_
   rintro e w2 ⟨rfl,hk⟩
   replace HK:=hid (HK.out.trans hk (fun _ _ h=>h))
   try replace HI:=hid (HI.out.keep hk (fun h=>h))
   replace hrg:=range_keep hrg hk (fun h=>h)
   clear hk
   refine hK _ _ (by repeat' first|exact all_nil|refine all_cons (by first|assumption|exact hk.cell (by assumption) (fun h=>h)|exact range_keep (by assumption) hk (fun h=>h)) ?_) ?_
   clear hK K
   try simp only [NS]
   refine At.call_all 12 rfl (by kernel_rfl) rfl (fun K hK=>?_)
   go_simp
   refine(OV _ 0 (p2 d) (by omega) (by omega)).mono ?_
   rintro e w2 ⟨rfl,hk⟩
   replace HK:=hid (HK.out.trans hk (fun _ _ h=>h))
   try replace HI:=hid (HI.out.keep hk (fun h=>h))
   replace hrg:=range_keep hrg hk (fun h=>h)
   clear hk
   refine hK _ _ (by repeat' first|exact all_nil|refine all_cons (by first|assumption|exact hk.cell (by assumption) (fun h=>h)|exact range_keep (by assumption) hk (fun h=>h)) ?_) ?_
   clear hK K
   try simp only [NS]
   refine AtC 20 fun K hK=>?_
   go_simp
   refine(OV _ (p2 d) (p2 d) (by omega) (by omega)).mono ?_
   rintro e w2 ⟨rfl,hk⟩
   replace HK:=hid (HK.out.trans hk (fun _ _ h=>h))
   try replace HI:=hid (HI.out.keep hk (fun h=>h))
   replace hrg:=range_keep hrg hk (fun h=>h)
   clear hk
   refine hK _ _ all_nil ?_
   clear hK K
   try simp only [NS]
   refine AtP 22 6 ?_
   refine AtC 21 fun K hK=>?_
   go_simp
   generalize hwn:World.alloc _ (.cells _ 63)=wn
   have hgr:=HK.out.size
   obtain⟨hk,hbr⟩:=alloc_new hwn
   replace HK:=hid (HK.out.trans hk (fun _ _ h=>h))
   have HR:=hid hbr
   replace hrg:=range_keep hrg hk (fun h=>h)
   try replace HI:=hid (HI.out.keep hk (fun h=>h))
   clear hk hbr hwn
   refine hK _ _ all_nil ?_
   clear hK K
   try simp only [NS]
   refine AtP 23 7 ?_
   refine At.done (by kernel_rfl) ?_
   go_wp2_with fail
   exact bodyPost_ret (v:=.tuple #[_,_]) (by simp [results,Tryz.results52,go_sem]<;>exact⟨rfl,rfl⟩) rfl (HD.out _ _ _ hgi hgr HI.out HR.out HK.out)
 · skip
   go_simp
   refine(OV _ (p2 d) 0 (by omega) (by omega)).mono ?_
   rintro e w2 ⟨rfl,hk⟩
   replace HK:=hid (HK.out.trans hk (fun _ _ h=>h))
   try replace HI:=hid (HI.out.keep hk (fun h=>h))
   replace hrg:=range_keep hrg hk (fun h=>h)
   clear hk
   refine hK _ _ (by repeat' first|exact all_nil|refine all_cons (by first|assumption|exact hk.cell (by assumption) (fun h=>h)|exact range_keep (by assumption) hk (fun h=>h)) ?_) ?_
   clear hK K
   try simp only [NS]
   refine At.two_all 0 12 rfl rfl (by kernel_rfl) rfl rfl (fun K hK=>?_) (fun K hK=>?_)
   · skip
     go_simp
     generalize hwn:World.alloc _ (.cells #[.int .i64 1,.int .i64 2,.int .i64 3] 3)=wn
     have hgi:=HK.out.size
     obtain⟨hk,hbi⟩:=alloc_new hwn
     replace HK:=hid (HK.out.trans hk (fun _ _ h=>h))
     have HI:=hid hbi
     replace hrg:=range_keep hrg hk (fun h=>h)
     try replace HR:=hid (HR.out.keep hk (fun h=>h))
     clear hk hbi hwn
     refine hK _ _ (by repeat' first|exact all_nil|refine all_cons (by first|assumption|exact hk.cell (by assumption) (fun h=>h)|exact range_keep (by assumption) hk (fun h=>h)) ?_) ?_
     clear hK K
     try simp only [NS]
     refine At.call_all 12 rfl (by kernel_rfl) rfl (fun K hK=>?_)
     go_simp
     refine(OV _ 0 (p2 d) (by omega) (by omega)).mono ?_
     rintro e w2 ⟨rfl,hk⟩
     replace HK:=hid (HK.out.trans hk (fun _ _ h=>h))
     try replace HI:=hid (HI.out.keep hk (fun h=>h))
     replace hrg:=range_keep hrg hk (fun h=>h)
     clear hk
     refine hK _ _ (by repeat' first|exact all_nil|refine all_cons (by first|assumption|exact hk.cell (by assumption) (fun h=>h)|exact range_keep (by assumption) hk (fun h=>h)) ?_) ?_
     clear hK K
     try simp only [NS]
     refine AtC 20 fun K hK=>?_
     go_simp
     refine(OV _ (p2 d) (p2 d) (by omega) (by omega)).mono ?_
     rintro e w2 ⟨rfl,hk⟩
     replace HK:=hid (HK.out.trans hk (fun _ _ h=>h))
     try replace HI:=hid (HI.out.keep hk (fun h=>h))
     replace hrg:=range_keep hrg hk (fun h=>h)
     clear hk
     refine hK _ _ all_nil ?_
     clear hK K
     try simp only [NS]
     refine AtP 22 6 ?_
     refine AtC 21 fun K hK=>?_
     go_simp
     generalize hwn:World.alloc _ (.cells _ 63)=wn
     have hgr:=HK.out.size
     obtain⟨hk,hbr⟩:=alloc_new hwn
     replace HK:=hid (HK.out.trans hk (fun _ _ h=>h))
     have HR:=hid hbr
     replace hrg:=range_keep hrg hk (fun h=>h)
     try replace HI:=hid (HI.out.keep hk (fun h=>h))
     clear hk hbr hwn
     refine hK _ _ all_nil ?_
     clear hK K
     try simp only [NS]
     refine AtP 23 7 ?_
     refine At.done (by kernel_rfl) ?_
     go_wp2_with fail
     exact bodyPost_ret (v:=.tuple #[_,_]) (by simp [results,Tryz.results52,go_sem]<;>exact⟨rfl,rfl⟩) rfl (HD.out _ _ _ hgi hgr HI.out HR.out HK.out)
   · skip
     go_simp
     refine(OV _ 0 (p2 d) (by omega) (by omega)).mono ?_
     rintro e w2 ⟨rfl,hk⟩
     replace HK:=hid (HK.out.trans hk (fun _ _ h=>h))
     try replace HI:=hid (HI.out.keep hk (fun h=>h))
     replace hrg:=range_keep hrg hk (fun h=>h)
     clear hk
     refine hK _ _ (by repeat' first|exact all_nil|refine all_cons (by first|assumption|exact hk.cell (by assumption) (fun h=>h)|exact range_keep (by assumption) hk (fun h=>h)) ?_) ?_
     clear hK K
     try simp only [NS]
     refine At.two_all 0 20 rfl rfl (by kernel_rfl) rfl rfl (fun K hK=>?_) (fun K hK=>?_)
     · skip
       go_simp
       generalize hwn:World.alloc _ (.cells #[.int .i64 1,.int .i64 2,.int .i64 3] 3)=wn
       have hgi:=HK.out.size
       obtain⟨hk,hbi⟩:=alloc_new hwn
       replace HK:=hid (HK.out.trans hk (fun _ _ h=>h))
       have HI:=hid hbi
       replace hrg:=range_keep hrg hk (fun h=>h)
       try replace HR:=hid (HR.out.keep hk (fun h=>h))
       clear hk hbi hwn
       refine hK _ _ (by repeat' first|exact all_nil|refine all_cons (by first|assumption|exact hk.cell (by assumption) (fun h=>h)|exact range_keep (by assumption) hk (fun h=>h)) ?_) ?_
       clear hK K
       try simp only [NS]
       refine AtC 20 fun K hK=>?_
       go_simp
       refine(OV _ (p2 d) (p2 d) (by omega) (by omega)).mono ?_
       rintro e w2 ⟨rfl,hk⟩
       replace HK:=hid (HK.out.trans hk (fun _ _ h=>h))
       try replace HI:=hid (HI.out.keep hk (fun h=>h))
       replace hrg:=range_keep hrg hk (fun h=>h)
       clear hk
       refine hK _ _ all_nil ?_
       clear hK K
       try simp only [NS]
       refine AtP 22 6 ?_
       refine AtC 21 fun K hK=>?_
       go_simp
       generalize hwn:World.alloc _ (.cells _ 63)=wn
       have hgr:=HK.out.size
       obtain⟨hk,hbr⟩:=alloc_new hwn
       replace HK:=hid (HK.out.trans hk (fun _ _ h=>h))
       have HR:=hid hbr
       replace hrg:=range_keep hrg hk (fun h=>h)
       try replace HI:=hid (HI.out.keep hk (fun h=>h))
       clear hk hbr hwn
       refine hK _ _ all_nil ?_
       clear hK K
       try simp only [NS]
       refine AtP 23 7 ?_
       refine At.done (by kernel_rfl) ?_
       go_wp2_with fail
       exact bodyPost_ret (v:=.tuple #[_,_]) (by simp [results,Tryz.results52,go_sem]<;>exact⟨rfl,rfl⟩) rfl (HD.out _ _ _ hgi hgr HI.out HR.out HK.out)
     · skip
       go_simp
       refine(OV _ (p2 d) (p2 d) (by omega) (by omega)).mono ?_
       rintro e w2 ⟨rfl,hk⟩
       replace HK:=hid (HK.out.trans hk (fun _ _ h=>h))
       try replace HI:=hid (HI.out.keep hk (fun h=>h))
       replace hrg:=range_keep hrg hk (fun h=>h)
       clear hk
       refine hK _ _ (by repeat' first|exact all_nil|refine all_cons (by first|assumption|exact hk.cell (by assumption) (fun h=>h)|exact range_keep (by assumption) hk (fun h=>h)) ?_) ?_
       clear hK K
       try simp only [NS]
       refine At.two_all 0 21 rfl rfl (by kernel_rfl) rfl rfl (fun K hK=>?_) (fun K hK=>?_)
       · skip
         go_simp
         generalize hwn:World.alloc _ (.cells #[.int .i64 1,.int .i64 2,.int .i64 3] 3)=wn
         have hgi:=HK.out.size
         obtain⟨hk,hbi⟩:=alloc_new hwn
         replace HK:=hid (HK.out.trans hk (fun _ _ h=>h))
         have HI:=hid hbi
         replace hrg:=range_keep hrg hk (fun h=>h)
         try replace HR:=hid (HR.out.keep hk (fun h=>h))
         clear hk hbi hwn
         refine hK _ _ (by repeat' first|exact all_nil|refine all_cons (by first|assumption|exact hk.cell (by assumption) (fun h=>h)|exact range_keep (by assumption) hk (fun h=>h)) ?_) ?_
         clear hK K
         try simp only [NS]
         refine AtP 22 6 ?_
         refine AtC 21 fun K hK=>?_
         go_simp
         generalize hwn:World.alloc _ (.cells _ 63)=wn
         have hgr:=HK.out.size
         obtain⟨hk,hbr⟩:=alloc_new hwn
         replace HK:=hid (HK.out.trans hk (fun _ _ h=>h))
         have HR:=hid hbr
         replace hrg:=range_keep hrg hk (fun h=>h)
         try replace HI:=hid (HI.out.keep hk (fun h=>h))
         clear hk hbr hwn
         refine hK _ _ all_nil ?_
         clear hK K
         try simp only [NS]
         refine AtP 23 7 ?_
         refine At.done (by kernel_rfl) ?_
         go_wp2_with fail
         exact bodyPost_ret (v:=.tuple #[_,_]) (by simp [results,Tryz.results52,go_sem]<;>exact⟨rfl,rfl⟩) rfl (HD.out _ _ _ hgi hgr HI.out HR.out HK.out)
       · skip
         go_simp
         generalize hwn:World.alloc _ (.cells _ 63)=wn
         have hgr:=HK.out.size
         obtain⟨hk,hbr⟩:=alloc_new hwn
         replace HK:=hid (HK.out.trans hk (fun _ _ h=>h))
         have HR:=hid hbr
         replace hrg:=range_keep hrg hk (fun h=>h)
         try replace HI:=hid (HI.out.keep hk (fun h=>h))
         clear hk hbr hwn
         refine hK _ _ (by repeat' first|exact all_nil|refine all_cons (by first|assumption|exact hk.cell (by assumption) (fun h=>h)|exact range_keep (by assumption) hk (fun h=>h)) ?_) ?_
         clear hK K
         try simp only [NS]
         refine At.call_all 0 rfl (by kernel_rfl) rfl (fun K hK=>?_)
         go_simp
         generalize hwn:World.alloc _ (.cells #[.int .i64 1,.int .i64 2,.int .i64 3] 3)=wn
         have hgi:=HK.out.size
         obtain⟨hk,hbi⟩:=alloc_new hwn
         replace HK:=hid (HK.out.trans hk (fun _ _ h=>h))
         have HI:=hid hbi
         replace hrg:=range_keep hrg hk (fun h=>h)
         try replace HR:=hid (HR.out.keep hk (fun h=>h))
         clear hk hbi hwn
         refine hK _ _ (by repeat' first|exact all_nil|refine all_cons (by first|assumption|exact hk.cell (by assumption) (fun h=>h)|exact range_keep (by assumption) hk (fun h=>h)) ?_) ?_
         clear hK K
         try simp only [NS]
         refine AtP 22 6 ?_
         refine AtP 23 7 ?_
         refine At.done (by kernel_rfl) ?_
         go_wp2_with fail
         exact bodyPost_ret (v:=.tuple #[_,_]) (by simp [results,Tryz.results52,go_sem]<;>exact⟨rfl,rfl⟩) rfl (HD.out _ _ _ hgi hgr HI.out HR.out HK.out)
end Go.Proofs.YthfogcgdijmaoaaGreat
