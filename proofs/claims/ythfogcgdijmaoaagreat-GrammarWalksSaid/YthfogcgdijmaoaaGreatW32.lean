/-
  Part 32 of the proof: Fill. Conditions: those of the statements.
-/
import Derived.Test.YthfogcgdijmaoaaGreatW31
import Derived.Deep.DeepCutAuto
set_option maxRecDepth 100000
set_option maxHeartbeats 16000000
set_option linter.unusedVariables false
set_option linter.unusedSimpArgs false
namespace Go.Proofs.YthfogcgdijmaoaaGreat
open Go.RowKit
def BnOk (G:Nat→Option Kd) (w:World) (A:Option Addr) (n:Nat) (us:List Value) (ls:List Int):Prop:=Ro G w A n 1 us∧RowsOk G w us ls
theorem BnOk.nx {G G':Nat→Option Kd} {w w':World} {A:Option Addr} {n:Nat} {us:List Value} {ls:List Int} (h:BnOk G w A n us ls) (hx:Nx G w G' w'):BnOk G' w' A n us ls:=⟨h.1.nx hx,h.2.nx hx⟩
theorem fill_any (G0:Nat→Option Kd) (w0 w:World) (t:Rc) (m:Im) (p:Pm) (cs:List Cm) (A:Option Addr) (c:Nat) (outs:List Pln) (NBB:Nat) (hW:Wk 91 G0 w0 [] none w) (hI:InOk G0 w0.heap.size NBB w p.lev p.prec t cs A outs) (hP:PicOk w0 m p t cs) (hn1:1≤m.n):
 Calls Tryz.prog 40 #[.slice A outs.length c,.agg t.cells,.agg m.cells,.agg p.cells] w (FillP G0 w0 w):=by
 obtain⟨i1,hi1,ez0,ez1,ez2⟩:=info_parts info_sl
 have HMC:=hid (show m.cells=#[.int .i64 m.x,.int .i64 m.y,.int .i64 m.ox,.int .i64 m.oy,.slice m.A m.n m.c]from rfl)
 have HPC:=hid (show p.cells=#[.int .i64 p.tx,.int .i64 p.ty,.int .i64 p.lev,.int .i64 p.cbw,.int .i64 p.cbh,.int .i64 p.prec,.int .i64 p.style,.int .i64 p.order,.int .i64 p.lay,.bool p.rct,.bool p.sop,.bool p.eph]from rfl)
 obtain⟨n,hn⟩: ∃n,outs.length=n:=⟨_,rfl⟩
 have hnm:n=m.n:=by rw [← hn,hI.len,hP.len]
 have hn4:n≤4:=by have:=hP.n4;omega
 obtain⟨bA,oA,hA,_⟩:=hI.row.1.2 (by omega)
 subst hA
 rw [hn]
 have HNN:=hid (And.intro hn hnm)
 have HP:=hid hP
 have hlev:=hP.pm.lev
 have b1:=Blk.new1 w (.cells t.cells 63) 29 m.cells
 have HB2:=b1.alloc (.cells p.cells 31)
 have HB3:=Blk.new2 w (.cells t.cells 63) (.cells m.cells 29) 31 p.cells
 have HK0:=((((Keep.refl (fun _=>False) w).alloc (.cells t.cells 63)).alloc (.cells m.cells 29)).alloc (.cells p.cells 31))
 have hx:=hW.callRo HK0
 have H0:=hid (show Fl0 _ _ (w.heap.size+1) m p from⟨hW.roB HB2 (by omega),hW.roB HB3 (by omega)⟩)
 have H1:=hid (hI.nx hx.2)
 have HN:=hid hx.2
 have HW:=hid (hx.1.nil 22 1)
 clear hx HB2 HB3 HK0 b1 hW hI hP hn hnm
 generalize hAR:outs.map (fun P=>P.part.area)=AR at*
 have HAR:=hid hAR
 clear hAR
 go_enter Tryz.func40,Tryz.ntmps40
 go_upto_region 1 with fail
 generalize roF G0 w.heap.size (((w.alloc (.cells t.cells 63)).alloc (.cells m.cells 29)).alloc (.cells p.cells 31)).heap.size=G1 at*
 generalize ((w.alloc (.cells t.cells 63)).alloc (.cells m.cells 29)).alloc (.cells p.cells 31)=w1 at*
 obtain⟨s,hs⟩: ∃s,w.heap.size=s:=⟨_,rfl⟩
 rw [hs]at H0 ⊢
 clear hs
 go_wp2_with fail
 have H2:=hid (show RowsOk G1 w1 [] (AR.take 0)from RowsOk.nil)
 go_loopw [8,9] (fun l v wr=> ∃(i:Nat) (VA:Option Addr) (cV:Nat) (vs:List Value) (G:Nat→Option Kd),i≤n∧v=.int .i64 i∧l=.slice VA i cV∧Hid (Wk 91 G w0 [⟨22,1,VA,i,cV,vs⟩] none wr)∧Hid (Nx G0 w G wr)∧Hid (Fl0 G wr (s+1) m p)∧Hid (InOk G w0.heap.size NBB wr p.lev p.prec t cs (some ⟨bA,oA,none⟩) outs)∧Hid (RowsOk G wr vs (AR.take i))) (fun _ v _=>n-(intOf v).toNat)
 case atStart=>exact⟨0,none,0,[],G1,by omega,rfl,rfl,HW,HN,H0,H1,H2⟩
 case round=>
  clear HW HN H0 H1 H2
  clear G1
  obtain⟨i,VA,cV,vs,G,hi,rfl,rfl,HW,HN,H0,H1,H2⟩:=hrel
  by_cases hin:i<n
  · obtain⟨C,hCi⟩: ∃C,cs[i]? =some C:=⟨_,List.getElem?_eq_getElem (by rw [HP.out.len,←HNN.out.2];exact hin)⟩
    have hCm:=List.mem_of_getElem? hCi
    obtain⟨P,hPi⟩: ∃P,outs[i]? =some P:=⟨_,List.getElem?_eq_getElem (by rw [HNN.out.1];exact hin)⟩
    obtain⟨hxx,C',hC',hPp⟩:=H1.out.ok i P hPi
    clear hxx
    rw [hCi]at hC'
    injection hC' with hC'
    subst hC'
    obtain⟨b,o,hmA,hcr⟩:=RdS.get (f:=fun r:Cm=>r.cells.toList) (k:=5) (HP.out.row.keep0 HW.out.keep) (fun _=>rfl) (show i<m.n by rw [← HNN.out.2];exact hin) hCi
    have m4:wr.cell? ⟨s+1,4,none⟩=some (.slice m.A m.n m.c):=by rw [H0.out.bm.1.cell,HMC.out];rfl
    have hmn:i<m.n:=by rw [← HNN.out.2];exact hin
    have HCR:=hid (show wr.rangeAt b (o+i*5) [.int .i64 C.depth,.bool C.sg,.int .i64 C.dx,.int .i64 C.dy,.slice C.A C.n C.c]from hcr)
    rw [hmA]at m4
    have HCM:=hid hCm
    have HPI:=hid hPi
    obtain⟨pp,hpp⟩: ∃pp,P.part=pp:=⟨_,rfl⟩
    have HPP:=hid (And.intro hpp (show pp=t.part C.dx C.dy by rw [← hpp];exact hPp))
    clear hCi hPi hPp hmA hcr hCm hpp
    go_upto_region 6 with(first|(refine wpList_load_mid rfl 52 (.tmp 27) rfl _ _ rfl _ _ HCR.out Tryz.underlying52 rfl (by kernel_rfl) ?_)|(refine wpList_store_row rfl _ _ _ rfl wr.heap.size _ rfl rfl _ _ (Blk.new wr _ _) (by kernel_rfl) rfl (by simp [Value.oneCell']) ?_))
    rw [World.setRow_alloc_new]
    try simp only [NS]
    have hka:Keep (fun _=>False) wr (wr.alloc (.cells #[.int .i64 C.depth,.bool C.sg,.int .i64 C.dx,.int .i64 C.dy,.slice C.A C.n C.c] 52)):=(Keep.refl _ wr).alloc _
    have hx:=HW.out.callRo hka
    have HXB:=hid (HW.out.roB (w':=wr.alloc (.cells #[.int .i64 C.depth,.bool C.sg,.int .i64 C.dx,.int .i64 C.dy,.slice C.A C.n C.c] 52)) (Blk.new wr 52 #[.int .i64 C.depth,.bool C.sg,.int .i64 C.dx,.int .i64 C.dy,.slice C.A C.n C.c]) (Nat.le_refl _))
    replace HW:=hid hx.1
    replace hx:=hx.2
    try replace H0:=hid (H0.out.nx hx)
    try replace H1:=hid (H1.out.nx hx)
    try replace H2:=hid (H2.out.nx hx)
    try replace H3:=hid (H3.out.nx hx)
    replace HN:=hid (HN.out.trans hx)
    generalize roF G wr.heap.size (wr.alloc (.cells #[.int .i64 C.depth,.bool C.sg,.int .i64 C.dx,.int .i64 C.dy,.slice C.A C.n C.c] 52)).heap.size=G2 at*
    generalize wr.alloc (.cells #[.int .i64 C.depth,.bool C.sg,.int .i64 C.dx,.int .i64 C.dy,.slice C.A C.n C.c] 52)=w2 at*
    generalize wr.heap.size=X at*
    clear hx hka HCR m4 G
    have hco:=HP.out.ok C HCM.out
    have hx1:=hco.x1
    have hx2:=hco.x2
    have hy1:=hco.y1
    have hy2:=hco.y2
    have hd1:=hco.d1
    have hd2:=hco.d2
    clear hco
    obtain⟨q,hq⟩: ∃q,m.whole.part C.dx C.dy=q:=⟨_,rfl⟩
    have HQO:Hid (q.ok 12 17):=hid (by rw [← hq];exact HP.out.whole.over ⟨by omega,by omega⟩ ⟨by omega,by omega⟩)
    have HSB:Hid (pp.sub q):=hid (by rw [← hq,HPP.out.2];exact HP.out.sub.part (by omega) (by omega))
    have HAQ:Hid (q.area=(C.n:Int)):=hid (by rw [← hq];exact HP.out.area C HCM.out)
    have HQ:=hid hq
    have WHO: ∀w,Calls Tryz.prog 32 #[.agg m.cells] w fun e w'=>e=.returned (.agg m.whole.cells)∧Keep (fun _=>False) w w':=fun w=>whole_any w m
    have PAR: ∀w,Calls Tryz.prog 31 #[.agg m.whole.cells,.int .i64 C.dx,.int .i64 C.dy] w fun e w'=>e=.returned (.agg #[.int .i64 q.x0,.int .i64 q.y0,.int .i64 q.x1,.int .i64 q.y1])∧Keep (fun _=>False) w w':=fun w=>by
     have h:=part_any w m.whole C.dx C.dy (HP.out.whole.fits24 (by omega)) ⟨by omega,by omega⟩ ⟨by omega,by omega⟩
     rw [hq]at h
     exact h
    have WHO:=hid WHO
    have PAR:=hid PAR
    clear hq
    go_cut [11] (fun v wx=> ∃(g:Nat) (G:Nat→Option Kd),v=.pointer (some ⟨g,0,none⟩)∧Hid (Wk 91 G w0 [⟨22,1,VA,i,cV,vs⟩] none wx)∧Hid (Nx G2 w2 G wx)∧Hid (RoB G wx g 63 #[.int .i64 q.x0,.int .i64 q.y0,.int .i64 q.x1,.int .i64 q.y1]))
    case first=>
     have dm:w2.drew.rangeAt (s+1) 0 m.cells.toList:=H0.out.bm.1.drew.range
     have x2:w2.drew.cell? ⟨X,2,none⟩=some (.int .i64 C.dx):=HXB.out.1.cell 2
     have x3:w2.drew.cell? ⟨X,3,none⟩=some (.int .i64 C.dy):=HXB.out.1.cell 3
     have HKK:=hid (Keep.refl (fun _=>False) w2.drew)
     refine At.start (L:=#[false,false,false,false,false,false,false,false,false]) (by kernel_rfl) rfl ?_
     first|refine AtL 0 29 Tryz.underlying29 ?_|refine AtR 0 29 Tryz.underlying29 ?_
     refine AtP 2 31 ?_
     refine AtL 3 32 Tryz.underlying3 ?_
     refine AtP 4 33 ?_
     refine AtL 5 34 Tryz.underlying3 ?_
     refine At.two_all 1 7 rfl rfl (by kernel_rfl) rfl rfl (fun K hK=>?_) (fun K hK=>?_)
     · skip
       go_simp
       refine(WHO.out _).mono ?_
       rintro e w5 ⟨rfl,hk5⟩
       replace HKK:=hid (HKK.out.trans hk5 (fun _ _ h=>h))
       refine hK _ _ (by repeat' first|exact all_nil|refine all_cons (by first|exact HKK.out.cell (by assumption) (fun h=>h)|exact range_keep (by assumption) HKK.out (fun h=>h)) ?_) ?_
       clear hK K
       try simp only [NS]
       refine At.two_all 6 7 rfl rfl (by kernel_rfl) rfl rfl (fun K hK=>?_) (fun K hK=>?_)
       · skip
         go_simp
         refine(PAR.out _).mono ?_
         rintro e w6 ⟨rfl,hk6⟩
         replace HKK:=hid (HKK.out.trans hk6 (fun _ _ h=>h))
         refine hK _ _ (by repeat' first|exact all_nil|refine all_cons (by first|exact HKK.out.cell (by assumption) (fun h=>h)|exact range_keep (by assumption) HKK.out (fun h=>h)) ?_) ?_
         clear hK K
         try simp only [NS]
         refine At.call_all 7 rfl (by kernel_rfl) rfl (fun K hK=>?_)
         go_simp
         have hge:=HKK.out.size
         replace HKK:=hid (HKK.out.alloc (.cells #[.int .i64 0,.int .i64 0,.int .i64 0,.int .i64 0] 63))
         refine hK _ _ (by repeat' first|exact all_nil|refine all_cons (by first|exact HKK.out.cell (by assumption) (fun h=>h)|exact range_keep (by assumption) HKK.out (fun h=>h)) ?_) ?_
         clear hK K
         try simp only [NS]
         refine AtC 8 fun K hK=>?_
         first|refine wp_store_in (Blk.new w6 _ _) 63 _ _ rfl 0 #[.int .i64 q.x0,.int .i64 q.y0,.int .i64 q.x1,.int .i64 q.y1] rfl rfl (by show 0+4≤4;omega) (by kernel_rfl) (by simp [Value.oneCell']) ?_|refine wp_store_in ((Blk.new w5 _ _).keep hk6 (fun h=>h)) 63 _ _ rfl 0 #[.int .i64 q.x0,.int .i64 q.y0,.int .i64 q.x1,.int .i64 q.y1] rfl rfl (by show 0+4≤4;omega) (by kernel_rfl) (by simp [Value.oneCell']) ?_|refine wp_store_in (((Blk.new w2.drew _ _).keep hk5 (fun h=>h)).keep hk6 (fun h=>h)) 63 _ _ rfl 0 #[.int .i64 q.x0,.int .i64 q.y0,.int .i64 q.x1,.int .i64 q.y1] rfl rfl (by show 0+4≤4;omega) (by kernel_rfl) (by simp [Value.oneCell']) ?_
         intro w7 hb7 hk7
         have hkf:=((Keep.refl (fun _=>False) w2).drew).trans (HKK.out.new hk7 (fun j e=>by rw [show j=_ from e];exact hge)) (fun _ _ h=>h)
         have hx:=HW.out.callRo hkf
         have HZ1:=hid hx.1
         have HZ2:=hid hx.2
         have HZ3:=hid (HW.out.roB hb7 hge)
         clear hb7 hk7 hkf hx
         refine hK _ _ all_nil ?_
         clear hK K
         try simp only [NS]
         refine At.done (by kernel_rfl) ?_
         go_wp2_with fail
         go_meet
         exact⟨_,_,rfl,HZ1,HZ2,HZ3⟩
       · skip
         go_simp
         have hge:=HKK.out.size
         replace HKK:=hid (HKK.out.alloc (.cells #[.int .i64 0,.int .i64 0,.int .i64 0,.int .i64 0] 63))
         refine hK _ _ (by repeat' first|exact all_nil|refine all_cons (by first|exact HKK.out.cell (by assumption) (fun h=>h)|exact range_keep (by assumption) HKK.out (fun h=>h)) ?_) ?_
         clear hK K
         try simp only [NS]
         refine AtC 6 fun K hK=>?_
         go_simp
         refine(PAR.out _).mono ?_
         rintro e w6 ⟨rfl,hk6⟩
         replace HKK:=hid (HKK.out.trans hk6 (fun _ _ h=>h))
         refine hK _ _ all_nil ?_
         clear hK K
         try simp only [NS]
         refine AtC 8 fun K hK=>?_
         first|refine wp_store_in (Blk.new w6 _ _) 63 _ _ rfl 0 #[.int .i64 q.x0,.int .i64 q.y0,.int .i64 q.x1,.int .i64 q.y1] rfl rfl (by show 0+4≤4;omega) (by kernel_rfl) (by simp [Value.oneCell']) ?_|refine wp_store_in ((Blk.new w5 _ _).keep hk6 (fun h=>h)) 63 _ _ rfl 0 #[.int .i64 q.x0,.int .i64 q.y0,.int .i64 q.x1,.int .i64 q.y1] rfl rfl (by show 0+4≤4;omega) (by kernel_rfl) (by simp [Value.oneCell']) ?_|refine wp_store_in (((Blk.new w2.drew _ _).keep hk5 (fun h=>h)).keep hk6 (fun h=>h)) 63 _ _ rfl 0 #[.int .i64 q.x0,.int .i64 q.y0,.int .i64 q.x1,.int .i64 q.y1] rfl rfl (by show 0+4≤4;omega) (by kernel_rfl) (by simp [Value.oneCell']) ?_
         intro w7 hb7 hk7
         have hkf:=((Keep.refl (fun _=>False) w2).drew).trans (HKK.out.new hk7 (fun j e=>by rw [show j=_ from e];exact hge)) (fun _ _ h=>h)
         have hx:=HW.out.callRo hkf
         have HZ1:=hid hx.1
         have HZ2:=hid hx.2
         have HZ3:=hid (HW.out.roB hb7 hge)
         clear hb7 hk7 hkf hx
         refine hK _ _ all_nil ?_
         clear hK K
         try simp only [NS]
         refine At.done (by kernel_rfl) ?_
         go_wp2_with fail
         go_meet
         exact⟨_,_,rfl,HZ1,HZ2,HZ3⟩
     · skip
       go_simp
       have hge:=HKK.out.size
       replace HKK:=hid (HKK.out.alloc (.cells #[.int .i64 0,.int .i64 0,.int .i64 0,.int .i64 0] 63))
       refine hK _ _ (by repeat' first|exact all_nil|refine all_cons (by first|exact HKK.out.cell (by assumption) (fun h=>h)|exact range_keep (by assumption) HKK.out (fun h=>h)) ?_) ?_
       clear hK K
       try simp only [NS]
       refine At.call_all 1 rfl (by kernel_rfl) rfl (fun K hK=>?_)
       go_simp
       refine(WHO.out _).mono ?_
       rintro e w5 ⟨rfl,hk5⟩
       replace HKK:=hid (HKK.out.trans hk5 (fun _ _ h=>h))
       refine hK _ _ (by repeat' first|exact all_nil|refine all_cons (by first|exact HKK.out.cell (by assumption) (fun h=>h)|exact range_keep (by assumption) HKK.out (fun h=>h)) ?_) ?_
       clear hK K
       try simp only [NS]
       refine AtC 6 fun K hK=>?_
       go_simp
       refine(PAR.out _).mono ?_
       rintro e w6 ⟨rfl,hk6⟩
       replace HKK:=hid (HKK.out.trans hk6 (fun _ _ h=>h))
       refine hK _ _ all_nil ?_
       clear hK K
       try simp only [NS]
       refine AtC 8 fun K hK=>?_
       first|refine wp_store_in (Blk.new w6 _ _) 63 _ _ rfl 0 #[.int .i64 q.x0,.int .i64 q.y0,.int .i64 q.x1,.int .i64 q.y1] rfl rfl (by show 0+4≤4;omega) (by kernel_rfl) (by simp [Value.oneCell']) ?_|refine wp_store_in ((Blk.new w5 _ _).keep hk6 (fun h=>h)) 63 _ _ rfl 0 #[.int .i64 q.x0,.int .i64 q.y0,.int .i64 q.x1,.int .i64 q.y1] rfl rfl (by show 0+4≤4;omega) (by kernel_rfl) (by simp [Value.oneCell']) ?_|refine wp_store_in (((Blk.new w2.drew _ _).keep hk5 (fun h=>h)).keep hk6 (fun h=>h)) 63 _ _ rfl 0 #[.int .i64 q.x0,.int .i64 q.y0,.int .i64 q.x1,.int .i64 q.y1] rfl rfl (by show 0+4≤4;omega) (by kernel_rfl) (by simp [Value.oneCell']) ?_
       intro w7 hb7 hk7
       have hkf:=((Keep.refl (fun _=>False) w2).drew).trans (HKK.out.new hk7 (fun j e=>by rw [show j=_ from e];exact hge)) (fun _ _ h=>h)
       have hx:=HW.out.callRo hkf
       have HZ1:=hid hx.1
       have HZ2:=hid hx.2
       have HZ3:=hid (HW.out.roB hb7 hge)
       clear hb7 hk7 hkf hx
       refine hK _ _ all_nil ?_
       clear hK K
       try simp only [NS]
       refine At.done (by kernel_rfl) ?_
       go_wp2_with fail
       go_meet
       exact⟨_,_,rfl,HZ1,HZ2,HZ3⟩
    case rest=>
     obtain⟨g,G,rfl,HW',HNX,HGB⟩:=hcut
     replace HW:=HW'
     have hx:=HNX.out
     try replace H0:=hid (H0.out.nx hx)
     try replace H1:=hid (H1.out.nx hx)
     try replace H2:=hid (H2.out.nx hx)
     try replace H3:=hid (H3.out.nx hx)
     replace HN:=hid (HN.out.trans hx)
     replace HXB:=hid (HXB.out.nx hx)
     clear hx HW' HNX WHO PAR
     clear G2
     have hx:=HW.out.callF ((Keep.refl _ wc).drew)
     replace HW:=hid hx.1
     replace hx:=hx.2
     try replace H0:=hid (H0.out.nx hx)
     try replace H1:=hid (H1.out.nx hx)
     try replace H2:=hid (H2.out.nx hx)
     try replace H3:=hid (H3.out.nx hx)
     replace HN:=hid (HN.out.trans hx)
     replace HXB:=hid (HXB.out.nx hx)
     replace HGB:=hid (HGB.out.nx hx)
     clear hx
     obtain⟨bA',oA',hA',hrw⟩:=RdS.get (f:=Pln.cells) H1.out.row.1 Pln.len (by rw [HNN.out.1];exact hin) HPI.out
     injection hA' with hA'
     injection hA' with hA1 hA2
     subst hA1 hA2
     have e0:wc.drew.cell? ⟨X,0,none⟩=some (.int .i64 C.depth):=HXB.out.1.cell 0
     have e1:wc.drew.cell? ⟨X,1,none⟩=some (.bool C.sg):=HXB.out.1.cell 1
     have e4:wc.drew.cell? ⟨X,4,none⟩=some (.slice C.A C.n C.c):=HXB.out.1.cell 4
     have rg:wc.drew.rangeAt g 0 [.int .i64 q.x0,.int .i64 q.y0,.int .i64 q.x1,.int .i64 q.y1]:=HGB.out.1.range
     have rp:wc.drew.rangeAt bA (oA+i*7) [.int .i64 pp.x0,.int .i64 pp.y0,.int .i64 pp.x1,.int .i64 pp.y1]:=fun j v hj=>by
      rw [← HPP.out.1]at hj
      have hj4:j<4:=(List.getElem?_eq_some_iff.1 hj).1
      refine hrw j v ?_
      rw [← hj]
      rcases (show j=0∨j=1∨j=2∨j=3 by omega)with rfl|rfl|rfl|rfl<;>rfl
     have hpo:=HSB.out.ok HQO.out
     obtain⟨D,hD⟩: ∃D:Nat,pp.x1-pp.x0=D:=⟨(pp.x1-pp.x0).toNat,by have:=hpo.xx;omega⟩
     obtain⟨E,hE⟩: ∃E:Nat,pp.y1-pp.y0=E:=⟨(pp.y1-pp.y0).toNat,by have:=hpo.yy;omega⟩
     have hD12:D≤12:=by have:=hpo.xs;omega
     have hE12:E≤12:=by have:=hpo.ys;omega
     have HAE:=hid (show pp.area=((D*E:Nat):Int) by rw [hpo.area_eq,hD,hE];push_cast;rfl)
     obtain⟨zs,hzs⟩:=HP.out.zs C HCM.out
     have CUT:=hid (cut18_any wc.drew q pp C.A C.n C.c zs (hzs.keepF HW.out.keep) HQO.out HSB.out HAQ.out.symm (HP.out.cap C HCM.out) D E hD hE)
     obtain⟨N,hN⟩: ∃N,D*E=N:=⟨_,rfl⟩
     have hN144:N≤144:=by have:D*E≤12*12:=Nat.mul_le_mul hD12 hE12;omega
     rw [hN]at CUT HAE
     have HXW:=HW
     have hbw:w0.heap.size≤wc.drew.heap.size:=HW.out.keep.size
     clear hD hE hN hpo hzs hrw
     go_upto_region 7 with fail
     refine At.start (L:=#[false,false,false,false,false,false,false,false,false,false,false,false,false,false,false,false,false,false]) (by kernel_rfl) rfl ?_
     refine AtP 0 36 ?_
     refine AtP 1 37 ?_
     refine AtL 2 38 Tryz.underlying3 ?_
     refine AtP 3 39 ?_
     refine AtL 4 40 Tryz.underlying4 ?_
     first|refine AtL 5 41 Tryz.underlying63 ?_|refine AtR 5 41 Tryz.underlying63 ?_
     refine AtP 6 42 ?_
     refine AtL 7 43 Tryz.underlying22 ?_
     refine AtP 8 44 ?_
     refine AtP 9 45 ?_
     refine AtP 10 46 ?_
     refine AtP 11 47 ?_
     first|refine AtL 12 48 Tryz.underlying63 ?_|refine AtR 12 48 Tryz.underlying63 ?_
     refine At.call_all 13 rfl (by kernel_rfl) rfl (fun K hK=>?_)
     go_simp
     refine CUT.out.mono ?_
     rintro e w6 ⟨X6,d6,z6,rfl,hz6,ho6,hk6⟩
     have hx:=HW.out.callF hk6
     replace HW:=hid hx.1
     replace hx:=hx.2
     try replace H0:=hid (H0.out.nx hx)
     try replace H1:=hid (H1.out.nx hx)
     try replace H2:=hid (H2.out.nx hx)
     try replace H3:=hid (H3.out.nx hx)
     replace HN:=hid (HN.out.trans hx)
     refine hK _ _ (by repeat' first|exact all_nil|refine all_cons (by first|exact hk6.cell (by assumption) (fun h=>h)|exact range_keep (by assumption) hk6 (fun h=>h)) ?_) ?_
     clear hK K
     try simp only [NS]
     refine AtC 14 fun K hK=>?_
     go_simp
     refine(shift_any _ C.depth C.sg X6 N d6 z6 (Rd.of_own ho6) hN144 hd1 hd2).mono ?_
     rintro e w7 ⟨X7,d7,z7,rfl,hz7,ho7,hk7⟩
     have hx:=HW.out.callRo hk7
     have HR7:=hid (HW.out.ro (RdS.of_own ho7) (fun a e=>own_blt ho7 e))
     have hc7:=own_cap ho7
     replace HW:=hid hx.1
     replace hx:=hx.2
     try replace H0:=hid (H0.out.nx hx)
     try replace H1:=hid (H1.out.nx hx)
     try replace H2:=hid (H2.out.nx hx)
     try replace H3:=hid (H3.out.nx hx)
     replace HN:=hid (HN.out.trans hx)
     generalize roF G w6.heap.size w7.heap.size=G3 at*
     have HOW:=hid (show w7.ownsRow w0.heap.size 22 1 (.slice VA i cV) i vs from HW.out.at_ 0 rfl)
     have hbw7:w0.heap.size≤w7.heap.size:=HW.out.keep.size
     clear hx hk7 ho7 hz7
     refine hK _ _ all_nil ?_
     clear hK K
     try simp only [NS]
     refine AtC 15 fun K hK=>?_
     go_simp
     skip
     refine hK _ _ all_nil ?_
     clear hK K
     try simp only [NS]
     refine AtC 16 fun K hK=>?_
     refine wp_append_rowsA _ (.tmp 36) (.tmp 51) 109 rfl w0.heap.size 22 i1 _ 1 24 Tryz.underlying109 hi1 ez0 ez1 ez2 rfl (by omega) HOW.out rfl #[.slice X7 N d7] rfl rfl (by intro v hv;simp at hv;subst hv;rfl) (by simp only [maxLen];omega) (by omega) hbw7 ?_
     intro A8 c8 w8 hown8 hk8 hat8
     have hx:=HW.out.row 0 (u':=⟨22,1,A8,i+1,c8,vs++[.slice X7 N d7]⟩) rfl hown8 hk8 hat8
     replace HW:=hid hx.1
     replace hx:=hx.2
     try replace H0:=hid (H0.out.nx hx)
     try replace H1:=hid (H1.out.nx hx)
     try replace H2:=hid (H2.out.nx hx)
     try replace H3:=hid (H3.out.nx hx)
     replace HN:=hid (HN.out.trans hx)
     replace HR7:=hid (HR7.out.nx hx)
     clear hx hown8 hk8 hat8 HOW
     refine hK _ _ all_nil ?_
     clear hK K
     try simp only [NS]
     refine AtP 17 8 ?_
     refine At.done (by kernel_rfl) ?_
     have H2':=hid (show RowsOk G3 w8 (vs++[.slice X7 N d7]) (AR.take (i+1))from by
      have h:AR[i]? =some (N:Int):=by rw [← HAR.out,List.getElem?_map,HPI.out];show some P.part.area=_;rw [HPP.out.1,HAE.out]
      rw [List.take_add_one,h]
      exact H2.out.snoc hc7 HR7.out)
     clear hk6 ho6 hz6 e0 e1 e4 rg rp
     go_wp2_with fail
     go_roundw
     case rel=>exact⟨i+1,A8,c8,_,G3,by omega,by go_num,rfl,HW,HN,H0,H1,H2'⟩
     case measure=>simp [intOf]<;>omega
  · obtain rfl:i=n:=by omega
    have hAL:AR.length=i:=by rw [← HAR.out,List.length_map];exact HNN.out.1
    rw [List.take_of_length_le (by omega)]at H2
    obtain⟨gv,hVA,hq1,hq2,hq3,hq4⟩:=own_at (show wr.ownsRow w0.heap.size 22 1 (.slice VA i cV) i vs from HW.out.at_ 0 rfl) (by have:=HNN.out.2;omega)
    subst hVA
    clear hq1 hq2 hq3 hq4
    have p9:wr.cell? ⟨s+1+1,9,none⟩=some (.bool p.rct):=by have h:=H0.out.bp.1.cell 9;rw [HPC.out]at h;exact h
    have hAI:=hid hAL
    clear hAL
    go_upto_if 54 with fail
    go_cut [] (fun wx=> ∃(G':Nat→Option Kd) (vs':List Value),Hid (Wk 91 G' w0 [⟨22,1,some ⟨gv,0,none⟩,i,cV,vs'⟩] none wx)∧Hid (Nx G wr G' wx)∧Hid (RowsOk G' wx vs' AR))
    case first=>
     cases hrc:p.rct with
     |false=>
      go_wp2_with fail
      go_meet
      exact⟨G,vs,HW,hid Nx.refl,H2⟩
     |true=>
      obtain⟨hn3,hone⟩:=HP.out.rct hrc
      have hi3:3≤i:=by rw [HNN.out.2];exact hn3
      have hvl:vs.length=i:=by rw [H2.out.1,hAI.out]
      have hall: ∀j,j<3→ ∃(B:Option Addr) (N c:Nat) (zs:List Int),vs[j]? =some (.slice B N c)∧AR[j]? =some (N:Int)∧N≤c∧Ro G wr B N 1 (zs.map (Value.int .i64))∧(N:Int)=(t.part 1 1).area:=fun j hj=>by
       obtain⟨v,hv⟩: ∃v,vs[j]? =some v:=⟨_,List.getElem?_eq_getElem (by omega)⟩
       obtain⟨B,N,c,zs,e,h1,h2,h3⟩:=H2.out.2 j v hv
       subst e
       refine⟨B,N,c,zs,hv,h1,h2,h3,?_⟩
       rw [← HAR.out,List.getElem?_map]at h1
       cases ho:outs[j]? with
       |none=>rw [ho]at h1;cases h1
       |some P=>
        rw [ho]at h1
        obtain⟨hxx,C,hC,hPp⟩:=H1.out.ok j P ho
        obtain⟨a1,a2⟩:=hone C (List.mem_of_getElem? hC)
        rw [a1,a2]at hPp
        have h4:some P.part.area=some (N:Int):=h1
        injection h4 with h4
        rw [← h4,hPp]
        rfl
      obtain⟨B0,N0,c0,z0,v0,r0,l0,o0,s0⟩:=hall 0 (by omega)
      obtain⟨B1,N1,c1,z1,v1,r1,l1,o1,s1⟩:=hall 1 (by omega)
      obtain⟨B2,N2,c2,z2,v2,r2,l2,o2,s2⟩:=hall 2 (by omega)
      obtain rfl:N1=N0:=by omega
      obtain rfl:N2=N1:=by omega
      have hpo:(t.part 1 1).ok 12 17:=(HP.out.sub.ok HP.out.whole).over ⟨by omega,by omega⟩ ⟨by omega,by omega⟩
      have hN144:N2≤144:=by have:=hpo.area_le.2;omega
      have hx:=HW.out.callF ((Keep.refl _ wr).drew)
      have HW1:=hid hx.1
      have HX1:=hid hx.2
      have O0:=hid (o0.nx hx.2)
      have O1:=hid (o1.nx hx.2)
      have O2:=hid (o2.nx hx.2)
      have HR1:=hid (H2.out.nx hx.2)
      have HOW:=hid (show wr.drew.ownsRow w0.heap.size 22 1 (.slice (some ⟨gv,0,none⟩) i cV) i vs from hx.1.at_ 0 rfl)
      obtain⟨gv',e',_,_,hcell,hfroz⟩:=own_at HOW.out (by omega)
      injection e' with e'
      injection e' with e'
      subst e'
      have d0:wr.drew.cell? ⟨gv,0,none⟩=some (.slice B0 N2 c0):=hcell 0 _ v0
      have d1:wr.drew.cell? ⟨gv,1,none⟩=some (.slice B1 N2 c1):=hcell 1 _ v1
      have d2:wr.drew.cell? ⟨gv,2,none⟩=some (.slice B2 N2 c2):=hcell 2 _ v2
      have TRN:=hid (turn_any wr.drew B0 B1 B2 N2 c0 c1 c2 z0 z1 z2 O0.out.1.one O1.out.1.one O2.out.1.one hN144)
      have R012:=hid (And.intro r0 (And.intro r1 r2))
      have hii:i<5:=by omega
      have hi0:0<i:=by omega
      have hi1:1<i:=by omega
      have hi2:2<i:=by omega
      have hj0:(0:Int)<(i:Int):=by omega
      have hj1:(1:Int)<(i:Int):=by omega
      have hj2:(2:Int)<(i:Int):=by omega
      clear hone hall v0 v1 v2 r0 r1 r2 o0 o1 o2 s0 s1 s2 hpo hx hcell hfroz p9 HOW hrc
      go_upto_region 9 with fail
      refine At.start (L:=#[false,false,false,false,false,false,false,false,false,false,false,false,false,false,false,false,false,false,false,false,false,false,false]) (by kernel_rfl) rfl ?_
      refine AtP 0 56 ?_
      refine AtP 1 57 ?_
      refine AtP 2 58 ?_
      refine AtP 3 59 ?_
      refine AtP 4 60 ?_
      refine AtL 5 61 Tryz.underlying22 ?_
      refine AtP 6 62 ?_
      refine AtP 7 63 ?_
      refine AtL 8 64 Tryz.underlying22 ?_
      refine AtP 9 65 ?_
      refine AtP 10 66 ?_
      refine AtL 11 67 Tryz.underlying22 ?_
      refine AtC 12 fun K hK=>?_
      go_simp
      refine TRN.out.mono ?_
      rintro e w6 ⟨X,cX,Y,cY,O,cO,rfl,hX,hY,hO,hk6⟩
      have hx:=HW1.out.callRo hk6
      obtain⟨zx,_,ox⟩:=hX
      obtain⟨zy,_,oy⟩:=hY
      obtain⟨zo,_,oo⟩:=hO
      have RX:=hid (HW1.out.ro (RdS.of_own ox) (fun a e=>own_blt ox e))
      have RY:=hid (HW1.out.ro (RdS.of_own oy) (fun a e=>own_blt oy e))
      have RO:=hid (HW1.out.ro (RdS.of_own oo) (fun a e=>own_blt oo e))
      have LXY:=hid (And.intro (own_cap ox) (And.intro (own_cap oy) (own_cap oo)))
      have HW6:=hid hx.1
      have HX6:=hid (HX1.out.trans hx.2)
      replace HR1:=hid (HR1.out.nx hx.2)
      generalize roF G wr.drew.heap.size w6.heap.size=G6 at*
      obtain⟨ga,ea,ca,fa,wa,na⟩:=HW6.out.store 0 rfl rfl (j:=0) (show 0<i by omega) (.slice X N2 cX)
      injection ea with ea
      injection ea with ea
      subst ea
      obtain⟨va,hva⟩: ∃va,vs[0]? =some va:=⟨_,List.getElem?_eq_getElem (by omega)⟩
      have t0:w6.cell? ⟨gv,0,none⟩=some va:=ca 0 _ hva
      have f0:=fa 0
      have HWA:=hid wa
      have HNA:=hid na
      clear hx ox oy oo hk6 ca fa wa na hva
      refine hK _ _ all_nil ?_
      clear hK K
      try simp only [NS]
      refine AtP 13 55 ?_
      refine AtP 14 69 ?_
      refine AtP 15 70 ?_
      refine AtP 16 71 ?_
      refine AtP 17 72 ?_
      refine AtC 18 fun K hK=>?_
      go_simp
      skip
      obtain⟨ga,ea,ca,fa,wa,na⟩:=HWA.out.store 0 rfl rfl (j:=1) (show 1<i by omega) (.slice Y N2 cY)
      injection ea with ea
      injection ea with ea
      subst ea
      obtain⟨vb,hvb⟩: ∃vb,(vs.set 0 (.slice X N2 cX))[1]? =some vb:=⟨_,List.getElem?_eq_getElem (by rw [List.length_set];omega)⟩
      have t1:=ca 1 _ hvb
      have f1:=fa 1
      have HWB:=hid wa
      have HNB:=hid na
      clear ca fa wa na hvb t0 f0
      refine hK _ _ all_nil ?_
      clear hK K
      try simp only [NS]
      refine AtP 19 73 ?_
      refine AtC 20 fun K hK=>?_
      go_simp
      skip
      obtain⟨ga,ea,ca,fa,wa,na⟩:=HWB.out.store 0 rfl rfl (j:=2) (show 2<i by omega) (.slice O N2 cO)
      injection ea with ea
      injection ea with ea
      subst ea
      obtain⟨vc,hvc⟩: ∃vc,((vs.set 0 (.slice X N2 cX)).set 1 (.slice Y N2 cY))[2]? =some vc:=⟨_,List.getElem?_eq_getElem (by rw [List.length_set,List.length_set];omega)⟩
      have t2:=ca 2 _ hvc
      have f2:=fa 2
      have HWC:=hid wa
      have HNC:=hid na
      clear ca fa wa na hvc t1 f1
      refine hK _ _ all_nil ?_
      clear hK K
      try simp only [NS]
      refine AtP 21 74 ?_
      refine AtC 22 fun K hK=>?_
      go_simp
      skip
      refine hK _ _ all_nil ?_
      clear hK K
      try simp only [NS]
      refine At.done (by kernel_rfl) ?_
      have HFN:=hid ((HNA.out.trans HNB.out).trans HNC.out)
      have HZ1:=hid (HX6.out.trans HFN.out)
      have HZ2:=hid ((((HR1.out.nx HFN.out).set (i:=0) R012.out.1 LXY.out.1 (RX.out.nx HFN.out)).set (i:=1) R012.out.2.1 LXY.out.2.1 (RY.out.nx HFN.out)).set (i:=2) R012.out.2.2 LXY.out.2.2 (RO.out.nx HFN.out))
      go_wp2_with fail
      go_meet
      exact⟨G6,_,HWC,HZ1,HZ2⟩
    case rest=>
     obtain⟨G',vs',HW',HNX,H2'⟩:=hcut
     replace HW:=HW'
     replace H2:=H2'
     have hx:=HNX.out
     replace H0:=hid (H0.out.nx hx)
     replace H1:=hid (H1.out.nx hx)
     replace HN:=hid (HN.out.trans hx)
     clear HW' H2' HNX hx p9
     clear G vs
     go_wp2_with fail
     go_loopw [12] (fun v wl=> ∃(j:Nat) (G:Nat→Option Kd),j≤i∧v=.int .i64 j∧Hid (Wk 91 G w0 [⟨22,1,some ⟨gv,0,none⟩,i,cV,vs'⟩] none wl)∧Hid (Nx G0 w G wl)∧Hid (Fl0 G wl (s+1) m p)∧Hid (InOk G w0.heap.size NBB wl p.lev p.prec t cs (some ⟨bA,oA,none⟩) outs)∧Hid (RowsOk G wl vs' AR)) (fun v _=>i-(intOf v).toNat)
     case atStart=>exact⟨0,G',by omega,rfl,HW,HN,H0,H1,H2⟩
     case round=>
      clear HW HN H0 H1 H2
      clear G'
      obtain⟨j,G,hj,rfl,HW,HN,H0,H1,H2⟩:=hrel
      by_cases hji:j<i
      · obtain⟨P,hPi⟩: ∃P,outs[j]? =some P:=⟨_,List.getElem?_eq_getElem (by rw [HNN.out.1];exact hji)⟩
        obtain⟨hpo,C,hCj,hPp⟩:=H1.out.ok j P hPi
        obtain⟨pp,hpp⟩: ∃pp,P.part=pp:=⟨_,rfl⟩
        have hco:=HP.out.ok C (List.mem_of_getElem? hCj)
        have hpok:Hid (pp.ok 12 17):=hid (by
         rw [← hpp,hPp]
         have:=hco.x1
         have:=hco.y1
         exact(HP.out.sub.ok HP.out.whole).over ⟨by omega,by omega⟩ ⟨by omega,by omega⟩)
        have HPI:=hid hPi
        have HPP:=hid hpp
        obtain⟨Bv,Nv,cv,zv,ev,lv,nv,ov⟩: ∃(B:Option Addr) (N c:Nat) (zs:List Int),vs'[j]? =some (.slice B N c)∧AR[j]? =some (N:Int)∧N≤c∧Ro G wr B N 1 (zs.map (Value.int .i64)):=by
         obtain⟨v,hv⟩: ∃v,vs'[j]? =some v:=⟨_,List.getElem?_eq_getElem (by rw [H2.out.1,hAI.out];exact hji)⟩
         obtain⟨B,N,c,zs,e,h1,h2,h3⟩:=H2.out.2 j v hv
         subst e
         exact⟨B,N,c,zs,hv,h1,h2,h3⟩
        have HAV:=hid (show pp.area=(Nv:Int)from by
         rw [← HAR.out,List.getElem?_map,hPi]at lv
         have h4:some P.part.area=some (Nv:Int):=lv
         injection h4 with h4
         rw [← hpp,h4])
        have hx:=HW.out.callF ((Keep.refl _ wr).drew)
        replace HW:=hid hx.1
        replace hx:=hx.2
        try replace H0:=hid (H0.out.nx hx)
        try replace H1:=hid (H1.out.nx hx)
        try replace H2:=hid (H2.out.nx hx)
        try replace H3:=hid (H3.out.nx hx)
        replace HN:=hid (HN.out.trans hx)
        have OV:=hid (ov.nx hx)
        obtain⟨bA',oA',hA',hrw⟩:=RdS.get (f:=Pln.cells) H1.out.row.1 Pln.len (by rw [HNN.out.1];exact hji) hPi
        injection hA' with hA'
        injection hA' with hA1 hA2
        subst hA1 hA2
        obtain⟨gv',e',_,_,hcell,hfroz⟩:=own_at (show wr.drew.ownsRow w0.heap.size 22 1 (.slice (some ⟨gv,0,none⟩) i cV) i vs' from HW.out.at_ 0 rfl) (by omega)
        injection e' with e'
        injection e' with e'
        subst e'
        have dv:wr.drew.cell? ⟨gv,j,none⟩=some (.slice Bv Nv cv):=hcell j _ ev
        have p2:wr.drew.cell? ⟨s+1+1,2,none⟩=some (.int .i64 p.lev):=by have h:=H0.out.bp.1.cell 2;rw [HPC.out]at h;exact h
        have rp:wr.drew.rangeAt bA (oA+j*7) [.int .i64 pp.x0,.int .i64 pp.y0,.int .i64 pp.x1,.int .i64 pp.y1]:=fun k v hk=>by
         rw [← HPP.out]at hk
         have hk4:k<4:=(List.getElem?_eq_some_iff.1 hk).1
         refine hrw k v ?_
         rw [← hk]
         rcases (show k=0∨k=1∨k=2∨k=3 by omega)with rfl|rfl|rfl|rfl<;>rfl
        have SPL:=hid (split10_any wr.drew pp p.lev Bv Nv cv zv OV.out.1.one HAV.out hpok.out hlev)
        have hln:=hpo.ln
        clear hx ev lv ov hrw hcell hfroz hpp hpo hCj hPp hco hPi
        go_upto_region 13 with fail
        refine At.start (L:=#[false,false,false,false,false,false,false,false,false,false,false,false,false]) (by kernel_rfl) rfl ?_
        refine AtP 0 81 ?_
        refine AtP 1 82 ?_
        refine AtP 2 83 ?_
        refine AtP 3 84 ?_
        first|refine AtL 4 85 Tryz.underlying63 ?_|refine AtR 4 85 Tryz.underlying63 ?_
        refine AtP 5 86 ?_
        refine AtL 6 87 Tryz.underlying3 ?_
        refine AtP 7 88 ?_
        refine AtP 8 89 ?_
        refine AtP 9 90 ?_
        refine AtL 10 91 Tryz.underlying22 ?_
        refine AtC 11 fun K hK=>?_
        go_simp
        refine SPL.out.mono ?_
        rintro e w6 ⟨BA,nB,cB,us,rfl,hnB,hown,hrr,hk6⟩
        have hx:=HW.out.callRo hk6
        have H3:=hid (show BnOk (roF G wr.drew.heap.size w6.heap.size) w6 BA nB us ((rectsR pp p.lev p.lev).map Rc.area)from by
         refine⟨HW.out.ro (RdS.of_own hown) (fun a e=>own_blt hown e),?_⟩
         rw [rects_all hpok.out]
         exact RowsOk.of_rr HW.out hrr)
        obtain⟨gb,hBA,hq1,hq2,hq3,hq4⟩:=own_at hown (by omega)
        subst hBA
        replace HW:=hid hx.1
        replace hx:=hx.2
        replace H0:=hid (H0.out.nx hx)
        replace H1:=hid (H1.out.nx hx)
        replace H2:=hid (H2.out.nx hx)
        replace HN:=hid (HN.out.trans hx)
        generalize roF G wr.drew.heap.size w6.heap.size=G3 at*
        have HnB:=hid hnB
        clear hx hq1 hq2 hq3 hq4 hown hrr hnB
        refine hK _ _ all_nil ?_
        clear hK K
        try simp only [NS]
        refine AtP 12 13 ?_
        refine At.done (by kernel_rfl) ?_
        clear hk6 dv p2 rp SPL OV G
        go_wp2_with fail
        go_loopw [14] (fun v wl=> ∃(k:Nat) (G:Nat→Option Kd),k≤P.ls.length∧v=.int .i64 k∧Hid (Wk 91 G w0 [⟨22,1,some ⟨gv,0,none⟩,i,cV,vs'⟩] none wl)∧Hid (Nx G0 w G wl)∧Hid (Fl0 G wl (s+1) m p)∧Hid (InOk G w0.heap.size NBB wl p.lev p.prec t cs (some ⟨bA,oA,none⟩) outs)∧Hid (RowsOk G wl vs' AR)∧Hid (BnOk G wl (some ⟨gb,0,none⟩) nB us ((rectsR pp p.lev p.lev).map Rc.area))) (fun v _=>P.ls.length-(intOf v).toNat)
        case atStart=>exact⟨0,G3,by omega,rfl,HW,HN,H0,H1,H2,H3⟩
        case round=>
         clear HW HN H0 H1 H2 H3
         clear G3
         obtain⟨k,G,hk,rfl,HW,HN,H0,H1,H2,H3⟩:=hrel
         obtain⟨bA',oA',hA',hrw⟩:=RdS.get (f:=Pln.cells) H1.out.row.1 Pln.len (by rw [HNN.out.1];exact hji) HPI.out
         injection hA' with hA'
         injection hA' with hA1 hA2
         subst hA1 hA2
         have aL:wr.cell? ⟨bA,oA+j*7+5,none⟩=some (.slice P.LA P.ls.length P.cL):=hrw 5 _ rfl
         by_cases hkl:k<P.ls.length
         · obtain⟨x,hxi⟩: ∃x,P.ls[k]? =some x:=⟨_,List.getElem?_eq_getElem hkl⟩
           obtain⟨hpo,_⟩:=H1.out.ok j P HPI.out
           obtain⟨lb,lo,hLA,hlr⟩:=RdS.get (f:=Plc.cells) hpo.places.1 Plc.len hkl hxi
           obtain⟨hkd,⟨q,hq,hin⟩,nx,hnx,hkx⟩:=hpo.pok x (List.mem_of_getElem? hxi)
           rw [HPP.out]at hq
           rw [hLA]at aL
           have HLR:=hid (show wr.rangeAt lb (lo+k*8) [.int .i64 x.r.x0,.int .i64 x.r.y0,.int .i64 x.r.x1,.int .i64 x.r.y1,.int .i64 x.kind,.int .i64 x.band,.int .i64 x.k,.pointer (some ⟨x.b,0,none⟩)]from hlr)
           have HQI:=hid (And.intro hq hin)
           have HGX:=hid (And.intro hnx hkx)
           clear hpo hLA hlr hq hin hnx hkx hxi hrw
           go_upto_region 18 with(first|(refine wpList_load_mid rfl 108 (.tmp 109) rfl _ _ rfl _ _ HLR.out Tryz.underlying108 rfl (by kernel_rfl) ?_)|(refine wpList_store_row rfl _ _ _ rfl wr.heap.size _ rfl rfl _ _ (Blk.new wr _ _) (by kernel_rfl) rfl (by simp [Value.oneCell']) ?_))
           rw [World.setRow_alloc_new]
           try simp only [NS]
           have hka:Keep (fun _=>False) wr (wr.alloc (.cells #[.int .i64 x.r.x0,.int .i64 x.r.y0,.int .i64 x.r.x1,.int .i64 x.r.y1,.int .i64 x.kind,.int .i64 x.band,.int .i64 x.k,.pointer (some ⟨x.b,0,none⟩)] 108)):=(Keep.refl _ wr).alloc _
           have hx:=HW.out.callRo hka
           have HXB:=hid (HW.out.roB (w':=wr.alloc (.cells #[.int .i64 x.r.x0,.int .i64 x.r.y0,.int .i64 x.r.x1,.int .i64 x.r.y1,.int .i64 x.kind,.int .i64 x.band,.int .i64 x.k,.pointer (some ⟨x.b,0,none⟩)] 108)) (Blk.new wr 108 #[.int .i64 x.r.x0,.int .i64 x.r.y0,.int .i64 x.r.x1,.int .i64 x.r.y1,.int .i64 x.kind,.int .i64 x.band,.int .i64 x.k,.pointer (some ⟨x.b,0,none⟩)]) (Nat.le_refl _))
           replace HW:=hid hx.1
           replace hx:=hx.2
           replace H0:=hid (H0.out.nx hx)
           replace H1:=hid (H1.out.nx hx)
           replace H2:=hid (H2.out.nx hx)
           replace HN:=hid (HN.out.trans hx)
           replace H3:=hid (H3.out.nx hx)
           replace HGX:=hid (And.intro (hx.1 _ _ HGX.out.1) HGX.out.2)
           generalize roF G wr.heap.size (wr.alloc (.cells #[.int .i64 x.r.x0,.int .i64 x.r.y0,.int .i64 x.r.x1,.int .i64 x.r.y1,.int .i64 x.kind,.int .i64 x.band,.int .i64 x.k,.pointer (some ⟨x.b,0,none⟩)] 108)).heap.size=G2 at*
           generalize wr.alloc (.cells #[.int .i64 x.r.x0,.int .i64 x.r.y0,.int .i64 x.r.x1,.int .i64 x.r.y1,.int .i64 x.kind,.int .i64 x.band,.int .i64 x.k,.pointer (some ⟨x.b,0,none⟩)] 108)=w2 at*
           generalize wr.heap.size=X at*
           clear hx hka HLR aL G
           have hqo:Hid (q.ok 12 17):=hid (rects_ok hpok.out p.lev p.lev q (List.mem_of_getElem? HQI.out.1))
           have hxo:=HQI.out.2.1.ok hqo.out
           obtain⟨D,hD⟩: ∃D:Nat,x.r.x1-x.r.x0=D:=⟨(x.r.x1-x.r.x0).toNat,by have:=hxo.xx;omega⟩
           obtain⟨E,hE⟩: ∃E:Nat,x.r.y1-x.r.y0=E:=⟨(x.r.y1-x.r.y0).toNat,by have:=hxo.yy;omega⟩
           have hD12:D≤12:=by have:=hxo.xs;omega
           have hE12:E≤12:=by have:=hxo.ys;omega
           have hD0:0<D:=by have:=HQI.out.2.2.1;omega
           have hE0:0<E:=by have:=HQI.out.2.2.2;omega
           have hw1:IntKind.i64.wrap (x.r.x1-x.r.x0)=(D:Int):=by rw [hD];exact IntWalk.i64_in _ (by omega)
           have hw2:IntKind.i64.wrap (x.r.y1-x.r.y0)=(E:Int):=by rw [hE];exact IntWalk.i64_in _ (by omega)
           have HDE:=hid (And.intro hD hE)
           have hst:=HP.out.pm.st
           clear hD hE hxo
           go_cut [16,17] (fun u v wx=> ∃(g:Nat) (G':Nat→Option Kd) (Q:Pv) (er:Int),u=.pointer (some ⟨g,0,none⟩)∧v=.int .i64 er∧Hid (Wk 91 G' w0 [⟨22,1,some ⟨gv,0,none⟩,i,cV,vs'⟩] none wx)∧Hid (Nx G2 w2 G' wx)∧Hid (Blk wx g 117 #[.int .i64 Q.pl,.slice Q.A Q.ps.length Q.cA,.slice Q.B Q.bs.length Q.cB])∧Hid (PartOk G' wx Q))
           case first=>
            obtain⟨bA',oA',hA',hrw⟩:=RdS.get (f:=Pln.cells) H1.out.row.1 Pln.len (by rw [HNN.out.1];exact hji) HPI.out
            injection hA' with hA'
            injection hA' with hA1 hA2
            subst hA1 hA2
            obtain⟨hpo,_⟩:=H1.out.ok j P HPI.out
            have hql:=(List.getElem?_eq_some_iff.1 HQI.out.1).1
            rw [rects_len]at hql
            have hbR:x.band<P.nR:=by rw [hpo.nR];exact hql
            have hrc0:=hpo.rects.1
            rw [HPP.out]at hrc0
            obtain⟨rb,ro,hRA,hrr⟩:=RdS.get (f:=fun r:Rc=>r.cells.toList) hrc0 (fun _=>rfl) hbR HQI.out.1
            have aR:w2.drew.cell? ⟨bA,oA+j*7+4,none⟩=some (.slice P.RA P.nR P.cR):=hrw 4 _ rfl
            rw [hRA]at aR
            have rr:w2.drew.rangeAt rb (ro+x.band*4) [.int .i64 q.x0,.int .i64 q.y0,.int .i64 q.x1,.int .i64 q.y1]:=hrr
            have hbn:x.band<nB:=by have:=HnB.out;omega
            have hbn2:(x.band:Int)<(nB:Int):=by omega
            obtain⟨vb,hvb⟩: ∃vb,us[x.band]? =some vb:=⟨_,List.getElem?_eq_getElem (by have:=H3.out.1.1.1;omega)⟩
            obtain⟨A5,n5,c5,z5,evb,hl5,hc5,ho5⟩:=H3.out.2.2 x.band vb hvb
            subst evb
            have hn5:(n5:Int)=q.area:=by
             rw [List.getElem?_map,HQI.out.1]at hl5
             have h4:some q.area=some (n5:Int):=hl5
             injection h4 with h4
             exact h4.symm
            have bb:w2.drew.cell? ⟨gb,x.band,none⟩=some (.slice A5 n5 c5):=by
             obtain⟨b',o',e',hc'⟩:=H3.out.1.1.cell (i:=x.band) (j:=0) (v:=.slice A5 n5 c5) hbn (by rw [Nat.mul_one,Nat.add_zero];exact hvb)
             injection e' with e'
             injection e' with e1 e2
             subst e1 e2
             rwa [Nat.zero_add,Nat.mul_one,Nat.add_zero]at hc'
            have a0:w2.drew.cell? ⟨X,0,none⟩=some (.int .i64 x.r.x0):=HXB.out.1.cell 0
            have a1:w2.drew.cell? ⟨X,1,none⟩=some (.int .i64 x.r.y0):=HXB.out.1.cell 1
            have a2:w2.drew.cell? ⟨X,2,none⟩=some (.int .i64 x.r.x1):=HXB.out.1.cell 2
            have a3:w2.drew.cell? ⟨X,3,none⟩=some (.int .i64 x.r.y1):=HXB.out.1.cell 3
            have a4:w2.drew.cell? ⟨X,4,none⟩=some (.int .i64 x.kind):=HXB.out.1.cell 4
            have a5:w2.drew.cell? ⟨X,5,none⟩=some (.int .i64 x.band):=HXB.out.1.cell 5
            have rx:w2.drew.rangeAt X 0 [.int .i64 x.r.x0,.int .i64 x.r.y0,.int .i64 x.r.x1,.int .i64 x.r.y1]:=fun k v hk=>by
             rw [Nat.zero_add]
             have hk4:k<4:=(List.getElem?_eq_some_iff.1 hk).1
             rcases (show k=0∨k=1∨k=2∨k=3 by omega)with rfl|rfl|rfl|rfl<;>(injection hk with hk;subst hk;assumption)
            have p6:w2.drew.cell? ⟨s+1+1,6,none⟩=some (.int .i64 p.style):=by have h:=H0.out.bp.1.cell 6;rw [HPC.out]at h;exact h
            have CUT:=hid (fun (w9:World) (k9:Keep (fun _=>False) w2.drew w9)=>cut18_any w9 q x.r A5 n5 c5 z5 (ho5.1.one.keepF (w:=w2.drew) k9) hqo.out HQI.out.2.1 hn5 hc5 D E HDE.out.1 HDE.out.2)
            have HKK:=hid (Keep.refl (fun _=>False) w2.drew)
            clear hrw hpo hql hrc0 hRA hrr hvb hl5 hc5 ho5 hn5
            refine At.start (L:=#[false,false,false,false,false,false,false,false,false,false,false,false,false,false,false,false,false,false,false,false,false,false,false,false,false,false,false,false,false,false,false,false,false,false,false,false,false,false,false,false,false,false]) (by kernel_rfl) rfl ?_
            refine AtP 0 112 ?_
            refine AtP 1 113 ?_
            refine AtL 2 114 Tryz.underlying3 ?_
            refine AtP 3 115 ?_
            refine AtP 4 116 ?_
            refine AtL 5 117 Tryz.underlying3 ?_
            refine AtP 6 118 ?_
            refine AtP 7 119 ?_
            refine AtP 8 120 ?_
            refine AtL 9 121 Tryz.underlying3 ?_
            refine AtP 10 122 ?_
            refine AtP 11 123 ?_
            refine AtL 12 124 Tryz.underlying3 ?_
            refine AtP 13 125 ?_
            refine AtP 14 126 ?_
            refine AtL 15 127 Tryz.underlying3 ?_
            refine AtP 16 128 ?_
            refine AtL 17 129 Tryz.underlying3 ?_
            refine AtP 18 130 ?_
            refine AtP 19 131 ?_
            refine AtP 20 132 ?_
            refine AtP 21 133 ?_
            refine AtL 22 134 Tryz.underlying59 ?_
            refine AtP 23 135 ?_
            refine AtL 24 136 Tryz.underlying3 ?_
            refine AtP 25 137 ?_
            first|refine AtL 26 138 Tryz.underlying63 ?_|refine AtR 26 138 Tryz.underlying63 ?_
            refine AtP 27 139 ?_
            refine AtP 28 140 ?_
            refine AtL 29 141 Tryz.underlying3 ?_
            refine AtP 30 142 ?_
            refine AtL 31 143 Tryz.underlying22 ?_
            refine AtP 32 144 ?_
            first|refine AtL 33 145 Tryz.underlying63 ?_|refine AtR 33 145 Tryz.underlying63 ?_
            refine At.two_all 34 39 rfl rfl (by kernel_rfl) rfl rfl (fun K hK=>?_) (fun K hK=>?_)
            · skip
              go_simp
              refine(CUT.out _ HKK.out).mono ?_
              rintro e w5 ⟨V5,d5,y5,rfl,hy5,hv5,hk5⟩
              replace HKK:=hid (HKK.out.trans hk5 (fun _ _ h=>h))
              have RV5:=hid (Rd.of_own hv5)
              refine hK _ _ (by repeat' first|exact all_nil|refine all_cons (by first|exact HKK.out.cell (by assumption) (fun h=>h)|exact range_keep (by assumption) HKK.out (fun h=>h)) ?_) ?_
              clear hK K
              try simp only [NS]
              refine At.two_all 35 39 rfl rfl (by kernel_rfl) rfl rfl (fun K hK=>?_) (fun K hK=>?_)
              · skip
                go_simp
                have hgt:=HKK.out.size
                refine(tier_any _ D E x.kind p.style V5 d5 y5 (by first|exact RV5.out|exact RV5.out.alloc _) hD0 hD12 hE0 hE12 hkd hst).mono ?_
                rintro e w6 ⟨pl,ps,TA,cA,bs,TB',cB,er,rfl,hpl,hps,hbs,hcb,hends,hbys,hoA,hoB,hk6⟩
                replace HKK:=hid (HKK.out.trans hk6 (fun _ _ h=>h))
                have OWA:=hid (And.intro hoA hoB)
                refine hK _ _ (by repeat' first|exact all_nil|refine all_cons (by first|exact HKK.out.cell (by assumption) (fun h=>h)|exact range_keep (by assumption) HKK.out (fun h=>h)) ?_) ?_
                clear hK K
                try simp only [NS]
                refine AtP 36 111 ?_
                refine AtP 37 148 ?_
                refine AtP 38 149 ?_
                refine At.call_all 39 rfl (by kernel_rfl) rfl (fun K hK=>?_)
                go_simp
                have hge:=HKK.out.size
                replace HKK:=hid (HKK.out.alloc (.cells #[.int .i64 0,.slice none 0 0,.slice none 0 0] 117))
                try replace OWA:=hid (And.intro (own_keepF OWA.out.1 ((Keep.refl (fun _=>False) _).alloc (.cells #[.int .i64 0,.slice none 0 0,.slice none 0 0] 117))) (own_keepF OWA.out.2 ((Keep.refl (fun _=>False) _).alloc (.cells #[.int .i64 0,.slice none 0 0,.slice none 0 0] 117))))
                refine hK _ _ (by repeat' first|exact all_nil|refine all_cons (by first|exact HKK.out.cell (by assumption) (fun h=>h)|exact range_keep (by assumption) HKK.out (fun h=>h)) ?_) ?_
                clear hK K
                try simp only [NS]
                refine AtC 40 fun K hK=>?_
                first|(have HB4:=hid (Blk.new w6 117 #[.int .i64 0,.slice none 0 0,.slice none 0 0]);refine wp_store_in HB4.out 117 _ _ rfl 0 #[.int .i64 pl,.slice TA ps.length cA,.slice TB' bs.length cB] rfl rfl (by show 0+3≤3;omega) (by kernel_rfl) (by simp [Value.oneCell']) ?_)|(have HB4:=hid ((Blk.new w5 117 #[.int .i64 0,.slice none 0 0,.slice none 0 0]).keep hk6 (fun h=>h));refine wp_store_in HB4.out 117 _ _ rfl 0 #[.int .i64 pl,.slice TA ps.length cA,.slice TB' bs.length cB] rfl rfl (by show 0+3≤3;omega) (by kernel_rfl) (by simp [Value.oneCell']) ?_)|(have HB4:=hid (((Blk.new w2.drew 117 #[.int .i64 0,.slice none 0 0,.slice none 0 0]).keep hk5 (fun h=>h)).keep hk6 (fun h=>h));refine wp_store_in HB4.out 117 _ _ rfl 0 #[.int .i64 pl,.slice TA ps.length cA,.slice TB' bs.length cB] rfl rfl (by show 0+3≤3;omega) (by kernel_rfl) (by simp [Value.oneCell']) ?_)
                intro w7 hb7 hk7
                have oA7:=own_keep OWA.out.1 hk7 (fun j e1 e2=>own_ne OWA.out.1 HB4.out (by decide) (by rw [e1,show j=_ from e2]))
                have oB7:=own_keep OWA.out.2 hk7 (fun j e1 e2=>own_ne OWA.out.2 HB4.out (by decide) (by rw [e1,show j=_ from e2]))
                have hkf:=((Keep.refl (fun _=>False) w2).drew).trans (HKK.out.new hk7 (fun j e=>by rw [show j=_ from e];exact hge)) (fun _ _ h=>h)
                have hx:=HW.out.callRo hkf
                have HZ1:=hid hx.1
                have HZ2:=hid hx.2
                have HZ3:=hid hb7
                have roA:=HW.out.ro (RdS.of_own oA7) (fun a e=>⟨Nat.le_trans hgt (own_blt oA7 e).1,(own_blt oA7 e).2⟩)
                have roB:=HW.out.ro (RdS.of_own oB7) (fun a e=>⟨Nat.le_trans hgt (own_blt oB7 e).1,(own_blt oB7 e).2⟩)
                have HZ4:=hid (show PartOk _ w7 (⟨pl,ps,TA,cA,bs,TB',cB,0,3⟩:Pv)from⟨hpl,hps,hbs,hcb,hends,hbys,roA.1,roB.1.one,roA.2,roB.2,show(3:Int)≤3 by decide,show(3:Int)≤17 by decide⟩)
                clear hb7 hk7 hkf hx oA7 oB7 roA roB
                refine hK _ _ all_nil ?_
                clear hK K
                try simp only [NS]
                refine AtP 41 17 ?_
                refine At.done (by kernel_rfl) ?_
                go_wp2_with fail
                go_meet
                exact⟨_,_,⟨pl,ps,TA,cA,bs,TB',cB,0,3⟩,er,rfl,rfl,HZ1,HZ2,HZ3,HZ4⟩
              · skip
                go_simp
                have hge:=HKK.out.size
                replace HKK:=hid (HKK.out.alloc (.cells #[.int .i64 0,.slice none 0 0,.slice none 0 0] 117))
                try replace OWA:=hid (And.intro (own_keepF OWA.out.1 ((Keep.refl (fun _=>False) _).alloc (.cells #[.int .i64 0,.slice none 0 0,.slice none 0 0] 117))) (own_keepF OWA.out.2 ((Keep.refl (fun _=>False) _).alloc (.cells #[.int .i64 0,.slice none 0 0,.slice none 0 0] 117))))
                refine hK _ _ (by repeat' first|exact all_nil|refine all_cons (by first|exact HKK.out.cell (by assumption) (fun h=>h)|exact range_keep (by assumption) HKK.out (fun h=>h)) ?_) ?_
                clear hK K
                try simp only [NS]
                refine AtC 35 fun K hK=>?_
                go_simp
                have hgt:=HKK.out.size
                refine(tier_any _ D E x.kind p.style V5 d5 y5 (by first|exact RV5.out|exact RV5.out.alloc _) hD0 hD12 hE0 hE12 hkd hst).mono ?_
                rintro e w6 ⟨pl,ps,TA,cA,bs,TB',cB,er,rfl,hpl,hps,hbs,hcb,hends,hbys,hoA,hoB,hk6⟩
                replace HKK:=hid (HKK.out.trans hk6 (fun _ _ h=>h))
                have OWA:=hid (And.intro hoA hoB)
                refine hK _ _ all_nil ?_
                clear hK K
                try simp only [NS]
                refine AtP 36 111 ?_
                refine AtP 37 148 ?_
                refine AtP 38 149 ?_
                refine AtC 40 fun K hK=>?_
                first|(have HB4:=hid (Blk.new w6 117 #[.int .i64 0,.slice none 0 0,.slice none 0 0]);refine wp_store_in HB4.out 117 _ _ rfl 0 #[.int .i64 pl,.slice TA ps.length cA,.slice TB' bs.length cB] rfl rfl (by show 0+3≤3;omega) (by kernel_rfl) (by simp [Value.oneCell']) ?_)|(have HB4:=hid ((Blk.new w5 117 #[.int .i64 0,.slice none 0 0,.slice none 0 0]).keep hk6 (fun h=>h));refine wp_store_in HB4.out 117 _ _ rfl 0 #[.int .i64 pl,.slice TA ps.length cA,.slice TB' bs.length cB] rfl rfl (by show 0+3≤3;omega) (by kernel_rfl) (by simp [Value.oneCell']) ?_)|(have HB4:=hid (((Blk.new w2.drew 117 #[.int .i64 0,.slice none 0 0,.slice none 0 0]).keep hk5 (fun h=>h)).keep hk6 (fun h=>h));refine wp_store_in HB4.out 117 _ _ rfl 0 #[.int .i64 pl,.slice TA ps.length cA,.slice TB' bs.length cB] rfl rfl (by show 0+3≤3;omega) (by kernel_rfl) (by simp [Value.oneCell']) ?_)
                intro w7 hb7 hk7
                have oA7:=own_keep OWA.out.1 hk7 (fun j e1 e2=>own_ne OWA.out.1 HB4.out (by decide) (by rw [e1,show j=_ from e2]))
                have oB7:=own_keep OWA.out.2 hk7 (fun j e1 e2=>own_ne OWA.out.2 HB4.out (by decide) (by rw [e1,show j=_ from e2]))
                have hkf:=((Keep.refl (fun _=>False) w2).drew).trans (HKK.out.new hk7 (fun j e=>by rw [show j=_ from e];exact hge)) (fun _ _ h=>h)
                have hx:=HW.out.callRo hkf
                have HZ1:=hid hx.1
                have HZ2:=hid hx.2
                have HZ3:=hid hb7
                have roA:=HW.out.ro (RdS.of_own oA7) (fun a e=>⟨Nat.le_trans hgt (own_blt oA7 e).1,(own_blt oA7 e).2⟩)
                have roB:=HW.out.ro (RdS.of_own oB7) (fun a e=>⟨Nat.le_trans hgt (own_blt oB7 e).1,(own_blt oB7 e).2⟩)
                have HZ4:=hid (show PartOk _ w7 (⟨pl,ps,TA,cA,bs,TB',cB,0,3⟩:Pv)from⟨hpl,hps,hbs,hcb,hends,hbys,roA.1,roB.1.one,roA.2,roB.2,show(3:Int)≤3 by decide,show(3:Int)≤17 by decide⟩)
                clear hb7 hk7 hkf hx oA7 oB7 roA roB
                refine hK _ _ all_nil ?_
                clear hK K
                try simp only [NS]
                refine AtP 41 17 ?_
                refine At.done (by kernel_rfl) ?_
                go_wp2_with fail
                go_meet
                exact⟨_,_,⟨pl,ps,TA,cA,bs,TB',cB,0,3⟩,er,rfl,rfl,HZ1,HZ2,HZ3,HZ4⟩
            · skip
              go_simp
              have hge:=HKK.out.size
              replace HKK:=hid (HKK.out.alloc (.cells #[.int .i64 0,.slice none 0 0,.slice none 0 0] 117))
              try replace OWA:=hid (And.intro (own_keepF OWA.out.1 ((Keep.refl (fun _=>False) _).alloc (.cells #[.int .i64 0,.slice none 0 0,.slice none 0 0] 117))) (own_keepF OWA.out.2 ((Keep.refl (fun _=>False) _).alloc (.cells #[.int .i64 0,.slice none 0 0,.slice none 0 0] 117))))
              refine hK _ _ (by repeat' first|exact all_nil|refine all_cons (by first|exact HKK.out.cell (by assumption) (fun h=>h)|exact range_keep (by assumption) HKK.out (fun h=>h)) ?_) ?_
              clear hK K
              try simp only [NS]
              refine At.call_all 34 rfl (by kernel_rfl) rfl (fun K hK=>?_)
              go_simp
              refine(CUT.out _ HKK.out).mono ?_
              rintro e w5 ⟨V5,d5,y5,rfl,hy5,hv5,hk5⟩
              replace HKK:=hid (HKK.out.trans hk5 (fun _ _ h=>h))
              have RV5:=hid (Rd.of_own hv5)
              refine hK _ _ (by repeat' first|exact all_nil|refine all_cons (by first|exact HKK.out.cell (by assumption) (fun h=>h)|exact range_keep (by assumption) HKK.out (fun h=>h)) ?_) ?_
              clear hK K
              try simp only [NS]
              refine AtC 35 fun K hK=>?_
              go_simp
              have hgt:=HKK.out.size
              refine(tier_any _ D E x.kind p.style V5 d5 y5 (by first|exact RV5.out|exact RV5.out.alloc _) hD0 hD12 hE0 hE12 hkd hst).mono ?_
              rintro e w6 ⟨pl,ps,TA,cA,bs,TB',cB,er,rfl,hpl,hps,hbs,hcb,hends,hbys,hoA,hoB,hk6⟩
              replace HKK:=hid (HKK.out.trans hk6 (fun _ _ h=>h))
              have OWA:=hid (And.intro hoA hoB)
              refine hK _ _ all_nil ?_
              clear hK K
              try simp only [NS]
              refine AtP 36 111 ?_
              refine AtP 37 148 ?_
              refine AtP 38 149 ?_
              refine AtC 40 fun K hK=>?_
              first|(have HB4:=hid (Blk.new w6 117 #[.int .i64 0,.slice none 0 0,.slice none 0 0]);refine wp_store_in HB4.out 117 _ _ rfl 0 #[.int .i64 pl,.slice TA ps.length cA,.slice TB' bs.length cB] rfl rfl (by show 0+3≤3;omega) (by kernel_rfl) (by simp [Value.oneCell']) ?_)|(have HB4:=hid ((Blk.new w5 117 #[.int .i64 0,.slice none 0 0,.slice none 0 0]).keep hk6 (fun h=>h));refine wp_store_in HB4.out 117 _ _ rfl 0 #[.int .i64 pl,.slice TA ps.length cA,.slice TB' bs.length cB] rfl rfl (by show 0+3≤3;omega) (by kernel_rfl) (by simp [Value.oneCell']) ?_)|(have HB4:=hid (((Blk.new w2.drew 117 #[.int .i64 0,.slice none 0 0,.slice none 0 0]).keep hk5 (fun h=>h)).keep hk6 (fun h=>h));refine wp_store_in HB4.out 117 _ _ rfl 0 #[.int .i64 pl,.slice TA ps.length cA,.slice TB' bs.length cB] rfl rfl (by show 0+3≤3;omega) (by kernel_rfl) (by simp [Value.oneCell']) ?_)
              intro w7 hb7 hk7
              have oA7:=own_keep OWA.out.1 hk7 (fun j e1 e2=>own_ne OWA.out.1 HB4.out (by decide) (by rw [e1,show j=_ from e2]))
              have oB7:=own_keep OWA.out.2 hk7 (fun j e1 e2=>own_ne OWA.out.2 HB4.out (by decide) (by rw [e1,show j=_ from e2]))
              have hkf:=((Keep.refl (fun _=>False) w2).drew).trans (HKK.out.new hk7 (fun j e=>by rw [show j=_ from e];exact hge)) (fun _ _ h=>h)
              have hx:=HW.out.callRo hkf
              have HZ1:=hid hx.1
              have HZ2:=hid hx.2
              have HZ3:=hid hb7
              have roA:=HW.out.ro (RdS.of_own oA7) (fun a e=>⟨Nat.le_trans hgt (own_blt oA7 e).1,(own_blt oA7 e).2⟩)
              have roB:=HW.out.ro (RdS.of_own oB7) (fun a e=>⟨Nat.le_trans hgt (own_blt oB7 e).1,(own_blt oB7 e).2⟩)
              have HZ4:=hid (show PartOk _ w7 (⟨pl,ps,TA,cA,bs,TB',cB,0,3⟩:Pv)from⟨hpl,hps,hbs,hcb,hends,hbys,roA.1,roB.1.one,roA.2,roB.2,show(3:Int)≤3 by decide,show(3:Int)≤17 by decide⟩)
              clear hb7 hk7 hkf hx oA7 oB7 roA roB
              refine hK _ _ all_nil ?_
              clear hK K
              try simp only [NS]
              refine AtP 41 17 ?_
              refine At.done (by kernel_rfl) ?_
              go_wp2_with fail
              go_meet
              exact⟨_,_,⟨pl,ps,TA,cA,bs,TB',cB,0,3⟩,er,rfl,rfl,HZ1,HZ2,HZ3,HZ4⟩
           case rest=>
            obtain⟨g,G',Q,er,rfl,rfl,HW',HNX,HGB,HQP⟩:=hcut
            replace HW:=HW'
            have hx:=HNX.out
            replace H0:=hid (H0.out.nx hx)
            replace H1:=hid (H1.out.nx hx)
            replace H2:=hid (H2.out.nx hx)
            replace HN:=hid (HN.out.trans hx)
            replace H3:=hid (H3.out.nx hx)
            replace HXB:=hid (HXB.out.nx hx)
            replace HGX:=hid (And.intro (hx.1 _ _ HGX.out.1) HGX.out.2)
            clear hx HW' HNX
            clear G2
            have a6:wc.cell? ⟨X,6,none⟩=some (.int .i64 x.k):=HXB.out.1.cell 6
            have a7:wc.cell? ⟨X,7,none⟩=some (.pointer (some ⟨x.b,0,none⟩)):=HXB.out.1.cell 7
            go_wp2_with (refine wpList_load_row rfl _ _ rfl _ rfl _ _ _ _ HGB.out Tryz.underlying117 rfl (by kernel_rfl) ?_)
            refine(add_any G' w0.heap.size _ x.b nx x.k Q HW.out.fits HGX.out.1 HGX.out.2 HQP.out).mono ?_
            rintro e w8 ⟨rfl,hF8,hk8⟩
            have hx:=HW.out.kinds hk8 (fun j hj=>by obtain⟨n',e⟩:=hj;rw [e];simp) hF8
            replace HW:=hid hx.1
            replace hx:=hx.2
            replace H0:=hid (H0.out.nx hx)
            replace H1:=hid (H1.out.nx hx)
            replace H2:=hid (H2.out.nx hx)
            replace HN:=hid (HN.out.trans hx)
            replace H3:=hid (H3.out.nx hx)
            clear hx hF8 hk8 a6 a7 HGB HQP
            go_wp2_with fail
            go_roundw
            case rel=>exact⟨k+1,G',by omega,by go_num,HW,HN,H0,H1,H2,H3⟩
            case measure=>simp [intOf]<;>omega
         · obtain rfl:k=P.ls.length:=by omega
           clear hrw
           go_wp2_with fail
           go_roundw
           case rel=>exact⟨j+1,G,by omega,by go_num,HW,HN,H0,H1,H2⟩
           case measure=>simp [intOf]<;>omega
      · obtain rfl:j=i:=by omega
        have HZ:=hid (show FillP G0 w0 w (.returned (.tuple #[])) wr from⟨rfl,G,⟨HW.out.fits,HW.out.keep,fun i u h=>by simp at h,fun i j u v _ h=>by simp at h,fun _ _ e=>by cases e⟩,HN.out⟩)
        go_wp2_with fail
        go_end0
        exact HZ.out
end Go.Proofs.YthfogcgdijmaoaaGreat
