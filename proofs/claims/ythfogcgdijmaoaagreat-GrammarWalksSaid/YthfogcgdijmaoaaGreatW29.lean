/-
  Part 29 of the proof: Plan. Conditions: those of the statements.
-/
import Derived.Test.YthfogcgdijmaoaaGreatW28
import Derived.Deep.DeepCutAuto
set_option maxRecDepth 100000
set_option maxHeartbeats 16000000
set_option linter.unusedVariables false
set_option linter.unusedSimpArgs false
namespace Go.Proofs.YthfogcgdijmaoaaGreat
open Go.RowKit
structure Pl0 (G:Nat→Option Kd) (w:World) (s:Nat) (t:Rc) (m:Im) (p:Pm) (eA:Option Addr) (es:List Int):Prop where
 bt:RoB G w s 63 t.cells
 bm:RoB G w (s+1) 29 m.cells
 bp:RoB G w (s+2) 31 p.cells
 ex:Ro G w eA (1+3*p.lev) 1 (es.map (Value.int .i64))
def OutsOk (G:Nat→Option Kd) (base NB:Nat) (w:World) (lev prec:Nat) (t:Rc) (cs:List Cm) (outs:List Pln):Prop:= ∀(i:Nat) (P:Pln),outs[i]? =some P→PlnOk G base NB w lev prec P∧ ∃C:Cm,cs[i]? =some C∧P.part=t.part C.dx C.dy
def CurOk (G:Nat→Option Kd) (base NB:Nat) (w:World) (part:Rc) (lev prec:Nat) (ls:List Plc) (hs:List Hd2):Prop:=(∀ x∈ls,PlcOk G (rectsR part lev lev) x)∧HdsOk G base NB w part lev prec hs
structure ResOk (G:Nat→Option Kd) (w:World) (x k b:Nat) (part:Rc) (lev r:Nat):Prop where
 res:RoB G w x 63 (part.reso lev r).cells
 kin:RoB G w k 3 ((bandsK r).map (Value.int .i64)).toArray
 rec_:RoB G w b 63 (rcs (bandsR part lev r)).toArray
def DsOk (G:Nat→Option Kd) (base NB:Nat) (w:World) (ds:List Hd1):Prop:= ∀d∈ds,Hd1Ok G base NB w d
def BsOk (G:Nat→Option Kd) (NB:Nat) (bs:List Nat):Prop:= ∀b∈bs,∃n,G b=some (.band n)∧n≤NB
def QOk (G:Nat→Option Kd) (w:World) (A:Option Addr) (n q:Nat) (rs:List Rc):Prop:=(0<n→Ro G w A n 4 (rcs rs))∧G q=some (.band n)
section
variable {G G':Nat→Option Kd} {base NB:Nat} {w w':World}
theorem Pl0.nx {s:Nat} {t:Rc} {m:Im} {p:Pm} {eA:Option Addr} {es:List Int} (h:Pl0 G w s t m p eA es) (hx:Nx G w G' w'):Pl0 G' w' s t m p eA es:=⟨h.bt.nx hx,h.bm.nx hx,h.bp.nx hx,h.ex.nx hx⟩
theorem OutsOk.nx {lev prec:Nat} {t:Rc} {cs:List Cm} {outs:List Pln} (h:OutsOk G base NB w lev prec t cs outs) (hx:Nx G w G' w'):OutsOk G' base NB w' lev prec t cs outs:=fun i P hi=>⟨(h i P hi).1.nx hx,(h i P hi).2⟩
theorem OutsOk.nil {lev prec:Nat} {t:Rc} {cs:List Cm}:OutsOk G base NB w lev prec t cs []:=fun i P h=>by simp at h
theorem OutsOk.snoc {lev prec:Nat} {t:Rc} {cs:List Cm} {outs:List Pln} {P:Pln} {C:Cm} (h:OutsOk G base NB w lev prec t cs outs) (hP:PlnOk G base NB w lev prec P) (hC:cs[outs.length]? =some C) (hp:P.part=t.part C.dx C.dy):OutsOk G base NB w lev prec t cs (outs++[P]):=by
 intro r d hd
 rcases Nat.lt_trichotomy r outs.length with h1|h1|h1
 · rw [List.getElem?_append_left h1]at hd;exact h r d hd
 · subst h1
   simp at hd
   subst hd
   exact⟨hP,C,hC,hp⟩
 · rw [List.getElem?_append_right (by omega),List.getElem?_eq_none (by simp;omega)]at hd;cases hd
theorem CurOk.nx {part:Rc} {lev prec:Nat} {ls:List Plc} {hs:List Hd2} (h:CurOk G base NB w part lev prec ls hs) (hx:Nx G w G' w'):CurOk G' base NB w' part lev prec ls hs:=⟨fun x hm=>(h.1 x hm).mono hx.1,h.2.nx hx⟩
theorem ResOk.nx {x k b:Nat} {part:Rc} {lev r:Nat} (h:ResOk G w x k b part lev r) (hx:Nx G w G' w'):ResOk G' w' x k b part lev r:=⟨h.res.nx hx,h.kin.nx hx,h.rec_.nx hx⟩
theorem DsOk.nx {ds:List Hd1} (h:DsOk G base NB w ds) (hx:Nx G w G' w'):DsOk G' base NB w' ds:=fun d hd=>(h d hd).nx hx
theorem BsOk.nx {bs:List Nat} (h:BsOk G NB bs) (hx:Nx G w G' w'):BsOk G' NB bs:=fun b hb=>by obtain⟨n,h1,h2⟩:=h b hb;exact⟨n,hx.1 _ _ h1,h2⟩
theorem QOk.nx {A:Option Addr} {n q:Nat} {rs:List Rc} (h:QOk G w A n q rs) (hx:Nx G w G' w'):QOk G' w' A n q rs:=⟨fun h0=>(h.1 h0).nx hx,hx.1 _ _ h.2⟩
end
theorem bands_any (w:World) (r:Rc) (L k:Nat) (h:r.fits 16777216) (hL:L≤8) (hkL:k≤L):Calls Tryz.prog 52 #[r.val,.int .i64 L,.int .i64 k] w (BandsP w r L k):=by
 rcases Nat.eq_zero_or_pos k with rfl|h0
 · exact bands_low w r L h hL
 · exact bands_high w r L k h hL h0 hkL
def planC (q:Rc) (RA:Option Addr) (nR cR:Nat) (LA:Option Addr) (nL cL:Nat) (HA:Option Addr) (nH cH:Nat):Array Value:=#[.int .i64 q.x0,.int .i64 q.y0,.int .i64 q.x1,.int .i64 q.y1,.slice RA nR cR,.slice LA nL cL,.slice HA nH cH]
theorem plans_any (w:World) (t:Rc) (m:Im) (p:Pm) (cs:List Cm) (hcs:RdS w m.A m.n 5 (cms cs)) (hl:cs.length=m.n) (hC: ∀c∈cs,CmOk c) (hD: ∀c∈cs,c.depth≤10) (hn4:m.n≤4) (hP:PmOk p) (ht:t.ok 12 17):
 Calls Tryz.prog 39 #[.agg t.cells,.agg m.cells,.agg p.cells] w (PlansP w t cs p.lev p.prec):=by
 obtain⟨i1,hi1,ez0,ez1,ez2⟩:=info_parts info_pln
 obtain⟨i2,hi2,ey0,ey1,ey2⟩:=info_parts info_rect
 obtain⟨i3,hi3,ex0,ex1,ex2⟩:=info_parts info_plc
 obtain⟨i4,hi4,eu0,eu1,eu2⟩:=info_parts info_h3
 obtain⟨i5,hi5,et0,et1,et2⟩:=info_parts info_h2
 obtain⟨i6,hi6,es0,es1,es2⟩:=info_parts info_h1
 have HMC:=hid (show m.cells=#[.int .i64 m.x,.int .i64 m.y,.int .i64 m.ox,.int .i64 m.oy,.slice m.A m.n m.c]from rfl)
 have HPC:=hid (show p.cells=#[.int .i64 p.tx,.int .i64 p.ty,.int .i64 p.lev,.int .i64 p.cbw,.int .i64 p.cbh,.int .i64 p.prec,.int .i64 p.style,.int .i64 p.order,.int .i64 p.lay,.bool p.rct,.bool p.sop,.bool p.eph]from rfl)
 have HCS:=hid hcs
 have HCL:=hid hl
 have HCO:=hid hC
 have HPM:=hid hP
 have HTO:=hid ht
 have EXP:=hid (fun w' (k:Keep (fun _=>False) w w')=>expo_any w' m p cs (hcs.keep0 k) hl hD hn4 hP.lev)
 have b1:=(Blk.new w 63 t.cells).alloc (.cells m.cells 29)
 have b2:=Blk.new1 w (.cells t.cells 63) 29 m.cells
 have HB1:=hid (b1.alloc (.cells p.cells 31))
 have HB2:=hid (b2.alloc (.cells p.cells 31))
 have HB3:=hid (Blk.new2 w (.cells t.cells 63) (.cells m.cells 29) 31 p.cells)
 have HK0:=hid ((((Keep.refl (fun _=>False) w).alloc (.cells t.cells 63)).alloc (.cells m.cells 29)).alloc (.cells p.cells 31))
 have hlev:=hP.lev
 clear hcs hl hC hD hP ht b1 b2
 go_enter Tryz.func39,Tryz.ntmps39
 go_upto_region 2 with fail
 generalize ((w.alloc (.cells t.cells 63)).alloc (.cells m.cells 29)).alloc (.cells p.cells 31)=w1 at*
 have W0:=(Wk.start w 91).callRo HK0.out
 have HW:=hid W0.1
 have hT:=hid ((Wk.start w 91).roB HB1.out (Nat.le_refl _))
 have hM:=hid ((Wk.start w 91).roB HB2.out (Nat.le_succ _))
 have hPp:=hid ((Wk.start w 91).roB HB3.out (by omega))
 generalize roF (fun _=>none) w.heap.size w1.heap.size=G1 at*
 clear W0
 go_wp2_with (first|(refine wpList_load_row rfl _ _ rfl _ rfl _ _ _ _ HB2.out Tryz.underlying29 rfl (by kernel_rfl) ?_)|(refine wpList_load_row rfl _ _ rfl _ rfl _ _ _ _ HB3.out Tryz.underlying31 rfl (by kernel_rfl) ?_))
 refine(EXP.out _ HK0.out).mono ?_
 rintro e w2 ⟨eA,ec,es,rfl,hel,hes,hec,hown,hk2⟩
 obtain⟨ge,heA,_⟩:=own_at hown (by omega)
 subst heA
 have W1:=HW.out.callRo hk2
 have H0:=hid (show Pl0 (roF G1 w1.heap.size w2.heap.size) w2 w.heap.size t m p (some ⟨ge,0,none⟩) es from
  ⟨hT.out.nx W1.2,hM.out.nx W1.2,hPp.out.nx W1.2,HW.out.ro (RdS.of_own hown) (fun a e=>own_blt hown e)⟩)
 replace HW:=hid W1.1
 generalize roF G1 w1.heap.size w2.heap.size=G2 at*
 have HES:=hid (And.intro hel hes)
 clear W1 hT hM hPp HB1 HB2 HB3 HK0 EXP hel hes hown hk2
 generalize hs:w.heap.size=s at*
 have HSS:=hid hs
 clear hs
 go_wp2_with fail
 have HW1:=hid (HW.out.nil 91 7)
 go_loopw [7,9] (fun l v wr=> ∃(i:Nat) (A:Option Addr) (c:Nat) (outs:List Pln) (G:Nat→Option Kd),i≤m.n∧v=.int .i64 i∧l=.slice A i c∧Hid (outs.length=i)∧Hid (Wk 91 G w [⟨91,7,A,i,c,fl Pln.cells outs⟩] none wr)∧Hid (Pl0 G wr s t m p (some ⟨ge,0,none⟩) es)∧Hid (OutsOk G s (blkT p.prec*blkT p.prec) wr p.lev p.prec t cs outs)) (fun _ v _=>m.n-(intOf v).toNat)
 case atStart=>exact⟨0,none,0,[],G2,by omega,rfl,rfl,hid rfl,HW1,H0,hid OutsOk.nil⟩
 case round=>
  clear HW HW1 H0
  obtain⟨i,A,c,outs,G,hi,rfl,rfl,HOL,HW,H0,H1⟩:=hrel
  have m4:wr.cell? ⟨s+1,4,none⟩=some (.slice m.A m.n m.c):=by rw [H0.out.bm.1.cell,HMC.out];rfl
  by_cases hin:i<m.n
  · obtain⟨b,o,C,hCi,hA,_,_,c2,c3,_⟩:=comp_cells2 (HCS.out.keep0 HW.out.keep) HCL.out hin
    have HCI:=hid hCi
    have hco:=HCO.out C (List.mem_of_getElem? hCi)
    have hx1:=hco.x1
    have hx2:=hco.x2
    have hy1:=hco.y1
    have hy2:=hco.y2
    rw [hA]at m4
    clear hCi hA hco
    go_upto_region 6 with fail
    have d4:wr.drew.cell? ⟨s+1,4,none⟩=some (.slice (some ⟨b,o,none⟩) m.n m.c):=m4
    have d2:wr.drew.cell? ⟨b,o+i*5+2,none⟩=some (.int .i64 C.dx):=c2
    have d3:wr.drew.cell? ⟨b,o+i*5+3,none⟩=some (.int .i64 C.dy):=c3
    have dr:wr.drew.rangeAt s 0 t.cells.toList:=H0.out.bt.1.drew.range
    have HX:=hid (HW.out.callF ((Keep.refl _ wr).drew)).1
    have HN:=hid (Nx.keepF (G:=G) ((Keep.refl _ wr).drew))
    have hpo:=hid (HTO.out.over (dx:=C.dx) (dy:=C.dy) (ax:=0) (ay:=0) ⟨by omega,by omega⟩ ⟨by omega,by omega⟩)
    have HTF:=hid (HTO.out.fits24 (by omega))
    obtain⟨q,hq⟩: ∃q,t.part C.dx C.dy=q:=⟨_,rfl⟩
    have HQ:=hid hq
    have hpo:Hid (q.ok 12 17):=hid (by rw [← hq];exact hpo.out)
    clear m4 c2 c3
    go_cut [10] (fun v wx=> ∃g,v=.pointer (some ⟨g,0,none⟩)∧Hid (Wk 91 G w [⟨91,7,A,i,c,fl Pln.cells outs⟩] (some (g,planC q none 0 0 none 0 0 none 0 0)) wx)∧Hid (Nx G wr G wx))
    case first=>
     obtain⟨q0,q1,q2,q3⟩:=q
     have PA: ∀w,Calls Tryz.prog 31 #[.agg t.cells,.int .i64 C.dx,.int .i64 C.dy] w fun e w'=>e=.returned (.agg #[.int .i64 q0,.int .i64 q1,.int .i64 q2,.int .i64 q3])∧Keep (fun _=>False) w w':=fun w=>by
      have h:=part_any w t C.dx C.dy HTF.out ⟨by omega,by omega⟩ ⟨by omega,by omega⟩
      rw [hq]at h
      exact h
     clear hq
     refine At.start (L:=#[false,false,false,false,false,false,false,false,false,false,false,false,false,false,false,false,false]) (by kernel_rfl) rfl ?_
     first|refine AtL 0 37 Tryz.underlying63 ?_|refine AtR 0 37 Tryz.underlying63 ?_
     refine AtP 1 38 ?_
     refine AtL 2 39 Tryz.underlying27 ?_
     refine AtP 3 40 ?_
     refine AtP 4 41 ?_
     refine AtP 5 42 ?_
     refine AtL 6 43 Tryz.underlying3 ?_
     refine AtP 7 44 ?_
     refine AtL 8 45 Tryz.underlying27 ?_
     refine AtP 9 46 ?_
     refine AtP 10 47 ?_
     refine AtP 11 48 ?_
     refine AtL 12 49 Tryz.underlying3 ?_
     refine At.two_all 13 15 rfl rfl (by kernel_rfl) rfl rfl (fun K hK=>?_) (fun K hK=>?_)
     · skip
       go_simp
       refine(PA _).mono ?_
       rintro e w5 ⟨rfl,hk5⟩
       replace HN:=hid (HN.out.trans (Nx.keepF hk5))
       replace HX:=hid (HX.out.callF hk5).1
       refine hK _ _ (by repeat' first|exact all_nil|refine all_cons (by first|exact hk5.cell (by assumption) (fun h=>h)|exact range_keep (by assumption) hk5 (fun h=>h)|exact hk5.cell (((Keep.refl (fun _=>False) _).alloc _).cell (by assumption) (fun h=>h)) (fun h=>h)|exact range_keep (range_keep (by assumption) ((Keep.refl (fun _=>False) _).alloc _) (fun h=>h)) hk5 (fun h=>h)) ?_) ?_
       clear hK K
       try simp only [NS]
       refine AtP 14 51 ?_
       refine At.call_all 15 rfl (by kernel_rfl) rfl (fun K hK=>?_)
       go_simp
       replace HN:=hid (HN.out.trans (HX.out.newB #[.int .i64 0,.int .i64 0,.int .i64 0,.int .i64 0,.slice none 0 0,.slice none 0 0,.slice none 0 0]).2)
       replace HX:=hid (HX.out.newB #[.int .i64 0,.int .i64 0,.int .i64 0,.int .i64 0,.slice none 0 0,.slice none 0 0,.slice none 0 0]).1
       refine hK _ _ (by repeat' first|exact all_nil|refine all_cons (by first|exact((Keep.refl (fun _=>False) _).alloc _).cell (by assumption) (fun h=>h)|exact range_keep (by assumption) ((Keep.refl (fun _=>False) _).alloc _) (fun h=>h)|exact((Keep.refl (fun _=>False) _).alloc _).cell (hk5.cell (by assumption) (fun h=>h)) (fun h=>h)|exact range_keep (range_keep (by assumption) hk5 (fun h=>h)) ((Keep.refl (fun _=>False) _).alloc _) (fun h=>h)) ?_) ?_
       clear hK K
       try simp only [NS]
       refine AtC 16 fun K hK=>?_
       refine wp_store_in (HX.out.bk _ _ rfl).1 91 _ _ rfl 0 (planC ⟨q0,q1,q2,q3⟩ none 0 0 none 0 0 none 0 0) rfl rfl (by show 0+7≤7;omega) (by kernel_rfl) (by simp [Value.oneCell',planC]) ?_
       intro w7 hb7 hk7
       replace HN:=hid (HN.out.trans (HX.out.put hb7 hk7).2)
       replace HX:=hid (HX.out.put hb7 hk7).1
       refine hK _ _ all_nil ?_
       clear hK K
       try simp only [NS]
       refine At.done (by kernel_rfl) ?_
       go_wp2_with fail
       go_meet
       exact⟨_,rfl,HX,HN⟩
     · skip
       go_simp
       replace HN:=hid (HN.out.trans (HX.out.newB #[.int .i64 0,.int .i64 0,.int .i64 0,.int .i64 0,.slice none 0 0,.slice none 0 0,.slice none 0 0]).2)
       replace HX:=hid (HX.out.newB #[.int .i64 0,.int .i64 0,.int .i64 0,.int .i64 0,.slice none 0 0,.slice none 0 0,.slice none 0 0]).1
       refine hK _ _ (by repeat' first|exact all_nil|refine all_cons (by first|exact((Keep.refl (fun _=>False) _).alloc _).cell (by assumption) (fun h=>h)|exact range_keep (by assumption) ((Keep.refl (fun _=>False) _).alloc _) (fun h=>h)|exact((Keep.refl (fun _=>False) _).alloc _).cell (hk5.cell (by assumption) (fun h=>h)) (fun h=>h)|exact range_keep (range_keep (by assumption) hk5 (fun h=>h)) ((Keep.refl (fun _=>False) _).alloc _) (fun h=>h)) ?_) ?_
       clear hK K
       try simp only [NS]
       refine AtC 13 fun K hK=>?_
       go_simp
       refine(PA _).mono ?_
       rintro e w5 ⟨rfl,hk5⟩
       replace HN:=hid (HN.out.trans (Nx.keepF hk5))
       replace HX:=hid (HX.out.callF hk5).1
       refine hK _ _ all_nil ?_
       clear hK K
       try simp only [NS]
       refine AtP 14 51 ?_
       refine AtC 16 fun K hK=>?_
       refine wp_store_in (HX.out.bk _ _ rfl).1 91 _ _ rfl 0 (planC ⟨q0,q1,q2,q3⟩ none 0 0 none 0 0 none 0 0) rfl rfl (by show 0+7≤7;omega) (by kernel_rfl) (by simp [Value.oneCell',planC]) ?_
       intro w7 hb7 hk7
       replace HN:=hid (HN.out.trans (HX.out.put hb7 hk7).2)
       replace HX:=hid (HX.out.put hb7 hk7).1
       refine hK _ _ all_nil ?_
       clear hK K
       try simp only [NS]
       refine At.done (by kernel_rfl) ?_
       go_wp2_with fail
       go_meet
       exact⟨_,rfl,HX,HN⟩
    case rest=>
     obtain⟨g,rfl,HX',HN'⟩:=hcut
     have hx:=HN'.out
     replace HW:=HX'
     clear HX HX' HN HN' d2 d3 d4 dr
     try replace H0:=hid (H0.out.nx hx)
     try replace H1:=hid (H1.out.nx hx)
     try replace H2:=hid (H2.out.nx hx)
     try replace H3:=hid (H3.out.nx hx)
     try replace H4:=hid (H4.out.nx hx)
     try replace H5:=hid (H5.out.nx hx)
     try replace H6:=hid (H6.out.nx hx)
     have HCS2:=HCS
     clear hx
     have H2:=hid (show CurOk G s (blkT p.prec*blkT p.prec) wc q p.lev p.prec [] []from⟨fun _ h=>by(cases h),HdsOk.nil⟩)
     replace HW:=hid (((HW.out.nil 63 4).nil 108 8).nil 87 1)
     go_wp2_with fail
     go_loopw [11] (fun v wl=> ∃(r:Nat) (RA:Option Addr) (cR:Nat) (LA:Option Addr) (cL:Nat) (ls:List Plc) (HA:Option Addr) (cH:Nat) (hs:List Hd2) (G:Nat→Option Kd),r≤p.lev+1∧v=.int .i64 r∧Hid (hs.length=r)∧Hid (ls.length≤r*6075)∧Hid (Wk 91 G w [⟨91,7,A,i,c,fl Pln.cells outs⟩,⟨63,4,RA,fst18 r,cR,rcs ((rectsR q p.lev p.lev).take (fst18 r))⟩,⟨108,8,LA,ls.length,cL,fl Plc.cells ls⟩,⟨87,1,HA,r,cH,hs.map Hd2.val⟩] (some (g,planC q RA (fst18 r) cR LA ls.length cL HA r cH)) wl)∧Hid (Pl0 G wl s t m p (some ⟨ge,0,none⟩) es)∧Hid (OutsOk G s (blkT p.prec*blkT p.prec) wl p.lev p.prec t cs outs)∧Hid (CurOk G s (blkT p.prec*blkT p.prec) wl q p.lev p.prec ls hs)) (fun v _=>p.lev+1-(intOf v).toNat)
     case atStart=>exact⟨0,none,0,none,0,[],none,0,[],G,by omega,rfl,hid rfl,hid (by simp),HW,H0,H1,H2⟩
     case round=>
      clear HW H0 H1 H2
      clear G
      obtain⟨r,RA,cR,LA,cL,ls,HA,cH,hs,G,hr,rfl,HHL,HLL,HW,H0,H1,H2⟩:=hrel
      have p2c:wr.cell? ⟨s+1+1,2,none⟩=some (.int .i64 p.lev):=by have h:=H0.out.bp.1.cell 2;rw [HPC.out]at h;exact h
      by_cases hrl:r≤p.lev
      · have hg:=(HW.out.bk _ _ rfl).1
        have HQR:=hid (show wr.rangeAt g 0 [.int .i64 q.x0,.int .i64 q.y0,.int .i64 q.x1,.int .i64 q.y1]from fun j v hj=>by
         rw [hg.cell]
         have hj4:j<4:=(List.getElem?_eq_some_iff.1 hj).1
         rcases (show j=0∨j=1∨j=2∨j=3 by omega)with rfl|rfl|rfl|rfl<;>exact hj)
        obtain⟨z,hz⟩: ∃z,q.reso p.lev r=z:=⟨_,rfl⟩
        have hzo:Hid (z.ok 12 17):=hid (by rw [← hz];exact hpo.out.over ⟨by omega,p2_pos _⟩ ⟨by omega,p2_pos _⟩)
        have HQF:=hid (hpo.out.fits24 (by omega))
        have RE: ∀w,Calls Tryz.prog 51 #[.agg #[.int .i64 q.x0,.int .i64 q.y0,.int .i64 q.x1,.int .i64 q.y1],.int .i64 p.lev,.int .i64 r] w fun e w'=>e=.returned (.agg #[.int .i64 z.x0,.int .i64 z.y0,.int .i64 z.x1,.int .i64 z.y1])∧Keep (fun _=>False) w w':=fun w=>by
         have h:=res_any w q p.lev r HQF.out hrl (by omega)
         rw [show q.over (p2 (p.lev-r)) (p2 (p.lev-r)) 0 0=z from hz]at h
         exact h
        have HZ:=hid hz
        have RE:=hid RE
        have BA:=hid (fun w=>bands_any w q p.lev r HQF.out (by omega) hrl)
        clear hg hz
        go_wp2_with (refine wpList_load_mid rfl 63 (.tmp 58) rfl _ _ rfl _ _ HQR.out Tryz.underlying63 rfl (by kernel_rfl) ?_)
        refine(RE.out _).mono ?_
        rintro e w3 ⟨rfl,hk3⟩
        have hx:=HW.out.callF hk3
        replace HW:=hid hx.1
        replace hx:=hx.2
        try replace H0:=hid (H0.out.nx hx)
        try replace H1:=hid (H1.out.nx hx)
        try replace H2:=hid (H2.out.nx hx)
        try replace H3:=hid (H3.out.nx hx)
        try replace H4:=hid (H4.out.nx hx)
        try replace H5:=hid (H5.out.nx hx)
        try replace H6:=hid (H6.out.nx hx)
        clear hx hk3 p2c HQR
        go_upto_region 11 with(refine wpList_store_row rfl _ _ _ rfl w3.heap.size _ rfl rfl _ _ (Blk.new w3 _ _) (by kernel_rfl) rfl (by simp [Value.oneCell']) ?_)
        rw [World.setRow_alloc_new]
        have hka:Keep (fun _=>False) w3 (w3.alloc (.cells #[.int .i64 z.x0,.int .i64 z.y0,.int .i64 z.x1,.int .i64 z.y1] 63)):=(Keep.refl _ w3).alloc _
        have hx:=HW.out.callRo hka
        have HZB:=hid (HW.out.roB (w':=w3.alloc (.cells #[.int .i64 z.x0,.int .i64 z.y0,.int .i64 z.x1,.int .i64 z.y1] 63)) (Blk.new w3 63 #[.int .i64 z.x0,.int .i64 z.y0,.int .i64 z.x1,.int .i64 z.y1]) (Nat.le_refl _))
        replace HW:=hid hx.1
        replace hx:=hx.2
        try replace H0:=hid (H0.out.nx hx)
        try replace H1:=hid (H1.out.nx hx)
        try replace H2:=hid (H2.out.nx hx)
        try replace H3:=hid (H3.out.nx hx)
        try replace H4:=hid (H4.out.nx hx)
        try replace H5:=hid (H5.out.nx hx)
        try replace H6:=hid (H6.out.nx hx)
        generalize roF G w3.heap.size (w3.alloc (.cells #[.int .i64 z.x0,.int .i64 z.y0,.int .i64 z.x1,.int .i64 z.y1] 63)).heap.size=G2 at*
        generalize w3.alloc (.cells #[.int .i64 z.x0,.int .i64 z.y0,.int .i64 z.x1,.int .i64 z.y1] 63)=w4 at*
        generalize w3.heap.size=zx at*
        clear hx hka
        have p2c:w4.cell? ⟨s+1+1,2,none⟩=some (.int .i64 p.lev):=by have h:=H0.out.bp.1.cell 2;rw [HPC.out]at h;exact h
        have hg:=(HW.out.bk _ _ rfl).1
        have HQR:=hid (show w4.rangeAt g 0 [.int .i64 q.x0,.int .i64 q.y0,.int .i64 q.x1,.int .i64 q.y1]from fun j v hj=>by
         rw [hg.cell]
         have hj4:j<4:=(List.getElem?_eq_some_iff.1 hj).1
         rcases (show j=0∨j=1∨j=2∨j=3 by omega)with rfl|rfl|rfl|rfl<;>exact hj)
        clear hg
        go_wp2_with (refine wpList_load_mid rfl 63 (.tmp 65) rfl _ _ rfl _ _ HQR.out Tryz.underlying63 rfl (by kernel_rfl) ?_)
        refine(BA.out _).mono ?_
        rintro e w5 ⟨gk,gb,rfl,hgk,hgb,hbk,hbb,hk5⟩
        have hx:=HW.out.callRo hk5
        have H3:=hid (show ResOk (roF G2 w4.heap.size w5.heap.size) w5 zx gk gb q p.lev r from⟨by rw [HZ.out];exact HZB.out.nx hx.2,HW.out.roB hbk hgk,HW.out.roB hbb hgb⟩)
        replace HW:=hid hx.1
        replace hx:=hx.2
        replace H0:=hid (H0.out.nx hx)
        replace H1:=hid (H1.out.nx hx)
        replace H2:=hid (H2.out.nx hx)
        generalize roF G2 w4.heap.size w5.heap.size=G3 at*
        clear hx hk5 hgk hgb hbk hbb p2c HQR HZB RE BA
        have c4:w5.cell? ⟨g,4,none⟩=some (.slice RA (fst18 r) cR):=(HW.out.bk _ _ rfl).1.cell 4
        obtain⟨nb,hnb⟩: ∃nb,(bandsR q p.lev r).length=nb:=⟨_,rfl⟩
        have hkl:(bandsK r).length=nb:=by rw [← hnb,bandsR_len];unfold bandsK;split<;>rfl
        have hnb3:nb≤3:=by rw [← hnb,bandsR_len];split<;>omega
        have HNB:=hid hnb
        have HFS:=hid (show fst18 (r+1)=fst18 r+nb from by rw [← hnb];exact fst_succ r q p.lev)
        rw [hnb,hkl]
        clear hnb hkl
        have hfs:fst18 r≤16:=by unfold fst18;split<;>omega
        have HOW:=hid (HW.out.at_ 1 rfl)
        have hb5:w.heap.size≤w5.heap.size:=HW.out.keep.size
        have HRD:=hid (show RdS w5 (some ⟨gb,0,none⟩) nb 4 (rcs (bandsR q p.lev r))from by
         refine⟨by rw [rcs_len,HNB.out],fun _=>⟨gb,0,rfl,fun j v hj=>?_⟩⟩
         rw [H3.out.rec_.1.cell,Nat.zero_add]
         simpa using hj)
        go_upto_region 14 with(
         at_builtin
         go_must (refine wpList_append_manyA _ rfl (.tmp 77) (.tmp 78) 59 rfl w.heap.size 63 i2 _ 4 32 Tryz.underlying59 hi2 ey0 ey1 ey2 rfl (by omega) HOW.out rfl HRD.out rfl (rcs_onecell _) (by simp only [maxLen];omega) (by omega) hb5 ?_)
         intro A6 c6 w6 hown6 hk6 hat6
         have hx:=HW.out.row 1 (u':=⟨63,4,A6,fst18 r+nb,c6,_⟩) rfl hown6 hk6 hat6
         replace HW:=hid hx.1
         replace hx:=hx.2
         try replace H0:=hid (H0.out.nx hx)
         try replace H1:=hid (H1.out.nx hx)
         try replace H2:=hid (H2.out.nx hx)
         try replace H3:=hid (H3.out.nx hx)
         try replace H4:=hid (H4.out.nx hx)
         try replace H5:=hid (H5.out.nx hx)
         try replace H6:=hid (H6.out.nx hx)
         have t6:w6.cell? ⟨g,4,none⟩=some (.slice RA (fst18 r) cR):=(HW.out.bk _ _ rfl).1.cell 4
         have f6:=(HW.out.bk _ _ rfl).1.frozen 4
         clear hx hown6 hk6 hat6)
        have hx:=HW.out.set 4 (.slice A6 (fst18 r+nb) c6)
        have hpc:(planC q RA (fst18 r) cR LA ls.length cL HA r cH).setIfInBounds 4 (.slice A6 (fst18 r+nb) c6)=planC q A6 (fst18 r+nb) c6 LA ls.length cL HA r cH:=rfl
        rw [hpc]at hx
        rw [← rcs_app,show(rectsR q p.lev p.lev).take (fst18 r)++bandsR q p.lev r=(rectsR q p.lev p.lev).take (fst18 r+nb)from by rw [rects_take q p.lev r hrl,HFS.out]]at hx
        replace HW:=hid hx.1
        replace hx:=hx.2
        try replace H0:=hid (H0.out.nx hx)
        try replace H1:=hid (H1.out.nx hx)
        try replace H2:=hid (H2.out.nx hx)
        try replace H3:=hid (H3.out.nx hx)
        try replace H4:=hid (H4.out.nx hx)
        try replace H5:=hid (H5.out.nx hx)
        try replace H6:=hid (H6.out.nx hx)
        generalize w6.setCell ⟨g,4,none⟩ (.slice A6 (fst18 r+nb) c6)=w7 at*
        clear hx hpc t6 f6 c4 HOW HRD hb5
        have p5:w7.cell? ⟨s+1+1,5,none⟩=some (.int .i64 p.prec):=by have h:=H0.out.bp.1.cell 5;rw [HPC.out]at h;exact h
        have hpw:=prec_wide hzo.out HPM.out.p1
        have PR:=hid (fun w=>prec_any w z p.prec (hzo.out.pos.mono (by omega)) HPM.out.p15)
        have HRB:=hid (show Blk w7 zx 63 #[.int .i64 z.x0,.int .i64 z.y0,.int .i64 z.x1,.int .i64 z.y1]from by have h:=H3.out.res.1;rw [HZ.out]at h;exact h)
        have hpt:precT p.prec≤9:=precT_le p.prec
        obtain⟨pw,hpwE⟩: ∃pw,z.preW p.prec=pw:=⟨_,rfl⟩
        obtain⟨ph,hphE⟩: ∃ph,z.preH p.prec=ph:=⟨_,rfl⟩
        rw [hpwE,hphE]at hpw
        rw [hpwE,hphE]at PR
        obtain⟨u1,g1,q1,d1,b1⟩:=mul_in (a:=pw) (b:=ph) (B:=81) (by omega) (by omega) (show pw*ph≤9*9 from Int.mul_le_mul (by omega) (by omega) (by omega) (by omega)) (by omega)
        obtain⟨nk,rfl⟩: ∃nk:Nat,u1=nk:=⟨u1.toNat,by omega⟩
        have HNK:=hid (show z.preW p.prec*z.preH p.prec=nk from by rw [hpwE,hphE];exact q1)
        have hnk:nk≤81:=by omega
        have HG1:=hid g1
        clear hpwE hphE q1 d1 b1 g1
        go_wp2_with (refine wpList_load_row rfl _ _ rfl _ rfl _ _ _ _ HRB.out Tryz.underlying63 rfl (by kernel_rfl) ?_)
        refine(PR.out _).mono ?_
        rintro e w8 ⟨rfl,hk8⟩
        have hx:=HW.out.callF hk8
        replace HW:=hid hx.1
        replace hx:=hx.2
        try replace H0:=hid (H0.out.nx hx)
        try replace H1:=hid (H1.out.nx hx)
        try replace H2:=hid (H2.out.nx hx)
        try replace H3:=hid (H3.out.nx hx)
        try replace H4:=hid (H4.out.nx hx)
        try replace H5:=hid (H5.out.nx hx)
        try replace H6:=hid (H6.out.nx hx)
        clear hx hk8 p5 PR HRB
        replace HW:=hid (HW.out.nil 86 1)
        have H4:=hid (show DsOk G3 s (blkT p.prec*blkT p.prec) w8 []from fun _ h=>by cases h)
        go_wp2_with fail
        go_loopw [18,19] (fun l v wl=> ∃(k:Nat) (LA:Option Addr) (cL:Nat) (ls:List Plc) (DA:Option Addr) (cD:Nat) (ds:List Hd1) (G:Nat→Option Kd),k≤nk∧v=.int .i64 k∧l=.slice DA k cD∧Hid (ds.length=k)∧Hid (ls.length≤r*6075+k*75)∧Hid (Wk 91 G w ([⟨91,7,A,i,c,fl Pln.cells outs⟩,⟨63,4,A6,fst18 r+nb,c6,rcs ((rectsR q p.lev p.lev).take (fst18 r+nb))⟩,⟨108,8,LA,ls.length,cL,fl Plc.cells ls⟩,⟨87,1,HA,r,cH,hs.map Hd2.val⟩]++[⟨86,1,DA,k,cD,ds.map Hd1.val⟩]) (some (g,planC q A6 (fst18 r+nb) c6 LA ls.length cL HA r cH)) wl)∧Hid (Pl0 G wl s t m p (some ⟨ge,0,none⟩) es)∧Hid (OutsOk G s (blkT p.prec*blkT p.prec) wl p.lev p.prec t cs outs)∧Hid (CurOk G s (blkT p.prec*blkT p.prec) wl q p.lev p.prec ls hs)∧Hid (ResOk G wl zx gk gb q p.lev r)∧Hid (DsOk G s (blkT p.prec*blkT p.prec) wl ds)) (fun _ v _=>nk-(intOf v).toNat)
        case atStart=>exact⟨0,LA,cL,ls,none,0,[],G3,by omega,rfl,rfl,hid rfl,hid (by have:=HLL.out;omega),HW,H0,H1,H2,H3,H4⟩
        case round=>
         clear HW H0 H1 H2 H3 H4 HLL
         clear LA cL ls G3
         obtain⟨k,LA,cL,ls,DA,cD,ds,G,hk,rfl,rfl,HDL,HLL,HW,H0,H1,H2,H3,H4⟩:=hrel
         have g1:=HG1.out
         by_cases hknk:k<nk
         · replace HW:=hid (HW.out.nil 105 1)
           have H5:=hid (show BsOk G (blkT p.prec*blkT p.prec) []from fun _ h=>by cases h)
           go_wp2_with fail
           rw [g1]
           clear g1
           go_loopw [20,21] (fun l v wl=> ∃(b:Nat) (LA:Option Addr) (cL:Nat) (ls:List Plc) (EA:Option Addr) (cE:Nat) (bs:List Nat) (G:Nat→Option Kd),b≤nb∧v=.int .i64 b∧l=.slice EA b cE∧Hid (bs.length=b)∧Hid (ls.length≤r*6075+k*75+b*25)∧Hid (Wk 91 G w ([⟨91,7,A,i,c,fl Pln.cells outs⟩,⟨63,4,A6,fst18 r+nb,c6,rcs ((rectsR q p.lev p.lev).take (fst18 r+nb))⟩,⟨108,8,LA,ls.length,cL,fl Plc.cells ls⟩,⟨87,1,HA,r,cH,hs.map Hd2.val⟩]++[⟨86,1,DA,k,cD,ds.map Hd1.val⟩]++[⟨105,1,EA,b,cE,bs.map ptrV⟩]) (some (g,planC q A6 (fst18 r+nb) c6 LA ls.length cL HA r cH)) wl)∧Hid (Pl0 G wl s t m p (some ⟨ge,0,none⟩) es)∧Hid (OutsOk G s (blkT p.prec*blkT p.prec) wl p.lev p.prec t cs outs)∧Hid (CurOk G s (blkT p.prec*blkT p.prec) wl q p.lev p.prec ls hs)∧Hid (ResOk G wl zx gk gb q p.lev r)∧Hid (DsOk G s (blkT p.prec*blkT p.prec) wl ds)∧Hid (BsOk G (blkT p.prec*blkT p.prec) bs)) (fun _ v _=>nb-(intOf v).toNat)
           case atStart=>exact⟨0,LA,cL,ls,none,0,[],G,by omega,rfl,rfl,hid rfl,hid (by have:=HLL.out;omega),HW,H0,H1,H2,H3,H4,H5⟩
           case round=>
            clear HW H0 H1 H2 H3 H4 H5 HLL
            clear LA cL ls G
            obtain⟨b,LA,cL,ls,EA,cE,bs,G,hb,rfl,rfl,HBL,HLL,HW,H0,H1,H2,H3,H4,H5⟩:=hrel
            by_cases hbn:b<nb
            · obtain⟨y,hy⟩: ∃y,(bandsR q p.lev r)[b]? =some y:=⟨_,List.getElem?_eq_getElem (by rw [HNB.out];exact hbn)⟩
              have HY:=hid hy
              have hyo:=hid (hpo.out.bands p.lev r y (List.mem_of_getElem? hy))
              have dr1:wr.drew.rangeAt gb (b*4) y.cells.toList:=fun j v hj=>by
               have hj4:j<4:=(List.getElem?_eq_some_iff.1 hj).1
               rw [show wr.drew.cell? ⟨gb,b*4+j,none⟩=_ from H3.out.rec_.1.cell _]
               have h:(rcs (bandsR q p.lev r))[b*4+j]? =y.cells.toList[j]?:=fl_at (f:=fun r:Rc=>r.cells.toList) (k:=4) (fun _=>rfl) (bandsR q p.lev r) b j y hy hj4
               rw [← hj]
               simpa using h
              have dr2:wr.drew.rangeAt zx 0 z.cells.toList:=by
               have h:=H3.out.res.1.drew.range
               rw [HZ.out]at h
               exact h
              have dr3:wr.drew.rangeAt (s+1+1) 0 p.cells.toList:=H0.out.bp.1.drew.range
              have BLK:=hid (fun w=>blocks_any w y z p r k hyo.out hzo.out HPM.out.p1 HPM.out.p15 HPM.out.w2 HPM.out.w6 HPM.out.h2 HPM.out.h6 (by rw [HNK.out];omega))
              have hx:=HW.out.callF ((Keep.refl _ wr).drew)
              replace HW:=hid hx.1
              replace hx:=hx.2
              try replace H0:=hid (H0.out.nx hx)
              try replace H1:=hid (H1.out.nx hx)
              try replace H2:=hid (H2.out.nx hx)
              try replace H3:=hid (H3.out.nx hx)
              try replace H4:=hid (H4.out.nx hx)
              try replace H5:=hid (H5.out.nx hx)
              try replace H6:=hid (H6.out.nx hx)
              clear hy hx
              go_upto_region 23 with fail
              refine At.start (L:=#[false,false,false,false,false,false,false,false,false,false,false,false,false,false]) (by kernel_rfl) rfl ?_
              refine AtP 0 102 ?_
              refine AtP 1 103 ?_
              refine AtP 2 104 ?_
              first|refine AtL 3 105 Tryz.underlying63 ?_|refine AtR 3 105 Tryz.underlying63 ?_
              first|refine AtL 4 106 Tryz.underlying63 ?_|refine AtR 4 106 Tryz.underlying63 ?_
              first|refine AtL 5 107 Tryz.underlying31 ?_|refine AtR 5 107 Tryz.underlying31 ?_
              refine AtP 6 108 ?_
              refine AtP 7 109 ?_
              refine AtC 8 fun K hK=>?_
              go_simp
              refine(BLK.out _).mono ?_
              rintro e w5 ⟨QA,qc,rs,W,H,rfl,hrd,hrl',hin',hW,hH,hWH,hqa,hk5⟩
              obtain⟨N,hN⟩: ∃N,W*H=N:=⟨_,rfl⟩
              rw [hN]
              rw [hN]at hrd hrl'
              have hx:=HW.out.callRo hk5
              have HQ0:=hid (fun (h0:0<N)=>HW.out.ro hrd (fun a e=>⟨hqa a e,hrd.lt (by omega) h0 a e⟩))
              replace HW:=hid hx.1
              replace hx:=hx.2
              try replace H0:=hid (H0.out.nx hx)
              try replace H1:=hid (H1.out.nx hx)
              try replace H2:=hid (H2.out.nx hx)
              try replace H3:=hid (H3.out.nx hx)
              try replace H4:=hid (H4.out.nx hx)
              try replace H5:=hid (H5.out.nx hx)
              try replace H6:=hid (H6.out.nx hx)
              generalize roF G wr.drew.heap.size w5.heap.size=G5 at*
              have HRS:=hid (And.intro hrl' hin')
              have HWN:=hid (And.intro hN hWH)
              refine hK _ _ all_nil ?_
              clear hK K
              try simp only [NS]
              refine AtP 9 101 ?_
              refine AtP 10 111 ?_
              refine AtP 11 112 ?_
              refine AtP 12 22 ?_
              refine AtP 13 23 ?_
              refine At.done (by kernel_rfl) ?_
              clear hx hk5 hrd hqa hrl' hin' hWH hN BLK
              have hbt:blkT p.prec≤5:=by unfold blkT;repeat(first|split|omega)
              have hN25:N≤25:=by have h:W*H≤5*5:=Nat.mul_le_mul (by omega) (by omega);rw [HWN.out.1]at h;exact h
              have HNBK:=hid (show N≤blkT p.prec*blkT p.prec from by rw [← HWN.out.1];exact Nat.mul_le_mul hW hH)
              clear dr1 dr2 dr3
              go_upto_if 114 with fail
              go_cut [24] (fun v wx=>v=.int .i64 H∧wx=w5)
              case first=>
               by_cases hW0:W=0
               · subst hW0
                 have hH0:H=0:=HWN.out.2 rfl
                 subst hH0
                 go_wp2_with fail
                 go_meet
                 exact⟨rfl,rfl⟩
               · have hq1:(N:Int)/(W:Int)=(H:Int):=by
                  rw [← HWN.out.1,Int.natCast_mul]
                  exact Int.mul_ediv_cancel_left _ (by omega)
                 have hq2:(N:Int).tdiv (W:Int)=(H:Int):=by rw [Int.tdiv_eq_ediv_of_nonneg (by omega)];exact hq1
                 have hz0:((W:Int)==0)=false:=by simp;omega
                 have hz1: ¬(W:Int)=0:=by omega
                 have hz2: ¬(W:Int)=-1:=by omega
                 have hwH:IntKind.i64.wrap (H:Int)=(H:Int):=IntWalk.i64_in _ (by omega)
                 have hd1:decide ((0:Int)<(W:Int))=true:=by simp;omega
                 go_wp2_with fail
                 go_meet
                 exact⟨rfl,rfl⟩
              case rest=>
               obtain⟨rfl,rfl⟩:=hcut
               have hfs2:fst18 r+b<1+3*p.lev:=by
                have h:=rects_at q p.lev r hrl HY.out
                have h2:=(List.getElem?_eq_some_iff.1 h).1
                rwa [rects_len]at h2
               obtain⟨ev,hev⟩: ∃ev,es[fst18 r+b]? =some ev:=⟨_,List.getElem?_eq_getElem (by rw [HES.out.1];exact hfs2)⟩
               have hevl:=HES.out.2 ev (List.mem_of_getElem? hev)
               obtain⟨en,rfl⟩: ∃en:Nat,ev=en:=⟨ev.toNat,by omega⟩
               have ce:wc.cell? ⟨ge,fst18 r+b,none⟩=some (.int .i64 en):=by
                obtain⟨b',o',e',hc'⟩:=H0.out.ex.1.cell (i:=fst18 r+b) (j:=0) (v:=.int .i64 en) hfs2 (by rw [Nat.mul_one,Nat.add_zero,List.getElem?_map,hev];rfl)
                injection e' with e'
                injection e' with e1 e2
                subst e1 e2
                rwa [Nat.zero_add,Nat.mul_one,Nat.add_zero]at hc'
               have NBD:=nband_any G5 w.heap.size wc W H N (en+2) HW.out.fits HW.out.keep.size (by omega) (by omega) HWN.out.1 (by omega)
               rw [show((en+2:Nat):Int)=(en:Int)+2 from by omega]at NBD
               have NBD:=hid NBD
               clear hev
               go_wp2_with fail
               refine NBD.out.mono ?_
               rintro e w6 ⟨G6,qb,rfl,hext,hfit,hgq,_,hk6⟩
               have hx:=HW.out.call hk6 hext hfit
               have H6:=hid (show QOk G6 w6 QA N qb rs from⟨fun h0=>(HQ0.out h0).nx hx.2,hgq⟩)
               replace HW:=hid hx.1
               replace hx:=hx.2
               replace H0:=hid (H0.out.nx hx)
               replace H1:=hid (H1.out.nx hx)
               replace H2:=hid (H2.out.nx hx)
               replace H3:=hid (H3.out.nx hx)
               replace H4:=hid (H4.out.nx hx)
               replace H5:=hid (H5.out.nx hx)
               clear hx hext hfit hgq hk6 NBD HQ0 ce
               go_wp2_with fail
               go_loopw [26] (fun v wl=> ∃(j:Nat) (LA:Option Addr) (cL:Nat) (ls:List Plc),j≤N∧v=.int .i64 j∧Hid (ls.length≤r*6075+k*75+b*25+j)∧Hid (Wk 91 G6 w ([⟨91,7,A,i,c,fl Pln.cells outs⟩,⟨63,4,A6,fst18 r+nb,c6,rcs ((rectsR q p.lev p.lev).take (fst18 r+nb))⟩,⟨108,8,LA,ls.length,cL,fl Plc.cells ls⟩,⟨87,1,HA,r,cH,hs.map Hd2.val⟩]++[⟨86,1,DA,k,cD,ds.map Hd1.val⟩]++[⟨105,1,EA,b,cE,bs.map ptrV⟩]) (some (g,planC q A6 (fst18 r+nb) c6 LA ls.length cL HA r cH)) wl)∧Hid (Pl0 G6 wl s t m p (some ⟨ge,0,none⟩) es)∧Hid (OutsOk G6 s (blkT p.prec*blkT p.prec) wl p.lev p.prec t cs outs)∧Hid (CurOk G6 s (blkT p.prec*blkT p.prec) wl q p.lev p.prec ls hs)∧Hid (ResOk G6 wl zx gk gb q p.lev r)∧Hid (DsOk G6 s (blkT p.prec*blkT p.prec) wl ds)∧Hid (BsOk G6 (blkT p.prec*blkT p.prec) bs)∧Hid (QOk G6 wl QA N qb rs)) (fun v _=>N-(intOf v).toNat)
               case atStart=>exact⟨0,LA,cL,ls,by omega,rfl,hid (by have:=HLL.out;omega),HW,H0,H1,H2,H3,H4,H5,H6⟩
               case round=>
                clear HW H0 H1 H2 H3 H4 H5 H6 HLL
                clear LA cL ls
                obtain⟨j,LA,cL,ls,hj,rfl,HLL,HW,H0,H1,H2,H3,H4,H5,H6⟩:=hrel
                have hlsl:ls.length≤100000:=by have:=HLL.out;omega
                by_cases hjN:j<N
                · obtain⟨x,hxr⟩: ∃x,rs[j]? =some x:=⟨_,List.getElem?_eq_getElem (by rw [HRS.out.1];exact hjN)⟩
                  obtain⟨bq,oq,hQA,hqr⟩:=RdS.get (f:=fun r:Rc=>r.cells.toList) (H6.out.1 (by omega)).1 (fun _=>rfl) hjN hxr
                  have hqro:=(H6.out.1 (by omega)).2 _ hQA
                  have HXI:=hid (HRS.out.2 x (List.mem_of_getElem? hxr))
                  obtain⟨kz,hkz⟩: ∃kz:Nat,(bandsK r)[b]? =some (kz:Int)∧kz≤3:=by
                   have hl:(bandsK r).length=nb:=by rw [← HNB.out,bandsR_len];unfold bandsK;split<;>rfl
                   have hb':b<(bandsK r).length:=by omega
                   have hm: ∀v∈bandsK r,0≤v∧v≤3:=by intro v hv;unfold bandsK at hv;split at hv<;>simp at hv<;>omega
                   have h:=hm _ (List.getElem_mem hb')
                   exact⟨((bandsK r)[b]).toNat,by rw [List.getElem?_eq_getElem hb'];congr 1;omega,by omega⟩
                  have hx:=HW.out.callF ((Keep.refl _ wr).drew)
                  replace HW:=hid hx.1
                  replace hx:=hx.2
                  try replace H0:=hid (H0.out.nx hx)
                  try replace H1:=hid (H1.out.nx hx)
                  try replace H2:=hid (H2.out.nx hx)
                  try replace H3:=hid (H3.out.nx hx)
                  try replace H4:=hid (H4.out.nx hx)
                  try replace H5:=hid (H5.out.nx hx)
                  try replace H6:=hid (H6.out.nx hx)
                  have d5:wr.drew.cell? ⟨g,5,none⟩=some (.slice LA ls.length cL):=(HW.out.bk _ _ rfl).1.cell 5
                  have d9:wr.drew.cell? ⟨gk,b,none⟩=some (.int .i64 kz):=by
                   rw [H3.out.kin.1.cell]
                   simp [hkz.1]
                  have dr:wr.drew.rangeAt bq (oq+j*4) [.int .i64 x.x0,.int .i64 x.y0,.int .i64 x.x1,.int .i64 x.y1]:=hqr
                  have hne:=hid (show∀i,(Value.slice LA ls.length cL).ownBlock=some i→G6 i=none from fun i hi=>by
                   obtain⟨a,ea,rfl⟩:=own_some hi
                   exact(HW.out.un 2 _ rfl).2 a ea)
                  have HOW:=hid (show wr.drew.ownsRow w.heap.size 108 8 (.slice LA ls.length cL) ls.length (fl Plc.cells ls)from HW.out.at_ 2 rfl)
                  have hwf:IntKind.i64.wrap ((fst18 r:Int)+(b:Int))=((fst18 r+b:Nat):Int):=by rw [IntWalk.i64_in _ (by omega)];push_cast;rfl
                  have hbw:w.heap.size≤wr.heap.size:=HW.out.keep.size
                  have HQR:=hid hqro
                  obtain⟨ls',hls'⟩: ∃ls',ls++[(⟨x,kz,fst18 r+b,j,qb⟩:Plc)]=ls':=⟨_,rfl⟩
                  have hln:ls'.length=ls.length+1:=by rw [← hls',List.length_append];rfl
                  have HLS:=hid hls'
                  have HLN:=hid hln
                  have HKZ:=hid hkz
                  subst hQA
                  clear hx hxr hqr hqro hkz hls' hln
                  go_upto_region 31 with fail
                  refine At.start (L:=#[false,false,false,false,false,false,false,false,false,false,false,false,false,false,false,false,false,false,false,false]) (by kernel_rfl) rfl ?_
                  refine AtP 0 135 ?_
                  refine AtL 1 136 Tryz.underlying88 ?_
                  refine AtP 2 137 ?_
                  refine AtP 3 138 ?_
                  refine AtP 4 139 ?_
                  first|refine AtL 5 140 Tryz.underlying63 ?_|refine AtR 5 140 Tryz.underlying63 ?_
                  refine AtP 6 141 ?_
                  refine AtP 7 142 ?_
                  refine AtP 8 143 ?_
                  refine AtL 9 144 Tryz.underlying3 ?_
                  refine AtP 10 145 ?_
                  refine AtP 11 146 ?_
                  refine AtP 12 147 ?_
                  refine AtP 13 148 ?_
                  refine AtP 14 149 ?_
                  refine AtP 15 150 ?_
                  refine At.call_all 16 rfl (by kernel_rfl) rfl (fun K hK=>?_)
                  go_simp
                  skip
                  refine hK _ _ (by repeat' first|exact all_nil|refine all_cons (by first|exact((Keep.refl (fun _=>False) _).alloc _).cell (by assumption) (fun h=>h)|exact range_keep (by assumption) ((Keep.refl (fun _=>False) _).alloc _) (fun h=>h)) ?_) ?_
                  clear hK K
                  try simp only [NS]
                  refine AtC 17 fun K hK=>?_
                  refine wp_append_rowsA _ (.tmp 136) (.tmp 151) 88 rfl w.heap.size 108 i3 _ 8 64 Tryz.underlying88 hi3 ex0 ex1 ex2 rfl (by omega) HOW.out rfl _ rfl rfl (Plc.one ⟨x,kz,fst18 r+b,j,qb⟩) (by simp only [maxLen];omega) (by omega) hbw ?_
                  intro A7 c7 w7 hown7 hk7 hat7
                  have hx:=HW.out.row 2 (u':=⟨108,8,A7,ls.length+1,c7,fl Plc.cells ls'⟩) rfl (by rw [← HLS.out,fl_snoc];exact hown7) hk7 hat7
                  replace HW:=hid hx.1
                  replace hx:=hx.2
                  try replace H0:=hid (H0.out.nx hx)
                  try replace H1:=hid (H1.out.nx hx)
                  try replace H2:=hid (H2.out.nx hx)
                  try replace H3:=hid (H3.out.nx hx)
                  try replace H4:=hid (H4.out.nx hx)
                  try replace H5:=hid (H5.out.nx hx)
                  try replace H6:=hid (H6.out.nx hx)
                  have t7:w7.cell? ⟨g,5,none⟩=some (.slice LA ls.length cL):=(HW.out.bk _ _ rfl).1.cell 5
                  have f7:=(HW.out.bk _ _ rfl).1.frozen 5
                  have t8:=range_keep dr hk7 (fun hs=>by have h:=hne.out _ hs;rw [HQR.out]at h;cases h)
                  have t9:=hk7.cell d9 (fun hs=>by have h:=hne.out _ hs;rw [H3.out.kin.2]at h;cases h)
                  clear hx hown7 hk7 hat7
                  refine hK _ _ all_nil ?_
                  clear hK K
                  try simp only [NS]
                  refine AtP 18 153 ?_
                  refine AtC 19 fun K hK=>?_
                  go_simp
                  skip
                  refine hK _ _ all_nil ?_
                  clear hK K
                  try simp only [NS]
                  refine At.done (by kernel_rfl) ?_
                  have hx:=HW.out.set 5 (.slice A7 (ls.length+1) c7)
                  replace HW:=hid hx.1
                  replace hx:=hx.2
                  try replace H0:=hid (H0.out.nx hx)
                  try replace H1:=hid (H1.out.nx hx)
                  try replace H2:=hid (H2.out.nx hx)
                  try replace H3:=hid (H3.out.nx hx)
                  try replace H4:=hid (H4.out.nx hx)
                  try replace H5:=hid (H5.out.nx hx)
                  try replace H6:=hid (H6.out.nx hx)
                  generalize w7.setCell ⟨g,5,none⟩ (.slice A7 (ls.length+1) c7)=w8 at*
                  clear hx t7 f7 t8 t9 d5 d9 dr HOW hne HQR
                  have H2':=hid (show CurOk G6 s (blkT p.prec*blkT p.prec) w8 q p.lev p.prec ls' hs from
                   ⟨fun v hv=>by
                    rw [← HLS.out]at hv
                    rcases List.mem_append.1 hv with h|h
                    · exact H2.out.1 v h
                    · rw [List.mem_singleton]at h
                      subst h
                      exact⟨HKZ.out.2,⟨y,rects_at q p.lev r hrl HY.out,HXI.out⟩,N,H6.out.2,hjN⟩,H2.out.2⟩)
                  go_wp2_with fail
                  go_roundw
                  case rel=>exact⟨j+1,A7,c7,ls',by omega,by go_num,hid (by have:=HLL.out;have:=HLN.out;omega),by rw [HLN.out];exact HW,H0,H1,H2',H3,H4,H5,H6⟩
                  case measure=>simp [intOf]<;>omega
                · obtain rfl:j=N:=by omega
                  have HOW:=hid (show wr.ownsRow w.heap.size 105 1 (.slice EA b cE) b (bs.map ptrV)from HW.out.at_ 5 rfl)
                  have hbw:w.heap.size≤wr.heap.size:=HW.out.keep.size
                  go_wp2_with (
                   at_builtin
                   go_must (refine wpList_append_rowsA _ rfl (.tmp 154) (.tmp 156) 86 rfl w.heap.size 105 i6 _ 1 8 Tryz.underlying86 hi6 es0 es1 es2 rfl (by omega) HOW.out rfl #[ptrV qb] rfl rfl (by intro v hv;simp at hv;subst hv;rfl) (by simp only [maxLen];omega) (by omega) hbw ?_)
                   intro A8 c8 w8 hown8 hk8 hat8
                   have hx:=HW.out.row 5 (u':=⟨105,1,A8,b+1,c8,(bs++[qb]).map ptrV⟩) rfl (by rw [List.map_append];exact hown8) hk8 hat8
                   replace HW:=hid hx.1
                   replace hx:=hx.2
                   try replace H0:=hid (H0.out.nx hx)
                   try replace H1:=hid (H1.out.nx hx)
                   try replace H2:=hid (H2.out.nx hx)
                   try replace H3:=hid (H3.out.nx hx)
                   try replace H4:=hid (H4.out.nx hx)
                   try replace H5:=hid (H5.out.nx hx)
                   try replace H6:=hid (H6.out.nx hx)
                   clear hx hown8 hk8 hat8)
                  have H5':=hid (show BsOk G6 (blkT p.prec*blkT p.prec) (bs++[qb])from fun v hv=>by
                   rcases List.mem_append.1 hv with h|h
                   · exact H5.out v h
                   · rw [List.mem_singleton]at h
                     subst h
                     exact⟨j,H6.out.2,HNBK.out⟩)
                  go_roundw
                  case rel=>exact⟨b+1,LA,cL,ls,A8,c8,bs++[qb],G6,by omega,by go_num,rfl,hid (by rw [List.length_append,HBL.out];rfl),hid (by have:=HLL.out;omega),HW,H0,H1,H2,H3,H4,H5'⟩
                  case measure=>simp [intOf]<;>omega
            · obtain rfl:b=nb:=by omega
              obtain⟨G7,f1,f2,f3,f4⟩:=HW.out.fin (Nat.one_pos)
              replace HW:=hid f1
              try replace H0:=hid (H0.out.nx f2)
              try replace H1:=hid (H1.out.nx f2)
              try replace H2:=hid (H2.out.nx f2)
              try replace H3:=hid (H3.out.nx f2)
              try replace H4:=hid (H4.out.nx f2)
              try replace H5:=hid (H5.out.nx f2)
              try replace H6:=hid (H6.out.nx f2)
              have H4':=hid (show DsOk G7 s (blkT p.prec*blkT p.prec) wr (ds++[(⟨EA,b,cE,bs⟩:Hd1)])from fun v hv=>by
               rcases List.mem_append.1 hv with h|h
               · exact H4.out v h
               · rw [List.mem_singleton]at h
                 subst h
                 exact⟨by rw [← HSS.out];exact f4,f3.2,hnb3,H5.out⟩)
              have HOW:=hid (show wr.ownsRow w.heap.size 86 1 (.slice DA k cD) k (ds.map Hd1.val)from HW.out.at_ 4 rfl)
              have hbw:w.heap.size≤wr.heap.size:=HW.out.keep.size
              clear f1 f2 f3 f4
              clear G H4 H5
              go_wp2_with (
               at_builtin
               go_must (refine wpList_append_rowsA _ rfl (.tmp 158) (.tmp 160) 87 rfl w.heap.size 86 i5 _ 1 24 Tryz.underlying87 hi5 et0 et1 et2 rfl (by omega) HOW.out rfl #[.slice EA b cE] rfl rfl (by intro v hv;simp at hv;subst hv;rfl) (by simp only [maxLen];omega) (by omega) hbw ?_)
               intro A8 c8 w8 hown8 hk8 hat8
               have hx:=HW.out.row 4 (u':=⟨86,1,A8,k+1,c8,(ds++[(⟨EA,b,cE,bs⟩:Hd1)]).map Hd1.val⟩) rfl (by rw [List.map_append];exact hown8) hk8 hat8
               replace HW:=hid hx.1
               replace hx:=hx.2
               try replace H0:=hid (H0.out.nx hx)
               try replace H1:=hid (H1.out.nx hx)
               try replace H2:=hid (H2.out.nx hx)
               try replace H3:=hid (H3.out.nx hx)
               try replace H4:=hid (H4.out.nx hx)
               try replace H5:=hid (H5.out.nx hx)
               try replace H6:=hid (H6.out.nx hx)
               replace H4':=hid (H4'.out.nx hx)
               clear hx hown8 hk8 hat8)
              go_roundw
              case rel=>exact⟨k+1,LA,cL,ls,A8,c8,_,G7,by omega,by go_num,rfl,hid (by rw [List.length_append,HDL.out];rfl),hid (by have:=HLL.out;omega),HW,H0,H1,H2,H3,H4'⟩
              case measure=>simp [intOf]<;>omega
         · obtain rfl:k=nk:=by omega
           obtain⟨G7,f1,f2,f3,f4⟩:=HW.out.fin (Nat.one_pos)
           replace HW:=hid f1
           try replace H0:=hid (H0.out.nx f2)
           try replace H1:=hid (H1.out.nx f2)
           try replace H2:=hid (H2.out.nx f2)
           try replace H3:=hid (H3.out.nx f2)
           try replace H4:=hid (H4.out.nx f2)
           try replace H5:=hid (H5.out.nx f2)
           try replace H6:=hid (H6.out.nx f2)
           have H2':=hid (show CurOk G7 s (blkT p.prec*blkT p.prec) wr q p.lev p.prec ls (hs++[(⟨DA,k,cD,ds⟩:Hd2)])from
            ⟨H2.out.1,H2.out.2.snoc ⟨f3,H4.out⟩ (by rw [HHL.out,HZ.out];exact HNK.out.symm)⟩)
           have HOW:=hid (show wr.ownsRow w.heap.size 87 1 (.slice HA r cH) r (hs.map Hd2.val)from HW.out.at_ 3 rfl)
           have hbw:w.heap.size≤wr.heap.size:=HW.out.keep.size
           have c6':wr.cell? ⟨g,6,none⟩=some (.slice HA r cH):=(HW.out.bk _ _ rfl).1.cell 6
           clear f1 f2 f3 f4
           clear G H4 H2 H3
           go_wp2_with (
            at_builtin
            go_must (refine wpList_append_rowsA _ rfl (.tmp 163) (.tmp 165) 89 rfl w.heap.size 87 i4 _ 1 24 Tryz.underlying89 hi4 eu0 eu1 eu2 rfl (by omega) HOW.out rfl #[.slice DA k cD] rfl rfl (by intro v hv;simp at hv;subst hv;rfl) (by simp only [maxLen];omega) (by omega) hbw ?_)
            intro A8 c8 w8 hown8 hk8 hat8
            have hx:=HW.out.row 3 (u':=⟨87,1,A8,r+1,c8,(hs++[(⟨DA,k,cD,ds⟩:Hd2)]).map Hd2.val⟩) rfl (by rw [List.map_append];exact hown8) hk8 hat8
            replace HW:=hid hx.1
            replace hx:=hx.2
            try replace H0:=hid (H0.out.nx hx)
            try replace H1:=hid (H1.out.nx hx)
            try replace H2:=hid (H2.out.nx hx)
            try replace H3:=hid (H3.out.nx hx)
            try replace H4:=hid (H4.out.nx hx)
            try replace H5:=hid (H5.out.nx hx)
            try replace H6:=hid (H6.out.nx hx)
            replace H2':=hid (H2'.out.nx hx)
            have t7:w8.cell? ⟨g,6,none⟩=some (.slice HA r cH):=(HW.out.bk _ _ rfl).1.cell 6
            have f7:=(HW.out.bk _ _ rfl).1.frozen 6
            replace hx:=HW.out.set 6 (.slice A8 (r+1) c8)
            replace HW:=hid hx.1
            replace hx:=hx.2
            try replace H0:=hid (H0.out.nx hx)
            try replace H1:=hid (H1.out.nx hx)
            try replace H2:=hid (H2.out.nx hx)
            try replace H3:=hid (H3.out.nx hx)
            try replace H4:=hid (H4.out.nx hx)
            try replace H5:=hid (H5.out.nx hx)
            try replace H6:=hid (H6.out.nx hx)
            replace H2':=hid (H2'.out.nx hx)
            clear hx hown8 hk8 hat8)
           go_roundw
           case rel=>exact⟨r+1,A6,c6,LA,cL,ls,A8,c8,_,G7,by omega,by go_num,hid (by rw [List.length_append,HHL.out];rfl),hid (by have:=HLL.out;omega),by rw [HFS.out];exact HW,H0,H1,H2'⟩
           case measure=>simp [intOf]<;>omega
      · obtain rfl:r=p.lev+1:=by omega
        obtain⟨Ga,f1,f2,f3,f4⟩:=Wk.fin (us:=[⟨91,7,A,i,c,fl Pln.cells outs⟩,⟨63,4,RA,fst18 (p.lev+1),cR,rcs ((rectsR q p.lev p.lev).take (fst18 (p.lev+1)))⟩,⟨108,8,LA,ls.length,cL,fl Plc.cells ls⟩]) (u:=⟨87,1,HA,p.lev+1,cH,hs.map Hd2.val⟩) HW.out (Nat.succ_pos _)
        obtain⟨Gb,g1,g2,g3,g4⟩:=Wk.fin (us:=[⟨91,7,A,i,c,fl Pln.cells outs⟩,⟨63,4,RA,fst18 (p.lev+1),cR,rcs ((rectsR q p.lev p.lev).take (fst18 (p.lev+1)))⟩]) (u:=⟨108,8,LA,ls.length,cL,fl Plc.cells ls⟩) f1 (Nat.succ_pos _)
        obtain⟨Gc,h1,h2,h3,h4⟩:=Wk.fin (us:=[⟨91,7,A,i,c,fl Pln.cells outs⟩]) (u:=⟨63,4,RA,fst18 (p.lev+1),cR,rcs ((rectsR q p.lev p.lev).take (fst18 (p.lev+1)))⟩) g1 (Nat.succ_pos _)
        replace HW:=hid h1
        have hx:=(f2.trans g2).trans h2
        try replace H0:=hid (H0.out.nx hx)
        try replace H1:=hid (H1.out.nx hx)
        try replace H2:=hid (H2.out.nx hx)
        try replace H3:=hid (H3.out.nx hx)
        try replace H4:=hid (H4.out.nx hx)
        try replace H5:=hid (H5.out.nx hx)
        try replace H6:=hid (H6.out.nx hx)
        have HPL:=hid (show PlnOk Gc s (blkT p.prec*blkT p.prec) wr p.lev p.prec ⟨q,RA,fst18 (p.lev+1),cR,LA,cL,ls,HA,cH,hs⟩from
         ⟨by show fst18 (p.lev+1)=_;unfold fst18;rw [if_neg (by omega)];omega,by
          have h:=h3
          rw [rects_full]at h
          exact h,g3.nx h2,by
          have h:=f3.nx (g2.trans h2)
          show Ro Gc wr HA hs.length 1 _
          rw [HHL.out]
          exact h,HHL.out,by have:=HLL.out;show ls.length≤40000;omega,H2.out.1,H2.out.2⟩)
        have HBK:=hid (HW.out.bk _ _ rfl).1
        have HOW:=hid (show wr.ownsRow w.heap.size 91 7 (.slice A i c) i (fl Pln.cells outs)from HW.out.at_ 0 rfl)
        have hbw:w.heap.size≤wr.heap.size:=HW.out.keep.size
        replace HW:=hid HW.out.noB
        have hpo1:=Pln.one ⟨q,RA,fst18 (p.lev+1),cR,LA,cL,ls,HA,cH,hs⟩
        have HHH:=HHL.out
        clear f1 f2 f3 f4 g1 g2 g3 g4 h1 h2 h3 h4 hx
        clear G Ga Gb H2
        unfold planC at HBK
        go_wp2_with (first|(refine wpList_load_row rfl _ _ rfl _ rfl _ _ _ _ HBK.out Tryz.underlying91 rfl (by kernel_rfl) ?_)|(
         at_builtin
         go_must (refine wpList_append_rowsA _ rfl (.tmp 168) (.tmp 170) 77 rfl w.heap.size 91 i1 _ 7 104 Tryz.underlying77 hi1 ez0 ez1 ez2 rfl (by omega) HOW.out rfl _ rfl rfl (by intro v hv;simp at hv;rcases hv with rfl|rfl|rfl|rfl|rfl|rfl|rfl<;>rfl) (by simp only [maxLen];omega) (by omega) hbw ?_)
         intro A8 c8 w8 hown8 hk8 hat8
         have hx:=HW.out.row 0 (u':=⟨91,7,A8,i+1,c8,fl Pln.cells (outs++[(⟨q,RA,fst18 (p.lev+1),cR,LA,cL,ls,HA,cH,hs⟩:Pln)])⟩) rfl (by rw [fl_snoc];unfold Pln.cells;simp only [HHL.out];exact hown8) hk8 hat8
         replace HW:=hid hx.1
         replace hx:=hx.2
         try replace H0:=hid (H0.out.nx hx)
         try replace H1:=hid (H1.out.nx hx)
         try replace H2:=hid (H2.out.nx hx)
         try replace H3:=hid (H3.out.nx hx)
         try replace H4:=hid (H4.out.nx hx)
         try replace H5:=hid (H5.out.nx hx)
         try replace H6:=hid (H6.out.nx hx)
         replace HPL:=hid (HPL.out.nx hx)
         clear hx hown8 hk8 hat8))
        go_roundw
        case rel=>exact⟨i+1,A8,c8,_,Gc,by omega,by go_num,rfl,hid (by rw [List.length_append,HOL.out];rfl),HW,H0,hid (H1.out.snoc HPL.out (by rw [HOL.out];exact HCI.out) HQ.out.symm)⟩
        case measure=>simp [intOf]<;>omega
  · obtain rfl:i=m.n:=by omega
    obtain⟨Ga,f1,f2,f3,f4⟩:=Wk.fin (us:=[]) (u:=⟨91,7,A,m.n,c,fl Pln.cells outs⟩) HW.out (Nat.succ_pos _)
    have HZ:=hid (show PlansP w t cs p.lev p.prec (.returned (.slice A m.n c)) wr from
     ⟨Ga,A,m.n,c,outs,rfl,f1.fits,f1.keep,f3,HOL.out,HCL.out.symm,by rw [HSS.out];exact H1.out.nx f2⟩)
    clear f1 f2 f3 f4
    go_wp2_with fail
    go_ret
    exact HZ.out
end Go.Proofs.YthfogcgdijmaoaaGreat
