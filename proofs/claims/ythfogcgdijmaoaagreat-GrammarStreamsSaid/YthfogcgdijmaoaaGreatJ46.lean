/-
  Part 46 of the proof: Tile Enc18 GramP LawMk. Conditions: those of the statements.
-/
import Derived.Test.YthfogcgdijmaoaaGreatJ14
import Derived.Test.YthfogcgdijmaoaaGreatJ25
import Derived.Test.YthfogcgdijmaoaaGreatJ30
import Derived.Test.YthfogcgdijmaoaaGreatJ39
import Derived.Test.YthfogcgdijmaoaaGreatJ44
import Derived.Test.YthfogcgdijmaoaaGreatJ45
import Derived.Deep.DeepCutAuto
set_option maxRecDepth 100000
set_option maxHeartbeats 16000000
set_option linter.unusedVariables false
set_option linter.unusedSimpArgs false
namespace Go.Proofs.YthfogcgdijmaoaaGreat
open Go.RowKit
theorem PicOk.keepF {w w':World} {m:Im} {p:Pm} {t:Rc} {cs:List Cm} (h:PicOk w m p t cs) (hk:Keep (fun _=>False) w w'):PicOk w' m p t cs:=
 ⟨h.row.keep0 hk,h.len,h.ok,h.d10,h.area,h.cap,fun c hc=>by obtain⟨zs,hz⟩:=h.zs c hc;exact⟨zs,hz.keepF hk⟩,h.n4,h.whole,h.sub,h.pm,h.lay,h.lay1,h.rct⟩
theorem blkT_le (p:Nat):blkT p≤5:=by unfold blkT;repeat(first|split|omega)
theorem tile_bound {K lay nc lev prec:Nat} (hK:K≤lay*(nc*((lev+1)*(precT prec*precT prec)))) (h1:lay≤4) (h2:nc≤4) (h3:lev≤5):K*(342000*(blkT prec*blkT prec)+40)≤3000000000:=by
 have h4:K≤4*(4*(6*(precT prec*precT prec))):=Nat.le_trans hK (Nat.mul_le_mul h1 (Nat.mul_le_mul h2 (Nat.mul_le_mul (by omega) (Nat.le_refl _))))
 have h5:precT prec*blkT prec*(precT prec*blkT prec)≤9*9:=Nat.mul_le_mul (prec_blk prec) (prec_blk prec)
 have h6:precT prec*precT prec≤9*9:=Nat.mul_le_mul (precT_le prec) (precT_le prec)
 have h7:precT prec*precT prec*(blkT prec*blkT prec)=precT prec*blkT prec*(precT prec*blkT prec):=by
  rw [Nat.mul_assoc,Nat.mul_assoc,Nat.mul_left_comm (precT prec) (blkT prec)]
 rw [← h7]at h5
 generalize precT prec*precT prec=a at*
 generalize blkT prec*blkT prec=b at*
 have h8:=Nat.mul_le_mul_right (342000*b+40) h4
 have h9:4*(4*(6*a))*(342000*b+40)=32832000*(a*b)+3840*a:=by
  rw [Nat.mul_add]
  rw [show 4*(4*(6*a))=96*a by omega,Nat.mul_mul_mul_comm]
  omega
 omega
theorem tile18_any (w:World) (t:Rc) (m:Im) (p:Pm) (cs:List Cm) (hP:PicOk w m p t cs) (hn1:1≤m.n):
 Calls Tryz.prog 23 #[.agg t.cells,.agg m.cells,.agg p.cells] w (Til18P w):=by
 obtain⟨i0,hi0,hz0,hz1,hz2⟩:=info_parts info_u8
 have HMC:=hid (show m.cells=#[.int .i64 m.x,.int .i64 m.y,.int .i64 m.ox,.int .i64 m.oy,.slice m.A m.n m.c]from rfl)
 have HPC:=hid (show p.cells=#[.int .i64 p.tx,.int .i64 p.ty,.int .i64 p.lev,.int .i64 p.cbw,.int .i64 p.cbh,.int .i64 p.prec,.int .i64 p.style,.int .i64 p.order,.int .i64 p.lay,.bool p.rct,.bool p.sop,.bool p.eph]from rfl)
 have b1:=(Blk.new w 63 t.cells).alloc (.cells m.cells 29)
 have b2:=Blk.new1 w (.cells t.cells 63) 29 m.cells
 have HB1:=hid (b1.alloc (.cells p.cells 31))
 have HB2:=hid (b2.alloc (.cells p.cells 31))
 have HB3:=hid (Blk.new2 w (.cells t.cells 63) (.cells m.cells 29) 31 p.cells)
 have HK0:=hid ((((Keep.refl (fun _=>False) w).alloc (.cells t.cells 63)).alloc (.cells m.cells 29)).alloc (.cells p.cells 31))
 have hlev:=hP.pm.lev
 have HP:=hid hP
 clear hP b1 b2
 go_enter Tryz.func23,Tryz.ntmps23
 go_upto_region 1 with fail
 generalize ((w.alloc (.cells t.cells 63)).alloc (.cells m.cells 29)).alloc (.cells p.cells 31)=w1 at*
 replace HP:=hid (HP.out.keepF HK0.out)
 go_wp2_with (first|(refine wpList_load_row rfl _ _ rfl _ rfl _ _ _ _ HB1.out Tryz.underlying63 rfl (by kernel_rfl) ?_)|(refine wpList_load_row rfl _ _ rfl _ rfl _ _ _ _ HB2.out Tryz.underlying29 rfl (by kernel_rfl) ?_)|(refine wpList_load_row rfl _ _ rfl _ rfl _ _ _ _ HB3.out Tryz.underlying31 rfl (by kernel_rfl) ?_))
 refine(plans_any _ t m p cs HP.out.row HP.out.len HP.out.ok HP.out.d10 HP.out.n4 HP.out.pm (HP.out.sub.ok HP.out.whole)).mono ?_
 rintro e w2 ⟨G,A,n,c,outs,rfl,hF,hk2,hro,hlen,hn,hok⟩
 subst hlen
 have HW:=hid (show Wk 91 G w1 [] none w2 from⟨hF,hk2,fun i u h=>by simp at h,fun i j u v _ h=>by simp at h,fun _ _ e=>by cases e⟩)
 have HI:=hid (show InOk G w1.heap.size (blkT p.prec*blkT p.prec) w2 p.lev p.prec t cs A outs from⟨hro,hok,hn⟩)
 have B1:=HB1.out.keep hk2 id
 have B2:=HB2.out.keep hk2 id
 have B3:=HB3.out.keep hk2 id
 clear hF hk2 hro hn hok
 go_wp2_with (first|(refine wpList_load_row rfl _ _ rfl _ rfl _ _ _ _ B1 Tryz.underlying63 rfl (by kernel_rfl) ?_)|(refine wpList_load_row rfl _ _ rfl _ rfl _ _ _ _ B2 Tryz.underlying29 rfl (by kernel_rfl) ?_)|(refine wpList_load_row rfl _ _ rfl _ rfl _ _ _ _ B3 Tryz.underlying31 rfl (by kernel_rfl) ?_))
 refine(fill_any G w1 w2 t m p cs A c outs (blkT p.prec*blkT p.prec) HW.out HI.out HP.out hn1).mono ?_
 rintro e w3 ⟨rfl,G3,hW3,hx3⟩
 replace HW:=hid hW3
 replace HI:=hid (HI.out.nx hx3)
 replace B1:=HB1.out.keep hW3.keep id
 replace B2:=HB2.out.keep hW3.keep id
 replace B3:=HB3.out.keep hW3.keep id
 clear hW3 hx3
 go_wp2_with (first|(refine wpList_load_row rfl _ _ rfl _ rfl _ _ _ _ B1 Tryz.underlying63 rfl (by kernel_rfl) ?_)|(refine wpList_load_row rfl _ _ rfl _ rfl _ _ _ _ B2 Tryz.underlying29 rfl (by kernel_rfl) ?_)|(refine wpList_load_row rfl _ _ rfl _ rfl _ _ _ _ B3 Tryz.underlying31 rfl (by kernel_rfl) ?_))
 refine(list_any _ t m p cs (HP.out.row.keep0 HW.out.keep) HP.out.len HP.out.ok HP.out.n4 HP.out.pm HP.out.lay (HP.out.sub.ok HP.out.whole)).mono ?_
 rintro e w4 ⟨KA,kc,ks,rfl,hown,hko,hkl,hk4⟩
 have hx:=HW.out.callRo hk4
 have HT:=hid (show TlOk _ w1.heap.size (blkT p.prec*blkT p.prec) w4 t cs p A KA outs ks from⟨HI.out.nx hx.2,HW.out.ro (RdS.of_own hown) (fun a e=>own_blt hown e),hko⟩)
 replace HW:=hid (hx.1.nil 5 1)
 generalize roF G3 w3.heap.size w4.heap.size=G4 at*
 obtain⟨K,hK⟩: ∃K,ks.length=K:=⟨_,rfl⟩
 rw [hK]at hkl ⊢
 have HKM0:=tile_bound hkl HP.out.lay (by rw [HP.out.len];exact HP.out.n4) hlev
 obtain⟨M,hM⟩: ∃M,342000*(blkT p.prec*blkT p.prec)+40=M:=⟨_,rfl⟩
 rw [hM]at HKM0
 have HKM:=hid HKM0
 have hKb:K≤75000000:=by have h:=Nat.mul_le_mul_left K (show 40≤M by omega);omega
 have HMM:=hid hM
 have HKK:=hid hK
 have hb5:=blkT_le p.prec
 have HNB:=hid (show blkT p.prec*blkT p.prec≤5*5 from Nat.mul_le_mul hb5 hb5)
 clear hx hown hko hkl hk4 hK hM HKM0 HI B1 B2 B3 hb5
 generalize blkT p.prec*blkT p.prec=NBB at*
 go_wp2_with fail
 go_loopw [8,10] (fun l v wr=> ∃(i:Nat) (BA:Option Addr) (nb cb:Nat) (body:List Int) (G:Nat→Option Kd),i≤K∧v=.int .i64 i∧l=.slice BA nb cb∧Hid (nb≤i*M)∧Hid (Bytes body)∧Hid (Wk 91 G w1 [⟨5,1,BA,nb,cb,body.map (Value.int .u8)⟩] none wr)∧Hid (TlOk G w1.heap.size NBB wr t cs p A KA outs ks)) (fun _ v _=>K-(intOf v).toNat)
 case atStart=>exact⟨0,none,0,0,[],G4,by omega,rfl,rfl,hid (by omega),hid (fun _ h=>by cases h),HW,HT⟩
 case round=>
  clear HW HT
  obtain⟨i,BA,nb,cb,body,G,hi,rfl,rfl,HNM,HBY,HW,HT⟩:=hrel
  have hnbb:nb≤3000000000:=by
   have h1:=HNM.out
   have h2:i*M≤K*M:=Nat.mul_le_mul_right _ hi
   have h3:=HKM.out
   omega
  by_cases hiK:i<K
  · obtain⟨k,hk⟩: ∃k,ks[i]?=some k:=⟨_,List.getElem?_eq_getElem (by rw [HKK.out];exact hiK)⟩
    obtain⟨kb,ko,hKA,hkr⟩:=RdS.get (f:=Ky.cells) HT.out.ky.1 Ky.len (by rw [HKK.out];exact hiK) hk
    have HKR:=hid (show wr.rangeAt kb (ko+i*4) [.int .i64 k.lay,.int .i64 k.res,.int .i64 k.comp,.int .i64 k.prec]from hkr)
    have HKI:=hid (List.mem_of_getElem? hk)
    subst hKA
    clear hk hkr
    go_upto_region 9 with(first|(refine wpList_load_mid rfl 83 (.tmp 35) rfl _ _ rfl _ _ HKR.out Tryz.underlying83 rfl (by kernel_rfl) ?_)|(refine wpList_store_row rfl _ _ _ rfl wr.heap.size _ rfl rfl _ _ (Blk.new wr _ _) (by kernel_rfl) rfl (by simp [Value.oneCell']) ?_))
    rw [World.setRow_alloc_new]
    try simp only [NS]
    have hka:Keep (fun _=>False) wr (wr.alloc (.cells #[.int .i64 k.lay,.int .i64 k.res,.int .i64 k.comp,.int .i64 k.prec] 83)):=(Keep.refl _ wr).alloc _
    have hx:=HW.out.callRo hka
    have HXB:=hid (HW.out.roB (w':=wr.alloc (.cells #[.int .i64 k.lay,.int .i64 k.res,.int .i64 k.comp,.int .i64 k.prec] 83)) (Blk.new wr 83 #[.int .i64 k.lay,.int .i64 k.res,.int .i64 k.comp,.int .i64 k.prec]) (Nat.le_refl _))
    replace HW:=hid hx.1
    replace hx:=hx.2
    replace HT:=hid (HT.out.nx hx)
    generalize roF G wr.heap.size (wr.alloc (.cells #[.int .i64 k.lay,.int .i64 k.res,.int .i64 k.comp,.int .i64 k.prec] 83)).heap.size=G2 at*
    generalize wr.alloc (.cells #[.int .i64 k.lay,.int .i64 k.res,.int .i64 k.comp,.int .i64 k.prec] 83)=w2 at*
    generalize wr.heap.size=X at*
    clear hx hka HKR G
    have p10:w2.cell? ⟨w.heap.size+1+1,10,none⟩=some (.bool p.sop):=by have h:=(HB3.out.keep HW.out.keep id).cell 10;rw [HPC.out]at h;exact h
    go_upto_if 38 with fail
    go_cut [8] (fun v wx=> ∃(A:Option Addr) (n c:Nat) (body:List Int),v=.slice A n c∧Hid (n≤nb+6)∧Hid (Bytes body)∧Hid (Wk 91 G2 w1 [⟨5,1,A,n,c,body.map (Value.int .u8)⟩] none wx)∧Hid (Nx G2 w2 G2 wx))
    case first=>
     cases hs:p.sop with
     |false=>
      go_wp2_with fail
      go_meet
      exact⟨BA,nb,cb,body,rfl,hid (by omega),HBY,HW,hid Nx.refl⟩
     |true=>
      clear p10
      go_wp2_with fail
      refine(wk_put HW.out 0 rfl (by omega) 2 65425 (by omega) (by omega)).mono ?_
      rintro e w5 ⟨A5,c5,rfl,hW5,hx5⟩
      have HW5:=hid hW5
      have HX5:=hid hx5
      clear hW5 hx5
      go_wp2_with fail
      refine(wk_put HW5.out 0 rfl (by omega) 2 4 (by omega) (by omega)).mono ?_
      rintro e w6 ⟨A6,c6,rfl,hW6,hx6⟩
      have HW6:=hid hW6
      have HX6:=hid (HX5.out.trans hx6)
      clear hW6 hx6
      go_wp2_with fail
      refine(wk_put HW6.out 0 rfl (by omega) 2 _ (by omega) (by omega)).mono ?_
      rintro e w7 ⟨A7,c7,rfl,hW7,hx7⟩
      have HW7:=hid hW7
      have HX7:=hid (HX6.out.trans hx7)
      clear hW7 hx7
      go_wp2_with fail
      go_meet
      exact⟨A7,_,c7,_,rfl,hid (by omega),hid (((HBY.out.app (putB_bytes _ _)).app (putB_bytes _ _)).app (putB_bytes _ _)),HW7,HX7⟩
    case rest=>
     obtain⟨BA2,n2,cb2,body2,rfl,HN2,HBY2,HW',HNX⟩:=hcut
     replace HW:=HW'
     have hx:=HNX.out
     replace HT:=hid (HT.out.nx hx)
     replace HXB:=hid (HXB.out.nx hx)
     clear hx HW' HNX p10 HBY
     have hx:=HW.out.callF ((Keep.refl _ wc).drew)
     replace HW:=hid hx.1
     replace hx:=hx.2
     replace HT:=hid (HT.out.nx hx)
     replace HXB:=hid (HXB.out.nx hx)
     clear hx
     obtain⟨bA,oA,hb,ho,db,do',P,d,x,hA,hcl,hc1,hrl,hc2,hpl,hc3,hx1,hly⟩:=HT.out.heads HKI.out
     subst hA
     have x0:wc.drew.cell? ⟨X,0,none⟩=some (.int .i64 k.lay):=HXB.out.1.cell 0
     have x1:wc.drew.cell? ⟨X,1,none⟩=some (.int .i64 k.res):=HXB.out.1.cell 1
     have x2:wc.drew.cell? ⟨X,2,none⟩=some (.int .i64 k.comp):=HXB.out.1.cell 2
     have x3:wc.drew.cell? ⟨X,3,none⟩=some (.int .i64 k.prec):=HXB.out.1.cell 3
     have p6:wc.drew.cell? ⟨w.heap.size+1+1,6,none⟩=some (.int .i64 p.style):=by have h:=(HB3.out.keep HW.out.keep id).cell 6;rw [HPC.out]at h;exact h
     have p8:wc.drew.cell? ⟨w.heap.size+1+1,8,none⟩=some (.int .i64 p.lay):=by have h:=(HB3.out.keep HW.out.keep id).cell 8;rw [HPC.out]at h;exact h
     have hly4:=HP.out.lay
     have hly1:=HP.out.lay1
     have PK:=hid (pk_any G2 w1.heap.size wc.drew w1.heap.size x.A x.n x.c x.bs NBB (3*NBB) p.style p.lay k.lay HW.out.fits hx1.own hx1.bd hx1.n3 (by have:=HNB.out;omega) (Nat.mul_le_mul_right _ hx1.n3) (by have:=HNB.out;omega) (by omega) (by omega) (by omega))
     have hn2b:n2≤3000000006:=by have:=HN2.out;omega
     clear hx1 hly hly4 hly1
     go_upto_region 11 with fail
     refine At.start (L:=#[false,false,false,false,false,false,false,false,false,false,false,false,false,false,false,false,false,false,false,false,false,false,false,false,false,false]) (by kernel_rfl) rfl ?_
     refine AtP 0 (some 46) ?_
     try simp only [NS]
     refine AtP 1 (some 47) ?_
     try simp only [NS]
     first|refine AtL 2 (some 48) Tryz.underlying3 ?_|refine AtR 2 (some 48) Tryz.underlying3 ?_
     try simp only [NS]
     refine AtP 3 (some 49) ?_
     try simp only [NS]
     refine AtP 4 (some 50) ?_
     try simp only [NS]
     first|refine AtL 5 (some 51) Tryz.underlying89 ?_|refine AtR 5 (some 51) Tryz.underlying89 ?_
     try simp only [NS]
     refine AtP 6 (some 52) ?_
     try simp only [NS]
     first|refine AtL 7 (some 53) Tryz.underlying3 ?_|refine AtR 7 (some 53) Tryz.underlying3 ?_
     try simp only [NS]
     refine AtP 8 (some 54) ?_
     try simp only [NS]
     first|refine AtL 9 (some 55) Tryz.underlying87 ?_|refine AtR 9 (some 55) Tryz.underlying87 ?_
     try simp only [NS]
     refine AtP 10 (some 56) ?_
     try simp only [NS]
     first|refine AtL 11 (some 57) Tryz.underlying3 ?_|refine AtR 11 (some 57) Tryz.underlying3 ?_
     try simp only [NS]
     refine AtP 12 (some 58) ?_
     try simp only [NS]
     first|refine AtL 13 (some 59) Tryz.underlying86 ?_|refine AtR 13 (some 59) Tryz.underlying86 ?_
     try simp only [NS]
     refine AtP 14 (some 60) ?_
     try simp only [NS]
     first|refine AtL 15 (some 61) Tryz.underlying3 ?_|refine AtR 15 (some 61) Tryz.underlying3 ?_
     try simp only [NS]
     refine AtP 16 (some 62) ?_
     try simp only [NS]
     first|refine AtL 17 (some 63) Tryz.underlying3 ?_|refine AtR 17 (some 63) Tryz.underlying3 ?_
     try simp only [NS]
     refine AtP 18 (some 64) ?_
     try simp only [NS]
     first|refine AtL 19 (some 65) Tryz.underlying3 ?_|refine AtR 19 (some 65) Tryz.underlying3 ?_
     try simp only [NS]
     refine AtC 20 fun K hK=>?_
     go_simp
     refine PK.out.mono ?_
     rintro e w5 ⟨A5,n5,c5,z5,B5,k5,d5,y5,rfl,ho5,hz5,hn5,ho6,hy6,hk6,hF5,hk5⟩
     have hx:=HW.out.kindsRo hk5 (fun j hj=>KT.some hj) hF5
     have R5:=hid (HW.out.ro (RdS.of_own ho5) (fun a e=>own_blt ho5 e))
     have R6:=hid (HW.out.ro (RdS.of_own ho6) (fun a e=>own_blt ho6 e))
     have HY5:=hid (And.intro hz5 hy6)
     have HLN:=hid (And.intro hn5 hk6)
     replace HW:=hid hx.1
     replace hx:=hx.2
     replace HT:=hid (HT.out.nx hx)
     clear ho5 ho6 hz5 hy6 hF5 hk5 hx
     refine hK _ _ all_nil ?_
     clear hK K
     try simp only [NS]
     refine AtP 21 (some 45) ?_
     try simp only [NS]
     refine AtP 22 (some 67) ?_
     try simp only [NS]
     refine AtP 23 (some 68) ?_
     try simp only [NS]
     refine AtP 24 (some 12) ?_
     try simp only [NS]
     refine AtP 25 (some 13) ?_
     try simp only [NS]
     refine At.done (by kernel_rfl) ?_
     generalize roF G2 wc.drew.heap.size w5.heap.size=G5 at*
     have hn5b:n5≤2000000:=by have:=HNB.out;omega
     have hk5b:k5≤10000000:=by have:=HNB.out;omega
     clear x0 x1 x2 x3 p6 p8 PK HXB hc1 hc2 hc3 hcl hrl hpl hn5 hk6
     have HOW:=hid (show w5.ownsRow w1.heap.size 5 1 (.slice BA2 n2 cb2) n2 (body2.map (Value.int .u8))from HW.out.at_ 0 rfl)
     have hbw:w1.heap.size≤w5.heap.size:=HW.out.keep.size
     go_upto_region 13 with(
      at_builtin
      go_must (refine wpList_append_manyA _ rfl (.tmp 69) (.tmp 70) 25 rfl w1.heap.size 5 i0 _ 1 1 Tryz.underlying25 hi0 hz0 hz1 hz2 rfl (by omega) HOW.out rfl R5.out.1 rfl (oneCell_ints _ _) (by simp only [maxLen];omega) (by omega) hbw ?_)
      intro A7 c7 w7 hown7 hk7 hat7
      have hx:=HW.out.row 0 (u':=⟨5,1,A7,n2+n5,c7,(body2++z5).map (Value.int .u8)⟩) rfl (by rw [List.map_append];exact hown7) hk7 hat7
      replace HW:=hid hx.1
      replace hx:=hx.2
      replace HT:=hid (HT.out.nx hx)
      replace R6:=hid (R6.out.nx hx)
      clear hx hown7 hk7 hat7 R5)
     have p11:w7.cell? ⟨w.heap.size+1+1,11,none⟩=some (.bool p.eph):=by have h:=(HB3.out.keep HW.out.keep id).cell 11;rw [HPC.out]at h;exact h
     go_upto_if 73 with fail
     go_cut [8] (fun v wx=> ∃(A:Option Addr) (n c:Nat) (body:List Int),v=.slice A n c∧Hid (n≤n2+n5+2)∧Hid (Bytes body)∧Hid (Wk 91 G5 w1 [⟨5,1,A,n,c,body.map (Value.int .u8)⟩] none wx)∧Hid (Nx G5 w7 G5 wx))
     case first=>
      cases hs:p.eph with
      |false=>
       go_wp2_with fail
       go_meet
       exact⟨A7,n2+n5,c7,_,rfl,hid (by omega),hid (HBY2.out.app HY5.out.1),HW,hid Nx.refl⟩
      |true=>
       clear p11
       go_wp2_with fail
       refine(wk_put HW.out 0 rfl (by omega) 2 65426 (by omega) (by omega)).mono ?_
       rintro e w8 ⟨A8,c8,rfl,hW8,hx8⟩
       have HW8:=hid hW8
       have HX8:=hid hx8
       clear hW8 hx8
       go_wp2_with fail
       go_meet
       exact⟨A8,_,c8,_,rfl,hid (by omega),hid ((HBY2.out.app HY5.out.1).app (putB_bytes _ _)),HW8,HX8⟩
     case rest=>
      clear HW p11
      obtain⟨A9,n9,c9,body9,rfl,HN9,HBY9,HW,HNX⟩:=hcut
      have hx:=HNX.out
      replace HT:=hid (HT.out.nx hx)
      replace R6:=hid (R6.out.nx hx)
      clear hx HNX
      have HOW:=hid (show wc.ownsRow w1.heap.size 5 1 (.slice A9 n9 c9) n9 (body9.map (Value.int .u8))from HW.out.at_ 0 rfl)
      have hbw:w1.heap.size≤wc.heap.size:=HW.out.keep.size
      have hn9:n9≤4000000000:=by have:=HN9.out;omega
      go_wp2_with (
       at_builtin
       go_must (refine wpList_append_manyA _ rfl (.tmp 76) (.tmp 77) 25 rfl w1.heap.size 5 i0 _ 1 1 Tryz.underlying25 hi0 hz0 hz1 hz2 rfl (by omega) HOW.out rfl R6.out.1 rfl (oneCell_ints _ _) (by simp only [maxLen];omega) (by omega) hbw ?_)
       intro A10 c10 w10 hown10 hk10 hat10
       have hx:=HW.out.row 0 (u':=⟨5,1,A10,n9+k5,c10,(body9++y5).map (Value.int .u8)⟩) rfl (by rw [List.map_append];exact hown10) hk10 hat10
       replace HW:=hid hx.1
       replace hx:=hx.2
       replace HT:=hid (HT.out.nx hx)
       clear hx hown10 hk10 hat10 R6)
      go_roundw
      case rel=>exact⟨i+1,A10,n9+k5,c10,body9++y5,G5,by omega,by go_num,rfl,hid (by
       have h1:=HN9.out
       have h2:=HN2.out
       have h3:=HNM.out
       obtain⟨h4,h5⟩:=HLN.out
       have h6:=HMM.out
       rw [Nat.add_mul,Nat.one_mul]
       omega),hid (HBY9.out.app HY5.out.2),HW,HT⟩
      case measure=>simp [intOf]<;>omega
  · have HZ:=hid (show Til18P w (.returned (.slice BA nb cb)) wr from⟨BA,nb,cb,body,rfl,⟨own_mono (show wr.ownsRow w1.heap.size 5 1 (.slice BA nb cb) nb (body.map (Value.int .u8))from HW.out.at_ 0 rfl) HK0.out.size,HK0.out.trans HW.out.keep (fun _ _ h=>h),HBY.out,Nat.le_refl _,Nat.le_trans HK0.out.size HW.out.keep.size⟩,hnbb⟩)
    go_wp2_with fail
    go_ret
    exact HZ.out
def tileB (i:Nat) (ys:List Int):List Int:=putB 65424 2++(putB 10 2++(putB (i:Int) 2++(putB ((ys.length:Int)+14) 4++(putB 0 1++(putB 1 1++(putB 65427 2++ys))))))
def tilesB :Nat→List (List Int)→List Int
 |_,[]=>[]
 |i,y::r=>tileB i y++tilesB (i+1) r
theorem tilesB_snoc : ∀(l:List (List Int)) (i:Nat) (y:List Int),tilesB i (l++[y])=tilesB i l++tileB (i+l.length) y
 |[],i,y=>by show tileB i y++[]=[]++tileB (i+0) y;simp
 |a::l,i,y=>by
  show tileB i a++tilesB (i+1) (l++[y])=(tileB i a++tilesB (i+1) l)++_
  rw [tilesB_snoc l (i+1) y,List.append_assoc,show i+1+l.length=i+(a::l).length by simp;omega]
structure Pict (w:World) (m:Im) (p:Pm) (cs:List Cm) (nx ny:Nat):Prop where
 pic:PicOk w m p m.whole cs
 all: ∀c∈cs,CmAll w m c
 ox:0≤m.ox
 x:m.ox<m.x
 oy:0≤m.oy
 y:m.oy<m.y
 tx:m.ox<p.tx
 ty:m.oy<p.ty
 cx:ceilI m.x p.tx=nx
 cy:ceilI m.y p.ty=ny
 n16:nx*ny≤16
 rct:p.rct=true→3≤m.n∧ ∀(a b:Cm) (i j:Nat),i<3→j<3→cs[i]?=some a→cs[j]?=some b→b.depth=a.depth∧b.sg=a.sg∧b.dx=a.dx∧b.dy=a.dy
 n1:1≤m.n
theorem PicOk.tile {w:World} {m:Im} {p:Pm} {t t':Rc} {cs:List Cm} (h:PicOk w m p t cs) (hs:t'.sub m.whole):PicOk w m p t' cs:=
 ⟨h.row,h.len,h.ok,h.d10,h.area,h.cap,h.zs,h.n4,h.whole,hs,h.pm,h.lay,h.lay1,h.rct⟩
theorem CmAll.keepF {w w':World} {m:Im} {c:Cm} (h:CmAll w m c) (hk:Keep (fun _=>False) w w'):CmAll w' m c:=
 ⟨h.ok,h.d10,h.area,by obtain⟨zs,h1,h2⟩:=h.zs;exact⟨zs,h1.keepF hk,h2⟩⟩
def EncP (w:World) (m:Im) (p:Pm) (rem:List Int) (nt:Nat) (e:Ending) (w':World):Prop:=
 ∃(A:Option Addr) (n c:Nat) (x1 x2 x3:List Int) (tl:List (List Int)),e=.returned (.tuple #[.slice A n c,.int .i64 0])∧By w w.heap.size A n c (mainB x1 x2 x3 rem++tilesB 0 tl++putB 65497 2) w'∧x1.length=36+3*m.n∧x2.length=11+p.lev∧x3.length=2+3*p.lev∧tl.length=nt∧(∀ y∈tl,Bytes y∧y.length≤3000000000)∧n≤50000000000
theorem Wk.one {t91:TypeId} {G:Nat→Option Kd} {w0 w w':World} (h:Wk t91 G w0 [] none w) (hk:Keep (fun _=>False) w w') {e:TypeId} {size n c:Nat} {A:Option Addr} {xs:List Value} (ho:w'.ownsRow w.heap.size e size (.slice A n c) n xs):Wk t91 G w0 [⟨e,size,A,n,c,xs⟩] none w'∧Nx G w G w':=by
 have h1:=h.callF hk
 refine⟨⟨h1.1.fits,h1.1.keep,fun i u hu=>?_,fun i j u v hij hu hv=>?_,fun _ _ e=>by cases e⟩,h1.2⟩
 · match i,hu with
   |0,hu=>
    injection hu with hu
    subst hu
    exact⟨own_mono ho h.keep.size,fun a e=>h.fits.none_of (own_blt ho e).1⟩
   |i+1,hu=>simp at hu
 · match i,j,hu,hv with
   |0,0,_,_=>exact absurd rfl hij
   |i+1,_,hu,_=>simp at hu
   |0,j+1,_,hv=>simp at hv
theorem enc18_any (w:World) (m:Im) (p:Pm) (cs:List Cm) (nx ny:Nat) (RA:Option Addr) (rn rc:Nat) (rem:List Int) (hP:Pict w m p cs nx ny) (hr:Rd w RA rn (rem.map (Value.int .u8))) (hrb:Bytes rem) (hrn:rn≤1000):
 Calls Tryz.prog 9 #[.agg m.cells,.agg p.cells,.slice RA rn rc] w (EncP w m p rem (nx*ny)):=by
 obtain⟨i0,hi0,hz0,hz1,hz2⟩:=info_parts info_u8
 have HP:=hid hP
 have HR:=hid hr
 have HRB:=hid hrb
 have hox:=hP.ox
 have hwo:=hP.pic.whole
 have hx64:m.x≤64:=by have:=hwo.x1;show m.whole.x1≤64;omega
 have hy64:m.y≤64:=by have:=hwo.y1;show m.whole.y1≤64;omega
 have CHK:=hid (fun (w':World) (k:Keep (fun _=>False) w w')=>check_any w' m p cs (hP.pic.row.keep0 k) hP.pic.len (fun c hc=>(hP.all c hc).keepF k) hP.ox hP.x hx64 hP.oy hP.y hy64 hP.pic.n4 (frame_any _ m p nx ny hP.pic.pm hP.ox hP.x hx64 hP.oy hP.y hy64 hP.tx hP.ty hP.cx hP.cy hP.n16 cs hP.pic.len hP.rct (hP.pic.row.keep0 ((k.alloc _).alloc _)) hP.n1 hP.pic.n4 hP.pic.ok))
 have MAI:=hid (fun (w':World) (k:Keep (fun _=>False) w w')=>main_any w' m p RA rn rc rem cs (hP.pic.row.keep0 k) hP.pic.len hP.pic.ok hP.pic.d10 hP.pic.n4 hP.pic.pm.lev (hr.keepF k) hrb hrn)
 have TIL:=hid (fun (w':World)=>tiles_any w' m p nx ny hP.ox hP.x hx64 hP.oy hP.y hy64 hP.tx hP.pic.pm.tx hP.ty hP.pic.pm.ty hP.cx hP.cy)
 have T18:=hid (fun (w':World) (k:Keep (fun _=>False) w w') (r:Rc) (hr:TileOk m r)=>tile18_any w' r m p cs ((hP.pic.tile hr.sub).keepF k) hP.n1)
 have HB1:=hid ((Blk.new w 29 m.cells).alloc (.cells p.cells 31))
 have HB2:=hid (Blk.new1 w (.cells m.cells 29) 31 p.cells)
 have HK0:=hid (((Keep.refl (fun _=>False) w).alloc (.cells m.cells 29)).alloc (.cells p.cells 31))
 obtain⟨nt,hnt⟩: ∃nt,nx*ny=nt:=⟨_,rfl⟩
 have HN16:=hid (show nt≤16 from by rw [← hnt];exact hP.n16)
 rw [hnt]at TIL
 rw [hnt]
 clear hP hr hrb hnt hwo hox
 go_enter Tryz.func9,Tryz.ntmps9
 go_upto_region 1 with fail
 generalize (w.alloc (.cells m.cells 29)).alloc (.cells p.cells 31)=w1 at*
 have W0:=(Wk.start w 91).callRo HK0.out
 have HW:=hid W0.1
 have R1:=hid ((Wk.start w 91).roB HB1.out (Nat.le_refl _))
 have R2:=hid ((Wk.start w 91).roB HB2.out (Nat.le_succ _))
 generalize roF (fun _=>none) w.heap.size w1.heap.size=G1 at*
 clear W0
 go_wp2_with (first|(refine wpList_load_row rfl _ _ rfl _ rfl _ _ _ _ HB1.out Tryz.underlying29 rfl (by kernel_rfl) ?_)|(refine wpList_load_row rfl _ _ rfl _ rfl _ _ _ _ HB2.out Tryz.underlying31 rfl (by kernel_rfl) ?_))
 refine(CHK.out _ HK0.out).mono ?_
 rintro e w2 ⟨rfl,hk2⟩
 have hx:=HW.out.callF hk2
 replace HW:=hid hx.1
 replace R1:=hid (R1.out.nx hx.2)
 replace R2:=hid (R2.out.nx hx.2)
 have HB1':=hid (show Blk w2 w.heap.size 29 #[.int .i64 m.x,.int .i64 m.y,.int .i64 m.ox,.int .i64 m.oy,.slice m.A m.n m.c]from R1.out.1)
 have HB2':=hid (show Blk w2 (w.heap.size+1) 31 #[.int .i64 p.tx,.int .i64 p.ty,.int .i64 p.lev,.int .i64 p.cbw,.int .i64 p.cbh,.int .i64 p.prec,.int .i64 p.style,.int .i64 p.order,.int .i64 p.lay,.bool p.rct,.bool p.sop,.bool p.eph]from R2.out.1)
 clear hk2 hx HB1 HB2 HK0 CHK
 have hdd:decide ((1000:Int)<(rn:Int))=false:=by simp;omega
 go_wp2_with (first|(refine wpList_load_row rfl _ _ rfl _ rfl _ _ _ _ HB1'.out Tryz.underlying29 rfl (by kernel_rfl) ?_)|(refine wpList_load_row rfl _ _ rfl _ rfl _ _ _ _ HB2'.out Tryz.underlying31 rfl (by kernel_rfl) ?_))
 refine(MAI.out _ HW.out.keep).mono ?_
 rintro e w3 ⟨A,n,c,x1,x2,x3,rfl,hBy,h1,h2,h3,hn⟩
 have HL:=hid (And.intro h1 (And.intro h2 h3))
 have hx:=HW.out.one hBy.keep hBy.own
 replace HW:=hid hx.1
 have HB1:=hid (R1.out.nx hx.2).1
 have HB2:=hid (R2.out.nx hx.2).1
 replace R1:=hid (R1.out.nx hx.2)
 replace R2:=hid (R2.out.nx hx.2)
 have HBY:=hid hBy.bytes
 clear hBy h1 h2 h3 HB1' HB2' MAI hx
 go_wp2_with (first|(refine wpList_load_row rfl _ _ rfl _ rfl _ _ _ _ HB1.out Tryz.underlying29 rfl (by kernel_rfl) ?_)|(refine wpList_load_row rfl _ _ rfl _ rfl _ _ _ _ HB2.out Tryz.underlying31 rfl (by kernel_rfl) ?_))
 refine(TIL.out _).mono ?_
 rintro e w4 ⟨TA,tc,rs,rfl,htr,_,hrl,hrok,hta,hk4⟩
 have hx:=HW.out.callRo hk4
 have HT:=hid (fun (h0:0<nt)=>HW.out.ro htr (fun a e=>⟨hta a e,htr.lt (by omega) h0 a e⟩))
 have HRS:=hid (And.intro hrl hrok)
 have HB1':=hid (R1.out.nx hx.2)
 have HB2':=hid (R2.out.nx hx.2)
 replace HW:=hid hx.1
 generalize roF G1 w3.heap.size w4.heap.size=G4 at*
 have HBW:=hid (show∀w',Keep (fun _=>False) w w'→True from fun _ _=>trivial)
 obtain⟨MB,hMB⟩: ∃MB,mainB x1 x2 x3 rem=MB:=⟨_,rfl⟩
 rw [hMB]at HW HBY
 have HMB:=hid hMB
 have hn16:=HN16.out
 clear hx htr hrl hrok hta hk4 TIL hMB HB1 HB2 HBW R1 R2
 go_wp2_with fail
 have HW0:Hid (Wk 91 G4 w [⟨5,1,A,n,c,(MB++tilesB 0 []).map (Value.int .u8)⟩] none w4):=hid (by
  have h:=HW.out
  rw [show MB++tilesB 0 []=MB by show MB++[]=MB;simp]
  exact h)
 clear HW
 go_loopw [9,11] (fun l v wr=> ∃(i:Nat) (A:Option Addr) (n c:Nat) (tl:List (List Int)) (G:Nat→Option Kd),i≤nt∧v=.int .i64 i∧l=.slice A n c∧Hid (n≤2000+i*3000000020)∧Hid (tl.length=i∧(∀ y∈tl,Bytes y∧y.length≤3000000000)∧Bytes (MB++tilesB 0 tl))∧Hid (Wk 91 G w [⟨5,1,A,n,c,(MB++tilesB 0 tl).map (Value.int .u8)⟩] none wr)∧Hid (0<nt→Ro G wr TA nt 4 (rcs rs))∧Hid (RoB G wr w.heap.size 29 m.cells)∧Hid (RoB G wr (w.heap.size+1) 31 p.cells)) (fun _ v _=>nt-(intOf v).toNat)
 case atStart=>exact⟨0,A,n,c,[],G4,by omega,rfl,rfl,hid (by omega),hid ⟨rfl,(fun _ h=>by cases h),by show Bytes (MB++[]);rw [List.append_nil];exact HBY.out⟩,HW0,HT,HB1',HB2'⟩
 case round=>
  clear HW0 HT HB1' HB2'
  clear hn
  clear G4
  obtain⟨i,A,n,c,tl,G,hi,rfl,rfl,HNN,HTL,HW,HT,HB1,HB2⟩:=hrel
  have hnb:n≤50000000000:=by have:=HNN.out;omega
  by_cases hin:i<nt
  · obtain⟨r,hr⟩: ∃r,rs[i]?=some r:=⟨_,List.getElem?_eq_getElem (by rw [HRS.out.1];exact hin)⟩
    obtain⟨tb,to',hTA,htr⟩:=RdS.get (f:=fun r:Rc=>r.cells.toList) (HT.out (by omega)).1 (fun _=>rfl) hin hr
    have hro:=HRS.out.2 r (List.mem_of_getElem? hr)
    have T1:=hid (fun (w':World) (k:Keep (fun _=>False) w w')=>T18.out w' k r hro)
    have dr:wr.drew.rangeAt tb (to'+i*4) r.cells.toList:=htr
    have dm:wr.drew.rangeAt w.heap.size 0 m.cells.toList:=HB1.out.1.drew.range
    have dp:wr.drew.rangeAt (w.heap.size+1) 0 p.cells.toList:=HB2.out.1.drew.range
    have hx:=HW.out.callF ((Keep.refl _ wr).drew)
    replace HW:=hid hx.1
    replace hx:=hx.2
    replace HT:=hid (fun h0=>(HT.out h0).nx hx)
    replace HB1:=hid (HB1.out.nx hx)
    replace HB2:=hid (HB2.out.nx hx)
    subst hTA
    clear hr htr hro hx
    go_upto_region 11 with fail
    refine At.start (L:=#[false,false,false,false,false,false,false,false]) (by kernel_rfl) rfl ?_
    refine AtP 0 (some 36) ?_
    try simp only [NS]
    refine AtP 1 (some 37) ?_
    try simp only [NS]
    refine AtP 2 (some 38) ?_
    try simp only [NS]
    first|refine AtL 3 (some 39) Tryz.underlying63 ?_|refine AtR 3 (some 39) Tryz.underlying63 ?_
    try simp only [NS]
    first|refine AtL 4 (some 40) Tryz.underlying29 ?_|refine AtR 4 (some 40) Tryz.underlying29 ?_
    try simp only [NS]
    first|refine AtL 5 (some 41) Tryz.underlying31 ?_|refine AtR 5 (some 41) Tryz.underlying31 ?_
    try simp only [NS]
    refine AtC 6 fun K hK=>?_
    go_simp
    refine(T1.out _ HW.out.keep).mono ?_
    rintro e w5 ⟨Y,ny',cy,ys,rfl,hby,hny⟩
    have hx:=HW.out.callRo hby.keep
    have RY:=hid (HW.out.ro (RdS.of_own hby.own) (fun a e=>own_blt hby.own e))
    have hyl:=hby.len
    have HYB:=hid (And.intro hby.bytes hyl)
    replace HW:=hid hx.1
    replace hx:=hx.2
    replace HT:=hid (fun h0=>(HT.out h0).nx hx)
    replace HB1:=hid (HB1.out.nx hx)
    replace HB2:=hid (HB2.out.nx hx)
    clear hx hby hyl
    refine hK _ _ all_nil ?_
    clear hK K
    try simp only [NS]
    refine AtP 7 (some 12) ?_
    try simp only [NS]
    refine At.done (by kernel_rfl) ?_
    generalize roF G wr.drew.heap.size w5.heap.size=G5 at*
    clear dr dm dp T1 G
    go_wp2_with fail
    refine(wk_put HW.out 0 rfl (by omega) 2 65424 (by omega) (by omega)).mono ?_
    rintro e w6 ⟨A6,c6,rfl,hW',hx⟩
    replace HW:=hid hW'
    replace HT:=hid (fun h0=>(HT.out h0).nx hx)
    replace HB1:=hid (HB1.out.nx hx)
    replace HB2:=hid (HB2.out.nx hx)
    replace RY:=hid (RY.out.nx hx)
    clear hW' hx
    go_wp2_with fail
    refine(wk_put HW.out 0 rfl (by omega) 2 10 (by omega) (by omega)).mono ?_
    rintro e w7 ⟨A7,c7,rfl,hW',hx⟩
    replace HW:=hid hW'
    replace HT:=hid (fun h0=>(HT.out h0).nx hx)
    replace HB1:=hid (HB1.out.nx hx)
    replace HB2:=hid (HB2.out.nx hx)
    replace RY:=hid (RY.out.nx hx)
    clear hW' hx
    go_wp2_with fail
    refine(wk_put HW.out 0 rfl (by omega) 2 i (by omega) (by omega)).mono ?_
    rintro e w8 ⟨A8,c8,rfl,hW',hx⟩
    replace HW:=hid hW'
    replace HT:=hid (fun h0=>(HT.out h0).nx hx)
    replace HB1:=hid (HB1.out.nx hx)
    replace HB2:=hid (HB2.out.nx hx)
    replace RY:=hid (RY.out.nx hx)
    clear hW' hx
    go_wp2_with fail
    have hwl:IntKind.i64.wrap ((ny':Int)+14)=(ny':Int)+14:=IntWalk.i64_in _ (by omega)
    refine(wk_put HW.out 0 rfl (by omega) 4 ((ny':Int)+14) (by omega) (by omega)).mono ?_
    rintro e w9 ⟨A9,c9,rfl,hW',hx⟩
    replace HW:=hid hW'
    replace HT:=hid (fun h0=>(HT.out h0).nx hx)
    replace HB1:=hid (HB1.out.nx hx)
    replace HB2:=hid (HB2.out.nx hx)
    replace RY:=hid (RY.out.nx hx)
    clear hW' hx
    go_wp2_with fail
    refine(wk_put HW.out 0 rfl (by omega) 1 0 (by omega) (by omega)).mono ?_
    rintro e w10 ⟨A10,c10,rfl,hW',hx⟩
    replace HW:=hid hW'
    replace HT:=hid (fun h0=>(HT.out h0).nx hx)
    replace HB1:=hid (HB1.out.nx hx)
    replace HB2:=hid (HB2.out.nx hx)
    replace RY:=hid (RY.out.nx hx)
    clear hW' hx
    go_wp2_with fail
    refine(wk_put HW.out 0 rfl (by omega) 1 1 (by omega) (by omega)).mono ?_
    rintro e w11 ⟨A11,c11,rfl,hW',hx⟩
    replace HW:=hid hW'
    replace HT:=hid (fun h0=>(HT.out h0).nx hx)
    replace HB1:=hid (HB1.out.nx hx)
    replace HB2:=hid (HB2.out.nx hx)
    replace RY:=hid (RY.out.nx hx)
    clear hW' hx
    go_wp2_with fail
    refine(wk_put HW.out 0 rfl (by omega) 2 65427 (by omega) (by omega)).mono ?_
    rintro e w12 ⟨A12,c12,rfl,hW',hx⟩
    replace HW:=hid hW'
    replace HT:=hid (fun h0=>(HT.out h0).nx hx)
    replace HB1:=hid (HB1.out.nx hx)
    replace HB2:=hid (HB2.out.nx hx)
    replace RY:=hid (RY.out.nx hx)
    clear hW' hx
    have HOW:=hid (show w12.ownsRow w.heap.size 5 1 (.slice A12 (n+2+2+2+4+1+1+2) c12) (n+2+2+2+4+1+1+2) ((MB++tilesB 0 tl++putB 65424 2++putB 10 2++putB (i:Int) 2++putB ((ny':Int)+14) 4++putB 0 1++putB 1 1++putB 65427 2).map (Value.int .u8))from HW.out.at_ 0 rfl)
    have hbw:w.heap.size≤w12.heap.size:=HW.out.keep.size
    go_wp2_with (
     at_builtin
     go_must (refine wpList_append_manyA _ rfl (.tmp 56) (.tmp 57) 25 rfl w.heap.size 5 i0 _ 1 1 Tryz.underlying25 hi0 hz0 hz1 hz2 rfl (by omega) HOW.out rfl RY.out.1 rfl (oneCell_ints _ _) (by simp only [maxLen];omega) (by omega) hbw ?_)
     intro A13 c13 w13 hown13 hk13 hat13
     have hx:=HW.out.row 0 (u':=⟨5,1,A13,n+2+2+2+4+1+1+2+ny',c13,(MB++tilesB 0 (tl++[ys])).map (Value.int .u8)⟩) rfl (by
      have e:MB++tilesB 0 (tl++[ys])=(MB++tilesB 0 tl++putB 65424 2++putB 10 2++putB (i:Int) 2++putB ((ny':Int)+14) 4++putB 0 1++putB 1 1++putB 65427 2)++ys:=by
       rw [tilesB_snoc,Nat.zero_add,HTL.out.1]
       unfold tileB
       rw [HYB.out.2]
       simp only [List.append_assoc]
      rw [e,List.map_append]
      exact hown13) hk13 hat13
     replace HW:=hid hx.1
     replace hx:=hx.2
     replace HT:=hid (fun h0=>(HT.out h0).nx hx)
     replace HB1:=hid (HB1.out.nx hx)
     replace HB2:=hid (HB2.out.nx hx)
     clear hx hown13 hk13 hat13 HOW RY)
    go_roundw
    case rel=>exact⟨i+1,A13,_,c13,tl++[ys],G5,by omega,by go_num,rfl,hid (by have:=HNN.out;omega),hid ⟨by rw [List.length_append,HTL.out.1];rfl,fun y hy=>by
     rcases List.mem_append.1 hy with h|h
     · exact HTL.out.2.1 y h
     · rw [List.mem_singleton]at h
       subst h
       exact⟨HYB.out.1,by rw [HYB.out.2];exact hny⟩,by
     rw [tilesB_snoc,←List.append_assoc]
     refine HTL.out.2.2.app ?_
     unfold tileB
     exact(putB_bytes _ _).app ((putB_bytes _ _).app ((putB_bytes _ _).app ((putB_bytes _ _).app ((putB_bytes _ _).app ((putB_bytes _ _).app ((putB_bytes _ _).app HYB.out.1))))))⟩,HW,HT,HB1,HB2⟩
    case measure=>simp [intOf]<;>omega
  · obtain rfl:i=nt:=by omega
    go_wp2_with fail
    refine(wk_put HW.out 0 rfl (by omega) 2 65497 (by omega) (by omega)).mono ?_
    rintro e w6 ⟨A6,c6,rfl,hW6,_⟩
    have HZ:=hid (show EncP w m p rem i (.returned (.tuple #[.slice A6 (n+2) c6,.int .i64 0])) w6 from
     ⟨A6,n+2,c6,x1,x2,x3,tl,rfl,⟨by rw [HMB.out];exact hW6.at_ 0 rfl,hW6.keep,by rw [HMB.out];exact HTL.out.2.2.app (putB_bytes _ _),Nat.le_refl _,hW6.keep.size⟩,HL.out.1,HL.out.2.1,HL.out.2.2,HTL.out.1,HTL.out.2.1,by have:=HNN.out;omega⟩)
    clear hW6
    go_wp2_with fail
    exact bodyPost_ret (v:=.tuple #[_,_]) (by simp [results,Tryz.results9,go_sem]<;>exact⟨rfl,rfl⟩) rfl HZ.out
theorem putB2 (x:Int) (h0:0≤x) (h1:x<65536):putB x 2=[x/256,x%256]:=by
 have hw:IntKind.u64.wrap x=x:=by show x%18446744073709551616=x;omega
 show [IntKind.u64.wrap x/256%256,IntKind.u64.wrap x/1%256]=_
 rw [hw]
 rw [show x/256%256=x/256 by omega,show x/1%256=x%256 by omega]
theorem putB4 (x:Int) (h0:0≤x) (h1:x<4294967296):putB x 4=putB (x/65536) 2++putB (x%65536) 2:=by
 rw [putB2 (x/65536) (by omega) (by omega),putB2 (x%65536) (by omega) (by omega)]
 have hw:IntKind.u64.wrap x=x:=by show x%18446744073709551616=x;omega
 show [IntKind.u64.wrap x/16777216%256,IntKind.u64.wrap x/65536%256,IntKind.u64.wrap x/256%256,IntKind.u64.wrap x/1%256]=[x/65536/256,x/65536%256,x%65536/256,x%65536%256]
 rw [hw]
 rw [show x/16777216%256=x/65536/256 by omega,show x/256%256=x%65536/256 by omega,show x/1%256=x%65536%256 by omega]
theorem drop_more {zs a r:List Int} {p:Nat} (h:zs.drop p=a++r):zs.drop (p+a.length)=r:=by
 rw [← List.drop_drop,h,List.drop_left]
theorem drop_len {zs r:List Int} {p:Nat} (h:zs.drop p=r) (hr:r≠[]):zs.length=p+r.length:=by
 have h1:=congrArg List.length h
 rw [List.length_drop]at h1
 have:0<r.length:=List.length_pos_iff.2 hr
 omega
theorem two_at {zs r:List Int} {p:Nat} {x:Int} (h:zs.drop p=putB x 2++r) (h0:0≤x) (h1:x<65536):two zs p=x∧zs.drop (p+2)=r∧zs.length=p+2+r.length:=by
 have hd:=drop_more h
 rw [putB_length]at hd
 rw [putB2 x h0 h1]at h
 have hl:=drop_len h (by simp)
 simp at hl
 refine⟨?_,hd,by omega⟩
 have g0:zs.getD p 0=x/256:=by
  have:=congrArg (fun l=>l.getD 0 0) h
  simpa [List.getD_eq_getElem?_getD,List.getElem?_drop]using this
 have g1:zs.getD (p+1) 0=x%256:=by
  have:=congrArg (fun l=>l.getD 1 0) h
  simpa [List.getD_eq_getElem?_getD,List.getElem?_drop]using this
 unfold two
 rw [if_neg (by omega),g0,g1]
 omega
theorem seg_at {zs r xs:List Int} {p:Nat} {m:Int} (h:zs.drop p=segB m xs++r) (h0:65344≤m) (h1:m<65536) (h2:m≠65359) (h3:m≠65427) (h4:m≠65424) (h5:m≠65497) (hx:xs.length+2<65536):
 stepW zs p false=.go [(m,p)] (p+(4+xs.length)) false∧zs.drop (p+(4+xs.length))=r:=by
 have hr:=drop_more h
 rw [segB_len]at hr
 unfold segB at h
 simp only [List.append_assoc]at h
 obtain⟨e1,d1,l1⟩:=two_at h (by omega) h1
 obtain⟨e2,d2,l2⟩:=two_at d1 (by omega) (by omega)
 rw [List.length_append]at l2
 rw [step_seg (by omega) (by omega) (by omega) (by omega) (by omega),e1,e2,if_neg (by omega),if_neg (by omega)]
 refine⟨?_,hr⟩
 rw [show p+2+((xs.length:Int)+2).toNat=p+(4+xs.length) by omega]
theorem tile_len (i:Nat) (y:List Int):(tileB i y).length=14+y.length:=by
 unfold tileB
 simp only [List.length_append,putB_length]
 omega
theorem tile_at {zs r y:List Int} {p i:Nat} {t:Bool} (h:zs.drop p=tileB i y++r) (hi:i<65536) (hy:y.length≤3000000000):
 stepW zs p t=.go [(65424,p),(65427,p+12)] (p+(14+y.length)) true∧zs.drop (p+(14+y.length))=r:=by
 have hr:=drop_more h
 rw [tile_len]at hr
 unfold tileB at h
 rw [putB4 _ (by omega) (by omega)]at h
 simp only [List.append_assoc]at h
 obtain⟨e1,d1,l1⟩:=two_at h (by omega) (by omega)
 obtain⟨e2,d2,l2⟩:=two_at d1 (by omega) (by omega)
 obtain⟨e3,d3,l3⟩:=two_at d2 (by omega) (by omega)
 obtain⟨e4,d4,l4⟩:=two_at d3 (by omega) (by omega)
 obtain⟨e5,d5,l5⟩:=two_at d4 (by omega) (by omega)
 have d6:=drop_more d5
 rw [putB_length]at d6
 have d7:=drop_more d6
 rw [putB_length]at d7
 obtain⟨e8,d8,l8⟩:=two_at d7 (by omega) (by omega)
 have hs:tileSize zs p=(y.length:Int)+14:=by
  unfold tileSize
  rw [show p+6=p+2+2+2 by omega,show p+8=p+2+2+2+2 by omega,e4,e5]
  omega
 rw [List.length_append]at l8
 have hg:tileGood zs p:=⟨e2,by omega,by rw [show p+12=p+2+2+2+2+2+1+1 by omega];exact e8,by omega,by omega⟩
 rw [step_tile e1,if_pos hg,hs]
 refine⟨?_,hr⟩
 rw [show p+((y.length:Int)+14).toNat=p+(14+y.length) by omega]
def tlen :List (List Int)→Nat
 |[]=>0
 |y::l=>14+y.length+tlen l
theorem leads_tiles {zs r:List Int} {R:Option (List (Int×Nat))}: ∀(l:List (List Int)) (i p:Nat) (t:Bool) (acc:List (Int×Nat)),zs.drop p=tilesB i l++r→Leads zs p t acc R→i+l.length<65536→(∀ y∈l,y.length≤3000000000)→
 ∃t',Leads zs (p+tlen l) t' (acc++tmarks p l) R∧zs.drop (p+tlen l)=r∧(t=true∨0<l.length→t'=true)
 |[],i,p,t,acc,h,hL,_,_=>⟨t,by rw [show acc++tmarks p []=acc by show acc++[]=acc;simp];exact hL,h,fun h=>by rcases h with h|h;exact h;simp at h⟩
 |y::l,i,p,t,acc,h,hL,hi,hy=>by
  rw [show tilesB i (y::l)=tileB i y++tilesB (i+1) l from rfl,List.append_assoc]at h
  rw [List.length_cons]at hi
  obtain⟨h1,h2⟩:=tile_at (t:=t) h (by omega) (hy y (List.mem_cons_self ..))
  obtain⟨t',h3,h4,h5⟩:=leads_tiles l (i+1) _ true _ h2 (leads_go hL h1) (by omega) (fun z hz=>hy z (List.mem_cons_of_mem _ hz))
  refine⟨t',?_,?_,fun _=>h5 (.inl rfl)⟩
  · rw [show tlen (y::l)=14+y.length+tlen l from rfl,←Nat.add_assoc]
    rw [List.append_assoc]at h3
    exact h3
  · rw [show tlen (y::l)=14+y.length+tlen l from rfl,←Nat.add_assoc]
    exact h4
theorem walk_enc (x1 x2 x3 rem:List Int) (tl:List (List Int)) (h1:x1.length≤1000) (h2:x2.length≤1000) (h3:x3.length≤1000) (h4:rem.length≤1000) (ht:tl.length<65536) (ht1:0<tl.length) (hy: ∀y∈tl,y.length≤3000000000):
 ∃p q,walkM (mainB x1 x2 x3 rem++tilesB 0 tl++putB 65497 2)=some (hmarks x1.length x2.length x3.length rem++tmarks p tl++[(65497,q)]):=by
 generalize hz:mainB x1 x2 x3 rem++tilesB 0 tl++putB 65497 2=zs
 have d0:zs.drop 0=mainB x1 x2 x3 rem++tilesB 0 tl++putB 65497 2:=by rw [hz];rfl
 unfold mainB at d0
 simp only [List.append_assoc]at d0
 obtain⟨e1,d1,l1⟩:=two_at d0 (by omega) (by omega)
 have L0:=leads_start e1
 rw [Nat.zero_add]at d1
 obtain⟨s1,d2⟩:=seg_at d1 (by omega) (by omega) (by omega) (by omega) (by omega) (by omega) (by omega)
 have L1:=leads_go L0 s1
 obtain⟨s2,d3⟩:=seg_at d2 (by omega) (by omega) (by omega) (by omega) (by omega) (by omega) (by omega)
 have L2:=leads_go L1 s2
 obtain⟨s3,d4⟩:=seg_at d3 (by omega) (by omega) (by omega) (by omega) (by omega) (by omega) (by omega)
 have L3:=leads_go L2 s3
 have key: ∃p,Leads zs p false (hmarks x1.length x2.length x3.length rem) (walkM zs)∧zs.drop p=tilesB 0 tl++putB 65497 2:=by
  unfold hmarks
  by_cases hr:rem=[]
  · rw [if_pos hr]at d4
    rw [if_pos hr]
    exact⟨_,by simpa using L3,d4⟩
  · rw [if_neg hr]at d4
    rw [if_neg hr]
    obtain⟨s4,d5⟩:=seg_at d4 (by omega) (by omega) (by omega) (by omega) (by omega) (by omega) (by simp;omega)
    exact⟨_,by simpa using leads_go L3 s4,d5⟩
 obtain⟨p,L4,d5⟩:=key
 obtain⟨t',L5,d6,h5⟩:=leads_tiles tl 0 p false _ d5 L4 (by omega) hy
 rw [h5 (.inr ht1)]at L5
 have d7:zs.drop (p+tlen tl)=putB 65497 2++[]:=by rw [d6,List.append_nil]
 obtain⟨e9,_,l9⟩:=two_at d7 (by omega) (by omega)
 refine⟨p,p+tlen tl,leads_fin L5 ?_⟩
 rw [step_end e9,if_pos ⟨rfl,l9⟩]
theorem Pict.keepF {w w':World} {m:Im} {p:Pm} {cs:List Cm} {nx ny:Nat} (h:Pict w m p cs nx ny) (k:Keep (fun _=>False) w w'):Pict w' m p cs nx ny:=
 ⟨h.pic.keepF k,fun c hc=>(h.all c hc).keepF k,h.ox,h.x,h.oy,h.y,h.tx,h.ty,h.cx,h.cy,h.n16,h.rct,h.n1⟩
theorem ceil_pos {x t:Int} {n:Nat} (hx:0<x) (ht:0<t) (h:ceilI x t=n):(x+t-1)/t=n∧1≤n:=by
 unfold ceilI at h
 rw [if_neg (by omega)]at h
 have h1:1≤(x+t-1)/t:=by
  rw [Int.le_ediv_iff_mul_le ht]
  omega
 exact⟨h,by omega⟩
theorem makeL_of {w w':World} {m:Im} {p:Pm} {cs:List Cm} {nx ny:Nat} (hP:Pict w' m p cs nx ny) (h6:nx*ny≤6) (hk:Keep (fun _=>False) w w'):MakeL w (.returned (.tuple #[.agg m.cells,.agg p.cells])) w':=by
 have hwx:m.x≤17:=hP.pic.whole.x1
 have hwy:m.y≤17:=hP.pic.whole.y1
 have h1:=hP.ox
 have h2:=hP.x
 have h3:=hP.oy
 have h4:=hP.y
 have h5:=hP.tx
 have h7:=hP.ty
 obtain⟨a1,a2⟩:=ceil_pos (by omega) (by omega) hP.cx
 obtain⟨b1,b2⟩:=ceil_pos (by omega) (by omega) hP.cy
 have hpos:0<nx*ny:=Nat.mul_pos a2 b2
 have hnx:nx≤nx*ny:=Nat.le_mul_of_pos_right _ b2
 have hny:ny≤nx*ny:=Nat.le_mul_of_pos_left _ a2
 refine⟨m,p,nx,ny,rfl,hk,⟨by omega,by omega,by omega,by omega,by omega,hP.pic.pm.tx,by omega,hP.pic.pm.ty⟩,⟨a1,b1,by omega,by omega,hpos,h6⟩,fun w2 RA rn rc rem k2 hr hb hrn=>?_⟩
 refine(enc18_any w2 m p cs nx ny RA rn rc rem (hP.keepF k2) hr hb hrn).mono ?_
 rintro e w3 ⟨A,n,c,x1,x2,x3,tl,rfl,hBy,l1,l2,l3,htl,hy,hn⟩
 have hn4:=hP.pic.n4
 have hlv:=hP.pic.pm.lev
 have hrl:rem.length=rn:=hr.len
 obtain⟨P,q,hw⟩:=walk_enc x1 x2 x3 rem tl (by omega) (by omega) (by omega) (by omega) (by omega) (by omega) (fun y h=>(hy y h).2)
 exact⟨A,n,c,_,x1.length,x2.length,x3.length,P,q,tl,rfl,hBy.keep,hBy.own,hBy.bytes,hn,htl,hw⟩
end Go.Proofs.YthfogcgdijmaoaaGreat
