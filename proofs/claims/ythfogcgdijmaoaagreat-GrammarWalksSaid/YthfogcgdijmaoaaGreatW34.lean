/-
  Part 34 of the proof: Tile Enc18 LawMW. Conditions: those of the statements.
-/
import Derived.Test.YthfogcgdijmaoaaGreatW10
import Derived.Test.YthfogcgdijmaoaaGreatW19
import Derived.Test.YthfogcgdijmaoaaGreatW27
import Derived.Test.YthfogcgdijmaoaaGreatW28
import Derived.Test.YthfogcgdijmaoaaGreatW31
import Derived.Test.YthfogcgdijmaoaaGreatW32
import Derived.Test.YthfogcgdijmaoaaGreatW33
import Derived.Deep.DeepCutAuto
set_option maxRecDepth 100000
set_option maxHeartbeats 16000000
set_option linter.unusedVariables false
set_option linter.unusedSimpArgs false
namespace Go.Proofs.YthfogcgdijmaoaaGreat
open Go.RowKit
theorem PicOk.keepF {w w':World} {m:Im} {p:Pm} {t:Rc} {cs:List Cm} (h:PicOk w m p t cs) (hk:Keep (fun _=>False) w w'):PicOk w' m p t cs:=
 ⟨h.row.keep0 hk,h.len,h.ok,h.d10,h.area,h.cap,fun c hc=>by obtain⟨zs,hz⟩:=h.zs c hc;exact⟨zs,hz.keepF hk⟩,h.n4,h.whole,h.sub,h.pm,h.lay,h.lay1,h.rct⟩
theorem blkT_le (p:Nat):blkT p≤5:=by unfold blkT;repeat(first|split|omega)
theorem tile_bound {K lay nc lev prec:Nat} (hK:K≤lay*(nc*((lev+1)*(precT prec*precT prec)))) (h1:lay≤4) (h2:nc≤4) (h3:lev≤5):K*(342000*(blkT prec*blkT prec)+40)≤3000000000:=by
 have h4:K≤4*(4*(6*(precT prec*precT prec))):=Nat.le_trans hK (Nat.mul_le_mul h1 (Nat.mul_le_mul h2 (Nat.mul_le_mul (by omega) (Nat.le_refl _))))
 have h5:precT prec*blkT prec*(precT prec*blkT prec)≤9*9:=Nat.mul_le_mul (prec_blk prec) (prec_blk prec)
 have h6:precT prec*precT prec≤9*9:=Nat.mul_le_mul (precT_le prec) (precT_le prec)
 have h7:precT prec*precT prec*(blkT prec*blkT prec)=precT prec*blkT prec*(precT prec*blkT prec):=by
  rw [Nat.mul_assoc,Nat.mul_assoc,Nat.mul_left_comm (precT prec) (blkT prec)]
 rw [← h7]at h5
 generalize precT prec*precT prec=a at*
 generalize blkT prec*blkT prec=b at*
 have h8:=Nat.mul_le_mul_right (342000*b+40) h4
 have h9:4*(4*(6*a))*(342000*b+40)=32832000*(a*b)+3840*a:=by
  rw [Nat.mul_add]
  rw [show 4*(4*(6*a))=96*a by omega,Nat.mul_mul_mul_comm]
  omega
 omega
theorem tile18_any (w:World) (t:Rc) (m:Im) (p:Pm) (cs:List Cm) (hP:PicOk w m p t cs) (hn1:1≤m.n):
 Calls Tryz.prog 23 #[.agg t.cells,.agg m.cells,.agg p.cells] w (Til18P w):=by
 obtain⟨i0,hi0,hz0,hz1,hz2⟩:=info_parts info_u8
 have HMC:=hid (show m.cells=#[.int .i64 m.x,.int .i64 m.y,.int .i64 m.ox,.int .i64 m.oy,.slice m.A m.n m.c]from rfl)
 have HPC:=hid (show p.cells=#[.int .i64 p.tx,.int .i64 p.ty,.int .i64 p.lev,.int .i64 p.cbw,.int .i64 p.cbh,.int .i64 p.prec,.int .i64 p.style,.int .i64 p.order,.int .i64 p.lay,.bool p.rct,.bool p.sop,.bool p.eph]from rfl)
 have b1:=(Blk.new w 63 t.cells).alloc (.cells m.cells 29)
 have b2:=Blk.new1 w (.cells t.cells 63) 29 m.cells
 have HB1:=hid (b1.alloc (.cells p.cells 31))
 have HB2:=hid (b2.alloc (.cells p.cells 31))
 have HB3:=hid (Blk.new2 w (.cells t.cells 63) (.cells m.cells 29) 31 p.cells)
 have HK0:=hid ((((Keep.refl (fun _=>False) w).alloc (.cells t.cells 63)).alloc (.cells m.cells 29)).alloc (.cells p.cells 31))
 have hlev:=hP.pm.lev
 have HP:=hid hP
 clear hP b1 b2
 go_enter Tryz.func23,Tryz.ntmps23
 go_upto_region 1 with fail
 generalize ((w.alloc (.cells t.cells 63)).alloc (.cells m.cells 29)).alloc (.cells p.cells 31)=w1 at*
 replace HP:=hid (HP.out.keepF HK0.out)
 go_wp2_with (first|(refine wpList_load_row rfl _ _ rfl _ rfl _ _ _ _ HB1.out Tryz.underlying63 rfl (by kernel_rfl) ?_)|(refine wpList_load_row rfl _ _ rfl _ rfl _ _ _ _ HB2.out Tryz.underlying29 rfl (by kernel_rfl) ?_)|(refine wpList_load_row rfl _ _ rfl _ rfl _ _ _ _ HB3.out Tryz.underlying31 rfl (by kernel_rfl) ?_))
 refine(plans_any _ t m p cs HP.out.row HP.out.len HP.out.ok HP.out.d10 HP.out.n4 HP.out.pm (HP.out.sub.ok HP.out.whole)).mono ?_
 rintro e w2 ⟨G,A,n,c,outs,rfl,hF,hk2,hro,hlen,hn,hok⟩
 subst hlen
 have HW:=hid (show Wk 91 G w1 [] none w2 from⟨hF,hk2,fun i u h=>by simp at h,fun i j u v _ h=>by simp at h,fun _ _ e=>by cases e⟩)
 have HI:=hid (show InOk G w1.heap.size (blkT p.prec*blkT p.prec) w2 p.lev p.prec t cs A outs from⟨hro,hok,hn⟩)
 have B1:=HB1.out.keep hk2 id
 have B2:=HB2.out.keep hk2 id
 have B3:=HB3.out.keep hk2 id
 clear hF hk2 hro hn hok
 go_wp2_with (first|(refine wpList_load_row rfl _ _ rfl _ rfl _ _ _ _ B1 Tryz.underlying63 rfl (by kernel_rfl) ?_)|(refine wpList_load_row rfl _ _ rfl _ rfl _ _ _ _ B2 Tryz.underlying29 rfl (by kernel_rfl) ?_)|(refine wpList_load_row rfl _ _ rfl _ rfl _ _ _ _ B3 Tryz.underlying31 rfl (by kernel_rfl) ?_))
 refine(fill_any G w1 w2 t m p cs A c outs (blkT p.prec*blkT p.prec) HW.out HI.out HP.out hn1).mono ?_
 rintro e w3 ⟨rfl,G3,hW3,hx3⟩
 replace HW:=hid hW3
 replace HI:=hid (HI.out.nx hx3)
 replace B1:=HB1.out.keep hW3.keep id
 replace B2:=HB2.out.keep hW3.keep id
 replace B3:=HB3.out.keep hW3.keep id
 clear hW3 hx3
 go_wp2_with (first|(refine wpList_load_row rfl _ _ rfl _ rfl _ _ _ _ B1 Tryz.underlying63 rfl (by kernel_rfl) ?_)|(refine wpList_load_row rfl _ _ rfl _ rfl _ _ _ _ B2 Tryz.underlying29 rfl (by kernel_rfl) ?_)|(refine wpList_load_row rfl _ _ rfl _ rfl _ _ _ _ B3 Tryz.underlying31 rfl (by kernel_rfl) ?_))
 refine(list_any _ t m p cs (HP.out.row.keep0 HW.out.keep) HP.out.len HP.out.ok HP.out.n4 HP.out.pm HP.out.lay (HP.out.sub.ok HP.out.whole)).mono ?_
 rintro e w4 ⟨KA,kc,ks,rfl,hown,hko,hkl,hk4⟩
 have hx:=HW.out.callRo hk4
 have HT:=hid (show TlOk _ w1.heap.size (blkT p.prec*blkT p.prec) w4 t cs p A KA outs ks from⟨HI.out.nx hx.2,HW.out.ro (RdS.of_own hown) (fun a e=>own_blt hown e),hko⟩)
 replace HW:=hid (hx.1.nil 5 1)
 generalize roF G3 w3.heap.size w4.heap.size=G4 at*
 obtain⟨K,hK⟩: ∃K,ks.length=K:=⟨_,rfl⟩
 rw [hK]at hkl ⊢
 have HKM0:=tile_bound hkl HP.out.lay (by rw [HP.out.len];exact HP.out.n4) hlev
 obtain⟨M,hM⟩: ∃M,342000*(blkT p.prec*blkT p.prec)+40=M:=⟨_,rfl⟩
 rw [hM]at HKM0
 have HKM:=hid HKM0
 have hKb:K≤75000000:=by have h:=Nat.mul_le_mul_left K (show 40≤M by omega);omega
 have HMM:=hid hM
 have HKK:=hid hK
 have hb5:=blkT_le p.prec
 have HNB:=hid (show blkT p.prec*blkT p.prec≤5*5 from Nat.mul_le_mul hb5 hb5)
 clear hx hown hko hkl hk4 hK hM HKM0 HI B1 B2 B3 hb5
 generalize blkT p.prec*blkT p.prec=NBB at*
 go_wp2_with fail
 go_loopw [8,10] (fun l v wr=> ∃(i:Nat) (BA:Option Addr) (nb cb:Nat) (body:List Int) (G:Nat→Option Kd),i≤K∧v=.int .i64 i∧l=.slice BA nb cb∧Hid (nb≤i*M)∧Hid (Bytes body)∧Hid (Wk 91 G w1 [⟨5,1,BA,nb,cb,body.map (Value.int .u8)⟩] none wr)∧Hid (TlOk G w1.heap.size NBB wr t cs p A KA outs ks)) (fun _ v _=>K-(intOf v).toNat)
 case atStart=>exact⟨0,none,0,0,[],G4,by omega,rfl,rfl,hid (by omega),hid (fun _ h=>by cases h),HW,HT⟩
 case round=>
  clear HW HT
  obtain⟨i,BA,nb,cb,body,G,hi,rfl,rfl,HNM,HBY,HW,HT⟩:=hrel
  have hnbb:nb≤3000000000:=by
   have h1:=HNM.out
   have h2:i*M≤K*M:=Nat.mul_le_mul_right _ hi
   have h3:=HKM.out
   omega
  by_cases hiK:i<K
  · obtain⟨k,hk⟩: ∃k,ks[i]? =some k:=⟨_,List.getElem?_eq_getElem (by rw [HKK.out];exact hiK)⟩
    obtain⟨kb,ko,hKA,hkr⟩:=RdS.get (f:=Ky.cells) HT.out.ky.1 Ky.len (by rw [HKK.out];exact hiK) hk
    have HKR:=hid (show wr.rangeAt kb (ko+i*4) [.int .i64 k.lay,.int .i64 k.res,.int .i64 k.comp,.int .i64 k.prec]from hkr)
    have HKI:=hid (List.mem_of_getElem? hk)
    subst hKA
    clear hk hkr
    go_upto_region 9 with(first|(refine wpList_load_mid rfl 83 (.tmp 35) rfl _ _ rfl _ _ HKR.out Tryz.underlying83 rfl (by kernel_rfl) ?_)|(refine wpList_store_row rfl _ _ _ rfl wr.heap.size _ rfl rfl _ _ (Blk.new wr _ _) (by kernel_rfl) rfl (by simp [Value.oneCell']) ?_))
    rw [World.setRow_alloc_new]
    try simp only [NS]
    have hka:Keep (fun _=>False) wr (wr.alloc (.cells #[.int .i64 k.lay,.int .i64 k.res,.int .i64 k.comp,.int .i64 k.prec] 83)):=(Keep.refl _ wr).alloc _
    have hx:=HW.out.callRo hka
    have HXB:=hid (HW.out.roB (w':=wr.alloc (.cells #[.int .i64 k.lay,.int .i64 k.res,.int .i64 k.comp,.int .i64 k.prec] 83)) (Blk.new wr 83 #[.int .i64 k.lay,.int .i64 k.res,.int .i64 k.comp,.int .i64 k.prec]) (Nat.le_refl _))
    replace HW:=hid hx.1
    replace hx:=hx.2
    replace HT:=hid (HT.out.nx hx)
    generalize roF G wr.heap.size (wr.alloc (.cells #[.int .i64 k.lay,.int .i64 k.res,.int .i64 k.comp,.int .i64 k.prec] 83)).heap.size=G2 at*
    generalize wr.alloc (.cells #[.int .i64 k.lay,.int .i64 k.res,.int .i64 k.comp,.int .i64 k.prec] 83)=w2 at*
    generalize wr.heap.size=X at*
    clear hx hka HKR G
    have p10:w2.cell? ⟨w.heap.size+1+1,10,none⟩=some (.bool p.sop):=by have h:=(HB3.out.keep HW.out.keep id).cell 10;rw [HPC.out]at h;exact h
    go_upto_if 38 with fail
    go_cut [8] (fun v wx=> ∃(A:Option Addr) (n c:Nat) (body:List Int),v=.slice A n c∧Hid (n≤nb+6)∧Hid (Bytes body)∧Hid (Wk 91 G2 w1 [⟨5,1,A,n,c,body.map (Value.int .u8)⟩] none wx)∧Hid (Nx G2 w2 G2 wx))
    case first=>
     cases hs:p.sop with
     |false=>
      go_wp2_with fail
      go_meet
      exact⟨BA,nb,cb,body,rfl,hid (by omega),HBY,HW,hid Nx.refl⟩
     |true=>
      clear p10
      go_wp2_with fail
      refine(wk_put HW.out 0 rfl (by omega) 2 65425 (by omega) (by omega)).mono ?_
      rintro e w5 ⟨A5,c5,rfl,hW5,hx5⟩
      have HW5:=hid hW5
      have HX5:=hid hx5
      clear hW5 hx5
      go_wp2_with fail
      refine(wk_put HW5.out 0 rfl (by omega) 2 4 (by omega) (by omega)).mono ?_
      rintro e w6 ⟨A6,c6,rfl,hW6,hx6⟩
      have HW6:=hid hW6
      have HX6:=hid (HX5.out.trans hx6)
      clear hW6 hx6
      go_wp2_with fail
      refine(wk_put HW6.out 0 rfl (by omega) 2 _ (by omega) (by omega)).mono ?_
      rintro e w7 ⟨A7,c7,rfl,hW7,hx7⟩
      have HW7:=hid hW7
      have HX7:=hid (HX6.out.trans hx7)
      clear hW7 hx7
      go_wp2_with fail
      go_meet
      exact⟨A7,_,c7,_,rfl,hid (by omega),hid (((HBY.out.app (putB_bytes _ _)).app (putB_bytes _ _)).app (putB_bytes _ _)),HW7,HX7⟩
    case rest=>
     obtain⟨BA2,n2,cb2,body2,rfl,HN2,HBY2,HW',HNX⟩:=hcut
     replace HW:=HW'
     have hx:=HNX.out
     replace HT:=hid (HT.out.nx hx)
     replace HXB:=hid (HXB.out.nx hx)
     clear hx HW' HNX p10 HBY
     have hx:=HW.out.callF ((Keep.refl _ wc).drew)
     replace HW:=hid hx.1
     replace hx:=hx.2
     replace HT:=hid (HT.out.nx hx)
     replace HXB:=hid (HXB.out.nx hx)
     clear hx
     obtain⟨bA,oA,hb,ho,db,do',P,d,x,hA,hcl,hc1,hrl,hc2,hpl,hc3,hx1,hly⟩:=HT.out.heads HKI.out
     subst hA
     have x0:wc.drew.cell? ⟨X,0,none⟩=some (.int .i64 k.lay):=HXB.out.1.cell 0
     have x1:wc.drew.cell? ⟨X,1,none⟩=some (.int .i64 k.res):=HXB.out.1.cell 1
     have x2:wc.drew.cell? ⟨X,2,none⟩=some (.int .i64 k.comp):=HXB.out.1.cell 2
     have x3:wc.drew.cell? ⟨X,3,none⟩=some (.int .i64 k.prec):=HXB.out.1.cell 3
     have p6:wc.drew.cell? ⟨w.heap.size+1+1,6,none⟩=some (.int .i64 p.style):=by have h:=(HB3.out.keep HW.out.keep id).cell 6;rw [HPC.out]at h;exact h
     have p8:wc.drew.cell? ⟨w.heap.size+1+1,8,none⟩=some (.int .i64 p.lay):=by have h:=(HB3.out.keep HW.out.keep id).cell 8;rw [HPC.out]at h;exact h
     have hly4:=HP.out.lay
     have hly1:=HP.out.lay1
     have PK:=hid (pk_any G2 w1.heap.size wc.drew w1.heap.size x.A x.n x.c x.bs NBB (3*NBB) p.style p.lay k.lay HW.out.fits hx1.own hx1.bd hx1.n3 (by have:=HNB.out;omega) (Nat.mul_le_mul_right _ hx1.n3) (by have:=HNB.out;omega) (by omega) (by omega) (by omega))
     have hn2b:n2≤3000000006:=by have:=HN2.out;omega
     clear hx1 hly hly4 hly1
     go_upto_region 11 with fail
     refine At.start (L:=#[false,false,false,false,false,false,false,false,false,false,false,false,false,false,false,false,false,false,false,false,false,false,false,false,false,false]) (by kernel_rfl) rfl ?_
     refine AtP 0 46 ?_
     refine AtP 1 47 ?_
     refine AtL 2 48 Tryz.underlying3 ?_
     refine AtP 3 49 ?_
     refine AtP 4 50 ?_
     refine AtL 5 51 Tryz.underlying89 ?_
     refine AtP 6 52 ?_
     refine AtL 7 53 Tryz.underlying3 ?_
     refine AtP 8 54 ?_
     refine AtL 9 55 Tryz.underlying87 ?_
     refine AtP 10 56 ?_
     refine AtL 11 57 Tryz.underlying3 ?_
     refine AtP 12 58 ?_
     refine AtL 13 59 Tryz.underlying86 ?_
     refine AtP 14 60 ?_
     refine AtL 15 61 Tryz.underlying3 ?_
     refine AtP 16 62 ?_
     refine AtL 17 63 Tryz.underlying3 ?_
     refine AtP 18 64 ?_
     refine AtL 19 65 Tryz.underlying3 ?_
     refine AtC 20 fun K hK=>?_
     go_simp
     refine PK.out.mono ?_
     rintro e w5 ⟨A5,n5,c5,z5,B5,k5,d5,y5,rfl,ho5,hz5,hn5,ho6,hy6,hk6,hF5,hk5⟩
     have hx:=HW.out.kindsRo hk5 (fun j hj=>KT.some hj) hF5
     have R5:=hid (HW.out.ro (RdS.of_own ho5) (fun a e=>own_blt ho5 e))
     have R6:=hid (HW.out.ro (RdS.of_own ho6) (fun a e=>own_blt ho6 e))
     have HY5:=hid (And.intro hz5 hy6)
     have HLN:=hid (And.intro hn5 hk6)
     replace HW:=hid hx.1
     replace hx:=hx.2
     replace HT:=hid (HT.out.nx hx)
     clear ho5 ho6 hz5 hy6 hF5 hk5 hx
     refine hK _ _ all_nil ?_
     clear hK K
     try simp only [NS]
     refine AtP 21 45 ?_
     refine AtP 22 67 ?_
     refine AtP 23 68 ?_
     refine AtP 24 12 ?_
     refine AtP 25 13 ?_
     refine At.done (by kernel_rfl) ?_
     generalize roF G2 wc.drew.heap.size w5.heap.size=G5 at*
     have hn5b:n5≤2000000:=by have:=HNB.out;omega
     have hk5b:k5≤10000000:=by have:=HNB.out;omega
     clear x0 x1 x2 x3 p6 p8 PK HXB hc1 hc2 hc3 hcl hrl hpl hn5 hk6
     have HOW:=hid (show w5.ownsRow w1.heap.size 5 1 (.slice BA2 n2 cb2) n2 (body2.map (Value.int .u8))from HW.out.at_ 0 rfl)
     have hbw:w1.heap.size≤w5.heap.size:=HW.out.keep.size
     go_upto_region 13 with(
      at_builtin
      go_must (refine wpList_append_manyA _ rfl (.tmp 69) (.tmp 70) 25 rfl w1.heap.size 5 i0 _ 1 1 Tryz.underlying25 hi0 hz0 hz1 hz2 rfl (by omega) HOW.out rfl R5.out.1 rfl (oneCell_ints _ _) (by simp only [maxLen];omega) (by omega) hbw ?_)
      intro A7 c7 w7 hown7 hk7 hat7
      have hx:=HW.out.row 0 (u':=⟨5,1,A7,n2+n5,c7,(body2++z5).map (Value.int .u8)⟩) rfl (by rw [List.map_append];exact hown7) hk7 hat7
      replace HW:=hid hx.1
      replace hx:=hx.2
      replace HT:=hid (HT.out.nx hx)
      replace R6:=hid (R6.out.nx hx)
      clear hx hown7 hk7 hat7 R5)
     have p11:w7.cell? ⟨w.heap.size+1+1,11,none⟩=some (.bool p.eph):=by have h:=(HB3.out.keep HW.out.keep id).cell 11;rw [HPC.out]at h;exact h
     go_upto_if 73 with fail
     go_cut [8] (fun v wx=> ∃(A:Option Addr) (n c:Nat) (body:List Int),v=.slice A n c∧Hid (n≤n2+n5+2)∧Hid (Bytes body)∧Hid (Wk 91 G5 w1 [⟨5,1,A,n,c,body.map (Value.int .u8)⟩] none wx)∧Hid (Nx G5 w7 G5 wx))
     case first=>
      cases hs:p.eph with
      |false=>
       go_wp2_with fail
       go_meet
       exact⟨A7,n2+n5,c7,_,rfl,hid (by omega),hid (HBY2.out.app HY5.out.1),HW,hid Nx.refl⟩
      |true=>
       clear p11
       go_wp2_with fail
       refine(wk_put HW.out 0 rfl (by omega) 2 65426 (by omega) (by omega)).mono ?_
       rintro e w8 ⟨A8,c8,rfl,hW8,hx8⟩
       have HW8:=hid hW8
       have HX8:=hid hx8
       clear hW8 hx8
       go_wp2_with fail
       go_meet
       exact⟨A8,_,c8,_,rfl,hid (by omega),hid ((HBY2.out.app HY5.out.1).app (putB_bytes _ _)),HW8,HX8⟩
     case rest=>
      clear HW p11
      obtain⟨A9,n9,c9,body9,rfl,HN9,HBY9,HW,HNX⟩:=hcut
      have hx:=HNX.out
      replace HT:=hid (HT.out.nx hx)
      replace R6:=hid (R6.out.nx hx)
      clear hx HNX
      have HOW:=hid (show wc.ownsRow w1.heap.size 5 1 (.slice A9 n9 c9) n9 (body9.map (Value.int .u8))from HW.out.at_ 0 rfl)
      have hbw:w1.heap.size≤wc.heap.size:=HW.out.keep.size
      have hn9:n9≤4000000000:=by have:=HN9.out;omega
      go_wp2_with (
       at_builtin
       go_must (refine wpList_append_manyA _ rfl (.tmp 76) (.tmp 77) 25 rfl w1.heap.size 5 i0 _ 1 1 Tryz.underlying25 hi0 hz0 hz1 hz2 rfl (by omega) HOW.out rfl R6.out.1 rfl (oneCell_ints _ _) (by simp only [maxLen];omega) (by omega) hbw ?_)
       intro A10 c10 w10 hown10 hk10 hat10
       have hx:=HW.out.row 0 (u':=⟨5,1,A10,n9+k5,c10,(body9++y5).map (Value.int .u8)⟩) rfl (by rw [List.map_append];exact hown10) hk10 hat10
       replace HW:=hid hx.1
       replace hx:=hx.2
       replace HT:=hid (HT.out.nx hx)
       clear hx hown10 hk10 hat10 R6)
      go_roundw
      case rel=>exact⟨i+1,A10,n9+k5,c10,body9++y5,G5,by omega,by go_num,rfl,hid (by
       have h1:=HN9.out
       have h2:=HN2.out
       have h3:=HNM.out
       obtain⟨h4,h5⟩:=HLN.out
       have h6:=HMM.out
       rw [Nat.add_mul,Nat.one_mul]
       omega),hid (HBY9.out.app HY5.out.2),HW,HT⟩
      case measure=>simp [intOf]<;>omega
  · have HZ:=hid (show Til18P w (.returned (.slice BA nb cb)) wr from⟨BA,nb,cb,body,rfl,⟨own_mono (show wr.ownsRow w1.heap.size 5 1 (.slice BA nb cb) nb (body.map (Value.int .u8))from HW.out.at_ 0 rfl) HK0.out.size,HK0.out.trans HW.out.keep (fun _ _ h=>h),HBY.out,Nat.le_refl _,Nat.le_trans HK0.out.size HW.out.keep.size⟩,hnbb⟩)
    go_wp2_with fail
    go_ret
    exact HZ.out
def tileB (i:Nat) (ys:List Int):List Int:=putB 65424 2++(putB 10 2++(putB (i:Int) 2++(putB ((ys.length:Int)+14) 4++(putB 0 1++(putB 1 1++(putB 65427 2++ys))))))
def tilesB :Nat→List (List Int)→List Int
 |_,[]=>[]
 |i,y::r=>tileB i y++tilesB (i+1) r
theorem tilesB_snoc : ∀(l:List (List Int)) (i:Nat) (y:List Int),tilesB i (l++[y])=tilesB i l++tileB (i+l.length) y
 |[],i,y=>by show tileB i y++[]=[]++tileB (i+0) y;simp
 |a::l,i,y=>by
  show tileB i a++tilesB (i+1) (l++[y])=(tileB i a++tilesB (i+1) l)++_
  rw [tilesB_snoc l (i+1) y,List.append_assoc,show i+1+l.length=i+(a::l).length by simp;omega]
def EncP (w:World) (m:Im) (p:Pm) (rem:List Int) (nt:Nat) (e:Ending) (w':World):Prop:=
 ∃(A:Option Addr) (n c:Nat) (x1 x2 x3:List Int) (tl:List (List Int)),e=.returned (.tuple #[.slice A n c,.int .i64 0])∧By w w.heap.size A n c (mainB x1 x2 x3 rem++tilesB 0 tl++putB 65497 2) w'∧x1.length=36+3*m.n∧x2.length=11+p.lev∧x3.length=2+3*p.lev∧tl.length=nt∧(∀ y∈tl,Bytes y∧y.length≤3000000000)∧n≤50000000000
theorem enc18_any (w:World) (m:Im) (p:Pm) (cs:List Cm) (nx ny:Nat) (RA:Option Addr) (rn rc:Nat) (rem:List Int) (hP:Pict w m p cs nx ny) (hr:Rd w RA rn (rem.map (Value.int .u8))) (hrb:Bytes rem) (hrn:rn≤1000):
 Calls Tryz.prog 9 #[.agg m.cells,.agg p.cells,.slice RA rn rc] w (EncP w m p rem (nx*ny)):=by
 obtain⟨i0,hi0,hz0,hz1,hz2⟩:=info_parts info_u8
 have HP:=hid hP
 have HR:=hid hr
 have HRB:=hid hrb
 have hox:=hP.ox
 have hwo:=hP.pic.whole
 have hx64:m.x≤64:=by have:=hwo.x1;show m.whole.x1≤64;omega
 have hy64:m.y≤64:=by have:=hwo.y1;show m.whole.y1≤64;omega
 have CHK:=hid (fun (w':World) (k:Keep (fun _=>False) w w')=>check_any w' m p cs (hP.pic.row.keep0 k) hP.pic.len (fun c hc=>(hP.all c hc).keepF k) hP.ox hP.x hx64 hP.oy hP.y hy64 hP.pic.n4 (frame_any _ m p nx ny hP.pic.pm hP.ox hP.x hx64 hP.oy hP.y hy64 hP.tx hP.ty hP.cx hP.cy hP.n16 cs hP.pic.len hP.rct (hP.pic.row.keep0 ((k.alloc _).alloc _)) hP.n1 hP.pic.n4 hP.pic.ok))
 have MAI:=hid (fun (w':World) (k:Keep (fun _=>False) w w')=>main_any w' m p RA rn rc rem cs (hP.pic.row.keep0 k) hP.pic.len hP.pic.ok hP.pic.d10 hP.pic.n4 hP.pic.pm.lev (hr.keepF k) hrb hrn)
 have TIL:=hid (fun (w':World)=>tiles_any w' m p nx ny hP.ox hP.x hx64 hP.oy hP.y hy64 hP.tx hP.pic.pm.tx hP.ty hP.pic.pm.ty hP.cx hP.cy)
 have T18:=hid (fun (w':World) (k:Keep (fun _=>False) w w') (r:Rc) (hr:TileOk m r)=>tile18_any w' r m p cs ((hP.pic.tile hr.sub).keepF k) hP.n1)
 have HB1:=hid ((Blk.new w 29 m.cells).alloc (.cells p.cells 31))
 have HB2:=hid (Blk.new1 w (.cells m.cells 29) 31 p.cells)
 have HK0:=hid (((Keep.refl (fun _=>False) w).alloc (.cells m.cells 29)).alloc (.cells p.cells 31))
 obtain⟨nt,hnt⟩: ∃nt,nx*ny=nt:=⟨_,rfl⟩
 have HN16:=hid (show nt≤16 from by rw [← hnt];exact hP.n16)
 rw [hnt]at TIL
 rw [hnt]
 clear hP hr hrb hnt hwo hox
 go_enter Tryz.func9,Tryz.ntmps9
 go_upto_region 1 with fail
 generalize (w.alloc (.cells m.cells 29)).alloc (.cells p.cells 31)=w1 at*
 have W0:=(Wk.start w 91).callRo HK0.out
 have HW:=hid W0.1
 have R1:=hid ((Wk.start w 91).roB HB1.out (Nat.le_refl _))
 have R2:=hid ((Wk.start w 91).roB HB2.out (Nat.le_succ _))
 generalize roF (fun _=>none) w.heap.size w1.heap.size=G1 at*
 clear W0
 go_wp2_with (first|(refine wpList_load_row rfl _ _ rfl _ rfl _ _ _ _ HB1.out Tryz.underlying29 rfl (by kernel_rfl) ?_)|(refine wpList_load_row rfl _ _ rfl _ rfl _ _ _ _ HB2.out Tryz.underlying31 rfl (by kernel_rfl) ?_))
 refine(CHK.out _ HK0.out).mono ?_
 rintro e w2 ⟨rfl,hk2⟩
 have hx:=HW.out.callF hk2
 replace HW:=hid hx.1
 replace R1:=hid (R1.out.nx hx.2)
 replace R2:=hid (R2.out.nx hx.2)
 have HB1':=hid (show Blk w2 w.heap.size 29 #[.int .i64 m.x,.int .i64 m.y,.int .i64 m.ox,.int .i64 m.oy,.slice m.A m.n m.c]from R1.out.1)
 have HB2':=hid (show Blk w2 (w.heap.size+1) 31 #[.int .i64 p.tx,.int .i64 p.ty,.int .i64 p.lev,.int .i64 p.cbw,.int .i64 p.cbh,.int .i64 p.prec,.int .i64 p.style,.int .i64 p.order,.int .i64 p.lay,.bool p.rct,.bool p.sop,.bool p.eph]from R2.out.1)
 clear hk2 hx HB1 HB2 HK0 CHK
 have hdd:decide ((1000:Int)<(rn:Int))=false:=by simp;omega
 go_wp2_with (first|(refine wpList_load_row rfl _ _ rfl _ rfl _ _ _ _ HB1'.out Tryz.underlying29 rfl (by kernel_rfl) ?_)|(refine wpList_load_row rfl _ _ rfl _ rfl _ _ _ _ HB2'.out Tryz.underlying31 rfl (by kernel_rfl) ?_))
 refine(MAI.out _ HW.out.keep).mono ?_
 rintro e w3 ⟨A,n,c,x1,x2,x3,rfl,hBy,h1,h2,h3,hn⟩
 have HL:=hid (And.intro h1 (And.intro h2 h3))
 have hx:=HW.out.one hBy.keep hBy.own
 replace HW:=hid hx.1
 have HB1:=hid (R1.out.nx hx.2).1
 have HB2:=hid (R2.out.nx hx.2).1
 replace R1:=hid (R1.out.nx hx.2)
 replace R2:=hid (R2.out.nx hx.2)
 have HBY:=hid hBy.bytes
 clear hBy h1 h2 h3 HB1' HB2' MAI hx
 go_wp2_with (first|(refine wpList_load_row rfl _ _ rfl _ rfl _ _ _ _ HB1.out Tryz.underlying29 rfl (by kernel_rfl) ?_)|(refine wpList_load_row rfl _ _ rfl _ rfl _ _ _ _ HB2.out Tryz.underlying31 rfl (by kernel_rfl) ?_))
 refine(TIL.out _).mono ?_
 rintro e w4 ⟨TA,tc,rs,rfl,htr,_,hrl,hrok,hta,hk4⟩
 have hx:=HW.out.callRo hk4
 have HT:=hid (fun (h0:0<nt)=>HW.out.ro htr (fun a e=>⟨hta a e,htr.lt (by omega) h0 a e⟩))
 have HRS:=hid (And.intro hrl hrok)
 have HB1':=hid (R1.out.nx hx.2)
 have HB2':=hid (R2.out.nx hx.2)
 replace HW:=hid hx.1
 generalize roF G1 w3.heap.size w4.heap.size=G4 at*
 have HBW:=hid (show∀w',Keep (fun _=>False) w w'→True from fun _ _=>trivial)
 obtain⟨MB,hMB⟩: ∃MB,mainB x1 x2 x3 rem=MB:=⟨_,rfl⟩
 rw [hMB]at HW HBY
 have HMB:=hid hMB
 have hn16:=HN16.out
 clear hx htr hrl hrok hta hk4 TIL hMB HB1 HB2 HBW R1 R2
 go_wp2_with fail
 have HW0:Hid (Wk 91 G4 w [⟨5,1,A,n,c,(MB++tilesB 0 []).map (Value.int .u8)⟩] none w4):=hid (by
  have h:=HW.out
  rw [show MB++tilesB 0 []=MB by show MB++[]=MB;simp]
  exact h)
 clear HW
 go_loopw [9,11] (fun l v wr=> ∃(i:Nat) (A:Option Addr) (n c:Nat) (tl:List (List Int)) (G:Nat→Option Kd),i≤nt∧v=.int .i64 i∧l=.slice A n c∧Hid (n≤2000+i*3000000020)∧Hid (tl.length=i∧(∀ y∈tl,Bytes y∧y.length≤3000000000)∧Bytes (MB++tilesB 0 tl))∧Hid (Wk 91 G w [⟨5,1,A,n,c,(MB++tilesB 0 tl).map (Value.int .u8)⟩] none wr)∧Hid (0<nt→Ro G wr TA nt 4 (rcs rs))∧Hid (RoB G wr w.heap.size 29 m.cells)∧Hid (RoB G wr (w.heap.size+1) 31 p.cells)) (fun _ v _=>nt-(intOf v).toNat)
 case atStart=>exact⟨0,A,n,c,[],G4,by omega,rfl,rfl,hid (by omega),hid ⟨rfl,(fun _ h=>by cases h),by show Bytes (MB++[]);rw [List.append_nil];exact HBY.out⟩,HW0,HT,HB1',HB2'⟩
 case round=>
  clear HW0 HT HB1' HB2'
  clear hn
  clear G4
  obtain⟨i,A,n,c,tl,G,hi,rfl,rfl,HNN,HTL,HW,HT,HB1,HB2⟩:=hrel
  have hnb:n≤50000000000:=by have:=HNN.out;omega
  by_cases hin:i<nt
  · obtain⟨r,hr⟩: ∃r,rs[i]? =some r:=⟨_,List.getElem?_eq_getElem (by rw [HRS.out.1];exact hin)⟩
    obtain⟨tb,to',hTA,htr⟩:=RdS.get (f:=fun r:Rc=>r.cells.toList) (HT.out (by omega)).1 (fun _=>rfl) hin hr
    have hro:=HRS.out.2 r (List.mem_of_getElem? hr)
    have T1:=hid (fun (w':World) (k:Keep (fun _=>False) w w')=>T18.out w' k r hro)
    have dr:wr.drew.rangeAt tb (to'+i*4) r.cells.toList:=htr
    have dm:wr.drew.rangeAt w.heap.size 0 m.cells.toList:=HB1.out.1.drew.range
    have dp:wr.drew.rangeAt (w.heap.size+1) 0 p.cells.toList:=HB2.out.1.drew.range
    have hx:=HW.out.callF ((Keep.refl _ wr).drew)
    replace HW:=hid hx.1
    replace hx:=hx.2
    replace HT:=hid (fun h0=>(HT.out h0).nx hx)
    replace HB1:=hid (HB1.out.nx hx)
    replace HB2:=hid (HB2.out.nx hx)
    subst hTA
    clear hr htr hro hx
    go_upto_region 11 with fail
    refine At.start (L:=#[false,false,false,false,false,false,false,false]) (by kernel_rfl) rfl ?_
    refine AtP 0 36 ?_
    refine AtP 1 37 ?_
    refine AtP 2 38 ?_
    first|refine AtL 3 39 Tryz.underlying63 ?_|refine AtR 3 39 Tryz.underlying63 ?_
    first|refine AtL 4 40 Tryz.underlying29 ?_|refine AtR 4 40 Tryz.underlying29 ?_
    first|refine AtL 5 41 Tryz.underlying31 ?_|refine AtR 5 41 Tryz.underlying31 ?_
    refine AtC 6 fun K hK=>?_
    go_simp
    refine(T1.out _ HW.out.keep).mono ?_
    rintro e w5 ⟨Y,ny',cy,ys,rfl,hby,hny⟩
    have hx:=HW.out.callRo hby.keep
    have RY:=hid (HW.out.ro (RdS.of_own hby.own) (fun a e=>own_blt hby.own e))
    have hyl:=hby.len
    have HYB:=hid (And.intro hby.bytes hyl)
    replace HW:=hid hx.1
    replace hx:=hx.2
    replace HT:=hid (fun h0=>(HT.out h0).nx hx)
    replace HB1:=hid (HB1.out.nx hx)
    replace HB2:=hid (HB2.out.nx hx)
    clear hx hby hyl
    refine hK _ _ all_nil ?_
    clear hK K
    try simp only [NS]
    refine AtP 7 12 ?_
    refine At.done (by kernel_rfl) ?_
    generalize roF G wr.drew.heap.size w5.heap.size=G5 at*
    clear dr dm dp T1 G
    go_wp2_with fail
    refine(wk_put HW.out 0 rfl (by omega) 2 65424 (by omega) (by omega)).mono ?_
    rintro e w6 ⟨A6,c6,rfl,hW',hx⟩
    replace HW:=hid hW'
    replace HT:=hid (fun h0=>(HT.out h0).nx hx)
    replace HB1:=hid (HB1.out.nx hx)
    replace HB2:=hid (HB2.out.nx hx)
    replace RY:=hid (RY.out.nx hx)
    clear hW' hx
    go_wp2_with fail
    refine(wk_put HW.out 0 rfl (by omega) 2 10 (by omega) (by omega)).mono ?_
    rintro e w7 ⟨A7,c7,rfl,hW',hx⟩
    replace HW:=hid hW'
    replace HT:=hid (fun h0=>(HT.out h0).nx hx)
    replace HB1:=hid (HB1.out.nx hx)
    replace HB2:=hid (HB2.out.nx hx)
    replace RY:=hid (RY.out.nx hx)
    clear hW' hx
    go_wp2_with fail
    refine(wk_put HW.out 0 rfl (by omega) 2 i (by omega) (by omega)).mono ?_
    rintro e w8 ⟨A8,c8,rfl,hW',hx⟩
    replace HW:=hid hW'
    replace HT:=hid (fun h0=>(HT.out h0).nx hx)
    replace HB1:=hid (HB1.out.nx hx)
    replace HB2:=hid (HB2.out.nx hx)
    replace RY:=hid (RY.out.nx hx)
    clear hW' hx
    go_wp2_with fail
    have hwl:IntKind.i64.wrap ((ny':Int)+14)=(ny':Int)+14:=IntWalk.i64_in _ (by omega)
    refine(wk_put HW.out 0 rfl (by omega) 4 ((ny':Int)+14) (by omega) (by omega)).mono ?_
    rintro e w9 ⟨A9,c9,rfl,hW',hx⟩
    replace HW:=hid hW'
    replace HT:=hid (fun h0=>(HT.out h0).nx hx)
    replace HB1:=hid (HB1.out.nx hx)
    replace HB2:=hid (HB2.out.nx hx)
    replace RY:=hid (RY.out.nx hx)
    clear hW' hx
    go_wp2_with fail
    refine(wk_put HW.out 0 rfl (by omega) 1 0 (by omega) (by omega)).mono ?_
    rintro e w10 ⟨A10,c10,rfl,hW',hx⟩
    replace HW:=hid hW'
    replace HT:=hid (fun h0=>(HT.out h0).nx hx)
    replace HB1:=hid (HB1.out.nx hx)
    replace HB2:=hid (HB2.out.nx hx)
    replace RY:=hid (RY.out.nx hx)
    clear hW' hx
    go_wp2_with fail
    refine(wk_put HW.out 0 rfl (by omega) 1 1 (by omega) (by omega)).mono ?_
    rintro e w11 ⟨A11,c11,rfl,hW',hx⟩
    replace HW:=hid hW'
    replace HT:=hid (fun h0=>(HT.out h0).nx hx)
    replace HB1:=hid (HB1.out.nx hx)
    replace HB2:=hid (HB2.out.nx hx)
    replace RY:=hid (RY.out.nx hx)
    clear hW' hx
    go_wp2_with fail
    refine(wk_put HW.out 0 rfl (by omega) 2 65427 (by omega) (by omega)).mono ?_
    rintro e w12 ⟨A12,c12,rfl,hW',hx⟩
    replace HW:=hid hW'
    replace HT:=hid (fun h0=>(HT.out h0).nx hx)
    replace HB1:=hid (HB1.out.nx hx)
    replace HB2:=hid (HB2.out.nx hx)
    replace RY:=hid (RY.out.nx hx)
    clear hW' hx
    have HOW:=hid (show w12.ownsRow w.heap.size 5 1 (.slice A12 (n+2+2+2+4+1+1+2) c12) (n+2+2+2+4+1+1+2) ((MB++tilesB 0 tl++putB 65424 2++putB 10 2++putB (i:Int) 2++putB ((ny':Int)+14) 4++putB 0 1++putB 1 1++putB 65427 2).map (Value.int .u8))from HW.out.at_ 0 rfl)
    have hbw:w.heap.size≤w12.heap.size:=HW.out.keep.size
    go_wp2_with (
     at_builtin
     go_must (refine wpList_append_manyA _ rfl (.tmp 56) (.tmp 57) 25 rfl w.heap.size 5 i0 _ 1 1 Tryz.underlying25 hi0 hz0 hz1 hz2 rfl (by omega) HOW.out rfl RY.out.1 rfl (oneCell_ints _ _) (by simp only [maxLen];omega) (by omega) hbw ?_)
     intro A13 c13 w13 hown13 hk13 hat13
     have hx:=HW.out.row 0 (u':=⟨5,1,A13,n+2+2+2+4+1+1+2+ny',c13,(MB++tilesB 0 (tl++[ys])).map (Value.int .u8)⟩) rfl (by
      have e:MB++tilesB 0 (tl++[ys])=(MB++tilesB 0 tl++putB 65424 2++putB 10 2++putB (i:Int) 2++putB ((ny':Int)+14) 4++putB 0 1++putB 1 1++putB 65427 2)++ys:=by
       rw [tilesB_snoc,Nat.zero_add,HTL.out.1]
       unfold tileB
       rw [HYB.out.2]
       simp only [List.append_assoc]
      rw [e,List.map_append]
      exact hown13) hk13 hat13
     replace HW:=hid hx.1
     replace hx:=hx.2
     replace HT:=hid (fun h0=>(HT.out h0).nx hx)
     replace HB1:=hid (HB1.out.nx hx)
     replace HB2:=hid (HB2.out.nx hx)
     clear hx hown13 hk13 hat13 HOW RY)
    go_roundw
    case rel=>exact⟨i+1,A13,_,c13,tl++[ys],G5,by omega,by go_num,rfl,hid (by have:=HNN.out;omega),hid ⟨by rw [List.length_append,HTL.out.1];rfl,fun y hy=>by
     rcases List.mem_append.1 hy with h|h
     · exact HTL.out.2.1 y h
     · rw [List.mem_singleton]at h
       subst h
       exact⟨HYB.out.1,by rw [HYB.out.2];exact hny⟩,by
     rw [tilesB_snoc,←List.append_assoc]
     refine HTL.out.2.2.app ?_
     unfold tileB
     exact(putB_bytes _ _).app ((putB_bytes _ _).app ((putB_bytes _ _).app ((putB_bytes _ _).app ((putB_bytes _ _).app ((putB_bytes _ _).app ((putB_bytes _ _).app HYB.out.1))))))⟩,HW,HT,HB1,HB2⟩
    case measure=>simp [intOf]<;>omega
  · obtain rfl:i=nt:=by omega
    go_wp2_with fail
    refine(wk_put HW.out 0 rfl (by omega) 2 65497 (by omega) (by omega)).mono ?_
    rintro e w6 ⟨A6,c6,rfl,hW6,_⟩
    have HZ:=hid (show EncP w m p rem i (.returned (.tuple #[.slice A6 (n+2) c6,.int .i64 0])) w6 from
     ⟨A6,n+2,c6,x1,x2,x3,tl,rfl,⟨by rw [HMB.out];exact hW6.at_ 0 rfl,hW6.keep,by rw [HMB.out];exact HTL.out.2.2.app (putB_bytes _ _),Nat.le_refl _,hW6.keep.size⟩,HL.out.1,HL.out.2.1,HL.out.2.2,HTL.out.1,HTL.out.2.1,by have:=HNN.out;omega⟩)
    clear hW6
    go_wp2_with fail
    exact bodyPost_ret (v:=.tuple #[_,_]) (by simp [results,Tryz.results9,go_sem]<;>exact⟨rfl,rfl⟩) rfl HZ.out
theorem Pict.keepF {w w':World} {m:Im} {p:Pm} {cs:List Cm} {nx ny:Nat} (h:Pict w m p cs nx ny) (k:Keep (fun _=>False) w w'):Pict w' m p cs nx ny:=
 ⟨h.pic.keepF k,fun c hc=>(h.all c hc).keepF k,h.ox,h.x,h.oy,h.y,h.tx,h.ty,h.cx,h.cy,h.n16,h.rct,h.n1⟩
theorem make_law (w:World) (f:Fm) (side:Nat) (hs1:1≤side) (hs12:side≤12) (hf:FmOk w f):
 Calls Tryz.prog 8 #[.agg f.cells,.int .i64 side] w (MakeL w):=by
 refine(make_any w f side hs1 hs12 hf).mono ?_
 rintro e w' ⟨m,p,cs,nx,ny,rfl,hP,h6,hk⟩
 refine⟨m,p,nx,ny,rfl,hk,Nat.zero_le _,Nat.zero_le _,fun w2 RA rn rc rem k2 hr hb hrn=>?_⟩
 refine(enc18_any w2 m p cs nx ny RA rn rc rem (hP.keepF k2) hr hb hrn).mono ?_
 rintro e w3 ⟨A,n,c,x1,x2,x3,tl,rfl,hBy,l1,l2,l3,htl,hy,hn⟩
 exact⟨A,n,c,_,rfl,hBy.keep,hBy.own,hBy.bytes,hn,by unfold mainB;simp only [List.length_append,putB_length];omega⟩
end Go.Proofs.YthfogcgdijmaoaaGreat
