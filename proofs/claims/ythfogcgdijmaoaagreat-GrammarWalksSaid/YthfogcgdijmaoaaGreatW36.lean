/-
  Part 36 of the proof: LawWalks. Conditions: those of the statements.
-/
import Derived.Test.YthfogcgdijmaoaaGreatW2
import Derived.Test.YthfogcgdijmaoaaGreatW7
import Derived.Test.YthfogcgdijmaoaaGreatW31
import Derived.Test.YthfogcgdijmaoaaGreatW34
import Derived.Test.YthfogcgdijmaoaaGreatW35
import Derived.Deep.DeepCutAuto
set_option maxRecDepth 100000
set_option maxHeartbeats 16000000
set_option linter.unusedVariables false
set_option linter.unusedSimpArgs false
namespace Go.Proofs.YthfogcgdijmaoaaGreat
open Go.RowKit
theorem grammarWalks_walk (f:Fm) (AT:Option Addr) (na ca:Nat) (ats:List Int) (BY:Option Addr) (nb cb:Nat) (bys:List Int) (ct:Int) (RW:Option Addr) (nr cr:Nat) (raws:List Int) (pl:Int) (w:World) (hf:FmOk w f) (ha:Arg .i64 8 w AT na ca ats) (hb:Arg .u8 1 w BY nb cb bys) (hc:(Lit.int .i64 ct).wf=true) (hr:Arg .u8 1 w RW nr cr raws) (hp:(Lit.int .i64 pl).wf=true):
 Calls Tryz.prog 3 #[.agg f.cells,.slice AT na ca,.slice BY nb cb,.int .i64 ct,.slice RW nr cr,.int .i64 pl] w fun e w'=>e=.returned (.bool true)∧Below w.heap.size w w':=by
 obtain⟨hx0,hx1⟩:=wf_i64 hc
 obtain⟨hy0,hy1⟩:=wf_i64 hp
 have HRA:=hid ha.rd
 have HWA:=hid ha.wf
 have HLA:=hid ha.len
 have HRB:=hid hb.rd
 have HBB:=hid hb.bytes
 have HLB:=hid hb.len
 have HRW:=hid hr.rd
 have HBW:=hid hr.bytes
 have hnr:nr≤cr:=hr.cap
 have hcr:nr≤9223372036854775807:=by have:=hr.cap;have:=hr.reach;omega
 have hca:na≤9223372036854775807:=by have:=ha.cap;have:=ha.reach;omega
 have hcb:nb≤9223372036854775807:=by have:=hb.cap;have:=hb.reach;omega
 clear ha hb hc hr hp
 go_enter Tryz.func3,Tryz.ntmps3
 go_wp2_with fail
 refine(known_any _).mono ?_
 rintro e w1 ⟨rfl,hk1⟩
 have HK1:=hid (((Keep.refl (fun _=>False) w).alloc (.cells f.cells 24)).trans hk1 (fun _ _ h=>h))
 have HB1:=hid ((Blk.new w 24 f.cells).keep hk1 id)
 have HF1:=hid (hf.keepF HK1.out)
 clear hk1
 by_cases hn:200<nr
 · have hd:decide ((200:Int)<nr)=true:=by simp;omega
   go_wp2_with fail
   go_ret
   exact⟨rfl,HK1.out.below (Nat.le_refl _) (fun _ h=>h.elim)⟩
 · have hd:decide ((200:Int)<nr)=false:=by simp;omega
   have hn200:nr≤200:=by omega
   clear hn
   go_wp2_with (refine wpList_load_row rfl _ _ rfl _ rfl _ _ _ _ HB1.out Tryz.underlying24 rfl (by kernel_rfl) ?_)
   refine(make_law w1 f 8 (by omega) (by omega) HF1.out).mono ?_
   rintro e w2 ⟨m,p,nx,ny,rfl,hk2,hm,hn,hE⟩
   have HK2:=hid (HK1.out.trans hk2 (fun _ _ h=>h))
   have HM:=hid hm
   have HN:=hid hn
   have HE:=hid hE
   have HI0:=hid ((Blk.new w2 29 #[.int .i64 0,.int .i64 0,.int .i64 0,.int .i64 0,.slice none 0 0]).alloc (.cells #[.int .i64 0,.int .i64 0,.int .i64 0,.int .i64 0,.int .i64 0,.int .i64 0,.int .i64 0,.int .i64 0,.int .i64 0,.bool false,.bool false,.bool false] 31))
   have HP0:=hid (Blk.new1 w2 (.cells #[.int .i64 0,.int .i64 0,.int .i64 0,.int .i64 0,.slice none 0 0] 29) 31 #[.int .i64 0,.int .i64 0,.int .i64 0,.int .i64 0,.int .i64 0,.int .i64 0,.int .i64 0,.int .i64 0,.int .i64 0,.bool false,.bool false,.bool false])
   clear hk2 hm hn hE HK1 HB1 HF1
   go_wp2_with (refine wpList_store_in (t:=29) (cs:=#[.int .i64 0,.int .i64 0,.int .i64 0,.int .i64 0,.slice none 0 0]) (g:=w2.heap.size) ?_ rfl 29 (.tmp 13) (.tmp 36) rfl 0 m.cells rfl rfl ?_ ?_ ?_ ?_)
   · exact HI0.out
   · show 0+5≤5;omega
   · kernel_rfl
   · simp [Value.oneCell',Im.cells]
   intro w3 hb3 hk3
   have HI3:=hid (show Blk w3 w2.heap.size 29 m.cells from blk_all hb3 rfl)
   have HP3:=hid (HP0.out.keep hk3 (show¬(w2.heap.size+1=w2.heap.size) by omega))
   have HK3:=hid ((((Keep.refl (fun _=>False) w2).alloc _).alloc _).new hk3 (fun j e=>by rw [show j=_ from e];exact Nat.le_refl _))
   clear hb3 hk3 HI0 HP0
   try simp only [NS]
   go_wp2_with (refine wpList_store_in (t:=31) (cs:=#[.int .i64 0,.int .i64 0,.int .i64 0,.int .i64 0,.int .i64 0,.int .i64 0,.int .i64 0,.int .i64 0,.int .i64 0,.bool false,.bool false,.bool false]) (g:=w2.heap.size+1) ?_ rfl 31 (.tmp 14) (.tmp 37) rfl 0 p.cells rfl rfl ?_ ?_ ?_ ?_)
   · exact HP3.out
   · show 0+12≤12;omega
   · kernel_rfl
   · simp [Value.oneCell',Pm.cells]
   intro w4 hb4 hk4
   have HP4:=hid (show Blk w4 (w2.heap.size+1) 31 p.cells from blk_all hb4 rfl)
   have HI4:=hid (HI3.out.keep hk4 (show¬(w2.heap.size=w2.heap.size+1) by omega))
   have HK4:=hid (HK3.out.new hk4 (fun j e=>by rw [show j=_ from e];omega))
   clear hb4 hk4 HI3 HP3 HK3
   try simp only [NS]
   go_wp2_with (first|(refine wpList_load_row rfl _ _ rfl _ rfl _ _ _ _ HI4.out Tryz.underlying29 rfl (by kernel_rfl) ?_)|(refine wpList_load_row rfl _ _ rfl _ rfl _ _ _ _ HP4.out Tryz.underlying31 rfl (by kernel_rfl) ?_))
   refine(HE.out w4 none 0 0 [] HK4.out (Rd.nil _) (fun _ h=>by cases h) (by omega)).mono ?_
   rintro e w5 ⟨B,k,cB,zs,rfl,hk5,ho5,hb5,hn5,hk2l⟩
   have HK5:=hid ((HK2.out.trans HK4.out (fun _ _ h=>h)).trans hk5 (fun _ _ h=>h))
   have HO5:=hid ho5
   have HB5:=hid hb5
   have hzl:zs.length=k:=by have:=(Rd.of_own ho5).len;exact this
   obtain⟨gB,hB,_,_,_,_⟩:=own_at ho5 (by omega)
   subst hB
   obtain⟨_,_,hcap5,hmax5⟩:=own_facts ho5
   clear hk5 ho5 hb5 HE HI4 HP4 HK4
   have HKE:=hid ((Keep.refl (fun _=>False) w5).alloc (.cells #[] 5))
   have HRZ:=hid (Rd.of_own HO5.out)
   go_wp2_with (
    at_builtin
    go_must (refine wpList_app rfl (.tmp 44) (.tmp 45) rfl (w0:=w5) (own_none w5 w5 (Keep.refl _ _)) HKE.out rfl (HRZ.out.keep HKE.out (fun _ _ h=>h)) rfl (by omega) ?_))
   intro A6 c6 w6 how6 hkw6
   have HOw6:=hid how6
   have HKw6:=hid hkw6
   clear how6 hkw6
   try simp only [NS]
   have hoD:w6.ownsRow w5.heap.size 5 1 (.slice A6 k c6) k (zs.map (Value.int .u8)):=by simpa using HOw6.out
   obtain⟨gD,hD,hkc6,hgD,_,_⟩:=own_at hoD (by omega)
   subst hD
   have HOD:=hid hoD
   have HK56:=hid HKw6.out
   have HRW5:=hid (HRW.out.keep HK5.out (fun _ _ h=>h))
   clear hoD HKE HOw6 HKw6 HM HN HRW HO5
   try simp only [Nat.zero_add]
   clear hd
   go_wp2_with fail
   go_loopw [18] (fun v wr=> ∃(i:Nat) (ds:List Int),i≤3∧v=.int .i64 i∧Hid (Bytes ds)∧Hid (wr.ownsRow w5.heap.size 5 1 (.slice (some ⟨gD,0,none⟩) k c6) k (ds.map (Value.int .u8)))∧Hid (Keep (fun _=>False) w5 wr)) (fun v _=>3-(intOf v).toNat)
   case atStart=>exact⟨0,zs,by omega,rfl,HB5,HOD,HK56⟩
   case round=>
    obtain⟨i,ds,hi,rfl,HBD,HOR,HKR⟩:=hrel
    clear HOD HK56
    go_upto_region 9 with fail
    go_cut [60] (fun v wx=> ∃b:Bool,v=.bool b∧(b=true→i<na∧i<nb∧i<3)∧wx=wr)
    case first=>
     by_cases h1:i<na
     · have e1:decide ((i:Int)<na)=true:=by simp;omega
       have e1':decide (i<na)=true:=by simp;omega
       by_cases h2:i<nb
       · have e2:decide ((i:Int)<nb)=true:=by simp;omega
         have e2':decide (i<nb)=true:=by simp;omega
         by_cases h3:i<3
         · have e3:decide ((i:Int)<3)=true:=by simp;omega
           have e3':decide (i<3)=true:=by simp;omega
           go_wp2_with fail
           go_meet
           exact⟨true,rfl,fun _=>⟨h1,h2,h3⟩,rfl⟩
         · have e3:decide ((i:Int)<3)=false:=by simp;omega
           have e3':decide (i<3)=false:=by simp;omega
           go_wp2_with fail
           go_meet
           exact⟨false,rfl,(fun h=>by cases h),rfl⟩
       · have e2:decide ((i:Int)<nb)=false:=by simp;omega
         have e2':decide (i<nb)=false:=by simp;omega
         go_wp2_with fail
         go_meet
         exact⟨false,rfl,(fun h=>by cases h),rfl⟩
     · have e1:decide ((i:Int)<na)=false:=by simp;omega
       have e1':decide (i<na)=false:=by simp;omega
       go_wp2_with fail
       go_meet
       exact⟨false,rfl,(fun h=>by cases h),rfl⟩
    case rest=>
     obtain⟨bb,rfl,hbb,rfl⟩:=hcut
     cases bb with
     |true=>
      as_aux_lemma=>
       obtain⟨h1,h2,h3⟩:=hbb rfl
       clear hbb
       obtain⟨b1,o1,rfl,z1⟩:=HRA.out.int_ix h1
       obtain⟨b2,o2,rfl,z2⟩:=HRB.out.int_ix h2
       have hyw:=wf_i64 (HWA.out (ats.getD i 0) (by rw [List.getD_eq_getElem?_getD,List.getElem?_eq_getElem (by rw [HLA.out];exact h1)];exact List.getElem_mem _))
       have hub:=HBB.out (bys.getD i 0) (by rw [List.getD_eq_getElem?_getD,List.getElem?_eq_getElem (by rw [HLB.out];exact h2)];exact List.getElem_mem _)
       have c1:wc.drew.cell? ⟨b1,o1+i,none⟩=some (.int .i64 (ats.getD i 0)):=(HK5.out.trans HKR.out (fun _ _ h=>h)).cell z1 (fun h=>h)
       have c2:wc.drew.cell? ⟨b2,o2+i,none⟩=some (.int .u8 (bys.getD i 0)):=(HK5.out.trans HKR.out (fun _ _ h=>h)).cell z2 (fun h=>h)
       clear z1 z2
       obtain⟨y,hy⟩: ∃y,ats.getD i 0=y:=⟨_,rfl⟩
       obtain⟨u,hu⟩: ∃u,bys.getD i 0=u:=⟨_,rfl⟩
       rw [hy]at hyw c1
       rw [hu]at hub c2
       clear hy hu
       obtain⟨j,hj,hjk⟩: ∃j:Nat,y%(k:Int)=j∧j<k:=by
        have h1:=Int.emod_nonneg y (show(k:Int)≠0 by omega)
        have h2:=Int.emod_lt_of_pos y (show 0<(k:Int) by omega)
        exact⟨(y%(k:Int)).toNat,by omega,by omega⟩
       have HJ:=hid hj
       clear hj
       have hdl:ds.length=k:=by have:=(Rd.of_own HOR.out).len;exact this
       obtain⟨g',hg',_,_,hgl,hgf⟩:=own_at HOR.out (by omega)
       injection hg' with hg'
       injection hg' with hg'
       subst hg'
       have c3:wc.drew.cell? ⟨gD,j,none⟩=some (.int .u8 (ds.getD j 0)):=hgl j _ (map_at _ _ j (by omega))
       have f3:wc.drew.frozen? ⟨gD,j,none⟩=false:=hgf j
       obtain⟨q,hq⟩: ∃q,ds.getD j 0=q:=⟨_,rfl⟩
       rw [hq]at c3
       obtain⟨v,hv⟩: ∃v,IntKind.u8.wrap (q+u)=v:=⟨_,rfl⟩
       have hv8:0≤v∧v≤255:=by rw [← hv];show 0≤(q+u)%256∧(q+u)%256≤255;omega
       have HBN:=hid (show Bytes (ds.set j v)from fun z hz=>by
        rcases List.mem_or_eq_of_mem_set hz with h|h
        · exact HBD.out z h
        · rw [h];exact hv8)
       have HON:=hid (show(wc.setCell ⟨gD,j,none⟩ (.int .u8 v)).drew.ownsRow w5.heap.size 5 1 (.slice (some ⟨gD,0,none⟩) k c6) k ((ds.set j v).map (Value.int .u8))from by
        rw [List.map_set];exact own_drew (World.ownsRow.stored HOR.out j (.int .u8 v)).1)
       have HKN:=hid (show Keep (fun _=>False) w5 (wc.setCell ⟨gD,j,none⟩ (.int .u8 v)).drew from(HKR.out.setCell (p:=⟨gD,j,none⟩) (.inr hgD) (.int .u8 v)).drew)
       have hvw:IntKind.u8.wrap (q+u)=v:=hv
       clear hgl hgf hq hv hdl HOR HBD
       go_upto_region 11 with fail
       refine At.start (L:=#[false,false,false,false,false,false,false,false,false,false,false,false,false,false,false,false,false]) (by kernel_rfl) rfl ?_
       refine AtP 0 63 ?_
       refine AtP 1 64 ?_
       refine AtP 2 65 ?_
       refine AtP 3 66 ?_
       refine AtL 4 67 Tryz.underlying3 ?_
       refine AtP 5 68 ?_
       refine AtP 6 69 ?_
       refine AtP 10 73 ?_
       refine AtP 11 74 ?_
       refine AtP 12 75 ?_
       refine AtL 13 76 Tryz.underlying5 ?_
       refine At.call_all 7 rfl (by kernel_rfl) rfl (fun K hK=>?_)
       go_simp
       refine(within_any _ y k hyw.1 hyw.2 (by omega) (by omega)).mono ?_
       rintro e w7 ⟨rfl,rfl⟩
       rw [HJ.out]
       refine hK _ _ (by repeat' first|exact all_nil|refine all_cons (by assumption) ?_) ?_
       clear hK K
       try simp only [NS]
       refine AtP 8 71 ?_
       refine AtL 9 72 Tryz.underlying5 ?_
       refine AtP 14 77 ?_
       refine AtP 15 78 ?_
       refine AtC 16 fun K hK=>?_
       go_simp
       skip
       refine hK _ _ all_nil ?_
       clear hK K
       try simp only [NS]
       refine At.done (by kernel_rfl) ?_
       clear c1 c2 c3 f3
       go_wp2_with fail
       exact⟨⟨i+1,_,by omega,by go_num,HBN,HON,HKN⟩,by simp [intOf];omega⟩
     |false=>
      clear hbb
      have hdl:ds.length=k:=by have:=(Rd.of_own HOR.out).len;exact this
      obtain⟨ht1,ht2,ht3,ht4⟩:=tmod_fix ct 2 (by omega)
      have tw1:wrap64 (ct.tmod 2)=ct.tmod 2:=IntWalk.wrap64_in _ (by omega)
      have tw2:IntKind.i64.wrap (ct.tmod 2)=ct.tmod 2:=IntWalk.i64_in _ (by omega)
      obtain⟨td1,td2⟩:=tdiv2 hx0 hx1
      have tw3:wrap64 (ct.tdiv 2)=ct.tdiv 2:=IntWalk.wrap64_in _ (by omega)
      have tw4:IntKind.i64.wrap (ct.tdiv 2)=ct.tdiv 2:=IntWalk.i64_in _ (by omega)
      clear ht1 ht2 ht3 ht4
      go_upto_if 81 with fail
      go_cut [17] (fun v wx=> ∃m:Nat,v=.slice (some ⟨gD,0,none⟩) m c6∧m≤k∧wx=wc)
      case first=>
       by_cases hodd:ct.tmod 2=1
       · have e1:(ct.tmod 2==1)=true:=by simpa using hodd
         have hk1:IntKind.i64.wrap ((k:Int)+1)=(k:Int)+1:=IntWalk.i64_in _ (by omega)
         go_wp2_with fail
         refine(within_any wc (ct.tdiv 2) (k+1) (by omega) (by omega) (by omega) (by omega)).mono ?_
         rintro e w7 ⟨rfl,rfl⟩
         obtain⟨m,hm,hmk⟩: ∃m:Nat,ct.tdiv 2%((k:Int)+1)=m∧m≤k:=by
          have h1:=Int.emod_nonneg (ct.tdiv 2) (show(k:Int)+1≠0 by omega)
          have h2:=Int.emod_lt_of_pos (ct.tdiv 2) (show 0<(k:Int)+1 by omega)
          exact⟨(ct.tdiv 2%((k:Int)+1)).toNat,by omega,by omega⟩
         rw [hm]
         clear hm
         have hmc:(m:Int)≤c6:=by omega
         go_wp2_with fail
         go_meet
         exact⟨m,rfl,hmk,rfl⟩
       · have e1:(ct.tmod 2==1)=false:=by simpa using hodd
         go_wp2_with fail
         go_meet
         exact⟨k,rfl,Nat.le_refl _,rfl⟩
      case rest=>
       obtain⟨m,rfl,hmk,rfl⟩:=hcut
       clear tw1 tw2 tw3 tw4 td1 td2
       have hk1:IntKind.i64.wrap ((k:Int)+1)=(k:Int)+1:=IntWalk.i64_in _ (by omega)
       go_wp2_with fail
       refine(within_any wc pl (k+1) hy0 hy1 (by omega) (by omega)).mono ?_
       rintro e w7 ⟨rfl,rfl⟩
       obtain⟨j,hj,hjk⟩: ∃j:Nat,pl%((k:Int)+1)=j∧j≤k:=by
        have h1:=Int.emod_nonneg pl (show(k:Int)+1≠0 by omega)
        have h2:=Int.emod_lt_of_pos pl (show 0<(k:Int)+1 by omega)
        exact⟨(pl%((k:Int)+1)).toNat,by omega,by omega⟩
       rw [hj]
       clear hj hk1
       generalize wc=wv at*
       have hjc:(j:Int)≤cB:=by omega
       have hjk':(j:Int)≤k:=by omega
       have hkc:(k:Int)≤cB:=by omega
       have hrz:=HRZ.out.keep HKR.out (fun _ _ h=>h)
       have HRR:=hid (HRW5.out.keep HKR.out (fun _ _ h=>h))
       have HRT:=hid (show Rd wv (some ⟨gB,0,none⟩) j ((zs.take j).map (Value.int .u8))from by rw [List.map_take];exact hrz.take hjk)
       have hro:=hrz.drop (k:=j) (cap:=cB) hjk hcap5
       rw [← List.map_drop]at hro
       have HRO0:=hid hro
       have HR0:=hid (show RowOk wv (.slice (some ⟨gB,0,none⟩) k cB)from⟨_,k,cB,zs,rfl,hrz,HB5.out,hcap5,by omega⟩)
       have HR1:=hid (show RowOk wv (.slice (some ⟨gD,0,none⟩) m c6)from⟨_,m,c6,ds.take m,rfl,by rw [List.map_take];exact(Rd.of_own HOR.out).take hmk,fun z hz=>HBD.out z (List.mem_of_mem_take hz),by omega,by omega⟩)
       have HR2:=hid (show RowOk wv (.slice RW nr cr)from⟨_,nr,cr,raws,rfl,HRR.out,HBW.out,hnr,by omega⟩)
       replace HRZ:=hid hrz
       clear hrz hro HOR HBD HRW5
       go_upto_region 15 with fail
       go_cut [20] (fun v wx=> ∃(gR:Nat) (vs:Array Value),v=.slice (some ⟨gR,0,none⟩) 5 5∧vs.size=5∧Hid (Blk wx gR 25 vs)∧Hid (∀ i,i<5→ ∃u,vs[i]? =some u∧RowOk wx u)∧Hid (Keep (fun _=>False) wv wx))
       case first=>
        have FIN:=hid (show∀(wx:World) (g2 c2 g5 c5:Nat),St wv wx (some ⟨g2,k+nr,c2,[]++zs++raws⟩) (some ⟨g5,k+nr,c5,[]++zs.take j++raws++zs.drop j⟩)→
         ∃(gR:Nat) (vs:Array Value),Value.slice (some ⟨wx.heap.size,0,none⟩) 5 5=.slice (some ⟨gR,0,none⟩) 5 5∧vs.size=5∧Hid (Blk (wx.alloc (.cells #[.slice (some ⟨gB,0,none⟩) k cB,.slice (some ⟨gD,0,none⟩) m c6,.slice RW nr cr,.slice (some ⟨g2,0,none⟩) (k+nr) c2,.slice (some ⟨g5,0,none⟩) (k+nr) c5] 25)) gR 25 vs)∧Hid (∀ i,i<5→ ∃u,vs[i]? =some u∧RowOk (wx.alloc (.cells #[.slice (some ⟨gB,0,none⟩) k cB,.slice (some ⟨gD,0,none⟩) m c6,.slice RW nr cr,.slice (some ⟨g2,0,none⟩) (k+nr) c2,.slice (some ⟨g5,0,none⟩) (k+nr) c5] 25)) u)∧Hid (Keep (fun _=>False) wv (wx.alloc (.cells #[.slice (some ⟨gB,0,none⟩) k cB,.slice (some ⟨gD,0,none⟩) m c6,.slice RW nr cr,.slice (some ⟨g2,0,none⟩) (k+nr) c2,.slice (some ⟨g5,0,none⟩) (k+nr) c5] 25)))from fun wx g2 c2 g5 c5 hs=>by
         refine⟨_,_,rfl,rfl,hid (Blk.new wx _ _),hid (fun i hi=>?_),hid (hs.k.alloc _)⟩
         have hka:=(Keep.refl (fun _=>False) wx).alloc (.cells #[.slice (some ⟨gB,0,none⟩) k cB,.slice (some ⟨gD,0,none⟩) m c6,.slice RW nr cr,.slice (some ⟨g2,0,none⟩) (k+nr) c2,.slice (some ⟨g5,0,none⟩) (k+nr) c5] 25)
         have hbT:Bytes (zs.take j):=fun z hz=>HB5.out z (List.mem_of_mem_take hz)
         have hbD:Bytes (zs.drop j):=fun z hz=>HB5.out z (List.mem_of_mem_drop hz)
         rcases (show i=0∨i=1∨i=2∨i=3∨i=4 by omega)with rfl|rfl|rfl|rfl|rfl
         · exact⟨_,rfl,HR0.out.keep (hs.k.alloc _)⟩
         · exact⟨_,rfl,HR1.out.keep (hs.k.alloc _)⟩
         · exact⟨_,rfl,HR2.out.keep (hs.k.alloc _)⟩
         · exact⟨_,rfl,(RowOk.of8 (hs.o1 _ rfl) (Bytes.app HB5.out HBW.out) (by omega)).keep hka⟩
         · exact⟨_,rfl,(RowOk.of8 (hs.o2 _ rfl) (Bytes.app (Bytes.app hbT HBW.out) hbD) (by omega)).keep hka⟩)
        have HS:=hid (St.begin_ wv)
        obtain⟨X2,hX⟩: ∃X2:Option Addr,(if cB=j then some ⟨gB,0,none⟩else some ⟨gB,j,none⟩)=X2:=⟨_,rfl⟩
        have HRO:=hid (show Rd wv X2 (k-j) ((zs.drop j).map (Value.int .u8))from by
         have h:=HRO0.out
         rw [← hX]
         by_cases hcj:cB=j
         · rw [if_pos hcj]at h ⊢;exact h
         · rw [if_neg hcj,Option.map_some,add_lit',Nat.zero_add]at h
           rw [if_neg hcj]
           exact h)
        have HX:=hid hX
        clear HRO0 hX
        refine At.start (L:=#[false,false,false,false,false,false,false,false,false,false,false,false,false,false,false,false,false,false,false,false,false]) (by kernel_rfl) rfl ?_
        refine AtP 0 95 ?_
        refine AtP 1 96 ?_
        refine AtP 2 97 ?_
        refine AtP 4 99 ?_
        refine AtP 6 101 ?_
        refine AtP 9 104 ?_
        refine AtP 10 105 ?_
        refine AtP 11 106 ?_
        refine AtP 13 108 ?_
        refine AtP 15 110 ?_
        refine AtP 16 111 ?_
        refine At.read 17 (some 112) (fun _=>True) (v:=(.slice X2 (k-j) (cB-j))) rfl rfl (by kernel_rfl) (fun _ _ _ h=>h) rfl trivial (fun w' hw'=>?y17b) ?_
        case y17b=>exact(by have hX:=HX.out;by_cases hcj:cB=j<;>simp only [hcj,if_true,if_false]at hX<;>subst hX<;>go_simp)
        try simp only [NS]
        refine At.two_all 3 8 rfl rfl (by kernel_rfl) rfl rfl (fun K hK=>?_) (fun K hK=>?_)
        · skip
          go_simp
          have hs:=HS.out.new1
          try simp only [World.size_alloc]at hs
          replace HS:=hid hs
          clear hs
          refine hK _ _ (all_cons trivial all_nil) ?_
          clear hK K
          try simp only [NS]
          refine At.two_all 5 8 rfl rfl (by kernel_rfl) rfl rfl (fun K hK=>?_) (fun K hK=>?_)
          · skip
            refine wp_st1 (.tmp 98) (.tmp 99) rfl HS.out rfl HRZ.out rfl k (by omega) (by omega) ?_
            intro g1 c1 w7 hs
            replace HS:=hid hs
            clear hs
            refine hK _ _ (all_cons trivial all_nil) ?_
            clear hK K
            try simp only [NS]
            refine At.two_all 7 8 rfl rfl (by kernel_rfl) rfl rfl (fun K hK=>?_) (fun K hK=>?_)
            · skip
              refine wp_st1 (.tmp 100) (.tmp 101) rfl HS.out rfl HRR.out rfl (k+nr) (by omega) (by omega) ?_
              intro g2 c2 w8 hs
              replace HS:=hid hs
              clear hs
              refine hK _ _ (all_cons trivial all_nil) ?_
              clear hK K
              try simp only [NS]
              refine At.call_all 8 rfl (by kernel_rfl) rfl (fun K hK=>?_)
              go_simp
              have hs:=HS.out.new2
              try simp only [World.size_alloc]at hs
              replace HS:=hid hs
              clear hs
              refine hK _ _ (all_cons trivial all_nil) ?_
              clear hK K
              try simp only [NS]
              refine At.call_all 12 rfl (by kernel_rfl) rfl (fun K hK=>?_)
              refine wp_st2 (.tmp 103) (.tmp 106) rfl HS.out rfl HRT.out rfl j (by omega) (by omega) ?_
              intro g3 c3 w9 hs
              replace HS:=hid hs
              clear hs
              refine hK _ _ (all_cons trivial all_nil) ?_
              clear hK K
              try simp only [NS]
              refine At.call_all 14 rfl (by kernel_rfl) rfl (fun K hK=>?_)
              refine wp_st2 (.tmp 107) (.tmp 108) rfl HS.out rfl HRR.out rfl (j+nr) (by omega) (by omega) ?_
              intro g4 c4 w10 hs
              replace HS:=hid hs
              clear hs
              refine hK _ _ (all_cons trivial all_nil) ?_
              clear hK K
              try simp only [NS]
              refine AtC 18 fun K hK=>?_
              refine wp_st2 (.tmp 109) (.tmp 112) rfl HS.out rfl HRO.out rfl (k+nr) (by omega) (by omega) ?_
              intro g5 c5 w11 hs
              replace HS:=hid hs
              clear hs
              refine hK _ _ all_nil ?_
              clear hK K
              try simp only [NS]
              refine AtC 19 fun K hK=>?_
              go_simp
              skip
              refine hK _ _ all_nil ?_
              clear hK K
              try simp only [NS]
              refine AtP 20 20 ?_
              refine At.done (by kernel_rfl) ?_
              go_wp2_with fail
              go_meet
              exact FIN.out _ _ _ _ _ HS.out
            · skip
              go_simp
              have hs:=HS.out.new2
              try simp only [World.size_alloc]at hs
              replace HS:=hid hs
              clear hs
              refine hK _ _ (all_cons trivial all_nil) ?_
              clear hK K
              try simp only [NS]
              refine At.call_all 7 rfl (by kernel_rfl) rfl (fun K hK=>?_)
              refine wp_st1 (.tmp 100) (.tmp 101) rfl HS.out rfl HRR.out rfl (k+nr) (by omega) (by omega) ?_
              intro g2 c2 w8 hs
              replace HS:=hid hs
              clear hs
              refine hK _ _ (all_cons trivial all_nil) ?_
              clear hK K
              try simp only [NS]
              refine At.call_all 12 rfl (by kernel_rfl) rfl (fun K hK=>?_)
              refine wp_st2 (.tmp 103) (.tmp 106) rfl HS.out rfl HRT.out rfl j (by omega) (by omega) ?_
              intro g3 c3 w9 hs
              replace HS:=hid hs
              clear hs
              refine hK _ _ (all_cons trivial all_nil) ?_
              clear hK K
              try simp only [NS]
              refine At.call_all 14 rfl (by kernel_rfl) rfl (fun K hK=>?_)
              refine wp_st2 (.tmp 107) (.tmp 108) rfl HS.out rfl HRR.out rfl (j+nr) (by omega) (by omega) ?_
              intro g4 c4 w10 hs
              replace HS:=hid hs
              clear hs
              refine hK _ _ (all_cons trivial all_nil) ?_
              clear hK K
              try simp only [NS]
              refine AtC 18 fun K hK=>?_
              refine wp_st2 (.tmp 109) (.tmp 112) rfl HS.out rfl HRO.out rfl (k+nr) (by omega) (by omega) ?_
              intro g5 c5 w11 hs
              replace HS:=hid hs
              clear hs
              refine hK _ _ all_nil ?_
              clear hK K
              try simp only [NS]
              refine AtC 19 fun K hK=>?_
              go_simp
              skip
              refine hK _ _ all_nil ?_
              clear hK K
              try simp only [NS]
              refine AtP 20 20 ?_
              refine At.done (by kernel_rfl) ?_
              go_wp2_with fail
              go_meet
              exact FIN.out _ _ _ _ _ HS.out
          · skip
            go_simp
            have hs:=HS.out.new2
            try simp only [World.size_alloc]at hs
            replace HS:=hid hs
            clear hs
            refine hK _ _ (all_cons trivial all_nil) ?_
            clear hK K
            try simp only [NS]
            refine At.call_all 5 rfl (by kernel_rfl) rfl (fun K hK=>?_)
            refine wp_st1 (.tmp 98) (.tmp 99) rfl HS.out rfl HRZ.out rfl k (by omega) (by omega) ?_
            intro g1 c1 w7 hs
            replace HS:=hid hs
            clear hs
            refine hK _ _ (all_cons trivial all_nil) ?_
            clear hK K
            try simp only [NS]
            refine At.call_all 7 rfl (by kernel_rfl) rfl (fun K hK=>?_)
            refine wp_st1 (.tmp 100) (.tmp 101) rfl HS.out rfl HRR.out rfl (k+nr) (by omega) (by omega) ?_
            intro g2 c2 w8 hs
            replace HS:=hid hs
            clear hs
            refine hK _ _ (all_cons trivial all_nil) ?_
            clear hK K
            try simp only [NS]
            refine At.call_all 12 rfl (by kernel_rfl) rfl (fun K hK=>?_)
            refine wp_st2 (.tmp 103) (.tmp 106) rfl HS.out rfl HRT.out rfl j (by omega) (by omega) ?_
            intro g3 c3 w9 hs
            replace HS:=hid hs
            clear hs
            refine hK _ _ (all_cons trivial all_nil) ?_
            clear hK K
            try simp only [NS]
            refine At.call_all 14 rfl (by kernel_rfl) rfl (fun K hK=>?_)
            refine wp_st2 (.tmp 107) (.tmp 108) rfl HS.out rfl HRR.out rfl (j+nr) (by omega) (by omega) ?_
            intro g4 c4 w10 hs
            replace HS:=hid hs
            clear hs
            refine hK _ _ (all_cons trivial all_nil) ?_
            clear hK K
            try simp only [NS]
            refine AtC 18 fun K hK=>?_
            refine wp_st2 (.tmp 109) (.tmp 112) rfl HS.out rfl HRO.out rfl (k+nr) (by omega) (by omega) ?_
            intro g5 c5 w11 hs
            replace HS:=hid hs
            clear hs
            refine hK _ _ all_nil ?_
            clear hK K
            try simp only [NS]
            refine AtC 19 fun K hK=>?_
            go_simp
            skip
            refine hK _ _ all_nil ?_
            clear hK K
            try simp only [NS]
            refine AtP 20 20 ?_
            refine At.done (by kernel_rfl) ?_
            go_wp2_with fail
            go_meet
            exact FIN.out _ _ _ _ _ HS.out
        · skip
          go_simp
          have hs:=HS.out.new2
          try simp only [World.size_alloc]at hs
          replace HS:=hid hs
          clear hs
          refine hK _ _ (all_cons trivial all_nil) ?_
          clear hK K
          try simp only [NS]
          refine At.call_all 3 rfl (by kernel_rfl) rfl (fun K hK=>?_)
          go_simp
          have hs:=HS.out.new1
          try simp only [World.size_alloc]at hs
          replace HS:=hid hs
          clear hs
          refine hK _ _ (all_cons trivial all_nil) ?_
          clear hK K
          try simp only [NS]
          refine At.call_all 5 rfl (by kernel_rfl) rfl (fun K hK=>?_)
          refine wp_st1 (.tmp 98) (.tmp 99) rfl HS.out rfl HRZ.out rfl k (by omega) (by omega) ?_
          intro g1 c1 w7 hs
          replace HS:=hid hs
          clear hs
          refine hK _ _ (all_cons trivial all_nil) ?_
          clear hK K
          try simp only [NS]
          refine At.call_all 7 rfl (by kernel_rfl) rfl (fun K hK=>?_)
          refine wp_st1 (.tmp 100) (.tmp 101) rfl HS.out rfl HRR.out rfl (k+nr) (by omega) (by omega) ?_
          intro g2 c2 w8 hs
          replace HS:=hid hs
          clear hs
          refine hK _ _ (all_cons trivial all_nil) ?_
          clear hK K
          try simp only [NS]
          refine At.call_all 12 rfl (by kernel_rfl) rfl (fun K hK=>?_)
          refine wp_st2 (.tmp 103) (.tmp 106) rfl HS.out rfl HRT.out rfl j (by omega) (by omega) ?_
          intro g3 c3 w9 hs
          replace HS:=hid hs
          clear hs
          refine hK _ _ (all_cons trivial all_nil) ?_
          clear hK K
          try simp only [NS]
          refine At.call_all 14 rfl (by kernel_rfl) rfl (fun K hK=>?_)
          refine wp_st2 (.tmp 107) (.tmp 108) rfl HS.out rfl HRR.out rfl (j+nr) (by omega) (by omega) ?_
          intro g4 c4 w10 hs
          replace HS:=hid hs
          clear hs
          refine hK _ _ (all_cons trivial all_nil) ?_
          clear hK K
          try simp only [NS]
          refine AtC 18 fun K hK=>?_
          refine wp_st2 (.tmp 109) (.tmp 112) rfl HS.out rfl HRO.out rfl (k+nr) (by omega) (by omega) ?_
          intro g5 c5 w11 hs
          replace HS:=hid hs
          clear hs
          refine hK _ _ all_nil ?_
          clear hK K
          try simp only [NS]
          refine AtC 19 fun K hK=>?_
          go_simp
          skip
          refine hK _ _ all_nil ?_
          clear hK K
          try simp only [NS]
          refine AtP 20 20 ?_
          refine At.done (by kernel_rfl) ?_
          go_wp2_with fail
          go_meet
          exact FIN.out _ _ _ _ _ HS.out
       case rest=>
        obtain⟨gR,vs,rfl,hvs,HBR,HVS,HKV⟩:=hcut
        have HKT:=hid ((HK5.out.trans HKR.out (fun _ _ h=>h)).trans HKV.out (fun _ _ h=>h))
        clear HKV HKR HK5 HR0 HR1 HR2 HRZ HRR HRT HRO0 hvs
        go_wp2_with fail
        go_loopw [21] (fun v wr=> ∃i:Nat,i≤5∧v=.int .i64 i∧Hid (Keep (fun _=>False) wc wr)) (fun v _=>5-(intOf v).toNat)
        case atStart=>exact⟨0,by omega,rfl,hid (Keep.refl _ wc)⟩
        case round=>
         obtain⟨i,hi,rfl,HKW⟩:=hrel
         by_cases h5:i<5
         · have e5:decide ((i:Int)<5)=true:=by simp;omega
           have e5':decide (i<5)=true:=by simp;omega
           have h5':(i:Int)<5:=by omega
           obtain⟨u,hu,hrow⟩:=HVS.out i h5
           obtain⟨A,n,c,xs,rfl,hr,hbx,hnc,hn9⟩:=hrow
           have q0:wr.cell? ⟨gR,i,none⟩=some (.slice A n c):=HKW.out.cell (show wc.cell? ⟨gR,i,none⟩=_ from by rw [HBR.out.cell];exact hu) (fun h=>h)
           have HRX:=hid (hr.keep HKW.out (fun _ _ h=>h))
           have HBX:=hid hbx
           have HKE:=hid ((Keep.refl (fun _=>False) wr).alloc (.cells #[] 5))
           have q0':(wr.alloc (.cells #[] 5)).cell? ⟨gR,i,none⟩=some (.slice A n c):=HKE.out.cell q0 (fun h=>h)
           clear hu hr hbx
           go_wp2_with (
            at_builtin
            go_must (refine wpList_app rfl (.tmp 120) (.tmp 124) rfl (w0:=wr) (own_none wr wr (Keep.refl _ _)) HKE.out rfl (HRX.out.keep HKE.out (fun _ _ h=>h)) rfl (by omega) ?_))
           intro A7 c7 w7 how7 hkw7
           have HOw7:=hid how7
           have HKw7:=hid hkw7
           clear how7 hkw7
           try simp only [NS]
           have ho7:w7.ownsRow wr.heap.size 5 1 (.slice A7 n c7) n (xs.map (Value.int .u8)):=by simpa using HOw7.out
           obtain⟨hr7,hlt7,hc7,hm7⟩:=own_facts ho7
           have q1:=HKw7.out.cell q0 (fun h=>h)
           have HO7:=hid (And.intro hr7 hlt7)
           clear ho7 hr7 hlt7 HOw7 q0 q0' HKE
           try simp only [Nat.zero_add]
           go_wp2_with fail
           refine(walk_any w7 A7 n c7 xs HO7.out.1 HO7.out.2 HBX.out hc7 hm7 (by omega)).mono ?_
           intro e w8 hp
           obtain⟨M,cm,T,cT,rfl,hk8,hM,hT,hL⟩:=walk_same hp
           have HK8:=hid (HKw7.out.trans hk8 (fun _ _ h=>h))
           have q2:=hk8.cell q1 (fun h=>h)
           have HRX8:=hid (HRX.out.keep HK8.out (fun _ _ h=>h))
           have HMT:=hid (And.intro hM hT)
           clear hp hk8 hM hT HO7 HKw7 q1 hc7 hm7
           generalize hLL:(wkL xs).length=L at*
           go_wp2_with fail
           refine(refwalk_any w8 A n c xs HRX8.out HBX.out hnc (by omega)).mono ?_
           intro e w9 hp
           obtain⟨M2,cm2,T2,cT2,rfl,hk9,hM2,hT2,_⟩:=walk_same hp
           rw [hLL]at hM2 hT2 ⊢
           have HK9:=hid (HK8.out.trans hk9 (fun _ _ h=>h))
           have q3:=hk9.cell q2 (fun h=>h)
           have HRX9:=hid (HRX8.out.keep hk9 (fun _ _ h=>h))
           have HM1:=hid (HMT.out.1.keep hk9 (fun _ _ h=>h))
           have HT1:=hid (HMT.out.2.keep hk9 (fun _ _ h=>h))
           have HM2:=hid hM2
           have HT2:=hid hT2
           have HLL:=hid hL
           clear hp hk9 hM2 hT2 HMT HRX8 HK8 q2 hLL hL
           generalize wkE xs=E at*
           generalize (wkL xs).map (·.1)=ms at*
           generalize ((wkL xs).map fun p=>(p.2:Int))=ts at*
           have q4:w9.drew.cell? ⟨gR,i,none⟩=some (.slice A n c):=q3
           clear q3
           go_upto_region 21 with fail
           refine At.start (L:=#[false,false,false,false,false,false,false,false,false,false,false,false,false,false,false,false,false,false,false,false,false,false,false,false,false,false,false,false]) (by kernel_rfl) rfl ?_
           refine AtP 0 139 ?_
           refine AtP 1 140 ?_
           refine AtC 2 fun K hK=>?_
           go_simp
           refine(ints_same _ M M2 L cm cm2 ms HM1.out.drew HM2.out.drew HLL.out).mono ?_
           rintro e w11 ⟨rfl,hk11⟩
           have q5:=hk11.cell q4 (fun h=>h)
           have HT3:=hid (HT1.out.drew.keep hk11 (fun _ _ h=>h))
           have HT4:=hid (HT2.out.drew.keep hk11 (fun _ _ h=>h))
           have HRY:=hid (HRX9.out.drew.keep hk11 (fun _ _ h=>h))
           have HKA:=hid (HK9.out.drew.trans hk11 (fun _ _ h=>h))
           clear hk11 q4
           refine hK _ _ all_nil ?_
           clear hK K
           try simp only [NS]
           refine AtP 3 142 ?_
           refine AtP 4 143 ?_
           refine AtP 5 144 ?_
           refine AtP 6 145 ?_
           refine AtC 7 fun K hK=>?_
           go_simp
           refine(ints_same _ T T2 L cT cT2 ts HT3.out HT4.out HLL.out).mono ?_
           rintro e w12 ⟨rfl,hk12⟩
           have q6:=hk12.cell q5 (fun h=>h)
           have HRV:=hid (HRY.out.keep hk12 (fun _ _ h=>h))
           have HKB:=hid (HKA.out.trans hk12 (fun _ _ h=>h))
           clear hk12 q5
           refine hK _ _ all_nil ?_
           clear hK K
           try simp only [NS]
           refine AtP 8 147 ?_
           refine AtP 9 148 ?_
           refine AtP 10 149 ?_
           refine AtP 11 150 ?_
           refine AtP 12 151 ?_
           refine AtP 13 152 ?_
           refine AtP 14 153 ?_
           refine AtP 15 154 ?_
           refine AtP 16 155 ?_
           refine AtP 17 156 ?_
           refine AtP 18 157 ?_
           refine AtL 19 158 Tryz.underlying25 ?_
           refine AtP 21 160 ?_
           refine AtP 22 161 ?_
           refine AtP 23 162 ?_
           refine AtL 24 163 Tryz.underlying25 ?_
           refine At.call_all 20 rfl (by kernel_rfl) rfl (fun K hK=>?_)
           go_simp
           refine(clean_any _ A n c xs HRV.out HBX.out (by omega)).mono ?_
           rintro e w13 ⟨rfl,hk13⟩
           have q7:=hk13.cell q6 (fun h=>h)
           have HRU:=hid (HRV.out.keep hk13 (fun _ _ h=>h))
           have HKC:=hid (HKB.out.trans hk13 (fun _ _ h=>h))
           clear hk13 q6
           refine hK _ _ (by repeat' first|exact all_nil|refine all_cons (by assumption) ?_) ?_
           clear hK K
           try simp only [NS]
           refine AtC 25 fun K hK=>?_
           go_simp
           refine(refclean_any _ A n c xs HRU.out HBX.out (by omega)).mono ?_
           rintro e w14 ⟨rfl,rfl⟩
           refine hK _ _ all_nil ?_
           clear hK K
           try simp only [NS]
           refine AtP 26 165 ?_
           refine AtP 27 166 ?_
           refine At.done (by kernel_rfl) ?_
           have HKN:=hid (HKW.out.trans HKC.out (fun _ _ h=>h))
           clear q7
           go_wp2_with fail
           exact⟨⟨i+1,by omega,by go_num,HKN⟩,by simp [intOf];omega⟩
         · have e5:decide ((i:Int)<5)=false:=by simp;omega
           have e5':decide (i<5)=false:=by simp;omega
           go_wp2_with fail
           go_ret
           exact⟨rfl,(HKT.out.trans HKW.out (fun _ _ h=>h)).below (Nat.le_refl _) (fun _ h=>h.elim)⟩
end Go.Proofs.YthfogcgdijmaoaaGreat
