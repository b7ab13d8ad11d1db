/-
  Part 30 of the proof: Pk. Conditions: those of the statements.
-/
import Derived.Test.YthfogcgdijmaoaaGreatW28
set_option maxRecDepth 100000
set_option maxHeartbeats 16000000
set_option linter.unusedVariables false
set_option linter.unusedSimpArgs false
namespace Go.Proofs.YthfogcgdijmaoaaGreat
open Go.RowKit
theorem Fits.bandL {G:Nat→Option Kd} {base:Nat} {w:World} {b n:Nat} (h:Fits G base w) (hb:G b=some (.band n)): ∃A c,w.cell? ⟨b,1,none⟩=some (.slice A n c):=by
 obtain⟨_,_,pl,A,c,gi,gu,st,h1,_⟩:=h.at_ b _ hb
 exact⟨A,c,h1.cell 1⟩
theorem pks_done {G:Nat→Option Kd} {base:Nat} {w0 w w':World} {BL:Nat} {L:Option Addr} {m c:Nat} {bs:List Nat} {b2 W:Nat} {A:Option Addr} {q:Nat} {BA:Option Addr} {nb cb:Nat} {body:List Int} {T:Nat} (h:PS G base w0 BL L m c bs b2 W A q BA nb cb body w) (hq:q+1≤14000*T+10) (hn:nb≤100000*T) {l:List Int} {X:Option Addr} {k d:Nat} (hx:w'.ownsRow w.heap.size 5 1 (.slice X k d) k ((outB l).map (Value.int .u8))) (hl:l.length≤q) (hb:Bytes l) (hk:Keep (fun _=>False) w w'):
 PkP G base w0 T (.returned (.tuple #[.slice X k d,.slice BA nb cb])) w':=by
 have e:(outB l).length=k:=by have:=hx.1;simpa using this
 have h2:=outB_le l
 exact⟨X,k,d,outB l,BA,nb,cb,body,rfl,own_mono hx h.keep.size,outB_bytes hb,by omega,own_mono (own_keepF h.bod hk) h.b0,h.bby,hn,h.fits.keepF hk,h.keep.trans hk (fun _ _ h=>h.elim)⟩
theorem Bv.keepFW {G:Nat→Option Kd} {base:Nat} {w w':World} {b g n:Nat} {pl:Int} {c gi gu:Nat} {st:Bool} {cs:Array Value} {W:Nat} {A:Option Addr} (h:Bv G base w b g n pl c gi gu st cs) (hF:Fits G base w') (hN: ∀j,foot W A j→G j=none) (hk:Keep (FW (TN G) W A) w w'):Bv G base w' b g n pl c gi gu st cs∧(∀ P,PartOk G w P→PartOk G w' P)∧ ∀o l,w.rangeAt g o l→w'.rangeAt g o l:=by
 have hro: ∀j,FW (TN G) W A j→G j≠some .ro:=fun j hj=>by
  rcases hj with hj|hj
  · exact(TN.not (n:=0) hj).2.2.1
  · rw [hN j hj];simp
 have hg: ¬FW (TN G) W A g:=fun hs=>by
  rcases hs with hs|hs
  · exact(TN.not hs).2.1 h.gp
  · have:=hN _ hs;rw [h.gp]at this;cases this
 have hb: ¬FW (TN G) W A b:=fun hs=>by
  rcases hs with hs|hs
  · exact(TN.not hs).1 h.gb
  · have:=hN _ hs;rw [h.gb]at this;cases this
 exact⟨h.keep hk hF hb hg hro,fun P hP=>hP.keep hk hro,fun o l hr=>range_keep hr hk hg⟩
theorem pk_any (G:Nat→Option Kd) (base:Nat) (w:World) (BL:Nat) (L:Option Addr) (m c:Nat) (bs:List Nat) (NB T:Nat) (style:Int) (of layer:Nat) (hF:Fits G base w) (hL:w.ownsRow BL 105 1 (.slice L m c) m (bs.map ptrV)) (hB: ∀b∈bs,∃n,G b=some (.band n)∧n≤NB) (hm:m≤3) (hNB:NB≤25) (hT:m*NB≤T) (hT2:T≤100) (ho:0<of) (ho2:of≤8) (hla:layer≤8):
 Calls Tryz.prog 42 #[.slice L m c,.int .i64 style,.int .i64 of,.int .i64 layer] w (PkP G base w T):=by
 have hmc:m≤c:=own_cap hL
 obtain⟨i0,hi0,hz0,hz1,hz2⟩:=info_parts info_u8
 have HB:=hid hB
 have HF:=hid hF
 have HL:=hid hL
 clear hF hL hB
 go_enter Tryz.func42,Tryz.ntmps42
 go_wp2_with fail
 refine(Bw.newrw_any w).mono ?_
 rintro e w1 ⟨rfl,hrw,hk1⟩
 have HS1:=hid (show PS G base w BL L m c bs w.heap.size w.heap.size none 0 none 0 0 [] w1 from
  ⟨HF.out.keepF hk1,⟨0,0,[],0,hrw,BInv.nil,by simp,HF.out.none_of (Nat.le_refl _),fun a e=>by cases e⟩,own_keepF HL.out hk1,World.ownsRow_nil _ _ _ _,fun _ h=>(by cases h),fun a x e=>(by cases e),fun x e=>(by cases e),hk1.mono (fun _ _ h=>h.elim),hk1.size,Nat.le_refl _,fun j hj=>by
   rcases hj with rfl|⟨a,e,_⟩
   · exact Nat.le_refl _
   · cases e⟩)
 clear hrw hk1 HF HL
 generalize hbw:w.heap.size=b2 at*
 clear hbw
 go_wp2_with fail
 go_loopw [11,12] (fun s v wr=> ∃(i:Nat) (sb:Bool),i≤m∧s=.bool sb∧v=.int .i64 i∧Hid (PS G base w BL L m c bs b2 b2 none 0 none 0 0 [] wr)) (fun _ v _=>m-(intOf v).toNat)
 case atStart=>exact⟨0,false,by omega,rfl,rfl,HS1⟩
 case round=>
  clear HS1
  obtain⟨i,sb,hi,rfl,rfl,HS⟩:=hrel
  by_cases him:i<m
  · obtain⟨gL,b,hLe,hbi,hcb⟩:=HS.out.bandAt him
    obtain⟨n,hn,hnb⟩:=HB.out b (List.mem_of_getElem? hbi)
    have HN:=hid hn
    have HBI:=hid hbi
    subst hLe
    clear hn hbi
    go_wp2_with fail
    refine(set_any G base _ b n of HS.out.fits HN.out ho ho2).mono ?_
    rintro e w5 ⟨rfl,hF5,hk5⟩
    have HS5:=hid (HS.out.step (S:=TB2 G) hF5 (HS.out.ws.keep hk5 (fun j hj=>(KT.some (.inl hj)).1)) (Grew.refl _ _) (hk5.mono (fun _ _ h=>.inl h)) (fun _ h=>.inl h))
    clear hF5 hk5 HS hcb
    go_wp2_with fail
    go_loopw [11,13] (fun s v wr=> ∃(k:Nat) (sb:Bool),k≤n∧s=.bool sb∧v=.int .i64 k∧Hid (PS G base w BL (some ⟨gL,0,none⟩) m c bs b2 b2 none 0 none 0 0 [] wr)) (fun _ v _=>n-(intOf v).toNat)
    case atStart=>exact⟨0,sb,by omega,rfl,rfl,HS5⟩
    case round=>
     clear HS5
     obtain⟨k,sc,hk,rfl,rfl,HS⟩:=hrel
     obtain⟨gL',b',hLe,hbi,hcb⟩:=HS.out.bandAt him
     injection hLe with hLe
     injection hLe with hLe
     subst hLe
     rw [HBI.out]at hbi
     injection hbi with hbi
     subst hbi
     obtain⟨AL,cL,hbl⟩:=HS.out.fits.bandL HN.out
     by_cases hkn:k<n
     · obtain⟨g,pl,c9,gi,gu,st,cs,hv⟩:=HS.out.fits.band HN.out (by omega)
       obtain⟨P,hP,hPr⟩:=hv.part hkn
       have hbl2:wr.cell? ⟨b,1,none⟩=some (.slice (some ⟨g,0,none⟩) n c9):=hv.bb.cell 1
       have hnc:=hv.nc
       have HPR:=hid hPr
       have hnp:=hP.np
       clear hbl hv hPr hP
       go_wp2_with (refine wpList_load_mid rfl 139 (.tmp 58) rfl _ _ rfl _ _ HPR.out Tryz.underlying139 rfl (by kernel_rfl) ?_)
       refine(news_any _ P of layer hnp ho ho2 (by omega)).mono ?_
       rintro e w6 ⟨rfl,hk6⟩
       have HS6:=hid (HS.out.aside hk6)
       generalize passM P.ps.length of layer=pa at*
       generalize passM P.ps.length of (layer+1)=pb at*
       clear hk6 HS hbl2 hcb HPR hnp
       cases sc with
       |true=>
        go_wp2_with fail
        go_roundw
        case rel=>exact⟨k+1,true,by omega,rfl,by go_num,HS6⟩
        case measure=>simp [intOf]<;>omega
       |false=>
        go_wp2_with fail
        go_roundw
        case rel=>exact⟨k+1,_,by omega,rfl,by go_num,HS6⟩
        case measure=>simp [intOf]<;>omega
     · obtain rfl:k=n:=by omega
       go_wp2_with fail
       go_roundw
       case rel=>exact⟨i+1,sc,by omega,rfl,by go_num,HS⟩
       case measure=>simp [intOf]<;>omega
  · cases sb with
    |false=>
     go_wp2_with fail
     refine(wbit_any G base (fun _=>False) _ b2 b2 0 none 0 HS.out.ws HS.out.fits HS.out.hb (by omega)).mono ?_
     rintro e w5 ⟨A2,rfl,hW5,hF5,hg5,hk5⟩
     have HS2:=hid (HS.out.step hF5 hW5 hg5 hk5 (fun _ h=>h.elim))
     clear hW5 hF5 hg5 hk5 HS
     go_wp2_with fail
     obtain⟨nn,cc,l,rr,a1,a2,a3,a4,a5⟩:=HS2.out.ws
     have HL2:=hid a3
     have HB2:=hid a2.bytes
     refine(Bw.rbytes_any _ b2 b2 A2 nn cc l rr a1 a2 (by omega)).mono ?_
     rintro e w9 ⟨X,kx,dx,rfl,hx9,hk9⟩
     have HZ:=hid (pks_done (T:=T) HS2.out (by omega) (by omega) hx9 HL2.out HB2.out hk9)
     clear hx9 hk9
     go_wp2_with fail
     exact bodyPost_ret (v:=.tuple #[_,_]) (by simp [results,Tryz.results42,go_sem]<;>exact⟨rfl,rfl⟩) rfl HZ.out
    |true=>
     go_wp2_with fail
     refine(wbit_any G base (fun _=>False) _ b2 b2 0 none 1 HS.out.ws HS.out.fits HS.out.hb (by omega)).mono ?_
     rintro e w5 ⟨A2,rfl,hW5,hF5,hg5,hk5⟩
     have HS2:=hid (HS.out.step hF5 hW5 hg5 hk5 (fun _ h=>h.elim))
     clear hW5 hF5 hg5 hk5 HS
     obtain⟨Z,hZ⟩: ∃Z,NB*14000=Z:=⟨_,rfl⟩
     obtain⟨Y,hY⟩: ∃Y,NB*100000=Y:=⟨_,rfl⟩
     have HZE:=hid hZ
     have HYE:=hid hY
     clear hZ hY
     go_wp2_with fail
     go_loopw [16,17] (fun x v wr=> ∃(i:Nat) (A:Option Addr) (q:Nat) (BA:Option Addr) (nb cb:Nat) (body:List Int),i≤m∧v=.int .i64 i∧x=.slice BA nb cb∧Hid (q≤1+i*Z∧nb≤i*Y)∧Hid (PS G base w BL L m c bs b2 b2 A q BA nb cb body wr)) (fun _ v _=>m-(intOf v).toNat)
     case atStart=>exact⟨0,A2,1,none,0,0,[],by omega,rfl,rfl,hid ⟨by omega,by omega⟩,HS2⟩
     case round=>
      clear HS2
      obtain⟨i,A2,q2,BA,nb,cb,body,hi,rfl,rfl,HQ,HS2⟩:=hrel
      by_cases him:i<m
      · obtain⟨gL,b,hLe,hbi,hcb⟩:=HS2.out.bandAt him
        obtain⟨n,hn,hnb⟩:=HB.out b (List.mem_of_getElem? hbi)
        have HN:=hid hn
        subst hLe
        clear hn hbi
        go_wp2_with fail
        clear hcb
        go_loopw [16,19] (fun x v wr=> ∃(k:Nat) (A:Option Addr) (q:Nat) (BA:Option Addr) (nb cb:Nat) (body:List Int),k≤n∧v=.int .i64 k∧x=.slice BA nb cb∧Hid (q≤1+i*Z+k*14000∧nb≤i*Y+k*100000)∧Hid (PS G base w BL (some ⟨gL,0,none⟩) m c bs b2 b2 A q BA nb cb body wr)) (fun _ v _=>n-(intOf v).toNat)
        case atStart=>exact⟨0,A2,q2,BA,nb,cb,body,by omega,rfl,rfl,hid (by have:=HQ.out;omega),HS2⟩
        case round=>
         clear HS2
         obtain⟨k,A3,q3,BA3,nb3,cb3,body3,hk,rfl,rfl,HQ3,HS⟩:=hrel
         obtain⟨AL,cL,hbl⟩:=HS.out.fits.bandL HN.out
         by_cases hkn:k<n
         · obtain⟨g,pl,c9,gi,gu,st,cs,hv⟩:=HS.out.fits.band HN.out (by omega)
           obtain⟨P,hP,hPr⟩:=hv.part hkn
           have hbl2:wr.cell? ⟨b,1,none⟩=some (.slice (some ⟨g,0,none⟩) n c9):=hv.bb.cell 1
           have hnc:=hv.nc
           have HPR:=hid hPr
           have HPO:=hid hP
           have HV:=hid hv
           have hnp:=hP.np
           have HIZ:=hid (show i*Z≤3*350000∧i*Y≤3*2500000 from by
            have h1:=HZE.out
            have h2:=HYE.out
            exact⟨Nat.mul_le_mul (by omega) (by omega),Nat.mul_le_mul (by omega) (by omega)⟩)
           have hq3:q3≤2000000:=by have:=HQ3.out;have:=HIZ.out;omega
           have hnb3:nb3≤20000000:=by have:=HQ3.out;have:=HIZ.out;omega
           clear hbl hv hPr hP
           go_wp2_with (refine wpList_load_mid rfl 139 (.tmp 104) rfl _ _ rfl _ _ HPR.out Tryz.underlying139 rfl (by kernel_rfl) ?_)
           refine(news_any _ P of layer hnp ho ho2 (by omega)).mono ?_
           rintro e w6 ⟨rfl,hk6⟩
           have HS6:=hid (HS.out.aside hk6)
           have HV6:=hid (HV.out.keepF hk6)
           have HPO6:=hid (HPO.out.keep hk6 (fun _ h=>h.elim))
           have HPR6:=hid (range_keep HPR.out hk6 id)
           have hab:=passM_mono (t:=P.ps.length) (n:=of) (l:=layer) ho
           have hbn:=passM_le (t:=P.ps.length) (n:=of) (l:=layer+1) ho
           generalize passM P.ps.length of layer=pa at*
           generalize passM P.ps.length of (layer+1)=pb at*
           clear hk6 HS hbl2 HPR HPO HV
           by_cases ha0:pa=0
           · have e1:((pa:Int)==0)=true:=by simp;omega
             have c2:w6.cell? ⟨b,2,none⟩=some (.pointer (some ⟨gi,0,none⟩)):=HV6.out.bb.cell 2
             have TE:=tenc_any G base w6 gi n k b2 b2 q3 A3 (layer+1) HS6.out.fits HV6.out.gi hkn HS6.out.ws HS6.out.hb (by omega) (by omega)
             rw [show((layer+1:Nat):Int)=(layer:Int)+1 from by omega]at TE
             have HTE:=hid TE
             clear TE
             go_wp2_with fail
             refine HTE.out.mono ?_
             rintro e w7 ⟨A7,rfl,hW7,hF7,hg7,hk7⟩
             have HS7:=hid (HS6.out.step hF7 hW7 hg7 hk7 (fun _ h=>.inl (.inl h)))
             have HN6:=HS6.out.ws.footN
             have HKF:=HV6.out.keepFW hF7 HN6 hk7
             have HV7:=hid HKF.1
             have HPO7:=hid (HKF.2.1 P HPO6.out)
             have HPR7:=hid (HKF.2.2 _ _ HPR6.out)
             clear HN6 HKF hW7 hF7 hg7 hk7 HS6 HV6 HPO6 HPR6
             clear HTE c2
             by_cases hb0:pb=pa
             · have e2:((pb:Int)==(pa:Int))=true:=by simp;omega
               go_wp2_with fail
               go_roundw
               case rel=>exact⟨k+1,A7,_,BA3,nb3,cb3,body3,by omega,by go_num,rfl,hid (by have:=HQ3.out;omega),HS7⟩
               case measure=>simp [intOf]<;>omega
             · have e2:((pb:Int)==(pa:Int))=false:=by simp;omega
               have hlt:pa<pb:=by omega
               have HLT:=hid hlt
               go_wp2_with fail
               refine(say_any G base _ b g n pl c9 gi gu st cs P k b2 b2 _ A7 style 0 pb HV7.out hkn HPO7.out HPR7.out HS7.out.ws HS7.out.hb (by omega) (by omega) hbn).mono ?_
               rintro e w8 ⟨A8,cs8,lb8,rfl,hW8,hg8,hk8,hv8,hp8,hr8⟩
               have HS8:=hid (HS7.out.step hv8.fits hW8 hg8 hk8 (fun j h=>by rcases h with h|h;exact .inl (.inl h);exact .inr h))
               have HPO8:=hid hp8
               have hr3:w8.rangeAt g (k*5) [.int .i64 P.pl,.slice P.A P.ps.length P.cA,.slice P.B P.bs.length P.cB]:=fun j v hj=>by
                have hj3:j<3:=(List.getElem?_eq_some_iff.1 hj).1
                refine hr8 j v ?_
                rw [← hj]
                rcases (show j=0∨j=1∨j=2 by omega)with rfl|rfl|rfl<;>rfl
               have HR3:=hid hr3
               have y1:w8.cell? ⟨b,1,none⟩=some (.slice (some ⟨g,0,none⟩) n c9):=hv8.bb.cell 1
               clear hW8 hg8 hk8 hv8 hp8 hr8 hr3 HS7 HV7 HPO7 HPR7
               go_upto_region 33 with(refine wpList_load_mid rfl 117 (.tmp 145) rfl _ _ rfl _ _ HR3.out Tryz.underlying117 rfl (by kernel_rfl) ?_)
               have hka:Keep (fun _=>False) w8 (w8.alloc (.cells #[.int .i64 P.pl,.slice P.A P.ps.length P.cA,.slice P.B P.bs.length P.cB] 117)):=(Keep.refl _ w8).alloc _
               have HS9:=hid (HS8.out.aside hka)
               have HPO9:=hid (HPO8.out.keep hka (fun _ h=>h.elim))
               have BX:=hid (Blk.new w8 117 #[.int .i64 P.pl,.slice P.A P.ps.length P.cA,.slice P.B P.bs.length P.cB])
               generalize w8.alloc (.cells #[.int .i64 P.pl,.slice P.A P.ps.length P.cA,.slice P.B P.bs.length P.cB] 117)=w9 at*
               generalize w8.heap.size=gx at*
               clear hka y1 HR3 HS8 HPO8
               obtain⟨xa,oa,en,pB,hAe,hcE,hle,hpB,hpe⟩: ∃(x o e:Nat) (p:Int×Bool),P.A=some ⟨x,o,none⟩∧w9.cell? ⟨x,o+(pb-1)*2,none⟩=some (.int .i64 e)∧e≤P.bs.length∧P.ps[pb-1]? =some p∧p.1=e:=HPO9.out.endAt (i:=pb-1) (show pb-1<P.ps.length by have:=HLT.out;omega)
               have hbc:P.bs.length≤P.cB:=HPO9.out.cb
               have hnb9:P.bs.length≤100000:=HPO9.out.nb
               have HPB:=hid hpB
               have HPE:=hid hpe
               have x1:w9.cell? ⟨gx,1,none⟩=some (.slice P.A P.ps.length P.cA):=BX.out.cell 1
               have x2:w9.cell? ⟨gx,2,none⟩=some (.slice P.B P.bs.length P.cB):=BX.out.cell 2
               rw [hAe]at x1
               have HAE:=hid hAe
               clear hpB hpe hAe BX
               obtain⟨kb,hkb⟩: ∃kb,pb-1=kb:=⟨_,rfl⟩
               rw [hkb]at hcE HPB
               have hkbl:kb<P.ps.length:=by have:=HLT.out;omega
               have hwb:IntKind.i64.wrap ((pb:Int)-1)=(kb:Int):=by have:=HLT.out;rw [IntWalk.i64_in _ (by omega)];omega
               have HKB:=hid hkb
               clear hkb
               obtain⟨ws,hws⟩: ∃ws:Nat,0=ws:=⟨_,rfl⟩
               go_upto_region 36 with fail
               have hwe:ws≤en:=by omega
               rw [show(0:Int)=(ws:Int) by omega]
               clear hws
               have HRB:=hid ((HPO9.out.rb.keepF ((Keep.refl (fun _=>False) w9).drew)).part (k:=ws) (m:=en-ws) (cap:=P.cB) (show ws+(en-ws)≤P.bs.length by omega) hbc)
               obtain⟨mm,hmm⟩: ∃mm,en-ws=mm:=⟨_,rfl⟩
               have HMM:=hid hmm
               obtain⟨ys,hys⟩: ∃ys,(P.bs.drop ws).take mm=ys:=⟨_,rfl⟩
               have HBY:=hid (show Bytes ys from by
                rw [← hys]
                exact fun z hz=>HPO9.out.bytes z (List.mem_of_mem_drop (List.mem_of_mem_take hz)))
               rw [hmm]at HRB
               rw [show((List.map (Value.int .u8) P.bs).drop ws).take mm=ys.map (Value.int .u8)from by rw [← hys,List.map_take,List.map_drop]]at HRB
               have hmb:mm≤100000:=by omega
               have HOW:=hid (own_drew HS9.out.bod)
               have HSD:=hid (HS9.out.aside ((Keep.refl (fun _=>False) w9).drew))
               have hb9:=HS9.out.hb
               have d1:w9.drew.cell? ⟨gx,1,none⟩=some (.slice (some ⟨xa,oa,none⟩) P.ps.length P.cA):=x1
               have d2':w9.drew.cell? ⟨gx,2,none⟩=some (.slice P.B P.bs.length P.cB):=x2
               have d3:w9.drew.cell? ⟨xa,oa+kb*2,none⟩=some (.int .i64 en):=hcE
               clear hys x1 x2 hcE HPO9 HS9
               by_cases hcq:P.cB=ws
               · have hP:=HRB.out
                 rw [if_pos hcq]at hP
                 have HRD:=hid hP
                 clear hP HRB
                 have hle1:en≤ws:=by omega
                 refine At.start (L:=#[false,false,false,false,false,false,false,false,false,false,false,false,false,false]) (by kernel_rfl) rfl ?_
                 refine AtP 0 156 ?_
                 refine AtP 1 157 ?_
                 refine At.read 2 (some 158) (fun w'=>w'.cell? ⟨gx,2,none⟩=some (.slice P.B P.bs.length P.cB)) (v:=?v2pa) rfl rfl (by kernel_rfl) (fun _ _ _ h=>h) rfl d2' (fun w' hw'=>?y2pa) ?_
                 case y2pa=>skip;go_simp;try with_reducible rfl
                 try simp only [NS]
                 refine AtP 3 159 ?_
                 refine AtP 4 160 ?_
                 refine At.read 5 (some 161) (fun w'=>w'.cell? ⟨gx,1,none⟩=some (.slice (some ⟨xa,oa,none⟩) P.ps.length P.cA)) (v:=?v5pa) rfl rfl (by kernel_rfl) (fun _ _ _ h=>h) rfl d1 (fun w' hw'=>?y5pa) ?_
                 case y5pa=>skip;go_simp;try with_reducible rfl
                 try simp only [NS]
                 refine AtP 6 162 ?_
                 refine AtP 7 163 ?_
                 refine AtP 8 164 ?_
                 refine AtP 9 165 ?_
                 refine At.read 10 (some 166) (fun w'=>w'.cell? ⟨xa,oa+kb*2,none⟩=some (.int .i64 en)) (v:=?v10pa) rfl rfl (by kernel_rfl) (fun _ _ _ h=>h) rfl d3 (fun w' hw'=>?y10pa) ?_
                 case y10pa=>skip;go_simp;try with_reducible rfl
                 try simp only [NS]
                 refine AtP 11 167 ?_
                 refine AtC 12 fun K hK=>?_
                 refine wp_append_src _ (.tmp 156) (.tmp 167) 25 rfl b2 5 i0 _ 1 Tryz.underlying25 hi0 hz0 hz1 hz2 rfl _ _ _ rfl HOW.out _ _ _ _ rfl HRD.out (oneCell_ints _ _) (by simp only [maxLen];omega) (by omega) (by show b2≤w9.heap.size;omega) ?_
                 intro v2 w10 hown2 hg2 hat2 _hold2
                 obtain⟨BA4,cb4,rfl⟩:=own_form hown2
                 have HS10:=hid (HSD.out.app HBY.out hown2 hg2 hat2)
                 clear hown2 hg2 hat2 _hold2
                 refine hK _ _ all_nil ?_
                 clear hK K
                 try simp only [NS]
                 refine AtP 13 16 ?_
                 refine At.done (by kernel_rfl) ?_
                 go_wp2_with fail
                 go_roundw
                 case rel=>exact⟨k+1,A8,_,BA4,nb3+mm,cb4,_,by omega,by go_num,rfl,hid (by have:=HQ3.out;omega),HS10⟩
                 case measure=>simp [intOf]<;>omega
               · have hP:=HRB.out
                 rw [if_neg hcq]at hP
                 have HRD:=hid hP
                 clear hP HRB
                 have hle1:en≤P.cB:=by omega
                 refine At.start (L:=#[false,false,false,false,false,false,false,false,false,false,false,false,false,false]) (by kernel_rfl) rfl ?_
                 refine AtP 0 156 ?_
                 refine AtP 1 157 ?_
                 refine At.read 2 (some 158) (fun w'=>w'.cell? ⟨gx,2,none⟩=some (.slice P.B P.bs.length P.cB)) (v:=?v2pb) rfl rfl (by kernel_rfl) (fun _ _ _ h=>h) rfl d2' (fun w' hw'=>?y2pb) ?_
                 case y2pb=>skip;go_simp;try with_reducible rfl
                 try simp only [NS]
                 refine AtP 3 159 ?_
                 refine AtP 4 160 ?_
                 refine At.read 5 (some 161) (fun w'=>w'.cell? ⟨gx,1,none⟩=some (.slice (some ⟨xa,oa,none⟩) P.ps.length P.cA)) (v:=?v5pb) rfl rfl (by kernel_rfl) (fun _ _ _ h=>h) rfl d1 (fun w' hw'=>?y5pb) ?_
                 case y5pb=>skip;go_simp;try with_reducible rfl
                 try simp only [NS]
                 refine AtP 6 162 ?_
                 refine AtP 7 163 ?_
                 refine AtP 8 164 ?_
                 refine AtP 9 165 ?_
                 refine At.read 10 (some 166) (fun w'=>w'.cell? ⟨xa,oa+kb*2,none⟩=some (.int .i64 en)) (v:=?v10pb) rfl rfl (by kernel_rfl) (fun _ _ _ h=>h) rfl d3 (fun w' hw'=>?y10pb) ?_
                 case y10pb=>skip;go_simp;try with_reducible rfl
                 try simp only [NS]
                 refine AtP 11 167 ?_
                 refine AtC 12 fun K hK=>?_
                 refine wp_append_src _ (.tmp 156) (.tmp 167) 25 rfl b2 5 i0 _ 1 Tryz.underlying25 hi0 hz0 hz1 hz2 rfl _ _ _ rfl HOW.out _ _ _ _ rfl HRD.out (oneCell_ints _ _) (by simp only [maxLen];omega) (by omega) (by show b2≤w9.heap.size;omega) ?_
                 intro v2 w10 hown2 hg2 hat2 _hold2
                 obtain⟨BA4,cb4,rfl⟩:=own_form hown2
                 have HS10:=hid (HSD.out.app HBY.out hown2 hg2 hat2)
                 clear hown2 hg2 hat2 _hold2
                 refine hK _ _ all_nil ?_
                 clear hK K
                 try simp only [NS]
                 refine AtP 13 16 ?_
                 refine At.done (by kernel_rfl) ?_
                 go_wp2_with fail
                 go_roundw
                 case rel=>exact⟨k+1,A8,_,BA4,nb3+mm,cb4,_,by omega,by go_num,rfl,hid (by have:=HQ3.out;omega),HS10⟩
                 case measure=>simp [intOf]<;>omega
           · have e1:((pa:Int)==0)=false:=by simp;omega
             have e3:(pa==0)=false:=by simp;omega
             by_cases hlt:pa<pb
             · have e2:((pb:Int)==(pa:Int))=false:=by simp;omega
               have d2:decide ((pa:Int)<(pb:Int))=true:=by simp;omega
               go_wp2_with fail
               refine(wbit_any G base (fun _=>False) _ b2 b2 q3 A3 1 HS6.out.ws HS6.out.fits HS6.out.hb (by omega)).mono ?_
               rintro e w7 ⟨A7,rfl,hW7,hF7,hg7,hk7⟩
               have HS7:=hid (HS6.out.step hF7 hW7 hg7 hk7 (fun _ h=>h.elim))
               have HN6:=HS6.out.ws.footN
               have HKF:=HV6.out.keepFW hF7 HN6 (hk7.mono (fun i _ hi=>hi.elim (fun h=>h.elim) .inr))
               have HV7:=hid HKF.1
               have HPO7:=hid (HKF.2.1 P HPO6.out)
               have HPR7:=hid (HKF.2.2 _ _ HPR6.out)
               clear HN6 HKF hW7 hF7 hg7 hk7 HS6 HV6 HPO6 HPR6
               have HLT:=hid hlt
               go_wp2_with fail
               refine(say_any G base _ b g n pl c9 gi gu st cs P k b2 b2 _ A7 style pa pb HV7.out hkn HPO7.out HPR7.out HS7.out.ws HS7.out.hb (by omega) (by omega) hbn).mono ?_
               rintro e w8 ⟨A8,cs8,lb8,rfl,hW8,hg8,hk8,hv8,hp8,hr8⟩
               have HS8:=hid (HS7.out.step hv8.fits hW8 hg8 hk8 (fun j h=>by rcases h with h|h;exact .inl (.inl h);exact .inr h))
               have HPO8:=hid hp8
               have hr3:w8.rangeAt g (k*5) [.int .i64 P.pl,.slice P.A P.ps.length P.cA,.slice P.B P.bs.length P.cB]:=fun j v hj=>by
                have hj3:j<3:=(List.getElem?_eq_some_iff.1 hj).1
                refine hr8 j v ?_
                rw [← hj]
                rcases (show j=0∨j=1∨j=2 by omega)with rfl|rfl|rfl<;>rfl
               have HR3:=hid hr3
               have y1:w8.cell? ⟨b,1,none⟩=some (.slice (some ⟨g,0,none⟩) n c9):=hv8.bb.cell 1
               clear hW8 hg8 hk8 hv8 hp8 hr8 hr3 HS7 HV7 HPO7 HPR7
               go_upto_region 33 with(refine wpList_load_mid rfl 117 (.tmp 145) rfl _ _ rfl _ _ HR3.out Tryz.underlying117 rfl (by kernel_rfl) ?_)
               have hka:Keep (fun _=>False) w8 (w8.alloc (.cells #[.int .i64 P.pl,.slice P.A P.ps.length P.cA,.slice P.B P.bs.length P.cB] 117)):=(Keep.refl _ w8).alloc _
               have HS9:=hid (HS8.out.aside hka)
               have HPO9:=hid (HPO8.out.keep hka (fun _ h=>h.elim))
               have BX:=hid (Blk.new w8 117 #[.int .i64 P.pl,.slice P.A P.ps.length P.cA,.slice P.B P.bs.length P.cB])
               generalize w8.alloc (.cells #[.int .i64 P.pl,.slice P.A P.ps.length P.cA,.slice P.B P.bs.length P.cB] 117)=w9 at*
               generalize w8.heap.size=gx at*
               clear hka y1 HR3 HS8 HPO8
               obtain⟨xa,oa,en,pB,hAe,hcE,hle,hpB,hpe⟩: ∃(x o e:Nat) (p:Int×Bool),P.A=some ⟨x,o,none⟩∧w9.cell? ⟨x,o+(pb-1)*2,none⟩=some (.int .i64 e)∧e≤P.bs.length∧P.ps[pb-1]? =some p∧p.1=e:=HPO9.out.endAt (i:=pb-1) (show pb-1<P.ps.length by have:=HLT.out;omega)
               have hbc:P.bs.length≤P.cB:=HPO9.out.cb
               have hnb9:P.bs.length≤100000:=HPO9.out.nb
               have HPB:=hid hpB
               have HPE:=hid hpe
               have x1:w9.cell? ⟨gx,1,none⟩=some (.slice P.A P.ps.length P.cA):=BX.out.cell 1
               have x2:w9.cell? ⟨gx,2,none⟩=some (.slice P.B P.bs.length P.cB):=BX.out.cell 2
               rw [hAe]at x1
               have HAE:=hid hAe
               clear hpB hpe hAe BX
               obtain⟨kb,hkb⟩: ∃kb,pb-1=kb:=⟨_,rfl⟩
               rw [hkb]at hcE HPB
               have hkbl:kb<P.ps.length:=by have:=HLT.out;omega
               have hwb:IntKind.i64.wrap ((pb:Int)-1)=(kb:Int):=by have:=HLT.out;rw [IntWalk.i64_in _ (by omega)];omega
               have HKB:=hid hkb
               clear hkb
               obtain⟨ka,hka⟩: ∃ka,pa-1=ka:=⟨_,rfl⟩
               obtain⟨xa',oa',ws,pA,hAe',hcA,_,hpA,hpe'⟩: ∃(x o e:Nat) (p:Int×Bool),P.A=some ⟨x,o,none⟩∧w9.cell? ⟨x,o+ka*2,none⟩=some (.int .i64 e)∧e≤P.bs.length∧P.ps[ka]? =some p∧p.1=e:=HPO9.out.endAt (i:=ka) (show ka<P.ps.length by have:=HLT.out;omega)
               rw [HAE.out]at hAe'
               injection hAe' with hAe'
               injection hAe' with hx9 ho9
               subst hx9 ho9
               have hwe:ws≤en:=by
                have h1:=HPO9.out.endLe (i:=ka) (j:=kb) (show ka≤kb by have:=HLT.out;have:=HKB.out;omega) hpA HPB.out
                rw [hpe',HPE.out]at h1
                exact Int.ofNat_le.1 h1
               have hkal:ka<P.ps.length:=by have:=HLT.out;omega
               have hwa:IntKind.i64.wrap ((pa:Int)-1)=(ka:Int):=by rw [IntWalk.i64_in _ (by omega)];omega
               have d5:decide ((0:Int)<(pa:Int))=true:=by simp;omega
               clear hka hpA hpe'
               go_upto_region 36 with fail
               clear hcA
               have HRB:=hid ((HPO9.out.rb.keepF ((Keep.refl (fun _=>False) w9).drew)).part (k:=ws) (m:=en-ws) (cap:=P.cB) (show ws+(en-ws)≤P.bs.length by omega) hbc)
               obtain⟨mm,hmm⟩: ∃mm,en-ws=mm:=⟨_,rfl⟩
               have HMM:=hid hmm
               obtain⟨ys,hys⟩: ∃ys,(P.bs.drop ws).take mm=ys:=⟨_,rfl⟩
               have HBY:=hid (show Bytes ys from by
                rw [← hys]
                exact fun z hz=>HPO9.out.bytes z (List.mem_of_mem_drop (List.mem_of_mem_take hz)))
               rw [hmm]at HRB
               rw [show((List.map (Value.int .u8) P.bs).drop ws).take mm=ys.map (Value.int .u8)from by rw [← hys,List.map_take,List.map_drop]]at HRB
               have hmb:mm≤100000:=by omega
               have HOW:=hid (own_drew HS9.out.bod)
               have HSD:=hid (HS9.out.aside ((Keep.refl (fun _=>False) w9).drew))
               have hb9:=HS9.out.hb
               have d1:w9.drew.cell? ⟨gx,1,none⟩=some (.slice (some ⟨xa,oa,none⟩) P.ps.length P.cA):=x1
               have d2':w9.drew.cell? ⟨gx,2,none⟩=some (.slice P.B P.bs.length P.cB):=x2
               have d3:w9.drew.cell? ⟨xa,oa+kb*2,none⟩=some (.int .i64 en):=hcE
               clear hys x1 x2 hcE HPO9 HS9
               by_cases hcq:P.cB=ws
               · have hP:=HRB.out
                 rw [if_pos hcq]at hP
                 have HRD:=hid hP
                 clear hP HRB
                 have hle1:en≤ws:=by omega
                 refine At.start (L:=#[false,false,false,false,false,false,false,false,false,false,false,false,false,false]) (by kernel_rfl) rfl ?_
                 refine AtP 0 156 ?_
                 refine AtP 1 157 ?_
                 refine At.read 2 (some 158) (fun w'=>w'.cell? ⟨gx,2,none⟩=some (.slice P.B P.bs.length P.cB)) (v:=?v2qa) rfl rfl (by kernel_rfl) (fun _ _ _ h=>h) rfl d2' (fun w' hw'=>?y2qa) ?_
                 case y2qa=>skip;go_simp;try with_reducible rfl
                 try simp only [NS]
                 refine AtP 3 159 ?_
                 refine AtP 4 160 ?_
                 refine At.read 5 (some 161) (fun w'=>w'.cell? ⟨gx,1,none⟩=some (.slice (some ⟨xa,oa,none⟩) P.ps.length P.cA)) (v:=?v5qa) rfl rfl (by kernel_rfl) (fun _ _ _ h=>h) rfl d1 (fun w' hw'=>?y5qa) ?_
                 case y5qa=>skip;go_simp;try with_reducible rfl
                 try simp only [NS]
                 refine AtP 6 162 ?_
                 refine AtP 7 163 ?_
                 refine AtP 8 164 ?_
                 refine AtP 9 165 ?_
                 refine At.read 10 (some 166) (fun w'=>w'.cell? ⟨xa,oa+kb*2,none⟩=some (.int .i64 en)) (v:=?v10qa) rfl rfl (by kernel_rfl) (fun _ _ _ h=>h) rfl d3 (fun w' hw'=>?y10qa) ?_
                 case y10qa=>skip;go_simp;try with_reducible rfl
                 try simp only [NS]
                 refine AtP 11 167 ?_
                 refine AtC 12 fun K hK=>?_
                 refine wp_append_src _ (.tmp 156) (.tmp 167) 25 rfl b2 5 i0 _ 1 Tryz.underlying25 hi0 hz0 hz1 hz2 rfl _ _ _ rfl HOW.out _ _ _ _ rfl HRD.out (oneCell_ints _ _) (by simp only [maxLen];omega) (by omega) (by show b2≤w9.heap.size;omega) ?_
                 intro v2 w10 hown2 hg2 hat2 _hold2
                 obtain⟨BA4,cb4,rfl⟩:=own_form hown2
                 have HS10:=hid (HSD.out.app HBY.out hown2 hg2 hat2)
                 clear hown2 hg2 hat2 _hold2
                 refine hK _ _ all_nil ?_
                 clear hK K
                 try simp only [NS]
                 refine AtP 13 16 ?_
                 refine At.done (by kernel_rfl) ?_
                 go_wp2_with fail
                 go_roundw
                 case rel=>exact⟨k+1,A8,_,BA4,nb3+mm,cb4,_,by omega,by go_num,rfl,hid (by have:=HQ3.out;omega),HS10⟩
                 case measure=>simp [intOf]<;>omega
               · have hP:=HRB.out
                 rw [if_neg hcq]at hP
                 have HRD:=hid hP
                 clear hP HRB
                 have hle1:en≤P.cB:=by omega
                 refine At.start (L:=#[false,false,false,false,false,false,false,false,false,false,false,false,false,false]) (by kernel_rfl) rfl ?_
                 refine AtP 0 156 ?_
                 refine AtP 1 157 ?_
                 refine At.read 2 (some 158) (fun w'=>w'.cell? ⟨gx,2,none⟩=some (.slice P.B P.bs.length P.cB)) (v:=?v2qb) rfl rfl (by kernel_rfl) (fun _ _ _ h=>h) rfl d2' (fun w' hw'=>?y2qb) ?_
                 case y2qb=>skip;go_simp;try with_reducible rfl
                 try simp only [NS]
                 refine AtP 3 159 ?_
                 refine AtP 4 160 ?_
                 refine At.read 5 (some 161) (fun w'=>w'.cell? ⟨gx,1,none⟩=some (.slice (some ⟨xa,oa,none⟩) P.ps.length P.cA)) (v:=?v5qb) rfl rfl (by kernel_rfl) (fun _ _ _ h=>h) rfl d1 (fun w' hw'=>?y5qb) ?_
                 case y5qb=>skip;go_simp;try with_reducible rfl
                 try simp only [NS]
                 refine AtP 6 162 ?_
                 refine AtP 7 163 ?_
                 refine AtP 8 164 ?_
                 refine AtP 9 165 ?_
                 refine At.read 10 (some 166) (fun w'=>w'.cell? ⟨xa,oa+kb*2,none⟩=some (.int .i64 en)) (v:=?v10qb) rfl rfl (by kernel_rfl) (fun _ _ _ h=>h) rfl d3 (fun w' hw'=>?y10qb) ?_
                 case y10qb=>skip;go_simp;try with_reducible rfl
                 try simp only [NS]
                 refine AtP 11 167 ?_
                 refine AtC 12 fun K hK=>?_
                 refine wp_append_src _ (.tmp 156) (.tmp 167) 25 rfl b2 5 i0 _ 1 Tryz.underlying25 hi0 hz0 hz1 hz2 rfl _ _ _ rfl HOW.out _ _ _ _ rfl HRD.out (oneCell_ints _ _) (by simp only [maxLen];omega) (by omega) (by show b2≤w9.heap.size;omega) ?_
                 intro v2 w10 hown2 hg2 hat2 _hold2
                 obtain⟨BA4,cb4,rfl⟩:=own_form hown2
                 have HS10:=hid (HSD.out.app HBY.out hown2 hg2 hat2)
                 clear hown2 hg2 hat2 _hold2
                 refine hK _ _ all_nil ?_
                 clear hK K
                 try simp only [NS]
                 refine AtP 13 16 ?_
                 refine At.done (by kernel_rfl) ?_
                 go_wp2_with fail
                 go_roundw
                 case rel=>exact⟨k+1,A8,_,BA4,nb3+mm,cb4,_,by omega,by go_num,rfl,hid (by have:=HQ3.out;omega),HS10⟩
                 case measure=>simp [intOf]<;>omega
             · have e2:((pb:Int)==(pa:Int))=true:=by simp;omega
               have d2:decide ((pa:Int)<(pb:Int))=false:=by simp;omega
               go_wp2_with fail
               refine(wbit_any G base (fun _=>False) _ b2 b2 q3 A3 0 HS6.out.ws HS6.out.fits HS6.out.hb (by omega)).mono ?_
               rintro e w7 ⟨A7,rfl,hW7,hF7,hg7,hk7⟩
               have HS7:=hid (HS6.out.step hF7 hW7 hg7 hk7 (fun _ h=>h.elim))
               have HN6:=HS6.out.ws.footN
               have HKF:=HV6.out.keepFW hF7 HN6 (hk7.mono (fun i _ hi=>hi.elim (fun h=>h.elim) .inr))
               have HV7:=hid HKF.1
               have HPO7:=hid (HKF.2.1 P HPO6.out)
               have HPR7:=hid (HKF.2.2 _ _ HPR6.out)
               clear HN6 HKF hW7 hF7 hg7 hk7 HS6 HV6 HPO6 HPR6
               go_wp2_with fail
               go_roundw
               case rel=>exact⟨k+1,A7,_,BA3,nb3,cb3,body3,by omega,by go_num,rfl,hid (by have:=HQ3.out;omega),HS7⟩
               case measure=>simp [intOf]<;>omega
         · obtain rfl:k=n:=by omega
           go_wp2_with fail
           go_roundw
           case rel=>exact⟨i+1,A3,q3,BA3,nb3,cb3,body3,by omega,by go_num,rfl,hid (by
            have h1:=HQ3.out
            have h2:=HZE.out
            have h3:=HYE.out
            have h4:k*14000≤Z:=by rw [← h2];exact Nat.mul_le_mul_right _ hnb
            have h5:k*100000≤Y:=by rw [← h3];exact Nat.mul_le_mul_right _ hnb
            rw [Nat.add_mul,Nat.add_mul,Nat.one_mul,Nat.one_mul]
            omega),HS⟩
           case measure=>simp [intOf]<;>omega
      · obtain rfl:i=m:=by omega
        have HQ2:=hid (show q2+1≤14000*T+10∧nb≤100000*T from by
         have h1:=HQ.out
         have h2:i*Z=14000*(i*NB):=by rw [← HZE.out,←Nat.mul_assoc,Nat.mul_comm]
         have h3:i*Y=100000*(i*NB):=by rw [← HYE.out,←Nat.mul_assoc,Nat.mul_comm]
         omega)
        have hq9:q2≤1500000:=by have:=HQ2.out;omega
        go_wp2_with fail
        obtain⟨nn,cc,l,rr,a1,a2,a3,a4,a5⟩:=HS2.out.ws
        have HL2:=hid a3
        have HB2:=hid a2.bytes
        refine(Bw.rbytes_any _ b2 b2 A2 nn cc l rr a1 a2 (by omega)).mono ?_
        rintro e w9 ⟨X,kx,dx,rfl,hx9,hk9⟩
        have HZ:=hid (pks_done (T:=T) HS2.out HQ2.out.1 HQ2.out.2 hx9 HL2.out HB2.out hk9)
        clear hx9 hk9
        go_wp2_with fail
        exact bodyPost_ret (v:=.tuple #[_,_]) (by simp [results,Tryz.results42,go_sem]<;>exact⟨rfl,rfl⟩) rfl HZ.out
end Go.Proofs.YthfogcgdijmaoaaGreat
