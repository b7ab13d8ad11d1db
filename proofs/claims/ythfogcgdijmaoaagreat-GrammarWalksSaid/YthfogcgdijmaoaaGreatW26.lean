/-
  Part 26 of the proof: BandS Count Segs SayS. Conditions: those of the statements.
-/
import Derived.Test.YthfogcgdijmaoaaGreatW25
import Derived.Deep.QuietTactic
import Derived.BigQuiet
import Derived.Deep.DeepCutAuto
set_option maxRecDepth 100000
set_option maxHeartbeats 16000000
set_option linter.unusedVariables false
set_option linter.unusedSimpArgs false
namespace Go.Proofs.YthfogcgdijmaoaaGreat
open Go.RowKit
theorem news_any (w:World) (P:Pv) (of l:Nat) (hn:P.ps.length≤88) (ho:0<of) (ho2:of≤8) (hl:l≤90):
 Calls Tryz.prog 67 #[.agg P.cells.toArray,.int .i64 of,.int .i64 l] w (fun e w'=>e=.returned (.tuple #[.int .i64 (passM P.ps.length of l:Nat),.int .i64 (passM P.ps.length of (l+1):Nat)])∧Keep (fun _=>False) w w'):=by
 have HB:=hid (Blk.new w 139 P.cells.toArray)
 have HK:=hid ((Keep.refl (fun _=>False) w).alloc (.cells P.cells.toArray 139))
 have PA:=fun w=>passes_any w P.ps.length of l (by omega) ho ho2 (by omega)
 have PB:=fun w=>passes_any w P.ps.length of (l+1) (by omega) ho ho2 (by omega)
 go_enter Tryz.func67,Tryz.ntmps67
 go_upto_region 1 with fail
 generalize w.alloc (.cells P.cells.toArray 139)=w1 at*
 have c1:w1.cell? ⟨w.heap.size,1,none⟩=some (.slice P.A P.ps.length P.cA):=HB.out.cell 1
 go_wp2_with fail
 refine(PA _).mono ?_
 rintro e w2 ⟨rfl,rfl⟩
 go_wp2_with fail
 refine(PB _).mono ?_
 rintro e w2 ⟨rfl,rfl⟩
 have HZ:=hid HK.out
 go_wp2_with fail
 exact bodyPost_ret (v:=.tuple #[_,_]) (by simp [results,Tryz.results67,go_sem]<;>exact⟨rfl,rfl⟩) rfl ⟨rfl,HZ.out⟩
def TB2 (G:Nat→Option Kd) (j:Nat):Prop:=TN G j∨ ∃n,G j=some (.band n)
def SetP (G:Nat→Option Kd) (base:Nat) (w:World) (e:Ending) (w':World):Prop:=e=.returned (.tuple #[])∧Fits G base w'∧Keep (TB2 G) w w'
theorem set_none (G:Nat→Option Kd) (base:Nat) (w:World) (b of:Nat) (hF:Fits G base w) (hG:G b=some (.band 0)):
 Calls Tryz.prog 66 #[.pointer (some ⟨b,0,none⟩),.int .i64 of] w (SetP G base w):=by
 obtain⟨_,_,pl,A,c,gi,gu,st,h1,h2,h3,h4,h5,h6,h7,h8⟩:=hF.at_ b _ hG
 have b4:=h1.cell 4
 have f4:=h1.frozen 4
 have hlt:=h1.lt
 cases st with
 |true=>
  have HZ:=hid (show SetP G base w (.returned (.tuple #[])) w from⟨rfl,hF,Keep.refl _ _⟩)
  clear hF hG h1 h6 h7 h8
  go_enter Tryz.func66,Tryz.ntmps66
  go_wp2_with fail
  refine bodyPost_ret (results_none rfl _ _ _) rfl ?_
  exact HZ.out
 |false=>
  have hk:=Keep.set1 w b 4 (.bool true)
  have hb:Blk (w.setCell ⟨b,4,none⟩ (.bool true)) b 137 #[.int .i64 pl,.slice A 0 c,.pointer (some ⟨gi,0,none⟩),.pointer (some ⟨gu,0,none⟩),.bool true]:=h1.set_ 4 (.bool true)
  have b1:=hb.cell 1
  have HZ:=hid (show SetP G base w (.returned (.tuple #[])) (w.setCell ⟨b,4,none⟩ (.bool true))from⟨rfl,hF.step hG (by intro h;cases h) hk ⟨pl,A,c,gi,gu,true,hb,h2,h3,h4,h5,fun h=>absurd h (by omega),h7,h8⟩,hk.mono (fun i _ e=>.inr ⟨0,by rw [show i=b from e];exact hG⟩)⟩)
  clear hF hG h1 h6 h7 h8 hb hk
  go_enter Tryz.func66,Tryz.ntmps66
  go_upto_region 2 with fail
  generalize w.setCell ⟨b,4,none⟩ (.bool true)=w1 at*
  go_wp2_with fail
  go_loop [4] (fun v=>v=.int .i64 0) (fun _=>0)
  case atStart=>rfl
  case round=>
   subst hrel
   go_wp2_with fail
   go_end0
   exact HZ.out
theorem set_any (G:Nat→Option Kd) (base:Nat) (w:World) (b n of:Nat) (hF:Fits G base w) (hG:G b=some (.band n)) (ho:0<of) (ho2:of≤8):
 Calls Tryz.prog 66 #[.pointer (some ⟨b,0,none⟩),.int .i64 of] w (SetP G base w):=by
 by_cases hn0:n=0
 · subst hn0
   exact set_none G base w b of hF hG
 · obtain⟨g,pl,c,gi,gu,st,cs,hv⟩:=hF.band hG (by omega)
   have b4:=hv.bb.cell 4
   have f4:=hv.bb.frozen 4
   have hlt:=hv.bb.lt
   cases st with
   |true=>
    have HZ:=hid (show SetP G base w (.returned (.tuple #[])) w from⟨rfl,hF,Keep.refl _ _⟩)
    clear hF hG hv
    go_enter Tryz.func66,Tryz.ntmps66
    go_wp2_with fail
    refine bodyPost_ret (results_none rfl _ _ _) rfl ?_
    exact HZ.out
   |false=>
    have hnc:=hv.nc
    have hn25:=hv.n25
    have HV0:=hid (hv.setSt true)
    have HGB:=hid hG
    have HK0:=hid ((Keep.set1 w b 4 (.bool true)).mono (T:=TB2 G) (fun i _ e=>.inr ⟨n,by rw [show i=b from e];exact hG⟩))
    clear hF hG hv
    go_enter Tryz.func66,Tryz.ntmps66
    go_upto_region 2 with fail
    generalize w.setCell ⟨b,4,none⟩ (.bool true)=w1 at*
    go_wp2_with fail
    go_loopw [4] (fun v wr=> ∃k:Nat,k≤n∧v=.int .i64 k∧Hid (∃ cs,Bv G base wr b g n pl c gi gu true cs)∧Hid (Keep (TB2 G) w wr)) (fun v _=>n-(intOf v).toNat)
    case atStart=>exact⟨0,by omega,rfl,hid ⟨_,HV0.out⟩,HK0⟩
    case round=>
     clear HV0 HK0
     obtain⟨k,hk,rfl,HV,HK⟩:=hrel
     obtain⟨cs,hv⟩:=HV.out
     have b1:wr.cell? ⟨b,1,none⟩=some (.slice (some ⟨g,0,none⟩) n c):=hv.bb.cell 1
     by_cases hkn:k<n
     · obtain⟨P,hP,hPr⟩:=hv.part hkn
       have hnp:=hP.np
       have p1:wr.cell? ⟨g,k*5+1,none⟩=some (.slice P.A P.ps.length P.cA):=hPr 1 _ rfl
       have HGI:=hid hv.gi
       have HGU:=hid hv.gu
       have b2:wr.cell? ⟨b,2,none⟩=some (.pointer (some ⟨gi,0,none⟩)):=hv.bb.cell 2
       have PA:=hid (fun w l (hl:l≤90)=>passes_any w P.ps.length of l (by omega) ho ho2 (by omega))
       generalize P.ps.length=np at*
       have HF:=hid hv.fits
       clear hP hPr
       go_wp2_with fail
       go_loop [5] (fun v=> ∃l:Nat,l≤of∧v=.int .i64 l) (fun v=>of-(intOf v).toNat)
       case atStart=>exact⟨0,by omega,rfl⟩
       case round=>
        obtain⟨l,hl,rfl⟩:=hrel
        by_cases hlo:l<of
        · by_cases hz:passM np of (l+1)=0
          · have hz1:((passM np of (l+1):Nat):Int)=0:=by omega
            go_wp2_with (go_at_call 95;refine(PA.out _ (l+1) (by omega)).mono ?_;rintro e w5 ⟨rfl,rfl⟩)
            go_round
            case rel=>exact⟨l+1,by omega,by go_num⟩
            case measure=>simp [intOf]<;>omega
          · have hz1:(((passM np of (l+1):Nat):Int)==0)=false:=by simp;omega
            have hz2:(passM np of (l+1)==0)=false:=by simpa using hz
            go_wp2_with (go_at_call 95;refine(PA.out _ (l+1) (by omega)).mono ?_;rintro e w5 ⟨rfl,rfl⟩)
            refine(tset_any G base _ gi n k l HF.out HGI.out hkn).mono ?_
            rintro e w5 ⟨rfl,hF5,hk5⟩
            have HV5:=hid (hv.keepT hk5 hF5)
            have HK5:=hid (HK.out.trans hk5 (fun _ _ h=>.inl h))
            obtain⟨P5,hP5,hPr5⟩:=HV5.out.part hkn
            have d0:w5.drew.cell? ⟨b,0,none⟩=some (.int .i64 pl):=HV5.out.bb.cell 0
            have d1:w5.drew.cell? ⟨b,1,none⟩=some (.slice (some ⟨g,0,none⟩) n c):=HV5.out.bb.cell 1
            have d3:w5.drew.cell? ⟨b,3,none⟩=some (.pointer (some ⟨gu,0,none⟩)):=HV5.out.bb.cell 3
            have e0:w5.drew.cell? ⟨g,k*5,none⟩=some (.int .i64 P5.pl):=hPr5 0 _ rfl
            have HV6:=hid (HV5.out.keepF ((Keep.refl (fun _=>False) w5).drew))
            have hk0:(0:Int)≤(k:Int):=by omega
            have hk1:(k:Int)<(n:Int):=by omega
            clear hk5 hP5 hPr5 hF5
            go_wp2_with fail
            refine At.start (L:=#[false,false,false,false,false,false,false,false,false,false,false,false,false,false,false,false,false,false,false,false]) (by kernel_rfl) rfl ?_
            refine AtP 0 51 ?_
            refine AtP 1 52 ?_
            refine AtP 2 53 ?_
            refine AtL 3 54 Tryz.underlying135 ?_
            refine AtP 4 55 ?_
            refine AtP 5 56 ?_
            refine AtP 6 57 ?_
            refine AtP 7 58 ?_
            refine AtL 8 59 Tryz.underlying3 ?_
            refine AtP 9 60 ?_
            refine AtP 10 61 ?_
            refine AtP 11 62 ?_
            refine AtL 12 63 Tryz.underlying134 ?_
            refine AtP 13 64 ?_
            refine AtP 14 65 ?_
            refine AtP 15 66 ?_
            refine AtP 16 67 ?_
            refine AtL 17 68 Tryz.underlying3 ?_
            refine AtP 18 69 ?_
            refine AtC 19 fun K hK=>?_
            go_simp
            refine(tset_any G base _ gu n k _ HV6.out.fits HGU.out hkn).mono ?_
            rintro e w7 ⟨rfl,hF7,hk7⟩
            have HV7:=hid (HV6.out.keepT hk7 hF7)
            have HK7:=hid ((HK5.out.drew).trans hk7 (fun _ _ h=>.inl h))
            clear hk7 hF7
            refine hK _ _ all_nil ?_
            clear hK K
            try simp only [NS]
            refine At.done (by kernel_rfl) ?_
            go_wp2_with fail
            go_roundw
            case rel=>exact⟨k+1,by omega,by go_num,hid ⟨_,HV7.out⟩,HK7⟩
            case measure=>simp [intOf]<;>omega
        · go_wp2_with fail
          refine(tset_any G base _ gi n k l HF.out HGI.out hkn).mono ?_
          rintro e w5 ⟨rfl,hF5,hk5⟩
          have HV5:=hid (hv.keepT hk5 hF5)
          have HK5:=hid (HK.out.trans hk5 (fun _ _ h=>.inl h))
          obtain⟨P5,hP5,hPr5⟩:=HV5.out.part hkn
          have d0:w5.drew.cell? ⟨b,0,none⟩=some (.int .i64 pl):=HV5.out.bb.cell 0
          have d1:w5.drew.cell? ⟨b,1,none⟩=some (.slice (some ⟨g,0,none⟩) n c):=HV5.out.bb.cell 1
          have d3:w5.drew.cell? ⟨b,3,none⟩=some (.pointer (some ⟨gu,0,none⟩)):=HV5.out.bb.cell 3
          have e0:w5.drew.cell? ⟨g,k*5,none⟩=some (.int .i64 P5.pl):=hPr5 0 _ rfl
          have HV6:=hid (HV5.out.keepF ((Keep.refl (fun _=>False) w5).drew))
          have hk0:(0:Int)≤(k:Int):=by omega
          have hk1:(k:Int)<(n:Int):=by omega
          clear hk5 hP5 hPr5 hF5
          go_wp2_with fail
          refine At.start (L:=#[false,false,false,false,false,false,false,false,false,false,false,false,false,false,false,false,false,false,false,false]) (by kernel_rfl) rfl ?_
          refine AtP 0 51 ?_
          refine AtP 1 52 ?_
          refine AtP 2 53 ?_
          refine AtL 3 54 Tryz.underlying135 ?_
          refine AtP 4 55 ?_
          refine AtP 5 56 ?_
          refine AtP 6 57 ?_
          refine AtP 7 58 ?_
          refine AtL 8 59 Tryz.underlying3 ?_
          refine AtP 9 60 ?_
          refine AtP 10 61 ?_
          refine AtP 11 62 ?_
          refine AtL 12 63 Tryz.underlying134 ?_
          refine AtP 13 64 ?_
          refine AtP 14 65 ?_
          refine AtP 15 66 ?_
          refine AtP 16 67 ?_
          refine AtL 17 68 Tryz.underlying3 ?_
          refine AtP 18 69 ?_
          refine AtC 19 fun K hK=>?_
          go_simp
          refine(tset_any G base _ gu n k _ HV6.out.fits HGU.out hkn).mono ?_
          rintro e w7 ⟨rfl,hF7,hk7⟩
          have HV7:=hid (HV6.out.keepT hk7 hF7)
          have HK7:=hid ((HK5.out.drew).trans hk7 (fun _ _ h=>.inl h))
          clear hk7 hF7
          refine hK _ _ all_nil ?_
          clear hK K
          try simp only [NS]
          refine At.done (by kernel_rfl) ?_
          go_wp2_with fail
          go_roundw
          case rel=>exact⟨k+1,by omega,by go_num,hid ⟨_,HV7.out⟩,HK7⟩
          case measure=>simp [intOf]<;>omega
     · have HZ:=hid (show SetP G base w (.returned (.tuple #[])) wr from⟨rfl,hv.fits,HK.out⟩)
       clear hv
       go_wp2_with fail
       go_end0
       exact HZ.out
theorem count_any (G:Nat→Option Kd) (base:Nat) (S:Nat→Prop) (w:World) (b2 W q:Nat) (A:Option Addr) (n:Int) (h:WSt G w b2 W A q) (hF:Fits G base w) (hb:b2≤w.heap.size) (hq:q≤268435456):
 Calls Tryz.prog 99 #[.pointer (some ⟨W,0,none⟩),.int .i64 n] w (WbP G base S w b2 W A (q+64)):=by
 have BT:=hid (fun x s=>wbits_any G base S w b2 W q A x s h hF hb (by omega))
 have BT2:=hid (fun (w2:World) (A2:Option Addr) (x s:Int) (h2:WSt G w2 b2 W A2 (q+32)) (hF2:Fits G base w2) (hb2:b2≤w2.heap.size)=>wbits_any G base S w2 b2 W (q+32) A2 x s h2 hF2 hb2 (by omega))
 have HB:=hid hb
 clear h hF hb
 go_enter Tryz.func99,Tryz.ntmps99
 by_cases h1:n=1
 · subst h1
   go_wp2_with fail
   refine(BT.out _ _).mono ?_
   rintro e w2 ⟨A2,rfl,hW2,hF2,hg2,hk2⟩
   have HZ:=hid (show WbP G base S w b2 W A (q+64) (.returned (.tuple #[])) w2 from⟨A2,rfl,hW2.up (by omega),hF2,hg2,hk2⟩)
   clear hW2 hF2 hg2 hk2
   go_wp2_with fail
   go_end0
   exact HZ.out
 · have e1:(n==1)=false:=by simpa using h1
   by_cases h2:n=2
   · subst h2
     go_wp2_with fail
     refine(BT.out _ _).mono ?_
     rintro e w2 ⟨A2,rfl,hW2,hF2,hg2,hk2⟩
     have HZ:=hid (show WbP G base S w b2 W A (q+64) (.returned (.tuple #[])) w2 from⟨A2,rfl,hW2.up (by omega),hF2,hg2,hk2⟩)
     clear hW2 hF2 hg2 hk2
     go_wp2_with fail
     go_end0
     exact HZ.out
   · have e2:(n==2)=false:=by simpa using h2
     by_cases h5:n≤5
     · have d5:decide (n≤5)=true:=by simpa using h5
       go_wp2_with fail
       refine(BT.out _ _).mono ?_
       rintro e w2 ⟨A2,rfl,hW2,hF2,hg2,hk2⟩
       have HZ:=hid (show WbP G base S w b2 W A (q+64) (.returned (.tuple #[])) w2 from⟨A2,rfl,hW2.up (by omega),hF2,hg2,hk2⟩)
       clear hW2 hF2 hg2 hk2
       go_wp2_with fail
       go_end0
       exact HZ.out
     · have d5:decide (n≤5)=false:=by simpa using h5
       by_cases h36:n≤36
       all_goals
        go_wp2_with fail
        refine(BT.out _ _).mono ?_
        rintro e w2 ⟨A2,rfl,hW2,hF2,hg2,hk2⟩
        have HG2:=hid hg2
        have HK2:=hid hk2
        have hb2':=HB.out
        have hs2:=hk2.size
        go_wp2_with fail
        refine(BT2.out w2 A2 _ _ hW2 hF2 (by omega)).mono ?_
        rintro e w3 ⟨A3,rfl,hW3,hF3,hg3,hk3⟩
        have HZ:=hid (show WbP G base S w b2 W A (q+64) (.returned (.tuple #[])) w3 from⟨A3,rfl,hW3.up (by omega),hF3,grew_trans HG2.out hg3 hs2,fw_next HG2.out HK2.out hk3⟩)
        clear hW2 hF2 hg2 hk2 hW3 hF3 hg3 hk3
        go_wp2_with fail
        go_end0
        exact HZ.out
def EndP (n:Nat) (ps:List (Int×Bool)) (w:World) (e:Ending) (w':World):Prop:= ∃A c,e=.returned (.slice A n c)∧n≤c∧w'.ownsRow w.heap.size 3 1 (.slice A n c) n ((ps.map (·.1)).map (Value.int .i64))∧Keep (fun _=>False) w w'
theorem ends15_any (w:World) (P:Pv) (hp:RdS w P.A P.ps.length 2 (passL P.ps)) (hn:P.ps.length≤88):
 Calls Tryz.prog 101 #[P.blk] w (EndP P.ps.length P.ps w):=by
 obtain⟨i0,hi0,hz0,hz1,hz2⟩:=info_parts info_int
 have HB:=hid (Blk.new w 117 #[.int .i64 P.pl,.slice P.A P.ps.length P.cA,.slice P.B P.bs.length P.cB])
 have HK:=hid ((Keep.refl (fun _=>False) w).alloc (.cells #[.int .i64 P.pl,.slice P.A P.ps.length P.cA,.slice P.B P.bs.length P.cB] 117))
 have HP:=hid hp
 unfold Pv.blk
 generalize hnn:P.ps.length=n at*
 have HN:=hid hnn
 clear hp hnn
 go_enter Tryz.func101,Tryz.ntmps101
 go_wp2_with fail
 generalize w.alloc (.cells #[.int .i64 P.pl,.slice P.A n P.cA,.slice P.B P.bs.length P.cB] 117)=w1 at*
 go_loopw [3,4] (fun l v wr=> ∃(i:Nat) (A:Option Addr) (c:Nat),i≤n∧v=.int .i64 i∧l=.slice A i c∧Hid (wr.ownsRow w.heap.size 3 1 (.slice A i c) i (((P.ps.take i).map (·.1)).map (Value.int .i64)))∧Hid (Keep (fun _=>False) w wr)∧Hid (Blk wr w.heap.size 117 #[.int .i64 P.pl,.slice P.A n P.cA,.slice P.B P.bs.length P.cB])) (fun _ v _=>n-(intOf v).toNat)
 case atStart=>exact⟨0,none,0,by omega,rfl,rfl,hid (by simpa using World.ownsRow_nil w1 w.heap.size 3 1),HK,HB⟩
 case round=>
  clear HK HB
  obtain⟨i,A,c,hi,rfl,rfl,HO,HK,HB⟩:=hrel
  have c1:wr.cell? ⟨w.heap.size,1,none⟩=some (.slice P.A n P.cA):=HB.out.cell 1
  by_cases hin:i<n
  · obtain⟨p,hpi⟩: ∃p,P.ps[i]? =some p:=⟨_,List.getElem?_eq_getElem (by rw [HN.out];exact hin)⟩
    obtain⟨b,o,hA,hc⟩:=(HP.out.keep0 HK.out).cell (j:=0) hin (passL_at P.ps i p hpi).1
    rw [Nat.add_zero]at hc
    rw [hA]at c1
    have HPI:=hid hpi
    have hb:w.heap.size≤wr.heap.size:=HK.out.size
    have HT:=hid (show(P.ps.take (i+1)).map (·.1)=(P.ps.take i).map (·.1)++[p.1]from by rw [List.take_add_one,hpi];simp)
    clear hpi hA
    go_wp2_with (
     at_builtin
     go_must (refine wpList_append_one wr rfl (.tmp 12) (.tmp 19) 22 rfl w.heap.size 3 i0 _ 8 Tryz.underlying22 hi0 hz0 hz1 hz2 rfl HO.out rfl _ rfl rfl (by simp only [maxLen];omega) (by omega) hb ?_)
     intro v2 w2 hown2 hg2 hat2 _hold2
     obtain⟨A2,c2,rfl⟩:=own_form hown2
     have HO2:=hid (show w2.ownsRow w.heap.size 3 1 (.slice A2 (i+1) c2) (i+1) (((P.ps.take (i+1)).map (·.1)).map (Value.int .i64))from by rw [HT.out,List.map_append];exact hown2)
     have HK2:=hid (HK.out.appNew HO.out (Nat.le_refl _) hg2)
     have HB2:=hid (HB.out.app HO.out (by decide) hg2)
     clear hown2 hg2 hat2 _hold2)
    go_roundw
    case rel=>exact⟨i+1,A2,c2,by omega,by go_num,rfl,HO2,HK2,HB2⟩
    case measure=>simp [intOf]<;>omega
  · obtain rfl:i=n:=by omega
    have HZ:=hid (show EndP i P.ps w (.returned (.slice A i c)) wr from⟨A,c,rfl,own_cap HO.out,by have h:=HO.out;rwa [List.take_of_length_le (by rw [HN.out];exact Nat.le_refl _)]at h,HK.out⟩)
    go_wp2_with fail
    go_ret
    exact HZ.out
structure Two (w0:World) (X:Option Addr) (n cX:Nat) (xs:List Int) (Y:Option Addr) (m cY:Nat) (ys:List Int) (w:World):Prop where
 x:w.ownsRow w0.heap.size 3 1 (.slice X n cX) n (xs.map (Value.int .i64))
 y:w.ownsRow w0.heap.size 3 1 (.slice Y m cY) m (ys.map (Value.int .i64))
 ap: ∀a b,X=some a→Y=some b→a.block≠b.block
 keep:Keep (fun _=>False) w0 w
def Src (w:World) (X Y:Option Addr) (g:Nat) (v:Value):Prop:=Blk w g 3 #[v]∧(∀ a,X=some a→a.block≠g)∧(∀ a,Y=some a→a.block≠g)
section
variable {w0 w w':World} {X X' Y:Option Addr} {n cX c' m cY g:Nat} {xs ys:List Int} {v:Value} {z:Int}
theorem Two.keepF (h:Two w0 X n cX xs Y m cY ys w) (hk:Keep (fun _=>False) w w'):Two w0 X n cX xs Y m cY ys w':=⟨own_keepF h.x hk,own_keepF h.y hk,h.ap,h.keep.trans hk (fun _ _ h=>h)⟩
theorem Two.turn (h:Two w0 X n cX xs Y m cY ys w):Two w0 Y m cY ys X n cX xs w:=⟨h.y,h.x,fun a b ea eb e=>h.ap b a eb ea e.symm,h.keep⟩
theorem own_lt {e:TypeId} {B k c:Nat} {l:List Value} {A:Option Addr} (h:w.ownsRow B e 1 (.slice A k c) k l) {a:Addr} (e':A=some a):a.block<w.heap.size:=by subst e';exact(h.lt a.block (by simp [Value.ownBlock])).2
theorem own_some {A:Option Addr} {k c q:Nat} (h:(Value.slice A k c).ownBlock=some q): ∃a,A=some a∧a.block=q:=by
 rcases A with _|a
 · simp [Value.ownBlock]at h
 · exact⟨a,rfl,by simpa [Value.ownBlock]using h⟩
theorem Two.push (h:Two w0 X n cX xs Y m cY ys w) (ho:w'.ownsRow w0.heap.size 3 1 (.slice X' (n+1) c') (n+1) (xs.map (Value.int .i64)++[.int .i64 z])) (hg:w.grownBy w' (Value.slice X n cX).ownBlock) (hat:(Value.slice X' (n+1) c').ownBlock=(Value.slice X n cX).ownBlock∨(Value.slice X' (n+1) c').ownBlock=some w.heap.size):Two w0 X' (n+1) c' (xs++[z]) Y m cY ys w':=by
 have hk:Keep (fun i=>(Value.slice X n cX).ownBlock=some i) w w':=(Keep.refl _ w).grown hg (fun k hk=>.inl hk)
 refine⟨by rw [List.map_append];exact ho,own_keep h.y hk (fun k e1 e2=>?_),fun a b ea eb e=>?_,keep_app h.keep h.x (Nat.le_refl _) hk⟩
 · obtain⟨a,ea,h1⟩:=own_some e2
   obtain⟨b,eb,h2⟩:=own_some e1
   exact h.ap a b ea eb (by omega)
 · rcases hat with h1|h1
   · rw [ea]at h1
     obtain⟨a0,e0,h2⟩:=own_some h1.symm
     have h3:=h.ap a0 b e0 eb
     omega
   · rw [ea]at h1
     simp [Value.ownBlock]at h1
     have h3:=own_lt h.y eb
     omega
theorem Src.new (h:Two w0 X n cX xs Y m cY ys w) (hw:w.alloc (.cells #[v] 3)=w'):Src w' X Y w.heap.size v:=by
 refine⟨(alloc_new hw).2,fun a e=>?_,fun a e=>?_⟩
 · have:=own_lt h.x e;omega
 · have:=own_lt h.y e;omega
theorem Src.keepF (h:Src w X Y g v) (hk:Keep (fun _=>False) w w'):Src w' X Y g v:=⟨h.1.keep hk id,h.2⟩
theorem Src.turn (h:Src w X Y g v):Src w Y X g v:=⟨h.1,h.2.2,h.2.1⟩
theorem Src.push (h:Src w X Y g v) (hg:w.grownBy w' (Value.slice X n cX).ownBlock) (hat:(Value.slice X' (n+1) c').ownBlock=(Value.slice X n cX).ownBlock∨(Value.slice X' (n+1) c').ownBlock=some w.heap.size):Src w' X' Y g v:=by
 have hk:Keep (fun i=>(Value.slice X n cX).ownBlock=some i) w w':=(Keep.refl _ w).grown hg (fun k hk=>.inl hk)
 refine⟨h.1.keep hk (fun e=>by obtain⟨a,ea,h1⟩:=own_some e;exact h.2.1 a ea h1),fun a ea=>?_,h.2.2⟩
 rcases hat with h1|h1
 · rw [ea]at h1
   obtain⟨a0,e0,h2⟩:=own_some h1.symm
   have h3:=h.2.1 a0 e0
   omega
 · rw [ea]at h1
   simp [Value.ownBlock]at h1
   have:=h.1.lt
   omega
theorem Src.rd (h:Src w X Y g v):Rd w (some ⟨g,0,none⟩) 1 [v]:=⟨rfl,fun _=>⟨_,rfl,fun j u hu=>by
 rw [add_lit',Nat.zero_add,h.1.cell]
 simpa using hu⟩⟩
end
def SegsP (w:World) (e:Ending) (w':World):Prop:=
 ∃(r:Nat) (X:Option Addr) (cX:Nat) (xs:List Int) (Y:Option Addr) (cY:Nat) (ys:List Int),e=.returned (.tuple #[.slice X r cX,.slice Y r cY])∧r≤88∧Two w X r cX xs Y r cY ys w'∧(∀ z∈xs,1≤z∧z≤88)∧(∀ z∈ys,-100000≤z∧z≤100000)
theorem segs_any (w:World) (style:Int) (f0 t0:Nat) (E:Option Addr) (np cE:Nat) (es:List Int) (hE:Rd w E np (es.map (Value.int .i64))) (hes: ∀z∈es,0≤z∧z≤100000) (hft:f0<t0) (hto:t0≤np) (hnp:np≤88) (hcE:np≤cE):
 Calls Tryz.prog 100 #[.int .i64 style,.int .i64 f0,.int .i64 t0,.slice E np cE] w (SegsP w):=by
 obtain⟨i0,hi0,hz0,hz1,hz2⟩:=info_parts info_int
 have HE:=hid (show∀k,k<np→ ∃(bE:Nat) (oE:Nat) (z:Int),E=some ⟨bE,oE,none⟩∧0≤z∧z≤100000∧w.cell? ⟨bE,oE+k,none⟩=some (.int .i64 z)from fun k hk=>by
  obtain⟨b,o,e,h⟩:=hE.int_ix hk
  have hl:=hE.len
  have hz:=hes es[k] (List.getElem_mem (by omega))
  refine⟨b,o,es[k],e,hz.1,hz.2,?_⟩
  rw [h]
  simp [show k<es.length by omega])
 obtain⟨bE,oE,z0,hEe,_,_,_⟩:=HE.out 0 (by omega)
 subst hEe
 have HEC:=hid (show∀k,k<np→ ∃z:Int,0≤z∧z≤100000∧w.cell? ⟨bE,oE+k,none⟩=some (.int .i64 z)from fun k hk=>by
  obtain⟨b,o,z,e,h1,h2,h3⟩:=HE.out k hk
  injection e with e
  injection e with e1 e2
  subst e1 e2
  exact⟨z,h1,h2,h3⟩)
 clear hE hes HE
 have EN:=hid (fun w (k:Nat) (hk:k≤88)=>ends14_any w style k (by omega))
 have HT0:=hid (show Two w none 0 0 [] none 0 0 [] w from⟨World.ownsRow_nil _ _ _ _,World.ownsRow_nil _ _ _ _,fun a b e=>(by cases e),Keep.refl _ _⟩)
 go_enter Tryz.func100,Tryz.ntmps100
 go_upto_if 16 with fail
 go_cut [13] (fun v wx=> ∃z:Int,0≤z∧z≤100000∧v=.int .i64 z∧wx=w)
 case first=>
  by_cases h0:f0=0
  · subst h0
    go_wp2_with fail
    go_meet
    exact⟨0,by omega,by omega,rfl,rfl⟩
  · obtain⟨j,rfl⟩: ∃j,f0=j+1:=⟨f0-1,by omega⟩
    obtain⟨z,h1,h2,h3⟩:=HEC.out j (by omega)
    have hw:IntKind.i64.wrap (((j+1:Nat):Int)-1)=(j:Int):=by rw [IntWalk.i64_in _ (by omega)];omega
    have hd:decide ((0:Int)<((j+1:Nat):Int))=true:=by simp<;>omega
    go_wp2_with fail
    go_meet
    exact⟨z,h1,h2,rfl,rfl⟩
 case rest=>
  obtain⟨was,hw0,hw1,rfl,hwc⟩:=hcut
  have hwc2:=hwc.symm
  subst hwc2
  have HZ:=hid (show∀(r:Nat) (X:Option Addr) (cX:Nat) (xs:List Int) (Y:Option Addr) (cY:Nat) (ys:List Int) (w':World),r≤88→Two w X r cX xs Y r cY ys w'→(∀ z∈xs,1≤z∧z≤88)→(∀ z∈ys,-100000≤z∧z≤100000)→SegsP w (.returned (.tuple #[.slice X r cX,.slice Y r cY])) w' from fun r X cX xs Y cY ys w' h1 h2 h3 h4=>⟨r,X,cX,xs,Y,cY,ys,rfl,h1,h2,h3,h4⟩)
  go_wp2_with fail
  go_loopw [10,11,12,13,14] (fun u v q p y wr=> ∃(k r nn:Nat) (was:Int) (X:Option Addr) (cX:Nat) (xs:List Int) (Y:Option Addr) (cY:Nat) (ys:List Int),f0≤k∧k≤t0∧y=.int .i64 k∧q=.int .i64 nn∧p=.int .i64 was∧u=.slice X r cX∧v=.slice Y r cY∧nn+f0≤k∧r+f0≤k∧0≤was∧was≤100000∧Hid (Two w X r cX xs Y r cY ys wr)∧Hid (∀ z∈xs,1≤z∧z≤88)∧Hid (∀ z∈ys,-100000≤z∧z≤100000)) (fun _ _ _ _ y _=>t0-(intOf y).toNat)
  case atStart=>exact⟨f0,0,0,was,none,0,[],none,0,[],by omega,by omega,rfl,rfl,rfl,rfl,rfl,by omega,by omega,hw0,hw1,HT0,hid (fun _ h=>by cases h),hid (fun _ h=>by cases h)⟩
  case round=>
   clear HT0
   obtain⟨k,r,nn,was,X,cX,xs,Y,cY,ys,hk1,hk2,rfl,rfl,rfl,rfl,rfl,hn1,hr1,hw0,hw1,HT,HX,HY⟩:=hrel
   by_cases hkt:k<t0
   · obtain⟨z,hz0',hz1',hze⟩:=HEC.out k (by omega)
     have hE1:wr.cell? ⟨bE,oE+k,none⟩=some (.int .i64 z):=HT.out.keep.cell hze (fun h=>h)
     have hk0:(0:Int)≤(k:Int):=by omega
     have hkn:(k:Int)<(np:Int):=by omega
     have hwz:IntKind.i64.wrap (z-was)=z-was:=IntWalk.i64_in _ (by omega)
     have HXn:=hid (show∀q∈xs++[((nn:Int)+1)],1≤q∧q≤88 from fun q hq=>by
      rcases List.mem_append.1 hq with h|h
      · exact HX.out q h
      · rw [List.mem_singleton]at h;omega)
     have HYn:=hid (show∀q∈ys++[z-was],-100000≤q∧q≤100000 from fun q hq=>by
      rcases List.mem_append.1 hq with h|h
      · exact HY.out q h
      · rw [List.mem_singleton]at h;omega)
     have HZE:=hid hze
     by_cases hlast:k+1=t0
     · have hl1:((k:Int)==(t0:Int)-1)=true:=by simp;omega
       have HLA:=hid hlast
       clear hlast
       go_wp2_with fail
       have hE2:wr.drew.cell? ⟨bE,oE+k,none⟩=some (.int .i64 z):=hE1
       replace HT:=hid (HT.out.keepF ((Keep.refl (fun _=>False) wr).drew))
       refine At.start (L:=#[false,false,false,false,false,false,false,false,false,false,false,false,false,false,false]) (by kernel_rfl) rfl ?_
       generalize wr.drew=w9 at*
       refine AtP 0 39 ?_
       refine AtP 1 40 ?_
       refine AtP 4 43 ?_
       refine AtP 5 44 ?_
       refine AtP 6 45 ?_
       refine AtP 7 46 ?_
       refine AtL 8 47 Tryz.underlying3 ?_
       refine AtP 9 48 ?_
       refine AtP 10 49 ?_
       refine At.two_all 2 11 rfl rfl (by kernel_rfl) rfl rfl (fun K hK=>?_) (fun K hK=>?_)
       · skip
         go_simp
         generalize hwn:World.alloc _ (.cells #[.int .i64 ((nn:Int)+1)] 3)=wn
         have HSA:=hid (Src.new HT.out hwn)
         have hk:=(alloc_new hwn).1
         replace HT:=hid (HT.out.keepF hk)
         try replace HSB:=hid (HSB.out.keepF hk)
         clear hk hwn
         refine hK _ _ (all_cons (HT.out.keep.cell HZE.out (fun h=>h)) all_nil) ?_
         clear hK K
         try simp only [NS]
         refine At.two_all 3 11 rfl rfl (by kernel_rfl) rfl rfl (fun K hK=>?_) (fun K hK=>?_)
         · skip
           refine wp_append_src _ (.tmp 39) (.tmp 41) 22 rfl w.heap.size 3 i0 _ 8 Tryz.underlying22 hi0 hz0 hz1 hz2 rfl _ r _ rfl HT.out.x _ 1 1 [(Value.int .i64 ((nn:Int)+1))] rfl HSA.out.rd (by intro u hu;rw [List.mem_singleton]at hu;rw [hu];rfl) (by simp only [maxLen];omega) (by omega) HT.out.keep.size ?_
           intro v2 w2 hown2 hg2 hat2 _hold2
           show K (Act.put _ (some 42) _) _
           obtain⟨A2,c2,rfl⟩:=own_form hown2
           have HTX:=hid (HT.out.push hown2 hg2 hat2)
           try replace HSB:=hid (HSB.out.push hg2 hat2)
           clear hown2 hg2 hat2 _hold2
           replace HT:=HTX
           clear HTX
           refine hK _ _ (all_cons (HT.out.keep.cell HZE.out (fun h=>h)) all_nil) ?_
           clear hK K
           try simp only [NS]
           refine AtC 11 fun K hK=>?_
           go_simp
           generalize hwn:World.alloc _ (.cells #[.int .i64 (z-was)] 3)=wn
           have HSB:=hid (Src.new HT.out hwn)
           have hk:=(alloc_new hwn).1
           replace HT:=hid (HT.out.keepF hk)
           try replace HSA:=hid (HSA.out.keepF hk)
           clear hk hwn
           refine hK _ _ all_nil ?_
           clear hK K
           try simp only [NS]
           refine AtC 12 fun K hK=>?_
           refine wp_append_src _ (.tmp 43) (.tmp 50) 22 rfl w.heap.size 3 i0 _ 8 Tryz.underlying22 hi0 hz0 hz1 hz2 rfl _ r _ rfl HT.out.y _ 1 1 [(Value.int .i64 (z-was))] rfl HSB.out.rd (by intro u hu;rw [List.mem_singleton]at hu;rw [hu];rfl) (by simp only [maxLen];omega) (by omega) HT.out.keep.size ?_
           intro v2 w2 hown2 hg2 hat2 _hold2
           show K (Act.put _ (some 51) _) _
           obtain⟨A2,c2,rfl⟩:=own_form hown2
           have HTX:=hid (HT.out.turn.push hown2 hg2 hat2).turn
           clear hown2 hg2 hat2 _hold2
           replace HT:=HTX
           clear HTX
           refine hK _ _ all_nil ?_
           clear hK K
           try simp only [NS]
           refine AtP 13 10 ?_
           refine AtP 14 11 ?_
           refine At.done (by kernel_rfl) ?_
           have hE3:w2.cell? ⟨bE,oE+k,none⟩=some (.int .i64 z):=HT.out.keep.cell HZE.out (fun h=>h)
           clear HSA HSB
           go_wp2_with fail
           go_quiet (fail)
           have HT9:=hid (fun n=>HT.out.keepF ((Keep.refl (fun _=>False) w2).drewN n))
           go_wp2_with fail
           go_roundw
           case rel=>exact⟨k+1,r+1,0,z,_,_,_,_,_,_,by omega,by omega,by go_num,rfl,rfl,rfl,rfl,by omega,by omega,by omega,by omega,hid (HT9.out _),HXn,HYn⟩
           case measure=>simp [intOf]<;>omega
         · skip
           go_simp
           generalize hwn:World.alloc _ (.cells #[.int .i64 (z-was)] 3)=wn
           have HSB:=hid (Src.new HT.out hwn)
           have hk:=(alloc_new hwn).1
           replace HT:=hid (HT.out.keepF hk)
           try replace HSA:=hid (HSA.out.keepF hk)
           clear hk hwn
           refine hK _ _ (all_cons (HT.out.keep.cell HZE.out (fun h=>h)) all_nil) ?_
           clear hK K
           try simp only [NS]
           refine At.call_all 3 rfl (by kernel_rfl) rfl (fun K hK=>?_)
           refine wp_append_src _ (.tmp 39) (.tmp 41) 22 rfl w.heap.size 3 i0 _ 8 Tryz.underlying22 hi0 hz0 hz1 hz2 rfl _ r _ rfl HT.out.x _ 1 1 [(Value.int .i64 ((nn:Int)+1))] rfl HSA.out.rd (by intro u hu;rw [List.mem_singleton]at hu;rw [hu];rfl) (by simp only [maxLen];omega) (by omega) HT.out.keep.size ?_
           intro v2 w2 hown2 hg2 hat2 _hold2
           show K (Act.put _ (some 42) _) _
           obtain⟨A2,c2,rfl⟩:=own_form hown2
           have HTX:=hid (HT.out.push hown2 hg2 hat2)
           try replace HSB:=hid (HSB.out.push hg2 hat2)
           clear hown2 hg2 hat2 _hold2
           replace HT:=HTX
           clear HTX
           refine hK _ _ (all_cons (HT.out.keep.cell HZE.out (fun h=>h)) all_nil) ?_
           clear hK K
           try simp only [NS]
           refine AtC 12 fun K hK=>?_
           refine wp_append_src _ (.tmp 43) (.tmp 50) 22 rfl w.heap.size 3 i0 _ 8 Tryz.underlying22 hi0 hz0 hz1 hz2 rfl _ r _ rfl HT.out.y _ 1 1 [(Value.int .i64 (z-was))] rfl HSB.out.rd (by intro u hu;rw [List.mem_singleton]at hu;rw [hu];rfl) (by simp only [maxLen];omega) (by omega) HT.out.keep.size ?_
           intro v2 w2 hown2 hg2 hat2 _hold2
           show K (Act.put _ (some 51) _) _
           obtain⟨A2,c2,rfl⟩:=own_form hown2
           have HTX:=hid (HT.out.turn.push hown2 hg2 hat2).turn
           clear hown2 hg2 hat2 _hold2
           replace HT:=HTX
           clear HTX
           refine hK _ _ all_nil ?_
           clear hK K
           try simp only [NS]
           refine AtP 13 10 ?_
           refine AtP 14 11 ?_
           refine At.done (by kernel_rfl) ?_
           have hE3:w2.cell? ⟨bE,oE+k,none⟩=some (.int .i64 z):=HT.out.keep.cell HZE.out (fun h=>h)
           clear HSA HSB
           go_wp2_with fail
           go_quiet (fail)
           have HT9:=hid (fun n=>HT.out.keepF ((Keep.refl (fun _=>False) w2).drewN n))
           go_wp2_with fail
           go_roundw
           case rel=>exact⟨k+1,r+1,0,z,_,_,_,_,_,_,by omega,by omega,by go_num,rfl,rfl,rfl,rfl,by omega,by omega,by omega,by omega,hid (HT9.out _),HXn,HYn⟩
           case measure=>simp [intOf]<;>omega
       · skip
         go_simp
         generalize hwn:World.alloc _ (.cells #[.int .i64 (z-was)] 3)=wn
         have HSB:=hid (Src.new HT.out hwn)
         have hk:=(alloc_new hwn).1
         replace HT:=hid (HT.out.keepF hk)
         try replace HSA:=hid (HSA.out.keepF hk)
         clear hk hwn
         refine hK _ _ (all_cons (HT.out.keep.cell HZE.out (fun h=>h)) all_nil) ?_
         clear hK K
         try simp only [NS]
         refine At.call_all 2 rfl (by kernel_rfl) rfl (fun K hK=>?_)
         go_simp
         generalize hwn:World.alloc _ (.cells #[.int .i64 ((nn:Int)+1)] 3)=wn
         have HSA:=hid (Src.new HT.out hwn)
         have hk:=(alloc_new hwn).1
         replace HT:=hid (HT.out.keepF hk)
         try replace HSB:=hid (HSB.out.keepF hk)
         clear hk hwn
         refine hK _ _ (all_cons (HT.out.keep.cell HZE.out (fun h=>h)) all_nil) ?_
         clear hK K
         try simp only [NS]
         refine At.call_all 3 rfl (by kernel_rfl) rfl (fun K hK=>?_)
         refine wp_append_src _ (.tmp 39) (.tmp 41) 22 rfl w.heap.size 3 i0 _ 8 Tryz.underlying22 hi0 hz0 hz1 hz2 rfl _ r _ rfl HT.out.x _ 1 1 [(Value.int .i64 ((nn:Int)+1))] rfl HSA.out.rd (by intro u hu;rw [List.mem_singleton]at hu;rw [hu];rfl) (by simp only [maxLen];omega) (by omega) HT.out.keep.size ?_
         intro v2 w2 hown2 hg2 hat2 _hold2
         show K (Act.put _ (some 42) _) _
         obtain⟨A2,c2,rfl⟩:=own_form hown2
         have HTX:=hid (HT.out.push hown2 hg2 hat2)
         try replace HSB:=hid (HSB.out.push hg2 hat2)
         clear hown2 hg2 hat2 _hold2
         replace HT:=HTX
         clear HTX
         refine hK _ _ (all_cons (HT.out.keep.cell HZE.out (fun h=>h)) all_nil) ?_
         clear hK K
         try simp only [NS]
         refine AtC 12 fun K hK=>?_
         refine wp_append_src _ (.tmp 43) (.tmp 50) 22 rfl w.heap.size 3 i0 _ 8 Tryz.underlying22 hi0 hz0 hz1 hz2 rfl _ r _ rfl HT.out.y _ 1 1 [(Value.int .i64 (z-was))] rfl HSB.out.rd (by intro u hu;rw [List.mem_singleton]at hu;rw [hu];rfl) (by simp only [maxLen];omega) (by omega) HT.out.keep.size ?_
         intro v2 w2 hown2 hg2 hat2 _hold2
         show K (Act.put _ (some 51) _) _
         obtain⟨A2,c2,rfl⟩:=own_form hown2
         have HTX:=hid (HT.out.turn.push hown2 hg2 hat2).turn
         clear hown2 hg2 hat2 _hold2
         replace HT:=HTX
         clear HTX
         refine hK _ _ all_nil ?_
         clear hK K
         try simp only [NS]
         refine AtP 13 10 ?_
         refine AtP 14 11 ?_
         refine At.done (by kernel_rfl) ?_
         have hE3:w2.cell? ⟨bE,oE+k,none⟩=some (.int .i64 z):=HT.out.keep.cell HZE.out (fun h=>h)
         clear HSA HSB
         go_wp2_with fail
         go_quiet (fail)
         have HT9:=hid (fun n=>HT.out.keepF ((Keep.refl (fun _=>False) w2).drewN n))
         go_wp2_with fail
         go_roundw
         case rel=>exact⟨k+1,r+1,0,z,_,_,_,_,_,_,by omega,by omega,by go_num,rfl,rfl,rfl,rfl,by omega,by omega,by omega,by omega,hid (HT9.out _),HXn,HYn⟩
         case measure=>simp [intOf]<;>omega
     · have hl1:((k:Int)==(t0:Int)-1)=false:=by simp;omega
       have HLA:=hid hlast
       clear hlast
       go_wp2_with fail
       refine(EN.out _ k (by omega)).mono ?_
       rintro e w5 ⟨be,rfl,rfl⟩
       cases be with
       |false=>
        go_wp2_with fail
        go_roundw
        case rel=>exact⟨k+1,r,nn+1,was,X,cX,xs,Y,cY,ys,by omega,by omega,by go_num,by go_num,rfl,rfl,rfl,by omega,by omega,hw0,hw1,HT,HX,HY⟩
        case measure=>simp [intOf]<;>omega
       |true=>
        go_wp2_with fail
        have hE2:wr.drew.cell? ⟨bE,oE+k,none⟩=some (.int .i64 z):=hE1
        replace HT:=hid (HT.out.keepF ((Keep.refl (fun _=>False) wr).drew))
        refine At.start (L:=#[false,false,false,false,false,false,false,false,false,false,false,false,false,false,false]) (by kernel_rfl) rfl ?_
        generalize wr.drew=w9 at*
        refine AtP 0 39 ?_
        refine AtP 1 40 ?_
        refine AtP 4 43 ?_
        refine AtP 5 44 ?_
        refine AtP 6 45 ?_
        refine AtP 7 46 ?_
        refine AtL 8 47 Tryz.underlying3 ?_
        refine AtP 9 48 ?_
        refine AtP 10 49 ?_
        refine At.two_all 2 11 rfl rfl (by kernel_rfl) rfl rfl (fun K hK=>?_) (fun K hK=>?_)
        · skip
          go_simp
          generalize hwn:World.alloc _ (.cells #[.int .i64 ((nn:Int)+1)] 3)=wn
          have HSA:=hid (Src.new HT.out hwn)
          have hk:=(alloc_new hwn).1
          replace HT:=hid (HT.out.keepF hk)
          try replace HSB:=hid (HSB.out.keepF hk)
          clear hk hwn
          refine hK _ _ (all_cons (HT.out.keep.cell HZE.out (fun h=>h)) all_nil) ?_
          clear hK K
          try simp only [NS]
          refine At.two_all 3 11 rfl rfl (by kernel_rfl) rfl rfl (fun K hK=>?_) (fun K hK=>?_)
          · skip
            refine wp_append_src _ (.tmp 39) (.tmp 41) 22 rfl w.heap.size 3 i0 _ 8 Tryz.underlying22 hi0 hz0 hz1 hz2 rfl _ r _ rfl HT.out.x _ 1 1 [(Value.int .i64 ((nn:Int)+1))] rfl HSA.out.rd (by intro u hu;rw [List.mem_singleton]at hu;rw [hu];rfl) (by simp only [maxLen];omega) (by omega) HT.out.keep.size ?_
            intro v2 w2 hown2 hg2 hat2 _hold2
            show K (Act.put _ (some 42) _) _
            obtain⟨A2,c2,rfl⟩:=own_form hown2
            have HTX:=hid (HT.out.push hown2 hg2 hat2)
            try replace HSB:=hid (HSB.out.push hg2 hat2)
            clear hown2 hg2 hat2 _hold2
            replace HT:=HTX
            clear HTX
            refine hK _ _ (all_cons (HT.out.keep.cell HZE.out (fun h=>h)) all_nil) ?_
            clear hK K
            try simp only [NS]
            refine AtC 11 fun K hK=>?_
            go_simp
            generalize hwn:World.alloc _ (.cells #[.int .i64 (z-was)] 3)=wn
            have HSB:=hid (Src.new HT.out hwn)
            have hk:=(alloc_new hwn).1
            replace HT:=hid (HT.out.keepF hk)
            try replace HSA:=hid (HSA.out.keepF hk)
            clear hk hwn
            refine hK _ _ all_nil ?_
            clear hK K
            try simp only [NS]
            refine AtC 12 fun K hK=>?_
            refine wp_append_src _ (.tmp 43) (.tmp 50) 22 rfl w.heap.size 3 i0 _ 8 Tryz.underlying22 hi0 hz0 hz1 hz2 rfl _ r _ rfl HT.out.y _ 1 1 [(Value.int .i64 (z-was))] rfl HSB.out.rd (by intro u hu;rw [List.mem_singleton]at hu;rw [hu];rfl) (by simp only [maxLen];omega) (by omega) HT.out.keep.size ?_
            intro v2 w2 hown2 hg2 hat2 _hold2
            show K (Act.put _ (some 51) _) _
            obtain⟨A2,c2,rfl⟩:=own_form hown2
            have HTX:=hid (HT.out.turn.push hown2 hg2 hat2).turn
            clear hown2 hg2 hat2 _hold2
            replace HT:=HTX
            clear HTX
            refine hK _ _ all_nil ?_
            clear hK K
            try simp only [NS]
            refine AtP 13 10 ?_
            refine AtP 14 11 ?_
            refine At.done (by kernel_rfl) ?_
            have hE3:w2.cell? ⟨bE,oE+k,none⟩=some (.int .i64 z):=HT.out.keep.cell HZE.out (fun h=>h)
            clear HSA HSB
            go_wp2_with fail
            go_quiet (fail)
            have HT9:=hid (fun n=>HT.out.keepF ((Keep.refl (fun _=>False) w2).drewN n))
            go_wp2_with fail
            go_roundw
            case rel=>exact⟨k+1,r+1,0,z,_,_,_,_,_,_,by omega,by omega,by go_num,rfl,rfl,rfl,rfl,by omega,by omega,by omega,by omega,hid (HT9.out _),HXn,HYn⟩
            case measure=>simp [intOf]<;>omega
          · skip
            go_simp
            generalize hwn:World.alloc _ (.cells #[.int .i64 (z-was)] 3)=wn
            have HSB:=hid (Src.new HT.out hwn)
            have hk:=(alloc_new hwn).1
            replace HT:=hid (HT.out.keepF hk)
            try replace HSA:=hid (HSA.out.keepF hk)
            clear hk hwn
            refine hK _ _ (all_cons (HT.out.keep.cell HZE.out (fun h=>h)) all_nil) ?_
            clear hK K
            try simp only [NS]
            refine At.call_all 3 rfl (by kernel_rfl) rfl (fun K hK=>?_)
            refine wp_append_src _ (.tmp 39) (.tmp 41) 22 rfl w.heap.size 3 i0 _ 8 Tryz.underlying22 hi0 hz0 hz1 hz2 rfl _ r _ rfl HT.out.x _ 1 1 [(Value.int .i64 ((nn:Int)+1))] rfl HSA.out.rd (by intro u hu;rw [List.mem_singleton]at hu;rw [hu];rfl) (by simp only [maxLen];omega) (by omega) HT.out.keep.size ?_
            intro v2 w2 hown2 hg2 hat2 _hold2
            show K (Act.put _ (some 42) _) _
            obtain⟨A2,c2,rfl⟩:=own_form hown2
            have HTX:=hid (HT.out.push hown2 hg2 hat2)
            try replace HSB:=hid (HSB.out.push hg2 hat2)
            clear hown2 hg2 hat2 _hold2
            replace HT:=HTX
            clear HTX
            refine hK _ _ (all_cons (HT.out.keep.cell HZE.out (fun h=>h)) all_nil) ?_
            clear hK K
            try simp only [NS]
            refine AtC 12 fun K hK=>?_
            refine wp_append_src _ (.tmp 43) (.tmp 50) 22 rfl w.heap.size 3 i0 _ 8 Tryz.underlying22 hi0 hz0 hz1 hz2 rfl _ r _ rfl HT.out.y _ 1 1 [(Value.int .i64 (z-was))] rfl HSB.out.rd (by intro u hu;rw [List.mem_singleton]at hu;rw [hu];rfl) (by simp only [maxLen];omega) (by omega) HT.out.keep.size ?_
            intro v2 w2 hown2 hg2 hat2 _hold2
            show K (Act.put _ (some 51) _) _
            obtain⟨A2,c2,rfl⟩:=own_form hown2
            have HTX:=hid (HT.out.turn.push hown2 hg2 hat2).turn
            clear hown2 hg2 hat2 _hold2
            replace HT:=HTX
            clear HTX
            refine hK _ _ all_nil ?_
            clear hK K
            try simp only [NS]
            refine AtP 13 10 ?_
            refine AtP 14 11 ?_
            refine At.done (by kernel_rfl) ?_
            have hE3:w2.cell? ⟨bE,oE+k,none⟩=some (.int .i64 z):=HT.out.keep.cell HZE.out (fun h=>h)
            clear HSA HSB
            go_wp2_with fail
            go_quiet (fail)
            have HT9:=hid (fun n=>HT.out.keepF ((Keep.refl (fun _=>False) w2).drewN n))
            go_wp2_with fail
            go_roundw
            case rel=>exact⟨k+1,r+1,0,z,_,_,_,_,_,_,by omega,by omega,by go_num,rfl,rfl,rfl,rfl,by omega,by omega,by omega,by omega,hid (HT9.out _),HXn,HYn⟩
            case measure=>simp [intOf]<;>omega
        · skip
          go_simp
          generalize hwn:World.alloc _ (.cells #[.int .i64 (z-was)] 3)=wn
          have HSB:=hid (Src.new HT.out hwn)
          have hk:=(alloc_new hwn).1
          replace HT:=hid (HT.out.keepF hk)
          try replace HSA:=hid (HSA.out.keepF hk)
          clear hk hwn
          refine hK _ _ (all_cons (HT.out.keep.cell HZE.out (fun h=>h)) all_nil) ?_
          clear hK K
          try simp only [NS]
          refine At.call_all 2 rfl (by kernel_rfl) rfl (fun K hK=>?_)
          go_simp
          generalize hwn:World.alloc _ (.cells #[.int .i64 ((nn:Int)+1)] 3)=wn
          have HSA:=hid (Src.new HT.out hwn)
          have hk:=(alloc_new hwn).1
          replace HT:=hid (HT.out.keepF hk)
          try replace HSB:=hid (HSB.out.keepF hk)
          clear hk hwn
          refine hK _ _ (all_cons (HT.out.keep.cell HZE.out (fun h=>h)) all_nil) ?_
          clear hK K
          try simp only [NS]
          refine At.call_all 3 rfl (by kernel_rfl) rfl (fun K hK=>?_)
          refine wp_append_src _ (.tmp 39) (.tmp 41) 22 rfl w.heap.size 3 i0 _ 8 Tryz.underlying22 hi0 hz0 hz1 hz2 rfl _ r _ rfl HT.out.x _ 1 1 [(Value.int .i64 ((nn:Int)+1))] rfl HSA.out.rd (by intro u hu;rw [List.mem_singleton]at hu;rw [hu];rfl) (by simp only [maxLen];omega) (by omega) HT.out.keep.size ?_
          intro v2 w2 hown2 hg2 hat2 _hold2
          show K (Act.put _ (some 42) _) _
          obtain⟨A2,c2,rfl⟩:=own_form hown2
          have HTX:=hid (HT.out.push hown2 hg2 hat2)
          try replace HSB:=hid (HSB.out.push hg2 hat2)
          clear hown2 hg2 hat2 _hold2
          replace HT:=HTX
          clear HTX
          refine hK _ _ (all_cons (HT.out.keep.cell HZE.out (fun h=>h)) all_nil) ?_
          clear hK K
          try simp only [NS]
          refine AtC 12 fun K hK=>?_
          refine wp_append_src _ (.tmp 43) (.tmp 50) 22 rfl w.heap.size 3 i0 _ 8 Tryz.underlying22 hi0 hz0 hz1 hz2 rfl _ r _ rfl HT.out.y _ 1 1 [(Value.int .i64 (z-was))] rfl HSB.out.rd (by intro u hu;rw [List.mem_singleton]at hu;rw [hu];rfl) (by simp only [maxLen];omega) (by omega) HT.out.keep.size ?_
          intro v2 w2 hown2 hg2 hat2 _hold2
          show K (Act.put _ (some 51) _) _
          obtain⟨A2,c2,rfl⟩:=own_form hown2
          have HTX:=hid (HT.out.turn.push hown2 hg2 hat2).turn
          clear hown2 hg2 hat2 _hold2
          replace HT:=HTX
          clear HTX
          refine hK _ _ all_nil ?_
          clear hK K
          try simp only [NS]
          refine AtP 13 10 ?_
          refine AtP 14 11 ?_
          refine At.done (by kernel_rfl) ?_
          have hE3:w2.cell? ⟨bE,oE+k,none⟩=some (.int .i64 z):=HT.out.keep.cell HZE.out (fun h=>h)
          clear HSA HSB
          go_wp2_with fail
          go_quiet (fail)
          have HT9:=hid (fun n=>HT.out.keepF ((Keep.refl (fun _=>False) w2).drewN n))
          go_wp2_with fail
          go_roundw
          case rel=>exact⟨k+1,r+1,0,z,_,_,_,_,_,_,by omega,by omega,by go_num,rfl,rfl,rfl,rfl,by omega,by omega,by omega,by omega,hid (HT9.out _),HXn,HYn⟩
          case measure=>simp [intOf]<;>omega
   · obtain rfl:k=t0:=by omega
     have HZ2:=hid (HZ.out r X cX xs Y cY ys wr (by omega) HT.out HX.out HY.out)
     go_wp2_with fail
     exact bodyPost_ret (v:=.tuple #[_,_]) (by simp [results,Tryz.results100,go_sem]<;>exact⟨rfl,rfl⟩) rfl HZ2.out
def TNP (G:Nat→Option Kd) (j:Nat):Prop:=TN G j∨PT G j
def Pv.xcells (P:Pv) (lb:Int):List Value:=[.int .i64 P.pl,.slice P.A P.ps.length P.cA,.slice P.B P.bs.length P.cB,.int .i64 P.sd,.int .i64 lb]
structure SS (G:Nat→Option Kd) (base:Nat) (w0:World) (b g n:Nat) (pl:Int) (c gi gu:Nat) (st:Bool) (P:Pv) (b2 W:Nat) (A0 A:Option Addr) (q XB:Nat) (lb:Int) (w:World):Prop where
 bv: ∃cs,Bv G base w b g n pl c gi gu st cs
 po:PartOk G w P
 ws:WSt G w b2 W A q
 gr:Grew w0 A0 A
 keep:Keep (FW (TNP G) W A0) w0 w
 xb:Blk w XB 139 (P.xcells lb).toArray
 gx:G XB=none
 xn:w0.heap.size≤XB
 l3:3≤lb
 l17:lb≤17
 hb:b2≤w.heap.size
section
variable {G :Nat→Option Kd} {base:Nat} {w0 w w':World} {b g n:Nat} {pl:Int} {c gi gu:Nat} {st:Bool} {P:Pv} {b2 W:Nat} {A0 A A':Option Addr} {q q' XB:Nat} {lb:Int}
theorem SS.fits (h:SS G base w0 b g n pl c gi gu st P b2 W A0 A q XB lb w):Fits G base w:=by obtain⟨cs,h1⟩:=h.bv;exact h1.fits
theorem SS.aside (h:SS G base w0 b g n pl c gi gu st P b2 W A0 A q XB lb w) (hk:Keep (fun _=>False) w w'):SS G base w0 b g n pl c gi gu st P b2 W A0 A q XB lb w':=by
 obtain⟨cs,h1⟩:=h.bv
 exact⟨⟨cs,h1.keepF hk⟩,h.po.keep hk (fun _ h=>h.elim),h.ws.keepF hk,h.gr,h.keep.trans hk (fun _ _ h=>h.elim),h.xb.keep hk id,h.gx,h.xn,h.l3,h.l17,Nat.le_trans h.hb hk.size⟩
theorem SS.stepW (h:SS G base w0 b g n pl c gi gu st P b2 W A0 A q XB lb w) (hF:Fits G base w') (hW:WSt G w' b2 W A' q') (hg:Grew w A A') (hk:Keep (FW (TN G) W A) w w'):SS G base w0 b g n pl c gi gu st P b2 W A0 A' q' XB lb w':=by
 obtain⟨cs,h1⟩:=h.bv
 have hN:=h.ws.footN
 have hro: ∀j,FW (TN G) W A j→G j≠some .ro:=fun j hj=>by
  rcases hj with hj|hj
  · exact(TN.not (n:=0) hj).2.2.1
  · rw [hN j hj];simp
 refine⟨⟨cs,h1.keep hk hF (fun hs=>?_) (fun hs=>?_) hro⟩,h.po.keep hk hro,hW,grew_trans h.gr hg h.keep.size,?_,fw_blk h.ws h.xb h.gx (by decide) (by decide) hk,h.gx,h.xn,h.l3,h.l17,Nat.le_trans h.hb hk.size⟩
 · rcases hs with hs|hs
   · exact(TN.not hs).1 h1.gb
   · have:=hN _ hs;rw [h1.gb]at this;cases this
 · rcases hs with hs|hs
   · exact(TN.not hs).2.1 h1.gp
   · have:=hN _ hs;rw [h1.gp]at this;cases this
 · exact fw_next h.gr h.keep (hk.mono (fun i _ hi=>by rcases hi with hi|hi;exact .inl (.inl hi);exact .inr hi))
theorem SS.stepB (h:SS G base w0 b g n pl c gi gu st P b2 W A0 A q XB lb w) (hF:Fits G base w') (hW:WSt G w' b2 W A' q') (hg:Grew w A A') (hk:Keep (FW (fun _=>False) W A) w w'):SS G base w0 b g n pl c gi gu st P b2 W A0 A' q' XB lb w':=
 h.stepW hF hW hg (hk.mono (fun i _ hi=>by rcases hi with hi|hi;exact hi.elim;exact .inr hi))
theorem SS.setLb (h:SS G base w0 b g n pl c gi gu st P b2 W A0 A q XB lb w) {lb':Int} (h3:3≤lb') (h17:lb'≤17):SS G base w0 b g n pl c gi gu st P b2 W A0 A q XB lb' (w.setCell ⟨XB,4,none⟩ (.int .i64 lb')):=by
 obtain⟨cs,h1⟩:=h.bv
 have hk:=Keep.set1 w XB 4 (.int .i64 lb')
 have hS: ∀j,(fun j=>j=XB) j→G j=none:=fun j e=>by rw [show j=XB from e];exact h.gx
 obtain⟨nn,cc,l,r,a1,a2,a3,a4,a5⟩:=h.ws
 refine⟨⟨cs,h1.keepN hk hS⟩,h.po.keep hk (fun j e hr=>by rw [show j=XB from e,h.gx]at hr;cases hr),⟨nn,cc,l,r,Bw.RW0.keep a1 hk (fun e=>?_) (fun a ea e=>?_),a2,a3,a4,a5⟩,h.gr,h.keep.setCell (p:=⟨XB,4,none⟩) (.inr h.xn) _,h.xb.set_ 4 _,h.gx,h.xn,h3,h17,by simpa using h.hb⟩
 · have e':W=XB:=e
   have hx:=h.xb
   rw [← e']at hx
   exact Blk.ne_ hx a1.blk (by decide) rfl
 · have e':a.block=XB:=e
   exact own_ne a1.own h.xb (by decide) (by rw [ea,←e'];rfl)
theorem SS.row (h:SS G base w0 b g n pl c gi gu st P b2 W A0 A q XB lb w) {B r:Nat} {v:Value} {xs:List Value} (ho:w.ownsRow B 3 1 v r xs) (hk:Keep (FW (TN G) W A) w w'):w'.ownsRow B 3 1 v r xs:=
 fw_row h.fits h.ws ho (by decide) (by decide) (by decide) (by decide) hk
theorem SS.rowB (h:SS G base w0 b g n pl c gi gu st P b2 W A0 A q XB lb w) {B r:Nat} {v:Value} {xs:List Value} (ho:w.ownsRow B 3 1 v r xs) (hk:Keep (FW (fun _=>False) W A) w w'):w'.ownsRow B 3 1 v r xs:=
 h.row ho (hk.mono (fun i _ hi=>by rcases hi with hi|hi;exact hi.elim;exact .inr hi))
theorem SS.rowL (h:SS G base w0 b g n pl c gi gu st P b2 W A0 A q XB lb w) {B r:Nat} {v:Value} {xs:List Value} (ho:w.ownsRow B 3 1 v r xs) (u:Value):(w.setCell ⟨XB,4,none⟩ u).ownsRow B 3 1 v r xs:=
 own_keep ho (Keep.set1 w XB 4 u) (fun k e1 e2=>own_ne ho h.xb (by decide) (by rw [e1,e2]))
end
def SayP (G:Nat→Option Kd) (base:Nat) (w:World) (b g n:Nat) (pl:Int) (c gi gu:Nat) (st:Bool) (P:Pv) (k b2 W:Nat) (A:Option Addr) (q:Nat) (e:Ending) (w':World):Prop:=
 ∃A' cs lb,e=.returned (.tuple #[])∧WSt G w' b2 W A' q∧Grew w A A'∧Keep (FW (TNP G) W A) w w'∧Bv G base w' b g n pl c gi gu st cs∧PartOk G w' { P with lb:=lb }∧w'.rangeAt g (k*5) (P.xcells lb)
theorem SS.fin {G:Nat→Option Kd} {base:Nat} {w0 w w':World} {b g n:Nat} {pl:Int} {c gi gu:Nat} {st:Bool} {P:Pv} {b2 W:Nat} {A0 A:Option Addr} {q XB k:Nat} {lb:Int} {cs:Array Value} (h:SS G base w0 b g n pl c gi gu st P b2 W A0 A q XB lb w) (hv:Bv G base w b g n pl c gi gu st cs) (hkn:k<n)
 (hk:Keep (fun j=>j=g) w w') (hb:Blk w' g 139 (setL cs (k*5) (P.xcells lb))):SayP G base w0 b g n pl c gi gu st P k b2 W A0 q (.returned (.tuple #[])) w':=by
 have hQ:PartOk G w { P with lb:=lb }:=⟨h.po.pl,h.po.np,h.po.nb,h.po.cb,h.po.ends,h.po.bytes,h.po.rp,h.po.rb,h.po.ga,h.po.gb,h.l3,h.l17⟩
 have hsz:=hv.ok.1
 have hin: ∀j v,(P.xcells lb)[j]? =some v→(setL cs (k*5) (P.xcells lb))[k*5+j]? =some v:=fun j v hj=>by
  have hj5:j<5:=(List.getElem?_eq_some_iff.1 hj).1
  rw [setL_in _ _ _ _ (by show k*5+5≤_;omega) hj5]
  exact hj
 have h2:=hv.parts (k:=k) (Q:={ P with lb:=lb }) hk hkn (l:=P.xcells lb) (Nat.le_refl _) hb hQ hin
 have hro: ∀j,(fun j=>j=g) j→G j≠some .ro:=fun j e hr=>by rw [show j=g from e,hv.gp]at hr;cases hr
 refine⟨A,_,lb,rfl,h.ws.keep hk (fun j e=>by rw [show j=g from e,hv.gp];simp),h.gr,h.keep.trans hk (fun j _ e=>.inl (.inr ⟨n,by rw [show j=g from e];exact hv.gp⟩)),h2,hQ.keep hk hro,fun j v hj=>?_⟩
 rw [hb.cell]
 exact hin j v hj
end Go.Proofs.YthfogcgdijmaoaaGreat
