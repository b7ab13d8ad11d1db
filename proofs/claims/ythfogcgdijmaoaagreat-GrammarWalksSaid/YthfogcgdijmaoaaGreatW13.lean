/-
  Part 13 of the proof: GramTile. Conditions: those of the statements.
-/
import Derived.Test.YthfogcgdijmaoaaGreatW10
set_option maxRecDepth 100000
set_option maxHeartbeats 16000000
set_option linter.unusedVariables false
set_option linter.unusedSimpArgs false
namespace Go.Proofs.YthfogcgdijmaoaaGreat
open Go.RowKit
def tileSize (zs:List Int) (p:Nat):Int:=two zs (p+6)*65536+two zs (p+8)
def tileGood (zs:List Int) (p:Nat):Prop:=two zs (p+2)=10∧12≤(zs.length:Int)-p∧two zs (p+12)=65427∧14≤tileSize zs p∧tileSize zs p≤(zs.length:Int)-p
instance (zs :List Int) (p:Nat):Decidable (tileGood zs p):=by unfold tileGood;infer_instance
theorem four_parts {zs:List Int} (hb:Bytes zs) {q:Nat} (h:q+4≤zs.length):numU ((zs.drop q).take 4)=two zs q*65536+two zs (q+2):=by
 rw [(two_byte hb (p:=q) (by omega)).1,(two_byte hb (p:=q+2) (by omega)).1]
 have d:zs.drop q=zs.getD q 0::zs.getD (q+1) 0::zs.getD (q+2) 0::zs.getD (q+3) 0::zs.drop (q+4):=by
  rw [List.getD_eq_getElem?_getD,List.getD_eq_getElem?_getD,List.getD_eq_getElem?_getD,List.getD_eq_getElem?_getD,List.getElem?_eq_getElem (by omega),List.getElem?_eq_getElem (by omega),List.getElem?_eq_getElem (by omega),List.getElem?_eq_getElem (by omega)]
  rw [List.drop_eq_getElem_cons (by omega),List.drop_eq_getElem_cons (i:=q+1) (by omega),List.drop_eq_getElem_cons (i:=q+1+1) (by omega),List.drop_eq_getElem_cons (i:=q+1+1+1) (by omega)]
  rfl
 rw [d]
 have e3:q+2+1=q+3:=rfl
 rw [e3]
 simp [numU]
 omega
def TileP (w:World) (base V:Nat) (A:Option Addr) (n c:Nat) (zs:List Int) (p:Nat) (acc:List (Int×Nat)) (e:Ending) (w':World):Prop:=
 Keep (fun j=>base≤j) w w'∧
 if tileGood zs p then e=.returned (.bool true)∧ ∃M m cm T ct,WkG w' base V A n c zs (p+(tileSize zs p).toNat) M m cm T ct (acc++[(65427,p+12)]) true
 else e=.returned (.bool false)
theorem tile_any (w:World) (base V:Nat) (A:Option Addr) (n c:Nat) (zs:List Int) (x p:Nat) (M:Option Addr) (m cm:Nat) (T:Option Addr) (ct:Nat) (acc:List (Int×Nat)) (tl:Bool) (h:WkG w base V A n c zs x M m cm T ct acc tl) (hb:base≤w.heap.size) (hx:x=p+2):
 Calls Tryz.prog 44 #[.pointer (some ⟨V,0,none⟩)] w (TileP w base V A n c zs p acc):=by
 have HW:=hid h
 have hbig:=h.big
 have hsz9:=h.size
 have hsize:=h.size
 have hat:=h.at_
 have hlen:=h.len
 have hcap:=h.cap
 have htr:=two_range h.byt x
 have q1:w.cell? ⟨V,1,none⟩=some (.int .i64 x):=h.blk.cell 1
 have hxp:IntKind.i64.wrap ((x:Int)-2)=(p:Int):=by rw [IntWalk.i64_in _ (by omega)];omega
 have HNO:=hid (show∀w',Keep (fun j=>base≤j) w w'→ ¬tileGood zs p→TileP w base V A n c zs p acc (.returned (.bool false)) w' from fun w' k g=>⟨k,by rw [if_neg g]⟩)
 have hgx:two zs (p+2)=two zs x:=by rw [hx]
 have hx1:p+2≤x:=by omega
 have hx2:x≤p+2:=by omega
 clear h hx
 go_enter Tryz.func44,Tryz.ntmps44
 go_wp2_with fail
 refine(length_any w base V A n c zs x M m cm T ct acc tl HW.out).mono ?_
 rintro e w2 ⟨rfl,hw2,hk2⟩
 have HW2:=hid hw2
 have HK2:=hid (hk2.mono (T:=fun j=>base≤j) (fun _ _ h=>h.elim))
 clear hw2 hk2 HW q1
 by_cases hz:2≤two zs x∧two zs x≤(n:Int)-x
 · have d1:decide (2≤two zs x)=true:=by simpa using hz.1
   have d2:decide (two zs x≤(n:Int)-x)=true:=by simpa using hz.2
   rw [d1,d2,if_neg (by omega)]
   clear d1 d2
   by_cases hten:two zs x=10
   · rw [hten]
     rw [hten]at hz
     have hn12:p+12≤n:=by omega
     obtain⟨b,o,rfl,b0⟩:=HW2.out.rd.int_ix (k:=0) (by omega)
     have q0:w2.cell? ⟨V,0,none⟩=some (.slice (some ⟨b,o,none⟩) n c):=HW2.out.blk.cell 0
     have q1:w2.cell? ⟨V,1,none⟩=some (.int .i64 x):=HW2.out.blk.cell 1
     have f1:w2.frozen? ⟨V,1,none⟩=false:=HW2.out.blk.frozen 1
     have hr4:Hid (Rd w2 (some ⟨b,o+(p+6),none⟩) 4 (((zs.drop (p+6)).take 4).map (Value.int .u8))):=hid (by
      have:=(HW2.out.rd.drop (k:=p+6) (cap:=c) (by omega) hcap).take (k:=4) (by omega)
      rw [← List.map_drop,←List.map_take,if_neg (by omega)]at this
      simpa [add_lit']using this)
     have hby4:Hid (Bytes ((zs.drop (p+6)).take 4)):=hid (fun z hz=>HW2.out.byt z (List.mem_of_mem_drop (List.mem_of_mem_take hz)))
     have u1:IntKind.i64.wrap ((p:Int)+6)=(p:Int)+6:=IntWalk.i64_in _ (by omega)
     have u2:IntKind.i64.wrap ((p:Int)+10)=(p:Int)+10:=IntWalk.i64_in _ (by omega)
     have s1:(0:Int)≤(p:Int)+6:=by omega
     have s2:(p:Int)+6≤(p:Int)+10:=by omega
     have s3:(p:Int)+10≤(c:Int):=by omega
     have s3':(0:Int)≤(p:Int)+10:=by omega
     have s4:((p:Int)+6).toNat=p+6:=by omega
     have s5:((p:Int)+10).toNat=p+10:=by omega
     have s6:p+10-(p+6)=4:=by omega
     have s7: ¬c=p+6:=by omega
     have s8: ¬c-(p+6)=0:=by omega
     have hS:=four_parts HW2.out.byt (q:=p+6) (by omega)
     have hSr:=numU_range (zs:=(zs.drop (p+6)).take 4) hby4.out (by simp;omega)
     have HS:=hid (show tileSize zs p=numU ((zs.drop (p+6)).take 4)from hS.symm)
     clear hS
     go_wp2_with fail
     refine(number_any w2 (some ⟨b,o+(p+6),none⟩) 4 (c-(p+6)) ((zs.drop (p+6)).take 4) hr4.out hby4.out (by omega)).mono ?_
     rintro e w3 ⟨rfl,rfl⟩
     generalize numU ((zs.drop (p+6)).take 4)=S at*
     have u3:IntKind.i64.wrap ((p:Int)+S)=(p:Int)+S:=IntWalk.i64_in _ (by omega)
     have u4:IntKind.i64.wrap ((x:Int)+10)=(x:Int)+10:=IntWalk.i64_in _ (by omega)
     have hG:WkG (w2.setCell ⟨V,1,none⟩ (.int .i64 ((x:Int)+10))) base V (some ⟨b,o,none⟩) n c zs (x+10) M m cm T ct acc tl:=HW2.out.goto (x+10) (by omega) (by have:=HW2.out.few;omega)
     have HG:=hid hG
     have HK3:=hid (show Keep (fun j=>base≤j) w (w2.setCell ⟨V,1,none⟩ (.int .i64 ((x:Int)+10)))from HK2.out.setCell (p:=⟨V,1,none⟩) (.inl HW2.out.vb) _)
     have hx10:=hid (show p+12=x+10 by omega)
     have hgy:two zs (p+12)=two zs (x+10):=by rw [hx10.out]
     have hbs:base≤(w2.setCell ⟨V,1,none⟩ (.int .i64 ((x:Int)+10))).heap.size:=Nat.le_trans hb HK3.out.size
     clear hG hr4 hby4
     by_cases hy:two zs (x+10)<65280
     · have MK:=hid (mark_no _ base V (some ⟨b,o,none⟩) n c zs (x+10) M m cm T ct acc tl HG.out hy)
       go_wp2_with fail
       refine MK.out.mono ?_
       rintro e w4 ⟨rfl,hk4⟩
       have HNO':=hid (HNO.out w4 (HK3.out.trans hk4 (fun _ _ h=>h.elim)) (fun g=>by have:=g.2.2.1;omega))
       clear hk4
       go_wp2_with fail
       go_ret
       exact HNO'.out
     · have MK:=hid (mark_yes _ base V (some ⟨b,o,none⟩) n c zs (x+10) M m cm T ct acc tl HG.out hbs (by omega))
       go_wp2_with fail
       refine MK.out.mono ?_
       rintro e w4 ⟨rfl,⟨M4,cm4,T4,ct4,hw4⟩,hk4⟩
       have HW4:=hid hw4
       have HK4:=hid (HK3.out.trans hk4 (fun _ _ h=>h))
       have r0:w4.cell? ⟨V,0,none⟩=some (.slice (some ⟨b,o,none⟩) n c):=hw4.blk.cell 0
       have r1:w4.cell? ⟨V,1,none⟩=some (.int .i64 ((x:Int)+12)):=hw4.blk.cell 1
       have r4:w4.cell? ⟨V,4,none⟩=some (.bool tl):=hw4.blk.cell 4
       have g1:w4.frozen? ⟨V,1,none⟩=false:=hw4.blk.frozen 1
       have g4:w4.frozen? ⟨V,4,none⟩=false:=hw4.blk.frozen 4
       clear hw4 hk4 MK HG HK3 q0 q1 f1
       by_cases hsod:two zs (x+10)=65427
       · rw [hsod]at HW4 ⊢
         by_cases hlo:(p:Int)+S<(x:Int)+12
         · have HNO':=hid (HNO.out w4 HK4.out (fun g=>by have:=g.2.2.2.1;have:=HS.out;omega))
           go_wp2_with fail
           go_ret
           exact HNO'.out
         · by_cases hhi:(n:Int)<(p:Int)+S
           · have HNO':=hid (HNO.out w4 HK4.out (fun g=>by have:=g.2.2.2.2;have:=HS.out;omega))
             go_wp2_with fail
             go_ret
             exact HNO'.out
           · have hyes:tileGood zs p:=⟨by omega,by omega,by omega,by have:=HS.out;omega,by have:=HS.out;omega⟩
             have hpS:(p:Int)+S=((p+S.toNat:Nat):Int):=by omega
             have hG5:WkG (w4.setCell ⟨V,1,none⟩ (.int .i64 ((p:Int)+S))) base V (some ⟨b,o,none⟩) n c zs (p+S.toNat) M4 (m+1) cm4 T4 ct4 (acc++[(65427,x+10)]) tl:=by rw [hpS];exact HW4.out.goto _ (by omega) (by have:=HW2.out.few;omega)
             have hK5:Keep (fun j=>base≤j) w (w4.setCell ⟨V,1,none⟩ (.int .i64 ((p:Int)+S))):=HK4.out.setCell (p:=⟨V,1,none⟩) (.inl HW2.out.vb) _
             have HF:=hid (show TileP w base V (some ⟨b,o,none⟩) n c zs p acc (.returned (.bool true)) ((w4.setCell ⟨V,1,none⟩ (.int .i64 ((p:Int)+S))).setCell ⟨V,4,none⟩ (.bool true))from
              ⟨hK5.setCell (p:=⟨V,4,none⟩) (.inl HW2.out.vb) _,by rw [if_pos hyes,HS.out,hx10.out];exact⟨rfl,M4,m+1,cm4,T4,ct4,hG5.tiles⟩⟩)
             clear hG5 hK5 hpS HW4
             go_wp2_with fail
             go_ret
             exact HF.out
       · have HNO':=hid (HNO.out w4 HK4.out (fun g=>hsod (by rw [← hgy];exact g.2.2.1)))
         have hne:(two zs (x+10) != 65427)=true:=by simpa using hsod
         clear HW4
         generalize two zs (x+10)=z at*
         go_wp2_with fail
         go_ret
         exact HNO'.out
   · have HNO':=hid (HNO.out w2 HK2.out (fun g=>hten (by rw [← hgx];exact g.1)))
     have hne:(two zs x != 10)=true:=by simpa using hten
     generalize two zs x=z at*
     go_wp2_with fail
     go_ret
     exact HNO'.out
 · have d1:(decide (2≤two zs x)&&decide (two zs x≤(n:Int)-x))=false:=by
    rw [Bool.and_eq_false_iff]
    by_cases h2:2≤two zs x
    · right;simp;omega
    · left;simp;omega
   rw [d1]
   have HNO':=hid (HNO.out w2 HK2.out (fun g=>hz (by have:=g.1;have:=g.2.1;omega)))
   generalize (if n<x+2 then 0 else two zs x)=z
   go_wp2_with fail
   go_ret
   exact HNO'.out
end Go.Proofs.YthfogcgdijmaoaaGreat
