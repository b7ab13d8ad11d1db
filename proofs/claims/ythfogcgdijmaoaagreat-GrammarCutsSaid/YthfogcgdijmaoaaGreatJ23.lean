/-
  Part 23 of the proof: GramLen GramSeg. Conditions: those of the statements.
-/
import Derived.Test.YthfogcgdijmaoaaGreatJ9
set_option maxRecDepth 100000
set_option maxHeartbeats 16000000
set_option linter.unusedVariables false
set_option linter.unusedSimpArgs false
namespace Go.Proofs.YthfogcgdijmaoaaGreat
open Go.RowKit
theorem WkG.drew {w:World} {base V:Nat} {A:Option Addr} {n c:Nat} {zs:List Int} {x:Nat} {M:Option Addr} {m cm:Nat} {T:Option Addr} {ct:Nat} {acc:List (Int×Nat)} {tl:Bool} (h:WkG w base V A n c zs x M m cm T ct acc tl):WkG w.drew base V A n c zs x M m cm T ct acc tl:=
 { h with blk:=h.blk.drew,rd:=h.rd.drew,oM:=h.oM.drew,oT:=h.oT.drew }
theorem mark_no (w:World) (base V:Nat) (A:Option Addr) (n c:Nat) (zs:List Int) (x:Nat) (M:Option Addr) (m cm:Nat) (T:Option Addr) (ct:Nat) (acc:List (Int×Nat)) (tl:Bool) (h:WkG w base V A n c zs x M m cm T ct acc tl) (hm:two zs x<65280):
 Calls Tryz.prog 43 #[.pointer (some ⟨V,0,none⟩)] w fun e w'=>e=.returned (.tuple #[.int .i64 0,.bool false])∧Keep (fun _=>False) w w':=by
 have hlen:=h.len
 have hbig:=h.big
 have hsz9:=h.size
 have hcap:=h.cap
 have hat:=h.at_
 have hws:IntKind.i64.wrap ((n:Int)-x)=(n:Int)-x:=IntWalk.i64_in _ (by omega)
 have c0:w.cell? ⟨V,0,none⟩=some (.slice A n c):=h.blk.cell 0
 have c1:w.cell? ⟨V,1,none⟩=some (.int .i64 x):=h.blk.cell 1
 by_cases hs:n<x+2
 · have hdl:decide ((n:Int)-x<2)=true:=by simp;omega
   clear h
   go_enter Tryz.func43,Tryz.ntmps43
   go_wp2_with fail
   refine At.start (L:=#[false,false,false,false,false,false,false,false,false,false,false,false,false,false,false,false,false,false,false,false,false,false,false,false]) (by kernel_rfl) rfl ?_
   refine AtP 0 (some 5) ?_
   try simp only [NS]
   refine AtP 1 (some 6) ?_
   try simp only [NS]
   refine AtP 2 (some 7) ?_
   try simp only [NS]
   refine At.read 3 (some 8) (fun w'=>w'.cell? ⟨V,0,none⟩=some (.slice A n c)) (v:=?v3a) rfl rfl (by kernel_rfl) (fun _ _ _ h=>h) rfl c0 (fun w' hw'=>?y3a) ?_
   case y3a=>skip;go_simp;try with_reducible rfl
   try simp only [NS]
   refine AtP 4 (some 9) ?_
   try simp only [NS]
   refine AtP 5 (some 10) ?_
   try simp only [NS]
   refine AtP 6 (some 11) ?_
   try simp only [NS]
   refine AtP 7 (some 12) ?_
   try simp only [NS]
   refine At.read 8 (some 13) (fun w'=>w'.cell? ⟨V,1,none⟩=some (.int .i64 x)) (v:=?v8a) rfl rfl (by kernel_rfl) (fun _ _ _ h=>h) rfl c1 (fun w' hw'=>?y8a) ?_
   case y8a=>skip;go_simp;try with_reducible rfl
   try simp only [NS]
   refine AtP 9 (some 14) ?_
   try simp only [NS]
   refine AtP 10 (some 15) ?_
   try simp only [NS]
   refine AtP 11 (some 16) ?_
   try simp only [NS]
   refine At.skip 12 (some 17) rfl rfl (by kernel_rfl) (fun _ _ _ h=>h) rfl ?_
   try simp only [NS]
   refine At.skip 13 (some 18) rfl rfl (by kernel_rfl) (fun _ _ _ h=>h) rfl ?_
   try simp only [NS]
   refine At.skip 14 (some 19) rfl rfl (by kernel_rfl) (fun _ _ _ h=>h) rfl ?_
   try simp only [NS]
   refine At.skip 15 (some 20) rfl rfl (by kernel_rfl) (fun _ _ _ h=>h) rfl ?_
   try simp only [NS]
   refine At.skip 16 (some 21) rfl rfl (by kernel_rfl) (fun _ _ _ h=>h) rfl ?_
   try simp only [NS]
   refine At.skip 17 (some 22) rfl rfl (by kernel_rfl) (fun _ _ _ h=>h) rfl ?_
   try simp only [NS]
   refine At.skip 18 (some 23) rfl rfl (by kernel_rfl) (fun _ _ _ h=>h) rfl ?_
   try simp only [NS]
   refine At.skip 19 (some 24) rfl rfl (by kernel_rfl) (fun _ _ _ h=>h) rfl ?_
   try simp only [NS]
   refine At.skip 20 (some 25) rfl rfl (by kernel_rfl) (fun _ _ _ h=>h) rfl ?_
   try simp only [NS]
   refine At.skip 21 (some 26) rfl rfl (by kernel_rfl) (fun _ _ _ h=>h) rfl ?_
   try simp only [NS]
   refine At.skip 22 (some 27) rfl rfl (by kernel_rfl) (fun _ _ _ h=>h) rfl ?_
   try simp only [NS]
   refine AtP 23 (some 28) ?_
   try simp only [NS]
   refine At.done (by kernel_rfl) ?_
   go_wp2_with fail
   exact bodyPost_ret (v:=.tuple #[.int .i64 0,.bool false]) (by simp [results,Tryz.results43,go_sem]) rfl ⟨rfl,(Keep.refl _ w).drew⟩
 · have hdl:decide ((n:Int)-x<2)=false:=by simp;omega
   obtain⟨b,o,rfl,b0⟩:=h.rd.int_ix (k:=x) (by omega)
   have hxn:x<n:=by omega
   obtain⟨e,h1,h2,h3,h4⟩:=two_byte h.byt (p:=x) (by omega)
   have hne0:zs.getD x 0≠255:=by omega
   generalize zs.getD x 0=z at*
   have hne:(z != 255)=true:=by simpa using hne0
   clear h e hm
   go_enter Tryz.func43,Tryz.ntmps43
   go_wp2_with fail
   refine At.start (L:=#[false,false,false,false,false,false,false,false,false,false,false,false,false,false,false,false,false,false,false,false,false,false,false,false]) (by kernel_rfl) rfl ?_
   refine AtP 0 (some 5) ?_
   try simp only [NS]
   refine AtP 1 (some 6) ?_
   try simp only [NS]
   refine AtP 2 (some 7) ?_
   try simp only [NS]
   refine At.read 3 (some 8) (fun w'=>w'.cell? ⟨V,0,none⟩=some (.slice (some ⟨b,o,none⟩) n c)) (v:=?v3b) rfl rfl (by kernel_rfl) (fun _ _ _ h=>h) rfl c0 (fun w' hw'=>?y3b) ?_
   case y3b=>skip;go_simp;try with_reducible rfl
   try simp only [NS]
   refine AtP 4 (some 9) ?_
   try simp only [NS]
   refine AtP 5 (some 10) ?_
   try simp only [NS]
   refine AtP 6 (some 11) ?_
   try simp only [NS]
   refine AtP 7 (some 12) ?_
   try simp only [NS]
   refine At.read 8 (some 13) (fun w'=>w'.cell? ⟨V,1,none⟩=some (.int .i64 x)) (v:=?v8b) rfl rfl (by kernel_rfl) (fun _ _ _ h=>h) rfl c1 (fun w' hw'=>?y8b) ?_
   case y8b=>skip;go_simp;try with_reducible rfl
   try simp only [NS]
   refine AtP 9 (some 14) ?_
   try simp only [NS]
   refine AtP 10 (some 15) ?_
   try simp only [NS]
   refine AtP 11 (some 16) ?_
   try simp only [NS]
   refine AtP 12 (some 17) ?_
   try simp only [NS]
   refine AtP 13 (some 18) ?_
   try simp only [NS]
   refine AtP 14 (some 19) ?_
   try simp only [NS]
   refine At.read 15 (some 20) (fun w'=>w'.cell? ⟨V,0,none⟩=some (.slice (some ⟨b,o,none⟩) n c)) (v:=?v15b) rfl rfl (by kernel_rfl) (fun _ _ _ h=>h) rfl c0 (fun w' hw'=>?y15b) ?_
   case y15b=>skip;go_simp;try with_reducible rfl
   try simp only [NS]
   refine AtP 16 (some 21) ?_
   try simp only [NS]
   refine AtP 17 (some 22) ?_
   try simp only [NS]
   refine AtP 18 (some 23) ?_
   try simp only [NS]
   refine At.read 19 (some 24) (fun w'=>w'.cell? ⟨V,1,none⟩=some (.int .i64 x)) (v:=?v19b) rfl rfl (by kernel_rfl) (fun _ _ _ h=>h) rfl c1 (fun w' hw'=>?y19b) ?_
   case y19b=>skip;go_simp;try with_reducible rfl
   try simp only [NS]
   refine AtP 20 (some 25) ?_
   try simp only [NS]
   refine At.read 21 (some 26) (fun w'=>w'.cell? ⟨b,o+x,none⟩=some (.int .u8 z)) (v:=?v21b) rfl rfl (by kernel_rfl) (fun _ _ _ h=>h) rfl b0 (fun w' hw'=>?y21b) ?_
   case y21b=>skip;go_simp;try with_reducible rfl
   try simp only [NS]
   refine AtP 22 (some 27) ?_
   try simp only [NS]
   refine AtP 23 (some 28) ?_
   try simp only [NS]
   refine At.done (by kernel_rfl) ?_
   go_wp2_with fail
   exact bodyPost_ret (v:=.tuple #[.int .i64 0,.bool false]) (by simp [results,Tryz.results43,go_sem]) rfl ⟨rfl,(Keep.refl _ w).drew⟩
theorem length_any (w:World) (base V:Nat) (A:Option Addr) (n c:Nat) (zs:List Int) (x:Nat) (M:Option Addr) (m cm:Nat) (T:Option Addr) (ct:Nat) (acc:List (Int×Nat)) (tl:Bool) (h:WkG w base V A n c zs x M m cm T ct acc tl):
 Calls Tryz.prog 73 #[.pointer (some ⟨V,0,none⟩)] w fun e w'=>e=.returned (.tuple #[.int .i64 (if n<x+2 then 0 else two zs x),.bool (decide (2≤two zs x)&&decide (two zs x≤(n:Int)-x))])∧WkG w' base V A n c zs x M m cm T ct acc tl∧Keep (fun _=>False) w w':=by
 have hlen:=h.len
 have hbig:=h.big
 have hsz9:=h.size
 have hcap:=h.cap
 have hat:=h.at_
 have hws:IntKind.i64.wrap ((n:Int)-x)=(n:Int)-x:=IntWalk.i64_in _ (by omega)
 have hw2:IntKind.i64.wrap ((x:Int)+2)=(x:Int)+2:=IntWalk.i64_in _ (by omega)
 have c0:w.cell? ⟨V,0,none⟩=some (.slice A n c):=h.blk.cell 0
 have c1:w.cell? ⟨V,1,none⟩=some (.int .i64 x):=h.blk.cell 1
 by_cases hs:n<x+2
 · have hdl:decide ((n:Int)-x<2)=true:=by simp;omega
   have ht:two zs x=-1:=two_lt (by omega)
   rw [if_pos hs,ht]
   have HW:=hid h
   clear h
   go_enter Tryz.func73,Tryz.ntmps73
   go_wp2_with fail
   refine At.start (L:=#[false,false,false,false,false,false,false,false,false,false,false]) (by kernel_rfl) rfl ?_
   refine AtP 0 (some 5) ?_
   try simp only [NS]
   refine AtP 1 (some 6) ?_
   try simp only [NS]
   refine AtP 2 (some 7) ?_
   try simp only [NS]
   refine At.read 3 (some 8) (fun w'=>w'.cell? ⟨V,0,none⟩=some (.slice A n c)) (v:=?v3a) rfl rfl (by kernel_rfl) (fun _ _ _ h=>h) rfl c0 (fun w' hw'=>?y3a) ?_
   case y3a=>skip;go_simp;try with_reducible rfl
   try simp only [NS]
   refine AtP 4 (some 9) ?_
   try simp only [NS]
   refine AtP 5 (some 10) ?_
   try simp only [NS]
   refine AtP 6 (some 11) ?_
   try simp only [NS]
   refine AtP 7 (some 12) ?_
   try simp only [NS]
   refine At.read 8 (some 13) (fun w'=>w'.cell? ⟨V,1,none⟩=some (.int .i64 x)) (v:=?v8a) rfl rfl (by kernel_rfl) (fun _ _ _ h=>h) rfl c1 (fun w' hw'=>?y8a) ?_
   case y8a=>skip;go_simp;try with_reducible rfl
   try simp only [NS]
   refine AtP 9 (some 14) ?_
   try simp only [NS]
   refine AtP 10 (some 15) ?_
   try simp only [NS]
   refine At.done (by kernel_rfl) ?_
   go_wp2_with fail
   exact bodyPost_ret (v:=.tuple #[.int .i64 0,.bool false]) (by simp [results,Tryz.results73,go_sem]) rfl ⟨rfl,HW.out.drew,(Keep.refl _ w).drew⟩
 · have hdl:decide ((n:Int)-x<2)=false:=by simp;omega
   rw [if_neg hs]
   have htw:two zs x=numU ((zs.drop x).take 2):=by
    rw [(two_byte h.byt (p:=x) (by omega)).1]
    have d:zs.drop x=zs.getD x 0::zs.getD (x+1) 0::zs.drop (x+2):=by
     rw [List.getD_eq_getElem?_getD,List.getD_eq_getElem?_getD,List.getElem?_eq_getElem (by omega),List.getElem?_eq_getElem (by omega)]
     rw [List.drop_eq_getElem_cons (by omega),List.drop_eq_getElem_cons (i:=x+1) (by omega)]
     rfl
    rw [d]
    simp [numU]
   have hxn:x<n:=by omega
   have s1:(x:Int)≤(x:Int)+2:=by omega
   have s2:(x:Int)+2≤(c:Int):=by omega
   have s3:(0:Int)≤(x:Int)+2:=by omega
   have s4:((x:Int)+2).toNat=x+2:=by omega
   have s5:x+2-x=2:=by omega
   have s6: ¬c=x:=by omega
   have s7: ¬c-x=0:=by omega
   obtain⟨b,o,rfl,b0⟩:=h.rd.int_ix (k:=x) (by omega)
   have hr2:Hid (Rd w (some ⟨b,o+x,none⟩) 2 (((zs.drop x).take 2).map (Value.int .u8))):=hid (by
    have:=(h.rd.drop (k:=x) (cap:=c) (by omega) h.cap).take (k:=2) (by omega)
    rw [← List.map_drop,←List.map_take,if_neg (by omega)]at this
    simpa [add_lit']using this)
   have hby2:Hid (Bytes ((zs.drop x).take 2)):=hid (fun z hz=>h.byt z (List.mem_of_mem_drop (List.mem_of_mem_take hz)))
   have htr:=two_range h.byt x
   have HW:=hid h
   clear h
   generalize two zs x=z at*
   have HTW:=hid htw
   clear htw
   go_enter Tryz.func73,Tryz.ntmps73
   go_wp2_with fail
   refine At.start (L:=#[false,false,false,false,false,false,false,false,false,false,false]) (by kernel_rfl) rfl ?_
   refine AtP 0 (some 5) ?_
   try simp only [NS]
   refine AtP 1 (some 6) ?_
   try simp only [NS]
   refine AtP 2 (some 7) ?_
   try simp only [NS]
   refine At.read 3 (some 8) (fun w'=>w'.cell? ⟨V,0,none⟩=some (.slice (some ⟨b,o,none⟩) n c)) (v:=?v3b) rfl rfl (by kernel_rfl) (fun _ _ _ h=>h) rfl c0 (fun w' hw'=>?y3b) ?_
   case y3b=>skip;go_simp;try with_reducible rfl
   try simp only [NS]
   refine AtP 4 (some 9) ?_
   try simp only [NS]
   refine AtP 5 (some 10) ?_
   try simp only [NS]
   refine AtP 6 (some 11) ?_
   try simp only [NS]
   refine AtP 7 (some 12) ?_
   try simp only [NS]
   refine At.read 8 (some 13) (fun w'=>w'.cell? ⟨V,1,none⟩=some (.int .i64 x)) (v:=?v8b) rfl rfl (by kernel_rfl) (fun _ _ _ h=>h) rfl c1 (fun w' hw'=>?y8b) ?_
   case y8b=>skip;go_simp;try with_reducible rfl
   try simp only [NS]
   refine AtP 9 (some 14) ?_
   try simp only [NS]
   refine AtP 10 (some 15) ?_
   try simp only [NS]
   refine At.done (by kernel_rfl) ?_
   go_wp2_with fail
   refine At.start (L:=#[false,false,false,false,false,false,false,false,false,false,false,false,false,false,false,false]) (by kernel_rfl) rfl ?_
   refine AtP 0 (some 16) ?_
   try simp only [NS]
   refine AtP 1 (some 17) ?_
   try simp only [NS]
   refine AtP 2 (some 18) ?_
   try simp only [NS]
   refine At.read 3 (some 19) (fun w'=>w'.cell? ⟨V,0,none⟩=some (.slice (some ⟨b,o,none⟩) n c)) (v:=?v3e) rfl rfl (by kernel_rfl) (fun _ _ _ h=>h) rfl c0 (fun w' hw'=>?y3e) ?_
   case y3e=>skip;go_simp;try with_reducible rfl
   try simp only [NS]
   refine AtP 4 (some 20) ?_
   try simp only [NS]
   refine AtP 5 (some 21) ?_
   try simp only [NS]
   refine AtP 6 (some 22) ?_
   try simp only [NS]
   refine At.read 7 (some 23) (fun w'=>w'.cell? ⟨V,1,none⟩=some (.int .i64 x)) (v:=?v7e) rfl rfl (by kernel_rfl) (fun _ _ _ h=>h) rfl c1 (fun w' hw'=>?y7e) ?_
   case y7e=>skip;go_simp;try with_reducible rfl
   try simp only [NS]
   refine AtP 8 (some 24) ?_
   try simp only [NS]
   refine AtP 9 (some 25) ?_
   try simp only [NS]
   refine AtP 10 (some 26) ?_
   try simp only [NS]
   refine At.read 11 (some 27) (fun w'=>w'.cell? ⟨V,1,none⟩=some (.int .i64 x)) (v:=?v11e) rfl rfl (by kernel_rfl) (fun _ _ _ h=>h) rfl c1 (fun w' hw'=>?y11e) ?_
   case y11e=>skip;go_simp;try with_reducible rfl
   try simp only [NS]
   refine AtP 12 (some 28) ?_
   try simp only [NS]
   refine AtP 13 (some 29) ?_
   try simp only [NS]
   refine AtC 14 fun K hK=>?_
   go_simp
   refine(number_any w.drew.drew (some ⟨b,o+x,none⟩) 2 (c-x) ((zs.drop x).take 2) hr2.out hby2.out (by omega)).mono ?_
   rintro e w2 ⟨rfl,rfl⟩
   refine hK _ _ all_nil ?_
   clear hK K
   try simp only [NS]
   refine AtP 15 (some 4) ?_
   try simp only [NS]
   refine At.done (by kernel_rfl) ?_
   rw [← HTW.out]
   go_wp2_with fail
   by_cases hz2:2≤z
   · have hzd:decide (2≤z)=true:=by simpa using hz2
     refine At.start (L:=#[false,false,false,false,false,false,false,false,false,false,false,false,false,false,false,false,false,false,false]) (by kernel_rfl) rfl ?_
     refine AtP 0 (some 31) ?_
     try simp only [NS]
     refine AtP 1 (some 32) ?_
     try simp only [NS]
     refine AtP 2 (some 33) ?_
     try simp only [NS]
     refine AtP 3 (some 34) ?_
     try simp only [NS]
     refine AtP 4 (some 35) ?_
     try simp only [NS]
     refine AtP 5 (some 36) ?_
     try simp only [NS]
     refine AtP 6 (some 37) ?_
     try simp only [NS]
     refine AtP 7 (some 38) ?_
     try simp only [NS]
     refine At.read 8 (some 39) (fun w'=>w'.cell? ⟨V,0,none⟩=some (.slice (some ⟨b,o,none⟩) n c)) (v:=?v8c) rfl rfl (by kernel_rfl) (fun _ _ _ h=>h) rfl c0 (fun w' hw'=>?y8c) ?_
     case y8c=>skip;go_simp;try with_reducible rfl
     try simp only [NS]
     refine AtP 9 (some 40) ?_
     try simp only [NS]
     refine AtP 10 (some 41) ?_
     try simp only [NS]
     refine AtP 11 (some 42) ?_
     try simp only [NS]
     refine AtP 12 (some 43) ?_
     try simp only [NS]
     refine At.read 13 (some 44) (fun w'=>w'.cell? ⟨V,1,none⟩=some (.int .i64 x)) (v:=?v13c) rfl rfl (by kernel_rfl) (fun _ _ _ h=>h) rfl c1 (fun w' hw'=>?y13c) ?_
     case y13c=>skip;go_simp;try with_reducible rfl
     try simp only [NS]
     refine AtP 14 (some 45) ?_
     try simp only [NS]
     refine AtP 15 (some 46) ?_
     try simp only [NS]
     refine AtP 16 (some 47) ?_
     try simp only [NS]
     refine AtP 17 (some 2) ?_
     try simp only [NS]
     refine AtP 18 (some 3) ?_
     try simp only [NS]
     refine At.done (by kernel_rfl) ?_
     go_wp2_with fail
     exact bodyPost_ret (v:=.tuple #[.int .i64 z,.bool (decide (2≤z)&&decide (z≤(n:Int)-x))]) (by simp [results,Tryz.results73,go_sem,hzd]) rfl ⟨rfl,HW.out.drew.drew.drew,(Keep.refl _ w).drew.drew.drew⟩
   · have hzd:decide (2≤z)=false:=by simpa using hz2
     refine At.start (L:=#[false,false,false,false,false,false,false,false,false,false,false,false,false,false,false,false,false,false,false]) (by kernel_rfl) rfl ?_
     refine AtP 0 (some 31) ?_
     try simp only [NS]
     refine AtP 1 (some 32) ?_
     try simp only [NS]
     refine AtP 2 (some 33) ?_
     try simp only [NS]
     refine AtP 3 (some 34) ?_
     try simp only [NS]
     refine At.skip 4 (some 35) rfl rfl (by kernel_rfl) (fun _ _ _ h=>h) rfl ?_
     try simp only [NS]
     refine At.skip 5 (some 36) rfl rfl (by kernel_rfl) (fun _ _ _ h=>h) rfl ?_
     try simp only [NS]
     refine At.skip 6 (some 37) rfl rfl (by kernel_rfl) (fun _ _ _ h=>h) rfl ?_
     try simp only [NS]
     refine At.skip 7 (some 38) rfl rfl (by kernel_rfl) (fun _ _ _ h=>h) rfl ?_
     try simp only [NS]
     refine At.skip 8 (some 39) rfl rfl (by kernel_rfl) (fun _ _ _ h=>h) rfl ?_
     try simp only [NS]
     refine At.skip 9 (some 40) rfl rfl (by kernel_rfl) (fun _ _ _ h=>h) rfl ?_
     try simp only [NS]
     refine At.skip 10 (some 41) rfl rfl (by kernel_rfl) (fun _ _ _ h=>h) rfl ?_
     try simp only [NS]
     refine At.skip 11 (some 42) rfl rfl (by kernel_rfl) (fun _ _ _ h=>h) rfl ?_
     try simp only [NS]
     refine At.skip 12 (some 43) rfl rfl (by kernel_rfl) (fun _ _ _ h=>h) rfl ?_
     try simp only [NS]
     refine At.skip 13 (some 44) rfl rfl (by kernel_rfl) (fun _ _ _ h=>h) rfl ?_
     try simp only [NS]
     refine At.skip 14 (some 45) rfl rfl (by kernel_rfl) (fun _ _ _ h=>h) rfl ?_
     try simp only [NS]
     refine At.skip 15 (some 46) rfl rfl (by kernel_rfl) (fun _ _ _ h=>h) rfl ?_
     try simp only [NS]
     refine AtP 16 (some 47) ?_
     try simp only [NS]
     refine AtP 17 (some 2) ?_
     try simp only [NS]
     refine AtP 18 (some 3) ?_
     try simp only [NS]
     refine At.done (by kernel_rfl) ?_
     go_wp2_with fail
     exact bodyPost_ret (v:=.tuple #[.int .i64 z,.bool false]) (by simp [results,Tryz.results73,go_sem]) rfl ⟨rfl,HW.out.drew.drew.drew,(Keep.refl _ w).drew.drew.drew⟩
theorem WkG.goto {w:World} {base V:Nat} {A:Option Addr} {n c:Nat} {zs:List Int} {x:Nat} {M:Option Addr} {m cm:Nat} {T:Option Addr} {ct:Nat} {acc:List (Int×Nat)} {tl:Bool} (h:WkG w base V A n c zs x M m cm T ct acc tl) (y:Nat) (hy:y≤n) (hm:m≤y):WkG (w.setCell ⟨V,1,none⟩ (.int .i64 y)) base V A n c zs y M m cm T ct acc tl:=
 have hk:Keep (fun j=>j=V) w (w.setCell ⟨V,1,none⟩ (.int .i64 y)):=Keep.set1 w V 1 _
 have nM:=own_ne h.oM h.blk (by decide)
 have nT:=own_ne h.oT h.blk (by decide)
 { h with
   blk:=h.blk.set_ 1 (.int .i64 y)
   rd:=h.rd.keep hk (fun ad e hk=>by have:=h.low ad e;have:=h.vb;omega)
   oM:=own_keep h.oM hk (fun k e hk=>nM (by rw [e,hk]))
   oT:=own_keep h.oT hk (fun k e hk=>nT (by rw [e,hk]))
   few:=hm
   at_:=hy }
theorem WkG.tiles {w:World} {base V:Nat} {A:Option Addr} {n c:Nat} {zs:List Int} {x:Nat} {M:Option Addr} {m cm:Nat} {T:Option Addr} {ct:Nat} {acc:List (Int×Nat)} {tl:Bool} (h:WkG w base V A n c zs x M m cm T ct acc tl):WkG (w.setCell ⟨V,4,none⟩ (.bool true)) base V A n c zs x M m cm T ct acc true:=
 have hk:Keep (fun j=>j=V) w (w.setCell ⟨V,4,none⟩ (.bool true)):=Keep.set1 w V 4 _
 have nM:=own_ne h.oM h.blk (by decide)
 have nT:=own_ne h.oT h.blk (by decide)
 { h with
   blk:=h.blk.set_ 4 (.bool true)
   rd:=h.rd.keep hk (fun ad e hk=>by have:=h.low ad e;have:=h.vb;omega)
   oM:=own_keep h.oM hk (fun k e hk=>nM (by rw [e,hk]))
   oT:=own_keep h.oT hk (fun k e hk=>nT (by rw [e,hk])) }
def SegP (w:World) (base V:Nat) (A:Option Addr) (n c:Nat) (zs:List Int) (x:Nat) (M:Option Addr) (m cm:Nat) (T:Option Addr) (ct:Nat) (acc:List (Int×Nat)) (tl:Bool) (mk:Int) (e:Ending) (w':World):Prop:=
 Keep (fun j=>base≤j) w w'∧
 if 65328≤mk∧mk≤65343 then e=.returned (.bool true)∧WkG w' base V A n c zs x M m cm T ct acc tl
 else if two zs x<2∨(n:Int)-x<two zs x then e=.returned (.bool false)
 else e=.returned (.bool true)∧WkG w' base V A n c zs (x+(two zs x).toNat) M m cm T ct acc tl
theorem segment_any (w:World) (base V:Nat) (A:Option Addr) (n c:Nat) (zs:List Int) (x:Nat) (M:Option Addr) (m cm:Nat) (T:Option Addr) (ct:Nat) (acc:List (Int×Nat)) (tl:Bool) (mk:Int) (h:WkG w base V A n c zs x M m cm T ct acc tl):
 Calls Tryz.prog 45 #[.pointer (some ⟨V,0,none⟩),.int .i64 mk] w (SegP w base V A n c zs x M m cm T ct acc tl mk):=by
 have HW:=hid h
 have hbig:=h.big
 have hsz9:=h.size
 have hsize:=h.size
 have hat:=h.at_
 have htr:=two_range h.byt x
 clear h
 by_cases hk:65328≤mk
 · by_cases hk2:mk≤65343
   · have HP:=hid (show∀w',Keep (fun _=>False) w w'→WkG w' base V A n c zs x M m cm T ct acc tl→SegP w base V A n c zs x M m cm T ct acc tl mk (.returned (.bool true)) w' from fun w' k g=>⟨k.mono (fun _ _ h=>h.elim),by rw [if_pos ⟨hk,hk2⟩];exact⟨rfl,g⟩⟩)
     go_enter Tryz.func45,Tryz.ntmps45
     go_wp2_with fail
     go_ret
     exact HP.out _ (Keep.refl _ _) HW.out
   · have HP:=hid (show¬(65328≤mk∧mk≤65343)from fun h=>hk2 h.2)
     go_enter Tryz.func45,Tryz.ntmps45
     go_wp2_with fail
     refine(length_any w base V A n c zs x M m cm T ct acc tl HW.out).mono ?_
     rintro e w2 ⟨rfl,hw2,hk2⟩
     have HW2:=hid hw2
     have HK2:=hid hk2
     have q1:w2.cell? ⟨V,1,none⟩=some (.int .i64 x):=hw2.blk.cell 1
     have f1:w2.frozen? ⟨V,1,none⟩=false:=hw2.blk.frozen 1
     clear hw2 hk2 HW
     by_cases hz:2≤two zs x∧two zs x≤(n:Int)-x
     · have d1:decide (2≤two zs x)=true:=by simpa using hz.1
       have d2:decide (two zs x≤(n:Int)-x)=true:=by simpa using hz.2
       rw [d1,d2,if_neg (by omega)]
       have hx':(x:Int)+two zs x=((x+(two zs x).toNat:Nat):Int):=by omega
       have HF:=hid (show SegP w base V A n c zs x M m cm T ct acc tl mk (.returned (.bool true)) (w2.setCell ⟨V,1,none⟩ (.int .i64 ((x:Int)+two zs x)))from⟨by
        have:=HW2.out.vb
        exact(HK2.out.mono (fun _ _ h=>h.elim)).setCell (p:=⟨V,1,none⟩) (.inl this) _,by
        rw [if_neg HP.out,if_neg (by omega),hx']
        exact⟨rfl,HW2.out.goto _ (by omega) (by have:=HW2.out.few;omega)⟩⟩)
       have hwr:IntKind.i64.wrap ((x:Int)+two zs x)=(x:Int)+two zs x:=IntWalk.i64_in _ (by omega)
       clear hx' d1 d2
       generalize two zs x=z at*
       go_wp2_with fail
       go_ret
       exact HF.out
     · have d1:(decide (2≤two zs x)&&decide (two zs x≤(n:Int)-x))=false:=by
        rw [Bool.and_eq_false_iff]
        by_cases h2:2≤two zs x
        · right;simp;omega
        · left;simp;omega
       rw [d1]
       have HF:=hid (show SegP w base V A n c zs x M m cm T ct acc tl mk (.returned (.bool false)) w2 from⟨HK2.out.mono (fun _ _ h=>h.elim),by rw [if_neg HP.out,if_pos (by omega)]⟩)
       generalize (if n<x+2 then 0 else two zs x)=z
       go_wp2_with fail
       go_ret
       exact HF.out
 · have HP:=hid (show¬(65328≤mk∧mk≤65343)from fun h=>hk h.1)
   go_enter Tryz.func45,Tryz.ntmps45
   go_wp2_with fail
   refine(length_any w base V A n c zs x M m cm T ct acc tl HW.out).mono ?_
   rintro e w2 ⟨rfl,hw2,hk2⟩
   have HW2:=hid hw2
   have HK2:=hid hk2
   have q1:w2.cell? ⟨V,1,none⟩=some (.int .i64 x):=hw2.blk.cell 1
   have f1:w2.frozen? ⟨V,1,none⟩=false:=hw2.blk.frozen 1
   clear hw2 hk2 HW
   by_cases hz:2≤two zs x∧two zs x≤(n:Int)-x
   · have d1:decide (2≤two zs x)=true:=by simpa using hz.1
     have d2:decide (two zs x≤(n:Int)-x)=true:=by simpa using hz.2
     rw [d1,d2,if_neg (by omega)]
     have hx':(x:Int)+two zs x=((x+(two zs x).toNat:Nat):Int):=by omega
     have HF:=hid (show SegP w base V A n c zs x M m cm T ct acc tl mk (.returned (.bool true)) (w2.setCell ⟨V,1,none⟩ (.int .i64 ((x:Int)+two zs x)))from⟨by
      have:=HW2.out.vb
      exact(HK2.out.mono (fun _ _ h=>h.elim)).setCell (p:=⟨V,1,none⟩) (.inl this) _,by
      rw [if_neg HP.out,if_neg (by omega),hx']
      exact⟨rfl,HW2.out.goto _ (by omega) (by have:=HW2.out.few;omega)⟩⟩)
     have hwr:IntKind.i64.wrap ((x:Int)+two zs x)=(x:Int)+two zs x:=IntWalk.i64_in _ (by omega)
     clear hx' d1 d2
     generalize two zs x=z at*
     go_wp2_with fail
     go_ret
     exact HF.out
   · have d1:(decide (2≤two zs x)&&decide (two zs x≤(n:Int)-x))=false:=by
      rw [Bool.and_eq_false_iff]
      by_cases h2:2≤two zs x
      · right;simp;omega
      · left;simp;omega
     rw [d1]
     have HF:=hid (show SegP w base V A n c zs x M m cm T ct acc tl mk (.returned (.bool false)) w2 from⟨HK2.out.mono (fun _ _ h=>h.elim),by rw [if_neg HP.out,if_pos (by omega)]⟩)
     generalize (if n<x+2 then 0 else two zs x)=z
     go_wp2_with fail
     go_ret
     exact HF.out
end Go.Proofs.YthfogcgdijmaoaaGreat
