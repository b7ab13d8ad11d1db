/-
  Part 9 of the proof: GramLen. Conditions: those of the statements.
-/
import Derived.Test.YthfogcgdijmaoaaGreatW6
set_option maxRecDepth 100000
set_option maxHeartbeats 16000000
set_option linter.unusedVariables false
set_option linter.unusedSimpArgs false
namespace Go.Proofs.YthfogcgdijmaoaaGreat
open Go.RowKit
theorem WkG.drew {w:World} {base V:Nat} {A:Option Addr} {n c:Nat} {zs:List Int} {x:Nat} {M:Option Addr} {m cm:Nat} {T:Option Addr} {ct:Nat} {acc:List (Int×Nat)} {tl:Bool} (h:WkG w base V A n c zs x M m cm T ct acc tl):WkG w.drew base V A n c zs x M m cm T ct acc tl:=
 { h with blk:=h.blk.drew,rd:=h.rd.drew,oM:=h.oM.drew,oT:=h.oT.drew }
theorem mark_no (w:World) (base V:Nat) (A:Option Addr) (n c:Nat) (zs:List Int) (x:Nat) (M:Option Addr) (m cm:Nat) (T:Option Addr) (ct:Nat) (acc:List (Int×Nat)) (tl:Bool) (h:WkG w base V A n c zs x M m cm T ct acc tl) (hm:two zs x<65280):
 Calls Tryz.prog 43 #[.pointer (some ⟨V,0,none⟩)] w fun e w'=>e=.returned (.tuple #[.int .i64 0,.bool false])∧Keep (fun _=>False) w w':=by
 have hlen:=h.len
 have hbig:=h.big
 have hsz9:=h.size
 have hcap:=h.cap
 have hat:=h.at_
 have hws:IntKind.i64.wrap ((n:Int)-x)=(n:Int)-x:=IntWalk.i64_in _ (by omega)
 have c0:w.cell? ⟨V,0,none⟩=some (.slice A n c):=h.blk.cell 0
 have c1:w.cell? ⟨V,1,none⟩=some (.int .i64 x):=h.blk.cell 1
 by_cases hs:n<x+2
 · have hdl:decide ((n:Int)-x<2)=true:=by simp;omega
   clear h
   go_enter Tryz.func43,Tryz.ntmps43
   go_wp2_with fail
   refine At.start (L:=#[false,false,false,false,false,false,false,false,false,false,false,false,false,false,false,false,false,false,false,false,false,false,false,false]) (by kernel_rfl) rfl ?_
   refine AtP 0 5 ?_
   refine AtP 1 6 ?_
   refine AtP 2 7 ?_
   refine At.read 3 (some 8) (fun w'=>w'.cell? ⟨V,0,none⟩=some (.slice A n c)) (v:=?v3a) rfl rfl (by kernel_rfl) (fun _ _ _ h=>h) rfl c0 (fun w' hw'=>?y3a) ?_
   case y3a=>skip;go_simp;try with_reducible rfl
   try simp only [NS]
   refine AtP 4 9 ?_
   refine AtP 5 10 ?_
   refine AtP 6 11 ?_
   refine AtP 7 12 ?_
   refine At.read 8 (some 13) (fun w'=>w'.cell? ⟨V,1,none⟩=some (.int .i64 x)) (v:=?v8a) rfl rfl (by kernel_rfl) (fun _ _ _ h=>h) rfl c1 (fun w' hw'=>?y8a) ?_
   case y8a=>skip;go_simp;try with_reducible rfl
   try simp only [NS]
   refine AtP 9 14 ?_
   refine AtP 10 15 ?_
   refine AtP 11 16 ?_
   refine At.skip 12 (some 17) rfl rfl (by kernel_rfl) (fun _ _ _ h=>h) rfl ?_
   try simp only [NS]
   refine At.skip 13 (some 18) rfl rfl (by kernel_rfl) (fun _ _ _ h=>h) rfl ?_
   try simp only [NS]
   refine At.skip 14 (some 19) rfl rfl (by kernel_rfl) (fun _ _ _ h=>h) rfl ?_
   try simp only [NS]
   refine At.skip 15 (some 20) rfl rfl (by kernel_rfl) (fun _ _ _ h=>h) rfl ?_
   try simp only [NS]
   refine At.skip 16 (some 21) rfl rfl (by kernel_rfl) (fun _ _ _ h=>h) rfl ?_
   try simp only [NS]
   refine At.skip 17 (some 22) rfl rfl (by kernel_rfl) (fun _ _ _ h=>h) rfl ?_
   try simp only [NS]
   refine At.skip 18 (some 23) rfl rfl (by kernel_rfl) (fun _ _ _ h=>h) rfl ?_
   try simp only [NS]
   refine At.skip 19 (some 24) rfl rfl (by kernel_rfl) (fun _ _ _ h=>h) rfl ?_
   try simp only [NS]
   refine At.skip 20 (some 25) rfl rfl (by kernel_rfl) (fun _ _ _ h=>h) rfl ?_
   try simp only [NS]
   refine At.skip 21 (some 26) rfl rfl (by kernel_rfl) (fun _ _ _ h=>h) rfl ?_
   try simp only [NS]
   refine At.skip 22 (some 27) rfl rfl (by kernel_rfl) (fun _ _ _ h=>h) rfl ?_
   try simp only [NS]
   refine AtP 23 28 ?_
   refine At.done (by kernel_rfl) ?_
   go_wp2_with fail
   exact bodyPost_ret (v:=.tuple #[.int .i64 0,.bool false]) (by simp [results,Tryz.results43,go_sem]) rfl ⟨rfl,(Keep.refl _ w).drew⟩
 · have hdl:decide ((n:Int)-x<2)=false:=by simp;omega
   obtain⟨b,o,rfl,b0⟩:=h.rd.int_ix (k:=x) (by omega)
   have hxn:x<n:=by omega
   obtain⟨e,h1,h2,h3,h4⟩:=two_byte h.byt (p:=x) (by omega)
   have hne0:zs.getD x 0≠255:=by omega
   generalize zs.getD x 0=z at*
   have hne:(z != 255)=true:=by simpa using hne0
   clear h e hm
   go_enter Tryz.func43,Tryz.ntmps43
   go_wp2_with fail
   refine At.start (L:=#[false,false,false,false,false,false,false,false,false,false,false,false,false,false,false,false,false,false,false,false,false,false,false,false]) (by kernel_rfl) rfl ?_
   refine AtP 0 5 ?_
   refine AtP 1 6 ?_
   refine AtP 2 7 ?_
   refine At.read 3 (some 8) (fun w'=>w'.cell? ⟨V,0,none⟩=some (.slice (some ⟨b,o,none⟩) n c)) (v:=?v3b) rfl rfl (by kernel_rfl) (fun _ _ _ h=>h) rfl c0 (fun w' hw'=>?y3b) ?_
   case y3b=>skip;go_simp;try with_reducible rfl
   try simp only [NS]
   refine AtP 4 9 ?_
   refine AtP 5 10 ?_
   refine AtP 6 11 ?_
   refine AtP 7 12 ?_
   refine At.read 8 (some 13) (fun w'=>w'.cell? ⟨V,1,none⟩=some (.int .i64 x)) (v:=?v8b) rfl rfl (by kernel_rfl) (fun _ _ _ h=>h) rfl c1 (fun w' hw'=>?y8b) ?_
   case y8b=>skip;go_simp;try with_reducible rfl
   try simp only [NS]
   refine AtP 9 14 ?_
   refine AtP 10 15 ?_
   refine AtP 11 16 ?_
   refine AtP 12 17 ?_
   refine AtP 13 18 ?_
   refine AtP 14 19 ?_
   refine At.read 15 (some 20) (fun w'=>w'.cell? ⟨V,0,none⟩=some (.slice (some ⟨b,o,none⟩) n c)) (v:=?v15b) rfl rfl (by kernel_rfl) (fun _ _ _ h=>h) rfl c0 (fun w' hw'=>?y15b) ?_
   case y15b=>skip;go_simp;try with_reducible rfl
   try simp only [NS]
   refine AtP 16 21 ?_
   refine AtP 17 22 ?_
   refine AtP 18 23 ?_
   refine At.read 19 (some 24) (fun w'=>w'.cell? ⟨V,1,none⟩=some (.int .i64 x)) (v:=?v19b) rfl rfl (by kernel_rfl) (fun _ _ _ h=>h) rfl c1 (fun w' hw'=>?y19b) ?_
   case y19b=>skip;go_simp;try with_reducible rfl
   try simp only [NS]
   refine AtP 20 25 ?_
   refine At.read 21 (some 26) (fun w'=>w'.cell? ⟨b,o+x,none⟩=some (.int .u8 z)) (v:=?v21b) rfl rfl (by kernel_rfl) (fun _ _ _ h=>h) rfl b0 (fun w' hw'=>?y21b) ?_
   case y21b=>skip;go_simp;try with_reducible rfl
   try simp only [NS]
   refine AtP 22 27 ?_
   refine AtP 23 28 ?_
   refine At.done (by kernel_rfl) ?_
   go_wp2_with fail
   exact bodyPost_ret (v:=.tuple #[.int .i64 0,.bool false]) (by simp [results,Tryz.results43,go_sem]) rfl ⟨rfl,(Keep.refl _ w).drew⟩
theorem length_any (w:World) (base V:Nat) (A:Option Addr) (n c:Nat) (zs:List Int) (x:Nat) (M:Option Addr) (m cm:Nat) (T:Option Addr) (ct:Nat) (acc:List (Int×Nat)) (tl:Bool) (h:WkG w base V A n c zs x M m cm T ct acc tl):
 Calls Tryz.prog 73 #[.pointer (some ⟨V,0,none⟩)] w fun e w'=>e=.returned (.tuple #[.int .i64 (if n<x+2 then 0 else two zs x),.bool (decide (2≤two zs x)&&decide (two zs x≤(n:Int)-x))])∧WkG w' base V A n c zs x M m cm T ct acc tl∧Keep (fun _=>False) w w':=by
 have hlen:=h.len
 have hbig:=h.big
 have hsz9:=h.size
 have hcap:=h.cap
 have hat:=h.at_
 have hws:IntKind.i64.wrap ((n:Int)-x)=(n:Int)-x:=IntWalk.i64_in _ (by omega)
 have hw2:IntKind.i64.wrap ((x:Int)+2)=(x:Int)+2:=IntWalk.i64_in _ (by omega)
 have c0:w.cell? ⟨V,0,none⟩=some (.slice A n c):=h.blk.cell 0
 have c1:w.cell? ⟨V,1,none⟩=some (.int .i64 x):=h.blk.cell 1
 by_cases hs:n<x+2
 · have hdl:decide ((n:Int)-x<2)=true:=by simp;omega
   have ht:two zs x=-1:=two_lt (by omega)
   rw [if_pos hs,ht]
   have HW:=hid h
   clear h
   go_enter Tryz.func73,Tryz.ntmps73
   go_wp2_with fail
   refine At.start (L:=#[false,false,false,false,false,false,false,false,false,false,false]) (by kernel_rfl) rfl ?_
   refine AtP 0 5 ?_
   refine AtP 1 6 ?_
   refine AtP 2 7 ?_
   refine At.read 3 (some 8) (fun w'=>w'.cell? ⟨V,0,none⟩=some (.slice A n c)) (v:=?v3a) rfl rfl (by kernel_rfl) (fun _ _ _ h=>h) rfl c0 (fun w' hw'=>?y3a) ?_
   case y3a=>skip;go_simp;try with_reducible rfl
   try simp only [NS]
   refine AtP 4 9 ?_
   refine AtP 5 10 ?_
   refine AtP 6 11 ?_
   refine AtP 7 12 ?_
   refine At.read 8 (some 13) (fun w'=>w'.cell? ⟨V,1,none⟩=some (.int .i64 x)) (v:=?v8a) rfl rfl (by kernel_rfl) (fun _ _ _ h=>h) rfl c1 (fun w' hw'=>?y8a) ?_
   case y8a=>skip;go_simp;try with_reducible rfl
   try simp only [NS]
   refine AtP 9 14 ?_
   refine AtP 10 15 ?_
   refine At.done (by kernel_rfl) ?_
   go_wp2_with fail
   exact bodyPost_ret (v:=.tuple #[.int .i64 0,.bool false]) (by simp [results,Tryz.results73,go_sem]) rfl ⟨rfl,HW.out.drew,(Keep.refl _ w).drew⟩
 · have hdl:decide ((n:Int)-x<2)=false:=by simp;omega
   rw [if_neg hs]
   have htw:two zs x=numU ((zs.drop x).take 2):=by
    rw [(two_byte h.byt (p:=x) (by omega)).1]
    have d:zs.drop x=zs.getD x 0::zs.getD (x+1) 0::zs.drop (x+2):=by
     rw [List.getD_eq_getElem?_getD,List.getD_eq_getElem?_getD,List.getElem?_eq_getElem (by omega),List.getElem?_eq_getElem (by omega)]
     rw [List.drop_eq_getElem_cons (by omega),List.drop_eq_getElem_cons (i:=x+1) (by omega)]
     rfl
    rw [d]
    simp [numU]
   have hxn:x<n:=by omega
   have s1:(x:Int)≤(x:Int)+2:=by omega
   have s2:(x:Int)+2≤(c:Int):=by omega
   have s3:(0:Int)≤(x:Int)+2:=by omega
   have s4:((x:Int)+2).toNat=x+2:=by omega
   have s5:x+2-x=2:=by omega
   have s6: ¬c=x:=by omega
   have s7: ¬c-x=0:=by omega
   obtain⟨b,o,rfl,b0⟩:=h.rd.int_ix (k:=x) (by omega)
   have hr2:Hid (Rd w (some ⟨b,o+x,none⟩) 2 (((zs.drop x).take 2).map (Value.int .u8))):=hid (by
    have:=(h.rd.drop (k:=x) (cap:=c) (by omega) h.cap).take (k:=2) (by omega)
    rw [← List.map_drop,←List.map_take,if_neg (by omega)]at this
    simpa [add_lit']using this)
   have hby2:Hid (Bytes ((zs.drop x).take 2)):=hid (fun z hz=>h.byt z (List.mem_of_mem_drop (List.mem_of_mem_take hz)))
   have htr:=two_range h.byt x
   have HW:=hid h
   clear h
   generalize two zs x=z at*
   have HTW:=hid htw
   clear htw
   go_enter Tryz.func73,Tryz.ntmps73
   go_wp2_with fail
   refine At.start (L:=#[false,false,false,false,false,false,false,false,false,false,false]) (by kernel_rfl) rfl ?_
   refine AtP 0 5 ?_
   refine AtP 1 6 ?_
   refine AtP 2 7 ?_
   refine At.read 3 (some 8) (fun w'=>w'.cell? ⟨V,0,none⟩=some (.slice (some ⟨b,o,none⟩) n c)) (v:=?v3b) rfl rfl (by kernel_rfl) (fun _ _ _ h=>h) rfl c0 (fun w' hw'=>?y3b) ?_
   case y3b=>skip;go_simp;try with_reducible rfl
   try simp only [NS]
   refine AtP 4 9 ?_
   refine AtP 5 10 ?_
   refine AtP 6 11 ?_
   refine AtP 7 12 ?_
   refine At.read 8 (some 13) (fun w'=>w'.cell? ⟨V,1,none⟩=some (.int .i64 x)) (v:=?v8b) rfl rfl (by kernel_rfl) (fun _ _ _ h=>h) rfl c1 (fun w' hw'=>?y8b) ?_
   case y8b=>skip;go_simp;try with_reducible rfl
   try simp only [NS]
   refine AtP 9 14 ?_
   refine AtP 10 15 ?_
   refine At.done (by kernel_rfl) ?_
   go_wp2_with fail
   refine At.start (L:=#[false,false,false,false,false,false,false,false,false,false,false,false,false,false,false,false]) (by kernel_rfl) rfl ?_
   refine AtP 0 16 ?_
   refine AtP 1 17 ?_
   refine AtP 2 18 ?_
   refine At.read 3 (some 19) (fun w'=>w'.cell? ⟨V,0,none⟩=some (.slice (some ⟨b,o,none⟩) n c)) (v:=?v3e) rfl rfl (by kernel_rfl) (fun _ _ _ h=>h) rfl c0 (fun w' hw'=>?y3e) ?_
   case y3e=>skip;go_simp;try with_reducible rfl
   try simp only [NS]
   refine AtP 4 20 ?_
   refine AtP 5 21 ?_
   refine AtP 6 22 ?_
   refine At.read 7 (some 23) (fun w'=>w'.cell? ⟨V,1,none⟩=some (.int .i64 x)) (v:=?v7e) rfl rfl (by kernel_rfl) (fun _ _ _ h=>h) rfl c1 (fun w' hw'=>?y7e) ?_
   case y7e=>skip;go_simp;try with_reducible rfl
   try simp only [NS]
   refine AtP 8 24 ?_
   refine AtP 9 25 ?_
   refine AtP 10 26 ?_
   refine At.read 11 (some 27) (fun w'=>w'.cell? ⟨V,1,none⟩=some (.int .i64 x)) (v:=?v11e) rfl rfl (by kernel_rfl) (fun _ _ _ h=>h) rfl c1 (fun w' hw'=>?y11e) ?_
   case y11e=>skip;go_simp;try with_reducible rfl
   try simp only [NS]
   refine AtP 12 28 ?_
   refine AtP 13 29 ?_
   refine AtC 14 fun K hK=>?_
   go_simp
   refine(number_any w.drew.drew (some ⟨b,o+x,none⟩) 2 (c-x) ((zs.drop x).take 2) hr2.out hby2.out (by omega)).mono ?_
   rintro e w2 ⟨rfl,rfl⟩
   refine hK _ _ all_nil ?_
   clear hK K
   try simp only [NS]
   refine AtP 15 4 ?_
   refine At.done (by kernel_rfl) ?_
   rw [← HTW.out]
   go_wp2_with fail
   by_cases hz2:2≤z
   · have hzd:decide (2≤z)=true:=by simpa using hz2
     refine At.start (L:=#[false,false,false,false,false,false,false,false,false,false,false,false,false,false,false,false,false,false,false]) (by kernel_rfl) rfl ?_
     refine AtP 0 31 ?_
     refine AtP 1 32 ?_
     refine AtP 2 33 ?_
     refine AtP 3 34 ?_
     refine AtP 4 35 ?_
     refine AtP 5 36 ?_
     refine AtP 6 37 ?_
     refine AtP 7 38 ?_
     refine At.read 8 (some 39) (fun w'=>w'.cell? ⟨V,0,none⟩=some (.slice (some ⟨b,o,none⟩) n c)) (v:=?v8c) rfl rfl (by kernel_rfl) (fun _ _ _ h=>h) rfl c0 (fun w' hw'=>?y8c) ?_
     case y8c=>skip;go_simp;try with_reducible rfl
     try simp only [NS]
     refine AtP 9 40 ?_
     refine AtP 10 41 ?_
     refine AtP 11 42 ?_
     refine AtP 12 43 ?_
     refine At.read 13 (some 44) (fun w'=>w'.cell? ⟨V,1,none⟩=some (.int .i64 x)) (v:=?v13c) rfl rfl (by kernel_rfl) (fun _ _ _ h=>h) rfl c1 (fun w' hw'=>?y13c) ?_
     case y13c=>skip;go_simp;try with_reducible rfl
     try simp only [NS]
     refine AtP 14 45 ?_
     refine AtP 15 46 ?_
     refine AtP 16 47 ?_
     refine AtP 17 2 ?_
     refine AtP 18 3 ?_
     refine At.done (by kernel_rfl) ?_
     go_wp2_with fail
     exact bodyPost_ret (v:=.tuple #[.int .i64 z,.bool (decide (2≤z)&&decide (z≤(n:Int)-x))]) (by simp [results,Tryz.results73,go_sem,hzd]) rfl ⟨rfl,HW.out.drew.drew.drew,(Keep.refl _ w).drew.drew.drew⟩
   · have hzd:decide (2≤z)=false:=by simpa using hz2
     refine At.start (L:=#[false,false,false,false,false,false,false,false,false,false,false,false,false,false,false,false,false,false,false]) (by kernel_rfl) rfl ?_
     refine AtP 0 31 ?_
     refine AtP 1 32 ?_
     refine AtP 2 33 ?_
     refine AtP 3 34 ?_
     refine At.skip 4 (some 35) rfl rfl (by kernel_rfl) (fun _ _ _ h=>h) rfl ?_
     try simp only [NS]
     refine At.skip 5 (some 36) rfl rfl (by kernel_rfl) (fun _ _ _ h=>h) rfl ?_
     try simp only [NS]
     refine At.skip 6 (some 37) rfl rfl (by kernel_rfl) (fun _ _ _ h=>h) rfl ?_
     try simp only [NS]
     refine At.skip 7 (some 38) rfl rfl (by kernel_rfl) (fun _ _ _ h=>h) rfl ?_
     try simp only [NS]
     refine At.skip 8 (some 39) rfl rfl (by kernel_rfl) (fun _ _ _ h=>h) rfl ?_
     try simp only [NS]
     refine At.skip 9 (some 40) rfl rfl (by kernel_rfl) (fun _ _ _ h=>h) rfl ?_
     try simp only [NS]
     refine At.skip 10 (some 41) rfl rfl (by kernel_rfl) (fun _ _ _ h=>h) rfl ?_
     try simp only [NS]
     refine At.skip 11 (some 42) rfl rfl (by kernel_rfl) (fun _ _ _ h=>h) rfl ?_
     try simp only [NS]
     refine At.skip 12 (some 43) rfl rfl (by kernel_rfl) (fun _ _ _ h=>h) rfl ?_
     try simp only [NS]
     refine At.skip 13 (some 44) rfl rfl (by kernel_rfl) (fun _ _ _ h=>h) rfl ?_
     try simp only [NS]
     refine At.skip 14 (some 45) rfl rfl (by kernel_rfl) (fun _ _ _ h=>h) rfl ?_
     try simp only [NS]
     refine At.skip 15 (some 46) rfl rfl (by kernel_rfl) (fun _ _ _ h=>h) rfl ?_
     try simp only [NS]
     refine AtP 16 47 ?_
     refine AtP 17 2 ?_
     refine AtP 18 3 ?_
     refine At.done (by kernel_rfl) ?_
     go_wp2_with fail
     exact bodyPost_ret (v:=.tuple #[.int .i64 z,.bool false]) (by simp [results,Tryz.results73,go_sem]) rfl ⟨rfl,HW.out.drew.drew.drew,(Keep.refl _ w).drew.drew.drew⟩
end Go.Proofs.YthfogcgdijmaoaaGreat
