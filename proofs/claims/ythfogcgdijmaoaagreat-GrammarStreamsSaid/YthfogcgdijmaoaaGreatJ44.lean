/-
  Part 44 of the proof: TileS GramAll GramWalk GramKn GramInts LawS. Conditions: those of the statements.
-/
import Derived.Test.YthfogcgdijmaoaaGreatJ2
import Derived.Test.YthfogcgdijmaoaaGreatJ4
import Derived.Test.YthfogcgdijmaoaaGreatJ6
import Derived.Test.YthfogcgdijmaoaaGreatJ10
import Derived.Test.YthfogcgdijmaoaaGreatJ12
import Derived.Test.YthfogcgdijmaoaaGreatJ16
import Derived.Test.YthfogcgdijmaoaaGreatJ25
import Derived.Test.YthfogcgdijmaoaaGreatJ42
import Derived.Test.YthfogcgdijmaoaaGreatJ43
set_option maxRecDepth 100000
set_option maxHeartbeats 16000000
set_option linter.unusedVariables false
set_option linter.unusedSimpArgs false
namespace Go.Proofs.YthfogcgdijmaoaaGreat
open Go.RowKit
section
variable {t91 :TypeId} {G G':Nat→Option Kd} {w0 w w':World} {us:List Un}
theorem Wk.kindsRo {S:Nat→Prop} (h:Wk t91 G w0 us none w) (hk:Keep S w w') (hS: ∀j,S j→G j≠none∧G j≠some .ro) (hF:Fits G w0.heap.size w'):
 Wk t91 (roF G w.heap.size w'.heap.size) w0 us none w'∧Nx G w (roF G w.heap.size w'.heap.size) w':=by
 have h1:=h.kinds hk hS hF
 refine⟨⟨hF.roF h.keep.size (Nat.le_refl _),h1.1.keep,fun i u hu=>⟨(h1.1.un i u hu).1,fun a e=>?_⟩,h.ap,fun g cs e=>by cases e⟩,h1.2.trans (Nx.mono (roF_mono _ _))⟩
 exact roF_out ((h.un i u hu).2 a e) (.inl (own_blt (h.un i u hu).1 e).2)
theorem wk_put (h:Wk t91 G w0 us none w) (i:Nat) {A:Option Addr} {n c:Nat} {zs:List Int} (hu:us[i]?=some ⟨5,1,A,n,c,zs.map (Value.int .u8)⟩) (hn:n≤70368744177664) (s:Nat) (x:Int) (hs1:1≤s) (hs2:s≤8):
 Calls Tryz.prog 24 #[.slice A n c,.int .i64 s,.int .i64 x] w fun e w'=> ∃A' c',e=.returned (.slice A' (n+s) c')∧Wk t91 G w0 (us.set i ⟨5,1,A',n+s,c',(zs++putB x s).map (Value.int .u8)⟩) none w'∧Nx G w G w':=by
 have ho:w.ownsRow w0.heap.size 5 1 (.slice A n c) n (zs.map (Value.int .u8)):=h.at_ i hu
 refine(refput_any A n c zs s x w w0.heap.size ho h.keep.size hn (by omega) (by omega)).mono ?_
 rintro e w' ⟨v',rfl,h1,h2,h3,h4⟩
 rw [Int.toNat_natCast]at h1
 obtain⟨A',c',rfl⟩:=own_form h1
 have hx:=h.row i (u':=⟨5,1,A',n+s,c',(zs++putB x s).map (Value.int .u8)⟩) hu h1 h3 (fun j hj=>by
  rcases h4 with h5|⟨k,h5,h6⟩
  · exact .inl (by rw [← h5];exact hj)
  · rw [h5]at hj
    injection hj with hj
    exact .inr (by omega))
 exact⟨A',c',rfl,hx.1,hx.2⟩
end
structure TlOk (G:Nat→Option Kd) (base NB:Nat) (w:World) (t:Rc) (cs:List Cm) (p:Pm) (A KA:Option Addr) (outs:List Pln) (ks:List Ky):Prop where
 pl:InOk G base NB w p.lev p.prec t cs A outs
 ky:Ro G w KA ks.length 4 (fl Ky.cells ks)
 ok: ∀k∈ks,KeyOk t cs p k
theorem TlOk.nx {G G':Nat→Option Kd} {base NB:Nat} {w w':World} {t:Rc} {cs:List Cm} {p:Pm} {A KA:Option Addr} {outs:List Pln} {ks:List Ky} (h:TlOk G base NB w t cs p A KA outs ks) (hx:Nx G w G' w'):TlOk G' base NB w' t cs p A KA outs ks:=⟨h.pl.nx hx,h.ky.nx hx,h.ok⟩
theorem TlOk.heads {G:Nat→Option Kd} {base NB:Nat} {w:World} {t:Rc} {cs:List Cm} {p:Pm} {A KA:Option Addr} {outs:List Pln} {ks:List Ky} (h:TlOk G base NB w t cs p A KA outs ks) {k:Ky} (hk:k∈ks):
 ∃(bA oA hb ho db do':Nat) (P:Pln) (d:Hd2) (x:Hd1),A=some ⟨bA,oA,none⟩∧k.comp<outs.length∧w.cell? ⟨bA,oA+k.comp*7+6,none⟩=some (.slice (some ⟨hb,ho,none⟩) P.hs.length P.cH)∧k.res<P.hs.length∧w.cell? ⟨hb,ho+k.res,none⟩=some (.slice (some ⟨db,do',none⟩) d.n d.c)∧k.prec<d.n∧w.cell? ⟨db,do'+k.prec,none⟩=some (.slice x.A x.n x.c)∧Hd1Ok G base NB w x∧k.lay<p.lay:=by
 obtain⟨hl,C,hC,hr,hp⟩:=h.ok k hk
 have hcl:k.comp<cs.length:=(List.getElem?_eq_some_iff.1 hC).1
 have hol:k.comp<outs.length:=by rw [h.pl.len];exact hcl
 obtain⟨P,hP⟩: ∃P,outs[k.comp]?=some P:=⟨_,List.getElem?_eq_getElem hol⟩
 obtain⟨hpo,C',hC',hPp⟩:=h.pl.ok _ P hP
 have e:C=C':=by rw [show cs[k.comp]?=some C from hC]at hC';injection hC'
 subst e
 have hrl:k.res<P.hs.length:=by rw [hpo.hl];show k.res<p.lev+1;exact Nat.lt_succ_of_le hr
 obtain⟨d,hd⟩: ∃d,P.hs[k.res]?=some d:=⟨_,List.getElem?_eq_getElem hrl⟩
 obtain⟨hdn,hdo⟩:=hpo.hok _ d hd
 have hpn:k.prec<d.n:=by
  rw [hPp]at hdn
  have h1:(k.prec:Int)<(d.n:Int):=by rw [hdn];exact hp
  exact Int.ofNat_lt.1 h1
 have hdl:d.ds.length=d.n:=by have:=hdo.ro.1.1;simpa using this
 obtain⟨x,hx⟩: ∃x,d.ds[k.prec]?=some x:=⟨_,List.getElem?_eq_getElem (by omega)⟩
 obtain⟨bA,oA,hA,hrw⟩:=RdS.get (f:=Pln.cells) h.pl.row.1 Pln.len hol hP
 obtain⟨hb,ho,hH,hc1⟩:=hpo.heads.1.cell (i:=k.res) (j:=0) (v:=d.val) hrl (by rw [Nat.mul_one,Nat.add_zero,List.getElem?_map,hd];rfl)
 obtain⟨db,do',hD,hc2⟩:=hdo.ro.1.cell (i:=k.prec) (j:=0) (v:=x.val) hpn (by rw [Nat.mul_one,Nat.add_zero,List.getElem?_map,hx];rfl)
 rw [Nat.mul_one,Nat.add_zero]at hc1 hc2
 refine⟨bA,oA,hb,ho,db,do',P,d,x,hA,hol,?_,hrl,?_,hpn,hc2,hdo.ok x (List.mem_of_getElem? hx),hl⟩
 · have:=hrw 6 _ rfl
   rw [hH]at this
   exact this
 · rw [hc1]
   show some (Value.slice d.A d.n d.c)=_
   rw [hD]
def Til18P (w:World) (e:Ending) (w':World):Prop:= ∃(A:Option Addr) (n c:Nat) (ys:List Int),e=.returned (.slice A n c)∧By w w.heap.size A n c ys w'∧n≤3000000000
def AllP (w:World) (base V:Nat) (A:Option Addr) (n c:Nat) (zs:List Int) (e:Ending) (w':World):Prop:=
 Keep (fun j=>base≤j) w w'∧match walkM zs with
  |none=>e=.returned (.bool false)
  |some l=>e=.returned (.bool true)∧ ∃x M m cm T ct tl,WkG w' base V A n c zs x M m cm T ct l tl
def posW (w:World) (V:Nat):Nat:=match w.cell? ⟨V,1,none⟩with|some v=>(intOf v).toNat|none=>0
theorem posW_of {w:World} {V x:Nat} (h:w.cell? ⟨V,1,none⟩=some (.int .i64 x)):posW w V=x:=by
 unfold posW
 rw [h]
 simp [intOf]
def InAll (w:World) (base V:Nat) (A:Option Addr) (n c:Nat) (zs:List Int) (wr:World):Prop:=
 Keep (fun j=>base≤j) w wr∧ ∃x M m cm T ct acc tl,WkG wr base V A n c zs x M m cm T ct acc tl∧Leads zs x tl acc (walkM zs)
theorem all_any (w:World) (base V:Nat) (A:Option Addr) (n c:Nat) (zs:List Int) (h:WkG w base V A n c zs 0 none 0 0 none 0 [] false) (hb:base≤w.heap.size):
 Calls Tryz.prog 25 #[.pointer (some ⟨V,0,none⟩)] w (AllP w base V A n c zs):=by
 have HW:=hid h
 have hlen:=hid h.len
 have HNO:=hid (show∀w',Keep (fun j=>base≤j) w w'→walkM zs=none→AllP w base V A n c zs (.returned (.bool false)) w' from fun w' k g=>⟨k,by rw [g]⟩)
 clear h
 by_cases hlo:two zs 0<65280
 · have MK:=hid (mark_no w base V A n c zs 0 none 0 0 none 0 [] false HW.out hlo)
   have HN:=hid (walkM_none (zs:=zs) (by omega))
   clear HW
   go_enter Tryz.func25,Tryz.ntmps25
   go_wp2_with fail
   refine MK.out.mono ?_
   rintro e w2 ⟨rfl,hk2⟩
   have HF:=hid (HNO.out w2 (hk2.mono (fun _ _ h=>h.elim)) HN.out)
   clear hk2
   go_wp2_with fail
   go_ret
   exact HF.out
 · have MK:=hid (mark_yes w base V A n c zs 0 none 0 0 none 0 [] false HW.out hb (by omega))
   clear HW
   go_enter Tryz.func25,Tryz.ntmps25
   go_wp2_with fail
   refine MK.out.mono ?_
   rintro e w2 ⟨rfl,⟨M,cm,T,ct,hw2⟩,hk2⟩
   by_cases hsoc:two zs 0=65359
   · have HI:Hid (InAll w base V A n c zs w2):=hid ⟨hk2,0+2,M,0+1,cm,T,ct,_,false,hw2,by rw [hsoc];exact leads_start hsoc⟩
     clear hw2 hk2 MK
     rw [hsoc]
     go_wp2_with fail
     go_loopw [] (fun wr=>Hid (InAll w base V A n c zs wr)) (fun wr=>n-posW wr V)
     case atStart=>exact HI
     case round=>
      obtain⟨hk,x,M,m,cm,T,ct,acc,tl,hw,hl⟩:=hrel.out
      have HW:=hid hw
      have HK:=hid hk
      have HL:=hid hl
      have hposr:=posW_of (hw.blk.cell 1)
      have hat:=hw.at_
      have hbr:base≤wr.heap.size:=Nat.le_trans hb hk.size
      clear hw hk hl hrel HI
      have HGO:=hid (show∀w' y M m cm T ct acc tl,Keep (fun j=>base≤j) wr w'→WkG w' base V A n c zs y M m cm T ct acc tl→Leads zs y tl acc (walkM zs)→x<y→x<n→Hid (InAll w base V A n c zs w')∧n-posW w' V<n-posW wr V from fun w' y M m cm T ct acc tl k g l hxy hxn=>
       ⟨hid ⟨HK.out.trans k (fun _ _ h=>h),y,M,m,cm,T,ct,acc,tl,g,l⟩,by rw [hposr,posW_of (g.blk.cell 1)];omega⟩)
      have HBAD:=hid (show∀w',Keep (fun j=>base≤j) wr w'→stepW zs x tl=.bad→AllP w base V A n c zs (.returned (.bool false)) w' from fun w' k hs=>HNO.out w' (HK.out.trans k (fun _ _ h=>h)) (leads_bad HL.out hs))
      have HK0:=hid HK.out
      clear HNO HK hposr
      by_cases hmk:two zs x<65280
      · have MK:=hid (mark_no wr base V A n c zs x M m cm T ct acc tl HW.out hmk)
        clear HW HGO
        go_wp2_with fail
        refine MK.out.mono ?_
        rintro e w3 ⟨rfl,hk3⟩
        have HF:=hid (HBAD.out w3 (hk3.mono (fun _ _ h=>h.elim)) (step_low (.inl hmk)))
        clear hk3
        go_wp2_with fail
        go_ret
        exact HF.out
      · have MK:=hid (mark_yes wr base V A n c zs x M m cm T ct acc tl HW.out hbr (by omega))
        have hxn:x+2≤n:=by rw [← hlen.out];exact(two_parts HW.out.byt (by omega)).1
        clear HW
        go_wp2_with fail
        refine MK.out.mono ?_
        rintro e w3 ⟨rfl,⟨M3,cm3,T3,ct3,hw3⟩,hk3⟩
        have HW3:=hid hw3
        have HK3:=hid hk3
        have hb3:base≤w3.heap.size:=Nat.le_trans hbr hk3.size
        clear hw3 hk3 MK
        by_cases hc1:two zs x=65359∨two zs x=65427
        · have HF:=hid (HBAD.out w3 HK3.out (step_low (.inr hc1)))
          clear HW3 HK3 HGO
          rcases hc1 with hc|hc
          · rw [hc]
            go_wp2_with fail
            go_ret
            exact HF.out
          · rw [hc]
            go_wp2_with fail
            go_ret
            exact HF.out
        · by_cases hc2:two zs x=65424
          · have HST:=hid (step_tile (tl:=tl) hc2)
            rw [hc2]at HW3 ⊢
            have TI:=hid (tile_any w3 base V A n c zs (x+2) x M3 (m+1) cm3 T3 ct3 (acc++[(65424,x)]) tl HW3.out hb3 rfl)
            go_wp2_with fail
            refine TI.out.mono ?_
            rintro e w4 ⟨hk4,hp⟩
            by_cases hg:tileGood zs x
            · rw [if_pos hg]at hp
              obtain⟨rfl,M4,m4,cm4,T4,ct4,hw4⟩:=hp
              have HF:=hid (HGO.out w4 _ M4 m4 cm4 T4 ct4 _ true (HK3.out.trans hk4 (fun _ _ h=>h)) hw4 (by
               have:=leads_go HL.out (HST.out.trans (if_pos hg))
               rw [List.append_assoc]
               exact this) (by have:=hg.2.2.2.1;omega) (by omega))
              clear hw4 hk4
              go_wp2_with fail
              exact HF.out
            · rw [if_neg hg]at hp
              subst hp
              have HF:=hid (HBAD.out w4 (HK3.out.trans hk4 (fun _ _ h=>h)) (HST.out.trans (if_neg hg)))
              clear hk4
              go_wp2_with fail
              go_ret
              exact HF.out
          · by_cases hc3:two zs x=65497
            · have HST:=hid (step_end (tl:=tl) hc3)
              rw [hc3]at HW3 ⊢
              have p0:w3.cell? ⟨V,0,none⟩=some (.slice A n c):=HW3.out.blk.cell 0
              have p1:w3.cell? ⟨V,1,none⟩=some (.int .i64 ((x:Int)+2)):=HW3.out.blk.cell 1
              have p4:w3.cell? ⟨V,4,none⟩=some (.bool tl):=HW3.out.blk.cell 4
              cases tl with
              |false=>
               have HF:=hid (HBAD.out w3.drew HK3.out.drew (HST.out.trans (if_neg (by simp))))
               clear HW3 HK3 HGO
               go_wp2_with fail
               refine At.start (L:=#[false,false,false,false,false,false,false,false,false,false,false,false,false,false,false,false,false]) (by kernel_rfl) rfl ?_
               refine AtP 0 (some 52) ?_
               try simp only [NS]
               refine AtP 1 (some 53) ?_
               try simp only [NS]
               refine AtP 2 (some 54) ?_
               try simp only [NS]
               refine At.read 3 (some 55) (fun w'=>w'.cell? ⟨V,4,none⟩=some (.bool false)) (v:=?v3a) rfl rfl (by kernel_rfl) (fun _ _ _ h=>h) rfl p4 (fun w' hw'=>?y3a) ?_
               case y3a=>skip;go_simp;try with_reducible rfl
               try simp only [NS]
               refine AtP 4 (some 56) ?_
               try simp only [NS]
               refine At.skip 5 (some 57) rfl rfl (by kernel_rfl) (fun _ _ _ h=>h) rfl ?_
               try simp only [NS]
               refine At.skip 6 (some 58) rfl rfl (by kernel_rfl) (fun _ _ _ h=>h) rfl ?_
               try simp only [NS]
               refine At.skip 7 (some 59) rfl rfl (by kernel_rfl) (fun _ _ _ h=>h) rfl ?_
               try simp only [NS]
               refine At.skip 8 (some 60) rfl rfl (by kernel_rfl) (fun _ _ _ h=>h) rfl ?_
               try simp only [NS]
               refine At.skip 9 (some 61) rfl rfl (by kernel_rfl) (fun _ _ _ h=>h) rfl ?_
               try simp only [NS]
               refine At.skip 10 (some 62) rfl rfl (by kernel_rfl) (fun _ _ _ h=>h) rfl ?_
               try simp only [NS]
               refine At.skip 11 (some 63) rfl rfl (by kernel_rfl) (fun _ _ _ h=>h) rfl ?_
               try simp only [NS]
               refine At.skip 12 (some 64) rfl rfl (by kernel_rfl) (fun _ _ _ h=>h) rfl ?_
               try simp only [NS]
               refine At.skip 13 (some 65) rfl rfl (by kernel_rfl) (fun _ _ _ h=>h) rfl ?_
               try simp only [NS]
               refine At.skip 14 (some 66) rfl rfl (by kernel_rfl) (fun _ _ _ h=>h) rfl ?_
               try simp only [NS]
               refine AtP 15 (some 67) ?_
               try simp only [NS]
               refine AtP 16 (some 2) ?_
               try simp only [NS]
               refine At.done (by kernel_rfl) ?_
               go_wp2_with fail
               go_ret
               exact HF.out
              |true=>
               by_cases hend:n=x+2
               · have hde:((x:Int)+2==(n:Int))=true:=by simp;omega
                 have HF:=hid (show AllP w base V A n c zs (.returned (.bool true)) w3.drew from⟨by
                  exact HK0.out.trans HK3.out.drew (fun _ _ h=>h),by
                  rw [leads_fin HL.out (HST.out.trans (if_pos ⟨rfl,by rw [hlen.out];exact hend⟩))]
                  exact⟨rfl,x+2,M3,m+1,cm3,T3,ct3,true,HW3.out.drew⟩⟩)
                 clear HW3 HK3 HGO hend
                 go_wp2_with fail
                 refine At.start (L:=#[false,false,false,false,false,false,false,false,false,false,false,false,false,false,false,false,false]) (by kernel_rfl) rfl ?_
                 refine AtP 0 (some 52) ?_
                 try simp only [NS]
                 refine AtP 1 (some 53) ?_
                 try simp only [NS]
                 refine AtP 2 (some 54) ?_
                 try simp only [NS]
                 refine At.read 3 (some 55) (fun w'=>w'.cell? ⟨V,4,none⟩=some (.bool true)) (v:=?v3b) rfl rfl (by kernel_rfl) (fun _ _ _ h=>h) rfl p4 (fun w' hw'=>?y3b) ?_
                 case y3b=>skip;go_simp;try with_reducible rfl
                 try simp only [NS]
                 refine AtP 4 (some 56) ?_
                 try simp only [NS]
                 refine AtP 5 (some 57) ?_
                 try simp only [NS]
                 refine AtP 6 (some 58) ?_
                 try simp only [NS]
                 refine AtP 7 (some 59) ?_
                 try simp only [NS]
                 refine At.read 8 (some 60) (fun w'=>w'.cell? ⟨V,1,none⟩=some (.int .i64 ((x:Int)+2))) (v:=?v8b) rfl rfl (by kernel_rfl) (fun _ _ _ h=>h) rfl p1 (fun w' hw'=>?y8b) ?_
                 case y8b=>skip;go_simp;try with_reducible rfl
                 try simp only [NS]
                 refine AtP 9 (some 61) ?_
                 try simp only [NS]
                 refine AtP 10 (some 62) ?_
                 try simp only [NS]
                 refine AtP 11 (some 63) ?_
                 try simp only [NS]
                 refine At.read 12 (some 64) (fun w'=>w'.cell? ⟨V,0,none⟩=some (.slice A n c)) (v:=?v12b) rfl rfl (by kernel_rfl) (fun _ _ _ h=>h) rfl p0 (fun w' hw'=>?y12b) ?_
                 case y12b=>skip;go_simp;try with_reducible rfl
                 try simp only [NS]
                 refine AtP 13 (some 65) ?_
                 try simp only [NS]
                 refine AtP 14 (some 66) ?_
                 try simp only [NS]
                 refine AtP 15 (some 67) ?_
                 try simp only [NS]
                 refine AtP 16 (some 2) ?_
                 try simp only [NS]
                 refine At.done (by kernel_rfl) ?_
                 go_wp2_with fail
                 go_ret
                 exact HF.out
               · have hde:((x:Int)+2==(n:Int))=false:=by simp;omega
                 have HF:=hid (HBAD.out w3.drew HK3.out.drew (HST.out.trans (if_neg (fun h=>hend (by rw [← hlen.out];exact h.2)))))
                 clear HW3 HK3 HGO
                 go_wp2_with fail
                 refine At.start (L:=#[false,false,false,false,false,false,false,false,false,false,false,false,false,false,false,false,false]) (by kernel_rfl) rfl ?_
                 refine AtP 0 (some 52) ?_
                 try simp only [NS]
                 refine AtP 1 (some 53) ?_
                 try simp only [NS]
                 refine AtP 2 (some 54) ?_
                 try simp only [NS]
                 refine At.read 3 (some 55) (fun w'=>w'.cell? ⟨V,4,none⟩=some (.bool true)) (v:=?v3c) rfl rfl (by kernel_rfl) (fun _ _ _ h=>h) rfl p4 (fun w' hw'=>?y3c) ?_
                 case y3c=>skip;go_simp;try with_reducible rfl
                 try simp only [NS]
                 refine AtP 4 (some 56) ?_
                 try simp only [NS]
                 refine AtP 5 (some 57) ?_
                 try simp only [NS]
                 refine AtP 6 (some 58) ?_
                 try simp only [NS]
                 refine AtP 7 (some 59) ?_
                 try simp only [NS]
                 refine At.read 8 (some 60) (fun w'=>w'.cell? ⟨V,1,none⟩=some (.int .i64 ((x:Int)+2))) (v:=?v8c) rfl rfl (by kernel_rfl) (fun _ _ _ h=>h) rfl p1 (fun w' hw'=>?y8c) ?_
                 case y8c=>skip;go_simp;try with_reducible rfl
                 try simp only [NS]
                 refine AtP 9 (some 61) ?_
                 try simp only [NS]
                 refine AtP 10 (some 62) ?_
                 try simp only [NS]
                 refine AtP 11 (some 63) ?_
                 try simp only [NS]
                 refine At.read 12 (some 64) (fun w'=>w'.cell? ⟨V,0,none⟩=some (.slice A n c)) (v:=?v12c) rfl rfl (by kernel_rfl) (fun _ _ _ h=>h) rfl p0 (fun w' hw'=>?y12c) ?_
                 case y12c=>skip;go_simp;try with_reducible rfl
                 try simp only [NS]
                 refine AtP 13 (some 65) ?_
                 try simp only [NS]
                 refine AtP 14 (some 66) ?_
                 try simp only [NS]
                 refine AtP 15 (some 67) ?_
                 try simp only [NS]
                 refine AtP 16 (some 2) ?_
                 try simp only [NS]
                 refine At.done (by kernel_rfl) ?_
                 go_wp2_with fail
                 go_ret
                 exact HF.out
            · have p4:w3.cell? ⟨V,4,none⟩=some (.bool tl):=HW3.out.blk.cell 4
              have e1:(two zs x==65359)=false:=by simp;omega
              have e2:(two zs x==65427)=false:=by simp;omega
              have e3:(two zs x==65424)=false:=by simp;omega
              have e4:(two zs x==65497)=false:=by simp;omega
              cases tl with
              |true=>
               have HF:=hid (HBAD.out w3 HK3.out (step_late hc2 hc3))
               clear HW3 HK3 HGO
               generalize two zs x=z at*
               go_wp2_with fail
               go_ret
               exact HF.out
              |false=>
               have HST:=hid (step_seg (zs:=zs) (x:=x) (by omega) (fun h=>hc1 (.inl h)) (fun h=>hc1 (.inr h)) hc2 hc3)
               have SG:=hid (segment_any w3 base V A n c zs (x+2) M3 (m+1) cm3 T3 ct3 (acc++[(two zs x,x)]) false (two zs x) HW3.out)
               have htwo:=HW3.out.byt
               clear HW3
               have HX:=hid (show∀e w4,SegP w3 base V A n c zs (x+2) M3 (m+1) cm3 T3 ct3 (acc++[(two zs x,x)]) false (two zs x) e w4→(e=.returned (.bool false)∧AllP w base V A n c zs (.returned (.bool false)) w4)∨(e=.returned (.bool true)∧Hid (InAll w base V A n c zs w4)∧n-posW w4 V<n-posW wr V)from fun e w4 hp=>by
                obtain⟨hk4,hp⟩:=hp
                by_cases hr:65328≤two zs x∧two zs x≤65343
                · rw [if_pos hr]at hp
                  exact .inr ⟨hp.1,HGO.out w4 _ _ _ _ _ _ _ _ (HK3.out.trans hk4 (fun _ _ h=>h)) hp.2 (leads_go HL.out (HST.out.trans (if_pos hr))) (by omega) (by omega)⟩
                · rw [if_neg hr]at hp
                  have hs1:=HST.out.trans (if_neg hr)
                  have hl:=hlen.out
                  by_cases hq:two zs (x+2)<2∨(zs.length:Int)-x-2<two zs (x+2)
                  · rw [if_pos (by omega)]at hp
                    exact .inl ⟨hp,HBAD.out w4 (HK3.out.trans hk4 (fun _ _ h=>h)) (hs1.trans (if_pos hq))⟩
                  · rw [if_neg (by omega)]at hp
                    exact .inr ⟨hp.1,HGO.out w4 _ _ _ _ _ _ _ _ (HK3.out.trans hk4 (fun _ _ h=>h)) hp.2 (leads_go HL.out (hs1.trans (if_neg hq))) (by omega) (by omega)⟩)
               clear HK3 HGO HST HBAD hc1 hc2 hc3 htwo
               have SG2:=hid (SG.out.mono (R':=fun e w4=>(e=.returned (.bool false)∧AllP w base V A n c zs (.returned (.bool false)) w4)∨(e=.returned (.bool true)∧Hid (InAll w base V A n c zs w4)∧n-posW w4 V<n-posW wr V)) (fun e w4 h=>HX.out e w4 h))
               clear SG HX
               generalize two zs x=z at*
               go_wp2_with fail
               refine SG2.out.mono ?_
               rintro e w4 (⟨rfl,hf⟩|⟨rfl,hf⟩)
               · have HF:=hid hf
                 clear hf
                 go_wp2_with fail
                 go_ret
                 exact HF.out
               · have HF:=hid hf
                 clear hf
                 go_wp2_with fail
                 exact HF.out
   · have HF:=hid (HNO.out w2 hk2 (walkM_none hsoc))
     have hne:(two zs 0 != 65359)=true:=by simpa using hsoc
     clear hw2 hk2 MK
     generalize two zs 0=z at*
     go_wp2_with fail
     go_ret
     exact HF.out
theorem map_marks_ (acc:List (Int×Nat)):(acc.map fun p=>Value.int .i64 p.1)=(acc.map (·.1)).map (Value.int .i64):=by rw [List.map_map];rfl
theorem map_places (acc:List (Int×Nat)):(acc.map fun p=>Value.int .i64 (p.2:Int))=(acc.map fun p=>(p.2:Int)).map (Value.int .i64):=by rw [List.map_map];rfl
def WalkP (w:World) (zs:List Int) (e:Ending) (w':World):Prop:=
 Keep (fun _=>False) w w'∧match walkM zs with
  |none=>e=.returned (.tuple #[.slice none 0 0,.slice none 0 0,.int .i64 10])
  |some l=> ∃M cm T ct,e=.returned (.tuple #[.slice M l.length cm,.slice T l.length ct,.int .i64 0])∧w'.ownsRow w.heap.size 3 1 (.slice M l.length cm) l.length ((l.map (·.1)).map (Value.int .i64))∧w'.ownsRow w.heap.size 3 1 (.slice T l.length ct) l.length ((l.map fun p=>(p.2:Int)).map (Value.int .i64))
theorem walk_any (w:World) (A:Option Addr) (n c:Nat) (zs:List Int) (hr:Rd w A n (zs.map (Value.int .u8))) (hA: ∀ad,A=some ad→ad.block<w.heap.size) (hby:Bytes zs) (hcap:n≤c) (hbig:c≤9223372036854775807) (hn:n≤1099511627776):
 Calls Tryz.prog 11 #[.slice A n c] w (WalkP w zs):=by
 have hw:=Blk.new w 67 #[.slice A n c,.int .i64 0,.slice none 0 0,.slice none 0 0,.bool false]
 have hk:=(Keep.refl (fun _=>False) w).alloc (.cells #[.slice A n c,.int .i64 0,.slice none 0 0,.slice none 0 0,.bool false] 67)
 have hnil: ∀b:Nat,(w.alloc (.cells #[.slice A n c,.int .i64 0,.slice none 0 0,.slice none 0 0,.bool false] 67)).ownsRow b 3 1 (.slice none 0 0) 0 []:=fun b=>⟨rfl,.inl ⟨rfl,rfl⟩⟩
 have hl:zs.length=n:=by simpa using hr.len
 have HW:=hid (show WkG (w.alloc (.cells #[.slice A n c,.int .i64 0,.slice none 0 0,.slice none 0 0,.bool false] 67)) w.heap.size w.heap.size A n c zs 0 none 0 0 none 0 [] false from
  { blk:=hw,rd:=hr.alloc _,low:=hA,oM:=hnil _,oT:=hnil _,dj:=fun j e=>by simp [Value.ownBlock]at e
    vb:=Nat.le_refl _,len:=hl,cap:=hcap,big:=hbig,size:=hn,byt:=hby,few:=Nat.le_refl _,at_:=Nat.zero_le _ })
 have HK:=hid hk
 clear hw hk hnil hr hA hby
 have AL:=hid (all_any _ w.heap.size w.heap.size A n c zs HW.out HK.out.size)
 clear HW
 go_enter Tryz.func11,Tryz.ntmps11
 go_wp2_with fail
 refine AL.out.mono ?_
 rintro e w2 ⟨hk2,hp⟩
 have HK2:=hid (show Keep (fun _=>False) w w2 from HK.out.new hk2 (fun i h=>h))
 clear hk2 HK AL
 have HD:=hid (show∀e w',Keep (fun _=>False) w w'→(match walkM zs with
  |none=>e=.returned (.tuple #[.slice none 0 0,.slice none 0 0,.int .i64 10])
  |some l=> ∃M cm T ct,e=.returned (.tuple #[.slice M l.length cm,.slice T l.length ct,.int .i64 0])∧w'.ownsRow w.heap.size 3 1 (.slice M l.length cm) l.length ((l.map (·.1)).map (Value.int .i64))∧w'.ownsRow w.heap.size 3 1 (.slice T l.length ct) l.length ((l.map fun p=>(p.2:Int)).map (Value.int .i64)))→WalkP w zs e w' from fun e w' k h=>⟨k,h⟩)
 cases hm:walkM zs with
 |none=>
  rw [hm]at hp HD
  obtain rfl:=hp
  go_wp2_with fail
  exact bodyPost_ret (v:=.tuple #[.slice none 0 0,.slice none 0 0,.int .i64 10]) (by simp [results,Tryz.results11,go_sem]) rfl (HD.out _ _ HK2.out rfl)
 |some l=>
  rw [hm]at hp HD
  obtain⟨rfl,x,M,m,cm,T,ct,tl,hg⟩:=hp
  have HG:=hid hg
  have c2:w2.cell? ⟨w.heap.size,2,none⟩=some (.slice M m cm):=hg.blk.cell 2
  have c3:w2.cell? ⟨w.heap.size,3,none⟩=some (.slice T m ct):=hg.blk.cell 3
  have hml:l.length=m:=by have:=(Rd.of_own hg.oM).1;simpa using this
  have hmn:m≤1099511627776:=by have:=hg.few;have:=hg.at_;omega
  have RM:Hid (Rd w2 M m ((l.map (·.1)).map (Value.int .i64))):=hid (by rw [← map_marks_];exact Rd.of_own hg.oM)
  have RT:Hid (Rd w2 T m ((l.map fun p=>(p.2:Int)).map (Value.int .i64))):=hid (by rw [← map_places];exact Rd.of_own hg.oT)
  clear hg
  go_wp2_with fail
  refine At.start (L:=#[false,false,false,false,false,false,false,false,false,false,false,false,false]) (by kernel_rfl) rfl ?_
  refine AtP 0 (some 12) ?_
  try simp only [NS]
  refine AtP 1 (some 13) ?_
  try simp only [NS]
  refine AtP 2 (some 14) ?_
  try simp only [NS]
  refine At.read 3 (some 15) (fun w'=>w'.cell? ⟨w.heap.size,2,none⟩=some (.slice M m cm)) (v:=?v3a) rfl rfl (by kernel_rfl) (fun _ _ _ h=>h) rfl c2 (fun w' hw'=>?y3a) ?_
  case y3a=>skip;go_simp;try with_reducible rfl
  try simp only [NS]
  refine AtP 5 (some 17) ?_
  try simp only [NS]
  refine AtP 6 (some 18) ?_
  try simp only [NS]
  refine AtP 7 (some 19) ?_
  try simp only [NS]
  refine At.read 8 (some 20) (fun w'=>w'.cell? ⟨w.heap.size,3,none⟩=some (.slice T m ct)) (v:=?v8a) rfl rfl (by kernel_rfl) (fun _ _ _ h=>h) rfl c3 (fun w' hw'=>?y8a) ?_
  case y8a=>skip;go_simp;try with_reducible rfl
  try simp only [NS]
  refine At.call 4 (pend':=[(8,(fun w'=>w'.cell? ⟨w.heap.size,3,none⟩=some (.slice T m ct)))]) rfl (by kernel_rfl) rfl (by kernel_rfl) (fun K hK=>?_)
  go_simp
  refine(clone_ints M m cm _ w2.drew RM.out.drew hmn).mono ?_
  rintro e w3 ⟨v3,rfl,ho3,hk3⟩
  refine hK _ _ (all_cons (hk3.cell c3 (fun h=>h)) all_nil) ?_
  clear hK K
  try simp only [NS]
  refine AtC 9 fun K hK=>?_
  go_simp
  refine(clone_ints T m ct _ w3 (RT.out.drew.keep hk3 (fun _ _ h=>h)) hmn).mono ?_
  rintro e w4 ⟨v4,rfl,ho4,hk4⟩
  refine hK _ _ all_nil ?_
  clear hK K
  try simp only [NS]
  refine AtP 10 (some 2) ?_
  try simp only [NS]
  refine AtP 11 (some 3) ?_
  try simp only [NS]
  refine AtP 12 (some 4) ?_
  try simp only [NS]
  refine At.done (by kernel_rfl) ?_
  obtain⟨M3,cm3,rfl⟩:=own_form ho3
  obtain⟨T4,ct4,rfl⟩:=own_form ho4
  have hs2:=HK2.out.size
  have hs3:=hk3.size
  have HF:=hid (HD.out (.returned (.tuple #[.slice M3 m cm3,.slice T4 m ct4,.int .i64 0])) w4 ((HK2.out.drew.trans hk3 (fun _ _ h=>h)).trans hk4 (fun _ _ h=>h)) (by
   rw [hml]
   exact⟨M3,cm3,T4,ct4,rfl,own_mono (own_keep ho3 hk4 (fun _ _ h=>h)) (by simpa using hs2),own_mono ho4 (by simp at hs3;omega)⟩))
  clear ho3 ho4 hk3 hk4 HG c2 c3 RM RT
  go_wp2_with fail
  exact bodyPost_ret (v:=.tuple #[.slice M3 m cm3,.slice T4 m ct4,.int .i64 0]) (by simp [results,Tryz.results11,go_sem]) rfl HF.out
theorem within_any (w:World) (x n:Int) (h0:-9223372036854775808≤x) (h1:x≤9223372036854775807) (hn:0<n) (hn2:n≤2199023255552):
 Calls Tryz.prog 10 #[.int .i64 x,.int .i64 n] w fun e w'=>e=.returned (.int .i64 (x%n))∧w=w':=by
 obtain⟨t1,t2,t3,t4⟩:=tmod_fix x n hn
 have hz:(n==0)=false:=by simp;omega
 have hw:wrap64 (x.tmod n)=x.tmod n:=IntWalk.wrap64_in _ (by omega)
 have hw2:IntKind.i64.wrap (x.tmod n)=x.tmod n:=IntWalk.i64_in _ (by omega)
 by_cases hc:x.tmod n<0
 · have e:=t1 hc
   have HE:=hid e
   clear t1 t2 e
   go_enter Tryz.func10,Tryz.ntmps10
   go_wp2_with fail
   go_ret
   exact⟨by rw [← HE.out];rfl,rfl⟩
 · have e:=t2 (by omega)
   have HE:=hid e
   clear t1 t2 e
   go_enter Tryz.func10,Tryz.ntmps10
   go_wp2_with fail
   go_ret
   exact⟨by rw [← HE.out];rfl,rfl⟩
theorem walk_four (w:World) (g:Nat) (h:Blk w g 5 #[.int .u8 255,.int .u8 79,.int .u8 255,.int .u8 217]):
 Calls Tryz.prog 11 #[.slice (some ⟨g,0,none⟩) 4 4] w fun e w'=>e=.returned (.tuple #[.slice none 0 0,.slice none 0 0,.int .i64 10])∧Keep (fun _=>False) w w':=by
 have hr:Rd w (some ⟨g,0,none⟩) 4 (([255,79,255,217]:List Int).map (Value.int .u8)):=⟨rfl,fun _=>⟨_,rfl,fun j v hj=>by
  have hj4:j<4:=by
   rcases Nat.lt_or_ge j 4 with h|h
   · exact h
   · rw [List.getElem?_eq_none (by simpa using h)]at hj;cases hj
  rw [add_lit',Nat.zero_add,h.cell j]
  match j,hj4 with
  |0,_=>simpa using hj
  |1,_=>simpa using hj
  |2,_=>simpa using hj
  |3,_=>simpa using hj⟩⟩
 have hm:walkM [255,79,255,217]=none:=by decide +kernel
 refine(walk_any w (some ⟨g,0,none⟩) 4 4 [255,79,255,217] hr (fun ad e=>by injection e with e;subst e;exact h.lt) (fun z hz=>by simp at hz;omega) (by omega) (by omega) (by omega)).mono ?_
 rintro e w' ⟨hk,hp⟩
 rw [hm]at hp
 exact⟨hp,hk⟩
theorem rd_lit2 (w:World) (x y:Int) (e:TypeId):Rd (w.alloc (.cells #[.int .u8 x,.int .u8 y] e)) (some ⟨w.heap.size,0,none⟩) 2 (([x,y]:List Int).map (Value.int .u8)):=
 ⟨rfl,fun _=>⟨_,rfl,fun j v hj=>by
  match j,hj with
  |0,hj=>simp at hj;subst hj;simp [Addr.add]
  |1,hj=>simp at hj;subst hj;simp [Addr.add]⟩⟩
theorem known_any (w:World):Calls Tryz.prog 7 #[] w fun e w'=>e=.returned (.bool true)∧Keep (fun _=>False) w w':=by
 have t1:cleanB [255,143]=true:=by decide +kernel
 have t2:cleanB [255,144]=false:=by decide +kernel
 have b1:Bytes [255,143]:=fun z hz=>by simp at hz;omega
 have b2:Bytes [255,144]:=fun z hz=>by simp at hz;omega
 go_enter Tryz.func7,Tryz.ntmps7
 go_wp2_with fail
 refine(walk_four _ w.heap.size (Blk.new w 5 _)).mono ?_
 rintro e w2 ⟨rfl,hk2⟩
 have HK2:=hid (((Keep.refl (fun _=>False) w).alloc _).trans hk2 (fun _ _ h=>h))
 clear hk2
 go_wp2_with fail
 refine(clean_any _ (some ⟨w2.heap.size,0,none⟩) 2 2 [255,143] (rd_lit2 w2 255 143 _) b1 (by omega)).mono ?_
 rintro e w3 ⟨rfl,hk3⟩
 have HK3:=hid (HK2.out.trans (((Keep.refl (fun _=>False) w2).alloc _).trans hk3 (fun _ _ h=>h)) (fun _ _ h=>h))
 clear hk3 HK2
 rw [t1]
 go_wp2_with fail
 refine(clean_any _ (some ⟨w3.heap.size,0,none⟩) 2 2 [255,144] (rd_lit2 w3 255 144 _) b2 (by omega)).mono ?_
 rintro e w4 ⟨rfl,hk4⟩
 have HK4:=hid (HK3.out.trans (((Keep.refl (fun _=>False) w3).alloc _).trans hk4 (fun _ _ h=>h)) (fun _ _ h=>h))
 clear hk4 HK3
 rw [t2]
 go_wp2_with fail
 go_ret
 exact⟨rfl,HK4.out⟩
theorem ints_same (w:World) (A B:Option Addr) (n ca cb:Nat) (zs:List Int) (ha:Rd w A n (zs.map (Value.int .i64))) (hb:Rd w B n (zs.map (Value.int .i64))) (hn:n≤9223372036854775807):
 Calls Tryz.prog 13 #[.slice A n ca,.slice B n cb] w fun e w'=>e=.returned (.bool true)∧Keep (fun _=>False) w w':=by
 have HA:=hid ha
 have HB:=hid hb
 clear ha hb
 go_enter Tryz.func13,Tryz.ntmps13
 go_wp2_with fail
 go_loopw [5] (fun v wr=> ∃i:Nat,i≤n∧v=.int .i64 i∧Hid (Keep (fun _=>False) w wr)) (fun v _=>n-(intOf v).toNat)
 case atStart=>exact⟨0,by omega,rfl,hid (Keep.refl _ w)⟩
 case round=>
  obtain⟨i,hi,rfl,HK⟩:=hrel
  by_cases hin:i<n
  · obtain⟨b,o,rfl,b0⟩:=HA.out.int_ix hin
    obtain⟨b',o',rfl,b1⟩:=HB.out.int_ix hin
    have c0:wr.cell? ⟨b,o+i,none⟩=some (.int .i64 (zs.getD i 0)):=HK.out.cell b0 (fun h=>h)
    have c1:wr.cell? ⟨b',o'+i,none⟩=some (.int .i64 (zs.getD i 0)):=HK.out.cell b1 (fun h=>h)
    have HK2:=hid HK.out.drew
    clear b0 b1
    generalize zs.getD i 0=y at*
    go_wp2_with fail
    refine At.start (L:=#[false,false,false,false,false,false,false,false,false]) (by kernel_rfl) rfl ?_
    refine AtP 0 (some 17) ?_
    try simp only [NS]
    refine AtP 1 (some 18) ?_
    try simp only [NS]
    refine AtP 2 (some 19) ?_
    try simp only [NS]
    refine At.read 3 (some 20) (fun w'=>w'.cell? ⟨b,o+i,none⟩=some (.int .i64 y)) (v:=?v3a) rfl rfl (by kernel_rfl) (fun _ _ _ h=>h) rfl c0 (fun w' hw'=>?y3a) ?_
    case y3a=>skip;go_simp;try with_reducible rfl
    try simp only [NS]
    refine AtP 4 (some 21) ?_
    try simp only [NS]
    refine AtP 5 (some 22) ?_
    try simp only [NS]
    refine AtP 6 (some 23) ?_
    try simp only [NS]
    refine At.read 7 (some 24) (fun w'=>w'.cell? ⟨b',o'+i,none⟩=some (.int .i64 y)) (v:=?v7a) rfl rfl (by kernel_rfl) (fun _ _ _ h=>h) rfl c1 (fun w' hw'=>?y7a) ?_
    case y7a=>skip;go_simp;try with_reducible rfl
    try simp only [NS]
    refine AtP 8 (some 25) ?_
    try simp only [NS]
    refine At.done (by kernel_rfl) ?_
    go_wp2_with fail
    exact⟨⟨i+1,by omega,by go_num,HK2⟩,by simp [intOf];omega⟩
  · obtain rfl:n=i:=by omega
    go_wp2_with fail
    go_ret
    exact⟨rfl,HK.out⟩
def EncL (w:World) (rem:List Int) (nt:Nat) (e:Ending) (w':World):Prop:=
 ∃(A:Option Addr) (n c:Nat) (zs:List Int) (a b d p q:Nat) (tl:List (List Int)),e=.returned (.tuple #[.slice A n c,.int .i64 0])∧Keep (fun _=>False) w w'∧w'.ownsRow w.heap.size 5 1 (.slice A n c) n (zs.map (Value.int .u8))∧Bytes zs∧n≤50000000000∧tl.length=nt∧walkM zs=some (hmarks a b d rem++tmarks p tl++[(65497,q)])
def MakeL (w:World) (e:Ending) (w':World):Prop:=
 ∃(m:Im) (p:Pm) (nx ny:Nat),e=.returned (.tuple #[.agg m.cells,.agg p.cells])∧Keep (fun _=>False) w w'∧(0≤m.x∧m.x≤64∧0≤m.y∧m.y≤64∧0<p.tx∧p.tx≤65536∧0<p.ty∧p.ty≤65536)∧((m.x+p.tx-1)/p.tx=nx∧(m.y+p.ty-1)/p.ty=ny∧nx≤100∧ny≤100∧0<nx*ny∧nx*ny≤6)∧
  ∀(w2:World) (RA:Option Addr) (rn rc:Nat) (rem:List Int),Keep (fun _=>False) w' w2→Rd w2 RA rn (rem.map (Value.int .u8))→Bytes rem→rn≤1000→Calls Tryz.prog 9 #[.agg m.cells,.agg p.cells,.slice RA rn rc] w2 (EncL w2 rem (nx*ny))
theorem FmOk.keepF {w w':World} {f:Fm} (h:FmOk w f) (hk:Keep (fun _=>False) w w'):FmOk w' f:=
 { x:=h.x,y:=h.y,ox:=h.ox,oy:=h.oy,comps:=h.comps,depth:=h.depth,sub:=h.sub,tx:=h.tx,ty:=h.ty,lev:=h.lev,cbw:=h.cbw,cbh:=h.cbh,prec:=h.prec,style:=h.style,order:=h.order,lay:=h.lay
   zs:=by obtain⟨zs,h1⟩:=h.zs;exact⟨zs,h1.keep hk (fun _ _ h=>h)⟩
   nb:=h.nb }
theorem walkM_len {zs:List Int} {l:List (Int×Nat)} (h:walkM zs=some l):2≤zs.length:=by
 unfold walkM at h
 split at h
 · rename_i h0
   have:=two_none (zs:=zs) (p:=0) (by omega)
   omega
 · cases h
theorem own_facts {w:World} {base:Nat} {e:TypeId} {A:Option Addr} {n c:Nat} {xs:List Value} (h:w.ownsRow base e 1 (.slice A n c) n xs):Rd w A n xs∧(∀ ad,A=some ad→ad.block<w.heap.size)∧n≤c∧c≤9223372036854775807:=by
 refine⟨Rd.of_own h,fun ad e=>by subst e;exact(h.lt ad.block (by simp [Value.ownBlock])).2,?_⟩
 rcases h.2 with⟨hv,hn⟩|⟨g,cap,cur,hv,_,_,h1,h2,_⟩
 · injection hv with _ h2 h3
   omega
 · injection hv with _ _ h3
   simp only [maxLen]at h2
   omega
theorem info_u8L :(Tryz.prog.info? 5).map (fun i=>(i.zero,i.size,i.bytes))=some (some (.int .u8 0),1,1):=by kernel_rfl
theorem wp_app {o:Oper} {a:Act} {K:Act→World→Prop} {Q:Exit→Act→World→Prop} (s x:Operand) (ho:o.op=.call { callee:=.builtin .append,args:=#[s,x],argTypes:=#[25,25] })
 {w0 w:World} {A:Option Addr} {n c:Nat} {zs:List Int} (hown:w.ownsRow w0.heap.size 5 1 (.slice A n c) n (zs.map (Value.int .u8))) (hk:Keep (fun _=>False) w0 w) (hs:a.eval s=.slice A n c)
 {X:Option Addr} {m d:Nat} {xs:List Int} (hr:Rd w X m (xs.map (Value.int .u8))) (hx:a.eval x=.slice X m d) (hb:n+m≤100000000000)
 (h: ∀A' c' w',w'.ownsRow w0.heap.size 5 1 (.slice A' (n+m) c') (n+m) ((zs++xs).map (Value.int .u8))→Keep (fun _=>False) w0 w'→K (a.put o.dst (.slice A' (n+m) c')) w'):o.wp Tryz.prog a w K Q:=by
 obtain⟨i0,hi0,hz0,hz1,hz2⟩:=info_parts info_u8L
 refine wp_append_src w s x 25 ho w0.heap.size 5 i0 _ 1 Tryz.underlying25 hi0 hz0 hz1 hz2 rfl _ n _ hs hown X m d _ hx hr (oneCell_ints _ _) (by simp only [maxLen];omega) (by omega) hk.size ?_
 intro v' w' h2 hg _ _
 obtain⟨A',c',rfl⟩:=own_form h2
 rw [← List.map_append]at h2
 exact h A' c' w' h2 (hk.new ((Keep.refl (fun i=>(Value.slice A n c).ownBlock=some i) w).grown hg (fun k hk=>.inl hk)) (fun i e=>(hown.lt i e).1))
theorem wpList_app {ops:Array Oper} {rest:List Oper} {o:Oper} {a:Act} {Q:Exit→Act→World→Prop} (hgd:o.guard=none) (s x:Operand) (ho:o.op=.call { callee:=.builtin .append,args:=#[s,x],argTypes:=#[25,25] })
 {w0 w:World} {A:Option Addr} {n c:Nat} {zs:List Int} (hown:w.ownsRow w0.heap.size 5 1 (.slice A n c) n (zs.map (Value.int .u8))) (hk:Keep (fun _=>False) w0 w) (hs:a.eval s=.slice A n c)
 {X:Option Addr} {m d:Nat} {xs:List Int} (hr:Rd w X m (xs.map (Value.int .u8))) (hx:a.eval x=.slice X m d) (hb:n+m≤100000000000)
 (h: ∀A' c' w',w'.ownsRow w0.heap.size 5 1 (.slice A' (n+m) c') (n+m) ((zs++xs).map (Value.int .u8))→Keep (fun _=>False) w0 w'→wpList Tryz.prog ops Q rest (a.put o.dst (.slice A' (n+m) c')) w'):wpList Tryz.prog ops Q (o::rest) a w:=
 wpList_plain hgd fun _ hK=>wp_app s x ho hown hk hs hr hx hb fun A' c' w' h2 h3=>hK _ _ (h A' c' w' h2 h3)
theorem own_none (w0 w:World) (hk:Keep (fun _=>False) w0 w):(w.alloc (.cells #[] 5)).ownsRow w0.heap.size 5 1 (.slice (some ⟨w.heap.size,0,none⟩) 0 0) 0 (([]:List Int).map (Value.int .u8)):=
 ⟨rfl,.inr ⟨w.heap.size,0,#[],rfl,hk.size,Blk.new w _ _,Nat.le_refl _,by simp only [maxLen];omega,rfl,rfl⟩⟩
end Go.Proofs.YthfogcgdijmaoaaGreat
