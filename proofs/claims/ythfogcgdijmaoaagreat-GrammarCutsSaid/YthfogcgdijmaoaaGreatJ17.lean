/-
  Part 17 of the proof: Frame2. Conditions: those of the statements.
-/
import Derived.Test.YthfogcgdijmaoaaGreatJ14
set_option maxRecDepth 100000
set_option maxHeartbeats 16000000
set_option linter.unusedVariables false
set_option linter.unusedSimpArgs false
namespace Go.Proofs.YthfogcgdijmaoaaGreat
open Go.RowKit
theorem comp_cells {w:World} {A:Option Addr} {n:Nat} {cs:List Cm} (h:RdS w A n 5 (cms cs)) (hl:cs.length=n) {i:Nat} (hi:i<n): ∃(b o:Nat) (c:Cm),c∈cs∧A=some ⟨b,o,none⟩∧w.cell? ⟨b,o+i*5,none⟩=some (.int .i64 c.depth)∧w.cell? ⟨b,o+i*5+1,none⟩=some (.bool c.sg)∧w.cell? ⟨b,o+i*5+2,none⟩=some (.int .i64 c.dx)∧w.cell? ⟨b,o+i*5+3,none⟩=some (.int .i64 c.dy)∧w.cell? ⟨b,o+i*5+4,none⟩=some (.slice c.A c.n c.c):=by
 have hi':i<cs.length:=by omega
 obtain⟨b,o,e,h0⟩:=h.cell hi (cms_at cs i 0 hi' (by omega))
 have hh: ∀j v,j<5→cs[i].cells[j]?=some v→w.cell? ⟨b,o+i*5+j,none⟩=some v:=fun j v hj hv=>by
  obtain⟨b2,o2,e2,h2⟩:=h.cell hi ((cms_at cs i j hi' hj).trans hv)
  rw [e]at e2
  cases e2
  exact h2
 exact⟨b,o,cs[i],List.getElem_mem hi',e,h0,hh 1 _ (by omega) rfl,hh 2 _ (by omega) rfl,hh 3 _ (by omega) rfl,hh 4 _ (by omega) rfl⟩
theorem frame_of (w:World) (m:Im) (p:Pm) (cs:List Cm) (hcs:RdS w m.A m.n 5 (cms cs)) (hl:cs.length=m.n) (hn1:1≤m.n) (hn4:m.n≤4) (hC: ∀c∈cs,CmOk c) (hox:0≤m.ox) (hx:m.ox<m.x) (hx64:m.x≤64) (hoy:0≤m.oy) (hy:m.oy<m.y) (hy64:m.y≤64)
 (hN: ∀w2,RdS w2 m.A m.n 5 (cms cs)→Calls Tryz.prog 48 #[m.val,p.val] w2 fun e w'=>e=.returned (.int .i64 0)∧Keep (fun _=>False) w2 w'):
 Calls Tryz.prog 33 #[m.val,p.val] w fun e w'=>e=.returned (.int .i64 0)∧Keep (fun _=>False) w w':=by
 have HN:=hid hN
 clear hN
 obtain⟨x,y,ox,oy,A,n,c⟩:=m
 obtain⟨tx,ty,lev,cbw,cbh,prec,style,order,lay,rct,sop,eph⟩:=p
 unfold Im.val Pm.val Im.cells Pm.cells at HN ⊢
 simp only at*
 have HC:=hid hC
 have HR:=hid hcs
 have HL:=hid hl
 clear hC hcs hl
 have HK:=hid (((Keep.refl (fun _=>False) w).alloc (.cells #[.int .i64 x,.int .i64 y,.int .i64 ox,.int .i64 oy,.slice A n c] 29)).alloc (.cells #[.int .i64 tx,.int .i64 ty,.int .i64 lev,.int .i64 cbw,.int .i64 cbh,.int .i64 prec,.int .i64 style,.int .i64 order,.int .i64 lay,.bool rct,.bool sop,.bool eph] 31))
 have B1:=hid ((Blk.new w 29 #[.int .i64 x,.int .i64 y,.int .i64 ox,.int .i64 oy,.slice A n c]).alloc (.cells #[.int .i64 tx,.int .i64 ty,.int .i64 lev,.int .i64 cbw,.int .i64 cbh,.int .i64 prec,.int .i64 style,.int .i64 order,.int .i64 lay,.bool rct,.bool sop,.bool eph] 31))
 have B2:=hid (Blk.new1 w (.cells #[.int .i64 x,.int .i64 y,.int .i64 ox,.int .i64 oy,.slice A n c] 29) 31 #[.int .i64 tx,.int .i64 ty,.int .i64 lev,.int .i64 cbw,.int .i64 cbh,.int .i64 prec,.int .i64 style,.int .i64 order,.int .i64 lay,.bool rct,.bool sop,.bool eph])
 go_enter Tryz.func33,Tryz.ntmps33
 go_wp2_with fail
 go_loopw [5] (fun v wr=> ∃(i:Nat),i≤n∧v=.int .i64 i∧Hid (Keep (fun _=>False) w wr)∧Hid (Blk wr w.heap.size 29 #[.int .i64 x,.int .i64 y,.int .i64 ox,.int .i64 oy,.slice A n c])∧Hid (Blk wr (w.heap.size+1) 31 #[.int .i64 tx,.int .i64 ty,.int .i64 lev,.int .i64 cbw,.int .i64 cbh,.int .i64 prec,.int .i64 style,.int .i64 order,.int .i64 lay,.bool rct,.bool sop,.bool eph])) (fun v _=>n-(intOf v).toNat)
 case atStart=>exact⟨0,by omega,rfl,HK,B1,B2⟩
 case round=>
  clear HK B1 B2
  obtain⟨i,hi,rfl,HK,B1,B2⟩:=hrel
  have m4:=B1.out.cell 4
  by_cases hin:i<n
  · obtain⟨b,o,C,hm,rfl,c0,c1,c2,c3,c4⟩:=comp_cells (HR.out.keep0 HK.out) HL.out hin
    obtain⟨d1,d2,d3,d4,d5,d6⟩:=HC.out C hm
    go_upto_region 11 with fail
    have HK2:=hid (HK.out.alloc (.cells #[.int .i64 C.depth,.bool C.sg,.int .i64 C.dx,.int .i64 C.dy,.slice C.A C.n C.c] 52))
    have B3:=hid (B1.out.alloc (.cells #[.int .i64 C.depth,.bool C.sg,.int .i64 C.dx,.int .i64 C.dy,.slice C.A C.n C.c] 52))
    have B4:=hid (B2.out.alloc (.cells #[.int .i64 C.depth,.bool C.sg,.int .i64 C.dx,.int .i64 C.dy,.slice C.A C.n C.c] 52))
    have D:=Blk.new wr 52 #[.int .i64 C.depth,.bool C.sg,.int .i64 C.dx,.int .i64 C.dy,.slice C.A C.n C.c]
    generalize wr.alloc (.cells #[.int .i64 C.depth,.bool C.sg,.int .i64 C.dx,.int .i64 C.dy,.slice C.A C.n C.c] 52)=w4 at*
    have f0:=D.cell 0
    have f1:=D.cell 1
    have f2:=D.cell 2
    have f3:=D.cell 3
    clear D
    go_wp2_with fail
    go_roundw
    case rel=>exact⟨i+1,by omega,by go_num,HK2,B3,B4⟩
    case measure=>simp [intOf]<;>omega
  · obtain rfl:i=n:=by omega
    go_wp2_with (first|(refine wpList_load_row rfl _ _ rfl _ rfl _ _ _ _ B1.out Tryz.underlying29 rfl (by kernel_rfl) ?_)|(refine wpList_load_row rfl _ _ rfl _ rfl _ _ _ _ B2.out Tryz.underlying31 rfl (by kernel_rfl) ?_)|(go_at_call 48;refine(HN.out wr (HR.out.keep0 HK.out)).mono ?_;rintro e w3 ⟨rfl,hk⟩;have HK2:=hid (HK.out.trans hk (fun _ _ h=>h))))
    go_ret
    exact⟨rfl,HK2.out⟩
end Go.Proofs.YthfogcgdijmaoaaGreat
