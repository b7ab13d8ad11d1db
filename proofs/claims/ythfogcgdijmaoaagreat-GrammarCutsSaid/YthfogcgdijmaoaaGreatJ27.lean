/-
  Part 27 of the proof: Sizes Ways. Conditions: those of the statements.
-/
import Derived.Test.YthfogcgdijmaoaaGreatJ26
import Derived.Deep.DeepCutAuto
set_option maxRecDepth 100000
set_option maxHeartbeats 16000000
set_option linter.unusedVariables false
set_option linter.unusedSimpArgs false
namespace Go.Proofs.YthfogcgdijmaoaaGreat
open Go.RowKit
def hcells (m:Im) (p:Pm) (A:Option Addr) (n c:Nat):Array Value:=#[.int .i64 m.x,.int .i64 m.y,.int .i64 m.ox,.int .i64 m.oy,.slice m.A m.n m.c,.int .i64 p.tx,.int .i64 p.ty,.int .i64 p.lev,.int .i64 p.cbw,.int .i64 p.cbh,.int .i64 p.prec,.int .i64 p.style,.int .i64 p.order,.int .i64 p.lay,.bool p.rct,.bool p.sop,.bool p.eph,.slice A n c]
theorem hrange_m {w:World} {g:Nat} {t:TypeId} {m:Im} {p:Pm} {A:Option Addr} {n c:Nat} (h:Blk w g t (hcells m p A n c)):w.rangeAt g 0 m.cells.toList:=fun j v hj=>by
 have hj4:j<5:=(List.getElem?_eq_some_iff.1 hj).1
 rw [Nat.zero_add,h.cell,←hj]
 rcases (show j=0∨j=1∨j=2∨j=3∨j=4 by omega)with rfl|rfl|rfl|rfl|rfl<;>rfl
theorem hrange_p {w:World} {g:Nat} {t:TypeId} {m:Im} {p:Pm} {A:Option Addr} {n c:Nat} (h:Blk w g t (hcells m p A n c)):w.rangeAt g 5 p.cells.toList:=fun j v hj=>by
 have hj4:j<12:=(List.getElem?_eq_some_iff.1 hj).1
 rw [h.cell,←hj]
 rcases (show j=0∨j=1∨j=2∨j=3∨j=4∨j=5∨j=6∨j=7∨j=8∨j=9∨j=10∨j=11 by omega)with rfl|rfl|rfl|rfl|rfl|rfl|rfl|rfl|rfl|rfl|rfl|rfl<;>rfl
def BytesN (k:Nat) (w:World) (e:Ending) (w':World):Prop:= ∃A c zs,e=.returned (.slice A k c)∧By w w.heap.size A k c zs w'
theorem By.push {w0 w w':World} {base n c k c':Nat} {A A':Option Addr} {zs ys:List Int} {o:Obj} (h:By w0 base A n c zs w) (hy:Bytes ys) (ho:w'.ownsRow base 5 1 (.slice A' (n+k) c') (n+k) (zs.map (Value.int .u8)++ys.map (Value.int .u8))) (hg:(w.alloc o).grownBy w' (Value.slice A n c).ownBlock):By w0 base A' (n+k) c' (zs++ys) w':=by
 have hk:Keep (fun i=>(Value.slice A n c).ownBlock=some i) w w':=((Keep.refl _ w).alloc o).grown hg (fun k hk=>.inl hk)
 exact⟨by rw [List.map_append];exact ho,keep_app h.keep h.own h.b0 hk,h.bytes.app hy,h.b0,Nat.le_trans h.b1 hk.size⟩
theorem u8_lim (x:Int):0≤IntKind.u8.wrap x∧IntKind.u8.wrap x≤255:=by
 have e:IntKind.u8.wrap x=x%256:=by simp [IntKind.wrap,IntKind.signed,IntKind.bits]
 rw [e]
 have h1:=Int.emod_nonneg x (show(256:Int)≠0 by omega)
 have h2:=Int.emod_lt_of_pos x (show(0:Int)<256 by omega)
 omega
theorem wp_push {o:Oper} {a:Act} {w0 w:World} {K:Act→World→Prop} {Q:Exit→Act→World→Prop} {base:Nat} {A:Option Addr} {n c:Nat} {zs:List Int} (s x:Operand)
 (ho:o.op=.call { callee:=.builtin .append,args:=#[s,x],argTypes:=#[25,25] }) (hY:By w0 base A n c zs w) (ys:List Int) (hy:Bytes ys) (k:Nat) (hk:ys.length=k) (hs:a.eval s=.slice A n c) (hx:a.eval x=.slice (some ⟨w.heap.size,0,none⟩) k k) (hn:n+k≤70368744177664)
 (h: ∀A' c' w',By w0 base A' (n+k) c' (zs++ys) w'→Keep (fun i=>(Value.slice A n c).ownBlock=some i) w w'→K (a.put o.dst (.slice A' (n+k) c')) w'):o.wp Tryz.prog a (w.alloc (.cells (ys.map (Value.int .u8)).toArray 5)) K Q:=by
 obtain⟨i0,hi0,hz0,hz1,hz2⟩:=info_parts info_u8
 have hnew:=own_new w base 5 (ys.map (Value.int .u8)).toArray k (by simp [hk]) (by simp only [maxLen];omega) hY.b1
 refine wp_append_src _ s x 25 ho base 5 i0 _ 1 Tryz.underlying25 hi0 hz0 hz1 hz2 rfl _ n _ hs (own_keepF hY.own ((Keep.refl _ w).alloc _)) _ k k (ys.map (Value.int .u8)) hx (Rd.of_own (by simpa using hnew)) (oneCell_ints _ _) (by simp only [maxLen];omega) (by omega) (by have:=hY.b1;simp;omega) ?_
 intro v' w' h1 h2 h3 _
 obtain⟨A',c',rfl⟩:=own_form h1
 exact h A' c' w' (hY.push hy h1 h2) (((Keep.refl _ w).alloc _).grown h2 (fun k hk=>.inl hk))
theorem wpList_push {o:Oper} {ops:Array Oper} {rest:List Oper} {a:Act} {w0 w:World} {Q:Exit→Act→World→Prop} {base:Nat} {A:Option Addr} {n c:Nat} {zs:List Int} (hgd:o.guard=none) (s x:Operand)
 (ho:o.op=.call { callee:=.builtin .append,args:=#[s,x],argTypes:=#[25,25] }) (hY:By w0 base A n c zs w) (ys:List Int) (hy:Bytes ys) (k:Nat) (hk:ys.length=k) (hs:a.eval s=.slice A n c) (hx:a.eval x=.slice (some ⟨w.heap.size,0,none⟩) k k) (hn:n+k≤70368744177664)
 (h: ∀A' c' w',By w0 base A' (n+k) c' (zs++ys) w'→Keep (fun i=>(Value.slice A n c).ownBlock=some i) w w'→wpList Tryz.prog ops Q rest (a.put o.dst (.slice A' (n+k) c')) w'):wpList Tryz.prog ops Q (o::rest) a (w.alloc (.cells (ys.map (Value.int .u8)).toArray 5)):=
 wpList_plain hgd fun _ hK=>wp_push s x ho hY ys hy k hk hs hx hn fun A' c' w' h1 h2=>hK _ _ (h A' c' w' h1 h2)
theorem By.far {w0 w w':World} {base n c:Nat} {A:Option Addr} {zs:List Int} (h:By w0 base A n c zs w) {g:Nat} {t:TypeId} {cs:Array Value} (hg:Blk w g t cs) (hne:5≠t) {S:Nat→Prop} (hk:Keep S w w') (hS: ∀k,S k→(Value.slice A n c).ownBlock=some k):Blk w' g t cs:=hg.keep hk (fun hs=>own_ne h.own hg hne (hS _ hs))
theorem By.start {w0 w:World} (hk:Keep (fun _=>False) w0 w):By w0 w0.heap.size none 0 0 [] w:=⟨World.ownsRow_nil _ _ _ _,hk,fun _ h=>(by cases h),Nat.le_refl _,hk.size⟩
theorem sizes_any (w:World) (m:Im) (p:Pm) (RA:Option Addr) (rn rc:Nat) (cs:List Cm) (hcs:RdS w m.A m.n 5 (cms cs)) (hl:cs.length=m.n) (hn4:m.n≤4) (hC: ∀c∈cs,CmOk c):
 Calls Tryz.prog 35 #[.agg (hcells m p RA rn rc)] w (BytesN (36+3*m.n) w):=by
 obtain⟨i0,hi0,hz0,hz1,hz2⟩:=info_parts info_u8
 have HR:=hid hcs
 have HL:=hid hl
 have HC:=hid hC
 have HB0:=hid (Blk.new w 58 (hcells m p RA rn rc))
 have HK0:=hid ((Keep.refl (fun _=>False) w).alloc (.cells (hcells m p RA rn rc) 58))
 have HMC:=hid (show m.cells=#[.int .i64 m.x,.int .i64 m.y,.int .i64 m.ox,.int .i64 m.oy,.slice m.A m.n m.c]from rfl)
 clear hcs hl hC
 go_enter Tryz.func35,Tryz.ntmps35
 go_upto_region 1 with fail
 generalize w.alloc (.cells (hcells m p RA rn rc) 58)=w1 at*
 have HM:=hid (hrange_m HB0.out)
 unfold Im.cells at HM
 go_upto_region 2 with(refine wpList_load_mid rfl 29 (.tmp 9) rfl _ _ rfl _ _ HM.out Tryz.underlying29 rfl (by kernel_rfl) ?_)
 have BH:=hid (HB0.out.alloc (.cells #[.int .i64 m.x,.int .i64 m.y,.int .i64 m.ox,.int .i64 m.oy,.slice m.A m.n m.c] 29))
 have BM:=hid (Blk.new w1 29 #[.int .i64 m.x,.int .i64 m.y,.int .i64 m.ox,.int .i64 m.oy,.slice m.A m.n m.c])
 have HK1:=hid (HK0.out.alloc (.cells #[.int .i64 m.x,.int .i64 m.y,.int .i64 m.ox,.int .i64 m.oy,.slice m.A m.n m.c] 29))
 generalize w1.alloc (.cells #[.int .i64 m.x,.int .i64 m.y,.int .i64 m.ox,.int .i64 m.oy,.slice m.A m.n m.c] 29)=w2 at*
 generalize w1.heap.size=gm at*
 have HY0:=hid (By.start HK1.out)
 clear HB0 HK0 HM
 go_wp2_with fail
 refine(put_at w w2 w.heap.size none 0 0 [] 2 0 HY0.out (by omega) (by omega) (by omega)).mono ?_
 rintro e w3 ⟨A1,c1,rfl,h1,hk1,_⟩
 have BM1:=hid (HY0.out.far BM.out (by decide) hk1 (fun _ h=>h))
 have BH1:=hid (HY0.out.far BH.out (by decide) hk1 (fun _ h=>h))
 rw [Nat.zero_add]at h1 ⊢
 have HY1:=hid h1
 have m0:w3.cell? ⟨gm,0,none⟩=some (.int .i64 m.x):=BM1.out.cell 0
 have m1:w3.cell? ⟨gm,1,none⟩=some (.int .i64 m.y):=BM1.out.cell 1
 have m2:w3.cell? ⟨gm,2,none⟩=some (.int .i64 m.ox):=BM1.out.cell 2
 have m3:w3.cell? ⟨gm,3,none⟩=some (.int .i64 m.oy):=BM1.out.cell 3
 have d5:w3.cell? ⟨w.heap.size,5,none⟩=some (.int .i64 p.tx):=BH1.out.cell 5
 have d6:w3.cell? ⟨w.heap.size,6,none⟩=some (.int .i64 p.ty):=BH1.out.cell 6
 clear h1 hk1 HY0 BM BH HK1
 go_upto_region 4 with fail
 have BL2:=hid (Blk.new w3 3 #[.int .i64 m.x,.int .i64 m.y,.int .i64 m.ox,.int .i64 m.oy,.int .i64 p.tx,.int .i64 p.ty,.int .i64 0,.int .i64 0])
 have hka:Keep (fun _=>False) w3 (w3.alloc (.cells #[.int .i64 m.x,.int .i64 m.y,.int .i64 m.ox,.int .i64 m.oy,.int .i64 p.tx,.int .i64 p.ty,.int .i64 0,.int .i64 0] 3)):=(Keep.refl _ w3).alloc _
 have BM2:=hid (BM1.out.keep hka id)
 have HY2:=hid (HY1.out.keepF hka)
 have HS8:=hid (show∀i:Nat,i<8→ ∃z:Int,(#[Value.int .i64 m.x,.int .i64 m.y,.int .i64 m.ox,.int .i64 m.oy,.int .i64 p.tx,.int .i64 p.ty,.int .i64 0,.int .i64 0])[i]?=some (.int .i64 z)from by
  intro i hi
  rcases (show i=0∨i=1∨i=2∨i=3∨i=4∨i=5∨i=6∨i=7 by omega)with rfl|rfl|rfl|rfl|rfl|rfl|rfl|rfl
  all_goals exact⟨_,rfl⟩)
 generalize w3.alloc (.cells #[.int .i64 m.x,.int .i64 m.y,.int .i64 m.ox,.int .i64 m.oy,.int .i64 p.tx,.int .i64 p.ty,.int .i64 0,.int .i64 0] 3)=w4 at*
 generalize w3.heap.size=gl at*
 generalize (#[Value.int .i64 m.x,.int .i64 m.y,.int .i64 m.ox,.int .i64 m.oy,.int .i64 p.tx,.int .i64 p.ty,.int .i64 0,.int .i64 0])=ar at*
 clear m0 m1 m2 m3 d5 d6 hka BM1 BH1 HY1
 go_wp2_with fail
 go_loopw [4,6] (fun b v wr=> ∃(i n:Nat) (A:Option Addr) (c:Nat) (zs:List Int),i≤8∧v=.int .i64 i∧b=.slice A n c∧n≤2+4*i∧Hid (n=2+4*i)∧Hid (By w w.heap.size A n c zs wr)∧Hid (Blk wr gl 3 ar)∧Hid (Blk wr gm 29 #[.int .i64 m.x,.int .i64 m.y,.int .i64 m.ox,.int .i64 m.oy,.slice m.A m.n m.c])) (fun _ v _=>8-(intOf v).toNat)
 case atStart=>exact⟨0,2,A1,c1,_,by omega,rfl,rfl,by omega,hid rfl,HY2,BL2,BM2⟩
 case round=>
  clear HY2 BL2 BM2
  obtain⟨i,n,A,c,zs,hi,rfl,rfl,hn,HN,HY,BL,BM⟩:=hrel
  by_cases hi8:i<8
  · obtain⟨z,hz⟩:=HS8.out i hi8
    have hc:wr.cell? ⟨gl,i,none⟩=some (.int .i64 z):=by rw [BL.out.cell];exact hz
    clear hz
    go_wp2_with fail
    refine(put_at w _ w.heap.size A n c zs 4 z HY.out (by omega) (by omega) (by omega)).mono ?_
    rintro e w5 ⟨A5,c5,rfl,h5,hk5,_⟩
    have HY5:=hid h5
    have BL5:=hid (HY.out.far BL.out (by decide) hk5 (fun _ h=>h))
    have BM5:=hid (HY.out.far BM.out (by decide) hk5 (fun _ h=>h))
    clear h5 hk5
    go_wp2_with fail
    go_roundw
    case rel=>exact⟨i+1,n+4,A5,c5,_,by omega,by go_num,rfl,by omega,hid (by have:=HN.out;omega),HY5,BL5,BM5⟩
    case measure=>simp [intOf]<;>omega
  · obtain rfl:n=34:=by have:=HN.out;omega
    have m4:wr.cell? ⟨gm,4,none⟩=some (.slice m.A m.n m.c):=BM.out.cell 4
    go_wp2_with fail
    refine(put_at w _ w.heap.size A 34 c zs 2 m.n HY.out (by omega) (by omega) (by omega)).mono ?_
    rintro e w5 ⟨A5,c5,rfl,h5,hk5,_⟩
    have HY5:=hid h5
    have BM5:=hid (HY.out.far BM.out (by decide) hk5 (fun _ h=>h))
    clear h5 hk5 m4 HY BM BL
    go_wp2_with fail
    go_loopw [4,7] (fun b v wr=> ∃(k n:Nat) (A:Option Addr) (c:Nat) (zs:List Int),k≤m.n∧v=.int .i64 k∧b=.slice A n c∧n≤36+3*k∧Hid (n=36+3*k)∧Hid (By w w.heap.size A n c zs wr)∧Hid (Blk wr gm 29 #[.int .i64 m.x,.int .i64 m.y,.int .i64 m.ox,.int .i64 m.oy,.slice m.A m.n m.c])) (fun _ v _=>m.n-(intOf v).toNat)
    case atStart=>exact⟨0,36,A5,c5,_,by omega,rfl,rfl,by omega,hid rfl,HY5,BM5⟩
    case round=>
     clear HY5 BM5 HN
     obtain⟨k,n,A,c,zs,hk,rfl,rfl,hn,HN,HY,BM⟩:=hrel
     have m4:wr.cell? ⟨gm,4,none⟩=some (.slice m.A m.n m.c):=BM.out.cell 4
     by_cases hkm:k<m.n
     · obtain⟨b,o,C,hm,hA,c0,c1,c2,c3,c4⟩:=comp_cells (HR.out.keep0 HY.out.keep) HL.out hkm
       obtain⟨d1,d2,d3,d4,d5,d6⟩:=HC.out C hm
       rw [hA]at m4
       clear hm hA
       go_upto_region 13 with fail
       have hka:Keep (fun _=>False) wr (wr.alloc (.cells #[.int .i64 C.depth,.bool C.sg,.int .i64 C.dx,.int .i64 C.dy,.slice C.A C.n C.c] 52)):=(Keep.refl _ wr).alloc _
       have BC:=hid (Blk.new wr 52 #[.int .i64 C.depth,.bool C.sg,.int .i64 C.dx,.int .i64 C.dy,.slice C.A C.n C.c])
       have BM6:=hid (BM.out.keep hka id)
       have HY6:=hid (HY.out.keepF hka)
       generalize wr.alloc (.cells #[.int .i64 C.depth,.bool C.sg,.int .i64 C.dx,.int .i64 C.dy,.slice C.A C.n C.c] 52)=w6 at*
       generalize wr.heap.size=gc at*
       have f0:w6.drew.cell? ⟨gc,0,none⟩=some (.int .i64 C.depth):=BC.out.cell 0
       have f1:w6.drew.cell? ⟨gc,1,none⟩=some (.bool C.sg):=BC.out.cell 1
       have f2:w6.drew.cell? ⟨gc,2,none⟩=some (.int .i64 C.dx):=BC.out.cell 2
       have f3:w6.drew.cell? ⟨gc,3,none⟩=some (.int .i64 C.dy):=BC.out.cell 3
       have HY7:=hid (HY6.out.keepF ((Keep.refl (fun _=>False) w6).drew))
       have BM7:=hid (BM6.out.keep ((Keep.refl (fun _=>False) w6).drew) id)
       have nf:=hid (own_ne HY7.out.own BC.out.drew (by decide))
       have hb7:w.heap.size≤w6.heap.size:=HY6.out.b1
       clear hka c0 c1 c2 c3 c4 m4 HY BM
       refine At.start (L:=#[false,false,false,false,false,false,false,false,false,false,false,false,false,false,false,false,false,false,false]) (by kernel_rfl) rfl ?_
       refine AtP 0 (some 56) ?_
       try simp only [NS]
       refine AtP 1 (some 57) ?_
       try simp only [NS]
       first|refine AtL 2 (some 58) Tryz.underlying3 ?_|refine AtR 2 (some 58) Tryz.underlying3 ?_
       try simp only [NS]
       refine AtP 3 (some 59) ?_
       try simp only [NS]
       refine AtP 4 (some 60) ?_
       try simp only [NS]
       first|refine AtL 5 (some 61) Tryz.underlying4 ?_|refine AtR 5 (some 61) Tryz.underlying4 ?_
       try simp only [NS]
       refine AtP 10 (some 66) ?_
       try simp only [NS]
       first|refine AtL 11 (some 67) Tryz.underlying3 ?_|refine AtR 11 (some 67) Tryz.underlying3 ?_
       try simp only [NS]
       refine AtP 12 (some 68) ?_
       try simp only [NS]
       refine AtP 13 (some 69) ?_
       try simp only [NS]
       first|refine AtL 14 (some 70) Tryz.underlying3 ?_|refine AtR 14 (some 70) Tryz.underlying3 ?_
       try simp only [NS]
       refine AtP 15 (some 71) ?_
       try simp only [NS]
       refine At.call_all 6 rfl (by kernel_rfl) rfl (fun K hK=>?_)
       go_simp
       refine(bitN_any _ _).mono ?_
       rintro e w8 ⟨q,hq0,hq1,rfl,rfl⟩
       refine hK _ _ (by repeat' first|exact all_nil|refine all_cons (by assumption) ?_) ?_
       clear hK K
       try simp only [NS]
       refine AtP 7 (some 63) ?_
       try simp only [NS]
       refine AtP 8 (some 64) ?_
       try simp only [NS]
       refine AtP 9 (some 65) ?_
       try simp only [NS]
       refine AtC 16 fun K hK=>?_
       go_simp
       skip
       refine hK _ _ all_nil ?_
       clear hK K
       try simp only [NS]
       refine AtC 17 fun K hK=>?_
       refine wp_push (w:=w6.drew) (.tmp 56) (.tmp 72) rfl HY7.out [IntKind.u8.wrap _,IntKind.u8.wrap _,IntKind.u8.wrap _] (by intro z hz;simp only [List.mem_cons,List.not_mem_nil,or_false]at hz;rcases hz with rfl|rfl|rfl<;>exact u8_lim _) 3 rfl rfl rfl (by omega) ?_
       intro A9 c9 w9 hY9 hk9
       show K (Act.put _ (some 73) _) _
       have HY9:=hid hY9
       have BM9:=hid (HY7.out.far BM7.out (by decide) hk9 (fun _ h=>h))
       clear hY9
       refine hK _ _ all_nil ?_
       clear hK K
       try simp only [NS]
       refine AtP 18 (some 4) ?_
       try simp only [NS]
       refine At.done (by kernel_rfl) ?_
       go_wp2_with fail
       go_roundw
       case rel=>exact⟨k+1,n+3,A9,c9,_,by omega,by go_num,rfl,by omega,hid (by have:=HN.out;omega),HY9,BM9⟩
       case measure=>simp [intOf]<;>omega
     · have HZ:=hid (show BytesN (36+3*m.n) w (.returned (.slice A n c)) wr from by
        obtain rfl:k=m.n:=by omega
        rw [← HN.out]
        exact⟨A,c,zs,rfl,HY.out⟩)
       go_wp2_with fail
       go_ret
       exact HZ.out
theorem own_apart {w:World} {base base':Nat} {e e':TypeId} {size size' n n':Nat} {v v':Value} {xs xs':List Value} (h:w.ownsRow base e size v n xs) (h':w.ownsRow base' e' size' v' n' xs') (hne:e'≠e): ∀k,v.ownBlock=some k→ ¬v'.ownBlock=some k:=by
 intro k hk
 rcases h.2 with⟨rfl,_⟩|⟨g,cap,cur,rfl,_,hg,_⟩
 · simp [Value.ownBlock]at hk
 · simp [Value.ownBlock]at hk
   subst hk
   exact own_ne h' (show Blk w g e cur from hg) hne
theorem two_bytes {a b:Int}:Bytes [IntKind.u8.wrap a,IntKind.u8.wrap b]:=by
 intro z hz
 simp only [List.mem_cons,List.not_mem_nil,or_false]at hz
 rcases hz with rfl|rfl<;>exact u8_lim _
theorem ways_any (w:World) (p:Pm) (hL:p.lev≤5):
 Calls Tryz.prog 36 #[.agg p.cells] w (BytesN (11+p.lev) w):=by
 have HPC:=hid (show p.cells=#[.int .i64 p.tx,.int .i64 p.ty,.int .i64 p.lev,.int .i64 p.cbw,.int .i64 p.cbh,.int .i64 p.prec,.int .i64 p.style,.int .i64 p.order,.int .i64 p.lay,.bool p.rct,.bool p.sop,.bool p.eph]from rfl)
 have HB0:=hid (Blk.new w 31 p.cells)
 have HK0:=hid ((Keep.refl (fun _=>False) w).alloc (.cells p.cells 31))
 go_enter Tryz.func36,Tryz.ntmps36
 go_upto_region 1 with fail
 generalize w.alloc (.cells p.cells 31)=w1 at*
 have p10:w1.drew.cell? ⟨w.heap.size,10,none⟩=some (.bool p.sop):=by rw [HB0.out.drew.cell,HPC.out];rfl
 have p11:w1.drew.cell? ⟨w.heap.size,11,none⟩=some (.bool p.eph):=by rw [HB0.out.drew.cell,HPC.out];rfl
 have p7:w1.drew.cell? ⟨w.heap.size,7,none⟩=some (.int .i64 p.order):=by rw [HB0.out.drew.cell,HPC.out];rfl
 have hb1:w.heap.size≤w1.heap.size:=HK0.out.size
 go_cut [3] (fun v wx=> ∃(A:Option Addr) (c:Nat) (zs:List Int),v=.slice A 2 c∧Hid (By w w.heap.size A 2 c zs wx)∧Hid (Blk wx w.heap.size 31 p.cells))
 case first=>
  refine At.start (L:=#[false,false,false,false,false,false,false,false,false,false,false,false,false,false,false,false]) (by kernel_rfl) rfl ?_
  refine AtP 0 (some 5) ?_
  try simp only [NS]
  first|refine AtL 1 (some 6) Tryz.underlying4 ?_|refine AtR 1 (some 6) Tryz.underlying4 ?_
  try simp only [NS]
  refine AtP 5 (some 10) ?_
  try simp only [NS]
  first|refine AtL 6 (some 11) Tryz.underlying4 ?_|refine AtR 6 (some 11) Tryz.underlying4 ?_
  try simp only [NS]
  refine AtP 11 (some 16) ?_
  try simp only [NS]
  first|refine AtL 12 (some 17) Tryz.underlying3 ?_|refine AtR 12 (some 17) Tryz.underlying3 ?_
  try simp only [NS]
  refine AtP 13 (some 18) ?_
  try simp only [NS]
  refine At.call_all 2 rfl (by kernel_rfl) rfl (fun K hK=>?_)
  go_simp
  refine(bitN_any _ _).mono ?_
  rintro e w8 ⟨q,hq0,hq1,rfl,rfl⟩
  refine hK _ _ (by repeat' first|exact all_nil|refine all_cons (by assumption) ?_) ?_
  clear hK K
  try simp only [NS]
  refine AtP 3 (some 8) ?_
  try simp only [NS]
  refine AtP 4 (some 9) ?_
  try simp only [NS]
  refine At.call_all 7 rfl (by kernel_rfl) rfl (fun K hK=>?_)
  go_simp
  refine(bitN_any _ _).mono ?_
  rintro e w8 ⟨r,hr0,hr1,rfl,rfl⟩
  refine hK _ _ (by repeat' first|exact all_nil|refine all_cons (by assumption) ?_) ?_
  clear hK K
  try simp only [NS]
  refine AtP 8 (some 13) ?_
  try simp only [NS]
  refine AtP 9 (some 14) ?_
  try simp only [NS]
  refine AtP 10 (some 15) ?_
  try simp only [NS]
  refine AtC 14 fun K hK=>?_
  go_simp
  skip
  refine hK _ _ all_nil ?_
  clear hK K
  try simp only [NS]
  refine AtP 15 (some 3) ?_
  try simp only [NS]
  refine At.done (by kernel_rfl) ?_
  have HYN:=fun (a b:Int)=>(show By w w.heap.size (some ⟨w1.heap.size,0,none⟩) 2 2 [IntKind.u8.wrap a,IntKind.u8.wrap b] ((w1.alloc (.cells #[.int .u8 (IntKind.u8.wrap a),.int .u8 (IntKind.u8.wrap b)] 5)).drew)from
   ⟨own_new w1.drew w.heap.size 5 #[.int .u8 (IntKind.u8.wrap a),.int .u8 (IntKind.u8.wrap b)] 2 rfl (by simp only [maxLen];omega) hb1,(HK0.out.alloc _).drew,two_bytes,Nat.le_refl _,by have:=(HK0.out.alloc (.cells #[.int .u8 (IntKind.u8.wrap a),.int .u8 (IntKind.u8.wrap b)] 5)).size;exact this⟩)
  have HPN:=fun (a b:Int)=>(show Blk ((w1.alloc (.cells #[.int .u8 (IntKind.u8.wrap a),.int .u8 (IntKind.u8.wrap b)] 5)).drew) w.heap.size 31 p.cells from(HB0.out.alloc _).drew)
  go_wp2_with fail
  go_meet
  exact⟨_,_,_,rfl,hid (HYN _ _),hid (HPN _ _)⟩
 case rest=>
  obtain⟨A1,c1,z1,rfl,HY,HP⟩:=hcut
  clear p10 p11 p7 HB0 HK0 hb1
  rename World=>wx
  have p8:wx.cell? ⟨w.heap.size,8,none⟩=some (.int .i64 p.lay):=by rw [HP.out.cell,HPC.out];rfl
  go_wp2_with fail
  refine(put_at w _ w.heap.size _ 2 _ _ 2 p.lay HY.out (by omega) (by omega) (by omega)).mono ?_
  rintro e w2 ⟨A2,c2,rfl,h2,hk2,_⟩
  have HY2:=hid h2
  have HP2:=hid (HY.out.far HP.out (by decide) hk2 (fun _ h=>h))
  have q9:w2.drew.cell? ⟨w.heap.size,9,none⟩=some (.bool p.rct):=by rw [HP2.out.drew.cell,HPC.out];rfl
  have q2:w2.drew.cell? ⟨w.heap.size,2,none⟩=some (.int .i64 p.lev):=by rw [HP2.out.drew.cell,HPC.out];rfl
  have q3:w2.drew.cell? ⟨w.heap.size,3,none⟩=some (.int .i64 p.cbw):=by rw [HP2.out.drew.cell,HPC.out];rfl
  have q4:w2.drew.cell? ⟨w.heap.size,4,none⟩=some (.int .i64 p.cbh):=by rw [HP2.out.drew.cell,HPC.out];rfl
  have q6:w2.drew.cell? ⟨w.heap.size,6,none⟩=some (.int .i64 p.style):=by rw [HP2.out.drew.cell,HPC.out];rfl
  have HY3:=hid (HY2.out.keepF ((Keep.refl (fun _=>False) w2).drew))
  have nf:=hid (own_ne HY3.out.own HP2.out.drew (by decide))
  clear h2 hk2 p8 HP HY
  go_upto_region 3 with fail
  go_cut [3] (fun v wx=> ∃(A:Option Addr) (c:Nat) (zs:List Int),v=.slice A 10 c∧Hid (By w w.heap.size A 10 c zs wx)∧Hid (Blk wx w.heap.size 31 p.cells))
  case first=>
   refine At.start (L:=#[false,false,false,false,false,false,false,false,false,false,false,false,false,false,false,false,false,false,false,false,false,false]) (by kernel_rfl) rfl ?_
   refine AtP 0 (some 24) ?_
   try simp only [NS]
   refine AtP 1 (some 25) ?_
   try simp only [NS]
   first|refine AtL 2 (some 26) Tryz.underlying4 ?_|refine AtR 2 (some 26) Tryz.underlying4 ?_
   try simp only [NS]
   refine AtP 5 (some 29) ?_
   try simp only [NS]
   first|refine AtL 6 (some 30) Tryz.underlying3 ?_|refine AtR 6 (some 30) Tryz.underlying3 ?_
   try simp only [NS]
   refine AtP 7 (some 31) ?_
   try simp only [NS]
   refine AtP 8 (some 32) ?_
   try simp only [NS]
   first|refine AtL 9 (some 33) Tryz.underlying3 ?_|refine AtR 9 (some 33) Tryz.underlying3 ?_
   try simp only [NS]
   refine AtP 10 (some 34) ?_
   try simp only [NS]
   refine AtP 11 (some 35) ?_
   try simp only [NS]
   refine AtP 12 (some 36) ?_
   try simp only [NS]
   first|refine AtL 13 (some 37) Tryz.underlying3 ?_|refine AtR 13 (some 37) Tryz.underlying3 ?_
   try simp only [NS]
   refine AtP 14 (some 38) ?_
   try simp only [NS]
   refine AtP 15 (some 39) ?_
   try simp only [NS]
   refine AtP 16 (some 40) ?_
   try simp only [NS]
   first|refine AtL 17 (some 41) Tryz.underlying3 ?_|refine AtR 17 (some 41) Tryz.underlying3 ?_
   try simp only [NS]
   refine AtP 18 (some 42) ?_
   try simp only [NS]
   refine At.call_all 3 rfl (by kernel_rfl) rfl (fun K hK=>?_)
   go_simp
   refine(bitN_any _ _).mono ?_
   rintro e w8 ⟨r,hr0,hr1,rfl,rfl⟩
   refine hK _ _ (by repeat' first|exact all_nil|refine all_cons (by assumption) ?_) ?_
   clear hK K
   try simp only [NS]
   refine AtP 4 (some 28) ?_
   try simp only [NS]
   refine AtC 19 fun K hK=>?_
   go_simp
   skip
   refine hK _ _ all_nil ?_
   clear hK K
   try simp only [NS]
   refine AtC 20 fun K hK=>?_
   refine wp_push (w:=w2.drew) (.tmp 24) (.tmp 43) rfl HY3.out [IntKind.u8.wrap _,IntKind.u8.wrap _,IntKind.u8.wrap _,IntKind.u8.wrap _,IntKind.u8.wrap _,1] (by intro z hz;simp only [List.mem_cons,List.not_mem_nil,or_false]at hz;rcases hz with rfl|rfl|rfl|rfl|rfl|rfl<;>first|exact u8_lim _|omega) 6 rfl rfl rfl (by omega) ?_
   intro A9 c9 w9 hY9 hk9
   show K (Act.put _ (some 44) _) _
   have HY9:=hid hY9
   have HP9:=hid (HY3.out.far HP2.out.drew (by decide) hk9 (fun _ h=>h))
   clear hY9
   refine hK _ _ all_nil ?_
   clear hK K
   try simp only [NS]
   refine AtP 21 (some 3) ?_
   try simp only [NS]
   refine At.done (by kernel_rfl) ?_
   go_wp2_with fail
   go_meet
   exact⟨_,_,_,rfl,HY9,HP9⟩
  case rest=>
   obtain⟨A9,c9,z9,rfl,HY9,HP9⟩:=hcut
   clear q9 q2 q3 q4 q6 HY2 HP2 HY3 nf
   go_wp2_with fail
   go_loopw [3,4] (fun b v wr=> ∃(k n:Nat) (A:Option Addr) (c:Nat) (zs:List Int),k≤p.lev+1∧v=.int .i64 k∧b=.slice A n c∧n≤10+k∧Hid (n=10+k)∧Hid (By w w.heap.size A n c zs wr)∧Hid (Blk wr w.heap.size 31 p.cells)) (fun _ v _=>p.lev+1-(intOf v).toNat)
   case atStart=>exact⟨0,10,A9,c9,_,by omega,rfl,rfl,by omega,hid rfl,HY9,HP9⟩
   case round=>
    clear HY9 HP9
    obtain⟨k,n,A,c,zs,hk,rfl,rfl,hn,HN,HY,HP⟩:=hrel
    have s2:wr.cell? ⟨w.heap.size,2,none⟩=some (.int .i64 p.lev):=by rw [HP.out.cell,HPC.out];rfl
    have s5:wr.cell? ⟨w.heap.size,5,none⟩=some (.int .i64 p.prec):=by rw [HP.out.cell,HPC.out];rfl
    by_cases hkl:k<p.lev+1
    · have hk9:k≤9:=by omega
      go_wp2_with (
       at_builtin
       go_must (refine wpList_push (w:=wr) rfl (.tmp 51) (.tmp 56) rfl HY.out [_] (by intro z hz;rw [List.mem_singleton]at hz;rw [hz];first|omega|exact u8_lim _) 1 rfl rfl rfl (by omega) ?_)
       intro A5 c5 w5 hY5 hk5
       have HY5:=hid hY5
       have HP5:=hid (HY.out.far HP.out (by decide) hk5 (fun _ h=>h))
       clear hY5 hk5)
      go_roundw
      case rel=>exact⟨k+1,n+1,A5,c5,_,by omega,by go_num,rfl,by omega,hid (by have:=HN.out;omega),HY5,HP5⟩
      case measure=>simp [intOf]<;>omega
    · have HZ:=hid (show BytesN (11+p.lev) w (.returned (.slice A n c)) wr from by
       have e:n=11+p.lev:=by have:=HN.out;omega
       rw [← e]
       exact⟨A,c,zs,rfl,HY.out⟩)
      go_wp2_with fail
      go_ret
      exact HZ.out
theorem steps_any (w:World) (m:Im) (p:Pm) (RA:Option Addr) (rn rc:Nat) (cs:List Cm) (hcs:RdS w m.A m.n 5 (cms cs)) (hl:cs.length=m.n) (hC: ∀c∈cs,c.depth≤10) (hn4:m.n≤4) (hL:p.lev≤5):
 Calls Tryz.prog 37 #[.agg (hcells m p RA rn rc)] w (BytesN (2+3*p.lev) w):=by
 have EX:=hid (fun w (h:RdS w m.A m.n 5 (cms cs))=>expo_any w m p cs h hl hC hn4 hL)
 have HR:=hid hcs
 have HB0:=hid (Blk.new w 58 (hcells m p RA rn rc))
 have HK0:=hid ((Keep.refl (fun _=>False) w).alloc (.cells (hcells m p RA rn rc) 58))
 clear hcs hl hC
 go_enter Tryz.func37,Tryz.ntmps37
 go_upto_region 1 with fail
 generalize w.alloc (.cells (hcells m p RA rn rc) 58)=w1 at*
 have hb1:w.heap.size≤w1.heap.size:=HK0.out.size
 go_upto_region 2 with fail
 have HY:=hid (show By w w.heap.size (some ⟨w1.heap.size,0,none⟩) 1 1 [96] (w1.alloc (.cells #[.int .u8 96] 5))from
  ⟨own_new w1 w.heap.size 5 #[.int .u8 96] 1 rfl (by simp only [maxLen];omega) hb1,HK0.out.alloc _,by intro z hz;rw [List.mem_singleton]at hz;omega,Nat.le_refl _,(HK0.out.alloc _).size⟩)
 have HB1:=hid (HB0.out.alloc (.cells #[.int .u8 96] 5))
 generalize w1.alloc (.cells #[.int .u8 96] 5)=w2 at*
 generalize w1.heap.size=g1 at*
 have HM:=hid (hrange_m HB1.out)
 have HP:=hid (hrange_p HB1.out)
 go_wp2_with (first|(refine wpList_load_mid rfl 29 (.tmp 7) rfl _ _ rfl _ _ HM.out Tryz.underlying29 rfl (by kernel_rfl) ?_)|(refine wpList_load_mid rfl 31 (.tmp 9) rfl _ _ rfl _ _ HP.out Tryz.underlying31 rfl (by kernel_rfl) ?_))
 refine(EX.out _ (HR.out.keep0 HY.out.keep)).mono ?_
 rintro e w3 ⟨X,cX,xs,rfl,hxl,hxb,hcX,hxo,hk⟩
 have HX:=hid (Rd.of_own hxo)
 have HXT:=hid hxo
 have HY3:=hid (HY.out.keepF hk)
 have HXL:=hid hxl
 have HB3:=hid (show∀a,X=some a→w2.heap.size≤a.block from fun a e=>(hxo.lt a.block (by rw [e];rfl)).1)
 have HB4:=hid (show∀a,some (⟨g1,0,none⟩:Addr)=some a→a.block<w2.heap.size from fun a e=>HY.out.lt e)
 clear hxo hxb hxl HM HP HB0 HB1 HK0 HY
 obtain⟨kn,hkn⟩: ∃kn,1+3*p.lev=kn:=⟨_,rfl⟩
 rw [hkn]at HX HXL HXT hcX ⊢
 have hkn16:kn≤16:=by omega
 have HKN:=hid hkn
 clear hkn
 go_wp2_with fail
 go_loopw [3,5] (fun b v wr=> ∃(k n:Nat) (A:Option Addr) (c:Nat) (zs:List Int),k≤kn∧v=.int .i64 k∧b=.slice A n c∧n≤1+k∧Hid (n=1+k)∧Hid (By w w.heap.size A n c zs wr)∧Hid (wr.ownsRow w2.heap.size 3 1 (.slice X kn cX) kn (xs.map (Value.int .i64)))) (fun _ v _=>kn-(intOf v).toNat)
 case atStart=>exact⟨0,1,_,1,_,by omega,rfl,rfl,by omega,hid rfl,HY3,HXT⟩
 case round=>
  clear HY3 HXT HX
  obtain⟨k,n,A,c,zs,hk,rfl,rfl,hn,HN,HY,HX⟩:=hrel
  by_cases hkl:k<kn
  · obtain⟨ad,z,hA,hcz⟩:=(Rd.of_own HX.out).int hkl
    subst hA
    go_wp2_with (
     at_builtin
     go_must (refine wpList_push (w:=wr) rfl (.tmp 18) (.tmp 25) rfl HY.out [_] (by intro z hz;rw [List.mem_singleton]at hz;rw [hz];first|omega|exact u8_lim _) 1 rfl rfl rfl (by omega) ?_)
     intro A5 c5 w5 hY5 hk5
     have HY5:=hid hY5
     have HX5:=hid (own_keep HX.out hk5 (own_apart HX.out HY.out.own (by decide)))
     clear hY5 hk5)
    go_roundw
    case rel=>exact⟨k+1,n+1,A5,c5,_,by omega,by go_num,rfl,by omega,hid (by have:=HN.out;omega),HY5,HX5⟩
    case measure=>simp [intOf]<;>omega
  · have HZ:=hid (show BytesN (2+3*p.lev) w (.returned (.slice A n c)) wr from by
     have e:n=2+3*p.lev:=by have:=HN.out;have:=HKN.out;omega
     rw [← e]
     exact⟨A,c,zs,rfl,HY.out⟩)
    go_wp2_with fail
    go_ret
    exact HZ.out
end Go.Proofs.YthfogcgdijmaoaaGreat
