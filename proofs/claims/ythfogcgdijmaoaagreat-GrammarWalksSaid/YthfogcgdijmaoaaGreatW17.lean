/-
  Part 17 of the proof: Sizes Ways SBits. Conditions: those of the statements.
-/
import Derived.Test.YthfogcgdijmaoaaGreatW2
import Derived.Test.YthfogcgdijmaoaaGreatW5
import Derived.Test.YthfogcgdijmaoaaGreatW16
import Derived.Deep.DeepCutAuto
import Derived.Deep.QuietTactic
import Derived.BigQuiet
set_option maxRecDepth 100000
set_option maxHeartbeats 16000000
set_option linter.unusedVariables false
set_option linter.unusedSimpArgs false
namespace Go.Proofs.YthfogcgdijmaoaaGreat
open Go.RowKit
def hcells (m:Im) (p:Pm) (A:Option Addr) (n c:Nat):Array Value:=#[.int .i64 m.x,.int .i64 m.y,.int .i64 m.ox,.int .i64 m.oy,.slice m.A m.n m.c,.int .i64 p.tx,.int .i64 p.ty,.int .i64 p.lev,.int .i64 p.cbw,.int .i64 p.cbh,.int .i64 p.prec,.int .i64 p.style,.int .i64 p.order,.int .i64 p.lay,.bool p.rct,.bool p.sop,.bool p.eph,.slice A n c]
theorem hrange_m {w:World} {g:Nat} {t:TypeId} {m:Im} {p:Pm} {A:Option Addr} {n c:Nat} (h:Blk w g t (hcells m p A n c)):w.rangeAt g 0 m.cells.toList:=fun j v hj=>by
 have hj4:j<5:=(List.getElem?_eq_some_iff.1 hj).1
 rw [Nat.zero_add,h.cell,←hj]
 rcases (show j=0∨j=1∨j=2∨j=3∨j=4 by omega)with rfl|rfl|rfl|rfl|rfl<;>rfl
theorem hrange_p {w:World} {g:Nat} {t:TypeId} {m:Im} {p:Pm} {A:Option Addr} {n c:Nat} (h:Blk w g t (hcells m p A n c)):w.rangeAt g 5 p.cells.toList:=fun j v hj=>by
 have hj4:j<12:=(List.getElem?_eq_some_iff.1 hj).1
 rw [h.cell,←hj]
 rcases (show j=0∨j=1∨j=2∨j=3∨j=4∨j=5∨j=6∨j=7∨j=8∨j=9∨j=10∨j=11 by omega)with rfl|rfl|rfl|rfl|rfl|rfl|rfl|rfl|rfl|rfl|rfl|rfl<;>rfl
def BytesN (k:Nat) (w:World) (e:Ending) (w':World):Prop:= ∃A c zs,e=.returned (.slice A k c)∧By w w.heap.size A k c zs w'
theorem By.push {w0 w w':World} {base n c k c':Nat} {A A':Option Addr} {zs ys:List Int} {o:Obj} (h:By w0 base A n c zs w) (hy:Bytes ys) (ho:w'.ownsRow base 5 1 (.slice A' (n+k) c') (n+k) (zs.map (Value.int .u8)++ys.map (Value.int .u8))) (hg:(w.alloc o).grownBy w' (Value.slice A n c).ownBlock):By w0 base A' (n+k) c' (zs++ys) w':=by
 have hk:Keep (fun i=>(Value.slice A n c).ownBlock=some i) w w':=((Keep.refl _ w).alloc o).grown hg (fun k hk=>.inl hk)
 exact⟨by rw [List.map_append];exact ho,keep_app h.keep h.own h.b0 hk,h.bytes.app hy,h.b0,Nat.le_trans h.b1 hk.size⟩
theorem u8_lim (x:Int):0≤IntKind.u8.wrap x∧IntKind.u8.wrap x≤255:=by
 have e:IntKind.u8.wrap x=x%256:=by simp [IntKind.wrap,IntKind.signed,IntKind.bits]
 rw [e]
 have h1:=Int.emod_nonneg x (show(256:Int)≠0 by omega)
 have h2:=Int.emod_lt_of_pos x (show(0:Int)<256 by omega)
 omega
theorem wp_push {o:Oper} {a:Act} {w0 w:World} {K:Act→World→Prop} {Q:Exit→Act→World→Prop} {base:Nat} {A:Option Addr} {n c:Nat} {zs:List Int} (s x:Operand)
 (ho:o.op=.call { callee:=.builtin .append,args:=#[s,x],argTypes:=#[25,25] }) (hY:By w0 base A n c zs w) (ys:List Int) (hy:Bytes ys) (k:Nat) (hk:ys.length=k) (hs:a.eval s=.slice A n c) (hx:a.eval x=.slice (some ⟨w.heap.size,0,none⟩) k k) (hn:n+k≤70368744177664)
 (h: ∀A' c' w',By w0 base A' (n+k) c' (zs++ys) w'→Keep (fun i=>(Value.slice A n c).ownBlock=some i) w w'→K (a.put o.dst (.slice A' (n+k) c')) w'):o.wp Tryz.prog a (w.alloc (.cells (ys.map (Value.int .u8)).toArray 5)) K Q:=by
 obtain⟨i0,hi0,hz0,hz1,hz2⟩:=info_parts info_u8
 have hnew:=own_new w base 5 (ys.map (Value.int .u8)).toArray k (by simp [hk]) (by simp only [maxLen];omega) hY.b1
 refine wp_append_src _ s x 25 ho base 5 i0 _ 1 Tryz.underlying25 hi0 hz0 hz1 hz2 rfl _ n _ hs (own_keepF hY.own ((Keep.refl _ w).alloc _)) _ k k (ys.map (Value.int .u8)) hx (Rd.of_own (by simpa using hnew)) (oneCell_ints _ _) (by simp only [maxLen];omega) (by omega) (by have:=hY.b1;simp;omega) ?_
 intro v' w' h1 h2 h3 _
 obtain⟨A',c',rfl⟩:=own_form h1
 exact h A' c' w' (hY.push hy h1 h2) (((Keep.refl _ w).alloc _).grown h2 (fun k hk=>.inl hk))
theorem wpList_push {o:Oper} {ops:Array Oper} {rest:List Oper} {a:Act} {w0 w:World} {Q:Exit→Act→World→Prop} {base:Nat} {A:Option Addr} {n c:Nat} {zs:List Int} (hgd:o.guard=none) (s x:Operand)
 (ho:o.op=.call { callee:=.builtin .append,args:=#[s,x],argTypes:=#[25,25] }) (hY:By w0 base A n c zs w) (ys:List Int) (hy:Bytes ys) (k:Nat) (hk:ys.length=k) (hs:a.eval s=.slice A n c) (hx:a.eval x=.slice (some ⟨w.heap.size,0,none⟩) k k) (hn:n+k≤70368744177664)
 (h: ∀A' c' w',By w0 base A' (n+k) c' (zs++ys) w'→Keep (fun i=>(Value.slice A n c).ownBlock=some i) w w'→wpList Tryz.prog ops Q rest (a.put o.dst (.slice A' (n+k) c')) w'):wpList Tryz.prog ops Q (o::rest) a (w.alloc (.cells (ys.map (Value.int .u8)).toArray 5)):=
 wpList_plain hgd fun _ hK=>wp_push s x ho hY ys hy k hk hs hx hn fun A' c' w' h1 h2=>hK _ _ (h A' c' w' h1 h2)
theorem By.far {w0 w w':World} {base n c:Nat} {A:Option Addr} {zs:List Int} (h:By w0 base A n c zs w) {g:Nat} {t:TypeId} {cs:Array Value} (hg:Blk w g t cs) (hne:5≠t) {S:Nat→Prop} (hk:Keep S w w') (hS: ∀k,S k→(Value.slice A n c).ownBlock=some k):Blk w' g t cs:=hg.keep hk (fun hs=>own_ne h.own hg hne (hS _ hs))
theorem By.start {w0 w:World} (hk:Keep (fun _=>False) w0 w):By w0 w0.heap.size none 0 0 [] w:=⟨World.ownsRow_nil _ _ _ _,hk,fun _ h=>(by cases h),Nat.le_refl _,hk.size⟩
theorem sizes_any (w:World) (m:Im) (p:Pm) (RA:Option Addr) (rn rc:Nat) (cs:List Cm) (hcs:RdS w m.A m.n 5 (cms cs)) (hl:cs.length=m.n) (hn4:m.n≤4) (hC: ∀c∈cs,CmOk c):
 Calls Tryz.prog 35 #[.agg (hcells m p RA rn rc)] w (BytesN (36+3*m.n) w):=by
 obtain⟨i0,hi0,hz0,hz1,hz2⟩:=info_parts info_u8
 have HR:=hid hcs
 have HL:=hid hl
 have HC:=hid hC
 have HB0:=hid (Blk.new w 58 (hcells m p RA rn rc))
 have HK0:=hid ((Keep.refl (fun _=>False) w).alloc (.cells (hcells m p RA rn rc) 58))
 have HMC:=hid (show m.cells=#[.int .i64 m.x,.int .i64 m.y,.int .i64 m.ox,.int .i64 m.oy,.slice m.A m.n m.c]from rfl)
 clear hcs hl hC
 go_enter Tryz.func35,Tryz.ntmps35
 go_upto_region 1 with fail
 generalize w.alloc (.cells (hcells m p RA rn rc) 58)=w1 at*
 have HM:=hid (hrange_m HB0.out)
 unfold Im.cells at HM
 go_upto_region 2 with(refine wpList_load_mid rfl 29 (.tmp 9) rfl _ _ rfl _ _ HM.out Tryz.underlying29 rfl (by kernel_rfl) ?_)
 have BH:=hid (HB0.out.alloc (.cells #[.int .i64 m.x,.int .i64 m.y,.int .i64 m.ox,.int .i64 m.oy,.slice m.A m.n m.c] 29))
 have BM:=hid (Blk.new w1 29 #[.int .i64 m.x,.int .i64 m.y,.int .i64 m.ox,.int .i64 m.oy,.slice m.A m.n m.c])
 have HK1:=hid (HK0.out.alloc (.cells #[.int .i64 m.x,.int .i64 m.y,.int .i64 m.ox,.int .i64 m.oy,.slice m.A m.n m.c] 29))
 generalize w1.alloc (.cells #[.int .i64 m.x,.int .i64 m.y,.int .i64 m.ox,.int .i64 m.oy,.slice m.A m.n m.c] 29)=w2 at*
 generalize w1.heap.size=gm at*
 have HY0:=hid (By.start HK1.out)
 clear HB0 HK0 HM
 go_wp2_with fail
 refine(put_at w w2 w.heap.size none 0 0 [] 2 0 HY0.out (by omega) (by omega) (by omega)).mono ?_
 rintro e w3 ⟨A1,c1,rfl,h1,hk1,_⟩
 have BM1:=hid (HY0.out.far BM.out (by decide) hk1 (fun _ h=>h))
 have BH1:=hid (HY0.out.far BH.out (by decide) hk1 (fun _ h=>h))
 rw [Nat.zero_add]at h1 ⊢
 have HY1:=hid h1
 have m0:w3.cell? ⟨gm,0,none⟩=some (.int .i64 m.x):=BM1.out.cell 0
 have m1:w3.cell? ⟨gm,1,none⟩=some (.int .i64 m.y):=BM1.out.cell 1
 have m2:w3.cell? ⟨gm,2,none⟩=some (.int .i64 m.ox):=BM1.out.cell 2
 have m3:w3.cell? ⟨gm,3,none⟩=some (.int .i64 m.oy):=BM1.out.cell 3
 have d5:w3.cell? ⟨w.heap.size,5,none⟩=some (.int .i64 p.tx):=BH1.out.cell 5
 have d6:w3.cell? ⟨w.heap.size,6,none⟩=some (.int .i64 p.ty):=BH1.out.cell 6
 clear h1 hk1 HY0 BM BH HK1
 go_upto_region 4 with fail
 have BL2:=hid (Blk.new w3 3 #[.int .i64 m.x,.int .i64 m.y,.int .i64 m.ox,.int .i64 m.oy,.int .i64 p.tx,.int .i64 p.ty,.int .i64 0,.int .i64 0])
 have hka:Keep (fun _=>False) w3 (w3.alloc (.cells #[.int .i64 m.x,.int .i64 m.y,.int .i64 m.ox,.int .i64 m.oy,.int .i64 p.tx,.int .i64 p.ty,.int .i64 0,.int .i64 0] 3)):=(Keep.refl _ w3).alloc _
 have BM2:=hid (BM1.out.keep hka id)
 have HY2:=hid (HY1.out.keepF hka)
 have HS8:=hid (show∀i:Nat,i<8→ ∃z:Int,(#[Value.int .i64 m.x,.int .i64 m.y,.int .i64 m.ox,.int .i64 m.oy,.int .i64 p.tx,.int .i64 p.ty,.int .i64 0,.int .i64 0])[i]? =some (.int .i64 z)from by
  intro i hi
  rcases (show i=0∨i=1∨i=2∨i=3∨i=4∨i=5∨i=6∨i=7 by omega)with rfl|rfl|rfl|rfl|rfl|rfl|rfl|rfl
  all_goals exact⟨_,rfl⟩)
 generalize w3.alloc (.cells #[.int .i64 m.x,.int .i64 m.y,.int .i64 m.ox,.int .i64 m.oy,.int .i64 p.tx,.int .i64 p.ty,.int .i64 0,.int .i64 0] 3)=w4 at*
 generalize w3.heap.size=gl at*
 generalize (#[Value.int .i64 m.x,.int .i64 m.y,.int .i64 m.ox,.int .i64 m.oy,.int .i64 p.tx,.int .i64 p.ty,.int .i64 0,.int .i64 0])=ar at*
 clear m0 m1 m2 m3 d5 d6 hka BM1 BH1 HY1
 go_wp2_with fail
 go_loopw [4,6] (fun b v wr=> ∃(i n:Nat) (A:Option Addr) (c:Nat) (zs:List Int),i≤8∧v=.int .i64 i∧b=.slice A n c∧n≤2+4*i∧Hid (n=2+4*i)∧Hid (By w w.heap.size A n c zs wr)∧Hid (Blk wr gl 3 ar)∧Hid (Blk wr gm 29 #[.int .i64 m.x,.int .i64 m.y,.int .i64 m.ox,.int .i64 m.oy,.slice m.A m.n m.c])) (fun _ v _=>8-(intOf v).toNat)
 case atStart=>exact⟨0,2,A1,c1,_,by omega,rfl,rfl,by omega,hid rfl,HY2,BL2,BM2⟩
 case round=>
  clear HY2 BL2 BM2
  obtain⟨i,n,A,c,zs,hi,rfl,rfl,hn,HN,HY,BL,BM⟩:=hrel
  by_cases hi8:i<8
  · obtain⟨z,hz⟩:=HS8.out i hi8
    have hc:wr.cell? ⟨gl,i,none⟩=some (.int .i64 z):=by rw [BL.out.cell];exact hz
    clear hz
    go_wp2_with fail
    refine(put_at w _ w.heap.size A n c zs 4 z HY.out (by omega) (by omega) (by omega)).mono ?_
    rintro e w5 ⟨A5,c5,rfl,h5,hk5,_⟩
    have HY5:=hid h5
    have BL5:=hid (HY.out.far BL.out (by decide) hk5 (fun _ h=>h))
    have BM5:=hid (HY.out.far BM.out (by decide) hk5 (fun _ h=>h))
    clear h5 hk5
    go_wp2_with fail
    go_roundw
    case rel=>exact⟨i+1,n+4,A5,c5,_,by omega,by go_num,rfl,by omega,hid (by have:=HN.out;omega),HY5,BL5,BM5⟩
    case measure=>simp [intOf]<;>omega
  · obtain rfl:n=34:=by have:=HN.out;omega
    have m4:wr.cell? ⟨gm,4,none⟩=some (.slice m.A m.n m.c):=BM.out.cell 4
    go_wp2_with fail
    refine(put_at w _ w.heap.size A 34 c zs 2 m.n HY.out (by omega) (by omega) (by omega)).mono ?_
    rintro e w5 ⟨A5,c5,rfl,h5,hk5,_⟩
    have HY5:=hid h5
    have BM5:=hid (HY.out.far BM.out (by decide) hk5 (fun _ h=>h))
    clear h5 hk5 m4 HY BM BL
    go_wp2_with fail
    go_loopw [4,7] (fun b v wr=> ∃(k n:Nat) (A:Option Addr) (c:Nat) (zs:List Int),k≤m.n∧v=.int .i64 k∧b=.slice A n c∧n≤36+3*k∧Hid (n=36+3*k)∧Hid (By w w.heap.size A n c zs wr)∧Hid (Blk wr gm 29 #[.int .i64 m.x,.int .i64 m.y,.int .i64 m.ox,.int .i64 m.oy,.slice m.A m.n m.c])) (fun _ v _=>m.n-(intOf v).toNat)
    case atStart=>exact⟨0,36,A5,c5,_,by omega,rfl,rfl,by omega,hid rfl,HY5,BM5⟩
    case round=>
     clear HY5 BM5 HN
     obtain⟨k,n,A,c,zs,hk,rfl,rfl,hn,HN,HY,BM⟩:=hrel
     have m4:wr.cell? ⟨gm,4,none⟩=some (.slice m.A m.n m.c):=BM.out.cell 4
     by_cases hkm:k<m.n
     · obtain⟨b,o,C,hm,hA,c0,c1,c2,c3,c4⟩:=comp_cells (HR.out.keep0 HY.out.keep) HL.out hkm
       obtain⟨d1,d2,d3,d4,d5,d6⟩:=HC.out C hm
       rw [hA]at m4
       clear hm hA
       go_upto_region 13 with fail
       have hka:Keep (fun _=>False) wr (wr.alloc (.cells #[.int .i64 C.depth,.bool C.sg,.int .i64 C.dx,.int .i64 C.dy,.slice C.A C.n C.c] 52)):=(Keep.refl _ wr).alloc _
       have BC:=hid (Blk.new wr 52 #[.int .i64 C.depth,.bool C.sg,.int .i64 C.dx,.int .i64 C.dy,.slice C.A C.n C.c])
       have BM6:=hid (BM.out.keep hka id)
       have HY6:=hid (HY.out.keepF hka)
       generalize wr.alloc (.cells #[.int .i64 C.depth,.bool C.sg,.int .i64 C.dx,.int .i64 C.dy,.slice C.A C.n C.c] 52)=w6 at*
       generalize wr.heap.size=gc at*
       have f0:w6.drew.cell? ⟨gc,0,none⟩=some (.int .i64 C.depth):=BC.out.cell 0
       have f1:w6.drew.cell? ⟨gc,1,none⟩=some (.bool C.sg):=BC.out.cell 1
       have f2:w6.drew.cell? ⟨gc,2,none⟩=some (.int .i64 C.dx):=BC.out.cell 2
       have f3:w6.drew.cell? ⟨gc,3,none⟩=some (.int .i64 C.dy):=BC.out.cell 3
       have HY7:=hid (HY6.out.keepF ((Keep.refl (fun _=>False) w6).drew))
       have BM7:=hid (BM6.out.keep ((Keep.refl (fun _=>False) w6).drew) id)
       have nf:=hid (own_ne HY7.out.own BC.out.drew (by decide))
       have hb7:w.heap.size≤w6.heap.size:=HY6.out.b1
       clear hka c0 c1 c2 c3 c4 m4 HY BM
       refine At.start (L:=#[false,false,false,false,false,false,false,false,false,false,false,false,false,false,false,false,false,false,false]) (by kernel_rfl) rfl ?_
       refine AtP 0 56 ?_
       refine AtP 1 57 ?_
       refine AtL 2 58 Tryz.underlying3 ?_
       refine AtP 3 59 ?_
       refine AtP 4 60 ?_
       refine AtL 5 61 Tryz.underlying4 ?_
       refine AtP 10 66 ?_
       refine AtL 11 67 Tryz.underlying3 ?_
       refine AtP 12 68 ?_
       refine AtP 13 69 ?_
       refine AtL 14 70 Tryz.underlying3 ?_
       refine AtP 15 71 ?_
       refine At.call_all 6 rfl (by kernel_rfl) rfl (fun K hK=>?_)
       go_simp
       refine(bitN_any _ _).mono ?_
       rintro e w8 ⟨q,hq0,hq1,rfl,rfl⟩
       refine hK _ _ (by repeat' first|exact all_nil|refine all_cons (by assumption) ?_) ?_
       clear hK K
       try simp only [NS]
       refine AtP 7 63 ?_
       refine AtP 8 64 ?_
       refine AtP 9 65 ?_
       refine AtC 16 fun K hK=>?_
       go_simp
       skip
       refine hK _ _ all_nil ?_
       clear hK K
       try simp only [NS]
       refine AtC 17 fun K hK=>?_
       refine wp_push (w:=w6.drew) (.tmp 56) (.tmp 72) rfl HY7.out [IntKind.u8.wrap _,IntKind.u8.wrap _,IntKind.u8.wrap _] (by intro z hz;simp only [List.mem_cons,List.not_mem_nil,or_false]at hz;rcases hz with rfl|rfl|rfl<;>exact u8_lim _) 3 rfl rfl rfl (by omega) ?_
       intro A9 c9 w9 hY9 hk9
       show K (Act.put _ (some 73) _) _
       have HY9:=hid hY9
       have BM9:=hid (HY7.out.far BM7.out (by decide) hk9 (fun _ h=>h))
       clear hY9
       refine hK _ _ all_nil ?_
       clear hK K
       try simp only [NS]
       refine AtP 18 4 ?_
       refine At.done (by kernel_rfl) ?_
       go_wp2_with fail
       go_roundw
       case rel=>exact⟨k+1,n+3,A9,c9,_,by omega,by go_num,rfl,by omega,hid (by have:=HN.out;omega),HY9,BM9⟩
       case measure=>simp [intOf]<;>omega
     · have HZ:=hid (show BytesN (36+3*m.n) w (.returned (.slice A n c)) wr from by
        obtain rfl:k=m.n:=by omega
        rw [← HN.out]
        exact⟨A,c,zs,rfl,HY.out⟩)
       go_wp2_with fail
       go_ret
       exact HZ.out
theorem own_apart {w:World} {base base':Nat} {e e':TypeId} {size size' n n':Nat} {v v':Value} {xs xs':List Value} (h:w.ownsRow base e size v n xs) (h':w.ownsRow base' e' size' v' n' xs') (hne:e'≠e): ∀k,v.ownBlock=some k→ ¬v'.ownBlock=some k:=by
 intro k hk
 rcases h.2 with⟨rfl,_⟩|⟨g,cap,cur,rfl,_,hg,_⟩
 · simp [Value.ownBlock]at hk
 · simp [Value.ownBlock]at hk
   subst hk
   exact own_ne h' (show Blk w g e cur from hg) hne
theorem two_bytes {a b:Int}:Bytes [IntKind.u8.wrap a,IntKind.u8.wrap b]:=by
 intro z hz
 simp only [List.mem_cons,List.not_mem_nil,or_false]at hz
 rcases hz with rfl|rfl<;>exact u8_lim _
theorem ways_any (w:World) (p:Pm) (hL:p.lev≤5):
 Calls Tryz.prog 36 #[.agg p.cells] w (BytesN (11+p.lev) w):=by
 have HPC:=hid (show p.cells=#[.int .i64 p.tx,.int .i64 p.ty,.int .i64 p.lev,.int .i64 p.cbw,.int .i64 p.cbh,.int .i64 p.prec,.int .i64 p.style,.int .i64 p.order,.int .i64 p.lay,.bool p.rct,.bool p.sop,.bool p.eph]from rfl)
 have HB0:=hid (Blk.new w 31 p.cells)
 have HK0:=hid ((Keep.refl (fun _=>False) w).alloc (.cells p.cells 31))
 go_enter Tryz.func36,Tryz.ntmps36
 go_upto_region 1 with fail
 generalize w.alloc (.cells p.cells 31)=w1 at*
 have p10:w1.drew.cell? ⟨w.heap.size,10,none⟩=some (.bool p.sop):=by rw [HB0.out.drew.cell,HPC.out];rfl
 have p11:w1.drew.cell? ⟨w.heap.size,11,none⟩=some (.bool p.eph):=by rw [HB0.out.drew.cell,HPC.out];rfl
 have p7:w1.drew.cell? ⟨w.heap.size,7,none⟩=some (.int .i64 p.order):=by rw [HB0.out.drew.cell,HPC.out];rfl
 have hb1:w.heap.size≤w1.heap.size:=HK0.out.size
 go_cut [3] (fun v wx=> ∃(A:Option Addr) (c:Nat) (zs:List Int),v=.slice A 2 c∧Hid (By w w.heap.size A 2 c zs wx)∧Hid (Blk wx w.heap.size 31 p.cells))
 case first=>
  refine At.start (L:=#[false,false,false,false,false,false,false,false,false,false,false,false,false,false,false,false]) (by kernel_rfl) rfl ?_
  refine AtP 0 5 ?_
  refine AtL 1 6 Tryz.underlying4 ?_
  refine AtP 5 10 ?_
  refine AtL 6 11 Tryz.underlying4 ?_
  refine AtP 11 16 ?_
  refine AtL 12 17 Tryz.underlying3 ?_
  refine AtP 13 18 ?_
  refine At.call_all 2 rfl (by kernel_rfl) rfl (fun K hK=>?_)
  go_simp
  refine(bitN_any _ _).mono ?_
  rintro e w8 ⟨q,hq0,hq1,rfl,rfl⟩
  refine hK _ _ (by repeat' first|exact all_nil|refine all_cons (by assumption) ?_) ?_
  clear hK K
  try simp only [NS]
  refine AtP 3 8 ?_
  refine AtP 4 9 ?_
  refine At.call_all 7 rfl (by kernel_rfl) rfl (fun K hK=>?_)
  go_simp
  refine(bitN_any _ _).mono ?_
  rintro e w8 ⟨r,hr0,hr1,rfl,rfl⟩
  refine hK _ _ (by repeat' first|exact all_nil|refine all_cons (by assumption) ?_) ?_
  clear hK K
  try simp only [NS]
  refine AtP 8 13 ?_
  refine AtP 9 14 ?_
  refine AtP 10 15 ?_
  refine AtC 14 fun K hK=>?_
  go_simp
  skip
  refine hK _ _ all_nil ?_
  clear hK K
  try simp only [NS]
  refine AtP 15 3 ?_
  refine At.done (by kernel_rfl) ?_
  have HYN:=fun (a b:Int)=>(show By w w.heap.size (some ⟨w1.heap.size,0,none⟩) 2 2 [IntKind.u8.wrap a,IntKind.u8.wrap b] ((w1.alloc (.cells #[.int .u8 (IntKind.u8.wrap a),.int .u8 (IntKind.u8.wrap b)] 5)).drew)from
   ⟨own_new w1.drew w.heap.size 5 #[.int .u8 (IntKind.u8.wrap a),.int .u8 (IntKind.u8.wrap b)] 2 rfl (by simp only [maxLen];omega) hb1,(HK0.out.alloc _).drew,two_bytes,Nat.le_refl _,by have:=(HK0.out.alloc (.cells #[.int .u8 (IntKind.u8.wrap a),.int .u8 (IntKind.u8.wrap b)] 5)).size;exact this⟩)
  have HPN:=fun (a b:Int)=>(show Blk ((w1.alloc (.cells #[.int .u8 (IntKind.u8.wrap a),.int .u8 (IntKind.u8.wrap b)] 5)).drew) w.heap.size 31 p.cells from(HB0.out.alloc _).drew)
  go_wp2_with fail
  go_meet
  exact⟨_,_,_,rfl,hid (HYN _ _),hid (HPN _ _)⟩
 case rest=>
  obtain⟨A1,c1,z1,rfl,HY,HP⟩:=hcut
  clear p10 p11 p7 HB0 HK0 hb1
  rename World=>wx
  have p8:wx.cell? ⟨w.heap.size,8,none⟩=some (.int .i64 p.lay):=by rw [HP.out.cell,HPC.out];rfl
  go_wp2_with fail
  refine(put_at w _ w.heap.size _ 2 _ _ 2 p.lay HY.out (by omega) (by omega) (by omega)).mono ?_
  rintro e w2 ⟨A2,c2,rfl,h2,hk2,_⟩
  have HY2:=hid h2
  have HP2:=hid (HY.out.far HP.out (by decide) hk2 (fun _ h=>h))
  have q9:w2.drew.cell? ⟨w.heap.size,9,none⟩=some (.bool p.rct):=by rw [HP2.out.drew.cell,HPC.out];rfl
  have q2:w2.drew.cell? ⟨w.heap.size,2,none⟩=some (.int .i64 p.lev):=by rw [HP2.out.drew.cell,HPC.out];rfl
  have q3:w2.drew.cell? ⟨w.heap.size,3,none⟩=some (.int .i64 p.cbw):=by rw [HP2.out.drew.cell,HPC.out];rfl
  have q4:w2.drew.cell? ⟨w.heap.size,4,none⟩=some (.int .i64 p.cbh):=by rw [HP2.out.drew.cell,HPC.out];rfl
  have q6:w2.drew.cell? ⟨w.heap.size,6,none⟩=some (.int .i64 p.style):=by rw [HP2.out.drew.cell,HPC.out];rfl
  have HY3:=hid (HY2.out.keepF ((Keep.refl (fun _=>False) w2).drew))
  have nf:=hid (own_ne HY3.out.own HP2.out.drew (by decide))
  clear h2 hk2 p8 HP HY
  go_upto_region 3 with fail
  go_cut [3] (fun v wx=> ∃(A:Option Addr) (c:Nat) (zs:List Int),v=.slice A 10 c∧Hid (By w w.heap.size A 10 c zs wx)∧Hid (Blk wx w.heap.size 31 p.cells))
  case first=>
   refine At.start (L:=#[false,false,false,false,false,false,false,false,false,false,false,false,false,false,false,false,false,false,false,false,false,false]) (by kernel_rfl) rfl ?_
   refine AtP 0 24 ?_
   refine AtP 1 25 ?_
   refine AtL 2 26 Tryz.underlying4 ?_
   refine AtP 5 29 ?_
   refine AtL 6 30 Tryz.underlying3 ?_
   refine AtP 7 31 ?_
   refine AtP 8 32 ?_
   refine AtL 9 33 Tryz.underlying3 ?_
   refine AtP 10 34 ?_
   refine AtP 11 35 ?_
   refine AtP 12 36 ?_
   refine AtL 13 37 Tryz.underlying3 ?_
   refine AtP 14 38 ?_
   refine AtP 15 39 ?_
   refine AtP 16 40 ?_
   refine AtL 17 41 Tryz.underlying3 ?_
   refine AtP 18 42 ?_
   refine At.call_all 3 rfl (by kernel_rfl) rfl (fun K hK=>?_)
   go_simp
   refine(bitN_any _ _).mono ?_
   rintro e w8 ⟨r,hr0,hr1,rfl,rfl⟩
   refine hK _ _ (by repeat' first|exact all_nil|refine all_cons (by assumption) ?_) ?_
   clear hK K
   try simp only [NS]
   refine AtP 4 28 ?_
   refine AtC 19 fun K hK=>?_
   go_simp
   skip
   refine hK _ _ all_nil ?_
   clear hK K
   try simp only [NS]
   refine AtC 20 fun K hK=>?_
   refine wp_push (w:=w2.drew) (.tmp 24) (.tmp 43) rfl HY3.out [IntKind.u8.wrap _,IntKind.u8.wrap _,IntKind.u8.wrap _,IntKind.u8.wrap _,IntKind.u8.wrap _,1] (by intro z hz;simp only [List.mem_cons,List.not_mem_nil,or_false]at hz;rcases hz with rfl|rfl|rfl|rfl|rfl|rfl<;>first|exact u8_lim _|omega) 6 rfl rfl rfl (by omega) ?_
   intro A9 c9 w9 hY9 hk9
   show K (Act.put _ (some 44) _) _
   have HY9:=hid hY9
   have HP9:=hid (HY3.out.far HP2.out.drew (by decide) hk9 (fun _ h=>h))
   clear hY9
   refine hK _ _ all_nil ?_
   clear hK K
   try simp only [NS]
   refine AtP 21 3 ?_
   refine At.done (by kernel_rfl) ?_
   go_wp2_with fail
   go_meet
   exact⟨_,_,_,rfl,HY9,HP9⟩
  case rest=>
   obtain⟨A9,c9,z9,rfl,HY9,HP9⟩:=hcut
   clear q9 q2 q3 q4 q6 HY2 HP2 HY3 nf
   go_wp2_with fail
   go_loopw [3,4] (fun b v wr=> ∃(k n:Nat) (A:Option Addr) (c:Nat) (zs:List Int),k≤p.lev+1∧v=.int .i64 k∧b=.slice A n c∧n≤10+k∧Hid (n=10+k)∧Hid (By w w.heap.size A n c zs wr)∧Hid (Blk wr w.heap.size 31 p.cells)) (fun _ v _=>p.lev+1-(intOf v).toNat)
   case atStart=>exact⟨0,10,A9,c9,_,by omega,rfl,rfl,by omega,hid rfl,HY9,HP9⟩
   case round=>
    clear HY9 HP9
    obtain⟨k,n,A,c,zs,hk,rfl,rfl,hn,HN,HY,HP⟩:=hrel
    have s2:wr.cell? ⟨w.heap.size,2,none⟩=some (.int .i64 p.lev):=by rw [HP.out.cell,HPC.out];rfl
    have s5:wr.cell? ⟨w.heap.size,5,none⟩=some (.int .i64 p.prec):=by rw [HP.out.cell,HPC.out];rfl
    by_cases hkl:k<p.lev+1
    · have hk9:k≤9:=by omega
      go_wp2_with (
       at_builtin
       go_must (refine wpList_push (w:=wr) rfl (.tmp 51) (.tmp 56) rfl HY.out [_] (by intro z hz;rw [List.mem_singleton]at hz;rw [hz];first|omega|exact u8_lim _) 1 rfl rfl rfl (by omega) ?_)
       intro A5 c5 w5 hY5 hk5
       have HY5:=hid hY5
       have HP5:=hid (HY.out.far HP.out (by decide) hk5 (fun _ h=>h))
       clear hY5 hk5)
      go_roundw
      case rel=>exact⟨k+1,n+1,A5,c5,_,by omega,by go_num,rfl,by omega,hid (by have:=HN.out;omega),HY5,HP5⟩
      case measure=>simp [intOf]<;>omega
    · have HZ:=hid (show BytesN (11+p.lev) w (.returned (.slice A n c)) wr from by
       have e:n=11+p.lev:=by have:=HN.out;omega
       rw [← e]
       exact⟨A,c,zs,rfl,HY.out⟩)
      go_wp2_with fail
      go_ret
      exact HZ.out
theorem steps_any (w:World) (m:Im) (p:Pm) (RA:Option Addr) (rn rc:Nat) (cs:List Cm) (hcs:RdS w m.A m.n 5 (cms cs)) (hl:cs.length=m.n) (hC: ∀c∈cs,c.depth≤10) (hn4:m.n≤4) (hL:p.lev≤5):
 Calls Tryz.prog 37 #[.agg (hcells m p RA rn rc)] w (BytesN (2+3*p.lev) w):=by
 have EX:=hid (fun w (h:RdS w m.A m.n 5 (cms cs))=>expo_any w m p cs h hl hC hn4 hL)
 have HR:=hid hcs
 have HB0:=hid (Blk.new w 58 (hcells m p RA rn rc))
 have HK0:=hid ((Keep.refl (fun _=>False) w).alloc (.cells (hcells m p RA rn rc) 58))
 clear hcs hl hC
 go_enter Tryz.func37,Tryz.ntmps37
 go_upto_region 1 with fail
 generalize w.alloc (.cells (hcells m p RA rn rc) 58)=w1 at*
 have hb1:w.heap.size≤w1.heap.size:=HK0.out.size
 go_upto_region 2 with fail
 have HY:=hid (show By w w.heap.size (some ⟨w1.heap.size,0,none⟩) 1 1 [96] (w1.alloc (.cells #[.int .u8 96] 5))from
  ⟨own_new w1 w.heap.size 5 #[.int .u8 96] 1 rfl (by simp only [maxLen];omega) hb1,HK0.out.alloc _,by intro z hz;rw [List.mem_singleton]at hz;omega,Nat.le_refl _,(HK0.out.alloc _).size⟩)
 have HB1:=hid (HB0.out.alloc (.cells #[.int .u8 96] 5))
 generalize w1.alloc (.cells #[.int .u8 96] 5)=w2 at*
 generalize w1.heap.size=g1 at*
 have HM:=hid (hrange_m HB1.out)
 have HP:=hid (hrange_p HB1.out)
 go_wp2_with (first|(refine wpList_load_mid rfl 29 (.tmp 7) rfl _ _ rfl _ _ HM.out Tryz.underlying29 rfl (by kernel_rfl) ?_)|(refine wpList_load_mid rfl 31 (.tmp 9) rfl _ _ rfl _ _ HP.out Tryz.underlying31 rfl (by kernel_rfl) ?_))
 refine(EX.out _ (HR.out.keep0 HY.out.keep)).mono ?_
 rintro e w3 ⟨X,cX,xs,rfl,hxl,hxb,hcX,hxo,hk⟩
 have HX:=hid (Rd.of_own hxo)
 have HXT:=hid hxo
 have HY3:=hid (HY.out.keepF hk)
 have HXL:=hid hxl
 have HB3:=hid (show∀a,X=some a→w2.heap.size≤a.block from fun a e=>(hxo.lt a.block (by rw [e];rfl)).1)
 have HB4:=hid (show∀a,some (⟨g1,0,none⟩:Addr)=some a→a.block<w2.heap.size from fun a e=>HY.out.lt e)
 clear hxo hxb hxl HM HP HB0 HB1 HK0 HY
 obtain⟨kn,hkn⟩: ∃kn,1+3*p.lev=kn:=⟨_,rfl⟩
 rw [hkn]at HX HXL HXT hcX ⊢
 have hkn16:kn≤16:=by omega
 have HKN:=hid hkn
 clear hkn
 go_wp2_with fail
 go_loopw [3,5] (fun b v wr=> ∃(k n:Nat) (A:Option Addr) (c:Nat) (zs:List Int),k≤kn∧v=.int .i64 k∧b=.slice A n c∧n≤1+k∧Hid (n=1+k)∧Hid (By w w.heap.size A n c zs wr)∧Hid (wr.ownsRow w2.heap.size 3 1 (.slice X kn cX) kn (xs.map (Value.int .i64)))) (fun _ v _=>kn-(intOf v).toNat)
 case atStart=>exact⟨0,1,_,1,_,by omega,rfl,rfl,by omega,hid rfl,HY3,HXT⟩
 case round=>
  clear HY3 HXT HX
  obtain⟨k,n,A,c,zs,hk,rfl,rfl,hn,HN,HY,HX⟩:=hrel
  by_cases hkl:k<kn
  · obtain⟨ad,z,hA,hcz⟩:=(Rd.of_own HX.out).int hkl
    subst hA
    go_wp2_with (
     at_builtin
     go_must (refine wpList_push (w:=wr) rfl (.tmp 18) (.tmp 25) rfl HY.out [_] (by intro z hz;rw [List.mem_singleton]at hz;rw [hz];first|omega|exact u8_lim _) 1 rfl rfl rfl (by omega) ?_)
     intro A5 c5 w5 hY5 hk5
     have HY5:=hid hY5
     have HX5:=hid (own_keep HX.out hk5 (own_apart HX.out HY.out.own (by decide)))
     clear hY5 hk5)
    go_roundw
    case rel=>exact⟨k+1,n+1,A5,c5,_,by omega,by go_num,rfl,by omega,hid (by have:=HN.out;omega),HY5,HX5⟩
    case measure=>simp [intOf]<;>omega
  · have HZ:=hid (show BytesN (2+3*p.lev) w (.returned (.slice A n c)) wr from by
     have e:n=2+3*p.lev:=by have:=HN.out;have:=HKN.out;omega
     rw [← e]
     exact⟨A,c,zs,rfl,HY.out⟩)
    go_wp2_with fail
    go_ret
    exact HZ.out
end Go.Proofs.YthfogcgdijmaoaaGreat
namespace Go.Proofs.YthfogcgdijmaoaaGreat.Bw
open Go.RowKit
def orB (z x:Int) (t:Nat):Int:=bits .or .u8 z (bits .and .i64 x 1%256*2^t%256)
def refB (l:List Int) (r:Int):List Int:=if r=0 then l else l.dropLast
def curM (l:List Int) (r:Int):Int:=if r=0 then 0 else lastM l
def freeM (l:List Int) (r:Int):Int:=if r=0 then topM l else r
structure RW0 (w:World) (base W:Nat) (A:Option Addr) (n c:Nat) (b:List Int) (u f:Int):Prop where
 blk:Blk w W 174 #[.slice A n c,.int .i64 u,.int .i64 f]
 own:w.ownsRow base 5 1 (.slice A n c) n (b.map (Value.int .u8))
section
variable {w w':World} {base W:Nat} {A:Option Addr} {n c:Nat} {b:List Int} {u f:Int}
theorem RW0.len (h:RW0 w base W A n c b u f):b.length=n:=by have:=h.own.1;simpa using this
theorem RW0.keep (h:RW0 w base W A n c b u f) {S:Nat→Prop} (hk:Keep S w w') (hW: ¬S W) (hA: ∀ad,A=some ad→ ¬S ad.block):RW0 w' base W A n c b u f:=
 ⟨h.blk.keep hk hW,own_keep h.own hk (fun k e hs=>by
  obtain⟨ad,rfl,rfl⟩:=own_foot e
  exact hA ad rfl hs)⟩
theorem RW0.set (h:RW0 w base W A n c b u f) {u' f':Int} {w':World} (hk:Keep (fun k=>k=W) w w') (hb:Blk w' W 174 #[.slice A n c,.int .i64 u',.int .i64 f']):RW0 w' base W A n c b u' f':=
 ⟨hb,own_keep h.own hk (fun k e hs=>own_ne h.own h.blk (by decide) (by rw [e,hs]))⟩
end
def orI (u x:Int) (t:Nat):Int:=bits .or .i64 u (wrap64 (bits .and .i64 x 1*2^t))
theorem rbit_more (w:World) (base W:Nat) (A:Option Addr) (n c:Nat) (b:List Int) (u f x:Int) (h:RW0 w base W A n c b u f) (hf:2≤f) (hf8:f≤8):
 Calls Tryz.prog 68 #[.pointer (some ⟨W,0,none⟩),.int .i64 x] w fun e w'=>e=.returned (.tuple #[])∧RW0 w' base W A n c b (orI u x (f.toNat-1)) (f-1)∧Keep (fun k=>k=W) w w':=by
 have h1:w.cell? ⟨W,1,none⟩=some (.int .i64 u):=h.blk.cell 1
 have h2:w.cell? ⟨W,2,none⟩=some (.int .i64 f):=h.blk.cell 2
 have f1:=h.blk.frozen 1
 have f2:=h.blk.frozen 2
 have hf0:(f-1==0)=false:=by simp;omega
 have H:=hid h
 clear h
 go_enter Tryz.func68,Tryz.ntmps68
 go_wp2_with fail
 go_region
 go_wp2_with fail
 go_end0
 have hk:Keep (fun k=>k=W) w ((w.setCell ⟨W,2,none⟩ (.int .i64 (f-1))).setCell ⟨W,1,none⟩ (.int .i64 (orI u x (f.toNat-1)))).drew:=(((Keep.refl _ w).setR 2 _).setR 1 _).drew
 refine⟨rfl,?_,hk⟩
 exact H.out.set hk ((H.out.blk.set_ 2 (.int .i64 (f-1))).set_ 1 (.int .i64 (orI u x (f.toNat-1)))).drew
def RWP (w:World) (base W:Nat) (A:Option Addr) (b:List Int) (u f:Int) (e:Ending) (w':World):Prop:=
 ∃A' n' c',e=.returned (.tuple #[])∧RW0 w' base W A' n' c' b u f∧Grew w A A'∧Keep (foot W A) w w'
theorem rbit_last (w:World) (base W:Nat) (A:Option Addr) (n c:Nat) (b:List Int) (u x q F:Int) (h:RW0 w base W A n c b u 1) (hb:base≤w.heap.size) (hn:n≤1073741824) (hq:orI u x 0=q) (hF:Hid (F=if q=255 then 7 else 8)):
 Calls Tryz.prog 68 #[.pointer (some ⟨W,0,none⟩),.int .i64 x] w (RWP w base W A (b++[IntKind.u8.wrap q]) 0 F):=by
 obtain⟨i0,hi0,hz0,hz1,hz2⟩:=info_parts info_u8
 have h0:w.cell? ⟨W,0,none⟩=some (.slice A n c):=h.blk.cell 0
 have h1:w.cell? ⟨W,1,none⟩=some (.int .i64 u):=h.blk.cell 1
 have h2:w.cell? ⟨W,2,none⟩=some (.int .i64 1):=h.blk.cell 2
 have f0:=h.blk.frozen 0
 have f1:=h.blk.frozen 1
 have f2:=h.blk.frozen 2
 have H:=hid h
 have hq':bits BinOp.or IntKind.i64 u (wrap64 (bits BinOp.and IntKind.i64 x 1))=q:=by
  rw [← hq]
  unfold orI
  simp
 clear h hq
 go_enter Tryz.func68,Tryz.ntmps68
 go_wp2_with fail
 go_region
 generalize wrap64 (bits BinOp.and IntKind.i64 x 1)=x1 at*
 generalize bits BinOp.and IntKind.i64 x 1=x2 at*
 clear hq'
 by_cases he:q=255
 · subst he
   go_wp2_with fail
   generalize hw:World.drew _=w5
   have hk5:Keep (fun k=>k=W) w w5:=by
    rw [← hw]
    exact(((((Keep.refl _ w).setR 2 _).setR 1 _).setR 2 _).setR 2 _).drew
   have H5:=hid (show RW0 w5 base W A n c b 255 7 from H.out.set hk5 (by
    rw [← hw]
    exact((((H.out.blk.set_ 2 (.int .i64 0)).set_ 1 (.int .i64 255)).set_ 2 (.int .i64 8)).set_ 2 (.int .i64 7)).drew))
   clear hw
   have HE:=hid (show F=7 by rw [hF.out];rfl)
   have c0:w5.cell? ⟨W,0,none⟩=some (.slice A n c):=H5.out.blk.cell 0
   have c1:w5.cell? ⟨W,1,none⟩=some (.int .i64 255):=H5.out.blk.cell 1
   have d0:=H5.out.blk.frozen 0
   have hne:=own_ne H5.out.own H5.out.blk (by decide)
   have HN:=hid hne
   have hw5:=H5.out.blk.lt
   clear hne
   refine At.start (L:=#[false,false,false,false,false,false,false,false,false,false,false,false,false,false,false]) (by kernel_rfl) rfl ?_
   refine AtP 0 43 ?_
   refine AtP 1 44 ?_
   refine AtP 2 45 ?_
   refine AtP 3 46 ?_
   refine At.read 4 (some 47) (fun w'=>w'.cell? ⟨W,0,none⟩=some (.slice A n c)) (v:=?v4a) rfl rfl (by kernel_rfl) (fun _ _ _ h=>h) rfl c0 (fun w' hw'=>?y4a) ?_
   case y4a=>skip;go_simp;try with_reducible rfl
   try simp only [NS]
   refine AtP 5 48 ?_
   refine AtP 6 49 ?_
   refine AtP 7 50 ?_
   refine At.read 8 (some 51) (fun w'=>w'.cell? ⟨W,1,none⟩=some (.int .i64 255)) (v:=(.int .i64 255)) rfl rfl (by kernel_rfl) (fun _ _ _ h=>h) rfl c1 (fun w' hw'=>?y8a) ?_
   case y8a=>skip;go_simp;try with_reducible rfl
   try simp only [NS]
   refine AtP 9 52 ?_
   refine At.call 10 (pend':=[(4,(fun w'=>w'.cell? ⟨W,0,none⟩=some (.slice A n c)))]) rfl (by kernel_rfl) rfl (by kernel_rfl) (fun K hK=>?_)
   go_simp
   skip
   refine hK _ _ (all_cons (((Keep.refl (fun _=>False) _).alloc _).cell c0 (fun h=>h)) all_nil) ?_
   clear hK K
   try simp only [NS]
   refine AtC 11 fun K hK=>?_
   refine wp_append_one w5.drew (.tmp 47) (.tmp 53) _ rfl base 5 i0 _ 1 Tryz.underlying25 hi0 hz0 hz1 hz2 rfl H5.out.own.drew rfl _ rfl rfl (by simp only [maxLen];omega) (by omega) (Nat.le_trans hb hk5.size) ?_
   intro v2 w2 hown2 hg2 hat2 _hold2
   obtain⟨A2,c2,rfl⟩:=own_form hown2
   have b2:=(H5.out.blk.drew.alloc (.cells #[.int .u8 (IntKind.u8.wrap 255)] 5)).grown hg2 (Ne.symm HN.out)
   have e2:w2.cell? ⟨W,0,none⟩=some (.slice A n c):=b2.cell 0
   have e3:=b2.frozen 0
   have e4:w2.cell? ⟨W,1,none⟩=some (.int .i64 255):=b2.cell 1
   have e5:=b2.frozen 1
   have B2:=hid b2
   have hk2:Keep (fun k=>(Value.slice A n c).ownBlock=some k) w5 w2:=(((Keep.refl _ w5).drew).alloc _).grown hg2 (fun k hk=>.inl hk)
   clear b2
   refine hK _ _ all_nil ?_
   clear hK K
   try simp only [NS]
   refine AtP 12 55 ?_
   refine AtP 13 56 ?_
   refine AtC 14 fun K hK=>?_
   go_simp
   skip
   refine hK _ _ all_nil ?_
   clear hK K
   try simp only [NS]
   refine At.done (by kernel_rfl) ?_
   go_wp2_with fail
   go_end0
   have hne2:=own_ne hown2 B2.out (by decide)
   have hkW:Keep (fun k=>k=W) w2 ((w2.setCell ⟨W,0,none⟩ (.slice A2 (n+1) c2)).setCell ⟨W,1,none⟩ (.int .i64 0)):=((Keep.refl _ w2).setR 0 _).setR 1 _
   refine⟨A2,n+1,c2,rfl,⟨?_,?_⟩,?_,?_⟩
   · rw [HE.out]
     exact(B2.out.set_ 0 _).set_ 1 _
   · have:=own_keep hown2 hkW (fun k e hk=>hne2 (by rw [e,hk]))
     simpa using this
   · exact Grew.of hat2 (by have:=hk5.size;show _≤w5.heap.size+1;omega)
   · refine(hk5.mono (fun k _ h=>.inl h)).trans ((hk2.mono (fun k _ h=>.inr (own_foot h))).trans hkW (fun k _ h=>.inl h)) (fun k _ h=>h)
 · have he':(q==255)=false:=by simpa using he
   go_wp2_with fail
   generalize hw:World.drew _=w5
   have hk5:Keep (fun k=>k=W) w w5:=by
    rw [← hw]
    exact((((Keep.refl _ w).setR 2 _).setR 1 _).setR 2 _).drew
   have H5:=hid (show RW0 w5 base W A n c b q 8 from H.out.set hk5 (by
    rw [← hw]
    exact(((H.out.blk.set_ 2 (.int .i64 0)).set_ 1 (.int .i64 q)).set_ 2 (.int .i64 8)).drew))
   clear hw
   have HE:=hid (show F=8 by rw [hF.out];exact if_neg he)
   have c0:w5.cell? ⟨W,0,none⟩=some (.slice A n c):=H5.out.blk.cell 0
   have c1:w5.cell? ⟨W,1,none⟩=some (.int .i64 q):=H5.out.blk.cell 1
   have d0:=H5.out.blk.frozen 0
   have hne:=own_ne H5.out.own H5.out.blk (by decide)
   have HN:=hid hne
   have hw5:=H5.out.blk.lt
   clear hne
   refine At.start (L:=#[false,false,false,false,false,false,false,false,false,false,false,false,false,false,false]) (by kernel_rfl) rfl ?_
   refine AtP 0 43 ?_
   refine AtP 1 44 ?_
   refine AtP 2 45 ?_
   refine AtP 3 46 ?_
   refine At.read 4 (some 47) (fun w'=>w'.cell? ⟨W,0,none⟩=some (.slice A n c)) (v:=?v4b) rfl rfl (by kernel_rfl) (fun _ _ _ h=>h) rfl c0 (fun w' hw'=>?y4b) ?_
   case y4b=>skip;go_simp;try with_reducible rfl
   try simp only [NS]
   refine AtP 5 48 ?_
   refine AtP 6 49 ?_
   refine AtP 7 50 ?_
   refine At.read 8 (some 51) (fun w'=>w'.cell? ⟨W,1,none⟩=some (.int .i64 q)) (v:=(.int .i64 q)) rfl rfl (by kernel_rfl) (fun _ _ _ h=>h) rfl c1 (fun w' hw'=>?y8b) ?_
   case y8b=>skip;go_simp;try with_reducible rfl
   try simp only [NS]
   refine AtP 9 52 ?_
   refine At.call 10 (pend':=[(4,(fun w'=>w'.cell? ⟨W,0,none⟩=some (.slice A n c)))]) rfl (by kernel_rfl) rfl (by kernel_rfl) (fun K hK=>?_)
   go_simp
   skip
   refine hK _ _ (all_cons (((Keep.refl (fun _=>False) _).alloc _).cell c0 (fun h=>h)) all_nil) ?_
   clear hK K
   try simp only [NS]
   refine AtC 11 fun K hK=>?_
   refine wp_append_one w5.drew (.tmp 47) (.tmp 53) _ rfl base 5 i0 _ 1 Tryz.underlying25 hi0 hz0 hz1 hz2 rfl H5.out.own.drew rfl _ rfl rfl (by simp only [maxLen];omega) (by omega) (Nat.le_trans hb hk5.size) ?_
   intro v2 w2 hown2 hg2 hat2 _hold2
   obtain⟨A2,c2,rfl⟩:=own_form hown2
   have b2:=(H5.out.blk.drew.alloc (.cells #[.int .u8 (IntKind.u8.wrap q)] 5)).grown hg2 (Ne.symm HN.out)
   have e2:w2.cell? ⟨W,0,none⟩=some (.slice A n c):=b2.cell 0
   have e3:=b2.frozen 0
   have e4:w2.cell? ⟨W,1,none⟩=some (.int .i64 q):=b2.cell 1
   have e5:=b2.frozen 1
   have B2:=hid b2
   have hk2:Keep (fun k=>(Value.slice A n c).ownBlock=some k) w5 w2:=(((Keep.refl _ w5).drew).alloc _).grown hg2 (fun k hk=>.inl hk)
   clear b2
   refine hK _ _ all_nil ?_
   clear hK K
   try simp only [NS]
   refine AtP 12 55 ?_
   refine AtP 13 56 ?_
   refine AtC 14 fun K hK=>?_
   go_simp
   skip
   refine hK _ _ all_nil ?_
   clear hK K
   try simp only [NS]
   refine At.done (by kernel_rfl) ?_
   go_wp2_with fail
   go_end0
   have hne2:=own_ne hown2 B2.out (by decide)
   have hkW:Keep (fun k=>k=W) w2 ((w2.setCell ⟨W,0,none⟩ (.slice A2 (n+1) c2)).setCell ⟨W,1,none⟩ (.int .i64 0)):=((Keep.refl _ w2).setR 0 _).setR 1 _
   refine⟨A2,n+1,c2,rfl,⟨?_,?_⟩,?_,?_⟩
   · rw [HE.out]
     exact(B2.out.set_ 0 _).set_ 1 _
   · have:=own_keep hown2 hkW (fun k e hk=>hne2 (by rw [e,hk]))
     simpa using this
   · exact Grew.of hat2 (by have:=hk5.size;show _≤w5.heap.size+1;omega)
   · refine(hk5.mono (fun k _ h=>.inl h)).trans ((hk2.mono (fun k _ h=>.inr (own_foot h))).trans hkW (fun k _ h=>.inl h)) (fun k _ h=>h)
theorem rbit_any (w:World) (base W:Nat) (A:Option Addr) (n c:Nat) (l:List Int) (r x:Int) (h:RW0 w base W A n c (refB l r) (curM l r) (freeM l r)) (hi:BInv l r) (hb:base≤w.heap.size) (hn:n≤1073741824):
 Calls Tryz.prog 68 #[.pointer (some ⟨W,0,none⟩),.int .i64 x] w (RWP w base W A (refB (stepL l r x) (stepR l r)) (curM (stepL l r x) (stepR l r)) (freeM (stepL l r x) (stepR l r))):=by
 have ht:=top_le l
 have hbb:=lastM_byte hi.bytes
 by_cases hr:r=0
 · subst hr
   have e1:refB l 0=l:=if_pos rfl
   have e2:curM l 0=0:=if_pos rfl
   have e3:freeM l 0=topM l:=if_pos rfl
   rw [e1,e2,e3]at h
   refine(rbit_more w base W A n c l 0 (topM l) x h (by omega) (by omega)).mono ?_
   rintro e w' ⟨rfl,h',hk⟩
   refine⟨A,n,c,rfl,?_,Grew.refl w A,hk.mono (fun k _ h=>.inl h)⟩
   unfold orI at h'
   rw [orI_add 0 x _ (by omega) (by omega) (by omega) (by simp),Int.zero_add]at h'
   unfold stepL stepR refB curM freeM
   rw [if_pos rfl,if_pos rfl,if_neg (by omega),if_neg (by omega),if_neg (by omega),List.dropLast_concat,lastM_snoc]
   exact h'
 · have hr0:=hi.r0
   have h7:=hi.r7
   have hl:=hi.some_ (by omega)
   have hlow:=hi.low
   have e0:r.toNat=r.toNat-1+1:=by omega
   rw [e0]at hlow
   have e1:refB l r=l.dropLast:=if_neg hr
   have e2:curM l r=lastM l:=if_neg hr
   have e3:freeM l r=r:=if_neg hr
   rw [e1,e2,e3]at h
   have es:stepL l r x=l.dropLast++[lastM l+x%2*2^(r.toNat-1)]:=by
    unfold stepL
    rw [if_neg hr,set_last l hl]
   have er:stepR l r=r-1:=by unfold stepR;rw [if_neg hr]
   rw [es,er]
   by_cases h1:r=1
   · subst h1
     have hq:orI (lastM l) x 0=lastM l+x%2*2^0:=orI_add _ x 0 hbb.1 hbb.2 (by omega) hlow
     have hf:=add_fits (lastM l) (x%2) 0 hbb.1 8 (by omega) (by omega) hlow (mod2 x)
     refine(rbit_last w base W A n c l.dropLast (lastM l) x _ (topM (l.dropLast++[lastM l+x%2*2^0])) h hb hn hq (hid (by unfold topM;rw [lastM_snoc]))).mono ?_
     rintro e w' h'
     rw [IntWalk.u8_in _ (by omega)]at h'
     unfold refB curM freeM
     rw [if_pos (by omega),if_pos (by omega),if_pos (by omega)]
     exact h'
   · refine(rbit_more w base W A n c l.dropLast (lastM l) r x h (by omega) (by omega)).mono ?_
     rintro e w' ⟨rfl,h',hk⟩
     refine⟨A,n,c,rfl,?_,Grew.refl w A,hk.mono (fun k _ h=>.inl h)⟩
     unfold orI at h'
     rw [orI_add _ x _ hbb.1 hbb.2 (by omega) hlow]at h'
     unfold refB curM freeM
     rw [if_neg (by omega),if_neg (by omega),if_neg (by omega),List.dropLast_concat,lastM_snoc]
     exact h'
def RWr (w:World) (base W:Nat) (A:Option Addr) (n c:Nat) (l:List Int) (r:Int):Prop:=RW0 w base W A n c (refB l r) (curM l r) (freeM l r)
theorem refB_le (l:List Int) (r:Int):l.length≤(refB l r).length+1∧(refB l r).length≤l.length:=by
 unfold refB
 split<;>simp<;>omega
theorem rbits_any (w:World) (base W:Nat) (A:Option Addr) (n c:Nat) (l:List Int) (r x size:Int) (h:RWr w base W A n c l r) (hi:BInv l r) (hb:base≤w.heap.size) (hn:l.length≤1073741000):
 Calls Tryz.prog 103 #[.pointer (some ⟨W,0,none⟩),.int .i64 x,.int .i64 size] w fun e w'=>e=.returned (.tuple #[])∧ ∃A',(∃ n' c',
  RWr w' base W A' n' c' (runM (l,r) (numB x size)).1 (runM (l,r) (numB x size)).2)∧Grew w A A'∧Keep (foot W A) w w':=by
 by_cases hs:1≤size∧size≤32
 · obtain⟨s,rfl⟩:=Int.eq_ofNat_of_zero_le (show 0≤size by omega)
   have e0:numB x s=bitsOf x s:=by unfold numB;rw [if_pos hs];simp
   rw [e0]
   clear e0
   have H0:=hid h
   have HI:=hid hi
   clear h hi
   go_enter Tryz.func103,Tryz.ntmps103
   go_wp2_with fail
   go_loopw [6] (fun v wr=> ∃j:Nat,j≤32∧v=.int .i64 ((j:Int)-1)∧ ∃A1 n1 c1 l1 r1,Hid (RWr wr base W A1 n1 c1 l1 r1)∧Hid (BInv l1 r1)∧Hid (runM (l1,r1) (bitsOf x j)=runM (l,r) (bitsOf x s))∧Hid (l1.length+j≤l.length+s)∧Hid (Grew w A A1)∧Hid (Keep (foot W A) w wr)) (fun v _=>(intOf v+1).toNat)
   case atStart=>exact⟨s,by omega,rfl,A,n,c,l,r,H0,HI,hid rfl,hid (by omega),hid (Grew.refl w A),hid (Keep.refl _ _)⟩
   case round=>
    obtain⟨j,hj,rfl,A1,n1,c1,l1,r1,H1,HI1,HR,HL1,HG,HK⟩:=hrel
    have hbs:base≤wr.heap.size:=Nat.le_trans hb HK.out.size
    cases j with
    |zero=>
     go_wp2_with fail
     go_end0
     have:=HR.out
     simp only [bitsOf,runM,List.foldl_nil]at this
     exact⟨rfl,A1,⟨n1,c1,by rw [show runM (l,r) (bitsOf x s)=(l1,r1)from this.symm];exact H1.out⟩,HG.out,HK.out⟩
    |succ j=>
     go_wp2_with fail
     refine(rbit_any wr base W A1 n1 c1 l1 r1 (x/2^j) H1.out HI1.out hbs (by
      have:=HL1.out
      have:=refB_le l1 r1
      have:=RW0.len H1.out
      omega)).mono ?_
     rintro e w2 ⟨A2,n2,c2,rfl,H2,hg2,hk2⟩
     have hgk:=grew_next HG.out HK.out hg2 hk2
     have HH2:=hid H2
     have HGK:=hid hgk
     have HI2:=hid (HI1.out.step (x/2^j))
     clear H2 hgk hg2 hk2
     go_wp2_with fail
     go_roundw
     case rel=>
      refine⟨j,by omega,by go_num,A2,n2,c2,_,_,HH2,HI2,hid ?_,hid ?_,hid HGK.out.1,hid HGK.out.2⟩
      · have:=HR.out
        rw [← this]
        show _=runM (stepM (l1,r1) (x/2^j%2)) (bitsOf x j)
        unfold stepM
        rw [stepL_mod]
      · have hl2:=stepL_length l1 r1 (x/2^j)
        have:=HL1.out
        omega
     case measure=>simp [intOf]
 · have e0:numB x size=[]:=by unfold numB;rw [if_neg hs]
   rw [e0]
   have H0:=hid h
   clear e0
   by_cases h1:size<1
   · go_enter Tryz.func103,Tryz.ntmps103
     go_wp2_with fail
     (try simp only [Exit.inBlock,Exit.then]);refine bodyPost_ret (results_none rfl _ _ _) rfl ?_
     exact⟨rfl,A,⟨n,c,H0.out⟩,Grew.refl w A,Keep.refl _ _⟩
   · have h2:32<size:=by omega
     go_enter Tryz.func103,Tryz.ntmps103
     go_wp2_with fail
     (try simp only [Exit.inBlock,Exit.then]);refine bodyPost_ret (results_none rfl _ _ _) rfl ?_
     exact⟨rfl,A,⟨n,c,H0.out⟩,Grew.refl w A,Keep.refl _ _⟩
def BytesP (w:World) (out:List Int) (e:Ending) (w':World):Prop:=
 ∃A' n' c',e=.returned (.slice A' n' c')∧w'.ownsRow w.heap.size 5 1 (.slice A' n' c') n' (out.map (Value.int .u8))∧Keep (fun _=>False) w w'
theorem bytesP_mk {w w':World} {out:List Int} {A:Option Addr} {n c:Nat} (h:w'.ownsRow w.heap.size 5 1 (.slice A n c) n (out.map (Value.int .u8))) (hk:Keep (fun _=>False) w w'):BytesP w out (.returned (.slice A n c)) w':=⟨A,n,c,rfl,h,hk⟩
def rbytesM (b:List Int) (u f:Int):List Int:=outB (if f<topM b then b++[u%256]else b)
theorem lastM_at {w:World} {g n:Nat} {b:List Int} (hgl: ∀j u,(b.map (Value.int .u8))[j]? =some u→w.cell? ⟨g,j,none⟩=some u) (hl:b.length=n+1):w.cell? ⟨g,n,none⟩=some (.int .u8 (lastM b)):=by
 have:=hgl n _ (map_at _ _ n (by omega))
 unfold lastM
 rw [hl]
 exact this
theorem rbytes_nil (w:World) (base W:Nat) (A:Option Addr) (c:Nat) (b:List Int) (u f:Int) (n:Nat) (h:RW0 w base W A n c b u f) (hn0:n<1):
 Calls Tryz.prog 69 #[.pointer (some ⟨W,0,none⟩)] w (BytesP w (rbytesM b u f)):=by
 obtain⟨i0,hi0,hz0,hz1,hz2⟩:=info_parts info_u8
 have h0:(w.alloc (.cells #[] 5)).cell? ⟨W,0,none⟩=some (.slice A n c):=(h.blk.alloc _).cell 0
 have h1:w.cell? ⟨W,1,none⟩=some (.int .i64 u):=h.blk.cell 1
 have h2:w.cell? ⟨W,2,none⟩=some (.int .i64 f):=h.blk.cell 2
 have HR:=hid (Rd.of_own h.own)
 have hlb:=h.len
 clear h
 have ht:topM b=8:=by rw [List.eq_nil_of_length_eq_zero (l:=b) (by omega)];decide
 by_cases hf:f<8
 · by_cases hu:u%256=255
   · have HM:=hid (show rbytesM b u f=(b++[255])++[0] by unfold rbytesM outB;rw [ht,if_pos hf,lastM_snoc,if_pos hu,hu])
     go_enter Tryz.func69,Tryz.ntmps69
     go_wp2_with (
      at_builtin
      first
      |refine wpList_append_src _ rfl (.tmp 5) (.tmp 9) _ rfl w.heap.size 5 i0 _ 1 Tryz.underlying25 hi0 hz0 hz1 hz2 rfl (World.ownsRow_made w #[] 0 (Nat.le_refl _) (by simp [maxLen]) rfl) rfl (HR.out.alloc _) rfl (oneCell_ints _ _) (by simp only [maxLen];omega) (by omega) (by simp) ?_
       intro v1 w1 hown1 hg1 _hat1 _hold1
       rw [Nat.zero_add,List.nil_append]at hown1
       obtain⟨A1,c1,rfl⟩:=own_form hown1
       have hk1:Keep (fun _=>False) w w1:=((Keep.refl _ w).alloc _).grown hg1 (fun k hk=>.inr (by simp [Value.ownBlock]at hk;omega))
       have H1:=hid hown1
       have HK1:=hid hk1
       have g2:=hk1.cell h2 (fun h=>h)
       have g1:=hk1.cell h1 (fun h=>h)
       have hs1:=hk1.size
       clear hown1 hg1 _hat1 _hold1 hk1
      |refine wpList_append_one w1 rfl (.tmp 29) (.tmp 35) _ rfl w.heap.size 5 i0 _ 1 Tryz.underlying25 hi0 hz0 hz1 hz2 rfl H1.out rfl _ rfl rfl (by simp only [maxLen];omega) (by omega) (by omega) ?_
       intro v2 w2 hown2 hg2 _hat2 _hold2
       obtain⟨A2,c2,rfl⟩:=own_form hown2
       obtain⟨g,rfl,hgc,hgb,hgl,hgf⟩:=own_at hown2 (by omega)
       have gu:w2.cell? ⟨g,n,none⟩=some (.int .u8 255):=hgl n _ (by rw [← hlb];simp)
       have hk2:Keep (fun _=>False) w w2:=(HK1.out.alloc _).grown hg2 (fun k hk=>.inr (H1.out.lt k hk).1)
       have H2:=hid (show w2.ownsRow w.heap.size 5 1 (.slice (some ⟨g,0,none⟩) (n+1) c2) (n+1) ((b++[255]).map (Value.int .u8)) by simpa using hown2)
       have HK2:=hid hk2
       have hs2:=hk2.size
       clear hown2 hg2 _hat2 _hold2 hk2 hgl hgf
      |refine wpList_append_one w2 rfl (.tmp 49) (.tmp 50) _ rfl w.heap.size 5 i0 _ 1 Tryz.underlying25 hi0 hz0 hz1 hz2 rfl H2.out rfl _ rfl rfl (by simp only [maxLen];omega) (by omega) (by omega) ?_
       intro v3 w3 hown3 hg3 _hat3 _hold3
       obtain⟨A3,c3,rfl⟩:=own_form hown3
       have H3:=hid (show w3.ownsRow w.heap.size 5 1 (.slice A3 ((n+1)+1) c3) ((n+1)+1) (((b++[255])++[0]).map (Value.int .u8)) by simpa using hown3)
       have HK3:=hid (show Keep (fun _=>False) w w3 from(HK2.out.alloc _).grown hg3 (fun k hk=>.inr (H2.out.lt k hk).1))
       clear hown3 hg3 _hat3 _hold3
      )
     go_ret
     rw [HM.out]
     exact bytesP_mk H3.out HK3.out
   · have HM:=hid (show rbytesM b u f=b++[u%256] by unfold rbytesM outB;rw [ht,if_pos hf,lastM_snoc,if_neg hu])
     have hu':(u%256==255)=false:=by simpa using hu
     go_enter Tryz.func69,Tryz.ntmps69
     go_wp2_with (
      at_builtin
      first
      |refine wpList_append_src _ rfl (.tmp 5) (.tmp 9) _ rfl w.heap.size 5 i0 _ 1 Tryz.underlying25 hi0 hz0 hz1 hz2 rfl (World.ownsRow_made w #[] 0 (Nat.le_refl _) (by simp [maxLen]) rfl) rfl (HR.out.alloc _) rfl (oneCell_ints _ _) (by simp only [maxLen];omega) (by omega) (by simp) ?_
       intro v1 w1 hown1 hg1 _hat1 _hold1
       rw [Nat.zero_add,List.nil_append]at hown1
       obtain⟨A1,c1,rfl⟩:=own_form hown1
       have hk1:Keep (fun _=>False) w w1:=((Keep.refl _ w).alloc _).grown hg1 (fun k hk=>.inr (by simp [Value.ownBlock]at hk;omega))
       have H1:=hid hown1
       have HK1:=hid hk1
       have g2:=hk1.cell h2 (fun h=>h)
       have g1:=hk1.cell h1 (fun h=>h)
       have hs1:=hk1.size
       clear hown1 hg1 _hat1 _hold1 hk1
      |refine wpList_append_one w1 rfl (.tmp 29) (.tmp 35) _ rfl w.heap.size 5 i0 _ 1 Tryz.underlying25 hi0 hz0 hz1 hz2 rfl H1.out rfl _ rfl rfl (by simp only [maxLen];omega) (by omega) (by omega) ?_
       intro v2 w2 hown2 hg2 _hat2 _hold2
       obtain⟨A2,c2,rfl⟩:=own_form hown2
       obtain⟨g,rfl,hgc,hgb,hgl,hgf⟩:=own_at hown2 (by omega)
       have gu:w2.cell? ⟨g,n,none⟩=some (.int .u8 (u%256)):=hgl n _ (by rw [← hlb];simp)
       have hk2:Keep (fun _=>False) w w2:=(HK1.out.alloc _).grown hg2 (fun k hk=>.inr (H1.out.lt k hk).1)
       have H2:=hid (show w2.ownsRow w.heap.size 5 1 (.slice (some ⟨g,0,none⟩) (n+1) c2) (n+1) ((b++[(u%256)]).map (Value.int .u8)) by simpa using hown2)
       have HK2:=hid hk2
       have hs2:=hk2.size
       clear hown2 hg2 _hat2 _hold2 hk2 hgl hgf
      )
     go_ret
     rw [HM.out]
     exact bytesP_mk H2.out HK2.out
 · have HM:=hid (show rbytesM b u f=b by unfold rbytesM outB;rw [ht,if_neg hf,List.eq_nil_of_length_eq_zero (l:=b) (by omega)];decide)
   go_enter Tryz.func69,Tryz.ntmps69
   go_wp2_with (
    at_builtin
    first
    |refine wpList_append_src _ rfl (.tmp 5) (.tmp 9) _ rfl w.heap.size 5 i0 _ 1 Tryz.underlying25 hi0 hz0 hz1 hz2 rfl (World.ownsRow_made w #[] 0 (Nat.le_refl _) (by simp [maxLen]) rfl) rfl (HR.out.alloc _) rfl (oneCell_ints _ _) (by simp only [maxLen];omega) (by omega) (by simp) ?_
     intro v1 w1 hown1 hg1 _hat1 _hold1
     rw [Nat.zero_add,List.nil_append]at hown1
     obtain⟨A1,c1,rfl⟩:=own_form hown1
     have hk1:Keep (fun _=>False) w w1:=((Keep.refl _ w).alloc _).grown hg1 (fun k hk=>.inr (by simp [Value.ownBlock]at hk;omega))
     have H1:=hid hown1
     have HK1:=hid hk1
     have g2:=hk1.cell h2 (fun h=>h)
     have g1:=hk1.cell h1 (fun h=>h)
     have hs1:=hk1.size
     clear hown1 hg1 _hat1 _hold1 hk1
    )
   go_ret
   rw [HM.out]
   exact bytesP_mk H1.out HK1.out
theorem rbytes_full (w:World) (base W:Nat) (A:Option Addr) (c:Nat) (b:List Int) (u f:Int) (m:Nat) (h:RW0 w base W A (m+1) c b u f) (hn:m+1≤1073741824) (hz:lastM b=255):
 Calls Tryz.prog 69 #[.pointer (some ⟨W,0,none⟩)] w (BytesP w (rbytesM b u f)):=by
 obtain⟨i0,hi0,hz0,hz1,hz2⟩:=info_parts info_u8
 have h0:(w.alloc (.cells #[] 5)).cell? ⟨W,0,none⟩=some (.slice A (m+1) c):=(h.blk.alloc _).cell 0
 have h1:w.cell? ⟨W,1,none⟩=some (.int .i64 u):=h.blk.cell 1
 have h2:w.cell? ⟨W,2,none⟩=some (.int .i64 f):=h.blk.cell 2
 have HR:=hid (Rd.of_own h.own)
 have hlb:=h.len
 clear h
 have ht:topM b=7:=by unfold topM;simp [hz]
 have hz':(lastM b==255)=true:=by simpa using hz
 have wm:IntKind.i64.wrap (((m+1:Nat):Int)-1)=(m:Int):=by rw [IntWalk.i64_in _ (by omega)];omega
 by_cases hf:f<7
 · by_cases hu:u%256=255
   · have HM:=hid (show rbytesM b u f=(b++[255])++[0] by unfold rbytesM outB;rw [ht,if_pos hf,lastM_snoc,if_pos hu,hu])
     go_enter Tryz.func69,Tryz.ntmps69
     go_wp2_with (
      at_builtin
      first
      |refine wpList_append_src _ rfl (.tmp 5) (.tmp 9) _ rfl w.heap.size 5 i0 _ 1 Tryz.underlying25 hi0 hz0 hz1 hz2 rfl (World.ownsRow_made w #[] 0 (Nat.le_refl _) (by simp [maxLen]) rfl) rfl (HR.out.alloc _) rfl (oneCell_ints _ _) (by simp only [maxLen];omega) (by omega) (by simp) ?_
       intro v1 w1 hown1 hg1 _hat1 _hold1
       rw [Nat.zero_add,List.nil_append]at hown1
       obtain⟨A1,c1,rfl⟩:=own_form hown1
       have hk1:Keep (fun _=>False) w w1:=((Keep.refl _ w).alloc _).grown hg1 (fun k hk=>.inr (by simp [Value.ownBlock]at hk;omega))
       have H1:=hid hown1
       have HK1:=hid hk1
       have g2:=hk1.cell h2 (fun h=>h)
       have g1:=hk1.cell h1 (fun h=>h)
       have hs1:=hk1.size
       clear hown1 hg1 _hat1 _hold1 hk1
       obtain⟨gg,rfl,hgc1,hgb1,hgl1,_⟩:=own_at H1.out (by omega)
       have gz:=lastM_at hgl1 hlb
       clear hgl1
      |refine wpList_append_one w1 rfl (.tmp 29) (.tmp 35) _ rfl w.heap.size 5 i0 _ 1 Tryz.underlying25 hi0 hz0 hz1 hz2 rfl H1.out rfl _ rfl rfl (by simp only [maxLen];omega) (by omega) (by omega) ?_
       intro v2 w2 hown2 hg2 _hat2 _hold2
       obtain⟨A2,c2,rfl⟩:=own_form hown2
       obtain⟨g,rfl,hgc,hgb,hgl,hgf⟩:=own_at hown2 (by omega)
       have gu:w2.cell? ⟨g,(m+1),none⟩=some (.int .u8 255):=hgl (m+1) _ (by rw [← hlb];simp)
       have hk2:Keep (fun _=>False) w w2:=(HK1.out.alloc _).grown hg2 (fun k hk=>.inr (H1.out.lt k hk).1)
       have H2:=hid (show w2.ownsRow w.heap.size 5 1 (.slice (some ⟨g,0,none⟩) ((m+1)+1) c2) ((m+1)+1) ((b++[255]).map (Value.int .u8)) by simpa using hown2)
       have HK2:=hid hk2
       have hs2:=hk2.size
       clear hown2 hg2 _hat2 _hold2 hk2 hgl hgf
      |refine wpList_append_one w2 rfl (.tmp 49) (.tmp 50) _ rfl w.heap.size 5 i0 _ 1 Tryz.underlying25 hi0 hz0 hz1 hz2 rfl H2.out rfl _ rfl rfl (by simp only [maxLen];omega) (by omega) (by omega) ?_
       intro v3 w3 hown3 hg3 _hat3 _hold3
       obtain⟨A3,c3,rfl⟩:=own_form hown3
       have H3:=hid (show w3.ownsRow w.heap.size 5 1 (.slice A3 (((m+1)+1)+1) c3) (((m+1)+1)+1) (((b++[255])++[0]).map (Value.int .u8)) by simpa using hown3)
       have HK3:=hid (show Keep (fun _=>False) w w3 from(HK2.out.alloc _).grown hg3 (fun k hk=>.inr (H2.out.lt k hk).1))
       clear hown3 hg3 _hat3 _hold3
      )
     go_ret
     rw [HM.out]
     exact bytesP_mk H3.out HK3.out
   · have HM:=hid (show rbytesM b u f=b++[u%256] by unfold rbytesM outB;rw [ht,if_pos hf,lastM_snoc,if_neg hu])
     have hu':(u%256==255)=false:=by simpa using hu
     go_enter Tryz.func69,Tryz.ntmps69
     go_wp2_with (
      at_builtin
      first
      |refine wpList_append_src _ rfl (.tmp 5) (.tmp 9) _ rfl w.heap.size 5 i0 _ 1 Tryz.underlying25 hi0 hz0 hz1 hz2 rfl (World.ownsRow_made w #[] 0 (Nat.le_refl _) (by simp [maxLen]) rfl) rfl (HR.out.alloc _) rfl (oneCell_ints _ _) (by simp only [maxLen];omega) (by omega) (by simp) ?_
       intro v1 w1 hown1 hg1 _hat1 _hold1
       rw [Nat.zero_add,List.nil_append]at hown1
       obtain⟨A1,c1,rfl⟩:=own_form hown1
       have hk1:Keep (fun _=>False) w w1:=((Keep.refl _ w).alloc _).grown hg1 (fun k hk=>.inr (by simp [Value.ownBlock]at hk;omega))
       have H1:=hid hown1
       have HK1:=hid hk1
       have g2:=hk1.cell h2 (fun h=>h)
       have g1:=hk1.cell h1 (fun h=>h)
       have hs1:=hk1.size
       clear hown1 hg1 _hat1 _hold1 hk1
       obtain⟨gg,rfl,hgc1,hgb1,hgl1,_⟩:=own_at H1.out (by omega)
       have gz:=lastM_at hgl1 hlb
       clear hgl1
      |refine wpList_append_one w1 rfl (.tmp 29) (.tmp 35) _ rfl w.heap.size 5 i0 _ 1 Tryz.underlying25 hi0 hz0 hz1 hz2 rfl H1.out rfl _ rfl rfl (by simp only [maxLen];omega) (by omega) (by omega) ?_
       intro v2 w2 hown2 hg2 _hat2 _hold2
       obtain⟨A2,c2,rfl⟩:=own_form hown2
       obtain⟨g,rfl,hgc,hgb,hgl,hgf⟩:=own_at hown2 (by omega)
       have gu:w2.cell? ⟨g,(m+1),none⟩=some (.int .u8 (u%256)):=hgl (m+1) _ (by rw [← hlb];simp)
       have hk2:Keep (fun _=>False) w w2:=(HK1.out.alloc _).grown hg2 (fun k hk=>.inr (H1.out.lt k hk).1)
       have H2:=hid (show w2.ownsRow w.heap.size 5 1 (.slice (some ⟨g,0,none⟩) ((m+1)+1) c2) ((m+1)+1) ((b++[(u%256)]).map (Value.int .u8)) by simpa using hown2)
       have HK2:=hid hk2
       have hs2:=hk2.size
       clear hown2 hg2 _hat2 _hold2 hk2 hgl hgf
      )
     go_ret
     rw [HM.out]
     exact bytesP_mk H2.out HK2.out
 · have HM:=hid (show rbytesM b u f=b++[0] by unfold rbytesM outB;rw [ht,if_neg hf,if_pos hz])
   go_enter Tryz.func69,Tryz.ntmps69
   go_wp2_with (
    at_builtin
    first
    |refine wpList_append_src _ rfl (.tmp 5) (.tmp 9) _ rfl w.heap.size 5 i0 _ 1 Tryz.underlying25 hi0 hz0 hz1 hz2 rfl (World.ownsRow_made w #[] 0 (Nat.le_refl _) (by simp [maxLen]) rfl) rfl (HR.out.alloc _) rfl (oneCell_ints _ _) (by simp only [maxLen];omega) (by omega) (by simp) ?_
     intro v1 w1 hown1 hg1 _hat1 _hold1
     rw [Nat.zero_add,List.nil_append]at hown1
     obtain⟨A1,c1,rfl⟩:=own_form hown1
     have hk1:Keep (fun _=>False) w w1:=((Keep.refl _ w).alloc _).grown hg1 (fun k hk=>.inr (by simp [Value.ownBlock]at hk;omega))
     have H1:=hid hown1
     have HK1:=hid hk1
     have g2:=hk1.cell h2 (fun h=>h)
     have g1:=hk1.cell h1 (fun h=>h)
     have hs1:=hk1.size
     clear hown1 hg1 _hat1 _hold1 hk1
     obtain⟨gg,rfl,hgc1,hgb1,hgl1,_⟩:=own_at H1.out (by omega)
     have gz:=lastM_at hgl1 hlb
     clear hgl1
    |refine wpList_append_one w1 rfl (.tmp 49) (.tmp 50) _ rfl w.heap.size 5 i0 _ 1 Tryz.underlying25 hi0 hz0 hz1 hz2 rfl H1.out rfl _ rfl rfl (by simp only [maxLen];omega) (by omega) (by omega) ?_
     intro v3 w3 hown3 hg3 _hat3 _hold3
     obtain⟨A3,c3,rfl⟩:=own_form hown3
     have H3:=hid (show w3.ownsRow w.heap.size 5 1 (.slice A3 ((m+1)+1) c3) ((m+1)+1) ((b++[0]).map (Value.int .u8)) by simpa using hown3)
     have HK3:=hid (show Keep (fun _=>False) w w3 from(HK1.out.alloc _).grown hg3 (fun k hk=>.inr (H1.out.lt k hk).1))
     clear hown3 hg3 _hat3 _hold3
    )
   go_ret
   rw [HM.out]
   exact bytesP_mk H3.out HK3.out
theorem rbytes_free (w:World) (base W:Nat) (A:Option Addr) (c:Nat) (b:List Int) (u f:Int) (m:Nat) (h:RW0 w base W A (m+1) c b u f) (hn:m+1≤1073741824) (hz:¬lastM b=255):
 Calls Tryz.prog 69 #[.pointer (some ⟨W,0,none⟩)] w (BytesP w (rbytesM b u f)):=by
 obtain⟨i0,hi0,hz0,hz1,hz2⟩:=info_parts info_u8
 have h0:(w.alloc (.cells #[] 5)).cell? ⟨W,0,none⟩=some (.slice A (m+1) c):=(h.blk.alloc _).cell 0
 have h1:w.cell? ⟨W,1,none⟩=some (.int .i64 u):=h.blk.cell 1
 have h2:w.cell? ⟨W,2,none⟩=some (.int .i64 f):=h.blk.cell 2
 have HR:=hid (Rd.of_own h.own)
 have hlb:=h.len
 clear h
 have ht:topM b=8:=by unfold topM;simp [hz]
 have hz':(lastM b==255)=false:=by simpa using hz
 have wm:IntKind.i64.wrap (((m+1:Nat):Int)-1)=(m:Int):=by rw [IntWalk.i64_in _ (by omega)];omega
 by_cases hf:f<8
 · by_cases hu:u%256=255
   · have HM:=hid (show rbytesM b u f=(b++[255])++[0] by unfold rbytesM outB;rw [ht,if_pos hf,lastM_snoc,if_pos hu,hu])
     go_enter Tryz.func69,Tryz.ntmps69
     go_wp2_with (
      at_builtin
      first
      |refine wpList_append_src _ rfl (.tmp 5) (.tmp 9) _ rfl w.heap.size 5 i0 _ 1 Tryz.underlying25 hi0 hz0 hz1 hz2 rfl (World.ownsRow_made w #[] 0 (Nat.le_refl _) (by simp [maxLen]) rfl) rfl (HR.out.alloc _) rfl (oneCell_ints _ _) (by simp only [maxLen];omega) (by omega) (by simp) ?_
       intro v1 w1 hown1 hg1 _hat1 _hold1
       rw [Nat.zero_add,List.nil_append]at hown1
       obtain⟨A1,c1,rfl⟩:=own_form hown1
       have hk1:Keep (fun _=>False) w w1:=((Keep.refl _ w).alloc _).grown hg1 (fun k hk=>.inr (by simp [Value.ownBlock]at hk;omega))
       have H1:=hid hown1
       have HK1:=hid hk1
       have g2:=hk1.cell h2 (fun h=>h)
       have g1:=hk1.cell h1 (fun h=>h)
       have hs1:=hk1.size
       clear hown1 hg1 _hat1 _hold1 hk1
       obtain⟨gg,rfl,hgc1,hgb1,hgl1,_⟩:=own_at H1.out (by omega)
       have gz:=lastM_at hgl1 hlb
       clear hgl1
      |refine wpList_append_one w1 rfl (.tmp 29) (.tmp 35) _ rfl w.heap.size 5 i0 _ 1 Tryz.underlying25 hi0 hz0 hz1 hz2 rfl H1.out rfl _ rfl rfl (by simp only [maxLen];omega) (by omega) (by omega) ?_
       intro v2 w2 hown2 hg2 _hat2 _hold2
       obtain⟨A2,c2,rfl⟩:=own_form hown2
       obtain⟨g,rfl,hgc,hgb,hgl,hgf⟩:=own_at hown2 (by omega)
       have gu:w2.cell? ⟨g,(m+1),none⟩=some (.int .u8 255):=hgl (m+1) _ (by rw [← hlb];simp)
       have hk2:Keep (fun _=>False) w w2:=(HK1.out.alloc _).grown hg2 (fun k hk=>.inr (H1.out.lt k hk).1)
       have H2:=hid (show w2.ownsRow w.heap.size 5 1 (.slice (some ⟨g,0,none⟩) ((m+1)+1) c2) ((m+1)+1) ((b++[255]).map (Value.int .u8)) by simpa using hown2)
       have HK2:=hid hk2
       have hs2:=hk2.size
       clear hown2 hg2 _hat2 _hold2 hk2 hgl hgf
      |refine wpList_append_one w2 rfl (.tmp 49) (.tmp 50) _ rfl w.heap.size 5 i0 _ 1 Tryz.underlying25 hi0 hz0 hz1 hz2 rfl H2.out rfl _ rfl rfl (by simp only [maxLen];omega) (by omega) (by omega) ?_
       intro v3 w3 hown3 hg3 _hat3 _hold3
       obtain⟨A3,c3,rfl⟩:=own_form hown3
       have H3:=hid (show w3.ownsRow w.heap.size 5 1 (.slice A3 (((m+1)+1)+1) c3) (((m+1)+1)+1) (((b++[255])++[0]).map (Value.int .u8)) by simpa using hown3)
       have HK3:=hid (show Keep (fun _=>False) w w3 from(HK2.out.alloc _).grown hg3 (fun k hk=>.inr (H2.out.lt k hk).1))
       clear hown3 hg3 _hat3 _hold3
      )
     go_ret
     rw [HM.out]
     exact bytesP_mk H3.out HK3.out
   · have HM:=hid (show rbytesM b u f=b++[u%256] by unfold rbytesM outB;rw [ht,if_pos hf,lastM_snoc,if_neg hu])
     have hu':(u%256==255)=false:=by simpa using hu
     go_enter Tryz.func69,Tryz.ntmps69
     go_wp2_with (
      at_builtin
      first
      |refine wpList_append_src _ rfl (.tmp 5) (.tmp 9) _ rfl w.heap.size 5 i0 _ 1 Tryz.underlying25 hi0 hz0 hz1 hz2 rfl (World.ownsRow_made w #[] 0 (Nat.le_refl _) (by simp [maxLen]) rfl) rfl (HR.out.alloc _) rfl (oneCell_ints _ _) (by simp only [maxLen];omega) (by omega) (by simp) ?_
       intro v1 w1 hown1 hg1 _hat1 _hold1
       rw [Nat.zero_add,List.nil_append]at hown1
       obtain⟨A1,c1,rfl⟩:=own_form hown1
       have hk1:Keep (fun _=>False) w w1:=((Keep.refl _ w).alloc _).grown hg1 (fun k hk=>.inr (by simp [Value.ownBlock]at hk;omega))
       have H1:=hid hown1
       have HK1:=hid hk1
       have g2:=hk1.cell h2 (fun h=>h)
       have g1:=hk1.cell h1 (fun h=>h)
       have hs1:=hk1.size
       clear hown1 hg1 _hat1 _hold1 hk1
       obtain⟨gg,rfl,hgc1,hgb1,hgl1,_⟩:=own_at H1.out (by omega)
       have gz:=lastM_at hgl1 hlb
       clear hgl1
      |refine wpList_append_one w1 rfl (.tmp 29) (.tmp 35) _ rfl w.heap.size 5 i0 _ 1 Tryz.underlying25 hi0 hz0 hz1 hz2 rfl H1.out rfl _ rfl rfl (by simp only [maxLen];omega) (by omega) (by omega) ?_
       intro v2 w2 hown2 hg2 _hat2 _hold2
       obtain⟨A2,c2,rfl⟩:=own_form hown2
       obtain⟨g,rfl,hgc,hgb,hgl,hgf⟩:=own_at hown2 (by omega)
       have gu:w2.cell? ⟨g,(m+1),none⟩=some (.int .u8 (u%256)):=hgl (m+1) _ (by rw [← hlb];simp)
       have hk2:Keep (fun _=>False) w w2:=(HK1.out.alloc _).grown hg2 (fun k hk=>.inr (H1.out.lt k hk).1)
       have H2:=hid (show w2.ownsRow w.heap.size 5 1 (.slice (some ⟨g,0,none⟩) ((m+1)+1) c2) ((m+1)+1) ((b++[(u%256)]).map (Value.int .u8)) by simpa using hown2)
       have HK2:=hid hk2
       have hs2:=hk2.size
       clear hown2 hg2 _hat2 _hold2 hk2 hgl hgf
      )
     go_ret
     rw [HM.out]
     exact bytesP_mk H2.out HK2.out
 · have HM:=hid (show rbytesM b u f=b by unfold rbytesM outB;rw [ht,if_neg hf,if_neg hz])
   go_enter Tryz.func69,Tryz.ntmps69
   go_wp2_with (
    at_builtin
    first
    |refine wpList_append_src _ rfl (.tmp 5) (.tmp 9) _ rfl w.heap.size 5 i0 _ 1 Tryz.underlying25 hi0 hz0 hz1 hz2 rfl (World.ownsRow_made w #[] 0 (Nat.le_refl _) (by simp [maxLen]) rfl) rfl (HR.out.alloc _) rfl (oneCell_ints _ _) (by simp only [maxLen];omega) (by omega) (by simp) ?_
     intro v1 w1 hown1 hg1 _hat1 _hold1
     rw [Nat.zero_add,List.nil_append]at hown1
     obtain⟨A1,c1,rfl⟩:=own_form hown1
     have hk1:Keep (fun _=>False) w w1:=((Keep.refl _ w).alloc _).grown hg1 (fun k hk=>.inr (by simp [Value.ownBlock]at hk;omega))
     have H1:=hid hown1
     have HK1:=hid hk1
     have g2:=hk1.cell h2 (fun h=>h)
     have g1:=hk1.cell h1 (fun h=>h)
     have hs1:=hk1.size
     clear hown1 hg1 _hat1 _hold1 hk1
     obtain⟨gg,rfl,hgc1,hgb1,hgl1,_⟩:=own_at H1.out (by omega)
     have gz:=lastM_at hgl1 hlb
     clear hgl1
    )
   go_ret
   rw [HM.out]
   exact bytesP_mk H1.out HK1.out
theorem rbytes_any (w:World) (base W:Nat) (A:Option Addr) (n c:Nat) (l:List Int) (r:Int) (h:RWr w base W A n c l r) (hi:BInv l r) (hn:l.length≤1073741824):
 Calls Tryz.prog 69 #[.pointer (some ⟨W,0,none⟩)] w (BytesP w (outB l)):=by
 have e:rbytesM (refB l r) (curM l r) (freeM l r)=outB l:=by
  unfold rbytesM
  by_cases hr:r=0
  · have e1:refB l r=l:=if_pos hr
    have e3:freeM l r=topM l:=if_pos hr
    rw [e1,e3,if_neg (by omega)]
  · have hr0:=hi.r0
    have e1:refB l r=l.dropLast:=if_neg hr
    have e2:curM l r=lastM l:=if_neg hr
    have e3:freeM l r=r:=if_neg hr
    have hb:=lastM_byte hi.bytes
    have hm:lastM l%256=lastM l:=by omega
    rw [e1,e2,e3,if_pos (hi.top (by omega)),hm,snoc_last l (hi.some_ (by omega))]
 rw [← e]
 have hl:=refB_le l r
 have hn':=RW0.len h
 rcases Nat.eq_zero_or_pos n with h0|h0
 · exact rbytes_nil w base W A c _ _ _ n h (by omega)
 · obtain⟨m,rfl⟩: ∃m,n=m+1:=⟨n-1,by omega⟩
   by_cases hz:lastM (refB l r)=255
   · exact rbytes_full w base W A c _ _ _ m h (by omega) hz
   · exact rbytes_free w base W A c _ _ _ m h (by omega) hz
theorem newrw_any (w:World):
 Calls Tryz.prog 65 #[] w fun e w'=>e=.returned (.pointer (some ⟨w.heap.size,0,none⟩))∧RWr w' w.heap.size w.heap.size none 0 0 [] 0∧Keep (fun _=>False) w w':=by
 go_enter Tryz.func65,Tryz.ntmps65
 go_wp2_with fail
 go_ret
 refine⟨rfl,⟨?_,?_⟩,(Keep.refl _ w).alloc _⟩
 · exact Blk.new _ _ _
 · exact World.ownsRow_nil _ _ _ _
theorem foot_grew {w:World} {W:Nat} {A A1:Option Addr} (g:Grew w A A1) (k:Nat) (h:foot W A1 k):foot W A k∨w.heap.size≤k:=by
 rcases h with h|⟨ad,e,h⟩
 · exact .inl (.inl h)
 · rcases g ad e with⟨a0,e0,h'⟩|h'
   · exact .inl (.inr ⟨a0,e0,by omega⟩)
   · exact .inr (by omega)
theorem RW0.foot_lt {w:World} {base W:Nat} {A:Option Addr} {n c:Nat} {b:List Int} {u f:Int} (h:RW0 w base W A n c b u f) (k:Nat) (hk:foot W A k):k<w.heap.size:=by
 rcases hk with rfl|⟨ad,e,rfl⟩
 · exact h.blk.lt
 · exact(own_foot_lt h.own ad e).2
end Go.Proofs.YthfogcgdijmaoaaGreat.Bw
