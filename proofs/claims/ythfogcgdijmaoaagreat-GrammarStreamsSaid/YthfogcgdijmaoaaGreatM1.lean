/-
  Part 1 of the proof: Make0 MakeS MakeT Given. Conditions: those of the statements.
-/
import Derived.Test.YthfogcgdijmaoaaGreatJ46
import Derived.Test.YthfogcgdijmaoaaGreatJ14
import Derived.Deep.DeepCutAuto
import Derived.Test.YthfogcgdijmaoaaGreatJ4
set_option maxRecDepth 100000
set_option maxHeartbeats 16000000
set_option linter.unusedVariables false
set_option linter.unusedSimpArgs false
namespace Go.Proofs.YthfogcgdijmaoaaGreat
open Go.RowKit
theorem tiles12_any (w:World) (m:Im) (p:Pm) (nx ny:Nat) (hox:0≤m.ox) (hx:m.ox<m.x) (hx64:m.x≤64) (hoy:0≤m.oy) (hy:m.oy<m.y) (hy64:m.y≤64) (htx:m.ox<p.tx) (htx2:p.tx≤65536) (hty:m.oy<p.ty) (hty2:p.ty≤65536)
 (hnx:ceilI m.x p.tx=nx) (hny:ceilI m.y p.ty=ny):
 Calls Tryz.prog 17 #[.agg m.cells,.agg p.cells] w fun e w'=>e=.returned (.int .i64 (nx*ny:Nat))∧Keep (fun _=>False) w w':=by
 have TIL:=hid (fun w=>tiles_any w m p nx ny hox hx hx64 hoy hy hy64 htx htx2 hty hty2 hnx hny)
 have HB1:=hid ((Blk.new w 29 m.cells).alloc (.cells p.cells 31))
 have HB2:=hid (Blk.new1 w (.cells m.cells 29) 31 p.cells)
 have HK0:=hid (((Keep.refl (fun _=>False) w).alloc (.cells m.cells 29)).alloc (.cells p.cells 31))
 clear hnx hny
 go_enter Tryz.func17,Tryz.ntmps17
 go_wp2_with (first|(refine wpList_load_row rfl _ _ rfl _ rfl _ _ _ _ HB1.out Tryz.underlying29 rfl (by kernel_rfl) ?_)|(refine wpList_load_row rfl _ _ rfl _ rfl _ _ _ _ HB2.out Tryz.underlying31 rfl (by kernel_rfl) ?_))
 refine(TIL.out _).mono ?_
 rintro e w4 ⟨TA,tc,rs,rfl,_,_,_,_,_,hk4⟩
 have HZ:=hid (HK0.out.trans hk4 (fun _ _ h=>h))
 obtain⟨N,hN⟩: ∃N,nx*ny=N:=⟨_,rfl⟩
 rw [hN]
 have HN:=hid hN
 clear hk4 hN
 go_wp2_with fail
 go_ret
 exact⟨by rw [HN.out];rfl,HZ.out⟩
def Cm.val (c:Cm):Value:=.agg c.cells
theorem cpart_any (w:World) (m:Im) (C:Cm) (hf:m.whole.fits 16777216) (hx1:1≤C.dx) (hx2:C.dx≤4) (hy1:1≤C.dy) (hy2:C.dy≤4) (hpf:(m.whole.part C.dx C.dy).fits 16777216):
 Calls Tryz.prog 19 #[.agg m.cells,.agg C.cells] w fun e w'=>e=.returned (.int .i64 (m.whole.part C.dx C.dy).area)∧Keep (fun _=>False) w w':=by
 have WHO:Hid (∀ w,Calls Tryz.prog 32 #[.agg m.cells] w fun e w'=>e=.returned (.agg m.whole.cells)∧Keep (fun _=>False) w w'):=hid (fun w=>whole_any w m)
 have PAR:Hid (∀ w,Calls Tryz.prog 31 #[.agg m.whole.cells,.int .i64 C.dx,.int .i64 C.dy] w fun e w'=>e=.returned (.agg (m.whole.part C.dx C.dy).cells)∧Keep (fun _=>False) w w'):=hid (fun w=>part_any w m.whole C.dx C.dy hf ⟨by omega,by omega⟩ ⟨by omega,by omega⟩)
 have ARE:Hid (∀ w,Calls Tryz.prog 30 #[.agg (m.whole.part C.dx C.dy).cells] w fun e w'=>e=.returned (.int .i64 (m.whole.part C.dx C.dy).area)∧Keep (fun _=>False) w w'):=hid (fun w=>area_any w (m.whole.part C.dx C.dy) hpf)
 have HB1:=hid ((Blk.new w 29 m.cells).alloc (.cells C.cells 52))
 have HB2:=hid (Blk.new1 w (.cells m.cells 29) 52 C.cells)
 have HK0:=hid (((Keep.refl (fun _=>False) w).alloc (.cells m.cells 29)).alloc (.cells C.cells 52))
 generalize (m.whole.part C.dx C.dy).area=ar at*
 clear hf hpf
 go_enter Tryz.func19,Tryz.ntmps19
 go_upto_region 1 with fail
 generalize (w.alloc (.cells m.cells 29)).alloc (.cells C.cells 52)=w1 at*
 have dm:w1.drew.rangeAt w.heap.size 0 m.cells.toList:=HB1.out.drew.range
 have x2:w1.drew.cell? ⟨w.heap.size+1,2,none⟩=some (.int .i64 C.dx):=HB2.out.cell 2
 have x3:w1.drew.cell? ⟨w.heap.size+1,3,none⟩=some (.int .i64 C.dy):=HB2.out.cell 3
 have HKK:=hid (Keep.refl (fun _=>False) w1.drew)
 refine At.start (L:=#[false,false,false,false,false,false,false,false,false]) (by kernel_rfl) rfl ?_
 first|refine AtL 0 (some 5) Tryz.underlying29 ?_|refine AtR 0 (some 5) Tryz.underlying29 ?_
 try simp only [NS]
 refine AtP 2 (some 7) ?_
 try simp only [NS]
 first|refine AtL 3 (some 8) Tryz.underlying3 ?_|refine AtR 3 (some 8) Tryz.underlying3 ?_
 try simp only [NS]
 refine AtP 4 (some 9) ?_
 try simp only [NS]
 first|refine AtL 5 (some 10) Tryz.underlying3 ?_|refine AtR 5 (some 10) Tryz.underlying3 ?_
 try simp only [NS]
 refine At.call_all 1 rfl (by kernel_rfl) rfl (fun K hK=>?_)
 go_simp
 refine(WHO.out _).mono ?_
 rintro e w5 ⟨rfl,hk5⟩
 replace HKK:=hid (HKK.out.trans hk5 (fun _ _ h=>h))
 refine hK _ _ (by repeat' first|exact all_nil|refine all_cons (by first|exact HKK.out.cell (by assumption) (fun h=>h)|exact range_keep (by assumption) HKK.out (fun h=>h)) ?_) ?_
 clear hK K
 try simp only [NS]
 refine AtC 6 fun K hK=>?_
 go_simp
 refine(PAR.out _).mono ?_
 rintro e w6 ⟨rfl,hk6⟩
 replace HKK:=hid (HKK.out.trans hk6 (fun _ _ h=>h))
 refine hK _ _ all_nil ?_
 clear hK K
 try simp only [NS]
 refine AtC 7 fun K hK=>?_
 go_simp
 refine(ARE.out _).mono ?_
 rintro e w7 ⟨rfl,hk7⟩
 replace HKK:=hid (HKK.out.trans hk7 (fun _ _ h=>h))
 refine hK _ _ all_nil ?_
 clear hK K
 try simp only [NS]
 refine AtP 8 (some 4) ?_
 try simp only [NS]
 refine At.done (by kernel_rfl) ?_
 have HZ:=hid (HK0.out.trans (((Keep.refl (fun _=>False) w1).drew).trans HKK.out (fun _ _ h=>h)) (fun _ _ h=>h))
 clear hk5 hk6 hk7
 go_wp2_with fail
 go_ret
 exact⟨rfl,HZ.out⟩
section
variable {t91 :TypeId} {G G':Nat→Option Kd} {w0 w w':World} {us:List Un} {bl:Option (Nat×Array Value)}
theorem Wk.other {S:Nat→Prop} (h:Wk t91 G w0 us bl w) (hk:Keep S w w') (hS: ∀j,S j→G j=none∧w0.heap.size≤j) (hu: ∀(i:Nat) (u:Un) (a:Addr),us[i]?=some u→u.A=some a→ ¬S a.block) (hb: ∀g cs,bl=some (g,cs)→ ¬S g):Wk t91 G w0 us bl w'∧Nx G w G w':=by
 refine⟨⟨h.fits.keep hk (fun j hj=>(hS j hj).1),h.keep.new hk (fun j hj=>(hS j hj).2),fun i u hi=>?_,h.ap,fun g cs hg=>?_⟩,Mono.refl,S,hk,fun j hj e=>by rw [(hS j hj).1]at e;cases e⟩
 · obtain⟨h1,h2⟩:=h.un i u hi
   refine⟨own_keep h1 hk (fun j e hs=>?_),h2⟩
   obtain⟨a,ea,rfl⟩:=own_some e
   exact hu i u a hi ea hs
 · obtain⟨h1,h2,h3,h4⟩:=h.bk g cs hg
   exact⟨h1.keep hk (hb g cs hg),h2,h3,h4⟩
end
theorem Wk.finG {t91:TypeId} {G:Nat→Option Kd} {w0 w:World} {us:List Un} {bl:Option (Nat×Array Value)} {u:Un} (h:Wk t91 G w0 (us++[u]) bl w) (hsz:0<u.size): ∃G',Wk t91 G' w0 us bl w∧Nx G w G' w∧Ro G' w u.A u.n u.size u.xs∧w.ownsRow w0.heap.size u.e u.size (.slice u.A u.n u.c) u.n u.xs∧ ∀b,(∀ a,u.A=some a→a.block≠b)→G' b=G b:=by
 have hu:(us++[u])[us.length]?=some u:=by simp
 obtain⟨h1,h2⟩:=h.un _ u hu
 have hle: ∀(i:Nat) (v:Un),us[i]?=some v→(us++[u])[i]?=some v∧i≠us.length:=fun i v hv=>by
  have:=(List.getElem?_eq_some_iff.1 hv).1
  exact⟨by rw [List.getElem?_append_left this];exact hv,by omega⟩
 have hr:=RdS.of_own h1
 cases hA:u.A with
 |none=>
  refine⟨G,⟨h.fits,h.keep,fun i v hv=>h.un i v (hle i v hv).1,fun i j v x hij hv hx=>h.ap i j v x hij (hle i v hv).1 (hle j x hx).1,fun g cs hg=>?_⟩,Nx.refl,by rw [← hA];exact⟨hr,fun a e=>by rw [hA]at e;cases e⟩,by rw [← hA];exact h1,fun _ _=>rfl⟩
  obtain⟨a1,a2,a3,a4⟩:=h.bk g cs hg
  exact⟨a1,a2,a3,fun i v a hv ea=>a4 i v a (hle i v hv).1 ea⟩
 |some a=>
  have hb:=own_blt h1 hA
  have hn:=h2 a hA
  have hne: ∀(i:Nat) (v:Un) (b:Addr),us[i]?=some v→v.A=some b→b.block≠a.block:=fun i v b hv eb=>h.ap i us.length v u (hle i v hv).2 (hle i v hv).1 hu b a eb hA
  refine⟨upd G a.block .ro,⟨h.fits.add hn hb.1 hb.2 trivial,h.keep,fun i v hv=>?_,fun i j v x hij hv hx=>h.ap i j v x hij (hle i v hv).1 (hle j x hx).1,fun g cs hg=>?_⟩,Nx.mono (fun j q hq=>upd_some hn hq),by rw [← hA];exact⟨hr,fun a' e=>by rw [hA]at e;injection e with e;rw [← e];exact upd_self⟩,by rw [← hA];exact h1,fun b hb'=>upd_ne (fun e=>hb' a rfl e.symm)⟩
  · obtain⟨a1,a2⟩:=h.un i v (hle i v hv).1
    exact⟨a1,fun b eb=>by rw [upd_ne (hne i v b hv eb)];exact a2 b eb⟩
  · obtain⟨a1,a2,a3,a4⟩:=h.bk g cs hg
    exact⟨a1,by rw [upd_ne (fun e=>a4 us.length u a hu hA e.symm)];exact a2,a3,fun i v b hv eb=>a4 i v b (hle i v hv).1 eb⟩
def zIm :Array Value:=#[.int .i64 0,.int .i64 0,.int .i64 0,.int .i64 0,.slice none 0 0]
def zPm :Array Value:=#[.int .i64 0,.int .i64 0,.int .i64 0,.int .i64 0,.int .i64 0,.int .i64 0,.int .i64 0,.int .i64 0,.int .i64 0,.bool false,.bool false,.bool false]
structure Mk (G:Nat→Option Kd) (w0:World) (us:List Un) (bl:Option (Nat×Array Value)) (s gm gp:Nat) (f:Fm) (mc pc:Array Value) (w:World):Prop where
 wk:Wk 52 G w0 us bl w
 ty: ∀u∈us,u.e=52∨u.e=3
 bf:RoB G w s 24 f.cells
 r1:Blk w (s+1) 29 zIm
 g1:G (s+1)=none
 r2:Blk w (s+2) 31 zPm
 g2:G (s+2)=none
 bm:Blk w gm 29 mc
 km:G gm=none
 hm:s+2<gm
 bp:Blk w gp 31 pc
 kp:G gp=none
 hp:s+2<gp
 hs:w0.heap.size≤s
section
variable {G G':Nat→Option Kd} {w0 w w':World} {us:List Un} {bl:Option (Nat×Array Value)} {s gm gp:Nat} {f:Fm} {mc pc cs:Array Value}
theorem Mk.call (h:Mk G w0 us bl s gm gp f mc pc w) (hk:Keep (fun _=>False) w w') (hx:Ext w.heap.size G G') (hF:Fits G' w0.heap.size w'):Mk G' w0 us bl s gm gp f mc pc w'∧Nx G w G' w':=by
 have h1:=h.wk.call hk hx hF
 exact⟨⟨h1.1,h.ty,h.bf.nx h1.2,h.r1.keep hk id,by rw [hx.1 _ h.r1.lt];exact h.g1,h.r2.keep hk id,by rw [hx.1 _ h.r2.lt];exact h.g2,h.bm.keep hk id,by rw [hx.1 _ h.bm.lt];exact h.km,h.hm,h.bp.keep hk id,by rw [hx.1 _ h.bp.lt];exact h.kp,h.hp,h.hs⟩,h1.2⟩
theorem Mk.callF (h:Mk G w0 us bl s gm gp f mc pc w) (hk:Keep (fun _=>False) w w'):Mk G w0 us bl s gm gp f mc pc w'∧Nx G w G w':=h.call hk (Ext.refl _) (h.wk.fits.keepF hk)
theorem Mk.row (h:Mk G w0 us bl s gm gp f mc pc w) (i:Nat) {u u':Un} (hu:us[i]?=some u) (he:u'.e=u.e) (ho:w'.ownsRow w0.heap.size u'.e u'.size (.slice u'.A u'.n u'.c) u'.n u'.xs) (hk:Keep (fun j=>(Value.slice u.A u.n u.c).ownBlock=some j) w w') (hat:AtNew w.heap.size (.slice u.A u.n u.c) (.slice u'.A u'.n u'.c)):Mk G w0 (us.set i u') bl s gm gp f mc pc w'∧Nx G w G w':=by
 have h1:=h.wk.row i hu ho hk hat
 have hown:=(h.wk.un i u hu).1
 have ht:=h.ty u (List.mem_of_getElem? hu)
 have hI:u.e≠29:=by rcases ht with e|e<;>rw [e]<;>decide
 have hP:u.e≠31:=by rcases ht with e|e<;>rw [e]<;>decide
 refine⟨⟨h1.1,fun v hv=>?_,h.bf.nx h1.2,h.r1.keep hk (own_ne hown h.r1 hI),h.g1,h.r2.keep hk (own_ne hown h.r2 hP),h.g2,h.bm.keep hk (own_ne hown h.bm hI),h.km,h.hm,h.bp.keep hk (own_ne hown h.bp hP),h.kp,h.hp,h.hs⟩,h1.2⟩
 rcases List.mem_or_eq_of_mem_set hv with h2|h2
 · exact h.ty v h2
 · rw [h2,he];exact ht
theorem Mk.setB {g:Nat} (h:Mk G w0 us (some (g,cs)) s gm gp f mc pc w) (i:Nat) (v:Value):Mk G w0 us (some (g,cs.setIfInBounds i v)) s gm gp f mc pc (w.setCell ⟨g,i,none⟩ v)∧Nx G w G (w.setCell ⟨g,i,none⟩ v):=by
 have h1:=h.wk.set i v
 have hb:=(h.wk.bk g cs rfl).1
 have hk:=Keep.set1 w g i v
 exact⟨⟨h1.1,h.ty,h.bf.nx h1.2,h.r1.keep hk (Blk.ne_ h.r1 hb (by decide)),h.g1,h.r2.keep hk (Blk.ne_ h.r2 hb (by decide)),h.g2,h.bm.keep hk (Blk.ne_ h.bm hb (by decide)),h.km,h.hm,h.bp.keep hk (Blk.ne_ h.bp hb (by decide)),h.kp,h.hp,h.hs⟩,h1.2⟩
theorem Mk.newB (h:Mk G w0 us none s gm gp f mc pc w) (cs:Array Value):Mk G w0 us (some (w.heap.size,cs)) s gm gp f mc pc (w.alloc (.cells cs 52))∧Nx G w G (w.alloc (.cells cs 52)):=by
 have h1:=h.wk.newB cs
 have h2:=(h.callF ((Keep.refl _ w).alloc (.cells cs 52))).1
 exact⟨⟨h1.1,h.ty,h2.bf,h2.r1,h.g1,h2.r2,h.g2,h2.bm,h.km,h.hm,h2.bp,h.kp,h.hp,h.hs⟩,h1.2⟩
theorem Mk.noB (h:Mk G w0 us bl s gm gp f mc pc w):Mk G w0 us none s gm gp f mc pc w:=⟨h.wk.noB,h.ty,h.bf,h.r1,h.g1,h.r2,h.g2,h.bm,h.km,h.hm,h.bp,h.kp,h.hp,h.hs⟩
theorem Mk.nil (h:Mk G w0 us bl s gm gp f mc pc w) (e:TypeId) (size:Nat) (he:e=52∨e=3):Mk G w0 (us++[⟨e,size,none,0,0,[]⟩]) bl s gm gp f mc pc w:=
 ⟨h.wk.nil e size,fun u hu=>by
  rcases List.mem_append.1 hu with h1|h1
  · exact h.ty u h1
  · rw [List.mem_singleton]at h1;rw [h1];exact he,h.bf,h.r1,h.g1,h.r2,h.g2,h.bm,h.km,h.hm,h.bp,h.kp,h.hp,h.hs⟩
theorem Mk.fin {u:Un} (h:Mk G w0 (us++[u]) bl s gm gp f mc pc w) (hsz:0<u.size): ∃G',Mk G' w0 us bl s gm gp f mc pc w∧Nx G w G' w∧Ro G' w u.A u.n u.size u.xs∧w.ownsRow w0.heap.size u.e u.size (.slice u.A u.n u.c) u.n u.xs:=by
 have hu:(us++[u])[us.length]?=some u:=by simp
 have hown:=(h.wk.un _ u hu).1
 have ht:=h.ty u (by simp)
 have hI:u.e≠29:=by rcases ht with e|e<;>rw [e]<;>decide
 have hP:u.e≠31:=by rcases ht with e|e<;>rw [e]<;>decide
 obtain⟨G',h1,h2,h3,h4,h5⟩:=h.wk.finG hsz
 have key: ∀(b:Nat) (t:TypeId) (cs:Array Value),Blk w b t cs→u.e≠t→G b=none→G' b=none:=fun b t cs hb hne hg=>by
  rw [h5 b (fun a ea e=>own_ne hown hb hne (by rw [ea,←e];rfl))]
  exact hg
 exact⟨G',⟨h1,fun v hv=>h.ty v (List.mem_append_left _ hv),h.bf.nx h2,h.r1,key _ _ _ h.r1 hI h.g1,h.r2,key _ _ _ h.r2 hP h.g2,h.bm,key _ _ _ h.bm hI h.km,h.hm,h.bp,key _ _ _ h.bp hP h.kp,h.hp,h.hs⟩,h2,h3,h4⟩
theorem Mk.setM (h:Mk G w0 us bl s gm gp f mc pc w) (i:Nat) (v:Value):Mk G w0 us bl s gm gp f (mc.setIfInBounds i v) pc (w.setCell ⟨gm,i,none⟩ v)∧Nx G w G (w.setCell ⟨gm,i,none⟩ v):=by
 have hk:=Keep.set1 w gm i v
 have h1:=h.wk.other hk (fun j e=>by rw [show j=gm from e];have:=h.hm;have:=h.hs;exact⟨h.km,by omega⟩) (fun i u a hu ea e=>by
  have ht:=h.ty u (List.mem_of_getElem? hu)
  exact own_ne (h.wk.un i u hu).1 h.bm (by rcases ht with e|e<;>rw [e]<;>decide) (by rw [ea];show some a.block=_;rw [show a.block=gm from e])) (fun g cs hg=>by
  exact Blk.ne_ (h.wk.bk g cs hg).1 h.bm (by decide))
 have hm:=h.hm
 exact⟨⟨h1.1,h.ty,h.bf.nx h1.2,h.r1.keep hk (show s+1≠gm by omega),h.g1,h.r2.keep hk (show s+2≠gm by omega),h.g2,h.bm.set_ i v,h.km,h.hm,h.bp.keep hk (Blk.ne_ h.bp h.bm (by decide)),h.kp,h.hp,h.hs⟩,h1.2⟩
theorem Mk.setP (h:Mk G w0 us bl s gm gp f mc pc w) (i:Nat) (v:Value):Mk G w0 us bl s gm gp f mc (pc.setIfInBounds i v) (w.setCell ⟨gp,i,none⟩ v)∧Nx G w G (w.setCell ⟨gp,i,none⟩ v):=by
 have hk:=Keep.set1 w gp i v
 have h1:=h.wk.other hk (fun j e=>by rw [show j=gp from e];have:=h.hp;have:=h.hs;exact⟨h.kp,by omega⟩) (fun i u a hu ea e=>by
  have ht:=h.ty u (List.mem_of_getElem? hu)
  exact own_ne (h.wk.un i u hu).1 h.bp (by rcases ht with e|e<;>rw [e]<;>decide) (by rw [ea];show some a.block=_;rw [show a.block=gp from e])) (fun g cs hg=>by
  exact Blk.ne_ (h.wk.bk g cs hg).1 h.bp (by decide))
 have hm:=h.hp
 exact⟨⟨h1.1,h.ty,h.bf.nx h1.2,h.r1.keep hk (show s+1≠gp by omega),h.g1,h.r2.keep hk (show s+2≠gp by omega),h.g2,h.bm.keep hk (Blk.ne_ h.bm h.bp (by decide)),h.km,h.hm,h.bp.set_ i v,h.kp,h.hp,h.hs⟩,h1.2⟩
end
theorem r64_wrap (z:Int):R64 (IntKind.i64.wrap z):=by
 rw [IntKind.wrap_i64]
 unfold R64
 omega
theorem mod_lim (x:Int) {n:Int} (h:0<n):0≤x%n∧x%n<n:=⟨Int.emod_nonneg x (by omega),Int.emod_lt_of_pos x h⟩
structure CmM (G:Nat→Option Kd) (w:World) (r:Rc) (dep:Nat) (sg sb:Bool) (c:Cm):Prop where
 ok:CmOk c
 d10:c.depth≤10
 area:(r.part c.dx c.dy).area=(c.n:Int)
 cap:c.n≤c.c
 zs: ∃zs:List Int,Ro G w c.A c.n 1 (zs.map (Value.int .i64))∧ ∀z∈zs,loB c.depth c.sg≤z∧z≤hiB c.depth c.sg
 one:sb=false→c.depth=dep∧c.sg=sg∧c.dx=1∧c.dy=1
theorem CmM.nx {G G':Nat→Option Kd} {w w':World} {r:Rc} {dep:Nat} {sg sb:Bool} {c:Cm} (h:CmM G w r dep sg sb c) (hx:Nx G w G' w'):CmM G' w' r dep sg sb c:=
 ⟨h.ok,h.d10,h.area,h.cap,by obtain⟨zs,h1,h2⟩:=h.zs;exact⟨zs,h1.nx hx,h2⟩,h.one⟩
theorem cms_app : ∀(a b:List Cm),cms (a++b)=cms a++cms b:=fun a b=>by unfold cms;rw [List.flatMap_append]
theorem cms_snoc (l:List Cm) (c:Cm):cms (l++[c])=cms l++c.cells.toList:=by rw [cms_app];show cms l++(c.cells.toList++[])=_;rw [List.append_nil]
def txF (g:Nat) (w:World):Nat:=match w.cell? ⟨g,0,none⟩with
 |some (.int _ z)=>1000-z.toNat
 |_=>0
theorem txF_blk {w:World} {g:Nat} {t:TypeId} {cs:Array Value} {z:Int} (h:Blk w g t cs) (h0:cs[0]?=some (.int .i64 z)):txF g w=1000-z.toNat:=by
 unfold txF
 rw [h.cell,h0]
theorem ceil_one {x t:Int} (hx:0<x) (h:x≤t):ceilI x t=1:=by
 unfold ceilI
 rw [if_neg (by omega)]
 have h1:(x+t-1)/t=1:=by
  rw [show x+t-1=(x-1)+t*1 by omega,Int.add_mul_ediv_left _ _ (by omega),Int.ediv_eq_zero_of_lt (by omega) (by omega)]
  rfl
 exact h1
theorem info_comp :(Tryz.prog.info? 52).map (fun i=>(i.zero,i.size,i.bytes))=some (some (.agg #[.int .i64 0,.bool false,.int .i64 0,.int .i64 0,.slice none 0 0]),5,56):=by kernel_rfl
theorem pict_of {w:World} {G:Nat→Option Kd} {m:Im} {p:Pm} {cs:List Cm} {nx ny:Nat} {sb sg:Bool} {dep:Nat}
 (h1:0≤m.ox∧m.ox<6∧m.ox<m.x∧m.x≤m.ox+12) (h2:0≤m.oy∧m.oy<6∧m.oy<m.y∧m.y≤m.oy+12) (hrow:RdS w m.A m.n 5 (cms cs)) (hlen:cs.length=m.n) (hn:1≤m.n∧m.n≤4)
 (hC: ∀c∈cs,CmM G w m.whole dep sg sb c) (hpm:PmOk p) (hlay:p.lay≤4) (htx:m.ox<p.tx) (hty:m.oy<p.ty) (hcx:ceilI m.x p.tx=nx) (hcy:ceilI m.y p.ty=ny) (h6:nx*ny≤6)
 (hr:p.rct=true→3≤m.n∧sb=false):Pict w m p cs nx ny where
 pic:=by
  refine⟨hrow,hlen,fun c hc=>(hC c hc).ok,fun c hc=>(hC c hc).d10,fun c hc=>(hC c hc).area,fun c hc=>(hC c hc).cap,fun c hc=>?_,hn.2,?_,?_,hpm,hlay,hpm.l1,fun h=>?_⟩
  · obtain⟨zs,h3,_⟩:=(hC c hc).zs
    exact⟨zs,h3.1.one⟩
  · constructor<;>(show _<;>unfold Im.whole<;>simp only<;>omega)
  · constructor<;>(show _<;>unfold Im.whole<;>simp only<;>omega)
  · obtain⟨h3,h4⟩:=hr h
    exact⟨h3,fun c hc=>by have:=(hC c hc).one h4;exact⟨this.2.2.1,this.2.2.2⟩⟩
 all:=fun c hc=>⟨(hC c hc).ok,(hC c hc).d10,(hC c hc).area,by obtain⟨zs,h3,h4⟩:=(hC c hc).zs;exact⟨zs,h3.1.one,h4⟩⟩
 ox:=h1.1
 x:=h1.2.2.1
 oy:=h2.1
 y:=h2.2.2.1
 tx:=htx
 ty:=hty
 cx:=hcx
 cy:=hcy
 n16:=by omega
 rct:=fun h=>by
  obtain⟨h3,h4⟩:=hr h
  refine⟨h3,fun a b i j _ _ ha hb=>?_⟩
  obtain⟨a1,a2,a3,a4⟩:=(hC a (List.mem_of_getElem? ha)).one h4
  obtain⟨b1,b2,b3,b4⟩:=(hC b (List.mem_of_getElem? hb)).one h4
  exact⟨by rw [a1,b1],by rw [a2,b2],by rw [a3,b3],by rw [a4,b4]⟩
 n1:=hn.1
theorem pc01 (v0 v1 v2 v3 v4 v5 v6 v7 v8 v9 v10 v11 x y:Value):((#[v0,v1,v2,v3,v4,v5,v6,v7,v8,v9,v10,v11]:Array Value).setIfInBounds 0 x).setIfInBounds 1 y=#[x,y,v2,v3,v4,v5,v6,v7,v8,v9,v10,v11]:=by simp
theorem pc5 (v0 v1 v2 v3 v4 v5 v6 v7 v8 v9 v10 v11 x:Value):(#[v0,v1,v2,v3,v4,v5,v6,v7,v8,v9,v10,v11]:Array Value).setIfInBounds 5 x=#[v0,v1,v2,v3,v4,x,v6,v7,v8,v9,v10,v11]:=by simp
theorem pc9 (v0 v1 v2 v3 v4 v5 v6 v7 v8 v9 v10 v11 x:Value):(#[v0,v1,v2,v3,v4,v5,v6,v7,v8,v9,v10,v11]:Array Value).setIfInBounds 9 x=#[v0,v1,v2,v3,v4,v5,v6,v7,v8,x,v10,v11]:=by simp
theorem xc4 (v0 v1 v2 v3 v4 x:Value):(#[v0,v1,v2,v3,v4]:Array Value).setIfInBounds 4 x=#[v0,v1,v2,v3,x]:=by simp
theorem xc230 (v0 v1 v2 v3 v4 x y z:Value):(((#[v0,v1,v2,v3,v4]:Array Value).setIfInBounds 2 x).setIfInBounds 3 y).setIfInBounds 0 z=#[z,v1,x,y,v4]:=by simp
section
variable {G :Nat→Option Kd} {w0 w:World} {us:List Un} {bl:Option (Nat×Array Value)} {s gm gp:Nat} {f:Fm} {mc pc:Array Value} {v0 v1 v2 v3 v4 v5 v6 v7 v8 v9 v10 v11:Value}
theorem Mk.setP01 (h:Mk G w0 us bl s gm gp f mc #[v0,v1,v2,v3,v4,v5,v6,v7,v8,v9,v10,v11] w) (x y:Value):Mk G w0 us bl s gm gp f mc #[x,y,v2,v3,v4,v5,v6,v7,v8,v9,v10,v11] ((w.setCell ⟨gp,0,none⟩ x).setCell ⟨gp,1,none⟩ y):=by
 have h1:=((h.setP 0 x).1.setP 1 y).1
 rw [pc01]at h1
 exact h1
theorem Mk.setP5 (h:Mk G w0 us bl s gm gp f mc #[v0,v1,v2,v3,v4,v5,v6,v7,v8,v9,v10,v11] w) (x:Value):Mk G w0 us bl s gm gp f mc #[v0,v1,v2,v3,v4,x,v6,v7,v8,v9,v10,v11] (w.setCell ⟨gp,5,none⟩ x):=by
 have h1:=(h.setP 5 x).1
 rw [pc5]at h1
 exact h1
theorem Mk.setP9 (h:Mk G w0 us bl s gm gp f mc #[v0,v1,v2,v3,v4,v5,v6,v7,v8,v9,v10,v11] w) (x:Value):Mk G w0 us bl s gm gp f mc #[v0,v1,v2,v3,v4,v5,v6,v7,v8,x,v10,v11] (w.setCell ⟨gp,9,none⟩ x)∧Nx G w G (w.setCell ⟨gp,9,none⟩ x):=by
 have h1:=h.setP 9 x
 rw [pc9]at h1
 exact h1
theorem Mk.setM4 (h:Mk G w0 us bl s gm gp f #[v0,v1,v2,v3,v4] pc w) (x:Value):Mk G w0 us bl s gm gp f #[v0,v1,v2,v3,x] pc (w.setCell ⟨gm,4,none⟩ x)∧Nx G w G (w.setCell ⟨gm,4,none⟩ x):=by
 have h1:=h.setM 4 x
 rw [xc4]at h1
 exact h1
theorem Mk.setB4 {g:Nat} (h:Mk G w0 us (some (g,#[v0,v1,v2,v3,v4])) s gm gp f mc pc w) (x:Value):Mk G w0 us (some (g,#[v0,v1,v2,v3,x])) s gm gp f mc pc (w.setCell ⟨g,4,none⟩ x)∧Nx G w G (w.setCell ⟨g,4,none⟩ x):=by
 have h1:=h.setB 4 x
 rw [xc4]at h1
 exact h1
theorem Mk.setB230 {g:Nat} (h:Mk G w0 us (some (g,#[v0,v1,v2,v3,v4])) s gm gp f mc pc w) (x y z:Value):Mk G w0 us (some (g,#[z,v1,x,y,v4])) s gm gp f mc pc (((w.setCell ⟨g,2,none⟩ x).setCell ⟨g,3,none⟩ y).setCell ⟨g,0,none⟩ z)∧Nx G w G (((w.setCell ⟨g,2,none⟩ x).setCell ⟨g,3,none⟩ y).setCell ⟨g,0,none⟩ z):=by
 have a1:=h.setB 2 x
 have a2:=a1.1.setB 3 y
 have a3:=a2.1.setB 0 z
 refine⟨?_,a1.2.trans (a2.2.trans a3.2)⟩
 have h1:=a3.1
 rw [xc230]at h1
 exact h1
end
theorem lo_hi (d:Nat) (sg:Bool) (h1:1≤d) (h2:d≤10):-512≤loB d sg∧loB d sg≤0∧loB d sg<hiB d sg∧hiB d sg≤1023:=by
 rcases (show d=1∨d=2∨d=3∨d=4∨d=5∨d=6∨d=7∨d=8∨d=9∨d=10 by omega)with rfl|rfl|rfl|rfl|rfl|rfl|rfl|rfl|rfl|rfl<;>cases sg<;>decide
section
variable {P :Program} {ops:Array Oper} {Q:Exit→Act→World→Prop} {md:Region.Mode} {T:World→Prop}
def Gives (P:Program) (ops:Array Oper) (T:World→Prop) (o:Oper) (v:Value) (a:Act):Prop:=
 Region.wanted o (yielded ops a.tmps)=true∧ ∃f args,∀w,T w→(execOp a.eval o).run P w=.ok (.enter f args) w∧Calls P f args w (fun e w'=>e=.returned v∧w'=w)
theorem Gives.wpOp {i:Nat} {o:Oper} {v:Value} {a:Act} (hi:ops[i]?=some o) (hy:Gives P ops T o v a) {K:Act→World→Prop} {w:World} (hS:T w) (h:K (a.put o.dst v) w):wpOp P ops Q i K a w:=by
 unfold Go.wpOp
 simp only [hi]
 obtain⟨hw,f,args,hv⟩:=hy
 obtain⟨h1,h2⟩:=hv w hS
 simp only [hw,if_true,Oper.wp,h1,Oper.upon]
 exact .inl (Calls.mono h2 fun e w'' he=>by obtain⟨rfl,rfl⟩:=he;exact h)
theorem Gives.of_same {o:Oper} {v:Value} {a a':Act} (hy:Gives P ops T o v a) (he:execOp a'.eval o=execOp a.eval o)
 (hw:Region.wanted o (yielded ops a'.tmps)=Region.wanted o (yielded ops a.tmps)):Gives P ops T o v a':=by
 unfold Gives at*
 rw [he,hw]
 exact hy
theorem wpOp_putG {j:Nat} {oi oj:Oper} {v:Value} (hj:ops[j]?=some oj) (hap:oi.apart ops oj=true)
 (hsi: ∀cs b,oi.op≠.select cs b) (hsj: ∀cs b,oj.op≠.select cs b)
 (hQ: ∀c a w,Q (.panic c) (a.put oi.dst v) w→Q (.panic c) a w) {K:Act→World→Prop} {a:Act} {w:World}
 (hy:Gives P ops T oi v a) (h:wpOp P ops Q j K (a.put oi.dst v) w):
 wpOp P ops Q j (fun a' w'=>Gives P ops T oi v a'∧K (a'.put oi.dst v) w') a w:=by
 obtain⟨h1,h2,h3⟩:=Oper.apart_spec hap
 have keep: ∀(a:Act),Gives P ops T oi v a→ ∀u,Gives P ops T oi v (a.put oj.dst u):=fun a hy u=>
  hy.of_same (execOp_put oi hsi a oj.dst u h3) (wanted_put oi a oj.dst u h3)
 have keepD: ∀d,Gives P ops T oi v { a with defers:=d::a.defers }:=fun d=>hy.of_same rfl rfl
 unfold Go.wpOp at*
 simp only [hj]at*
 rw [wanted_put oj a oi.dst v h1]at h
 split
 · rename_i hw
   simp only [hw,if_true]at h
   rcases h with h|⟨hasks,hlets⟩
   case inr=>exact .inr ⟨by unfold Oper.asks at *;rw [execOp_put oj hsj a oi.dst v h1]at hasks;exact hasks,hlets⟩
   refine .inl ?_
   unfold Oper.wp at*
   rw [execOp_put oj hsj a oi.dst v h1]at h
   generalize (execOp a.eval oj).run P w=r at*
   cases r with
   |ok n w'=>
    cases n<;>simp only [Oper.upon]at h ⊢
    case value u=>exact⟨keep a hy u,by rw [← Act.put_comm a v u h2];exact h⟩
    case skip=>exact⟨keep a hy _,by rw [← Act.put_comm a v undef h2];exact h⟩
    case defer d=>
     refine⟨keep _ (keepD d) _,?_⟩
     rw [← Act.put_comm _ v undef h2,←Act.put_defers]
     exact h
    case enter f args=>
     refine Calls.mono h fun e w'' he=>?_
     cases e with
     |returned u=>exact⟨keep a hy u,by rw [← Act.put_comm a v u h2];exact he⟩
     |panicked c=>exact hQ _ _ _ he
     |outgrown=>exact he
    case row row args=>exact Rows.mono h fun u w'' he=>⟨keep a hy u,by rw [← Act.put_comm a v u h2];exact he⟩
   |halt x w'=>
    cases x<;>simp only [Oper.upon]at h ⊢
    case panic u=>exact hQ _ _ _ h
 · rename_i hw
   simp only [hw]at h
   exact⟨keep a hy _,by rw [← Act.put_comm a v undef h2];exact h⟩
theorem wpP_firstG {i:Nat} {oi:Oper} {v:Value} {T:World→Prop} (hi:ops[i]?=some oi) (hsel: ∀(j:Nat) (o:Oper) cs b,ops[j]?=some o→o.op≠.select cs b)
 (hQ: ∀c a w,Q (.panic c) (a.put oi.dst v) w→Q (.panic c) a w):
 ∀(f:Nat) (pend:List (Nat×(World→Prop))) (L:Array Bool) (a:Act) (w:World),Closed md ops L→
  (∀ j oj,ops[j]?=some oj→j≠i→L.getD j true=false→(∀ e∈oj.after,Region.binds md e=true→e.on≠i)→oi.apart ops oj=true)→
  i∈Region.ready md ops L→Gives P ops T oi v a→T w→(∀ p∈pend,p.2 w)→
  wpP P md ops Q f ((i,T)::pend) (L.setIfInBounds i true) (a.put oi.dst v) w→wpP P md ops Q (f+1) pend L a w:=by
 intro f
 induction f with
 |zero=>
  intro pend L a w _ _ hr hy hT hp H
  refine⟨fun h=>(by rw [h]at hr;cases hr),fun j hj=>?_⟩
  by_cases hji:j=i
  · subst hji;exact hy.wpOp hi hT ⟨fun p hp' _=>hp p hp',H⟩
  · have:=ready_mono hj hji
    rw [H.1]at this
    cases this
 |succ f ih=>
  intro pend L a w hc hfree hr hy hT hp H
  refine⟨fun h=>(by rw [h]at hr;cases hr),fun j hj=>?_⟩
  by_cases hji:j=i
  · subst hji
    exact hy.wpOp hi hT ⟨fun p hp' _=>hp p hp',wpP_mono _ _ _ _ _ _ (fun p hp'=>List.mem_cons_of_mem _ (List.mem_filter.1 hp').1) H⟩
  · have h1:=H.2 j (ready_mono hj hji)
    obtain⟨hjun,oj,hoj,hall⟩:=mem_ready.1 hj
    have hil: ¬L.getD i false=true:=by
     intro h1
     have h0:=(mem_ready.1 hr).1
     rcases Nat.lt_or_ge i L.size with h'|h'
     · simp [h']at h0 h1;rw [h0]at h1;cases h1
     · simp [Array.getElem?_eq_none h']at h1
    have hnot: ∀e∈oj.after,Region.binds md e=true→e.on≠i:=fun e he hb heq=>hil (by rw [← heq];exact hall e he hb)
    have htd:tdep md ops ops.size j i=false:=by
     cases h:tdep md ops ops.size j i with
     |false=>rfl
     |true=>exact absurd (tdep_sound hc _ _ _ _ hoj hall h) hil
    have h2:=wpOp_putG hoj (hfree j oj hoj hji hjun hnot) (fun cs b=>hsel i oi cs b hi) (fun cs b=>hsel j oj cs b hoj) hQ hy h1
    have hfree': ∀k ok,ops[k]?=some ok→k≠i→(L.setIfInBounds j true).getD k true=false→
     (∀ e∈ok.after,Region.binds md e=true→e.on≠i)→oi.apart ops ok=true:=fun k ok hk hki hun hno=>by
     refine hfree k ok hk hki ?_ hno
     by_cases hjk:j=k
     · subst hjk;exact hjun
     · rw [getD_set_ne true hjk]at hun;exact hun
    refine wpOp_mono (fun a' w' h3=>?_) h2
    obtain⟨hy',hobl,hw'⟩:=h3
    refine⟨fun p hp'=>hobl p (List.mem_cons_of_mem _ hp'),?_⟩
    refine ih _ (L.setIfInBounds j true) a' w' (closed_set hc hoj hall) hfree' (ready_mono hr (Ne.symm hji)) hy' (hobl (i,T) (List.mem_cons_self ..) htd) (fun p hp'=>?_) ?_
    · rw [List.mem_filter]at hp'
      exact hobl p (List.mem_cons_of_mem _ hp'.1) (by simpa using hp'.2)
    · rw [Array.setIfInBounds_comm _ _ hji]
      rw [List.filter_cons_of_pos (by simp [htd])]at hw'
      exact hw'
theorem At.given (i:Nat) (d:Option Tmp) (v:Value) {fn:FuncId} {args:Array Value} {oi:Oper} {f:Nat} {pend:List (Nat×(World→Prop))} {L:Array Bool} {a:Act} {w:World} (hi:ops[i]?=some oi) (hd:oi.dst=d) (hb:takeB md ops L i=true)
 (hQ: ∀c a w,Q (.panic c) (a.put d v) w→Q (.panic c) a w) (hw:Region.wanted oi (yielded ops a.tmps)=true) (hy: ∀w',(execOp a.eval oi).run P w'=.ok (.enter fn args) w') (hc: ∀w',Calls P fn args w' (fun e w''=>e=.returned v∧w''=w'))
 (h:At P md ops Q f pend (L.setIfInBounds i true) (a.put d v) w):At P md ops Q (f+1) pend L a w:=by
 subst hd
 intro hp
 simp only [takeB,Bool.and_eq_true]at hb
 refine wpP_firstG (T:=fun _=>True) hi (Region.noSelect_spec hb.1.1.1) hQ f pend L a w (closed_of hb.2) (Region.free_spec hi hb.1.1.2) (by simpa using hb.1.2) ⟨hw,fn,args,fun w' _=>⟨hy w',hc w'⟩⟩ trivial hp ?_
 exact(wpP_add_true f i pend _ _ w (h hp))
theorem run_build_op {a:Act} {oi:Oper} {t:TypeId} {parts:Array (Nat×Operand)} {cells:Array Value} (ho:oi.op=.build t parts) (l:List (Nat×Value)) (hl:(parts.map fun (i,x)=>(i,a.eval x)).toList=l) (h:P.built t l=some cells) (w:World):(execOp a.eval oi).run P w=.ok (.value (.agg cells)) w:=by
 unfold execOp
 subst hl
 simp only [ho,Sem.run_bind,run_build w t _ cells h,Sem.run_pure,Result.andThen_ok]
theorem run_rem_op {a:Act} {oi:Oper} {t t2:TypeId} {x y:Operand} {k:IntKind} {p q r:Int} (ho:oi.op=.binOp .rem t x y t2) (hx:a.eval x=.int k p) (hy:a.eval y=.int k q) (h0: ¬q=0) (hr:p.tmod q=r) (w:World):(execOp a.eval oi).run P w=.ok (.value (.int k r)) w:=by
 unfold execOp
 rw [ho]
 simp only [hx,hy,eqGuard_rem,binOp_rem,Op.intDiv,if_neg h0,hr,Sem.run_bind,Sem.run_pure,Result.andThen_ok]
theorem run_quo_op {a:Act} {oi:Oper} {t t2:TypeId} {x y:Operand} {k:IntKind} {p q r:Int} (ho:oi.op=.binOp .quo t x y t2) (hx:a.eval x=.int k p) (hy:a.eval y=.int k q) (h0: ¬q=0) (hr:k.wrap (p.tdiv q)=r) (w:World):(execOp a.eval oi).run P w=.ok (.value (.int k r)) w:=by
 unfold execOp
 rw [ho]
 simp only [hx,hy,eqGuard_quo,binOp_quo,Op.intDiv,if_neg h0,hr,Sem.run_bind,Sem.run_pure,Result.andThen_ok]
end
end Go.Proofs.YthfogcgdijmaoaaGreat
