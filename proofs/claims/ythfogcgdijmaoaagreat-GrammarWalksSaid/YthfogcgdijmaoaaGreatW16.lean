/-
  Part 16 of the proof: Split Expo Seg GramWalk GramKn RefTwo. Conditions: those of the statements.
-/
import Derived.Test.YthfogcgdijmaoaaGreatW7
import Derived.Test.YthfogcgdijmaoaaGreatW10
import Derived.Test.YthfogcgdijmaoaaGreatW14
import Derived.Test.YthfogcgdijmaoaaGreatW15
set_option maxRecDepth 100000
set_option maxHeartbeats 16000000
set_option linter.unusedVariables false
set_option linter.unusedSimpArgs false
namespace Go.Proofs.YthfogcgdijmaoaaGreat
open Go.RowKit
theorem own_new (w:World) (base:Nat) (e:TypeId) (cs:Array Value) (n:Nat) (hn:cs.size=n) (hm:n≤maxLen) (hb:base≤w.heap.size):(w.alloc (.cells cs e)).ownsRow base e 1 (.slice (some ⟨w.heap.size,0,none⟩) n n) n cs.toList:=
 ⟨by simp [hn],.inr ⟨w.heap.size,n,cs,rfl,hb,Blk.new w e cs,Nat.le_refl _,hm,by omega,by rw [List.take_of_length_le (by simp [hn])]⟩⟩
def SlB (w:World) (base:Nat) (v:Value) (k:Int):Prop:= ∃(n:Nat) (A:Option Addr) (c:Nat),k=n∧v=.slice A n c∧n≤c∧Own w base A n c
structure RR (w:World) (base:Nat) (vs:List Value) (ls:List Int):Prop where
 len:vs.length=ls.length
 at_: ∀(i:Nat) (v:Value),vs[i]? =some v→ ∃k,ls[i]? =some k∧SlB w base v k
section
variable {w w':World} {base:Nat} {vs us:List Value} {ls ks:List Int} {v:Value} {k:Int}
theorem SlB.keepS {S:Nat→Prop} (h:SlB w base v k) (hk:Keep S w w') (hS: ∀(g:Nat) (cs:Array Value),Blk w g 3 cs→ ¬S g):SlB w' base v k:=by
 obtain⟨n,A,c,e1,e2,hc,zs,h1,h2⟩:=h
 refine⟨n,A,c,e1,e2,hc,zs,h1,own_keep h2 hk (fun g e=>?_)⟩
 rcases h2.2 with⟨hv,_⟩|⟨g',cap,cur,hv,_,hg,_⟩
 · rw [hv]at e;simp [Value.ownBlock]at e
 · rw [hv]at e
   simp [Value.ownBlock]at e
   subst e
   exact hS _ _ hg
theorem RR.keepS {S:Nat→Prop} (h:RR w base vs ls) (hk:Keep S w w') (hS: ∀(g:Nat) (cs:Array Value),Blk w g 3 cs→ ¬S g):RR w' base vs ls:=
 ⟨h.len,fun i v hv=>by obtain⟨k,h1,h2⟩:=h.at_ i v hv;exact⟨k,h1,h2.keepS hk hS⟩⟩
theorem SlB.keepF (h:SlB w base v k) (hk:Keep (fun _=>False) w w'):SlB w' base v k:=h.keepS hk (fun _ _ _ h=>h)
theorem RR.keepF (h:RR w base vs ls) (hk:Keep (fun _=>False) w w'):RR w' base vs ls:=h.keepS hk (fun _ _ _ h=>h)
theorem RR.nil :RR w base [] []:=⟨rfl,fun i v h=>by simp at h⟩
theorem RR.cons (h1:SlB w base v k) (h:RR w base vs ls):RR w base (v::vs) (k::ls):=
 ⟨by simp [h.len],fun i u hu=>by
  cases i with
  |zero=>simp at hu;subst hu;exact⟨k,rfl,h1⟩
  |succ i=>obtain⟨k',h2,h3⟩:=h.at_ i u (by simpa using hu);exact⟨k',by simpa using h2,h3⟩⟩
theorem RR.app (h1:RR w base vs ls) (h2:RR w base us ks):RR w base (vs++us) (ls++ks):=by
 refine⟨by simp [h1.len,h2.len],fun i u hu=>?_⟩
 rcases Nat.lt_or_ge i vs.length with hi|hi
 · rw [List.getElem?_append_left hi]at hu
   obtain⟨k,h3,h4⟩:=h1.at_ i u hu
   exact⟨k,by rw [List.getElem?_append_left (by rw [← h1.len];exact hi)];exact h3,h4⟩
 · rw [List.getElem?_append_right hi]at hu
   obtain⟨k,h3,h4⟩:=h2.at_ _ u hu
   exact⟨k,by rw [List.getElem?_append_right (by rw [← h1.len];exact hi),←h1.len];exact h3,h4⟩
end
theorem RowP.slb {n:Nat} {w:World} {e:Ending} {w':World} (h:RowP n w e w'): ∃A c,e=.returned (.slice A n c)∧n≤c∧Own w' w.heap.size A n c∧Keep (fun _=>False) w w':=by
 obtain⟨A,c,zs,h1,h2,h3,h4⟩:=h
 exact⟨A,c,h1,own_cap h3,⟨zs,h2,h3⟩,h4⟩
theorem Own.mono {w:World} {base base' n c:Nat} {A:Option Addr} (h:Own w base A n c) (hb:base'≤base):Own w base' A n c:=by
 obtain⟨zs,h1,h2⟩:=h
 exact⟨zs,h1,own_mono h2 hb⟩
theorem cut10_at (w:World) (W H N:Nat) (A:Option Addr) (c:Nat) (x0 y0 x1 y1 m:Nat) {base:Nat} (hN:W*H=N) (h:Own w base A N c) (hc:N≤c) (hW:W≤12) (hH:H≤12) (hx0:x0≤x1) (hx1:x1≤W) (hy0:y0≤y1) (hy1:y1≤H) (hm:(x1-x0)*(y1-y0)=m):
 Calls Tryz.prog 79 #[.int .i64 W,.slice A N c,.int .i64 x0,.int .i64 y0,.int .i64 x1,.int .i64 y1] w (RowP m w):=by
 obtain⟨zs,_,hz⟩:=h.rd
 subst hN hm
 have:=cut10_any w W H A c zs x0 y0 (x1-x0) (y1-y0) hz hc hW hH (by omega) (by omega)
 rwa [show x0+(x1-x0)=x1 by omega,show y0+(y1-y0)=y1 by omega]at this
theorem columns_at (w:World) (W H N:Nat) (at0:Int) (A:Option Addr) (c:Nat) {base:Nat} (hN:W*H=N) (h:Own w base A N c) (hW:W≤12) (hH:H≤12):
 Calls Tryz.prog 77 #[.int .i64 W,.int .i64 H,.int .i64 at0,.slice A N c,.bool false] w (RowP N w):=by
 obtain⟨zs,_,hz⟩:=h.rd
 subst hN
 exact columns_any w W H at0 A c zs hz hW hH
theorem rows_at (w:World) (W H N:Nat) (at0:Int) (A:Option Addr) (c:Nat) {base:Nat} (hN:W*H=N) (h:Own w base A N c) (hc:N≤c) (hW:W≤12) (hH:H≤12):
 Calls Tryz.prog 76 #[.int .i64 W,.int .i64 H,.int .i64 at0,.slice A N c,.bool false] w (RowP N w):=by
 obtain⟨zs,_,hz⟩:=h.rd
 subst hN
 exact rows_any10 w W H at0 A c zs hz hc hW hH
theorem RR.one {w:World} {base:Nat} {vs:List Value} {ls:List Int} (h:RR w base vs ls): ∀u∈vs,u.oneCell'=true:=by
 intro u hu
 obtain⟨i,hi,e⟩:=List.getElem_of_mem hu
 obtain⟨k,_,n,A,c,_,ev,_⟩:=h.at_ i u (by rw [List.getElem?_eq_getElem hi,e])
 rw [ev]
 rfl
theorem Own.slb {w:World} {base n c:Nat} {A:Option Addr} (h:Own w base A n c) (hc:n≤c):SlB w base (.slice A n c) n:=⟨n,A,c,rfl,rfl,hc,h⟩
theorem keep_append_new {w w':World} {o:Obj} {v:Value} (hv:v.ownBlock=some w.heap.size) (hg:(w.alloc o).grownBy w' v.ownBlock):Keep (fun _=>False) w w':=by
 have hk:Keep (fun i=>i=w.heap.size) (w.alloc o) w':=(Keep.refl _ _).grown hg (fun k hk=>.inl (by rw [hv]at hk;injection hk with hk;exact hk.symm))
 exact((Keep.refl _ w).alloc o).new hk (fun i hi=>by omega)
structure SpI (w0:World) (r:Rc) (n:Nat) (A:Option Addr) (N c:Nat) (B:Option Addr) (m d:Nat) (w:World):Prop where
 br:Blk w w0.heap.size 63 (r.down n).cells
 ll:Own w w0.heap.size A N c
 lc:N≤c
 ln:(r.down n).area=N
 hi: ∃vs,w.ownsRow w0.heap.size 22 1 (.slice B m d) m vs∧RR w w0.heap.size vs (highs r n)
 keep:Keep (fun _=>False) w0 w
def SplitP (w:World) (r:Rc) (L:Nat) (e:Ending) (w':World):Prop:=
 ∃A n c vs,e=.returned (.slice A n c)∧n=3*L+1∧w'.ownsRow w.heap.size 22 1 (.slice A n c) n vs∧RR w' w.heap.size vs ((r.down L).area::highs r L)∧Keep (fun _=>False) w w'
theorem info_sl :(Tryz.prog.info? 22).map (fun i=>(i.zero,i.size,i.bytes))=some (some (.slice none 0 0),1,24):=by kernel_rfl
theorem split10_any (w:World) (r:Rc) (L:Nat) (A:Option Addr) (n c:Nat) (zs:List Int) (h:Rd w A n (zs.map (Value.int .i64))) (hn:r.area=n) (hr:r.ok 12 17) (hL:L≤5):
 Calls Tryz.prog 59 #[.agg r.cells,.int .i64 L,.slice A n c] w (SplitP w r L):=by
 obtain⟨i0,hi0,hz0,hz1,hz2⟩:=info_parts info_int
 obtain⟨i1,hi1,ey0,ey1,ey2⟩:=info_parts info_sl
 have har:=hr.area_le
 have hn144:n≤144:=by omega
 have HV:=hid h
 have HR:=hid hr
 have HA:=hid hn
 have HB0:=hid (Blk.new w 63 r.cells)
 have HK0:=hid ((Keep.refl (fun _=>False) w).alloc (.cells r.cells 63))
 clear h hr hn har
 go_enter Tryz.func59,Tryz.ntmps59
 go_upto_region 1 with fail
 generalize w.alloc (.cells r.cells 63)=w1 at*
 have hb1:w.heap.size≤w1.heap.size:=HK0.out.size
 have HO0:=hid (own_new w1 w.heap.size 3 #[] 0 rfl (by omega) hb1)
 have HV1:=hid ((HV.out.keepF HK0.out).alloc (.cells #[] 3))
 have HB1:=hid (HB0.out.alloc (.cells #[] 3))
 have HK1:=hid (HK0.out.alloc (.cells #[] 3))
 go_wp2_with (
  at_builtin
  go_must (refine wpList_append_src _ rfl (.tmp 15) (.tmp 16) 22 rfl w.heap.size 3 i0 _ 8 Tryz.underlying22 hi0 hz0 hz1 hz2 rfl HO0.out rfl HV1.out rfl (oneCell_ints _ _) (by simp only [maxLen];omega) (by omega) (by simp;omega) ?_)
  intro v2 w2 hown2 hg2 hat2 _hold2
  obtain⟨A2,c2,rfl⟩:=own_form hown2
  have HS0:=hid (show SpI w r 0 A2 n c2 none 0 0 w2 from by
   have hk:Keep (fun i=>i=w1.heap.size) (w1.alloc (.cells #[] 3)) w2:=(Keep.refl _ _).grown hg2 (fun k hk=>.inl (by simpa [Value.ownBlock]using hk.symm))
   have hl:=HV.out.len
   rw [Nat.zero_add,List.nil_append]at hown2
   refine⟨?_,⟨zs,hl,hown2⟩,own_cap hown2,by rw [Rc.down0];exact HA.out,⟨[],World.ownsRow_nil _ _ _ _,RR.nil⟩,HK1.out.new hk (fun i hi=>by omega)⟩
   rw [Rc.down0]
   exact HB1.out.keep hk (fun e=>by have:=HB0.out.lt;omega))
  clear hown2 hg2 hat2 _hold2)
 go_loopw [7,8,9] (fun x y v wr=> ∃(i:Nat) (A:Option Addr) (N c:Nat) (B:Option Addr) (m d:Nat),i≤L∧v=.int .i64 i∧x=.slice A N c∧y=.slice B m d∧m=3*i∧Hid (SpI w r i A N c B m d wr)) (fun _ _ v _=>L-(intOf v).toNat)
 case atStart=>exact⟨0,A2,n,c2,none,0,0,by omega,rfl,by first|rfl|(congr 1<;>omega),rfl,rfl,HS0⟩
 case round=>
  clear HS0
  obtain⟨i,A,N,c,B,m,d,hi,rfl,rfl,rfl,hm,HS⟩:=hrel
  by_cases hiL:i<L
  · obtain⟨q,hq⟩: ∃q,r.down i=q:=⟨_,rfl⟩
    have hpp:=p2_pos i
    have hqo:q.ok 12 17:=by rw [← hq];exact HR.out.over ⟨by omega,by omega⟩ ⟨by omega,by omega⟩
    have HQ:=hid hq
    have HQF:=hid (hqo.pos.mono (show(17:Int)≤16777216 by omega))
    have hae:=hqo.area_eq
    obtain⟨s1,s2,s3,s4,s5,s6,s7,s8⟩:=hqo
    obtain⟨W,hW⟩: ∃W:Nat,q.x1-q.x0=W:=⟨(q.x1-q.x0).toNat,by omega⟩
    obtain⟨H,hH⟩: ∃H:Nat,q.y1-q.y0=H:=⟨(q.y1-q.y0).toNat,by omega⟩
    obtain⟨a,ha⟩: ∃a:Nat,lowsI q.x0 q.x1=a:=⟨(lowsI q.x0 q.x1).toNat,by unfold lowsI;omega⟩
    obtain⟨b,hb⟩: ∃b:Nat,lowsI q.y0 q.y1=b:=⟨(lowsI q.y0 q.y1).toNat,by unfold lowsI;omega⟩
    have haW:a≤W:=by unfold lowsI at ha;omega
    have hbH:b≤H:=by unfold lowsI at hb;omega
    have hW12:W≤12:=by omega
    have hH12:H≤12:=by omega
    have HN:=hid (show W*H=N from by
     have h1:=HS.out.ln
     rw [hq,hae,hW,hH]at h1
     exact_mod_cast h1)
    have HL3:=hid (show highs r (i+1)=[(((W-a)*(b-0):Nat):Int),(((a-0)*(H-b):Nat):Int),(((W-a)*(H-b):Nat):Int)]++highs r i from by
     show sizes3 (r.down i)++highs r i=_
     rw [hq]
     unfold sizes3
     rw [hW,hH,ha,hb,Nat.sub_zero,Nat.sub_zero]
     rw [Int.natCast_mul,Int.natCast_mul,Int.natCast_mul,show((W-a:Nat):Int)=(W:Int)-a by omega,show((H-b:Nat):Int)=(H:Int)-b by omega])
    have HL0:=hid (show(r.down (i+1)).area=(((a-0)*(b-0):Nat):Int)from by
     have h1:=(HR.out.over (dx:=p2 (i+1)) (dy:=p2 (i+1)) (ax:=0) (ay:=0) ⟨by omega,p2_pos _⟩ ⟨by omega,p2_pos _⟩).area_eq
     show((r.over (p2 (i+1)) (p2 (i+1)) 0 0).area=_)
     rw [h1]
     have h2:r.over (p2 (i+1)) (p2 (i+1)) 0 0=q.half:=by rw [← hq];exact Rc.down_succ r i
     rw [h2,Nat.sub_zero,Nat.sub_zero]
     unfold lowsI at ha hb
     show((q.x1+1)/2-(q.x0+1)/2)*((q.y1+1)/2-(q.y0+1)/2)=_
     rw [ha,hb]
     push_cast
     rfl)
    have HBQ:=hid (show Blk wr w.heap.size 63 q.cells from by rw [← hq];exact HS.out.br)
    have c0:wr.cell? ⟨w.heap.size,0,none⟩=some (.int .i64 q.x0):=HBQ.out.cell 0
    have c1:wr.cell? ⟨w.heap.size,1,none⟩=some (.int .i64 q.y0):=HBQ.out.cell 1
    have c2:wr.cell? ⟨w.heap.size,2,none⟩=some (.int .i64 q.x1):=HBQ.out.cell 2
    have c3:wr.cell? ⟨w.heap.size,3,none⟩=some (.int .i64 q.y1):=HBQ.out.cell 3
    have hw1:IntKind.i64.wrap (q.x1-q.x0)=(W:Int):=by rw [IntWalk.i64_in _ (by omega),hW]
    have hw2:IntKind.i64.wrap (q.y1-q.y0)=(H:Int):=by rw [IntWalk.i64_in _ (by omega),hH]
    have HWH:=hid (And.intro ha hb)
    have HHL:=hid (And.intro hw1 hw2)
    clear hq hW hH ha hb hae
    go_wp2_with fail
    go_quiet (fail)
    generalize hw9:wr.drewN _=w3 at*
    have hk3:Keep (fun _=>False) wr w3:=by rw [← hw9];exact(Keep.refl _ wr).drewN _
    have HK3:=hid (HS.out.keep.trans hk3 (fun _ _ h=>h))
    have HB3:=hid (HBQ.out.keep hk3 id)
    have HL4:=hid (HS.out.ll.keepF hk3)
    have HH4:=hid (show∃vs,w3.ownsRow w.heap.size 22 1 (.slice B m d) m vs∧RR w3 w.heap.size vs (highs r i)from by
     obtain⟨vs,h1,h2⟩:=HS.out.hi
     exact⟨vs,own_keepF h1 hk3,h2.keepF hk3⟩)
    have hNc:=HS.out.lc
    clear hw9 hk3 HBQ HS c0 c1 c2 c3 hw1 hw2
    have d0:w3.drew.cell? ⟨w.heap.size,0,none⟩=some (.int .i64 q.x0):=HB3.out.cell 0
    have d1:w3.drew.cell? ⟨w.heap.size,1,none⟩=some (.int .i64 q.y0):=HB3.out.cell 1
    have HL5:=hid (HL4.out.keepF ((Keep.refl (fun _=>False) w3).drew))
    go_upto_region 7 with fail
    refine At.start (L:=#[false,false,false,false,false,false,false,false,false,false,false,false]) (by kernel_rfl) rfl ?_
    refine AtP 0 33 ?_
    refine AtP 1 34 ?_
    refine AtP 2 35 ?_
    refine AtL 3 36 Tryz.underlying3 ?_
    refine AtP 4 37 ?_
    refine AtP 5 38 ?_
    refine AtP 6 39 ?_
    refine AtL 7 40 Tryz.underlying3 ?_
    refine AtP 8 41 ?_
    refine At.call_all 9 rfl (by kernel_rfl) rfl (fun K hK=>?_)
    go_simp
    refine(columns_at _ W H N q.y0 A c HN.out HL5.out hW12 hH12).mono ?_
    intro e w5 hrow
    obtain⟨A5,c5,rfl,hc5,ho5,hk⟩:=hrow.slb
    have HO5:=hid ho5
    have HK5:=hid (((HK3.out.drew).trans hk (fun _ _ h=>h)))
    have HB5:=hid ((HB3.out.drew).keep hk id)
    have hkk5:Keep (fun _=>False) w3 w5:=((Keep.refl _ w3).drew).trans hk (fun _ _ h=>h)
    have HKK5:=hid hkk5
    clear ho5 hrow
    refine hK _ _ (by repeat' first|exact all_nil|refine all_cons (hk.cell (by assumption) (fun h=>h)) ?_) ?_
    clear hK K
    try simp only [NS]
    refine AtC 10 fun K hK=>?_
    go_simp
    refine(rows_at _ W H N q.x0 A5 c5 HN.out HO5.out hc5 hW12 hH12).mono ?_
    intro e w6 hrow6
    obtain⟨A6,c6,rfl,hc6,ho6,hk6⟩:=hrow6.slb
    have HO6:=hid ho6
    have HK6:=hid (HK5.out.trans hk6 (fun _ _ h=>h))
    have HB6:=hid (HB5.out.keep hk6 id)
    have HKK6:=hid (HKK5.out.trans hk6 (fun _ _ h=>h))
    clear ho6 hrow6
    refine hK _ _ all_nil ?_
    clear hK K
    try simp only [NS]
    refine AtP 11 12 ?_
    refine At.done (by kernel_rfl) ?_
    clear hk hk6 d0 d1
    have HL7:=hid (HL4.out.keepF HKK6.out)
    have HH7:=hid (show∃vs,w6.ownsRow w.heap.size 22 1 (.slice B m d) m vs∧RR w6 w.heap.size vs (highs r i)from by
     obtain⟨vs,h1,h2⟩:=HH4.out
     exact⟨vs,own_keepF h1 HKK6.out,h2.keepF HKK6.out⟩)
    clear HL4 HL5 HH4 HO5 HKK5 HKK6 HB3 HB5 HK3 HK5
    have c0:w6.cell? ⟨w.heap.size,0,none⟩=some (.int .i64 q.x0):=HB6.out.cell 0
    have c1:w6.cell? ⟨w.heap.size,1,none⟩=some (.int .i64 q.y0):=HB6.out.cell 1
    have c2:w6.cell? ⟨w.heap.size,2,none⟩=some (.int .i64 q.x1):=HB6.out.cell 2
    have c3:w6.cell? ⟨w.heap.size,3,none⟩=some (.int .i64 q.y1):=HB6.out.cell 3
    go_wp2_with fail
    go_quiet ((go_at_call 78;refine Calls.quiet_of_same ((lows_any _ _ _ ⟨by omega,by omega⟩ ⟨by omega,by omega⟩).mono (fun _ _ h=>⟨h.1,h.2.symm⟩))))
    rw [HWH.out.1,HWH.out.2]
    obtain⟨m1,e1⟩: ∃m1,(W-a)*(b-0)=m1:=⟨_,rfl⟩
    obtain⟨m2,e2⟩: ∃m2,(a-0)*(H-b)=m2:=⟨_,rfl⟩
    obtain⟨m3,e3⟩: ∃m3,(W-a)*(H-b)=m3:=⟨_,rfl⟩
    obtain⟨m0,e0⟩: ∃m0,(a-0)*(b-0)=m0:=⟨_,rfl⟩
    rw [e1,e2,e3]at HL3
    rw [e0]at HL0
    have HE1:=hid e1
    have HE2:=hid e2
    have HE3:=hid e3
    have HE0:=hid e0
    clear e0 e1 e2 e3 c0 c1 c2 c3
    generalize hw9:w6.drewN _=w7 at*
    have hk7:Keep (fun _=>False) w6 w7:=by rw [← hw9];exact(Keep.refl _ w6).drewN _
    have HK7:=hid (HK6.out.trans hk7 (fun _ _ h=>h))
    have HB7:=hid (HB6.out.keep hk7 id)
    have HO7:=hid (HO6.out.keepF hk7)
    have HH8:=hid (show∃vs,w7.ownsRow w.heap.size 22 1 (.slice B m d) m vs∧RR w7 w.heap.size vs (highs r i)from by
     obtain⟨vs,h1,h2⟩:=HH7.out
     exact⟨vs,own_keepF h1 hk7,h2.keepF hk7⟩)
    have hb6:w.heap.size≤w6.heap.size:=HK6.out.size
    have hb7:w.heap.size≤w7.heap.size:=HK7.out.size
    clear hw9 hk7 HK6 HB6 HO6 HH7 HL7
    subst hm
    go_wp2_with fail
    refine(cut10_at _ W H N A6 c6 a 0 W b m1 HN.out HO7.out hc6 hW12 hH12 haW (Nat.le_refl _) (Nat.zero_le _) hbH HE1.out).mono ?_
    intro e w8 hrow
    obtain⟨X1,d1,rfl,hd1,ho1,hk8⟩:=hrow.slb
    replace HK7:=hid (HK7.out.trans hk8 (fun _ _ h=>h))
    replace HB7:=hid (HB7.out.keep hk8 id)
    replace HO7:=hid (HO7.out.keepF hk8)
    have HV1:=hid ((ho1.mono hb7).slb hd1)
    replace HH8:=hid (show∃vs,w8.ownsRow w.heap.size 22 1 (.slice B (3*i) d) (3*i) vs∧RR w8 w.heap.size vs (highs r i)from by
     obtain⟨vs,h1,h2⟩:=HH8.out
     exact⟨vs,own_keepF h1 hk8,h2.keepF hk8⟩)
    have hb8:w.heap.size≤w8.heap.size:=HK7.out.size
    clear hrow ho1 hk8 hd1
    go_wp2_with fail
    refine(cut10_at _ W H N A6 c6 0 b a H m2 HN.out HO7.out hc6 hW12 hH12 (Nat.zero_le _) haW hbH (Nat.le_refl _) HE2.out).mono ?_
    intro e w9 hrow
    obtain⟨X2,d2,rfl,hd2,ho2,hk9⟩:=hrow.slb
    replace HK7:=hid (HK7.out.trans hk9 (fun _ _ h=>h))
    replace HB7:=hid (HB7.out.keep hk9 id)
    replace HO7:=hid (HO7.out.keepF hk9)
    replace HV1:=hid (HV1.out.keepF hk9)
    have HV2:=hid ((ho2.mono hb8).slb hd2)
    replace HH8:=hid (show∃vs,w9.ownsRow w.heap.size 22 1 (.slice B (3*i) d) (3*i) vs∧RR w9 w.heap.size vs (highs r i)from by
     obtain⟨vs,h1,h2⟩:=HH8.out
     exact⟨vs,own_keepF h1 hk9,h2.keepF hk9⟩)
    have hb9:w.heap.size≤w9.heap.size:=HK7.out.size
    clear hrow ho2 hk9 hd2
    go_wp2_with fail
    refine(cut10_at _ W H N A6 c6 a b W H m3 HN.out HO7.out hc6 hW12 hH12 haW (Nat.le_refl _) hbH (Nat.le_refl _) HE3.out).mono ?_
    intro e w10 hrow
    obtain⟨X3,d3,rfl,hd3,ho3,hk10⟩:=hrow.slb
    replace HK7:=hid (HK7.out.trans hk10 (fun _ _ h=>h))
    replace HB7:=hid (HB7.out.keep hk10 id)
    replace HO7:=hid (HO7.out.keepF hk10)
    replace HV1:=hid (HV1.out.keepF hk10)
    replace HV2:=hid (HV2.out.keepF hk10)
    have HV3:=hid ((ho3.mono hb9).slb hd3)
    obtain⟨vs,hvo,hvr⟩:=HH8.out
    have HVR:=hid (hvr.keepF hk10)
    have HVO:=hid (own_keepF hvo hk10)
    have hb10:w.heap.size≤w10.heap.size:=HK7.out.size
    have HNW:=hid (own_new w10 w.heap.size 22 #[.slice X1 m1 d1,.slice X2 m2 d2,.slice X3 m3 d3] 3 rfl (by simp only [maxLen];omega) hb10)
    have HRD:=hid ((Rd.of_own HVO.out).alloc (.cells #[.slice X1 m1 d1,.slice X2 m2 d2,.slice X3 m3 d3] 22))
    have HON:=hid (HVR.out.one)
    clear hrow ho3 hk10 hd3 hvo hvr HH8
    go_wp2_with (
     at_builtin
     go_must (refine wpList_append_src _ rfl (.tmp 73) (.tmp 74) 109 rfl w.heap.size 22 i1 _ 24 Tryz.underlying109 hi1 ey0 ey1 ey2 rfl HNW.out rfl HRD.out rfl HON.out (by simp only [maxLen];omega) (by omega) (by simp;omega) ?_)
     intro v2 w11 hown2 hg2 hat2 _hold2
     obtain⟨B2,e2,rfl⟩:=own_form hown2
     have hk11:=keep_append_new rfl hg2
     replace HK7:=hid (HK7.out.trans hk11 (fun _ _ h=>h))
     replace HB7:=hid (HB7.out.keep hk11 id)
     replace HO7:=hid (HO7.out.keepF hk11)
     have HRR:=hid (show RR w11 w.heap.size ([.slice X1 m1 d1,.slice X2 m2 d2,.slice X3 m3 d3]++vs) (highs r (i+1))from by
      rw [HL3.out]
      exact RR.app (RR.cons (HV1.out.keepF hk11) (RR.cons (HV2.out.keepF hk11) (RR.cons (HV3.out.keepF hk11) RR.nil))) (HVR.out.keepF hk11))
     have HOW:=hid hown2
     clear hown2 hg2 hat2 _hold2 hk11)
    refine(cut10_at _ W H N A6 c6 0 0 a b m0 HN.out HO7.out hc6 hW12 hH12 (Nat.zero_le _) haW (Nat.zero_le _) hbH HE0.out).mono ?_
    intro e w12 hrow
    obtain⟨X0,d0,rfl,hd0,ho0,hk12⟩:=hrow.slb
    have hb11:w.heap.size≤w11.heap.size:=HK7.out.size
    replace HK7:=hid (HK7.out.trans hk12 (fun _ _ h=>h))
    replace HB7:=hid (HB7.out.keep hk12 id)
    replace HRR:=hid (HRR.out.keepF hk12)
    replace HOW:=hid (own_keepF HOW.out hk12)
    have HLL:=hid (ho0.mono hb11)
    clear hrow ho0 hk12 HO7
    go_wp2_with (refine wpList_load_row rfl _ _ rfl _ rfl _ _ _ _ HB7.out Tryz.underlying63 rfl (by kernel_rfl) ?_)
    refine(half_any _ q HQF.out).mono ?_
    rintro e w13 ⟨rfl,hk13⟩
    replace HK7:=hid (HK7.out.trans hk13 (fun _ _ h=>h))
    replace HB7:=hid (HB7.out.keep hk13 id)
    replace HRR:=hid (HRR.out.keepF hk13)
    replace HOW:=hid (own_keepF HOW.out hk13)
    replace HLL:=hid (HLL.out.keepF hk13)
    have HQH:=hid (show q.half=r.down (i+1)from by rw [← HQ.out];exact(Rc.down_succ r i).symm)
    clear hk13
    rw [HQH.out]
    have HN6:=hid (show SpI w r (i+1) X0 m0 d0 B2 (3+3*i) e2 (w13.setRow w.heap.size (r.down (i+1)).cells)from by
     have hkr:Keep (fun j=>j=w.heap.size) w13 (w13.setRow w.heap.size (r.down (i+1)).cells):=Keep.row (S:=fun j=>j=w.heap.size) (Keep.refl _ w13) (.inl rfl) _
     have hT: ∀(g:Nat) (cs:Array Value),Blk w13 g 3 cs→ ¬(g=w.heap.size):=fun g cs hg e=>by rw [e]at hg;exact Blk.ne_ hg HB7.out (by decide) rfl
     refine⟨HB7.out.row,?_,hd0,HL0.out,⟨_,own_keep HOW.out hkr (fun k e e2=>own_ne HOW.out HB7.out (by decide) (by rw [e,e2])),HRR.out.keepS hkr hT⟩,HK7.out.row (.inr (Nat.le_refl _)) _⟩
     obtain⟨n',A',c',en,ev,_,ho⟩:=(HLL.out.slb hd0).keepS hkr hT
     injection ev with ev1 ev2 ev3
     subst ev1 ev2 ev3
     exact ho)
    unfold Rc.val
    go_wp2_with (refine wpList_store_row rfl _ _ _ rfl w.heap.size _ rfl rfl _ _ HB7.out (by kernel_rfl) rfl (by simp [Value.oneCell']) ?_)
    go_roundw
    case rel=>exact⟨i+1,X0,m0,d0,B2,3+3*i,e2,by omega,by go_num,rfl,rfl,by omega,HN6⟩
    case measure=>simp [intOf]<;>omega
  · obtain rfl:i=L:=by omega
    obtain⟨vs,hvo,hvr⟩:=HS.out.hi
    have hb:w.heap.size≤wr.heap.size:=HS.out.keep.size
    have HNW:=hid (own_new wr w.heap.size 22 #[.slice A N c] 1 rfl (by simp only [maxLen];omega) hb)
    have HRD:=hid ((Rd.of_own hvo).alloc (.cells #[.slice A N c] 22))
    have HON:=hid (hvr.one)
    have HVR:=hid hvr
    subst hm
    clear hvo hvr
    go_wp2_with (
     at_builtin
     go_must (refine wpList_append_src _ rfl (.tmp 84) (.tmp 85) 109 rfl w.heap.size 22 i1 _ 24 Tryz.underlying109 hi1 ey0 ey1 ey2 rfl HNW.out rfl HRD.out rfl HON.out (by simp only [maxLen];omega) (by omega) (by simp;omega) ?_)
     intro v2 w11 hown2 hg2 hat2 _hold2
     obtain⟨B2,e2,rfl⟩:=own_form hown2
     have hk11:=keep_append_new rfl hg2
     have HZ:=hid (show SplitP w r i (.returned (.slice B2 (1+3*i) e2)) w11 from
      ⟨B2,1+3*i,e2,_,rfl,by omega,hown2,RR.cons (show SlB w11 w.heap.size (.slice A N c) (r.down i).area from by rw [HS.out.ln];exact((HS.out.ll).slb HS.out.lc).keepF hk11) (HVR.out.keepF hk11),HS.out.keep.trans hk11 (fun _ _ h=>h)⟩)
     clear hown2 hg2 hat2 _hold2 hk11)
    go_ret
    exact HZ.out
def IntsP (k:Nat) (b:Int) (w:World) (e:Ending) (w':World):Prop:= ∃(A:Option Addr) (c:Nat) (zs:List Int),e=.returned (.slice A k c)∧zs.length=k∧(∀ z∈zs,0≤z∧z≤b)∧k≤c∧w'.ownsRow w.heap.size 3 1 (.slice A k c) k (zs.map (Value.int .i64))∧Keep (fun _=>False) w w'
theorem bitN_any (w:World) (b:Bool):Calls Tryz.prog 49 #[.bool b] w (SomeN 0 1 w):=
 (bit17_any w b).mono fun e w' h=>by
  obtain⟨rfl,rfl⟩:=h
  cases b
  · exact⟨0,by omega,by omega,rfl,rfl⟩
  · exact⟨1,by omega,by omega,rfl,rfl⟩
theorem Keep.appNew {w0 w w':World} {base n size:Nat} {e:TypeId} {v:Value} {xs:List Value} (h:Keep (fun _=>False) w0 w) (ho:w.ownsRow base e size v n xs) (hb:w0.heap.size≤base) {o:Obj} (hg:(w.alloc o).grownBy w' v.ownBlock):Keep (fun _=>False) w0 w':=
 keep_app h ho hb (((Keep.refl _ w).alloc o).grown hg (fun k hk=>.inl hk))
theorem Blk.app {w w':World} {base n size:Nat} {e t:TypeId} {v:Value} {xs:List Value} {g:Nat} {cs:Array Value} (h:Blk w g t cs) (ho:w.ownsRow base e size v n xs) (hne:e≠t) {o:Obj} (hg:(w.alloc o).grownBy w' v.ownBlock):Blk w' g t cs:=
 h.keep (((Keep.refl _ w).alloc o).grown hg (fun k hk=>.inl hk)) (own_ne ho h hne)
structure EI (w0:World) (m:Im) (p:Pm) (A:Option Addr) (n c:Nat) (zs:List Int) (w:World):Prop where
 bp:Blk w (w0.heap.size+1) 31 p.cells
 own:w.ownsRow w0.heap.size 3 1 (.slice A n c) n (zs.map (Value.int .i64))
 keep:Keep (fun _=>False) w0 w
 lim: ∀z∈zs,0≤z∧z≤13
theorem expo_any (w:World) (m:Im) (p:Pm) (cs:List Cm) (hcs:RdS w m.A m.n 5 (cms cs)) (hl:cs.length=m.n) (hC: ∀c∈cs,c.depth≤10) (hn4:m.n≤4) (hL:p.lev≤5):
 Calls Tryz.prog 50 #[.agg m.cells,.agg p.cells] w (IntsP (1+3*p.lev) 13 w):=by
 obtain⟨i0,hi0,hz0,hz1,hz2⟩:=info_parts info_int
 have HC:=hid hC
 have HR:=hid hcs
 have HL:=hid hl
 have HMC:=hid (show m.cells=#[.int .i64 m.x,.int .i64 m.y,.int .i64 m.ox,.int .i64 m.oy,.slice m.A m.n m.c]from rfl)
 have HPC:=hid (show p.cells=#[.int .i64 p.tx,.int .i64 p.ty,.int .i64 p.lev,.int .i64 p.cbw,.int .i64 p.cbh,.int .i64 p.prec,.int .i64 p.style,.int .i64 p.order,.int .i64 p.lay,.bool p.rct,.bool p.sop,.bool p.eph]from rfl)
 have HB1:=hid ((Blk.new w 29 m.cells).alloc (.cells p.cells 31))
 have HB2:=hid (Blk.new1 w (.cells m.cells 29) 31 p.cells)
 have HK0:=hid (((Keep.refl (fun _=>False) w).alloc (.cells m.cells 29)).alloc (.cells p.cells 31))
 clear hC hcs hl
 go_enter Tryz.func50,Tryz.ntmps50
 go_wp2_with fail
 generalize (w.alloc (.cells m.cells 29)).alloc (.cells p.cells 31)=w1 at*
 have m4:w1.cell? ⟨w.heap.size,4,none⟩=some (.slice m.A m.n m.c):=by rw [HB1.out.cell,HMC.out];rfl
 go_loop [5,6] (fun d v=> ∃(i:Nat) (z:Int),i≤m.n∧v=.int .i64 i∧d=.int .i64 z∧0≤z∧z≤10) (fun _ v=>m.n-(intOf v).toNat)
 case atStart=>exact⟨0,0,by omega,rfl,rfl,by omega,by omega⟩
 case round=>
  obtain⟨i,z,hi,rfl,rfl,hz0',hz10⟩:=hrel
  by_cases hin:i<m.n
  · obtain⟨b,o,C,hm,hA,c0,c1,c2,c3,c4⟩:=comp_cells (HR.out.keep0 HK0.out) HL.out hin
    have hd:=HC.out C hm
    rw [hA]at m4
    clear hm hA c1 c2 c3 c4
    go_wp2_with (first|refine wpList_max rfl _ _ _ rfl _ _ rfl rfl ?_|refine wpList_min rfl _ _ _ rfl _ _ rfl rfl ?_)
    go_round
    case rel=>exact⟨i+1,max z C.depth,by omega,by go_num,rfl,by omega,by omega⟩
    case measure=>simp [intOf]<;>omega
  · obtain rfl:i=m.n:=by omega
    have p9:w1.cell? ⟨w.heap.size+1,9,none⟩=some (.bool p.rct):=by rw [HB2.out.cell,HPC.out];rfl
    go_wp2_with (go_at_call 49;refine(bitN_any _ _).mono ?_;rintro e w2 ⟨q,hq0,hq1,rfl,rfl⟩)
    have hb1:w.heap.size≤w1.heap.size:=HK0.out.size
    have HI0:=hid (show EI w m p (some ⟨w1.heap.size,0,none⟩) 1 1 [z+q] (w1.alloc (.cells #[.int .i64 (z+q)] 3))from
     ⟨HB2.out.alloc _,own_new w1 w.heap.size 3 #[.int .i64 (z+q)] 1 rfl (by simp only [maxLen];omega) hb1,HK0.out.alloc _,fun x hx=>by rw [List.mem_singleton]at hx;omega⟩)
    clear p9 m4
    go_loopw [7,8] (fun l v wr=> ∃(k n:Nat) (A:Option Addr) (c:Nat) (zs:List Int),k≤p.lev∧v=.int .i64 k∧l=.slice A n c∧n=1+3*k∧Hid (EI w m p A n c zs wr)) (fun _ v _=>p.lev-(intOf v).toNat)
    case atStart=>exact⟨0,1,_,1,_,by omega,rfl,rfl,rfl,HI0⟩
    case round=>
     clear HI0
     obtain⟨k,n,A,c,zs,hk,rfl,rfl,hn,HI⟩:=hrel
     have p2c:wr.cell? ⟨w.heap.size+1,2,none⟩=some (.int .i64 p.lev):=by rw [HI.out.bp.cell,HPC.out];rfl
     by_cases hkl:k<p.lev
     · have hb:w.heap.size≤wr.heap.size:=HI.out.keep.size
       have HOW:=hid (own_keepF HI.out.own ((Keep.refl (fun _=>False) wr).alloc (.cells #[.int .i64 (z+q+1),.int .i64 (z+q+1),.int .i64 (z+q+2)] 3)))
       have HRD:=hid (show Rd (wr.alloc (.cells #[.int .i64 (z+q+1),.int .i64 (z+q+1),.int .i64 (z+q+2)] 3)) (some ⟨wr.heap.size,0,none⟩) 3 ([z+q+1,z+q+1,z+q+2].map (Value.int .i64))from Rd.of_own (own_new wr w.heap.size 3 #[.int .i64 (z+q+1),.int .i64 (z+q+1),.int .i64 (z+q+2)] 3 rfl (by simp only [maxLen];omega) hb))
       go_wp2_with (
        at_builtin
        go_must (refine wpList_append_src _ rfl (.tmp 37) (.tmp 44) 22 rfl w.heap.size 3 i0 _ 8 Tryz.underlying22 hi0 hz0 hz1 hz2 rfl HOW.out rfl HRD.out rfl (oneCell_ints _ _) (by simp only [maxLen];omega) (by omega) (by simp;omega) ?_)
        intro v2 w3 hown2 hg2 hat2 _hold2
        obtain⟨A3,c3,rfl⟩:=own_form hown2
        have HN6:=hid (show EI w m p A3 (n+3) c3 (zs++[z+q+1,z+q+1,z+q+2]) w3 from
         ⟨HI.out.bp.app HI.out.own (by decide) hg2,by rw [List.map_append];exact hown2,HI.out.keep.appNew HI.out.own (Nat.le_refl _) hg2,fun x hx=>by
          rcases List.mem_append.1 hx with h|h
          · exact HI.out.lim x h
          · simp at h;omega⟩)
        clear hown2 hg2 hat2 _hold2)
       go_roundw
       case rel=>exact⟨k+1,n+3,A3,c3,_,by omega,by go_num,by first|rfl|rw [hn],by omega,HN6⟩
       case measure=>simp [intOf]<;>omega
     · have HZ:=hid (show IntsP (1+3*p.lev) 13 w (.returned (.slice A n c)) wr from by
        obtain rfl:k=p.lev:=by omega
        subst hn
        exact⟨A,c,zs,rfl,by have:=HI.out.own.1;simpa using this,HI.out.lim,own_cap HI.out.own,HI.out.own,HI.out.keep⟩)
       go_wp2_with fail
       go_ret
       exact HZ.out
theorem putB_bytes (x:Int): ∀s,Bytes (putB x s)
 |0=>fun z h=>by cases h
 |s+1=>fun z h=>by
  rcases List.mem_cons.1 h with rfl|h
  · have h1:=Int.emod_nonneg (IntKind.u64.wrap x/2^(8*s)) (show(256:Int)≠0 by omega)
    have h2:=Int.emod_lt_of_pos (IntKind.u64.wrap x/2^(8*s)) (show(0:Int)<256 by omega)
    omega
  · exact putB_bytes x s z h
theorem Bytes.app {a b:List Int} (ha:Bytes a) (hb:Bytes b):Bytes (a++b):=fun z h=>by
 rcases List.mem_append.1 h with h|h
 · exact ha z h
 · exact hb z h
structure By (w0:World) (base:Nat) (A:Option Addr) (n c:Nat) (zs:List Int) (w:World):Prop where
 own:w.ownsRow base 5 1 (.slice A n c) n (zs.map (Value.int .u8))
 keep:Keep (fun _=>False) w0 w
 bytes:Bytes zs
 b0:w0.heap.size≤base
 b1:base≤w.heap.size
def Loc (w:World) (A A':Option Addr):Prop:=A'=A∨ ∃a,A'=some a∧w.heap.size≤a.block
section
variable {w0 w w':World} {base:Nat} {A A' X:Option Addr} {n c n' c':Nat} {zs:List Int}
theorem By.len (h:By w0 base A n c zs w):zs.length=n:=by have:=h.own.1;simpa using this
theorem By.nil (w0:World):By w0 w0.heap.size none 0 0 [] w0:=⟨World.ownsRow_nil _ _ _ _,Keep.refl _ _,fun _ h=>(by cases h),Nat.le_refl _,Nat.le_refl _⟩
theorem By.keepF (h:By w0 base A n c zs w) (hk:Keep (fun _=>False) w w'):By w0 base A n c zs w':=⟨own_keepF h.own hk,h.keep.trans hk (fun _ _ h=>h),h.bytes,h.b0,Nat.le_trans h.b1 hk.size⟩
theorem By.rd (h:By w0 base A n c zs w):Rd w A n (zs.map (Value.int .u8)):=Rd.of_own h.own
theorem By.lt (h:By w0 base A n c zs w) {a:Addr} (e:A=some a):a.block<w.heap.size:=by subst e;exact(h.own.lt a.block (by simp [Value.ownBlock])).2
theorem loc_of {v v':Value} (hv:v=.slice A n c) (hv':v'=.slice A' n' c') (h:v'.ownBlock=v.ownBlock∨ ∃k,v'.ownBlock=some k∧w.heap.size≤k) (hA: ∀a,A=some a→a=⟨a.block,0,none⟩) (hA': ∀a,A'=some a→a=⟨a.block,0,none⟩):Loc w A A':=by
 subst hv hv'
 rcases A' with _|a'
 · rcases A with _|a
   · exact .inl rfl
   · rcases h with h|⟨k,h,_⟩<;>simp [Value.ownBlock]at h
 · rcases h with h|⟨k,h,hk⟩
   · rcases A with _|a
     · simp [Value.ownBlock]at h
     · simp [Value.ownBlock]at h
       rw [hA a rfl,hA' a' rfl,h]
       exact .inl rfl
   · simp [Value.ownBlock]at h
     exact .inr ⟨a',rfl,by omega⟩
theorem own_head {e:TypeId} {size:Nat} {xs:List Value} (h:w.ownsRow base e size (.slice A n c) n xs): ∀a,A=some a→a=⟨a.block,0,none⟩:=by
 intro a e
 subst e
 rcases h.2 with⟨hv,_⟩|⟨g,cap,cur,hv,_⟩
 · cases hv
 · injection hv with hv
   injection hv with hv
   rw [hv]
theorem Loc.apart (h:Loc w A A') (hx: ∀a x,A=some a→X=some x→a.block≠x.block) (hw: ∀x,X=some x→x.block<w.heap.size): ∀a x,A'=some a→X=some x→a.block≠x.block:=by
 intro a x ea ex
 rcases h with h|⟨b,h,hb⟩
 · rw [h]at ea;exact hx a x ea ex
 · rw [ea]at h;injection h with h;subst h;have:=hw x ex;omega
end
theorem put_at (w0 w:World) (base:Nat) (A:Option Addr) (n c:Nat) (zs:List Int) (s:Nat) (x:Int) (h:By w0 base A n c zs w) (hn:n≤70368744177664) (hs1:1≤s) (hs2:s≤8):
 Calls Tryz.prog 24 #[.slice A n c,.int .i64 s,.int .i64 x] w fun e w'=> ∃A' c',e=.returned (.slice A' (n+s) c')∧By w0 base A' (n+s) c' (zs++putB x s) w'∧Keep (fun k=>(Value.slice A n c).ownBlock=some k) w w'∧Loc w A A':=by
 refine(refput_any A n c zs s x w base h.own h.b1 hn (by omega) (by omega)).mono ?_
 rintro e w' ⟨v',rfl,h1,h2,h3,h4⟩
 rw [Int.toNat_natCast]at h1
 obtain⟨A',c',rfl⟩:=own_form h1
 exact⟨A',c',rfl,⟨h1,keep_app h.keep h.own h.b0 h3,h.bytes.app (putB_bytes x s),h.b0,Nat.le_trans h.b1 h3.size⟩,h3,loc_of rfl rfl h4 (own_head h.own) (own_head h1)⟩
def segB (mark:Int) (xs:List Int):List Int:=putB mark 2++(putB ((xs.length:Int)+2) 2++xs)
def FA (A:Option Addr) (k:Nat):Prop:= ∃a,A=some a∧a.block=k
theorem fa_of {A:Option Addr} {n c k:Nat} (h:(Value.slice A n c).ownBlock=some k):FA A k:=by
 rcases A with _|a
 · simp [Value.ownBlock]at h
 · simp [Value.ownBlock]at h
   exact⟨a,rfl,h⟩
theorem fa_own {A:Option Addr} {n c k:Nat} (h:FA A k):(Value.slice A n c).ownBlock=some k:=by
 obtain⟨a,rfl,h⟩:=h
 simp [Value.ownBlock,h]
theorem Loc.keep {w w1 w2:World} {A A1:Option Addr} (h:Loc w A A1) (h1:Keep (FA A) w w1) (h2:Keep (FA A1) w1 w2):Keep (FA A) w w2:=
 h1.trans h2 (fun i hi hf=>by
  obtain⟨a,e,hb⟩:=hf
  rcases h with h|⟨b,h,hb2⟩
  · exact⟨a,by rw [← h];exact e,hb⟩
  · rw [e]at h;injection h with h;subst h;omega)
theorem Loc.trans {w w1:World} {A A1 A2:Option Addr} (h:Loc w A A1) (h2:Loc w1 A1 A2) (hs:w.heap.size≤w1.heap.size):Loc w A A2:=by
 rcases h2 with e|⟨a,e,ha⟩
 · rw [e];exact h
 · exact .inr ⟨a,e,by omega⟩
def MoreP (w0 w:World) (base:Nat) (A:Option Addr) (n k:Nat) (zs ys:List Int) (e:Ending) (w':World):Prop:=
 ∃A' c',e=.returned (.slice A' (n+k) c')∧By w0 base A' (n+k) c' (zs++ys) w'∧Loc w A A'∧Keep (FA A) w w'
theorem seg_any (w0 w:World) (base:Nat) (A:Option Addr) (n c:Nat) (zs:List Int) (mark:Int) (X:Option Addr) (m cx:Nat) (xs:List Int) (h:By w0 base A n c zs w) (hx:Rd w X m (xs.map (Value.int .u8))) (hb:Bytes xs)
 (hap: ∀a x,A=some a→X=some x→a.block≠x.block) (hlt: ∀x,X=some x→x.block<w.heap.size) (hn:n≤1000000) (hm:m≤1000000):
 Calls Tryz.prog 34 #[.slice A n c,.int .i64 mark,.slice X m cx] w (MoreP w0 w base A n (4+m) zs (segB mark xs)):=by
 obtain⟨i0,hi0,hz0,hz1,hz2⟩:=info_parts info_u8
 have hxl:=hx.len
 have HX:=hid hx
 have HB:=hid hb
 have HH:=hid h
 have HAP:=hid hap
 have HLT:=hid hlt
 have HXL:=hid hxl
 clear h hx hb hap hlt hxl
 go_enter Tryz.func34,Tryz.ntmps34
 go_wp2_with fail
 refine(put_at w0 _ base A n c zs 2 mark HH.out (by omega) (by omega) (by omega)).mono ?_
 rintro e w1 ⟨A1,c1,rfl,h1,hk1,hl1⟩
 have H1:=hid h1
 have hne1: ∀x,X=some x→ ¬(Value.slice A n c).ownBlock=some x.block:=fun x ex e=>by
  rcases A with _|a
  · simp [Value.ownBlock]at e
  · simp [Value.ownBlock]at e
    exact HAP.out a x rfl ex e
 have HX1:=hid (HX.out.keep hk1 hne1)
 have HA1:=hid (hl1.apart HAP.out HLT.out)
 have HL1:=hid hl1
 have hs1:=hk1.size
 have HK1:=hid (hk1.mono (fun _ _ h=>fa_of h))
 clear h1 hk1 hl1 hne1
 go_wp2_with fail
 refine(put_at w0 _ base A1 (n+2) c1 (zs++putB mark 2) 2 _ H1.out (by omega) (by omega) (by omega)).mono ?_
 rintro e w2 ⟨A2,c2,rfl,h2,hk2,hl2⟩
 have hne2: ∀x,X=some x→ ¬(Value.slice A1 (n+2) c1).ownBlock=some x.block:=fun x ex e=>by
  rcases A1 with _|a
  · simp [Value.ownBlock]at e
  · simp [Value.ownBlock]at e
    exact HA1.out a x rfl ex e
 have H2:=hid h2
 have HX2:=hid (HX1.out.keep hk2 hne2)
 have HA2:=hid (hl2.apart HA1.out (fun x ex=>by have:=HLT.out x ex;omega))
 have HL2:=hid (HL1.out.trans hl2 hs1)
 have HKA:=hid (HL1.out.keep HK1.out (hk2.mono (fun _ _ h=>fa_of h)))
 have HS2:=hid (show w.heap.size≤w2.heap.size by have:=hk2.size;omega)
 have hb2:=H2.out.b1
 have hb0:=H2.out.b0
 clear h2 hk2 hl2 hne2
 go_wp2_with (
  at_builtin
  go_must (refine wpList_append_src _ rfl (.tmp 13) (.tmp 14) 25 rfl base 5 i0 _ 1 Tryz.underlying25 hi0 hz0 hz1 hz2 rfl H2.out.own rfl HX2.out rfl (oneCell_ints _ _) (by simp only [maxLen];omega) (by omega) hb2 ?_)
  intro v2 w3 hown2 hg2 hat2 _hold2
  obtain⟨A3,c3,rfl⟩:=own_form hown2
  have HZ:=hid (show MoreP w0 w base A n (4+m) zs (segB mark xs) (.returned (.slice A3 (n+2+2+m) c3)) w3 from by
   have hk3:Keep (fun k=>(Value.slice A2 (n+2+2) c2).ownBlock=some k) w2 w3:=(Keep.refl _ w2).grown hg2 (fun k hk=>.inl hk)
   rw [← List.map_append]at hown2
   have hown3:=hown2
   rw [show n+2+2+m=n+(4+m) by omega]at hown3 ⊢
   refine⟨A3,c3,rfl,⟨?_,keep_app H2.out.keep H2.out.own hb0 hk3,?_,hb0,Nat.le_trans hb2 hk3.size⟩,?_⟩
   · have e:zs++segB mark xs=zs++putB mark 2++putB ((m:Int)+2) 2++xs:=by unfold segB;rw [HXL.out];simp only [List.append_assoc]
     rw [e]
     exact hown3
   · exact HH.out.bytes.app ((putB_bytes _ _).app ((putB_bytes _ _).app HB.out))
   · have hl3:Loc w2 A2 A3:=loc_of rfl rfl (hat2.imp id (fun e=>⟨_,e,Nat.le_refl _⟩)) (own_head H2.out.own) (own_head hown2)
     exact⟨HL2.out.trans hl3 HS2.out,HL2.out.keep HKA.out (hk3.mono (fun _ _ h=>fa_of h))⟩)
  clear hown2 hg2 hat2 _hold2)
 go_ret
 exact HZ.out
theorem map_marks_ (acc:List (Int×Nat)):(acc.map fun p=>Value.int .i64 p.1)=(acc.map (·.1)).map (Value.int .i64):=by rw [List.map_map];rfl
theorem map_places (acc:List (Int×Nat)):(acc.map fun p=>Value.int .i64 (p.2:Int))=(acc.map fun p=>(p.2:Int)).map (Value.int .i64):=by rw [List.map_map];rfl
def WalkP (w:World) (zs:List Int) (e:Ending) (w':World):Prop:=
 Keep (fun _=>False) w w'∧match walkM zs with
  |none=>e=.returned (.tuple #[.slice none 0 0,.slice none 0 0,.int .i64 10])
  |some l=> ∃M cm T ct,e=.returned (.tuple #[.slice M l.length cm,.slice T l.length ct,.int .i64 0])∧w'.ownsRow w.heap.size 3 1 (.slice M l.length cm) l.length ((l.map (·.1)).map (Value.int .i64))∧w'.ownsRow w.heap.size 3 1 (.slice T l.length ct) l.length ((l.map fun p=>(p.2:Int)).map (Value.int .i64))
theorem walk_any (w:World) (A:Option Addr) (n c:Nat) (zs:List Int) (hr:Rd w A n (zs.map (Value.int .u8))) (hA: ∀ad,A=some ad→ad.block<w.heap.size) (hby:Bytes zs) (hcap:n≤c) (hbig:c≤9223372036854775807) (hn:n≤1099511627776):
 Calls Tryz.prog 11 #[.slice A n c] w (WalkP w zs):=by
 have hw:=Blk.new w 67 #[.slice A n c,.int .i64 0,.slice none 0 0,.slice none 0 0,.bool false]
 have hk:=(Keep.refl (fun _=>False) w).alloc (.cells #[.slice A n c,.int .i64 0,.slice none 0 0,.slice none 0 0,.bool false] 67)
 have hnil: ∀b:Nat,(w.alloc (.cells #[.slice A n c,.int .i64 0,.slice none 0 0,.slice none 0 0,.bool false] 67)).ownsRow b 3 1 (.slice none 0 0) 0 []:=fun b=>⟨rfl,.inl ⟨rfl,rfl⟩⟩
 have hl:zs.length=n:=by simpa using hr.len
 have HW:=hid (show WkG (w.alloc (.cells #[.slice A n c,.int .i64 0,.slice none 0 0,.slice none 0 0,.bool false] 67)) w.heap.size w.heap.size A n c zs 0 none 0 0 none 0 [] false from
  { blk:=hw,rd:=hr.alloc _,low:=hA,oM:=hnil _,oT:=hnil _,dj:=fun j e=>by simp [Value.ownBlock]at e
    vb:=Nat.le_refl _,len:=hl,cap:=hcap,big:=hbig,size:=hn,byt:=hby,few:=Nat.le_refl _,at_:=Nat.zero_le _ })
 have HK:=hid hk
 clear hw hk hnil hr hA hby
 have AL:=hid (all_any _ w.heap.size w.heap.size A n c zs HW.out HK.out.size)
 clear HW
 go_enter Tryz.func11,Tryz.ntmps11
 go_wp2_with fail
 refine AL.out.mono ?_
 rintro e w2 ⟨hk2,hp⟩
 have HK2:=hid (show Keep (fun _=>False) w w2 from HK.out.new hk2 (fun i h=>h))
 clear hk2 HK AL
 have HD:=hid (show∀e w',Keep (fun _=>False) w w'→(match walkM zs with
  |none=>e=.returned (.tuple #[.slice none 0 0,.slice none 0 0,.int .i64 10])
  |some l=> ∃M cm T ct,e=.returned (.tuple #[.slice M l.length cm,.slice T l.length ct,.int .i64 0])∧w'.ownsRow w.heap.size 3 1 (.slice M l.length cm) l.length ((l.map (·.1)).map (Value.int .i64))∧w'.ownsRow w.heap.size 3 1 (.slice T l.length ct) l.length ((l.map fun p=>(p.2:Int)).map (Value.int .i64)))→WalkP w zs e w' from fun e w' k h=>⟨k,h⟩)
 cases hm:walkM zs with
 |none=>
  rw [hm]at hp HD
  obtain rfl:=hp
  go_wp2_with fail
  exact bodyPost_ret (v:=.tuple #[.slice none 0 0,.slice none 0 0,.int .i64 10]) (by simp [results,Tryz.results11,go_sem]) rfl (HD.out _ _ HK2.out rfl)
 |some l=>
  rw [hm]at hp HD
  obtain⟨rfl,x,M,m,cm,T,ct,tl,hg⟩:=hp
  have HG:=hid hg
  have c2:w2.cell? ⟨w.heap.size,2,none⟩=some (.slice M m cm):=hg.blk.cell 2
  have c3:w2.cell? ⟨w.heap.size,3,none⟩=some (.slice T m ct):=hg.blk.cell 3
  have hml:l.length=m:=by have:=(Rd.of_own hg.oM).1;simpa using this
  have hmn:m≤1099511627776:=by have:=hg.few;have:=hg.at_;omega
  have RM:Hid (Rd w2 M m ((l.map (·.1)).map (Value.int .i64))):=hid (by rw [← map_marks_];exact Rd.of_own hg.oM)
  have RT:Hid (Rd w2 T m ((l.map fun p=>(p.2:Int)).map (Value.int .i64))):=hid (by rw [← map_places];exact Rd.of_own hg.oT)
  clear hg
  go_wp2_with fail
  refine At.start (L:=#[false,false,false,false,false,false,false,false,false,false,false,false,false]) (by kernel_rfl) rfl ?_
  refine AtP 0 12 ?_
  refine AtP 1 13 ?_
  refine AtP 2 14 ?_
  refine At.read 3 (some 15) (fun w'=>w'.cell? ⟨w.heap.size,2,none⟩=some (.slice M m cm)) (v:=?v3a) rfl rfl (by kernel_rfl) (fun _ _ _ h=>h) rfl c2 (fun w' hw'=>?y3a) ?_
  case y3a=>skip;go_simp;try with_reducible rfl
  try simp only [NS]
  refine AtP 5 17 ?_
  refine AtP 6 18 ?_
  refine AtP 7 19 ?_
  refine At.read 8 (some 20) (fun w'=>w'.cell? ⟨w.heap.size,3,none⟩=some (.slice T m ct)) (v:=?v8a) rfl rfl (by kernel_rfl) (fun _ _ _ h=>h) rfl c3 (fun w' hw'=>?y8a) ?_
  case y8a=>skip;go_simp;try with_reducible rfl
  try simp only [NS]
  refine At.call 4 (pend':=[(8,(fun w'=>w'.cell? ⟨w.heap.size,3,none⟩=some (.slice T m ct)))]) rfl (by kernel_rfl) rfl (by kernel_rfl) (fun K hK=>?_)
  go_simp
  refine(clone_ints M m cm _ w2.drew RM.out.drew hmn).mono ?_
  rintro e w3 ⟨v3,rfl,ho3,hk3⟩
  refine hK _ _ (all_cons (hk3.cell c3 (fun h=>h)) all_nil) ?_
  clear hK K
  try simp only [NS]
  refine AtC 9 fun K hK=>?_
  go_simp
  refine(clone_ints T m ct _ w3 (RT.out.drew.keep hk3 (fun _ _ h=>h)) hmn).mono ?_
  rintro e w4 ⟨v4,rfl,ho4,hk4⟩
  refine hK _ _ all_nil ?_
  clear hK K
  try simp only [NS]
  refine AtP 10 2 ?_
  refine AtP 11 3 ?_
  refine AtP 12 4 ?_
  refine At.done (by kernel_rfl) ?_
  obtain⟨M3,cm3,rfl⟩:=own_form ho3
  obtain⟨T4,ct4,rfl⟩:=own_form ho4
  have hs2:=HK2.out.size
  have hs3:=hk3.size
  have HF:=hid (HD.out (.returned (.tuple #[.slice M3 m cm3,.slice T4 m ct4,.int .i64 0])) w4 ((HK2.out.drew.trans hk3 (fun _ _ h=>h)).trans hk4 (fun _ _ h=>h)) (by
   rw [hml]
   exact⟨M3,cm3,T4,ct4,rfl,own_mono (own_keep ho3 hk4 (fun _ _ h=>h)) (by simpa using hs2),own_mono ho4 (by simp at hs3;omega)⟩))
  clear ho3 ho4 hk3 hk4 HG c2 c3 RM RT
  go_wp2_with fail
  exact bodyPost_ret (v:=.tuple #[.slice M3 m cm3,.slice T4 m ct4,.int .i64 0]) (by simp [results,Tryz.results11,go_sem]) rfl HF.out
theorem within_any (w:World) (x n:Int) (h0:-9223372036854775808≤x) (h1:x≤9223372036854775807) (hn:0<n) (hn2:n≤2199023255552):
 Calls Tryz.prog 10 #[.int .i64 x,.int .i64 n] w fun e w'=>e=.returned (.int .i64 (x%n))∧w=w':=by
 obtain⟨t1,t2,t3,t4⟩:=tmod_fix x n hn
 have hz:(n==0)=false:=by simp;omega
 have hw:wrap64 (x.tmod n)=x.tmod n:=IntWalk.wrap64_in _ (by omega)
 have hw2:IntKind.i64.wrap (x.tmod n)=x.tmod n:=IntWalk.i64_in _ (by omega)
 by_cases hc:x.tmod n<0
 · have e:=t1 hc
   have HE:=hid e
   clear t1 t2 e
   go_enter Tryz.func10,Tryz.ntmps10
   go_wp2_with fail
   go_ret
   exact⟨by rw [← HE.out];rfl,rfl⟩
 · have e:=t2 (by omega)
   have HE:=hid e
   clear t1 t2 e
   go_enter Tryz.func10,Tryz.ntmps10
   go_wp2_with fail
   go_ret
   exact⟨by rw [← HE.out];rfl,rfl⟩
theorem walk_four (w:World) (g:Nat) (h:Blk w g 5 #[.int .u8 255,.int .u8 79,.int .u8 255,.int .u8 217]):
 Calls Tryz.prog 11 #[.slice (some ⟨g,0,none⟩) 4 4] w fun e w'=>e=.returned (.tuple #[.slice none 0 0,.slice none 0 0,.int .i64 10])∧Keep (fun _=>False) w w':=by
 have hr:Rd w (some ⟨g,0,none⟩) 4 (([255,79,255,217]:List Int).map (Value.int .u8)):=⟨rfl,fun _=>⟨_,rfl,fun j v hj=>by
  have hj4:j<4:=by
   rcases Nat.lt_or_ge j 4 with h|h
   · exact h
   · rw [List.getElem?_eq_none (by simpa using h)]at hj;cases hj
  rw [add_lit',Nat.zero_add,h.cell j]
  match j,hj4 with
  |0,_=>simpa using hj
  |1,_=>simpa using hj
  |2,_=>simpa using hj
  |3,_=>simpa using hj⟩⟩
 have hm:walkM [255,79,255,217]=none:=by decide +kernel
 refine(walk_any w (some ⟨g,0,none⟩) 4 4 [255,79,255,217] hr (fun ad e=>by injection e with e;subst e;exact h.lt) (fun z hz=>by simp at hz;omega) (by omega) (by omega) (by omega)).mono ?_
 rintro e w' ⟨hk,hp⟩
 rw [hm]at hp
 exact⟨hp,hk⟩
theorem rd_lit2 (w:World) (x y:Int) (e:TypeId):Rd (w.alloc (.cells #[.int .u8 x,.int .u8 y] e)) (some ⟨w.heap.size,0,none⟩) 2 (([x,y]:List Int).map (Value.int .u8)):=
 ⟨rfl,fun _=>⟨_,rfl,fun j v hj=>by
  match j,hj with
  |0,hj=>simp at hj;subst hj;simp [Addr.add]
  |1,hj=>simp at hj;subst hj;simp [Addr.add]⟩⟩
theorem known_any (w:World):Calls Tryz.prog 7 #[] w fun e w'=>e=.returned (.bool true)∧Keep (fun _=>False) w w':=by
 have t1:cleanB [255,143]=true:=by decide +kernel
 have t2:cleanB [255,144]=false:=by decide +kernel
 have b1:Bytes [255,143]:=fun z hz=>by simp at hz;omega
 have b2:Bytes [255,144]:=fun z hz=>by simp at hz;omega
 go_enter Tryz.func7,Tryz.ntmps7
 go_wp2_with fail
 refine(walk_four _ w.heap.size (Blk.new w 5 _)).mono ?_
 rintro e w2 ⟨rfl,hk2⟩
 have HK2:=hid (((Keep.refl (fun _=>False) w).alloc _).trans hk2 (fun _ _ h=>h))
 clear hk2
 go_wp2_with fail
 refine(clean_any _ (some ⟨w2.heap.size,0,none⟩) 2 2 [255,143] (rd_lit2 w2 255 143 _) b1 (by omega)).mono ?_
 rintro e w3 ⟨rfl,hk3⟩
 have HK3:=hid (HK2.out.trans (((Keep.refl (fun _=>False) w2).alloc _).trans hk3 (fun _ _ h=>h)) (fun _ _ h=>h))
 clear hk3 HK2
 rw [t1]
 go_wp2_with fail
 refine(clean_any _ (some ⟨w3.heap.size,0,none⟩) 2 2 [255,144] (rd_lit2 w3 255 144 _) b2 (by omega)).mono ?_
 rintro e w4 ⟨rfl,hk4⟩
 have HK4:=hid (HK3.out.trans (((Keep.refl (fun _=>False) w3).alloc _).trans hk4 (fun _ _ h=>h)) (fun _ _ h=>h))
 clear hk4 HK3
 rw [t2]
 go_wp2_with fail
 go_ret
 exact⟨rfl,HK4.out⟩
theorem reftwo_any (w:World) (A:Option Addr) (n c:Nat) (zs:List Int) (x:Nat) (hr:Rd w A n (zs.map (Value.int .u8))) (hby:Bytes zs) (hn:n≤1099511627776) (hx:x≤2199023255552):
 Calls Tryz.prog 27 #[.slice A n c,.int .i64 x] w fun e w'=>e=.returned (.int .i64 (two zs x))∧Keep (fun _=>False) w w':=by
 have hl:zs.length=n:=by have:=hr.1;simpa using this
 have hd0:decide ((x:Int)<0)=false:=decide_eq_false (by omega)
 have hws:IntKind.i64.wrap ((n:Int)-x)=(n:Int)-x:=IntWalk.i64_in _ (by omega)
 by_cases hs:n<x+2
 · have ht:two zs x=-1:=two_lt (by omega)
   have hdl:decide ((n:Int)-x<2)=true:=by simp;omega
   rw [ht]
   clear hr
   go_enter Tryz.func27,Tryz.ntmps27
   go_wp2_with fail
   go_ret
   exact⟨rfl,Keep.refl _ _⟩
 · have hdl:decide ((n:Int)-x<2)=false:=by simp;omega
   obtain⟨e,h1,h2,h3,h4⟩:=two_byte hby (p:=x) (by omega)
   obtain⟨b,o,rfl,b0⟩:=hr.int_ix (k:=x) (by omega)
   obtain⟨b',o',e',b1⟩:=hr.int_ix (k:=x+1) (by omega)
   injection e' with e'
   injection e' with e1 e2 _
   subst e1 e2
   have hq:=or_byte (zs.getD x 0) (zs.getD (x+1) 0) h1 (by omega) ⟨h3,h4⟩
   have hw1:IntKind.i64.wrap ((x:Int)+1)=(x:Int)+1:=IntWalk.i64_in _ (by omega)
   have hxn:x<n:=by omega
   have hx1:x+1<n:=by omega
   have hn1:((x:Int)+1).toNat=x+1:=by omega
   have hp1:(0:Int)≤(x:Int)+1:=by omega
   rw [e]
   have hc1:(x:Int)+1<(n:Int):=by omega
   generalize zs.getD x 0=y0 at*
   generalize zs.getD (x+1) 0=y1 at*
   have v0:IntKind.i64.wrap y0=y0:=IntWalk.i64_in _ (by omega)
   have v1:IntKind.i64.wrap y1=y1:=IntWalk.i64_in _ (by omega)
   have v2:IntKind.i64.wrap (y0*256)=y0*256:=IntWalk.i64_in _ (by omega)
   clear hr e
   go_enter Tryz.func27,Tryz.ntmps27
   go_wp2_with fail
   refine At.start (L:=#[false,false,false,false,false,false,false,false,false,false,false,false,false,false]) (by kernel_rfl) rfl ?_
   refine AtP 0 14 ?_
   refine AtP 1 15 ?_
   refine AtP 2 16 ?_
   refine At.read 3 (some 17) (fun w'=>w'.cell? ⟨b,o+x,none⟩=some (.int .u8 y0)) (v:=?v3a) rfl rfl (by kernel_rfl) (fun _ _ _ h=>h) rfl b0 (fun w' hw'=>?y3a) ?_
   case y3a=>skip;go_simp;try with_reducible rfl
   try simp only [NS]
   refine AtP 4 18 ?_
   refine AtP 5 19 ?_
   refine AtP 6 20 ?_
   refine AtP 7 21 ?_
   refine AtP 8 22 ?_
   refine AtP 9 23 ?_
   refine At.read 10 (some 24) (fun w'=>w'.cell? ⟨b,o+(x+1),none⟩=some (.int .u8 y1)) (v:=?v10a) rfl rfl (by kernel_rfl) (fun _ _ _ h=>h) rfl b1 (fun w' hw'=>?y10a) ?_
   case y10a=>skip;go_simp;try with_reducible rfl
   try simp only [NS]
   refine AtP 11 25 ?_
   refine AtP 12 26 ?_
   refine AtP 13 4 ?_
   refine At.done (by kernel_rfl) ?_
   go_wp2_with fail
   go_ret
   exact⟨by rw [← hq];rfl,(Keep.refl _ w).drew⟩
structure Pair (w:World) (base:Nat) (M:Option Addr) (m cm:Nat) (T:Option Addr) (ct:Nat) (acc:List (Int×Nat)):Prop where
 oM:w.ownsRow base 3 1 (.slice M m cm) m (acc.map fun p=>.int .i64 p.1)
 oT:w.ownsRow base 3 1 (.slice T m ct) m (acc.map fun p=>.int .i64 (p.2:Int))
 dj: ∀j,(Value.slice M m cm).ownBlock=some j→(Value.slice T m ct).ownBlock≠some j
structure Half (w:World) (base:Nat) (M:Option Addr) (m cm:Nat) (T:Option Addr) (ct:Nat) (acc:List (Int×Nat)) (z:Int):Prop where
 oM:w.ownsRow base 3 1 (.slice M (m+1) cm) (m+1) ((acc.map fun p=>.int .i64 p.1)++[.int .i64 z])
 oT:w.ownsRow base 3 1 (.slice T m ct) m (acc.map fun p=>.int .i64 (p.2:Int))
 dj: ∀j,(Value.slice M (m+1) cm).ownBlock=some j→(Value.slice T m ct).ownBlock≠some j
theorem pair_half {w w2:World} {base:Nat} {M:Option Addr} {m cm:Nat} {T:Option Addr} {ct:Nat} {acc:List (Int×Nat)} {z:Int} {o:Obj} {M2:Option Addr} {cm2:Nat} (h:Pair w base M m cm T ct acc)
 (hown2:w2.ownsRow base 3 1 (.slice M2 (m+1) cm2) (m+1) ((acc.map fun p=>.int .i64 p.1)++[.int .i64 z])) (hg2:(w.alloc o).grownBy w2 (Value.slice M m cm).ownBlock) (hat2:(Value.slice M2 (m+1) cm2).ownBlock=(Value.slice M m cm).ownBlock∨(Value.slice M2 (m+1) cm2).ownBlock=some (w.heap.size+1)):
 Half w2 base M2 m cm2 T ct acc z∧Keep (fun j=>base≤j) w w2:=by
 have kk:Keep (fun k=>(Value.slice M m cm).ownBlock=some k) w w2:=((Keep.refl _ w).alloc _).grown hg2 (fun k hk=>.inl hk)
 have hMlt: ∀k,(Value.slice M m cm).ownBlock=some k→base≤k∧k<w.heap.size:=fun k e=>by
  obtain⟨ad,e1,e2⟩:=own_blk e
  have:=own_lt_int h.oM ad e1;omega
 refine⟨⟨hown2,own_keep h.oT kk (fun k e hk=>h.dj k hk e),fun j e hk=>?_⟩,kk.mono (fun k _ e=>(hMlt k e).1)⟩
 rcases hat2 with h2|h2
 · rw [h2]at e;exact h.dj j e hk
 · rw [h2]at e
   injection e with e
   obtain⟨ad,e1,e2⟩:=own_blk hk
   have:=(own_lt_int h.oT ad e1).2
   omega
theorem half_pair {w w2:World} {base:Nat} {M:Option Addr} {m cm:Nat} {T:Option Addr} {ct:Nat} {acc:List (Int×Nat)} {z:Int} {x:Nat} {o:Obj} {T2:Option Addr} {ct2:Nat} (h:Half w base M m cm T ct acc z)
 (hown2:w2.ownsRow base 3 1 (.slice T2 (m+1) ct2) (m+1) ((acc.map fun p=>.int .i64 (p.2:Int))++[.int .i64 (x:Int)])) (hg2:(w.alloc o).grownBy w2 (Value.slice T m ct).ownBlock) (hat2:(Value.slice T2 (m+1) ct2).ownBlock=(Value.slice T m ct).ownBlock∨(Value.slice T2 (m+1) ct2).ownBlock=some (w.heap.size+1)):
 Pair w2 base M (m+1) cm T2 ct2 (acc++[(z,x)])∧Keep (fun j=>base≤j) w w2:=by
 have kk:Keep (fun k=>(Value.slice T m ct).ownBlock=some k) w w2:=((Keep.refl _ w).alloc _).grown hg2 (fun k hk=>.inl hk)
 have hTlt: ∀k,(Value.slice T m ct).ownBlock=some k→base≤k∧k<w.heap.size:=fun k e=>by
  obtain⟨ad,e1,e2⟩:=own_blk e
  have:=own_lt_int h.oT ad e1;omega
 refine⟨⟨by rw [List.map_append];exact own_keep h.oM kk (fun k e hk=>h.dj k e hk),by rw [List.map_append];exact hown2,fun j e hk=>?_⟩,kk.mono (fun k _ e=>(hTlt k e).1)⟩
 rcases hat2 with h2|h2
 · rw [h2]at hk;exact h.dj j e hk
 · rw [h2]at hk
   injection hk with hk
   obtain⟨ad,e1,e2⟩:=own_blk e
   have:=(own_lt_int h.oM ad e1).2
   omega
end Go.Proofs.YthfogcgdijmaoaaGreat
