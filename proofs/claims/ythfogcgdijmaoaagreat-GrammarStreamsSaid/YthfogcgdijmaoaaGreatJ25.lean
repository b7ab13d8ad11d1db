/-
  Part 25 of the proof: Turn Split Blocks WalkS GramQ. Conditions: those of the statements.
-/
import Derived.Test.YthfogcgdijmaoaaGreatJ14
import Derived.Test.YthfogcgdijmaoaaGreatJ16
import Derived.Test.YthfogcgdijmaoaaGreatJ24
import Derived.Deep.QuietTactic
import Derived.BigQuiet
set_option maxRecDepth 100000
set_option maxHeartbeats 16000000
set_option linter.unusedVariables false
set_option linter.unusedSimpArgs false
namespace Go.Proofs.YthfogcgdijmaoaaGreat
open Go.RowKit
structure ThreeR (w0:World) (X:Option Addr) (n cX:Nat) (Y:Option Addr) (m cY:Nat) (O:Option Addr) (k cO:Nat) (w:World):Prop where
 x:Own w w0.heap.size X n cX
 y:Own w w0.heap.size Y m cY
 o:Own w w0.heap.size O k cO
 xy: ∀a b,X=some a→Y=some b→a.block≠b.block
 xo: ∀a b,X=some a→O=some b→a.block≠b.block
 yo: ∀a b,Y=some a→O=some b→a.block≠b.block
 keep:Keep (fun _=>False) w0 w
theorem ThreeR.turn {w0 w:World} {X Y O:Option Addr} {n cX m cY k cO:Nat} (h:ThreeR w0 X n cX Y m cY O k cO w):ThreeR w0 Y m cY O k cO X n cX w:=
 ⟨h.y,h.o,h.x,h.yo,fun a b ea eb e=>h.xy b a eb ea e.symm,fun a b ea eb e=>h.xo b a eb ea e.symm,h.keep⟩
theorem ThreeR.push {w0 w w2:World} {X Y O O2:Option Addr} {n cX m cY k cO cO2:Nat} (h:ThreeR w0 X n cX Y m cY O k cO w) {zo:List Int} {z:Int} {ob:Obj} (hl:zo.length=k)
 (ho:w2.ownsRow w0.heap.size 3 1 (.slice O2 (k+1) cO2) (k+1) (zo.map (Value.int .i64)++[.int .i64 z])) (hg:(w.alloc ob).grownBy w2 (Value.slice O k cO).ownBlock) (hat:(Value.slice O2 (k+1) cO2).ownBlock=(Value.slice O k cO).ownBlock∨(Value.slice O2 (k+1) cO2).ownBlock=some (w.heap.size+1)):
 ThreeR w0 X n cX Y m cY O2 (k+1) cO2 w2:=by
 have h1:=TwoR.push (X:=X) (n:=n) (cX:=cX) ⟨h.x,h.o,fun a b ea eb e=>h.xo b a eb ea e.symm,h.keep⟩ hl ho hg hat
 have h2:=TwoR.push (X:=Y) (n:=m) (cX:=cY) ⟨h.y,h.o,fun a b ea eb e=>h.yo b a eb ea e.symm,h.keep⟩ hl ho hg hat
 exact⟨h1.x,h2.x,h1.o,h.xy,fun a b ea eb e=>h1.ap b a eb ea e.symm,fun a b ea eb e=>h2.ap b a eb ea e.symm,h1.keep⟩
theorem ThreeR.drew {w0 w:World} {X Y O:Option Addr} {n cX m cY k cO:Nat} (h:ThreeR w0 X n cX Y m cY O k cO w):ThreeR w0 X n cX Y m cY O k cO w.drew:=by
 have hk:Keep (fun _=>False) w w.drew:=(Keep.refl _ w).drew
 exact⟨h.x.keepF hk,h.y.keepF hk,h.o.keepF hk,h.xy,h.xo,h.yo,h.keep.drew⟩
theorem turn_any (w:World) (A B C:Option Addr) (n cA cB cC:Nat) (z1 z2 z3:List Int) (h1:Rd w A n (z1.map (Value.int .i64))) (h2:Rd w B n (z2.map (Value.int .i64))) (h3:Rd w C n (z3.map (Value.int .i64))) (hn:n≤144):
 Calls Tryz.prog 58 #[.slice A n cA,.slice B n cB,.slice C n cC] w (fun e w'=> ∃X cX Y cY O cO,e=.returned (.tuple #[.slice X n cX,.slice Y n cY,.slice O n cO])∧Own w' w.heap.size X n cX∧Own w' w.heap.size Y n cY∧Own w' w.heap.size O n cO∧Keep (fun _=>False) w w'):=by
 obtain⟨i0,hi0,hz0,hz1,hz2⟩:=info_parts info_int
 have HV1:=hid h1
 have HV2:=hid h2
 have HV3:=hid h3
 have HT0:=hid (show ThreeR w none 0 0 none 0 0 none 0 0 w from⟨Own.nil _ _,Own.nil _ _,Own.nil _ _,fun a b e=>(by cases e),fun a b e=>(by cases e),fun a b e=>(by cases e),Keep.refl _ _⟩)
 clear h1 h2 h3
 go_enter Tryz.func58,Tryz.ntmps58
 go_wp2_with fail
 go_loopw [9,10,11,12] (fun y u v q wr=> ∃(i:Nat) (X:Option Addr) (cX:Nat) (Y:Option Addr) (cY:Nat) (O:Option Addr) (cO:Nat),i≤n∧q=.int .i64 i∧y=.slice O i cO∧u=.slice X i cX∧v=.slice Y i cY∧Hid (ThreeR w X i cX Y i cY O i cO wr)) (fun _ _ _ q _=>n-(intOf q).toNat)
 case atStart=>exact⟨0,none,0,none,0,none,0,by omega,rfl,rfl,rfl,rfl,HT0⟩
 case round=>
  clear HT0
  obtain⟨i,X,cX,Y,cY,O,cO,hi,rfl,rfl,rfl,rfl,HT⟩:=hrel
  by_cases hin:i<n
  · obtain⟨a1,za,e1,hca⟩:=HV1.out.int hin
    obtain⟨a2,zb,e2,hcb⟩:=HV2.out.int hin
    obtain⟨a3,zc,e3,hcc⟩:=HV3.out.int hin
    subst e1 e2 e3
    go_wp2_with fail
    obtain⟨zo,hzo,ho⟩:=HT.out.o
    have HOO:=hid ho
    have hb0:=HT.out.keep.size
    have da:wr.drew.cell? (a1.add i)=some (.int .i64 za):=HT.out.keep.cell hca (fun h=>h)
    have db:wr.drew.cell? (a2.add i)=some (.int .i64 zb):=HT.out.keep.cell hcb (fun h=>h)
    have dc:wr.drew.cell? (a3.add i)=some (.int .i64 zc):=HT.out.keep.cell hcc (fun h=>h)
    clear ho
    refine At.start (L:=#[false,false,false,false,false,false,false,false,false,false,false,false,false,false,false,false,false,false,false,false]) (by kernel_rfl) rfl ?_
    refine AtP 0 (some 19) ?_
    try simp only [NS]
    refine AtP 1 (some 20) ?_
    try simp only [NS]
    refine AtP 2 (some 21) ?_
    try simp only [NS]
    refine AtP 3 (some 22) ?_
    try simp only [NS]
    first|refine AtL 4 (some 23) Tryz.underlying3 ?_|refine AtR 4 (some 23) Tryz.underlying3 ?_
    try simp only [NS]
    refine AtP 5 (some 24) ?_
    try simp only [NS]
    refine AtP 6 (some 25) ?_
    try simp only [NS]
    refine AtP 7 (some 26) ?_
    try simp only [NS]
    first|refine AtL 8 (some 27) Tryz.underlying3 ?_|refine AtR 8 (some 27) Tryz.underlying3 ?_
    try simp only [NS]
    refine AtP 9 (some 28) ?_
    try simp only [NS]
    refine AtP 10 (some 29) ?_
    try simp only [NS]
    refine AtP 11 (some 30) ?_
    try simp only [NS]
    refine AtP 12 (some 31) ?_
    try simp only [NS]
    refine AtP 13 (some 32) ?_
    try simp only [NS]
    first|refine AtL 14 (some 33) Tryz.underlying3 ?_|refine AtR 14 (some 33) Tryz.underlying3 ?_
    try simp only [NS]
    refine AtP 15 (some 34) ?_
    try simp only [NS]
    refine AtP 16 (some 35) ?_
    try simp only [NS]
    refine AtC 17 fun K hK=>?_
    go_simp
    skip
    refine hK _ _ all_nil ?_
    clear hK K
    try simp only [NS]
    refine AtC 18 fun K hK=>?_
    refine wp_append_one wr.drew (.tmp 19) (.tmp 36) _ rfl w.heap.size 3 i0 _ 8 Tryz.underlying22 hi0 hz0 hz1 hz2 rfl (own_drew HOO.out) rfl _ rfl rfl (by simp only [maxLen];omega) (by omega) hb0 ?_
    intro v2 w5 hown2 hg2 hat2 _hold2
    show K (Act.put _ (some 37) _) _
    obtain⟨O2,cO2,rfl⟩:=own_form hown2
    have HT:=hid ((HT.out.drew).push hzo hown2 hg2 hat2).turn
    clear hown2 hg2 hat2 _hold2 da db dc HOO
    refine hK _ _ all_nil ?_
    clear hK K
    try simp only [NS]
    refine AtP 19 (some 9) ?_
    try simp only [NS]
    refine At.done (by kernel_rfl) ?_
    go_wp2_with fail
    obtain⟨zo,hzo,ho⟩:=HT.out.o
    have HOO:=hid ho
    have hb0:=HT.out.keep.size
    have da:w5.drew.cell? (a1.add i)=some (.int .i64 za):=HT.out.keep.cell hca (fun h=>h)
    have db:w5.drew.cell? (a2.add i)=some (.int .i64 zb):=HT.out.keep.cell hcb (fun h=>h)
    have dc:w5.drew.cell? (a3.add i)=some (.int .i64 zc):=HT.out.keep.cell hcc (fun h=>h)
    clear ho
    refine At.start (L:=#[false,false,false,false,false,false,false,false,false,false,false,false,false]) (by kernel_rfl) rfl ?_
    refine AtP 0 (some 38) ?_
    try simp only [NS]
    refine AtP 1 (some 39) ?_
    try simp only [NS]
    refine AtP 2 (some 40) ?_
    try simp only [NS]
    refine AtP 3 (some 41) ?_
    try simp only [NS]
    first|refine AtL 4 (some 42) Tryz.underlying3 ?_|refine AtR 4 (some 42) Tryz.underlying3 ?_
    try simp only [NS]
    refine AtP 5 (some 43) ?_
    try simp only [NS]
    refine AtP 6 (some 44) ?_
    try simp only [NS]
    refine AtP 7 (some 45) ?_
    try simp only [NS]
    first|refine AtL 8 (some 46) Tryz.underlying3 ?_|refine AtR 8 (some 46) Tryz.underlying3 ?_
    try simp only [NS]
    refine AtP 9 (some 47) ?_
    try simp only [NS]
    refine AtC 10 fun K hK=>?_
    go_simp
    skip
    refine hK _ _ all_nil ?_
    clear hK K
    try simp only [NS]
    refine AtC 11 fun K hK=>?_
    refine wp_append_one w5.drew (.tmp 38) (.tmp 48) _ rfl w.heap.size 3 i0 _ 8 Tryz.underlying22 hi0 hz0 hz1 hz2 rfl (own_drew HOO.out) rfl _ rfl rfl (by simp only [maxLen];omega) (by omega) hb0 ?_
    intro v2 w6 hown2 hg2 hat2 _hold2
    show K (Act.put _ (some 49) _) _
    obtain⟨O2,cO2,rfl⟩:=own_form hown2
    have HT:=hid ((HT.out.drew).push hzo hown2 hg2 hat2).turn
    clear hown2 hg2 hat2 _hold2 da db dc HOO
    refine hK _ _ all_nil ?_
    clear hK K
    try simp only [NS]
    refine AtP 12 (some 10) ?_
    try simp only [NS]
    refine At.done (by kernel_rfl) ?_
    go_wp2_with fail
    obtain⟨zo,hzo,ho⟩:=HT.out.o
    have HOO:=hid ho
    have hb0:=HT.out.keep.size
    have da:w6.drew.cell? (a1.add i)=some (.int .i64 za):=HT.out.keep.cell hca (fun h=>h)
    have db:w6.drew.cell? (a2.add i)=some (.int .i64 zb):=HT.out.keep.cell hcb (fun h=>h)
    have dc:w6.drew.cell? (a3.add i)=some (.int .i64 zc):=HT.out.keep.cell hcc (fun h=>h)
    clear ho
    refine At.start (L:=#[false,false,false,false,false,false,false,false,false,false,false,false,false]) (by kernel_rfl) rfl ?_
    refine AtP 0 (some 50) ?_
    try simp only [NS]
    refine AtP 1 (some 51) ?_
    try simp only [NS]
    refine AtP 2 (some 52) ?_
    try simp only [NS]
    refine AtP 3 (some 53) ?_
    try simp only [NS]
    first|refine AtL 4 (some 54) Tryz.underlying3 ?_|refine AtR 4 (some 54) Tryz.underlying3 ?_
    try simp only [NS]
    refine AtP 5 (some 55) ?_
    try simp only [NS]
    refine AtP 6 (some 56) ?_
    try simp only [NS]
    refine AtP 7 (some 57) ?_
    try simp only [NS]
    first|refine AtL 8 (some 58) Tryz.underlying3 ?_|refine AtR 8 (some 58) Tryz.underlying3 ?_
    try simp only [NS]
    refine AtP 9 (some 59) ?_
    try simp only [NS]
    refine AtC 10 fun K hK=>?_
    go_simp
    skip
    refine hK _ _ all_nil ?_
    clear hK K
    try simp only [NS]
    refine AtC 11 fun K hK=>?_
    refine wp_append_one w6.drew (.tmp 50) (.tmp 60) _ rfl w.heap.size 3 i0 _ 8 Tryz.underlying22 hi0 hz0 hz1 hz2 rfl (own_drew HOO.out) rfl _ rfl rfl (by simp only [maxLen];omega) (by omega) hb0 ?_
    intro v2 w7 hown2 hg2 hat2 _hold2
    show K (Act.put _ (some 61) _) _
    obtain⟨O2,cO2,rfl⟩:=own_form hown2
    have HT:=hid ((HT.out.drew).push hzo hown2 hg2 hat2).turn
    clear hown2 hg2 hat2 _hold2 da db dc HOO
    refine hK _ _ all_nil ?_
    clear hK K
    try simp only [NS]
    refine AtP 12 (some 11) ?_
    try simp only [NS]
    refine At.done (by kernel_rfl) ?_
    go_wp2_with fail
    go_roundw
    case rel=>exact⟨i+1,_,_,_,_,_,_,by omega,by go_num,rfl,rfl,rfl,HT⟩
    case measure=>simp [intOf]<;>omega
  · obtain rfl:i=n:=by omega
    have HZ:=hid (show∃X' cX' Y' cY' O' cO',Ending.returned (.tuple #[.slice O i cO,.slice X i cX,.slice Y i cY])=.returned (.tuple #[.slice X' i cX',.slice Y' i cY',.slice O' i cO'])∧Own wr w.heap.size X' i cX'∧Own wr w.heap.size Y' i cY'∧Own wr w.heap.size O' i cO'∧Keep (fun _=>False) w wr from⟨O,cO,X,cX,Y,cY,rfl,HT.out.o,HT.out.x,HT.out.y,HT.out.keep⟩)
    go_wp2_with fail
    exact bodyPost_ret (v:=.tuple #[_,_,_]) (by simp [results,Tryz.results58,go_sem]<;>exact⟨rfl,rfl,rfl⟩) rfl HZ.out
theorem own_new (w:World) (base:Nat) (e:TypeId) (cs:Array Value) (n:Nat) (hn:cs.size=n) (hm:n≤maxLen) (hb:base≤w.heap.size):(w.alloc (.cells cs e)).ownsRow base e 1 (.slice (some ⟨w.heap.size,0,none⟩) n n) n cs.toList:=
 ⟨by simp [hn],.inr ⟨w.heap.size,n,cs,rfl,hb,Blk.new w e cs,Nat.le_refl _,hm,by omega,by rw [List.take_of_length_le (by simp [hn])]⟩⟩
def SlB (w:World) (base:Nat) (v:Value) (k:Int):Prop:= ∃(n:Nat) (A:Option Addr) (c:Nat),k=n∧v=.slice A n c∧n≤c∧Own w base A n c
structure RR (w:World) (base:Nat) (vs:List Value) (ls:List Int):Prop where
 len:vs.length=ls.length
 at_: ∀(i:Nat) (v:Value),vs[i]?=some v→ ∃k,ls[i]?=some k∧SlB w base v k
section
variable {w w':World} {base:Nat} {vs us:List Value} {ls ks:List Int} {v:Value} {k:Int}
theorem SlB.keepS {S:Nat→Prop} (h:SlB w base v k) (hk:Keep S w w') (hS: ∀(g:Nat) (cs:Array Value),Blk w g 3 cs→ ¬S g):SlB w' base v k:=by
 obtain⟨n,A,c,e1,e2,hc,zs,h1,h2⟩:=h
 refine⟨n,A,c,e1,e2,hc,zs,h1,own_keep h2 hk (fun g e=>?_)⟩
 rcases h2.2 with⟨hv,_⟩|⟨g',cap,cur,hv,_,hg,_⟩
 · rw [hv]at e;simp [Value.ownBlock]at e
 · rw [hv]at e
   simp [Value.ownBlock]at e
   subst e
   exact hS _ _ hg
theorem RR.keepS {S:Nat→Prop} (h:RR w base vs ls) (hk:Keep S w w') (hS: ∀(g:Nat) (cs:Array Value),Blk w g 3 cs→ ¬S g):RR w' base vs ls:=
 ⟨h.len,fun i v hv=>by obtain⟨k,h1,h2⟩:=h.at_ i v hv;exact⟨k,h1,h2.keepS hk hS⟩⟩
theorem SlB.keepF (h:SlB w base v k) (hk:Keep (fun _=>False) w w'):SlB w' base v k:=h.keepS hk (fun _ _ _ h=>h)
theorem RR.keepF (h:RR w base vs ls) (hk:Keep (fun _=>False) w w'):RR w' base vs ls:=h.keepS hk (fun _ _ _ h=>h)
theorem RR.nil :RR w base [] []:=⟨rfl,fun i v h=>by simp at h⟩
theorem RR.cons (h1:SlB w base v k) (h:RR w base vs ls):RR w base (v::vs) (k::ls):=
 ⟨by simp [h.len],fun i u hu=>by
  cases i with
  |zero=>simp at hu;subst hu;exact⟨k,rfl,h1⟩
  |succ i=>obtain⟨k',h2,h3⟩:=h.at_ i u (by simpa using hu);exact⟨k',by simpa using h2,h3⟩⟩
theorem RR.app (h1:RR w base vs ls) (h2:RR w base us ks):RR w base (vs++us) (ls++ks):=by
 refine⟨by simp [h1.len,h2.len],fun i u hu=>?_⟩
 rcases Nat.lt_or_ge i vs.length with hi|hi
 · rw [List.getElem?_append_left hi]at hu
   obtain⟨k,h3,h4⟩:=h1.at_ i u hu
   exact⟨k,by rw [List.getElem?_append_left (by rw [← h1.len];exact hi)];exact h3,h4⟩
 · rw [List.getElem?_append_right hi]at hu
   obtain⟨k,h3,h4⟩:=h2.at_ _ u hu
   exact⟨k,by rw [List.getElem?_append_right (by rw [← h1.len];exact hi),←h1.len];exact h3,h4⟩
end
theorem RowP.slb {n:Nat} {w:World} {e:Ending} {w':World} (h:RowP n w e w'): ∃A c,e=.returned (.slice A n c)∧n≤c∧Own w' w.heap.size A n c∧Keep (fun _=>False) w w':=by
 obtain⟨A,c,zs,h1,h2,h3,h4⟩:=h
 exact⟨A,c,h1,own_cap h3,⟨zs,h2,h3⟩,h4⟩
theorem Own.mono {w:World} {base base' n c:Nat} {A:Option Addr} (h:Own w base A n c) (hb:base'≤base):Own w base' A n c:=by
 obtain⟨zs,h1,h2⟩:=h
 exact⟨zs,h1,own_mono h2 hb⟩
theorem cut10_at (w:World) (W H N:Nat) (A:Option Addr) (c:Nat) (x0 y0 x1 y1 m:Nat) {base:Nat} (hN:W*H=N) (h:Own w base A N c) (hc:N≤c) (hW:W≤12) (hH:H≤12) (hx0:x0≤x1) (hx1:x1≤W) (hy0:y0≤y1) (hy1:y1≤H) (hm:(x1-x0)*(y1-y0)=m):
 Calls Tryz.prog 79 #[.int .i64 W,.slice A N c,.int .i64 x0,.int .i64 y0,.int .i64 x1,.int .i64 y1] w (RowP m w):=by
 obtain⟨zs,_,hz⟩:=h.rd
 subst hN hm
 have:=cut10_any w W H A c zs x0 y0 (x1-x0) (y1-y0) hz hc hW hH (by omega) (by omega)
 rwa [show x0+(x1-x0)=x1 by omega,show y0+(y1-y0)=y1 by omega]at this
theorem columns_at (w:World) (W H N:Nat) (at0:Int) (A:Option Addr) (c:Nat) {base:Nat} (hN:W*H=N) (h:Own w base A N c) (hW:W≤12) (hH:H≤12):
 Calls Tryz.prog 77 #[.int .i64 W,.int .i64 H,.int .i64 at0,.slice A N c,.bool false] w (RowP N w):=by
 obtain⟨zs,_,hz⟩:=h.rd
 subst hN
 exact columns_any w W H at0 A c zs hz hW hH
theorem rows_at (w:World) (W H N:Nat) (at0:Int) (A:Option Addr) (c:Nat) {base:Nat} (hN:W*H=N) (h:Own w base A N c) (hc:N≤c) (hW:W≤12) (hH:H≤12):
 Calls Tryz.prog 76 #[.int .i64 W,.int .i64 H,.int .i64 at0,.slice A N c,.bool false] w (RowP N w):=by
 obtain⟨zs,_,hz⟩:=h.rd
 subst hN
 exact rows_any10 w W H at0 A c zs hz hc hW hH
theorem RR.one {w:World} {base:Nat} {vs:List Value} {ls:List Int} (h:RR w base vs ls): ∀u∈vs,u.oneCell'=true:=by
 intro u hu
 obtain⟨i,hi,e⟩:=List.getElem_of_mem hu
 obtain⟨k,_,n,A,c,_,ev,_⟩:=h.at_ i u (by rw [List.getElem?_eq_getElem hi,e])
 rw [ev]
 rfl
theorem Own.slb {w:World} {base n c:Nat} {A:Option Addr} (h:Own w base A n c) (hc:n≤c):SlB w base (.slice A n c) n:=⟨n,A,c,rfl,rfl,hc,h⟩
theorem keep_append_new {w w':World} {o:Obj} {v:Value} (hv:v.ownBlock=some w.heap.size) (hg:(w.alloc o).grownBy w' v.ownBlock):Keep (fun _=>False) w w':=by
 have hk:Keep (fun i=>i=w.heap.size) (w.alloc o) w':=(Keep.refl _ _).grown hg (fun k hk=>.inl (by rw [hv]at hk;injection hk with hk;exact hk.symm))
 exact((Keep.refl _ w).alloc o).new hk (fun i hi=>by omega)
structure SpI (w0:World) (r:Rc) (n:Nat) (A:Option Addr) (N c:Nat) (B:Option Addr) (m d:Nat) (w:World):Prop where
 br:Blk w w0.heap.size 63 (r.down n).cells
 ll:Own w w0.heap.size A N c
 lc:N≤c
 ln:(r.down n).area=N
 hi: ∃vs,w.ownsRow w0.heap.size 22 1 (.slice B m d) m vs∧RR w w0.heap.size vs (highs r n)
 keep:Keep (fun _=>False) w0 w
def SplitP (w:World) (r:Rc) (L:Nat) (e:Ending) (w':World):Prop:=
 ∃A n c vs,e=.returned (.slice A n c)∧n=3*L+1∧w'.ownsRow w.heap.size 22 1 (.slice A n c) n vs∧RR w' w.heap.size vs ((r.down L).area::highs r L)∧Keep (fun _=>False) w w'
theorem info_sl :(Tryz.prog.info? 22).map (fun i=>(i.zero,i.size,i.bytes))=some (some (.slice none 0 0),1,24):=by kernel_rfl
theorem split10_any (w:World) (r:Rc) (L:Nat) (A:Option Addr) (n c:Nat) (zs:List Int) (h:Rd w A n (zs.map (Value.int .i64))) (hn:r.area=n) (hr:r.ok 12 17) (hL:L≤5):
 Calls Tryz.prog 59 #[.agg r.cells,.int .i64 L,.slice A n c] w (SplitP w r L):=by
 obtain⟨i0,hi0,hz0,hz1,hz2⟩:=info_parts info_int
 obtain⟨i1,hi1,ey0,ey1,ey2⟩:=info_parts info_sl
 have har:=hr.area_le
 have hn144:n≤144:=by omega
 have HV:=hid h
 have HR:=hid hr
 have HA:=hid hn
 have HB0:=hid (Blk.new w 63 r.cells)
 have HK0:=hid ((Keep.refl (fun _=>False) w).alloc (.cells r.cells 63))
 clear h hr hn har
 go_enter Tryz.func59,Tryz.ntmps59
 go_upto_region 1 with fail
 generalize w.alloc (.cells r.cells 63)=w1 at*
 have hb1:w.heap.size≤w1.heap.size:=HK0.out.size
 have HO0:=hid (own_new w1 w.heap.size 3 #[] 0 rfl (by omega) hb1)
 have HV1:=hid ((HV.out.keepF HK0.out).alloc (.cells #[] 3))
 have HB1:=hid (HB0.out.alloc (.cells #[] 3))
 have HK1:=hid (HK0.out.alloc (.cells #[] 3))
 go_wp2_with (
  at_builtin
  go_must (refine wpList_append_src _ rfl (.tmp 15) (.tmp 16) 22 rfl w.heap.size 3 i0 _ 8 Tryz.underlying22 hi0 hz0 hz1 hz2 rfl HO0.out rfl HV1.out rfl (oneCell_ints _ _) (by simp only [maxLen];omega) (by omega) (by simp;omega) ?_)
  intro v2 w2 hown2 hg2 hat2 _hold2
  obtain⟨A2,c2,rfl⟩:=own_form hown2
  have HS0:=hid (show SpI w r 0 A2 n c2 none 0 0 w2 from by
   have hk:Keep (fun i=>i=w1.heap.size) (w1.alloc (.cells #[] 3)) w2:=(Keep.refl _ _).grown hg2 (fun k hk=>.inl (by simpa [Value.ownBlock]using hk.symm))
   have hl:=HV.out.len
   rw [Nat.zero_add,List.nil_append]at hown2
   refine⟨?_,⟨zs,hl,hown2⟩,own_cap hown2,by rw [Rc.down0];exact HA.out,⟨[],World.ownsRow_nil _ _ _ _,RR.nil⟩,HK1.out.new hk (fun i hi=>by omega)⟩
   rw [Rc.down0]
   exact HB1.out.keep hk (fun e=>by have:=HB0.out.lt;omega))
  clear hown2 hg2 hat2 _hold2)
 go_loopw [7,8,9] (fun x y v wr=> ∃(i:Nat) (A:Option Addr) (N c:Nat) (B:Option Addr) (m d:Nat),i≤L∧v=.int .i64 i∧x=.slice A N c∧y=.slice B m d∧m=3*i∧Hid (SpI w r i A N c B m d wr)) (fun _ _ v _=>L-(intOf v).toNat)
 case atStart=>exact⟨0,A2,n,c2,none,0,0,by omega,rfl,by first|rfl|(congr 1<;>omega),rfl,rfl,HS0⟩
 case round=>
  clear HS0
  obtain⟨i,A,N,c,B,m,d,hi,rfl,rfl,rfl,hm,HS⟩:=hrel
  by_cases hiL:i<L
  · obtain⟨q,hq⟩: ∃q,r.down i=q:=⟨_,rfl⟩
    have hpp:=p2_pos i
    have hqo:q.ok 12 17:=by rw [← hq];exact HR.out.over ⟨by omega,by omega⟩ ⟨by omega,by omega⟩
    have HQ:=hid hq
    have HQF:=hid (hqo.pos.mono (show(17:Int)≤16777216 by omega))
    have hae:=hqo.area_eq
    obtain⟨s1,s2,s3,s4,s5,s6,s7,s8⟩:=hqo
    obtain⟨W,hW⟩: ∃W:Nat,q.x1-q.x0=W:=⟨(q.x1-q.x0).toNat,by omega⟩
    obtain⟨H,hH⟩: ∃H:Nat,q.y1-q.y0=H:=⟨(q.y1-q.y0).toNat,by omega⟩
    obtain⟨a,ha⟩: ∃a:Nat,lowsI q.x0 q.x1=a:=⟨(lowsI q.x0 q.x1).toNat,by unfold lowsI;omega⟩
    obtain⟨b,hb⟩: ∃b:Nat,lowsI q.y0 q.y1=b:=⟨(lowsI q.y0 q.y1).toNat,by unfold lowsI;omega⟩
    have haW:a≤W:=by unfold lowsI at ha;omega
    have hbH:b≤H:=by unfold lowsI at hb;omega
    have hW12:W≤12:=by omega
    have hH12:H≤12:=by omega
    have HN:=hid (show W*H=N from by
     have h1:=HS.out.ln
     rw [hq,hae,hW,hH]at h1
     exact_mod_cast h1)
    have HL3:=hid (show highs r (i+1)=[(((W-a)*(b-0):Nat):Int),(((a-0)*(H-b):Nat):Int),(((W-a)*(H-b):Nat):Int)]++highs r i from by
     show sizes3 (r.down i)++highs r i=_
     rw [hq]
     unfold sizes3
     rw [hW,hH,ha,hb,Nat.sub_zero,Nat.sub_zero]
     rw [Int.natCast_mul,Int.natCast_mul,Int.natCast_mul,show((W-a:Nat):Int)=(W:Int)-a by omega,show((H-b:Nat):Int)=(H:Int)-b by omega])
    have HL0:=hid (show(r.down (i+1)).area=(((a-0)*(b-0):Nat):Int)from by
     have h1:=(HR.out.over (dx:=p2 (i+1)) (dy:=p2 (i+1)) (ax:=0) (ay:=0) ⟨by omega,p2_pos _⟩ ⟨by omega,p2_pos _⟩).area_eq
     show((r.over (p2 (i+1)) (p2 (i+1)) 0 0).area=_)
     rw [h1]
     have h2:r.over (p2 (i+1)) (p2 (i+1)) 0 0=q.half:=by rw [← hq];exact Rc.down_succ r i
     rw [h2,Nat.sub_zero,Nat.sub_zero]
     unfold lowsI at ha hb
     show((q.x1+1)/2-(q.x0+1)/2)*((q.y1+1)/2-(q.y0+1)/2)=_
     rw [ha,hb]
     push_cast
     rfl)
    have HBQ:=hid (show Blk wr w.heap.size 63 q.cells from by rw [← hq];exact HS.out.br)
    have c0:wr.cell? ⟨w.heap.size,0,none⟩=some (.int .i64 q.x0):=HBQ.out.cell 0
    have c1:wr.cell? ⟨w.heap.size,1,none⟩=some (.int .i64 q.y0):=HBQ.out.cell 1
    have c2:wr.cell? ⟨w.heap.size,2,none⟩=some (.int .i64 q.x1):=HBQ.out.cell 2
    have c3:wr.cell? ⟨w.heap.size,3,none⟩=some (.int .i64 q.y1):=HBQ.out.cell 3
    have hw1:IntKind.i64.wrap (q.x1-q.x0)=(W:Int):=by rw [IntWalk.i64_in _ (by omega),hW]
    have hw2:IntKind.i64.wrap (q.y1-q.y0)=(H:Int):=by rw [IntWalk.i64_in _ (by omega),hH]
    have HWH:=hid (And.intro ha hb)
    have HHL:=hid (And.intro hw1 hw2)
    clear hq hW hH ha hb hae
    go_wp2_with fail
    go_quiet (fail)
    generalize hw9:wr.drewN _=w3 at*
    have hk3:Keep (fun _=>False) wr w3:=by rw [← hw9];exact(Keep.refl _ wr).drewN _
    have HK3:=hid (HS.out.keep.trans hk3 (fun _ _ h=>h))
    have HB3:=hid (HBQ.out.keep hk3 id)
    have HL4:=hid (HS.out.ll.keepF hk3)
    have HH4:=hid (show∃vs,w3.ownsRow w.heap.size 22 1 (.slice B m d) m vs∧RR w3 w.heap.size vs (highs r i)from by
     obtain⟨vs,h1,h2⟩:=HS.out.hi
     exact⟨vs,own_keepF h1 hk3,h2.keepF hk3⟩)
    have hNc:=HS.out.lc
    clear hw9 hk3 HBQ HS c0 c1 c2 c3 hw1 hw2
    have d0:w3.drew.cell? ⟨w.heap.size,0,none⟩=some (.int .i64 q.x0):=HB3.out.cell 0
    have d1:w3.drew.cell? ⟨w.heap.size,1,none⟩=some (.int .i64 q.y0):=HB3.out.cell 1
    have HL5:=hid (HL4.out.keepF ((Keep.refl (fun _=>False) w3).drew))
    go_upto_region 7 with fail
    refine At.start (L:=#[false,false,false,false,false,false,false,false,false,false,false,false]) (by kernel_rfl) rfl ?_
    refine AtP 0 (some 33) ?_
    try simp only [NS]
    refine AtP 1 (some 34) ?_
    try simp only [NS]
    refine AtP 2 (some 35) ?_
    try simp only [NS]
    first|refine AtL 3 (some 36) Tryz.underlying3 ?_|refine AtR 3 (some 36) Tryz.underlying3 ?_
    try simp only [NS]
    refine AtP 4 (some 37) ?_
    try simp only [NS]
    refine AtP 5 (some 38) ?_
    try simp only [NS]
    refine AtP 6 (some 39) ?_
    try simp only [NS]
    first|refine AtL 7 (some 40) Tryz.underlying3 ?_|refine AtR 7 (some 40) Tryz.underlying3 ?_
    try simp only [NS]
    refine AtP 8 (some 41) ?_
    try simp only [NS]
    refine At.call_all 9 rfl (by kernel_rfl) rfl (fun K hK=>?_)
    go_simp
    refine(columns_at _ W H N q.y0 A c HN.out HL5.out hW12 hH12).mono ?_
    intro e w5 hrow
    obtain⟨A5,c5,rfl,hc5,ho5,hk⟩:=hrow.slb
    have HO5:=hid ho5
    have HK5:=hid (((HK3.out.drew).trans hk (fun _ _ h=>h)))
    have HB5:=hid ((HB3.out.drew).keep hk id)
    have hkk5:Keep (fun _=>False) w3 w5:=((Keep.refl _ w3).drew).trans hk (fun _ _ h=>h)
    have HKK5:=hid hkk5
    clear ho5 hrow
    refine hK _ _ (by repeat' first|exact all_nil|refine all_cons (hk.cell (by assumption) (fun h=>h)) ?_) ?_
    clear hK K
    try simp only [NS]
    refine AtC 10 fun K hK=>?_
    go_simp
    refine(rows_at _ W H N q.x0 A5 c5 HN.out HO5.out hc5 hW12 hH12).mono ?_
    intro e w6 hrow6
    obtain⟨A6,c6,rfl,hc6,ho6,hk6⟩:=hrow6.slb
    have HO6:=hid ho6
    have HK6:=hid (HK5.out.trans hk6 (fun _ _ h=>h))
    have HB6:=hid (HB5.out.keep hk6 id)
    have HKK6:=hid (HKK5.out.trans hk6 (fun _ _ h=>h))
    clear ho6 hrow6
    refine hK _ _ all_nil ?_
    clear hK K
    try simp only [NS]
    refine AtP 11 (some 12) ?_
    try simp only [NS]
    refine At.done (by kernel_rfl) ?_
    clear hk hk6 d0 d1
    have HL7:=hid (HL4.out.keepF HKK6.out)
    have HH7:=hid (show∃vs,w6.ownsRow w.heap.size 22 1 (.slice B m d) m vs∧RR w6 w.heap.size vs (highs r i)from by
     obtain⟨vs,h1,h2⟩:=HH4.out
     exact⟨vs,own_keepF h1 HKK6.out,h2.keepF HKK6.out⟩)
    clear HL4 HL5 HH4 HO5 HKK5 HKK6 HB3 HB5 HK3 HK5
    have c0:w6.cell? ⟨w.heap.size,0,none⟩=some (.int .i64 q.x0):=HB6.out.cell 0
    have c1:w6.cell? ⟨w.heap.size,1,none⟩=some (.int .i64 q.y0):=HB6.out.cell 1
    have c2:w6.cell? ⟨w.heap.size,2,none⟩=some (.int .i64 q.x1):=HB6.out.cell 2
    have c3:w6.cell? ⟨w.heap.size,3,none⟩=some (.int .i64 q.y1):=HB6.out.cell 3
    go_wp2_with fail
    go_quiet ((go_at_call 78;refine Calls.quiet_of_same ((lows_any _ _ _ ⟨by omega,by omega⟩ ⟨by omega,by omega⟩).mono (fun _ _ h=>⟨h.1,h.2.symm⟩))))
    rw [HWH.out.1,HWH.out.2]
    obtain⟨m1,e1⟩: ∃m1,(W-a)*(b-0)=m1:=⟨_,rfl⟩
    obtain⟨m2,e2⟩: ∃m2,(a-0)*(H-b)=m2:=⟨_,rfl⟩
    obtain⟨m3,e3⟩: ∃m3,(W-a)*(H-b)=m3:=⟨_,rfl⟩
    obtain⟨m0,e0⟩: ∃m0,(a-0)*(b-0)=m0:=⟨_,rfl⟩
    rw [e1,e2,e3]at HL3
    rw [e0]at HL0
    have HE1:=hid e1
    have HE2:=hid e2
    have HE3:=hid e3
    have HE0:=hid e0
    clear e0 e1 e2 e3 c0 c1 c2 c3
    generalize hw9:w6.drewN _=w7 at*
    have hk7:Keep (fun _=>False) w6 w7:=by rw [← hw9];exact(Keep.refl _ w6).drewN _
    have HK7:=hid (HK6.out.trans hk7 (fun _ _ h=>h))
    have HB7:=hid (HB6.out.keep hk7 id)
    have HO7:=hid (HO6.out.keepF hk7)
    have HH8:=hid (show∃vs,w7.ownsRow w.heap.size 22 1 (.slice B m d) m vs∧RR w7 w.heap.size vs (highs r i)from by
     obtain⟨vs,h1,h2⟩:=HH7.out
     exact⟨vs,own_keepF h1 hk7,h2.keepF hk7⟩)
    have hb6:w.heap.size≤w6.heap.size:=HK6.out.size
    have hb7:w.heap.size≤w7.heap.size:=HK7.out.size
    clear hw9 hk7 HK6 HB6 HO6 HH7 HL7
    subst hm
    go_wp2_with fail
    refine(cut10_at _ W H N A6 c6 a 0 W b m1 HN.out HO7.out hc6 hW12 hH12 haW (Nat.le_refl _) (Nat.zero_le _) hbH HE1.out).mono ?_
    intro e w8 hrow
    obtain⟨X1,d1,rfl,hd1,ho1,hk8⟩:=hrow.slb
    replace HK7:=hid (HK7.out.trans hk8 (fun _ _ h=>h))
    replace HB7:=hid (HB7.out.keep hk8 id)
    replace HO7:=hid (HO7.out.keepF hk8)
    have HV1:=hid ((ho1.mono hb7).slb hd1)
    replace HH8:=hid (show∃vs,w8.ownsRow w.heap.size 22 1 (.slice B (3*i) d) (3*i) vs∧RR w8 w.heap.size vs (highs r i)from by
     obtain⟨vs,h1,h2⟩:=HH8.out
     exact⟨vs,own_keepF h1 hk8,h2.keepF hk8⟩)
    have hb8:w.heap.size≤w8.heap.size:=HK7.out.size
    clear hrow ho1 hk8 hd1
    go_wp2_with fail
    refine(cut10_at _ W H N A6 c6 0 b a H m2 HN.out HO7.out hc6 hW12 hH12 (Nat.zero_le _) haW hbH (Nat.le_refl _) HE2.out).mono ?_
    intro e w9 hrow
    obtain⟨X2,d2,rfl,hd2,ho2,hk9⟩:=hrow.slb
    replace HK7:=hid (HK7.out.trans hk9 (fun _ _ h=>h))
    replace HB7:=hid (HB7.out.keep hk9 id)
    replace HO7:=hid (HO7.out.keepF hk9)
    replace HV1:=hid (HV1.out.keepF hk9)
    have HV2:=hid ((ho2.mono hb8).slb hd2)
    replace HH8:=hid (show∃vs,w9.ownsRow w.heap.size 22 1 (.slice B (3*i) d) (3*i) vs∧RR w9 w.heap.size vs (highs r i)from by
     obtain⟨vs,h1,h2⟩:=HH8.out
     exact⟨vs,own_keepF h1 hk9,h2.keepF hk9⟩)
    have hb9:w.heap.size≤w9.heap.size:=HK7.out.size
    clear hrow ho2 hk9 hd2
    go_wp2_with fail
    refine(cut10_at _ W H N A6 c6 a b W H m3 HN.out HO7.out hc6 hW12 hH12 haW (Nat.le_refl _) hbH (Nat.le_refl _) HE3.out).mono ?_
    intro e w10 hrow
    obtain⟨X3,d3,rfl,hd3,ho3,hk10⟩:=hrow.slb
    replace HK7:=hid (HK7.out.trans hk10 (fun _ _ h=>h))
    replace HB7:=hid (HB7.out.keep hk10 id)
    replace HO7:=hid (HO7.out.keepF hk10)
    replace HV1:=hid (HV1.out.keepF hk10)
    replace HV2:=hid (HV2.out.keepF hk10)
    have HV3:=hid ((ho3.mono hb9).slb hd3)
    obtain⟨vs,hvo,hvr⟩:=HH8.out
    have HVR:=hid (hvr.keepF hk10)
    have HVO:=hid (own_keepF hvo hk10)
    have hb10:w.heap.size≤w10.heap.size:=HK7.out.size
    have HNW:=hid (own_new w10 w.heap.size 22 #[.slice X1 m1 d1,.slice X2 m2 d2,.slice X3 m3 d3] 3 rfl (by simp only [maxLen];omega) hb10)
    have HRD:=hid ((Rd.of_own HVO.out).alloc (.cells #[.slice X1 m1 d1,.slice X2 m2 d2,.slice X3 m3 d3] 22))
    have HON:=hid (HVR.out.one)
    clear hrow ho3 hk10 hd3 hvo hvr HH8
    go_wp2_with (
     at_builtin
     go_must (refine wpList_append_src _ rfl (.tmp 73) (.tmp 74) 109 rfl w.heap.size 22 i1 _ 24 Tryz.underlying109 hi1 ey0 ey1 ey2 rfl HNW.out rfl HRD.out rfl HON.out (by simp only [maxLen];omega) (by omega) (by simp;omega) ?_)
     intro v2 w11 hown2 hg2 hat2 _hold2
     obtain⟨B2,e2,rfl⟩:=own_form hown2
     have hk11:=keep_append_new rfl hg2
     replace HK7:=hid (HK7.out.trans hk11 (fun _ _ h=>h))
     replace HB7:=hid (HB7.out.keep hk11 id)
     replace HO7:=hid (HO7.out.keepF hk11)
     have HRR:=hid (show RR w11 w.heap.size ([.slice X1 m1 d1,.slice X2 m2 d2,.slice X3 m3 d3]++vs) (highs r (i+1))from by
      rw [HL3.out]
      exact RR.app (RR.cons (HV1.out.keepF hk11) (RR.cons (HV2.out.keepF hk11) (RR.cons (HV3.out.keepF hk11) RR.nil))) (HVR.out.keepF hk11))
     have HOW:=hid hown2
     clear hown2 hg2 hat2 _hold2 hk11)
    refine(cut10_at _ W H N A6 c6 0 0 a b m0 HN.out HO7.out hc6 hW12 hH12 (Nat.zero_le _) haW (Nat.zero_le _) hbH HE0.out).mono ?_
    intro e w12 hrow
    obtain⟨X0,d0,rfl,hd0,ho0,hk12⟩:=hrow.slb
    have hb11:w.heap.size≤w11.heap.size:=HK7.out.size
    replace HK7:=hid (HK7.out.trans hk12 (fun _ _ h=>h))
    replace HB7:=hid (HB7.out.keep hk12 id)
    replace HRR:=hid (HRR.out.keepF hk12)
    replace HOW:=hid (own_keepF HOW.out hk12)
    have HLL:=hid (ho0.mono hb11)
    clear hrow ho0 hk12 HO7
    go_wp2_with (refine wpList_load_row rfl _ _ rfl _ rfl _ _ _ _ HB7.out Tryz.underlying63 rfl (by kernel_rfl) ?_)
    refine(half_any _ q HQF.out).mono ?_
    rintro e w13 ⟨rfl,hk13⟩
    replace HK7:=hid (HK7.out.trans hk13 (fun _ _ h=>h))
    replace HB7:=hid (HB7.out.keep hk13 id)
    replace HRR:=hid (HRR.out.keepF hk13)
    replace HOW:=hid (own_keepF HOW.out hk13)
    replace HLL:=hid (HLL.out.keepF hk13)
    have HQH:=hid (show q.half=r.down (i+1)from by rw [← HQ.out];exact(Rc.down_succ r i).symm)
    clear hk13
    rw [HQH.out]
    have HN6:=hid (show SpI w r (i+1) X0 m0 d0 B2 (3+3*i) e2 (w13.setRow w.heap.size (r.down (i+1)).cells)from by
     have hkr:Keep (fun j=>j=w.heap.size) w13 (w13.setRow w.heap.size (r.down (i+1)).cells):=Keep.row (S:=fun j=>j=w.heap.size) (Keep.refl _ w13) (.inl rfl) _
     have hT: ∀(g:Nat) (cs:Array Value),Blk w13 g 3 cs→ ¬(g=w.heap.size):=fun g cs hg e=>by rw [e]at hg;exact Blk.ne_ hg HB7.out (by decide) rfl
     refine⟨HB7.out.row,?_,hd0,HL0.out,⟨_,own_keep HOW.out hkr (fun k e e2=>own_ne HOW.out HB7.out (by decide) (by rw [e,e2])),HRR.out.keepS hkr hT⟩,HK7.out.row (.inr (Nat.le_refl _)) _⟩
     obtain⟨n',A',c',en,ev,_,ho⟩:=(HLL.out.slb hd0).keepS hkr hT
     injection ev with ev1 ev2 ev3
     subst ev1 ev2 ev3
     exact ho)
    unfold Rc.val
    go_wp2_with (refine wpList_store_row rfl _ _ _ rfl w.heap.size _ rfl rfl _ _ HB7.out (by kernel_rfl) rfl (by simp [Value.oneCell']) ?_)
    go_roundw
    case rel=>exact⟨i+1,X0,m0,d0,B2,3+3*i,e2,by omega,by go_num,rfl,rfl,by omega,HN6⟩
    case measure=>simp [intOf]<;>omega
  · obtain rfl:i=L:=by omega
    obtain⟨vs,hvo,hvr⟩:=HS.out.hi
    have hb:w.heap.size≤wr.heap.size:=HS.out.keep.size
    have HNW:=hid (own_new wr w.heap.size 22 #[.slice A N c] 1 rfl (by simp only [maxLen];omega) hb)
    have HRD:=hid ((Rd.of_own hvo).alloc (.cells #[.slice A N c] 22))
    have HON:=hid (hvr.one)
    have HVR:=hid hvr
    subst hm
    clear hvo hvr
    go_wp2_with (
     at_builtin
     go_must (refine wpList_append_src _ rfl (.tmp 84) (.tmp 85) 109 rfl w.heap.size 22 i1 _ 24 Tryz.underlying109 hi1 ey0 ey1 ey2 rfl HNW.out rfl HRD.out rfl HON.out (by simp only [maxLen];omega) (by omega) (by simp;omega) ?_)
     intro v2 w11 hown2 hg2 hat2 _hold2
     obtain⟨B2,e2,rfl⟩:=own_form hown2
     have hk11:=keep_append_new rfl hg2
     have HZ:=hid (show SplitP w r i (.returned (.slice B2 (1+3*i) e2)) w11 from
      ⟨B2,1+3*i,e2,_,rfl,by omega,hown2,RR.cons (show SlB w11 w.heap.size (.slice A N c) (r.down i).area from by rw [HS.out.ln];exact((HS.out.ll).slb HS.out.lc).keepF hk11) (HVR.out.keepF hk11),HS.out.keep.trans hk11 (fun _ _ h=>h)⟩)
     clear hown2 hg2 hat2 _hold2 hk11)
    go_ret
    exact HZ.out
def blkT (prec:Nat):Nat:=if prec≤2 then 1 else if prec=3 then 2 else if prec=4 then 4 else 5
theorem blk_wide {i x0 x1:Int} {q c prec:Nat} (hc:c≤q) (hc2:c=q∨2≤c) (hq:q=prec∨q+1=prec) (hp:prec≤15) (h0:i*p2 q≤x0) (h1:x1≤(i+1)*p2 q) (hx0:0≤x0) (hlt:x0<x1) (hx1:x1≤17):
 0<ceilI x1 (p2 c)-x0/p2 c∧ceilI x1 (p2 c)-x0/p2 c≤blkT prec:=by
 have hpc:=p2_pos c
 obtain⟨d,rfl⟩: ∃d,q=c+d:=⟨q-c,by omega⟩
 have hpd:=p2_pos d
 have e:p2 (c+d)=p2 c*p2 d:=by unfold p2;rw [Int.pow_add]
 have hs:=ceilI_spec (a:=x1) hpc
 have hd1:=Int.mul_ediv_add_emod x0 (p2 c)
 have hd2:=Int.emod_nonneg x0 (show p2 c≠0 by omega)
 have hd3:=Int.emod_lt_of_pos x0 hpc
 have hd0:=Int.ediv_nonneg hx0 (show 0≤p2 c by omega)
 rw [e]at h0 h1
 have e1:i*(p2 c*p2 d)=p2 c*(i*p2 d):=by rw [Int.mul_left_comm]
 have e2:(i+1)*(p2 c*p2 d)=p2 c*(i*p2 d+p2 d):=by rw [Int.mul_left_comm,Int.add_mul,Int.one_mul]
 rw [e1]at h0
 rw [e2]at h1
 generalize hq0:x0/p2 c=u at*
 generalize hq1:ceilI x1 (p2 c)=v at*
 generalize i*p2 d=s at*
 have a1:s<u+1:=mul_lt_of hpc (by rw [Int.mul_add];omega)
 have a2:v-1<s+p2 d:=mul_lt_of hpc (by omega)
 have a3:u<v:=mul_lt_of hpc (by omega)
 have a4:2≤c→v≤5:=fun h=>by
  have h4:(4:Int)≤p2 c:=p2_mono (d:=2) h
  have:=mul_lt_of (a:=v-1) (b:=5) hpc (by omega)
  omega
 have a5: ∀t:Nat,d≤t→p2 d≤p2 t:=fun t h=>p2_mono h
 refine⟨by omega,?_⟩
 unfold blkT
 split
 · have:=a5 0 (by omega)
   rw [show p2 0=1 from rfl]at this
   omega
 · split
   · have:=a5 1 (by omega)
     rw [show p2 1=2 from rfl]at this
     show _≤(2:Int)
     omega
   · split
     · have:=a5 2 (by omega)
       rw [show p2 2=4 from rfl]at this
       show _≤(4:Int)
       omega
     · have:=a4 (by omega)
       show _≤(5:Int)
       omega
def precT (prec:Nat):Nat:=if prec=1 then 9 else if prec=2 then 5 else if prec=3 then 3 else if prec=4 then 2 else 1
theorem prec_wide {r:Rc} (h:r.ok 12 17) {p:Nat} (h1:1≤p):0≤r.preW p∧r.preW p≤precT p∧0≤r.preH p∧r.preH p≤precT p:=by
 have hp:=p2_pos p
 have key: ∀a b:Int,0≤a→a≤b→b≤17→0≤ceilI b (p2 p)-a/p2 p∧ceilI b (p2 p)-a/p2 p≤precT p:=fun a b ha hab hb=>by
  have hs:=ceilI_spec (a:=b) hp
  have hd0:=Int.ediv_nonneg ha (show 0≤p2 p by omega)
  have hd1:=Int.mul_ediv_add_emod a (p2 p)
  have hd2:=Int.emod_nonneg a (show p2 p≠0 by omega)
  have hl:a/p2 p-1<ceilI b (p2 p):=mul_lt_of hp (by rw [Int.mul_sub];omega)
  have hl2:a/p2 p<ceilI b (p2 p)+1:=mul_lt_of hp (by rw [Int.mul_add];omega)
  refine⟨by omega,?_⟩
  unfold precT
  have top: ∀t:Int,17≤p2 p*t→ceilI b (p2 p)≤t:=fun t ht=>by
   have:=mul_lt_of (a:=ceilI b (p2 p)-1) (b:=t) hp (by omega)
   omega
  split
  · subst p
    have:=top 9 (by decide)
    show _≤(9:Int)
    omega
  · split
    · subst p
      have:=top 5 (by decide)
      show _≤(5:Int)
      omega
    · split
      · subst p
        have:=top 3 (by decide)
        show _≤(3:Int)
        omega
      · split
        · subst p
          have:=top 2 (by decide)
          show _≤(2:Int)
          omega
        · have h5:p2 5≤p2 p:=p2_mono (by omega)
          rw [show p2 5=32 from rfl]at h5
          have:=top 1 (by omega)
          show _≤(1:Int)
          omega
 obtain⟨a1,a2,a3,a4,a5,a6,a7,a8⟩:=h
 unfold Rc.preW Rc.preH
 split
 · have:(0:Int)≤precT p:=by omega
   exact⟨by omega,this,by omega,this⟩
 · have k1:=key r.x0 r.x1 a1 a2 a3
   have k2:=key r.y0 r.y1 a5 a6 a7
   exact⟨k1.1,k1.2,k2.1,k2.2⟩
theorem prec_blk (p:Nat):precT p*blkT p≤9:=by
 unfold precT blkT
 repeat(first|split|omega)
def Rc.inn (q r:Rc):Prop:=q.sub r∧q.x0<q.x1∧q.y0<q.y1
theorem Rc.inn.trans {q r s:Rc} (h:q.inn r) (k:r.sub s):q.inn s:=⟨h.1.trans k,h.2⟩
theorem blk_sub {part:Rc} {x y:Int} {a b:Int} (hx:0<x) (hy:0<y) (h1:part.x0/x≤a) (h2:a*x<part.x1) (h3:part.y0/y≤b) (h4:b*y<part.y1) (hxx:part.x0<part.x1) (hyy:part.y0<part.y1):
 (part.meet ⟨a*x,b*y,(a+1)*x,(b+1)*y⟩).inn part:=by
 have d1:=Int.lt_mul_ediv_self_add (x:=part.x0) hx
 have d2:=Int.lt_mul_ediv_self_add (x:=part.y0) hy
 have m1:x*(part.x0/x)≤x*a:=Int.mul_le_mul_of_nonneg_left h1 (by omega)
 have m2:y*(part.y0/y)≤y*b:=Int.mul_le_mul_of_nonneg_left h3 (by omega)
 have e1:(a+1)*x=a*x+x:=by rw [Int.add_mul];omega
 have e2:(b+1)*y=b*y+y:=by rw [Int.add_mul];omega
 rw [e1,e2]
 rw [Int.mul_comm x a]at m1
 rw [Int.mul_comm y b]at m2
 generalize a*x=u at*
 generalize b*y=v at*
 refine⟨⟨?_,?_,?_,?_,?_,?_⟩,?_,?_⟩<;>simp only [Rc.meet]<;>omega
def Leads (zs:List Int) (x:Nat) (tl:Bool) (acc:List (Int×Nat)) (R:Option (List (Int×Nat))):Prop:=x≤zs.length∧ ∀f,zs.length<x+f→walkF zs f x tl acc=R
theorem leads_step {zs:List Int} {x:Nat} {tl:Bool} {acc:List (Int×Nat)} {R:Option (List (Int×Nat))} (h:Leads zs x tl acc R):match stepW zs x tl with
 |.bad=>R=none
 |.fin=>R=some (acc++[(65497,x)])
 |.go l p' t'=>Leads zs p' t' (acc++l) R:=by
 have h1:=h.2 (zs.length-x+1) (by omega)
 unfold walkF at h1
 cases hs:stepW zs x tl with
 |bad=>rw [hs]at h1;exact h1.symm
 |fin=>rw [hs]at h1;exact h1.symm
 |go l p' t'=>
  rw [hs]at h1
  have:=stepW_go hs
  have h0:=h.1
  exact⟨this.2,fun f hf=>by rw [← h1];exact walkF_more zs _ _ _ _ _ hf (by omega) this.2⟩
theorem leads_bad {zs:List Int} {x:Nat} {tl:Bool} {acc:List (Int×Nat)} {R:Option (List (Int×Nat))} (h:Leads zs x tl acc R) (hs:stepW zs x tl=.bad):R=none:=by
 have:=leads_step h
 rw [hs]at this
 exact this
theorem leads_fin {zs:List Int} {x:Nat} {tl:Bool} {acc:List (Int×Nat)} {R:Option (List (Int×Nat))} (h:Leads zs x tl acc R) (hs:stepW zs x tl=.fin):R=some (acc++[(65497,x)]):=by
 have:=leads_step h
 rw [hs]at this
 exact this
theorem leads_go {zs:List Int} {x:Nat} {tl:Bool} {acc:List (Int×Nat)} {R:Option (List (Int×Nat))} (h:Leads zs x tl acc R) {l:List (Int×Nat)} {p':Nat} {t':Bool} (hs:stepW zs x tl=.go l p' t'):Leads zs p' t' (acc++l) R:=by
 have:=leads_step h
 rw [hs]at this
 exact this
theorem leads_start {zs:List Int} (h:two zs 0=65359):Leads zs 2 false [(65359,0)] (walkM zs):=by
 have hl:2≤zs.length:=by
  rcases Nat.lt_or_ge zs.length (0+2)with hh|hh
  · rw [two_lt hh]at h;omega
  · omega
 refine⟨hl,fun f hf=>?_⟩
 unfold walkM
 rw [if_pos h]
 exact walkF_more zs _ _ _ _ _ hf (by omega) hl
theorem walkM_none {zs:List Int} (h:two zs 0≠65359):walkM zs=none:=if_neg h
theorem step_low {zs:List Int} {x:Nat} {tl:Bool} (h:two zs x<65280∨two zs x=65359∨two zs x=65427):stepW zs x tl=.bad:=by
 unfold stepW
 simp only
 rw [if_pos (by omega)]
theorem step_end {zs:List Int} {x:Nat} {tl:Bool} (h:two zs x=65497):stepW zs x tl=if tl=true∧zs.length=x+2 then .fin else .bad:=by
 unfold stepW
 simp only
 cases tl with
 |false=>rw [if_pos (by simp [h]),if_neg (by simp)]
 |true=>
  rw [if_neg (by simp [h]),if_pos h]
  by_cases hl:zs.length=x+2
  · rw [if_pos hl,if_pos ⟨rfl,hl⟩]
  · rw [if_neg hl,if_neg (fun hh=>hl hh.2)]
theorem step_tile {zs:List Int} {x:Nat} {tl:Bool} (h:two zs x=65424):stepW zs x tl=if tileGood zs x then .go [(65424,x),(65427,x+12)] (x+(tileSize zs x).toNat) true else .bad:=by
 unfold stepW
 simp only
 rw [if_neg (by rw [h];simp),if_neg (by omega),if_neg (by omega)]
 by_cases h1:two zs (x+2)=10∧12≤(zs.length:Int)-x
 · rw [if_neg (by omega),if_neg (by simp [h])]
   by_cases h2:two zs (x+12)=65427
   · rw [if_neg (by simp [h2])]
     by_cases h3:tileSize zs x<14∨(zs.length:Int)-x<tileSize zs x
     · exact(if_pos h3).trans (if_neg (fun g=>by have:=g.2.2.2;omega)).symm
     · exact(if_neg h3).trans (if_pos ⟨h1.1,h1.2,h2,by omega,by omega⟩).symm
   · rw [if_pos h2,if_neg (fun g=>h2 g.2.2.1)]
 · rw [if_pos (by omega),if_neg (fun g=>h1 ⟨g.1,g.2.1⟩)]
theorem step_seg {zs:List Int} {x:Nat} (h0:65280≤two zs x) (h1:two zs x≠65359) (h2:two zs x≠65427) (h3:two zs x≠65424) (h4:two zs x≠65497):stepW zs x false=if 65328≤two zs x∧two zs x≤65343 then .go [(two zs x,x)] (x+2) false else if two zs (x+2)<2∨(zs.length:Int)-x-2<two zs (x+2)then .bad else .go [(two zs x,x)] (x+2+(two zs (x+2)).toNat) false:=by
 unfold stepW
 simp only
 rw [if_neg (by simp;omega),if_neg h4]
 by_cases hr:65328≤two zs x∧two zs x≤65343
 · rw [if_pos hr,if_pos hr]
 · rw [if_neg hr,if_neg hr]
   by_cases hc:two zs (x+2)<2∨(zs.length:Int)-x-2<two zs (x+2)
   · rw [if_pos (by omega),if_pos hc]
   · rw [if_neg (by omega),if_neg hc,if_pos h3]
theorem step_late {zs:List Int} {x:Nat} (h3:two zs x≠65424) (h4:two zs x≠65497):stepW zs x true=.bad:=by
 unfold stepW
 simp only
 rw [if_pos (.inr (.inr (.inr (.inr ⟨trivial,h3,h4⟩))))]
def tmarks :Nat→List (List Int)→List (Int×Nat)
 |_,[]=>[]
 |p,y::l=>(65424,p)::(65427,p+12)::tmarks (p+(14+y.length)) l
def hmarks (a b c:Nat) (rem:List Int):List (Int×Nat):=[(65359,0),(65361,2),(65362,2+(4+a)),(65372,2+(4+a)+(4+b))]++(if rem=[]then []else [(65380,2+(4+a)+(4+b)+(4+c))])
theorem walkF_two (zs:List Int): ∀(f p:Nat) (t:Bool) (acc l:List (Int×Nat)),(∀ x∈acc,two zs x.2=x.1∧0≤x.1)→walkF zs f p t acc=some l→ ∀x∈l,two zs x.2=x.1∧0≤x.1
 |0,_,_,_,_,_,h=>by cases h
 |f+1,p,t,acc,l,ha,h=>by
  unfold walkF at h
  cases hs:stepW zs p t with
  |bad=>rw [hs]at h;cases h
  |fin=>
   rw [hs]at h
   injection h with h
   subst h
   intro x hx
   rcases List.mem_append.1 hx with hx|hx
   · exact ha x hx
   · rw [List.mem_singleton]at hx
     subst hx
     refine⟨?_,by show(0:Int)≤65497;omega⟩
     show two zs p=65497
     unfold stepW at hs
     simp only at hs
     split at hs
     · cases hs
     · split at hs
       · assumption
       · split at hs
         · cases hs
         · split at hs
           · cases hs
           · split at hs
             · cases hs
             · split at hs
               · cases hs
               · split at hs<;>cases hs
  |go g p' t'=>
   rw [hs]at h
   refine walkF_two zs f p' t' _ l (fun x hx=>?_) h
   rcases List.mem_append.1 hx with hx|hx
   · exact ha x hx
   · unfold stepW at hs
     simp only at hs
     split at hs
     · cases hs
     · split at hs
       · split at hs<;>cases hs
       · split at hs
         · injection hs with h1 _ _
           subst h1
           rw [List.mem_singleton]at hx
           subst hx
           exact⟨rfl,by omega⟩
         · split at hs
           · cases hs
           · split at hs
             · injection hs with h1 _ _
               subst h1
               rw [List.mem_singleton]at hx
               subst hx
               exact⟨rfl,by omega⟩
             · split at hs
               · cases hs
               · split at hs
                 · cases hs
                 · injection hs with h1 _ _
                   subst h1
                   rename_i h9 h8 _
                   rcases List.mem_cons.1 hx with rfl|hx
                   · exact⟨by show two zs p=65424;omega,by show(0:Int)≤65424;omega⟩
                   · rw [List.mem_singleton]at hx
                     subst hx
                     exact⟨by show two zs (p+12)=65427;omega,by show(0:Int)≤65427;omega⟩
theorem walkM_two {zs:List Int} {l:List (Int×Nat)} (h:walkM zs=some l): ∀x∈l,two zs x.2=x.1∧0≤x.1:=by
 unfold walkM at h
 split at h
 · rename_i h0
   refine walkF_two zs _ _ _ _ _ (fun x hx=>?_) h
   rw [List.mem_singleton]at hx
   subst hx
   exact⟨h0,by show(0:Int)≤65359;omega⟩
 · cases h
theorem two_app {zs more:List Int} {p:Nat} (h:p+2≤zs.length):two (zs++more) p=two zs p:=by
 unfold two
 rw [if_neg (by rw [List.length_append];omega),if_neg (by omega)]
 rw [List.getD_eq_getElem?_getD,List.getD_eq_getElem?_getD,List.getElem?_append_left (by omega),List.getElem?_append_left (by omega),←List.getD_eq_getElem?_getD,←List.getD_eq_getElem?_getD]
theorem two_none {zs:List Int} {p:Nat} (h: ¬two zs p=-1):p+2≤zs.length:=by
 rcases Nat.lt_or_ge zs.length (p+2)with hh|hh
 · exact absurd (two_lt hh) h
 · exact hh
theorem step_ext {zs more:List Int} (hm:more≠[]) (p:Nat) (t:Bool):match stepW zs p t with
 |.bad=>True
 |.fin=>stepW (zs++more) p t=.bad
 |.go l p' t'=>stepW (zs++more) p t=.go l p' t':=by
 have hlen:(zs++more).length=zs.length+more.length:=List.length_append
 have hml:0<more.length:=List.length_pos_iff.2 hm
 by_cases c1:two zs p<65280∨two zs p=65359∨two zs p=65427
 · rw [step_low c1];trivial
 have hp:p+2≤zs.length:=two_none (by omega)
 have e1:=two_app (more:=more) hp
 by_cases c2:two zs p=65497
 · rw [step_end c2,step_end (e1.trans c2)]
   by_cases hc:t=true∧zs.length=p+2
   · rw [if_pos hc]
     show(if _ then _ else _)=_
     rw [if_neg (by omega)]
   · rw [if_neg hc];trivial
 by_cases c3:two zs p=65424
 · rw [step_tile c3,step_tile (e1.trans c3)]
   by_cases hg:tileGood zs p
   · rw [if_pos hg]
     obtain⟨g1,g2,g3,g4,g5⟩:=hg
     have hp2:p+12+2≤zs.length:=two_none (by omega)
     have es:tileSize (zs++more) p=tileSize zs p:=by unfold tileSize;rw [two_app (by omega),two_app (by omega)]
     show(if _ then _ else _)=_
     rw [if_pos ⟨by rw [two_app (by omega)];exact g1,by omega,by rw [two_app hp2];exact g3,by omega,by omega⟩,es]
   · rw [if_neg hg];trivial
 cases t with
 |true=>rw [step_late c3 c2];trivial
 |false=>
  rw [step_seg (by omega) (by omega) (by omega) c3 c2,step_seg (by omega) (by omega) (by omega) (by omega) (by omega),e1]
  by_cases c4:65328≤two zs p∧two zs p≤65343
  · rw [if_pos c4]
    show(if _ then _ else _)=_
    rw [if_pos c4]
  · rw [if_neg c4]
    by_cases c5:two zs (p+2)<2∨(zs.length:Int)-p-2<two zs (p+2)
    · rw [if_pos c5];trivial
    · rw [if_neg c5]
      have e2:=two_app (more:=more) (two_none (zs:=zs) (p:=p+2) (by omega))
      show(if _ then _ else _)=_
      rw [if_neg c4,if_neg (by omega),e2]
theorem walkF_ext {zs more:List Int} (hm:more≠[]): ∀(f p:Nat) (t:Bool) (acc acc' l:List (Int×Nat)) (g:Nat),walkF zs f p t acc=some l→walkF (zs++more) g p t acc'=none
 |0,_,_,_,_,_,_,h=>by cases h
 |f+1,p,t,acc,acc',l,0,h=>rfl
 |f+1,p,t,acc,acc',l,g+1,h=>by
  have hs:=step_ext hm (zs:=zs) p t
  unfold walkF at h ⊢
  cases hc:stepW zs p t with
  |bad=>rw [hc]at h;cases h
  |fin=>
   rw [hc]at hs
   rw [show stepW (zs++more) p t=.bad from hs]
  |go l' p' t'=>
   rw [hc]at h hs
   rw [show stepW (zs++more) p t=.go l' p' t' from hs]
   exact walkF_ext hm f p' t' _ _ l g h
theorem walk_ext {zs more:List Int} {l:List (Int×Nat)} (h:walkM zs=some l) (hm:more≠[]):walkM (zs++more)=none:=by
 unfold walkM at h ⊢
 by_cases h0:two zs 0=65359
 · rw [if_pos h0]at h
   have h2:0+2≤zs.length:=two_none (by omega)
   rw [if_pos (by rw [two_app h2];exact h0)]
   exact walkF_ext hm _ _ _ _ _ _ _ h
 · rw [if_neg h0]at h;cases h
theorem walk_cut {zs:List Int} {l:List (Int×Nat)} (h:walkM zs=some l) {k:Nat} (hk:k<zs.length):walkM (zs.take k)=none:=by
 cases hc:walkM (zs.take k)with
 |none=>rfl
 |some l'=>
  have h1:=walk_ext hc (more:=zs.drop k) (fun e=>by have:=congrArg List.length e;simp at this;omega)
  rw [List.take_append_drop,h]at h1
  cases h1
theorem two_shift {a s zs:List Int} {p:Nat} (h:a.length≤p):two (a++s++zs.drop a.length) (p+s.length)=two zs p:=by
 by_cases hz:a.length≤zs.length
 case neg=>
  rw [two_lt (zs:=zs) (by omega),two_lt]
  rw [List.length_append,List.length_append,List.length_drop];omega
 have key: ∀q,a.length≤q→(a++s++zs.drop a.length).getD (q+s.length) 0=zs.getD q 0:=fun q hq=>by
  rw [List.getD_eq_getElem?_getD,List.getElem?_append_right (by rw [List.length_append];omega),List.getElem?_drop,List.length_append,←List.getD_eq_getElem?_getD,show a.length+(q+s.length-(a.length+s.length))=q by omega]
 unfold two
 rw [key p h,show p+s.length+1=p+1+s.length by omega,key (p+1) (by omega)]
 have e:(a++s++zs.drop a.length).length=zs.length+s.length:=by rw [List.length_append,List.length_append,List.length_drop];omega
 rw [e]
 by_cases hc:zs.length<p+2
 · rw [if_pos hc,if_pos (by omega)]
 · rw [if_neg hc,if_neg (by omega)]
def shiftL (d:Nat) (l:List (Int×Nat)):List (Int×Nat):=l.map fun x=>(x.1,x.2+d)
def Stp.shift (d:Nat):Stp→Stp
 |.bad=>.bad
 |.fin=>.fin
 |.go l p t=>.go (shiftL d l) (p+d) t
theorem step_shift {a s zs:List Int} {p:Nat} {t:Bool} (hz:a.length≤zs.length) (h:a.length≤p):stepW (a++s++zs.drop a.length) (p+s.length) t=(stepW zs p t).shift s.length:=by
 have e':(a++s++zs.drop a.length).length=zs.length+s.length:=by rw [List.length_append,List.length_append,List.length_drop];omega
 have t0:=two_shift (s:=s) (zs:=zs) h
 have t2:two (a++s++zs.drop a.length) (p+s.length+2)=two zs (p+2):=by rw [show p+s.length+2=p+2+s.length by omega];exact two_shift (by omega)
 have t6:two (a++s++zs.drop a.length) (p+s.length+6)=two zs (p+6):=by rw [show p+s.length+6=p+6+s.length by omega];exact two_shift (by omega)
 have t8:two (a++s++zs.drop a.length) (p+s.length+8)=two zs (p+8):=by rw [show p+s.length+8=p+8+s.length by omega];exact two_shift (by omega)
 have t12:two (a++s++zs.drop a.length) (p+s.length+12)=two zs (p+12):=by rw [show p+s.length+12=p+12+s.length by omega];exact two_shift (by omega)
 unfold stepW
 simp only [t0,t2,t6,t8,t12,e']
 have a1:(((zs.length+s.length:Nat):Int)-((p+s.length:Nat):Int)-2<two zs (p+2))↔((zs.length:Int)-p-2<two zs (p+2)):=by omega
 have a2:(((zs.length+s.length:Nat):Int)-((p+s.length:Nat):Int)<two zs (p+6)*65536+two zs (p+8))↔((zs.length:Int)-p<two zs (p+6)*65536+two zs (p+8)):=by omega
 have a3:(zs.length+s.length=p+s.length+2)↔(zs.length=p+2):=by omega
 simp only [a1,a2,a3]
 split
 · rfl
 · split
   · split<;>rfl
   · split
     · show Stp.go _ _ _=Stp.go _ _ _
       rw [show p+s.length+2=p+2+s.length by omega];rfl
     · split
       · rfl
       · split
         · show Stp.go _ _ _=Stp.go _ _ _
           rw [show p+s.length+2+(two zs (p+2)).toNat=p+2+(two zs (p+2)).toNat+s.length by omega];rfl
         · split
           · rfl
           · split
             · rfl
             · show Stp.go _ _ _=Stp.go _ _ _
               rw [show p+s.length+(two zs (p+6)*65536+two zs (p+8)).toNat=p+(two zs (p+6)*65536+two zs (p+8)).toNat+s.length by omega]
               show Stp.go [(65424,p+s.length),(65427,p+s.length+12)] _ _=Stp.go [(65424,p+s.length),(65427,p+12+s.length)] _ _
               rw [show p+s.length+12=p+12+s.length by omega]
theorem walkF_shift {a s zs:List Int} (hz:a.length≤zs.length): ∀(f p:Nat) (t:Bool) (acc acc':List (Int×Nat)),a.length≤p→walkF (a++s++zs.drop a.length) f (p+s.length) t (acc'++shiftL s.length acc)=(walkF zs f p t acc).map fun l=>acc'++shiftL s.length l
 |0,_,_,_,_,_=>rfl
 |f+1,p,t,acc,acc',h=>by
  unfold walkF
  rw [step_shift hz h]
  cases hs:stepW zs p t with
  |bad=>rfl
  |fin=>
   show some (acc'++shiftL s.length acc++[(65497,p+s.length)])=some (acc'++shiftL s.length (acc++[(65497,p)]))
   unfold shiftL
   rw [List.map_append,List.append_assoc];rfl
  |go l p' t'=>
   have:=stepW_go hs
   show walkF (a++s++zs.drop a.length) f (p'+s.length) t' ((acc'++shiftL s.length acc)++shiftL s.length l)=(walkF zs f p' t' (acc++l)).map fun l=>acc'++shiftL s.length l
   rw [List.append_assoc acc',show shiftL s.length acc++shiftL s.length l=shiftL s.length (acc++l) by unfold shiftL;rw [List.map_append]]
   exact walkF_shift hz f p' t' (acc++l) acc' (by omega)
theorem walkF_pre (zs:List Int): ∀(f p:Nat) (t:Bool) (acc:List (Int×Nat)),walkF zs f p t acc=(walkF zs f p t []).map fun l=>acc++l
 |0,_,_,_=>rfl
 |f+1,p,t,acc=>by
  unfold walkF
  cases hs:stepW zs p t with
  |bad=>rfl
  |fin=>rfl
  |go l p' t'=>
   show walkF zs f p' t' (acc++l)=(walkF zs f p' t' ([]++l)).map _
   rw [walkF_pre zs f p' t' (acc++l),walkF_pre zs f p' t' ([]++l)]
   cases walkF zs f p' t' []with
   |none=>rfl
   |some r=>show some _=some _;simp
def segS (mark n:Nat):List Int:=if 48≤mark∧mark≤63 then [255,mark]else [255,(mark:Int),0,(n:Int)+2]++List.replicate n 0
def insS (zs:List Int) (mark n:Nat):List Int:=zs.take 2++segS mark n++zs.drop 2
theorem segS_two (mark n:Nat): ∃r,segS mark n=255::(mark:Int)::r:=by
 unfold segS
 split
 · exact⟨[],rfl⟩
 · exact⟨0::((n:Int)+2)::List.replicate n 0,rfl⟩
theorem two_app2 {a r:List Int} {x y:Int}:two (a++x::y::r) a.length=x*256+y:=by
 unfold two
 rw [if_neg (by rw [List.length_append,List.length_cons,List.length_cons];omega)]
 rw [List.getD_eq_getElem?_getD,List.getD_eq_getElem?_getD,List.getElem?_append_right (by omega),List.getElem?_append_right (by omega),Nat.sub_self,show a.length+1-a.length=1 by omega]
 rfl
theorem ins_marks {zs:List Int} {l:List (Int×Nat)} (h:walkM zs=some ((65359,0)::(65361,2)::l)) (h12:two zs 2≠65427) (mark n:Nat) (hm:mark<256) (hn:n<60):
 walkM (insS zs mark n)=if mark=79∨mark=147∨mark=217∨mark=144 then none else some ((65359,0)::(65280+(mark:Int),2)::shiftL (segS mark n).length ((65361,2)::l)):=by
 have h0:two zs 0=65359:=(walkM_two h (65359,0) (List.mem_cons_self ..)).1
 have hl:0+2≤zs.length:=two_none (by omega)
 have ht:(zs.take 2).length=2:=by rw [List.length_take];omega
 generalize hx:insS zs mark n=x
 have hx':x=zs.take 2++(segS mark n++zs.drop 2):=by rw [← hx];unfold insS;rw [List.append_assoc]
 have x0:two x 0=65359:=by
  rw [← h0,hx']
  conv=>rhs;rw [← List.take_append_drop 2 zs]
  rw [two_app (by omega),two_app (by omega)]
 obtain⟨r,hr⟩:=segS_two mark n
 have x2:two x 2=65280+(mark:Int):=by
  rw [hx',hr]
  have:=two_app2 (a:=zs.take 2) (r:=r++zs.drop 2) (x:=255) (y:=mark)
  rw [ht]at this
  rw [show(255::(mark:Int)::r)++zs.drop 2=255::(mark:Int)::(r++zs.drop 2)from rfl,this]
  omega
 have L0:=leads_start x0
 have hlen:x.length=zs.length+(segS mark n).length:=by
  rw [hx',List.length_append,List.length_append,List.length_drop,ht];omega
 have x4: ¬(48≤mark∧mark≤63)→two x 4=(n:Int)+2∧(segS mark n).length=4+n:=fun hc=>by
  have hs:segS mark n=[255,(mark:Int),0,(n:Int)+2]++List.replicate n 0:=by unfold segS;rw [if_neg hc]
  refine⟨?_,by rw [hs,List.length_append,List.length_replicate];rfl⟩
  rw [hx',hs]
  have:=two_app2 (a:=zs.take 2++[255,(mark:Int)]) (r:=List.replicate n 0++zs.drop 2) (x:=0) (y:=(n:Int)+2)
  rw [List.length_append,ht]at this
  simp only [List.append_assoc,List.cons_append,List.nil_append,List.length_cons,List.length_nil]at this ⊢
  rw [this]
  omega
 by_cases c1:mark=79∨mark=147∨mark=217∨mark=144
 · rw [if_pos c1]
   refine leads_bad L0 ?_
   rcases c1 with rfl|rfl|rfl|rfl
   · exact step_low (.inr (.inl x2))
   · exact step_low (.inr (.inr x2))
   · rw [step_end x2,if_neg (by simp)]
   · obtain⟨e4,e5⟩:=x4 (by omega)
     rw [step_tile x2,if_neg]
     rintro ⟨g1,g2,g3,g4,g5⟩
     rw [e4]at g1
     have hn8:n=8:=by omega
     subst hn8
     have:=two_shift (a:=zs.take 2) (s:=segS 144 8) (zs:=zs) (p:=2) (by omega)
     rw [ht,show zs.take 2++segS 144 8++zs.drop 2=x by rw [hx',List.append_assoc],e5]at this
     rw [show 2+12=2+(4+8) by omega]at g3
     exact h12 (this.symm.trans g3)
 · rw [if_neg c1]
   have hs2:stepW x 2 false=.go [(65280+(mark:Int),2)] (2+(segS mark n).length) false:=by
    rw [step_seg (by omega) (by omega) (by omega) (by omega) (by omega),x2]
    by_cases c2:48≤mark∧mark≤63
    · rw [if_pos (by omega)]
      have:(segS mark n).length=2:=by unfold segS;rw [if_pos c2];rfl
      rw [this]
    · obtain⟨e4,e5⟩:=x4 c2
      rw [if_neg (by omega),show 2+2=4 from rfl,if_neg (by omega),e4,e5]
      rw [show 4+((n:Int)+2).toNat=2+(4+n) by omega]
   have L1:=leads_go L0 hs2
   have h9:walkF zs (zs.length+(segS mark n).length) 2 false []=some ((65361,2)::l):=by
    have e:walkM zs=walkF zs (zs.length+1) 2 false [(65359,0)]:=by unfold walkM;rw [if_pos h0]
    rw [e,walkF_pre]at h
    have hge:2≤(segS mark n).length:=by rw [hr];simp
    rw [walkF_more zs _ 2 false [] (zs.length+1) (by omega) (by omega) (by omega)]
    cases hw:walkF zs (zs.length+1) 2 false []with
    |none=>rw [hw]at h;cases h
    |some r=>
     rw [hw]at h
     have h':(65359,0)::r=(65359,0)::(65361,2)::l:=Option.some.inj h
     injection h' with _ h'
     rw [h']
   have h10:=walkF_shift (a:=zs.take 2) (s:=segS mark n) (zs:=zs) (by omega) (zs.length+(segS mark n).length) 2 false [] ([(65359,0)]++[(65280+(mark:Int),2)]) (by omega)
   rw [ht,show zs.take 2++segS mark n++zs.drop 2=x by rw [hx',List.append_assoc],h9]at h10
   rw [show shiftL (segS mark n).length ([]:List (Int×Nat))=[]from rfl,List.append_nil]at h10
   rw [← L1.2 (zs.length+(segS mark n).length) (by omega),h10]
   rfl
end Go.Proofs.YthfogcgdijmaoaaGreat
