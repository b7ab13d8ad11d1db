/-
  Part 32 of the proof: CodN. Conditions: those of the statements.
-/
import Derived.Test.YthfogcgdijmaoaaGreatJ9
import Derived.Test.YthfogcgdijmaoaaGreatJ10
import Derived.Test.YthfogcgdijmaoaaGreatJ12
import Derived.Test.YthfogcgdijmaoaaGreatJ22
set_option maxRecDepth 100000
set_option maxHeartbeats 16000000
set_option linter.unusedVariables false
set_option linter.unusedSimpArgs false
namespace Go.Proofs.YthfogcgdijmaoaaGreat
open Go.RowKit
structure CdB (d:Cd) (band style:Int) (cs:Array Value):Prop where
 c0:cs[0]?=some (.int .i64 d.W)
 c1:cs[1]?=some (.int .i64 d.H)
 c2:cs[2]?=some (.int .i64 band)
 c3:cs[3]?=some (.int .i64 style)
 c4:cs[4]?=some (.slice (some ⟨d.gm,0,none⟩) (d.W*d.H) (d.W*d.H))
 c5:cs[5]?=some (.slice (some ⟨d.gn,0,none⟩) (d.W*d.H) (d.W*d.H))
 c6:cs[6]?=some (.slice (some ⟨d.gs,0,none⟩) (d.W*d.H) (d.W*d.H))
 c7:cs[7]?=some (.slice (some ⟨d.ge,0,none⟩) (d.W*d.H) (d.W*d.H))
 c8:cs[8]?=some (.slice (some ⟨d.ga,0,none⟩) (d.W*d.H) (d.W*d.H))
 cx: ∀k,k<19→ ∃i m:Nat,i≤46∧m≤1∧cs[9+k*2]?=some (.int .i64 i)∧cs[9+k*2+1]?=some (.int .i64 m)
 size:50<cs.size
structure CdN (d:Cd) (band style:Int) (cs:Array Value) (w:World):Prop where
 blk:Blk w d.g 165 cs
 cb:CdB d band style cs
 mag:IRow w d.gm (d.W*d.H) (fun z=>0≤z∧z≤1073741823)
 neg:IRow w d.gn (d.W*d.H) (fun z=>0≤z∧z≤1)
 sig:BRow w d.gs (d.W*d.H)
 seen:BRow w d.ge (d.W*d.H)
 again:BRow w d.ga (d.W*d.H)
 mn:d.gm≠d.gn
theorem irow_made {w:World} {g n:Nat} {Q:Int→Prop} (h:Blk w g 3 (madeCells #[.int .i64 0] n)) (h0:Q 0):IRow w g n Q:=⟨_,h,fun i hi=>⟨0,h0,made_at _ n i hi⟩⟩
theorem brow_made {w:World} {g n:Nat} (h:Blk w g 4 (madeCells #[.bool false] n)):BRow w g n:=⟨_,h,fun i hi=>⟨false,made_at _ n i hi⟩⟩
def cxLit :Array Value:=#[.int .i64 4,.int .i64 0,.int .i64 0,.int .i64 0,.int .i64 0,.int .i64 0,.int .i64 0,.int .i64 0,.int .i64 0,.int .i64 0,.int .i64 0,.int .i64 0,.int .i64 0,.int .i64 0,.int .i64 0,.int .i64 0,.int .i64 0,.int .i64 0,.int .i64 0,.int .i64 0,.int .i64 0,.int .i64 0,.int .i64 0,.int .i64 0,.int .i64 0,.int .i64 0,.int .i64 0,.int .i64 0,.int .i64 0,.int .i64 0,.int .i64 0,.int .i64 0,.int .i64 0,.int .i64 0,.int .i64 3,.int .i64 0,.int .i64 46,.int .i64 0]
theorem cx_lit :cxCells begL=cxLit:=by kernel_rfl
def BegR (N B j:Nat) (v:Value) (w:World):Prop:=
 if j=5∨j=7 then∃g,v=.slice (some ⟨g,0,none⟩) N N∧B≤g∧Blk w g 3 (madeCells #[.int .i64 0] N)
 else if j=14 then v=.agg (cxCells begL)
 else∃g,v=.slice (some ⟨g,0,none⟩) N N∧B≤g∧Blk w g 4 (madeCells #[.bool false] N)
theorem begR_int {N B g j:Nat} {w:World} (hj:j=5∨j=7) (hg:B≤g) (hb:Blk w g 3 (madeCells #[.int .i64 0] N)):BegR N B j (.slice (some ⟨g,0,none⟩) N N) w:=by
 unfold BegR
 rw [if_pos hj]
 exact⟨g,rfl,hg,hb⟩
theorem begR_bool {N B g j:Nat} {w:World} (hj: ¬(j=5∨j=7)) (hj2:j≠14) (hg:B≤g) (hb:Blk w g 4 (madeCells #[.bool false] N)):BegR N B j (.slice (some ⟨g,0,none⟩) N N) w:=by
 unfold BegR
 rw [if_neg hj,if_neg hj2]
 exact⟨g,rfl,hg,hb⟩
theorem begR_cx (N B:Nat) (w:World):BegR N B 14 (.agg (cxCells begL)) w:=by
 unfold BegR
 rw [if_neg (by decide),if_pos rfl]
theorem begR_is {N B j:Nat} {v:Value} {w:World} (h:BegR N B j v w):(j=5∨j=7→ ∃g,v=.slice (some ⟨g,0,none⟩) N N∧B≤g∧Blk w g 3 (madeCells #[.int .i64 0] N))∧(j=14→v=.agg (cxCells begL))∧(¬ (j=5∨j=7)→j≠14→ ∃g,v=.slice (some ⟨g,0,none⟩) N N∧B≤g∧Blk w g 4 (madeCells #[.bool false] N)):=by
 unfold BegR at h
 refine⟨fun hc=>?_,fun hc=>?_,fun h1 h2=>?_⟩
 · rwa [if_pos hc]at h
 · rwa [if_neg (by omega),if_pos hc]at h
 · rwa [if_neg h1,if_neg h2]at h
theorem begR_keep (N B:Nat) (j:Nat) (v:Value) (w w':World) (h:BegR N B j v w) (hk:Keep (fun _=>False) w w'):BegR N B j v w':=by
 unfold BegR at h ⊢
 split
 · rename_i hc
   rw [if_pos hc]at h
   obtain⟨g,h1,h2,h3⟩:=h
   exact⟨g,h1,h2,h3.keep hk id⟩
 · rename_i hc
   rw [if_neg hc]at h
   split
   · rename_i hd
     rwa [if_pos hd]at h
   · rename_i hd
     rw [if_neg hd]at h
     obtain⟨g,h1,h2,h3⟩:=h
     exact⟨g,h1,h2,h3.keep hk id⟩
theorem begR_lt {N B j:Nat} {v:Value} {w:World} (h:BegR N B j v w) (g:Nat) (hg:v.ownBlock=some g):g<w.heap.size:=by
 unfold BegR at h
 split at h
 · obtain⟨g',rfl,_,h3⟩:=h
   simp [Value.ownBlock]at hg
   subst hg
   exact h3.lt
 · split at h
   · subst h
     simp [Value.ownBlock]at hg
   · obtain⟨g',rfl,_,h3⟩:=h
     simp [Value.ownBlock]at hg
     subst hg
     exact h3.lt
theorem cbegin_any (w:World) (W H:Nat) (band style:Int) (hW:0<W) (hW2:W≤12) (hH:0<H) (hH2:H≤12):
 Calls Tryz.prog 82 #[.int .i64 W,.int .i64 H,.int .i64 band,.int .i64 style] w (fun e w'=> ∃d cs,e=.returned (.pointer (some ⟨d.g,0,none⟩))∧CdN d band style cs w'∧d.W=W∧d.H=H∧w.heap.size≤d.g∧w.heap.size≤d.gm∧w.heap.size≤d.gn∧w.heap.size≤d.gs∧w.heap.size≤d.ge∧w.heap.size≤d.ga∧Keep (fun _=>False) w w'):=by
 obtain⟨i0,hi0,hz0,hz1,hz2⟩:=info_parts info_int
 obtain⟨j0,hj0,hy0,hy1,hy2⟩:=info_parts info_bool
 have hN:W*H≤12*12:=Nat.mul_le_mul hW2 hH2
 have e1:(W:Int)*(H:Int)=((W*H:Nat):Int):=by push_cast;rfl
 have e2:IntKind.i64.wrap ((W*H:Nat):Int)=((W*H:Nat):Int):=IntWalk.i64_in _ (by omega)
 have e3:wrap64 ((W*H:Nat):Int)=((W*H:Nat):Int):=IntWalk.wrap64_in _ (by omega)
 have HK:=hid (Keep.refl (fun _=>False) w)
 obtain⟨N,hNN⟩: ∃N,W*H=N:=⟨_,rfl⟩
 have HNN:=hid hNN
 rw [hNN]at e1 e2 e3 hN
 clear hNN
 go_enter Tryz.func82,Tryz.ntmps82
 go_wp2_with fail
 replace HK:=hid HK.out.drew
 refine At.start (L:=#[false,false,false,false,false,false,false,false,false,false,false,false,false,false,false,false,false,false]) (by kernel_rfl) rfl ?_
 generalize w.drew=w0 at*
 refine AtP 0 (some 13) ?_
 try simp only [NS]
 refine AtP 1 (some 14) ?_
 try simp only [NS]
 refine AtP 2 (some 15) ?_
 try simp only [NS]
 refine AtP 3 (some 16) ?_
 try simp only [NS]
 refine AtP 4 (some 17) ?_
 try simp only [NS]
 refine AtP 6 (some 19) ?_
 try simp only [NS]
 refine AtP 8 (some 21) ?_
 try simp only [NS]
 refine AtP 10 (some 23) ?_
 try simp only [NS]
 refine AtP 12 (some 25) ?_
 try simp only [NS]
 have hsz:w.heap.size≤w0.heap.size:=HK.out.size
 show At _ _ _ _ (6+3) [] _ _ _
 refine At.bunch [(5,18),(7,20),(9,22),(11,24),(13,26),(14,27)] (BegR N w0.heap.size) (fun v u=> ∀g g',v.ownBlock=some g→u.ownBlock=some g'→g≠g') (by decide) (begR_keep N _) (by kernel_rfl) ?step (by decide) ?fin 6 [none,none,none,none,none,none] w0 rfl rfl (Keep.refl _ _) (fun i j v h1 h2=>?e1) (fun i i' v v' _ h1=>?e2)
 case e1=>rcases i with _|_|_|_|_|_|i<;>simp at h2
 case e2=>rcases i with _|_|_|_|_|_|i<;>simp at h1
 case step=>
  intro i j oj hj hoj
  have hgen: ∀(e:TypeId) (z:Value) (k:Nat) (v:Value) (w1 w2:World),v=.slice (some ⟨w1.heap.size,0,none⟩) N N→(∀ k' u,BegR N w0.heap.size k' u w1→(∀ g g',v.ownBlock=some g→u.ownBlock=some g'→g≠g')∧(∀ g g',u.ownBlock=some g→v.ownBlock=some g'→g≠g')):=fun e z k v w1 w2 hv k' u hu=>by
   subst hv
   have hlt:=begR_lt hu
   refine⟨fun g g' h1 h2=>?_,fun g g' h1 h2=>?_⟩
   · simp [Value.ownBlock]at h1
     have:=hlt g' h2
     omega
   · simp [Value.ownBlock]at h2
     have:=hlt g h1
     omega
  rcases i with _|_|_|_|_|_|i
  · simp at hj
    subst hj
    simp only at hoj
    cases hoj
    refine⟨rfl,fun vs w' K hl hk hK=>?_⟩
    exact wp_make (.tmp 17) (.tmp 17) _ rfl 3 i0 _ Tryz.underlying22 hi0 hz0 hz1 rfl N ((putsA_eval _ _ _ _ (by decide)).trans rfl) ((putsA_eval _ _ _ _ (by decide)).trans rfl) (by rw [hz2];omega) (by simp only [maxLen];omega) (fun w1 hb1 hk1=>hK _ _ (begR_int (by decide) hk.size hb1) hk1 (fun k u hu=>hgen 0 undef 0 _ w' w' rfl k u hu))
  · simp at hj
    subst hj
    simp only at hoj
    cases hoj
    refine⟨rfl,fun vs w' K hl hk hK=>?_⟩
    exact wp_make (.tmp 19) (.tmp 19) _ rfl 3 i0 _ Tryz.underlying22 hi0 hz0 hz1 rfl N ((putsA_eval _ _ _ _ (by decide)).trans rfl) ((putsA_eval _ _ _ _ (by decide)).trans rfl) (by rw [hz2];omega) (by simp only [maxLen];omega) (fun w1 hb1 hk1=>hK _ _ (begR_int (by decide) hk.size hb1) hk1 (fun k u hu=>hgen 0 undef 0 _ w' w' rfl k u hu))
  · simp at hj
    subst hj
    simp only at hoj
    cases hoj
    refine⟨rfl,fun vs w' K hl hk hK=>?_⟩
    exact wp_make (.tmp 21) (.tmp 21) _ rfl 4 j0 _ Tryz.underlying155 hj0 hy0 hy1 rfl N ((putsA_eval _ _ _ _ (by decide)).trans rfl) ((putsA_eval _ _ _ _ (by decide)).trans rfl) (by rw [hy2];omega) (by simp only [maxLen];omega) (fun w1 hb1 hk1=>hK _ _ (begR_bool (by decide) (by decide) hk.size hb1) hk1 (fun k u hu=>hgen 0 undef 0 _ w' w' rfl k u hu))
  · simp at hj
    subst hj
    simp only at hoj
    cases hoj
    refine⟨rfl,fun vs w' K hl hk hK=>?_⟩
    exact wp_make (.tmp 23) (.tmp 23) _ rfl 4 j0 _ Tryz.underlying155 hj0 hy0 hy1 rfl N ((putsA_eval _ _ _ _ (by decide)).trans rfl) ((putsA_eval _ _ _ _ (by decide)).trans rfl) (by rw [hy2];omega) (by simp only [maxLen];omega) (fun w1 hb1 hk1=>hK _ _ (begR_bool (by decide) (by decide) hk.size hb1) hk1 (fun k u hu=>hgen 0 undef 0 _ w' w' rfl k u hu))
  · simp at hj
    subst hj
    simp only at hoj
    cases hoj
    refine⟨rfl,fun vs w' K hl hk hK=>?_⟩
    exact wp_make (.tmp 25) (.tmp 25) _ rfl 4 j0 _ Tryz.underlying155 hj0 hy0 hy1 rfl N ((putsA_eval _ _ _ _ (by decide)).trans rfl) ((putsA_eval _ _ _ _ (by decide)).trans rfl) (by rw [hy2];omega) (by simp only [maxLen];omega) (fun w1 hb1 hk1=>hK _ _ (begR_bool (by decide) (by decide) hk.size hb1) hk1 (fun k u hu=>hgen 0 undef 0 _ w' w' rfl k u hu))
  · simp at hj
    subst hj
    simp only at hoj
    cases hoj
    refine⟨rfl,fun vs w' K hl hk hK=>?_⟩
    go_simp
    refine(Mq.rfresh_any _).mono ?_
    rintro e w2 ⟨rfl,hk2⟩
    refine hK _ _ (begR_cx _ _ _) hk2 (fun k u hu=>⟨fun g g' h1 _=>?_,fun g g' _ h2=>?_⟩)
    · simp [Value.ownBlock]at h1
    · simp [Value.ownBlock]at h2
  · simp at hj
 case fin=>
  intro vs w3 hl hk hr hr2
  obtain⟨v1,v2,v3,v4,v5,v6,rfl⟩: ∃v1 v2 v3 v4 v5 v6,vs=[v1,v2,v3,v4,v5,v6]:=by
   rcases vs with _|⟨v1,_|⟨v2,_|⟨v3,_|⟨v4,_|⟨v5,_|⟨v6,_|⟨v7,vs⟩⟩⟩⟩⟩⟩⟩<;>simp at hl
   exact⟨v1,v2,v3,v4,v5,v6,rfl⟩
  obtain⟨g1,rfl,l1,b1⟩:=(begR_is (hr 0 _ _ rfl rfl)).1 (by decide)
  obtain⟨g2,rfl,l2,b2⟩:=(begR_is (hr 1 _ _ rfl rfl)).1 (by decide)
  obtain⟨g3,rfl,l3,b3⟩:=(begR_is (hr 2 _ _ rfl rfl)).2.2 (by decide) (by decide)
  obtain⟨g4,rfl,l4,b4⟩:=(begR_is (hr 3 _ _ rfl rfl)).2.2 (by decide) (by decide)
  obtain⟨g5,rfl,l5,b5⟩:=(begR_is (hr 4 _ _ rfl rfl)).2.2 (by decide) (by decide)
  obtain rfl:=(begR_is (hr 5 _ _ rfl rfl)).2.1 rfl
  rw [cx_lit]
  unfold cxLit
  have hne:g1≠g2:=hr2 0 1 _ _ (by decide) rfl rfl g1 g2 rfl rfl
  have hkk:=HK.out.trans hk (fun _ _ h=>h)
  have HF:=hid (And.intro hkk (And.intro b1 (And.intro b2 (And.intro b3 (And.intro b4 b5)))))
  clear b1 b2 b3 b4 b5 hr hr2 hkk hk HK
  show At _ _ _ _ _ [] (#[true,true,true,true,true,true,true,true,true,true,true,true,true,true,true,false,false,false]) _ _
  simp only [List.map_cons,List.map_nil,putsA,Act.put,List.setIfInBounds_toArray,List.set_cons_zero,List.set_cons_succ]
  refine AtP 15 (some 28) ?_
  try simp only [NS]
  refine AtC 16 fun K hK=>?_
  go_simp
  skip
  refine hK _ _ all_nil ?_
  clear hK K
  try simp only [NS]
  refine AtP 17 (some 8) ?_
  try simp only [NS]
  refine At.done (by kernel_rfl) ?_
  go_wp2_with fail
  go_ret
  obtain⟨hk3,b1,b2,b3,b4,b5⟩:=HF.out
  have hka:=(Keep.refl (fun _=>False) w3).alloc (.cells #[.int .i64 W,.int .i64 H,.int .i64 band,.int .i64 style,.slice (some ⟨g1,0,none⟩) N N,.slice (some ⟨g2,0,none⟩) N N,.slice (some ⟨g3,0,none⟩) N N,.slice (some ⟨g4,0,none⟩) N N,.slice (some ⟨g5,0,none⟩) N N,.int .i64 4,.int .i64 0,.int .i64 0,.int .i64 0,.int .i64 0,.int .i64 0,.int .i64 0,.int .i64 0,.int .i64 0,.int .i64 0,.int .i64 0,.int .i64 0,.int .i64 0,.int .i64 0,.int .i64 0,.int .i64 0,.int .i64 0,.int .i64 0,.int .i64 0,.int .i64 0,.int .i64 0,.int .i64 0,.int .i64 0,.int .i64 0,.int .i64 0,.int .i64 0,.int .i64 0,.int .i64 0,.int .i64 0,.int .i64 0,.int .i64 0,.int .i64 0,.int .i64 0,.int .i64 0,.int .i64 3,.int .i64 0,.int .i64 46,.int .i64 0,.bool false,.bool false,.pointer none,.pointer none,.pointer none,.pointer none] 165)
  refine⟨⟨w3.heap.size,g1,g2,g3,g4,g5,W,H,0,0⟩,#[.int .i64 W,.int .i64 H,.int .i64 band,.int .i64 style,.slice (some ⟨g1,0,none⟩) N N,.slice (some ⟨g2,0,none⟩) N N,.slice (some ⟨g3,0,none⟩) N N,.slice (some ⟨g4,0,none⟩) N N,.slice (some ⟨g5,0,none⟩) N N,.int .i64 4,.int .i64 0,.int .i64 0,.int .i64 0,.int .i64 0,.int .i64 0,.int .i64 0,.int .i64 0,.int .i64 0,.int .i64 0,.int .i64 0,.int .i64 0,.int .i64 0,.int .i64 0,.int .i64 0,.int .i64 0,.int .i64 0,.int .i64 0,.int .i64 0,.int .i64 0,.int .i64 0,.int .i64 0,.int .i64 0,.int .i64 0,.int .i64 0,.int .i64 0,.int .i64 0,.int .i64 0,.int .i64 0,.int .i64 0,.int .i64 0,.int .i64 0,.int .i64 0,.int .i64 0,.int .i64 3,.int .i64 0,.int .i64 46,.int .i64 0,.bool false,.bool false,.pointer none,.pointer none,.pointer none,.pointer none],rfl,⟨Blk.new w3 _ _,⟨rfl,rfl,rfl,rfl,?_,?_,?_,?_,?_,fun k hk=>?_,by simp only [List.size_toArray,List.length_cons,List.length_nil];omega⟩,?_,?_,?_,?_,?_,hne⟩,rfl,rfl,hk3.size,?_,?_,?_,?_,?_,hk3.alloc _⟩
  · show _=some (Value.slice _ (W*H) (W*H));rw [HNN.out];rfl
  · show _=some (Value.slice _ (W*H) (W*H));rw [HNN.out];rfl
  · show _=some (Value.slice _ (W*H) (W*H));rw [HNN.out];rfl
  · show _=some (Value.slice _ (W*H) (W*H));rw [HNN.out];rfl
  · show _=some (Value.slice _ (W*H) (W*H));rw [HNN.out];rfl
  · rcases (show k=0∨k=1∨k=2∨k=3∨k=4∨k=5∨k=6∨k=7∨k=8∨k=9∨k=10∨k=11∨k=12∨k=13∨k=14∨k=15∨k=16∨k=17∨k=18 by omega)with rfl|rfl|rfl|rfl|rfl|rfl|rfl|rfl|rfl|rfl|rfl|rfl|rfl|rfl|rfl|rfl|rfl|rfl|rfl<;>first|exact⟨0,0,by omega,by omega,rfl,rfl⟩|exact⟨4,0,by omega,by omega,rfl,rfl⟩|exact⟨3,0,by omega,by omega,rfl,rfl⟩|exact⟨46,0,by omega,by omega,rfl,rfl⟩
  · show IRow _ g1 (W*H) _;rw [HNN.out];exact irow_made (b1.keep hka id) (by omega)
  · show IRow _ g2 (W*H) _;rw [HNN.out];exact irow_made (b2.keep hka id) (by omega)
  · show BRow _ g3 (W*H);rw [HNN.out];exact brow_made (b3.keep hka id)
  · show BRow _ g4 (W*H);rw [HNN.out];exact brow_made (b4.keep hka id)
  · show BRow _ g5 (W*H);rw [HNN.out];exact brow_made (b5.keep hka id)
  · simp only;omega
  · simp only;omega
  · simp only;omega
  · simp only;omega
  · simp only;omega
end Go.Proofs.YthfogcgdijmaoaaGreat
