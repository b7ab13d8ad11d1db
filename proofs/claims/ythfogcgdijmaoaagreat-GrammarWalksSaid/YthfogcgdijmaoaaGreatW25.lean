/-
  Part 25 of the proof: Ghost Tset Tway Tenc Tenc2 Tenc3 Tnew Nband BandA. Conditions: those of the statements.
-/
import Derived.Test.YthfogcgdijmaoaaGreatW7
import Derived.Test.YthfogcgdijmaoaaGreatW14
import Derived.Test.YthfogcgdijmaoaaGreatW17
import Derived.Test.YthfogcgdijmaoaaGreatW19
import Derived.Test.YthfogcgdijmaoaaGreatW24
import Derived.Deep.QuietTactic
import Derived.BigQuiet
set_option maxRecDepth 100000
set_option maxHeartbeats 16000000
set_option linter.unusedVariables false
set_option linter.unusedSimpArgs false
namespace Go.Proofs.YthfogcgdijmaoaaGreat
open Go.RowKit
inductive Kd where
 |ro:Kd
 |node:Nat→Kd
 |tree:Nat→Kd
 |part:Nat→Kd
 |band:Nat→Kd
def NodeOk (m:Nat) (cs:Array Value):Prop:=m*4≤cs.size∧ ∀i,i<m→ ∃(N L u:Int) (s:Bool),cs[i*4]? =some (.int .i64 N)∧cs[i*4+1]? =some (.int .i64 L)∧cs[i*4+2]? =some (.bool s)∧cs[i*4+3]? =some (.int .i64 u)∧0≤L∧(u=-1∨((i:Int)<u∧u<m))
structure Pv where
 pl:Nat
 ps:List (Int×Bool)
 A:Option Addr
 cA:Nat
 bs:List Int
 B:Option Addr
 cB:Nat
 sd:Int
 lb:Int
def Pv.cells (P:Pv):List Value:=[.int .i64 P.pl,.slice P.A P.ps.length P.cA,.slice P.B P.bs.length P.cB,.int .i64 P.sd,.int .i64 P.lb]
structure PartOk (G:Nat→Option Kd) (w:World) (P:Pv):Prop where
 pl:P.pl≤30
 np:P.ps.length≤88
 nb:P.bs.length≤100000
 cb:P.bs.length≤P.cB
 ends:EndsOk P.ps P.ps.length P.bs.length 0
 bytes:Bytes P.bs
 rp:RdS w P.A P.ps.length 2 (passL P.ps)
 rb:Rd w P.B P.bs.length (P.bs.map (Value.int .u8))
 ga: ∀a,P.A=some a→G a.block=some .ro
 gb: ∀a,P.B=some a→G a.block=some .ro
 l3:3≤P.lb
 l17:P.lb≤17
def PartRow (G:Nat→Option Kd) (w:World) (n:Nat) (cs:Array Value):Prop:=n*5≤cs.size∧ ∀i,i<n→ ∃P:Pv,(∀ j v,P.cells[j]? =some v→cs[i*5+j]? =some v)∧PartOk G w P
def KdAt (G:Nat→Option Kd) (w:World) (b:Nat):Kd→Prop
 |.ro=>True
 |.node m=> ∃cs,Blk w b 181 cs∧NodeOk m cs
 |.tree n=> ∃(A:Option Addr) (m c:Nat) (fr:Bool),Blk w b 178 #[.slice A m c,.int .i64 n,.bool fr]∧n≤m∧m≤c∧m≤39∧(0<m→ ∃g,A=some ⟨g,0,none⟩∧G g=some (.node m))
 |.part n=> ∃cs,Blk w b 139 cs∧PartRow G w n cs
 |.band n=> ∃(pl:Int) (A:Option Addr) (c gi gu:Nat) (st:Bool),Blk w b 137 #[.int .i64 pl,.slice A n c,.pointer (some ⟨gi,0,none⟩),.pointer (some ⟨gu,0,none⟩),.bool st]∧n≤c∧n≤25∧0≤pl∧pl≤15∧(0<n→ ∃g,A=some ⟨g,0,none⟩∧G g=some (.part n))∧G gi=some (.tree n)∧G gu=some (.tree n)
structure Fits (G:Nat→Option Kd) (base:Nat) (w:World):Prop where
 at_: ∀b k,G b=some k→base≤b∧b<w.heap.size∧KdAt G w b k
section
variable {G :Nat→Option Kd} {base:Nat} {w w':World} {S:Nat→Prop}
theorem PartOk.keep {P:Pv} (h:PartOk G w P) (hk:Keep S w w') (hro: ∀j,S j→G j≠some .ro):PartOk G w' P:=
 ⟨h.pl,h.np,h.nb,h.cb,h.ends,h.bytes,h.rp.keep hk (fun a e hs=>hro _ hs (h.ga a e)),h.rb.keep hk (fun a e hs=>hro _ hs (h.gb a e)),h.ga,h.gb,h.l3,h.l17⟩
theorem PartRow.keep {n:Nat} {cs:Array Value} (h:PartRow G w n cs) (hk:Keep S w w') (hro: ∀j,S j→G j≠some .ro):PartRow G w' n cs:=
 ⟨h.1,fun i hi=>by obtain⟨P,h1,h2⟩:=h.2 i hi;exact⟨P,h1,h2.keep hk hro⟩⟩
theorem KdAt.keep {b:Nat} {k:Kd} (h:KdAt G w b k) (hk:Keep S w w') (hb: ¬S b) (hro: ∀j,S j→G j≠some .ro):KdAt G w' b k:=by
 cases k with
 |ro=>trivial
 |node m=>obtain⟨cs,h1,h2⟩:=h;exact⟨cs,h1.keep hk hb,h2⟩
 |tree n=>obtain⟨A,m,c,fr,h1,h2⟩:=h;exact⟨A,m,c,fr,h1.keep hk hb,h2⟩
 |part n=>obtain⟨cs,h1,h2⟩:=h;exact⟨cs,h1.keep hk hb,h2.keep hk hro⟩
 |band n=>obtain⟨pl,A,c,gi,gu,st,h1,h2⟩:=h;exact⟨pl,A,c,gi,gu,st,h1.keep hk hb,h2⟩
theorem Fits.keep (h:Fits G base w) (hk:Keep S w w') (hS: ∀j,S j→G j=none):Fits G base w':=
 ⟨fun b k hb=>by
  obtain⟨h1,h2,h3⟩:=h.at_ b k hb
  refine⟨h1,Nat.lt_of_lt_of_le h2 hk.size,h3.keep hk (fun hs=>?_) (fun j hj e=>?_)⟩
  · rw [hS b hs]at hb;cases hb
  · rw [hS j hj]at e;cases e⟩
theorem Fits.keepF (h:Fits G base w) (hk:Keep (fun _=>False) w w'):Fits G base w':=h.keep hk (fun _ h=>h.elim)
theorem Fits.step (h:Fits G base w) {g:Nat} {k:Kd} (hg:G g=some k) (hk0:k≠.ro) (hk:Keep (fun j=>j=g) w w') (hn:KdAt G w' g k):Fits G base w':=
 ⟨fun b q hb=>by
  obtain⟨h1,h2,h3⟩:=h.at_ b q hb
  refine⟨h1,Nat.lt_of_lt_of_le h2 hk.size,?_⟩
  by_cases e:b=g
  · subst e
    rw [hg]at hb
    injection hb with hb
    subst hb
    exact hn
  · exact h3.keep hk e (fun j hj hro=>by rw [hj,hg]at hro;injection hro with hro;exact hk0 hro)⟩
def TN (G:Nat→Option Kd) (j:Nat):Prop:=(∃ n,G j=some (.tree n))∨ ∃m,G j=some (.node m)
theorem NodeOk.setN {m:Nat} {cs:Array Value} (h:NodeOk m cs) {i:Nat} (hi:i<m) (y:Int):NodeOk m (cs.setIfInBounds (i*4) (.int .i64 y)):=by
 refine⟨by simpa using h.1,fun j hj=>?_⟩
 obtain⟨N,L,u,s,h1,h2,h3,h4,h5,h6⟩:=h.2 j hj
 have hsz:=h.1
 by_cases e:i=j
 · subst e
   exact⟨y,L,u,s,Array.getElem?_setIfInBounds_self_of_lt (by omega),by rw [Array.getElem?_setIfInBounds_ne (by omega)];exact h2,by rw [Array.getElem?_setIfInBounds_ne (by omega)];exact h3,by rw [Array.getElem?_setIfInBounds_ne (by omega)];exact h4,h5,h6⟩
 · exact⟨N,L,u,s,by rw [Array.getElem?_setIfInBounds_ne (by omega)];exact h1,by rw [Array.getElem?_setIfInBounds_ne (by omega)];exact h2,by rw [Array.getElem?_setIfInBounds_ne (by omega)];exact h3,by rw [Array.getElem?_setIfInBounds_ne (by omega)];exact h4,h5,h6⟩
theorem NodeOk.setRow {m:Nat} {cs:Array Value} (h:NodeOk m cs) {i:Nat} (hi:i<m) (N L u:Int) (s:Bool) (hL:0≤L) (hu:u=-1∨((i:Int)<u∧u<m)):NodeOk m (setL cs (i*4) [.int .i64 N,.int .i64 L,.bool s,.int .i64 u]):=by
 have hsz:=h.1
 refine⟨by rw [setL_size];exact h.1,fun j hj=>?_⟩
 by_cases e:i=j
 · subst e
   have key:=fun r (hr:r<4)=>setL_in [.int .i64 N,.int .i64 L,.bool s,.int .i64 u] cs (i*4) r (by show i*4+4≤_;omega) hr
   exact⟨N,L,u,s,key 0 (by omega),key 1 (by omega),key 2 (by omega),key 3 (by omega),hL,hu⟩
 · obtain⟨N',L',u',s',h1,h2,h3,h4,h5,h6⟩:=h.2 j hj
   have key:=fun r (hr:r<4)=>setL_out [.int .i64 N,.int .i64 L,.bool s,.int .i64 u] cs (i*4) (j*4+r) (by show _∨i*4+4≤_;omega)
   exact⟨N',L',u',s',(key 0 (by omega)).trans h1,(key 1 (by omega)).trans h2,(key 2 (by omega)).trans h3,(key 3 (by omega)).trans h4,h5,h6⟩
end
structure Tv (G:Nat→Option Kd) (base:Nat) (w:World) (T g m c n:Nat) (fr:Bool) (cs:Array Value):Prop where
 fits:Fits G base w
 gt:G T=some (.tree n)
 gn:G g=some (.node m)
 bt:Blk w T 178 #[.slice (some ⟨g,0,none⟩) m c,.int .i64 n,.bool fr]
 bn:Blk w g 181 cs
 ok:NodeOk m cs
 nm:n≤m
 mc:m≤c
 m39:m≤39
section
variable {G :Nat→Option Kd} {base:Nat} {w w':World} {T g m c n:Nat} {fr:Bool} {cs:Array Value}
theorem Fits.tree (h:Fits G base w) (hT:G T=some (.tree n)) (hn:0<n): ∃g m c fr cs,Tv G base w T g m c n fr cs:=by
 obtain⟨_,_,A,m,c,fr,h1,h2,h3,h4,h5⟩:=h.at_ T _ hT
 obtain⟨g,e,hg⟩:=h5 (by omega)
 subst e
 obtain⟨_,_,cs,h6,h7⟩:=h.at_ g _ hg
 exact⟨g,m,c,fr,cs,h,hT,hg,h1,h6,h7,h2,h3,h4⟩
theorem Tv.keep {S:Nat→Prop} (h:Tv G base w T g m c n fr cs) (hk:Keep S w w') (hS: ∀j,S j→G j=none):Tv G base w' T g m c n fr cs:=
 ⟨h.fits.keep hk hS,h.gt,h.gn,h.bt.keep hk (fun hs=>by have:=hS _ hs;rw [h.gt]at this;cases this),h.bn.keep hk (fun hs=>by have:=hS _ hs;rw [h.gn]at this;cases this),h.ok,h.nm,h.mc,h.m39⟩
theorem Tv.keepF (h:Tv G base w T g m c n fr cs) (hk:Keep (fun _=>False) w w'):Tv G base w' T g m c n fr cs:=h.keep hk (fun _ h=>h.elim)
theorem Tv.drew (h:Tv G base w T g m c n fr cs):Tv G base w.drew T g m c n fr cs:=h.keepF ((Keep.refl _ w).drew)
theorem Tv.nodes {cs':Array Value} (h:Tv G base w T g m c n fr cs) (hk:Keep (fun j=>j=g) w w') (hb:Blk w' g 181 cs') (ho:NodeOk m cs'):Tv G base w' T g m c n fr cs':=
 ⟨h.fits.step h.gn (by intro h;cases h) hk ⟨cs',hb,ho⟩,h.gt,h.gn,h.bt.keep hk (Blk.ne_ h.bt h.bn (by decide)),hb,ho,h.nm,h.mc,h.m39⟩
theorem Tv.setN (h:Tv G base w T g m c n fr cs) {i:Nat} (hi:i<m) (y:Int):Tv G base (w.setCell ⟨g,i*4,none⟩ (.int .i64 y)) T g m c n fr (cs.setIfInBounds (i*4) (.int .i64 y)):=
 h.nodes (Keep.set1 w g (i*4) _) (h.bn.set_ _ _) (h.ok.setN hi y)
theorem Tv.setF (h:Tv G base w T g m c n fr cs) (b:Bool):Tv G base (w.setCell ⟨T,2,none⟩ (.bool b)) T g m c n b cs:=by
 have hk:=Keep.set1 w T 2 (.bool b)
 have hb:Blk (w.setCell ⟨T,2,none⟩ (.bool b)) T 178 #[.slice (some ⟨g,0,none⟩) m c,.int .i64 n,.bool b]:=h.bt.set_ 2 (.bool b)
 exact⟨h.fits.step h.gt (by intro h;cases h) hk ⟨_,m,c,b,hb,h.nm,h.mc,h.m39,fun _=>⟨g,rfl,h.gn⟩⟩,h.gt,h.gn,hb,h.bn.keep hk (Blk.ne_ h.bn h.bt (by decide)),h.ok,h.nm,h.mc,h.m39⟩
theorem Tv.tnT (h:Tv G base w T g m c n fr cs):TN G T:=.inl ⟨n,h.gt⟩
theorem Tv.tnN (h:Tv G base w T g m c n fr cs):TN G g:=.inr ⟨m,h.gn⟩
end
def TnP (G:Nat→Option Kd) (base:Nat) (w:World) (e:Ending) (w':World):Prop:=e=.returned (.tuple #[])∧Fits G base w'∧Keep (TN G) w w'
theorem tset_any (G:Nat→Option Kd) (base:Nat) (w:World) (T n k:Nat) (x:Int) (hF:Fits G base w) (hT:G T=some (.tree n)) (hk:k<n):
 Calls Tryz.prog 96 #[.pointer (some ⟨T,0,none⟩),.int .i64 k,.int .i64 x] w (TnP G base w):=by
 obtain⟨g,m,c,fr,cs,hv⟩:=hF.tree hT (by omega)
 have hnm:=hv.nm
 have hmc:=hv.mc
 have hm39:=hv.m39
 have HV:=hid hv
 have t0:=hv.bt.cell 0
 have t1:=hv.bt.cell 1
 have f2:=hv.bt.frozen 2
 have fn:=hv.bn.frozen (k*4)
 obtain⟨N,L,u,s,c0,_⟩:=hv.ok.2 k (by omega)
 have n0:w.cell? ⟨g,k*4,none⟩=some (.int .i64 N):=by rw [hv.bn.cell];exact c0
 have t2:=hv.bt.cell 2
 have hlt:=hv.bt.lt
 have hlg:=hv.bn.lt
 have hne: ¬g=T:=Blk.ne_ hv.bn hv.bt (by decide)
 have hne2: ¬T=g:=fun e=>hne e.symm
 have HZ:=hid (show TnP G base w (.returned (.tuple #[])) ((w.setCell ⟨g,k*4,none⟩ (.int .i64 x)).setCell ⟨T,2,none⟩ (.bool false))from by
  have h1:=(hv.setN (i:=k) (by omega) x).setF false
  exact⟨rfl,h1.fits,((Keep.refl _ w).setCell (p:=⟨g,k*4,none⟩) (.inl hv.tnN) _).setCell (p:=⟨T,2,none⟩) (.inl hv.tnT) _⟩)
 have hd:decide ((k:Int)<n)=true:=by simp;omega
 clear hv hF hT c0
 go_enter Tryz.func96,Tryz.ntmps96
 go_wp2_with fail
 refine bodyPost_ret (results_none rfl _ _ _) rfl ?_
 exact HZ.out
structure TF (G:Nat→Option Kd) (base:Nat) (w0:World) (T g m c n:Nat) (w:World):Prop where
 tv: ∃cs,Tv G base w T g m c n true cs
 keep:Keep (TN G) w0 w
theorem TF.drew {G:Nat→Option Kd} {base:Nat} {w0 w:World} {T g m c n:Nat} (h:TF G base w0 T g m c n w):TF G base w0 T g m c n w.drew:=by
 obtain⟨cs,h1⟩:=h.tv
 exact⟨⟨cs,h1.drew⟩,h.keep.drew⟩
theorem TF.setN {G:Nat→Option Kd} {base:Nat} {w0 w:World} {T g m c n:Nat} (h:TF G base w0 T g m c n w) {i:Nat} (hi:i<m) (y:Int):TF G base w0 T g m c n (w.setCell ⟨g,i*4,none⟩ (.int .i64 y)):=by
 obtain⟨cs,h1⟩:=h.tv
 exact⟨⟨_,h1.setN hi y⟩,h.keep.setCell (p:=⟨g,i*4,none⟩) (.inl h1.tnN) _⟩
theorem tfill_any (G:Nat→Option Kd) (base:Nat) (w:World) (T n:Nat) (hF:Fits G base w) (hT:G T=some (.tree n)) (hn:0<n):
 Calls Tryz.prog 97 #[.pointer (some ⟨T,0,none⟩)] w (TnP G base w):=by
 obtain⟨g,m,c,fr,cs,hv⟩:=hF.tree hT (by omega)
 have hnm:=hv.nm
 have hmc:=hv.mc
 have hm39:=hv.m39
 have HV:=hid hv
 have t2:=hv.bt.cell 2
 have f2:=hv.bt.frozen 2
 have hlt:=hv.bt.lt
 cases fr with
 |true=>
  have HZ:=hid (show TnP G base w (.returned (.tuple #[])) w from⟨rfl,hF,Keep.refl _ _⟩)
  clear hv hF hT
  go_enter Tryz.func97,Tryz.ntmps97
  go_wp2_with fail
  refine bodyPost_ret (results_none rfl _ _ _) rfl ?_
  exact HZ.out
 |false=>
  have HF0:=hid (show TF G base w T g m c n (w.setCell ⟨T,2,none⟩ (.bool true))from⟨⟨cs,hv.setF true⟩,(Keep.refl _ w).setCell (p:=⟨T,2,none⟩) (.inl hv.tnT) _⟩)
  have HB:=hid (hv.setF true).bt
  clear hv hF hT
  go_enter Tryz.func97,Tryz.ntmps97
  go_upto_region 2 with fail
  generalize w.setCell ⟨T,2,none⟩ (.bool true)=w1 at*
  have u1:=HB.out.cell 1
  go_wp2_with fail
  go_loopw [2] (fun v wr=> ∃i:Nat,i≤m∧v=.int .i64 i∧Hid (TF G base w T g m c n wr)) (fun v _=>m-(intOf v).toNat)
  case atStart=>exact⟨n,by omega,rfl,HF0⟩
  case round=>
   clear HF0 HB u1
   obtain⟨i,hi,rfl,HF⟩:=hrel
   obtain⟨cs,hv⟩:=HF.out.tv
   have t0:=hv.bt.cell 0
   by_cases him:i<m
   · obtain⟨N,L,u,s,c0,_⟩:=hv.ok.2 i him
     have n0:wr.cell? ⟨g,i*4,none⟩=some (.int .i64 N):=by rw [hv.bn.cell];exact c0
     have fn:=hv.bn.frozen (i*4)
     have HN:=hid (HF.out.setN him 4611686018427387904)
     clear hv c0
     go_wp2_with fail
     go_roundw
     case rel=>exact⟨i+1,by omega,by go_num,HN⟩
     case measure=>simp [intOf]<;>omega
   · obtain rfl:i=m:=by omega
     clear hv
     go_wp2_with fail
     go_loopw [3] (fun v wr=> ∃j:Nat,j≤i∧v=.int .i64 j∧Hid (TF G base w T g i c n wr)) (fun v _=>i-(intOf v).toNat)
     case atStart=>exact⟨0,by omega,rfl,HF⟩
     case round=>
      clear HF t0
      obtain⟨j,hj,rfl,HF⟩:=hrel
      obtain⟨cs,hv⟩:=HF.out.tv
      have t0:=hv.bt.cell 0
      by_cases hji:j<i
      · obtain⟨N,L,u,s,c0,c1,c2,c3,_,hu⟩:=hv.ok.2 j hji
        have n3:wr.cell? ⟨g,j*4+3,none⟩=some (.int .i64 u):=by rw [hv.bn.cell];exact c3
        rcases hu with rfl|⟨hu1,hu2⟩
        · clear hv c0 c1 c2 c3
          go_wp2_with fail
          go_roundw
          case rel=>exact⟨j+1,by omega,by go_num,HF⟩
          case measure=>simp [intOf]<;>omega
        · obtain⟨q,rfl⟩: ∃q:Nat,u=q:=⟨u.toNat,by omega⟩
          have hqi:q<i:=by omega
          obtain⟨N2,_,_,_,e0,_⟩:=hv.ok.2 q hqi
          have hq0:(0:Int)≤(q:Int):=by omega
          have hj0:(0:Int)≤(j:Int):=by omega
          have hj1:(j:Int)<(i:Int):=by omega
          have hdq:decide ((0:Int)≤(q:Int))=true:=by simp
          have d0:wr.drew.cell? ⟨T,0,none⟩=some (.slice (some ⟨g,0,none⟩) i c):=t0
          have n0:wr.drew.cell? ⟨g,j*4,none⟩=some (.int .i64 N):=by rw [hv.drew.bn.cell];exact c0
          have m0:wr.drew.cell? ⟨g,q*4,none⟩=some (.int .i64 N2):=by rw [hv.drew.bn.cell];exact e0
          have fq:=hv.drew.bn.frozen (q*4)
          have HN:=hid (fun y=>HF.out.drew.setN hqi y)
          clear hv c0 c1 c2 c3 e0
          go_wp2_with fail
          refine At.start (L:=#[false,false,false,false,false,false,false,false,false,false,false,false,false,false,false,false,false,false,false,false,false,false,false,false,false]) (by kernel_rfl) rfl ?_
          refine AtP 0 51 ?_
          refine AtP 1 52 ?_
          refine AtP 2 53 ?_
          refine AtL 3 54 Tryz.underlying176 ?_
          refine AtP 4 55 ?_
          refine AtP 5 56 ?_
          refine AtP 6 57 ?_
          refine AtP 7 58 ?_
          refine AtL 8 59 Tryz.underlying176 ?_
          refine AtP 9 60 ?_
          refine AtP 10 61 ?_
          refine AtP 11 62 ?_
          refine AtL 12 63 Tryz.underlying3 ?_
          refine AtP 13 64 ?_
          refine AtP 14 65 ?_
          refine AtP 15 66 ?_
          refine AtL 16 67 Tryz.underlying176 ?_
          refine AtP 17 68 ?_
          refine AtP 18 69 ?_
          refine AtP 19 70 ?_
          refine AtL 20 71 Tryz.underlying3 ?_
          refine At.min 21 (some 72) rfl rfl (by kernel_rfl) (fun _ _ _ h=>h) rfl rfl rfl rfl ?_
          try simp only [NS]
          refine AtP 22 73 ?_
          refine AtP 23 74 ?_
          refine AtC 24 fun K hK=>?_
          go_simp
          skip
          refine hK _ _ all_nil ?_
          clear hK K
          try simp only [NS]
          refine At.done (by kernel_rfl) ?_
          go_wp2_with fail
          go_roundw
          case rel=>exact⟨j+1,by omega,by go_num,hid (HN.out _)⟩
          case measure=>simp [intOf]<;>omega
      · have HZ:=hid (show TnP G base w (.returned (.tuple #[])) wr from⟨rfl,hv.fits,HF.out.keep⟩)
        clear hv
        go_wp2_with fail
        go_end0
        exact HZ.out
def lenV (v:Value):Nat:=match v with|.slice _ n _=>n|_=>0
def WayP (m:Nat) (w:World) (e:Ending) (w':World):Prop:= ∃(A:Option Addr) (n c:Nat) (zs:List Int),e=.returned (.slice A n c)∧n≤m∧(∀ z∈zs,0≤z∧z<m)∧w'.ownsRow w.heap.size 3 1 (.slice A n c) n (zs.map (Value.int .i64))∧Keep (fun _=>False) w w'
theorem tway_any (G:Nat→Option Kd) (base:Nat) (w:World) (T g m c n k:Nat) (fr:Bool) (cs:Array Value) (hv:Tv G base w T g m c n fr cs) (hk:k<m):
 Calls Tryz.prog 98 #[.pointer (some ⟨T,0,none⟩),.int .i64 k] w (WayP m w):=by
 obtain⟨i0,hi0,hz0,hz1,hz2⟩:=info_parts info_int
 have hmc:=hv.mc
 have hm39:=hv.m39
 have HV:=hid hv
 clear hv
 go_enter Tryz.func98,Tryz.ntmps98
 go_wp2_with fail
 go_loopw [1,5] (fun q l wr=> ∃(A:Option Addr) (r d:Nat) (zs:List Int) (z:Int),l=.slice A r d∧q=.int .i64 z∧r≤m∧(z=-1∨(0≤z∧z<m∧r≤z))∧Hid (∀ z∈zs,0≤z∧z<m)∧Hid (wr.ownsRow w.heap.size 3 1 (.slice A r d) r (zs.map (Value.int .i64)))∧Hid (Keep (fun _=>False) w wr)) (fun _ l _=>m-lenV l)
 case atStart=>exact⟨none,0,0,[],k,rfl,rfl,by omega,.inr ⟨by omega,by omega,by omega⟩,hid (fun _ h=>by cases h),hid (World.ownsRow_nil _ _ _ _),hid (Keep.refl _ _)⟩
 case round=>
  obtain⟨A,r,d,zs,z,rfl,rfl,hr,hz,HL,HO,HK⟩:=hrel
  rcases hz with rfl|⟨hz0',hzm,hrz⟩
  · have HZ:=hid (show WayP m w (.returned (.slice A r d)) wr from⟨A,r,d,zs,rfl,hr,HL.out,HO.out,HK.out⟩)
    go_wp2_with fail
    go_ret
    exact HZ.out
  · obtain⟨q,rfl⟩: ∃q:Nat,z=q:=⟨z.toNat,by omega⟩
    have hqm:q<m:=by omega
    have hb:w.heap.size≤wr.heap.size:=HK.out.size
    have HNW:=hid (own_new wr w.heap.size 3 #[.int .i64 q] 1 rfl (by simp only [maxLen];omega) hb)
    have HRD:=hid ((Rd.of_own HO.out).alloc (.cells #[.int .i64 q] 3))
    have HVR:=hid (HV.out.keepF HK.out)
    obtain⟨N,L,u,s,c0,c1,c2,c3,_,hu⟩:=HVR.out.ok.2 q hqm
    have HC3:=hid c3
    clear c0 c1 c2 c3
    go_wp2_with (
     at_builtin
     go_must (refine wpList_append_src _ rfl (.tmp 9) (.tmp 10) 22 rfl w.heap.size 3 i0 _ 8 Tryz.underlying22 hi0 hz0 hz1 hz2 rfl HNW.out rfl HRD.out rfl (oneCell_ints _ _) (by simp only [maxLen];omega) (by omega) (by simp;omega) ?_)
     intro v2 w2 hown2 hg2 hat2 _hold2
     obtain⟨A2,c2,rfl⟩:=own_form hown2
     have hk2:=keep_append_new rfl hg2
     have HK2:=hid (HK.out.trans hk2 (fun _ _ h=>h))
     have HO2:=hid (show w2.ownsRow w.heap.size 3 1 (.slice A2 (1+r) c2) (1+r) (((q:Int)::zs).map (Value.int .i64))from hown2)
     have HL2:=hid (show∀z∈((q:Int)::zs),0≤z∧z<m from fun z hz=>by
      rcases List.mem_cons.1 hz with rfl|h
      · omega
      · exact HL.out z h)
     have t0:w2.cell? ⟨T,0,none⟩=some (.slice (some ⟨g,0,none⟩) m c):=(HVR.out.keepF hk2).bt.cell 0
     have n3:w2.cell? ⟨g,q*4+3,none⟩=some (.int .i64 u):=by rw [(HVR.out.keepF hk2).bn.cell];exact HC3.out
     clear hown2 hg2 hat2 _hold2 hk2)
    go_roundw
    case rel=>exact⟨A2,1+r,c2,_,u,rfl,rfl,by omega,by omega,HL2,HO2,HK2⟩
    case measure=>
     show m-(1+r)<m-r
     omega
def WSt (G:Nat→Option Kd) (w:World) (b2 W:Nat) (A:Option Addr) (q:Nat):Prop:= ∃n c l r,Bw.RWr w b2 W A n c l r∧BInv l r∧l.length≤q∧G W=none∧(∀ a,A=some a→G a.block=none)
def FW (S:Nat→Prop) (W:Nat) (A:Option Addr) (j:Nat):Prop:=S j∨foot W A j
section
variable {G :Nat→Option Kd} {base:Nat} {w w' w2:World} {b2 W q:Nat} {A A' A2:Option Addr} {S:Nat→Prop}
theorem Fits.none_of (h:Fits G base w) {j:Nat} (hj:w.heap.size≤j):G j=none:=by
 cases e:G j with
 |none=>rfl
 |some k=>have:=(h.at_ j k e).2.1;omega
theorem WSt.keep (h:WSt G w b2 W A q) (hk:Keep S w w') (hS: ∀j,S j→G j≠none):WSt G w' b2 W A q:=by
 obtain⟨n,c,l,r,h1,h2,h3,h4,h5⟩:=h
 exact⟨n,c,l,r,Bw.RW0.keep h1 hk (fun hs=>hS _ hs h4) (fun a e hs=>hS _ hs (h5 a e)),h2,h3,h4,h5⟩
theorem WSt.keepF (h:WSt G w b2 W A q) (hk:Keep (fun _=>False) w w'):WSt G w' b2 W A q:=h.keep hk (fun _ h=>h.elim)
theorem WSt.up (h:WSt G w b2 W A q) {q':Nat} (hq:q≤q'):WSt G w b2 W A q':=by
 obtain⟨n,c,l,r,h1,h2,h3,h4,h5⟩:=h
 exact⟨n,c,l,r,h1,h2,by omega,h4,h5⟩
theorem WSt.footN (h:WSt G w b2 W A q): ∀j,foot W A j→G j=none:=by
 obtain⟨n,c,l,r,h1,h2,h3,h4,h5⟩:=h
 intro j hj
 rcases hj with rfl|⟨a,e,rfl⟩
 · exact h4
 · exact h5 a e
theorem fw_next (hg:Grew w A A') (h1:Keep (FW S W A) w w') (h2:Keep (FW S W A') w' w2):Keep (FW S W A) w w2:=
 h1.trans h2 (fun i hi hf=>by
  rcases hf with hs|rfl|⟨a,e,rfl⟩
  · exact .inl hs
  · exact .inr (.inl rfl)
  · rcases hg a e with⟨a0,e0,h⟩|h
    · exact .inr (.inr ⟨a0,e0,h⟩)
    · omega)
theorem grew_trans (h1:Grew w A A') (h2:Grew w' A' A2) (hs:w.heap.size≤w'.heap.size):Grew w A A2:=fun a e=>by
 rcases h2 a e with⟨a1,e1,h⟩|h
 · rcases h1 a1 e1 with⟨a0,e0,h'⟩|h'
   · exact .inl ⟨a0,e0,by omega⟩
   · exact .inr (by omega)
 · exact .inr (by omega)
end
def WbP (G:Nat→Option Kd) (base:Nat) (S:Nat→Prop) (w:World) (b2 W:Nat) (A:Option Addr) (q:Nat) (e:Ending) (w':World):Prop:=
 ∃A',e=.returned (.tuple #[])∧WSt G w' b2 W A' q∧Fits G base w'∧Grew w A A'∧Keep (FW S W A) w w'
theorem wbit_any (G:Nat→Option Kd) (base:Nat) (S:Nat→Prop) (w:World) (b2 W q:Nat) (A:Option Addr) (x:Int) (h:WSt G w b2 W A q) (hF:Fits G base w) (hb:b2≤w.heap.size) (hq:q≤536870912):
 Calls Tryz.prog 68 #[.pointer (some ⟨W,0,none⟩),.int .i64 x] w (WbP G base S w b2 W A (q+1)):=by
 have hN:=h.footN
 obtain⟨n,c,l,r,h1,h2,h3,h4,h5⟩:=h
 have hl:=Bw.refB_le l r
 have hn:=Bw.RW0.len h1
 refine(Bw.rbit_any w b2 W A n c l r x h1 h2 hb (by omega)).mono ?_
 rintro e w' ⟨A',n',c',rfl,h6,h7,h8⟩
 have hF':=hF.keep h8 hN
 refine⟨A',rfl,⟨n',c',stepL l r x,stepR l r,h6,h2.step x,by have:=stepL_length l r x;omega,h4,fun a e=>?_⟩,hF',h7,h8.mono (fun _ _ h=>.inr h)⟩
 rcases h7 a e with⟨a0,e0,h9⟩|h9
 · rw [← h9];exact h5 a0 e0
 · exact hF.none_of h9
theorem wbits_any (G:Nat→Option Kd) (base:Nat) (S:Nat→Prop) (w:World) (b2 W q:Nat) (A:Option Addr) (x size:Int) (h:WSt G w b2 W A q) (hF:Fits G base w) (hb:b2≤w.heap.size) (hq:q≤536870912):
 Calls Tryz.prog 103 #[.pointer (some ⟨W,0,none⟩),.int .i64 x,.int .i64 size] w (WbP G base S w b2 W A (q+32)):=by
 have hN:=h.footN
 obtain⟨n,c,l,r,h1,h2,h3,h4,h5⟩:=h
 refine(Bw.rbits_any w b2 W A n c l r x size h1 h2 hb (by omega)).mono ?_
 rintro e w' ⟨rfl,A',⟨n',c',h6⟩,h7,h8⟩
 have hF':=hF.keep h8 hN
 refine⟨A',rfl,⟨n',c',_,_,h6,runM_inv _ (l,r) h2,?_,h4,fun a e=>?_⟩,hF',h7,h8.mono (fun _ _ h=>.inr h)⟩
 · have h9:=runM_length (numB x size) (l,r)
   have h10:=numB_le x size
   simp only at h9
   omega
 · rcases h7 a e with⟨a0,e0,h9⟩|h9
   · rw [← h9];exact h5 a0 e0
   · exact hF.none_of h9
structure EnS (G:Nat→Option Kd) (base:Nat) (w0:World) (T g m c n b2 W:Nat) (A0 A:Option Addr) (q:Nat) (w:World):Prop where
 tv: ∃fr cs,Tv G base w T g m c n fr cs
 ws:WSt G w b2 W A q
 gr:Grew w0 A0 A
 keep:Keep (FW (TN G) W A0) w0 w
 hb:b2≤w.heap.size
section
variable {G :Nat→Option Kd} {base:Nat} {w0 w w':World} {T g m c n b2 W q:Nat} {A0 A A':Option Addr}
theorem Fits.tnBlk (h:Fits G base w) {j:Nat} (hj:TN G j):(∃ cs,Blk w j 178 cs)∨ ∃cs,Blk w j 181 cs:=by
 rcases hj with⟨n,e⟩|⟨m,e⟩
 · obtain⟨_,_,A,m,c,fr,h1,_⟩:=h.at_ j _ e
   exact .inl ⟨_,h1⟩
 · obtain⟨_,_,cs,h1,_⟩:=h.at_ j _ e
   exact .inr ⟨_,h1⟩
theorem WSt.blkW (h:WSt G w b2 W A q): ∃cs,Blk w W 174 cs:=by
 obtain⟨n,c,l,r,h1,_⟩:=h
 exact⟨_,h1.blk⟩
theorem WSt.ownA (h:WSt G w b2 W A q): ∃n c xs,w.ownsRow b2 5 1 (.slice A n c) n xs:=by
 obtain⟨n,c,l,r,h1,_⟩:=h
 exact⟨n,c,_,h1.own⟩
theorem fw_row (hF:Fits G base w) (hW:WSt G w b2 W A q) {B size r:Nat} {e:TypeId} {v:Value} {xs:List Value} (ho:w.ownsRow B e size v r xs) (e1:e≠178) (e2:e≠181) (e3:e≠174) (e4:5≠e) (hk:Keep (FW (TN G) W A) w w'):w'.ownsRow B e size v r xs:=by
 refine own_keep ho hk (fun k hk' hs=>?_)
 rcases hs with hs|rfl|⟨a,ea,rfl⟩
 · rcases hF.tnBlk hs with⟨cs,h1⟩|⟨cs,h1⟩
   · exact own_ne ho h1 e1 hk'
   · exact own_ne ho h1 e2 hk'
 · obtain⟨cs,h1⟩:=hW.blkW
   exact own_ne ho h1 e3 hk'
 · obtain⟨n,c,ys,h1⟩:=hW.ownA
   exact own_apart ho h1 e4 _ hk' (by rw [ea];rfl)
theorem fw_blk (hW:WSt G w b2 W A q) {X:Nat} {e:TypeId} {cs:Array Value} (hX:Blk w X e cs) (hG:G X=none) (e3:e≠174) (e4:5≠e) (hk:Keep (FW (TN G) W A) w w'):Blk w' X e cs:=by
 refine hX.keep hk (fun hs=>?_)
 rcases hs with hs|rfl|⟨a,ea,rfl⟩
 · rcases hs with⟨n,e⟩|⟨m,e⟩<;>rw [hG]at e<;>cases e
 · obtain⟨cs',h1⟩:=hW.blkW
   exact Blk.ne_ hX h1 e3 rfl
 · obtain⟨n,c,ys,h1⟩:=hW.ownA
   exact own_ne h1 hX e4 (by rw [ea];rfl)
theorem EnS.aside (h:EnS G base w0 T g m c n b2 W A0 A q w) (hk:Keep (fun _=>False) w w'):EnS G base w0 T g m c n b2 W A0 A q w':=by
 obtain⟨fr,cs,h1⟩:=h.tv
 exact⟨⟨fr,cs,h1.keepF hk⟩,h.ws.keepF hk,h.gr,h.keep.trans hk (fun _ _ h=>h.elim),Nat.le_trans h.hb hk.size⟩
theorem EnS.box (h:EnS G base w0 T g m c n b2 W A0 A q w) {X:Nat} {cs:Array Value} (hX:Blk w X 181 cs) (hG:G X=none) (hn:w0.heap.size≤X) (hk:Keep (fun j=>j=X) w w'):EnS G base w0 T g m c n b2 W A0 A q w':=by
 obtain⟨fr,ns,h1⟩:=h.tv
 have hS: ∀j,(fun j=>j=X) j→G j=none:=fun j e=>by rw [show j=X from e];exact hG
 obtain⟨nn,cc,l,r,a1,a2,a3,a4,a5⟩:=h.ws
 refine⟨⟨fr,ns,h1.keep hk hS⟩,⟨nn,cc,l,r,Bw.RW0.keep a1 hk (fun e=>?_) (fun a ea e=>?_),a2,a3,a4,a5⟩,h.gr,h.keep.trans hk (fun i hi e=>by have:i=X:=e;omega),Nat.le_trans h.hb hk.size⟩
 · have e':W=X:=e
   subst e'
   exact Blk.ne_ hX a1.blk (by decide) rfl
 · have e':a.block=X:=e
   exact own_ne a1.own hX (by decide) (by rw [ea,←e'];rfl)
theorem EnS.bit (h:EnS G base w0 T g m c n b2 W A0 A q w) (hF:Fits G base w') (hW:WSt G w' b2 W A' (q+1)) (hg:Grew w A A') (hk:Keep (FW (fun _=>False) W A) w w'):EnS G base w0 T g m c n b2 W A0 A' (q+1) w':=by
 obtain⟨fr,cs,h1⟩:=h.tv
 have hN:=h.ws.footN
 refine⟨⟨fr,cs,h1.keep hk (fun j hj=>by rcases hj with hj|hj;exact hj.elim;exact hN j hj)⟩,hW,grew_trans h.gr hg h.keep.size,?_,Nat.le_trans h.hb hk.size⟩
 exact fw_next h.gr h.keep (hk.mono (fun i _ hi=>by rcases hi with hi|hi;exact hi.elim;exact .inr hi))
theorem EnS.node (h:EnS G base w0 T g m c n b2 W A0 A q w) {i:Nat} (hi:i<m) (N L u:Int) (s:Bool) (hL:0≤L) (hu:u=-1∨((i:Int)<u∧u<m)) (hw:w'=((((w.setCell ⟨g,i*4,none⟩ (.int .i64 N)).setCell ⟨g,i*4+1,none⟩ (.int .i64 L)).setCell ⟨g,i*4+2,none⟩ (.bool s)).setCell ⟨g,i*4+3,none⟩ (.int .i64 u)).drew):EnS G base w0 T g m c n b2 W A0 A q w':=by
 obtain⟨fr,cs,h1⟩:=h.tv
 have hb:Blk w' g 181 (setL cs (i*4) [.int .i64 N,.int .i64 L,.bool s,.int .i64 u]):=by
  rw [hw]
  exact((((h1.bn.set_ _ _).set_ _ _).set_ _ _).set_ _ _).drew
 have hk:Keep (fun j=>j=g) w w':=by
  rw [hw]
  exact((((Keep.refl _ w).setR (R:=g) _ _).setR _ _).setR _ _).setR _ _ |>.drew
 refine⟨⟨fr,_,h1.nodes hk hb (h1.ok.setRow hi N L u s hL hu)⟩,?_,h.gr,h.keep.trans hk (fun j _ e=>.inl (by rw [show j=g from e];exact h1.tnN)),Nat.le_trans h.hb hk.size⟩
 exact h.ws.keep hk (fun j e=>by rw [show j=g from e,h1.gn];simp)
end
def farE (b:Int) (X:Nat) (w:World):Nat:=match w.cell? ⟨X,1,none⟩,w.cell? ⟨X,2,none⟩with
 |some (.int _ L),some (.bool s)=>(b-L).toNat+(if s then 0 else 1)
 |_,_=>0
theorem farE_of {b:Int} {X:Nat} {w:World} {N L u:Int} {s:Bool} (h:Blk w X 181 #[.int .i64 N,.int .i64 L,.bool s,.int .i64 u]):farE b X w=(b-L).toNat+(if s then 0 else 1):=by
 have h1:w.cell? ⟨X,1,none⟩=some (.int .i64 L):=h.cell 1
 have h2:w.cell? ⟨X,2,none⟩=some (.bool s):=h.cell 2
 unfold farE
 rw [h1,h2]
theorem tenc_any (G:Nat→Option Kd) (base:Nat) (w:World) (T n k b2 W q0:Nat) (A0:Option Addr) (bd:Nat) (hF:Fits G base w) (hT:G T=some (.tree n)) (hk:k<n) (hW:WSt G w b2 W A0 q0) (hb2:b2≤w.heap.size) (hq:q0≤268435456) (hbd:bd≤40):
 Calls Tryz.prog 70 #[.pointer (some ⟨T,0,none⟩),.pointer (some ⟨W,0,none⟩),.int .i64 k,.int .i64 bd] w (WbP G base (TN G) w b2 W A0 (q0+39*(bd+1))):=by
 obtain⟨g0,m0,c0,fr0,cs0,hv0⟩:=hF.tree hT (by omega)
 have t1:=hv0.bt.cell 1
 have hd:decide ((k:Int)<n)=true:=by simp;omega
 have HF:=hid hF
 have HW:=hid hW
 have HT:=hid hT
 clear hF hW hv0 hT
 go_enter Tryz.func70,Tryz.ntmps70
 go_wp2_with fail
 refine(tfill_any G base w T n HF.out HT.out (by omega)).mono ?_
 rintro e w1 ⟨rfl,hF1,hk1⟩
 obtain⟨g,m,c,fr,cs,hv⟩:=hF1.tree HT.out (by omega)
 have hnm:=hv.nm
 have hmc:=hv.mc
 have hm39:=hv.m39
 have HV1:=hid hv
 have HW1:=hid (HW.out.keep hk1 (fun j hj e=>by rcases hj with⟨_,h⟩|⟨_,h⟩<;>rw [e]at h<;>cases h))
 have HK1:=hid hk1
 clear hF1 hk1 hv t1
 go_wp2_with fail
 refine(tway_any G base w1 T g m c n k fr cs HV1.out (by omega)).mono ?_
 rintro e w2 ⟨V,r,d,zs,rfl,hrm,hzs,hvo,hk2⟩
 have HE0:=hid (show EnS G base w T g m c n b2 W A0 A0 q0 w2 from⟨⟨fr,cs,HV1.out.keepF hk2⟩,HW1.out.keepF hk2,Grew.refl _ _,(HK1.out.mono (fun _ _ h=>.inl h)).trans hk2 (fun _ _ h=>h.elim),by have:=HK1.out.size;have:=hk2.size;omega⟩)
 have HV0:=hid hvo
 have HVB:=hid (own_mono hvo HK1.out.size)
 have HZS:=hid hzs
 have hrd:r≤d:=own_cap hvo
 have HVL:=hid (RdS.of_own hvo).1
 have HVC:=hid (show∀wz:World,wz.ownsRow w1.heap.size 3 1 (.slice V r d) r (zs.map (Value.int .i64))→ ∀i:Nat,i<r→ ∃(z bV:Nat),zs[i]? =some (z:Int)∧z<m∧V=some ⟨bV,0,none⟩∧wz.cell? ⟨bV,i,none⟩=some (.int .i64 (z:Int))from fun wz ho i hi=>by
  obtain⟨bV,e,_,_,hc,_⟩:=own_at ho (by omega)
  have hl:zs.length=r:=by have:=ho.1;simpa using this
  have hz:=hzs zs[i] (List.getElem_mem (by omega))
  refine⟨zs[i].toNat,bV,by rw [List.getElem?_eq_getElem (by omega)];congr 1;omega,by omega,e,?_⟩
  refine hc i _ ?_
  rw [List.getElem?_map,List.getElem?_eq_getElem (by omega)]
  show some (Value.int .i64 zs[i])=_
  congr 2
  omega)
 clear hzs hvo hk2 HV1 HW1 HK1 HF HW HVB
 go_wp2_with fail
 go_loopw [9,10] (fun lw v wr=> ∃(i:Nat) (low:Int) (A:Option Addr) (q:Nat),i≤r∧lw=.int .i64 low∧v=.int .i64 i∧Hid (q≤q0+i*(bd+1))∧Hid (EnS G base w T g m c n b2 W A0 A q wr)∧Hid (wr.ownsRow w1.heap.size 3 1 (.slice V r d) r (zs.map (Value.int .i64)))) (fun _ v _=>r-(intOf v).toNat)
 case atStart=>exact⟨0,0,A0,q0,by omega,rfl,rfl,hid (by omega),HE0,HV0⟩
 case round=>
  clear HE0 HV0
  obtain⟨i,low,A,q,hi,rfl,rfl,HQ0,HE,HV⟩:=hrel
  by_cases hir:i<r
  · obtain⟨z,bV,hzi,hzm,hVe,hcV⟩:=HVC.out wr HV.out i hir
    obtain⟨fr',ns,hv⟩:=HE.out.tv
    obtain⟨N1,L0,u1,s1,e0,e1,e2,e3,hL0,hu⟩:=hv.ok.2 z hzm
    have t0:wr.cell? ⟨T,0,none⟩=some (.slice (some ⟨g,0,none⟩) m c):=hv.bt.cell 0
    have c0:wr.cell? ⟨g,z*4,none⟩=some (.int .i64 N1):=by rw [hv.bn.cell];exact e0
    have c1:wr.cell? ⟨g,z*4+1,none⟩=some (.int .i64 L0):=by rw [hv.bn.cell];exact e1
    have c2:wr.cell? ⟨g,z*4+2,none⟩=some (.bool s1):=by rw [hv.bn.cell];exact e2
    have c3:wr.cell? ⟨g,z*4+3,none⟩=some (.int .i64 u1):=by rw [hv.bn.cell];exact e3
    have HU:=hid hu
    have HZI:=hid hzi
    have HFT:=hid hv.fits
    have HVC2:=hid (show∀wz:World,wz.ownsRow w1.heap.size 3 1 (.slice V r d) r (zs.map (Value.int .i64))→ ∃bV:Nat,V=some ⟨bV,0,none⟩∧wz.cell? ⟨bV,i,none⟩=some (.int .i64 (z:Int))from fun wz ho=>by
     obtain⟨z',bV',h1,_,h2,h3⟩:=HVC.out wz ho i hir
     rw [HZI.out]at h1
     injection h1 with h1
     exact⟨bV',h2,by rw [h1];exact h3⟩)
    have HVE:=hid hVe
    have hz00:(0:Int)≤(z:Int):=by omega
    have hzc:(z:Int)<(m:Int):=by omega
    have hi00:(0:Int)≤(i:Int):=by omega
    have hi01:(i:Int)<(r:Int):=by omega
    have HKD:=hid (((Keep.refl (fun _=>False) wr).alloc (.cells #[.int .i64 0,.int .i64 0,.bool false,.int .i64 0] 181)).drew)
    clear hv e0 e1 e2 e3 hu hzi
    subst hVe
    clear HVC
    go_wp2_with fail
    refine At.start (L:=#[false,false,false,false,false,false,false,false,false,false,false,false]) (by kernel_rfl) rfl ?_
    refine AtP 0 33 ?_
    refine AtP 1 34 ?_
    refine AtP 2 35 ?_
    refine At.read 3 (some 36) (fun w'=>w'.cell? ⟨T,0,none⟩=some (.slice (some ⟨g,0,none⟩) m c)) (v:=?v3) rfl rfl (by kernel_rfl) (fun _ _ _ h=>h) rfl t0 (fun w' hw'=>?y3) ?_
    case y3=>skip;go_simp;try with_reducible rfl
    try simp only [NS]
    refine AtP 4 37 ?_
    refine AtP 5 38 ?_
    refine AtP 6 39 ?_
    refine At.read 7 (some 40) (fun w'=>w'.cell? ⟨bV,i,none⟩=some (.int .i64 z)) (v:=?v7) rfl rfl (by kernel_rfl) (fun _ _ _ h=>h) rfl hcV (fun w' hw'=>?y7) ?_
    case y7=>skip;go_simp;try with_reducible rfl
    try simp only [NS]
    refine AtP 8 41 ?_
    refine At.read 9 (some 42) (fun w'=>w'.cell? ⟨g,z*4,none⟩=some (.int .i64 N1)∧w'.cell? ⟨g,z*4+1,none⟩=some (.int .i64 L0)∧w'.cell? ⟨g,z*4+2,none⟩=some (.bool s1)∧w'.cell? ⟨g,z*4+3,none⟩=some (.int .i64 u1)) (v:=(.agg #[.int .i64 N1,.int .i64 L0,.bool s1,.int .i64 u1])) rfl rfl (by kernel_rfl) (fun _ _ _ h=>h) rfl ⟨c0,c1,c2,c3⟩ (fun w' hw'=>?y9) ?_
    case y9=>obtain⟨h1,h2,h3,h4⟩:=hw';go_simp;try with_reducible rfl
    try simp only [NS]
    refine At.call 10 (pend':=[(9,(fun w'=>w'.cell? ⟨g,z*4,none⟩=some (.int .i64 N1)∧w'.cell? ⟨g,z*4+1,none⟩=some (.int .i64 L0)∧w'.cell? ⟨g,z*4+2,none⟩=some (.bool s1)∧w'.cell? ⟨g,z*4+3,none⟩=some (.int .i64 u1))),(7,(fun w'=>w'.cell? ⟨bV,i,none⟩=some (.int .i64 z))),(3,(fun w'=>w'.cell? ⟨T,0,none⟩=some (.slice (some ⟨g,0,none⟩) m c)))]) rfl (by kernel_rfl) rfl (by kernel_rfl) (fun K hK=>?_)
    go_simp
    refine hK _ _ (all_cons ⟨HKD.out.cell c0 (fun h=>h),HKD.out.cell c1 (fun h=>h),HKD.out.cell c2 (fun h=>h),HKD.out.cell c3 (fun h=>h)⟩ (all_cons (HKD.out.cell hcV (fun h=>h)) (all_cons (HKD.out.cell t0 (fun h=>h)) all_nil))) ?_
    clear hK K
    try simp only [NS]
    refine AtC 11 fun K hK=>?_
    go_simp
    refine hK _ _ all_nil ?_
    clear hK K
    try simp only [NS]
    refine At.done (by kernel_rfl) ?_
    have HKB:=hid (((Keep.refl (fun _=>False) wr).alloc (.cells #[.int .i64 N1,.int .i64 L0,.bool s1,.int .i64 u1] 181)).drew)
    have HBB:=hid ((Blk.new wr 181 #[.int .i64 N1,.int .i64 L0,.bool s1,.int .i64 u1]).drew)
    have HEB:=hid (HE.out.aside HKB.out)
    have HVB:=hid (own_keepF HV.out HKB.out)
    have HGX:=hid (HFT.out.none_of (Nat.le_refl _))
    have hXw:w.heap.size≤wr.heap.size:=HE.out.keep.size
    clear HKB HKD HE HV t0 hcV c0 c1 c2 c3 HFT
    generalize (wr.alloc (.cells #[.int .i64 N1,.int .i64 L0,.bool s1,.int .i64 u1] 181)).drew=wb at*
    generalize wr.heap.size=XB at*
    have b1:wb.cell? ⟨XB,1,none⟩=some (.int .i64 L0):=HBB.out.cell 1
    have f1:=HBB.out.frozen 1
    go_wp2_with (first|refine wpList_max rfl _ _ _ rfl _ _ rfl rfl ?_|refine wpList_min rfl _ _ _ rfl _ _ rfl rfl ?_)
    have hM0:0≤max L0 low:=by omega
    have hks:Keep (fun a=>a=XB) wb (wb.setCell ⟨XB,1,none⟩ (.int .i64 (max L0 low))):=Keep.set1 wb XB 1 _
    have HE1:=hid (HEB.out.box HBB.out HGX.out hXw hks)
    have HV1:=hid (own_keep HVB.out hks (fun k e1 e2=>own_ne HVB.out HBB.out (by decide) (by rw [e1,e2])))
    have HB1:Hid (Blk (wb.setCell ⟨XB,1,none⟩ (.int .i64 (max L0 low))) XB 181 #[.int .i64 N1,.int .i64 (max L0 low),.bool s1,.int .i64 u1]):=hid (HBB.out.set_ 1 _)
    clear HEB HVB HBB b1 f1 hks
    generalize wb.setCell ⟨XB,1,none⟩ (.int .i64 (max L0 low))=w3 at*
    generalize max L0 low=L2 at*
    go_loopw [] (fun wr=> ∃(L1:Int) (s:Bool) (A:Option Addr) (qq:Nat),Hid (EnS G base w T g m c n b2 W A0 A qq wr)∧Hid (Blk wr XB 181 #[.int .i64 N1,.int .i64 L1,.bool s,.int .i64 u1])∧Hid (wr.ownsRow w1.heap.size 3 1 (.slice (some ⟨bV,0,none⟩) r d) r (zs.map (Value.int .i64)))∧Hid (0≤L1∧qq+(if s then 0 else((bd:Int)-L1).toNat+1)≤q+(bd+1))) (fun wr=>farE bd XB wr)
    case atStart=>exact⟨L2,s1,A,q,HE1,HB1,HV1,hid ⟨hM0,by split<;>omega⟩⟩
    case round=>
     clear HE1 HB1 HV1
     obtain⟨L1,sd,A,qq,HE,HB,HV,HQ1⟩:=hrel
     have b0:wr.cell? ⟨XB,0,none⟩=some (.int .i64 N1):=HB.out.cell 0
     have b1:wr.cell? ⟨XB,1,none⟩=some (.int .i64 L1):=HB.out.cell 1
     have b2c:wr.cell? ⟨XB,2,none⟩=some (.bool sd):=HB.out.cell 2
     have hL1:0≤L1:=HQ1.out.1
     have hfar:=farE_of (b:=bd) HB.out
     have hqq:qq≤268435456+39*41+41:=by
      have h1:=HQ1.out.2
      have h2:=HQ0.out
      have h3:i*(bd+1)≤39*41:=Nat.mul_le_mul (by omega) (by omega)
      omega
     have HFIT:=hid (show Fits G base wr from by obtain⟨_,_,h⟩:=HE.out.tv;exact h.fits)
     by_cases hlb:L1<bd
     · cases sd with
       |false=>
        have hQ2:qq+((bd:Int)-L1).toNat+1≤q+(bd+1):=by have h1:=HQ1.out.2;simp only [Bool.false_eq_true,if_false]at h1;omega
        by_cases hN:L1=N1
        · have hNe:(L1==N1)=true:=by simpa using hN
          go_wp2_with fail
          refine(wbit_any G base (fun _=>False) wr b2 W qq A 1 HE.out.ws HFIT.out HE.out.hb (by omega)).mono ?_
          rintro e w4 ⟨A4,rfl,hW4,hF4,hg4,hk4⟩
          have hk4':Keep (FW (TN G) W A) wr w4:=hk4.mono (fun i _ hi=>by rcases hi with hi|hi;exact hi.elim;exact .inr hi)
          have HE4:=hid (HE.out.bit hF4 hW4 hg4 hk4)
          have HB4:=hid (fw_blk HE.out.ws HB.out HGX.out (by decide) (by decide) hk4')
          have HV4:=hid (fw_row HFIT.out HE.out.ws HV.out (by decide) (by decide) (by decide) (by decide) hk4')
          have d0:w4.cell? ⟨XB,0,none⟩=some (.int .i64 N1):=HB4.out.cell 0
          have d1:w4.cell? ⟨XB,1,none⟩=some (.int .i64 L1):=HB4.out.cell 1
          have d2:w4.cell? ⟨XB,2,none⟩=some (.bool false):=HB4.out.cell 2
          have g1:=HB4.out.frozen 1
          have g2:=HB4.out.frozen 2
          clear hW4 hF4 hg4 hk4 hk4' HE HB HV b0 b1 b2c HFIT
          have hks:Keep (fun a=>a=XB) w4 (w4.setCell ⟨XB,2,none⟩ (.bool true)):=Keep.set1 w4 XB 2 _
          have HE5:=hid (HE4.out.box HB4.out HGX.out hXw hks)
          have HV5:=hid (own_keep HV4.out hks (fun k e1 e2=>own_ne HV4.out HB4.out (by decide) (by rw [e1,e2])))
          have HB5:Hid (Blk (w4.setCell ⟨XB,2,none⟩ (.bool true)) XB 181 #[.int .i64 N1,.int .i64 L1,.bool true,.int .i64 u1]):=hid (HB4.out.set_ 2 _)
          have HFAR:=hid (show farE bd XB (w4.setCell ⟨XB,2,none⟩ (.bool true))<farE bd XB wr from by
           rw [farE_of HB5.out,hfar]
           first|(simp only [if_true,Bool.false_eq_true,if_false];omega)|omega)
          clear hks HE4 HV4 HB4 hfar hNe hN
          go_wp2_with fail
          exact⟨⟨L1,true,A4,qq+1,HE5,HB5,HV5,hid ⟨hL1,by simp only [if_true];omega⟩⟩,HFAR.out⟩
        · have hNe:(L1==N1)=false:=by simpa using hN
          go_wp2_with fail
          refine(wbit_any G base (fun _=>False) wr b2 W qq A 0 HE.out.ws HFIT.out HE.out.hb (by omega)).mono ?_
          rintro e w4 ⟨A4,rfl,hW4,hF4,hg4,hk4⟩
          have hk4':Keep (FW (TN G) W A) wr w4:=hk4.mono (fun i _ hi=>by rcases hi with hi|hi;exact hi.elim;exact .inr hi)
          have HE4:=hid (HE.out.bit hF4 hW4 hg4 hk4)
          have HB4:=hid (fw_blk HE.out.ws HB.out HGX.out (by decide) (by decide) hk4')
          have HV4:=hid (fw_row HFIT.out HE.out.ws HV.out (by decide) (by decide) (by decide) (by decide) hk4')
          have d0:w4.cell? ⟨XB,0,none⟩=some (.int .i64 N1):=HB4.out.cell 0
          have d1:w4.cell? ⟨XB,1,none⟩=some (.int .i64 L1):=HB4.out.cell 1
          have d2:w4.cell? ⟨XB,2,none⟩=some (.bool false):=HB4.out.cell 2
          have g1:=HB4.out.frozen 1
          have g2:=HB4.out.frozen 2
          clear hW4 hF4 hg4 hk4 hk4' HE HB HV b0 b1 b2c HFIT
          have hks:Keep (fun a=>a=XB) w4 (w4.setCell ⟨XB,1,none⟩ (.int .i64 (L1+1))):=Keep.set1 w4 XB 1 _
          have HE5:=hid (HE4.out.box HB4.out HGX.out hXw hks)
          have HV5:=hid (own_keep HV4.out hks (fun k e1 e2=>own_ne HV4.out HB4.out (by decide) (by rw [e1,e2])))
          have HB5:Hid (Blk (w4.setCell ⟨XB,1,none⟩ (.int .i64 (L1+1))) XB 181 #[.int .i64 N1,.int .i64 (L1+1),.bool false,.int .i64 u1]):=hid (HB4.out.set_ 1 _)
          have HFAR:=hid (show farE bd XB (w4.setCell ⟨XB,1,none⟩ (.int .i64 (L1+1)))<farE bd XB wr from by
           rw [farE_of HB5.out,hfar]
           first|(simp only [if_true,Bool.false_eq_true,if_false];omega)|omega)
          clear hks HE4 HV4 HB4 hfar hNe hN
          go_wp2_with fail
          exact⟨⟨L1+1,false,A4,qq+1,HE5,HB5,HV5,hid ⟨by omega,by simp only [Bool.false_eq_true,if_false];omega⟩⟩,HFAR.out⟩
       |true=>
        have hu9:=HU.out
        have HEN:=hid (fun w' hw=>HE.out.node (i:=z) (w':=w') hzm N1 L1 u1 true hL1 hu9 hw)
        have b3:wr.cell? ⟨XB,3,none⟩=some (.int .i64 u1):=HB.out.cell 3
        obtain⟨fr,ns,hv⟩:=HE.out.tv
        have tt0:wr.cell? ⟨T,0,none⟩=some (.slice (some ⟨g,0,none⟩) m c):=hv.bt.cell 0
        obtain⟨bV',hVe,hcV⟩:=HVC2.out wr HV.out
        injection hVe with hVe
        injection hVe with hVe
        subst hVe
        obtain⟨x0,x1,x2,x3,e0,e1,e2,e3,_,_⟩:=hv.ok.2 z hzm
        have c0:wr.cell? ⟨g,z*4,none⟩=some (.int .i64 x0):=by rw [hv.bn.cell];exact e0
        have c1:wr.cell? ⟨g,z*4+1,none⟩=some (.int .i64 x1):=by rw [hv.bn.cell];exact e1
        have c2:wr.cell? ⟨g,z*4+2,none⟩=some (.bool x3):=by rw [hv.bn.cell];exact e2
        have c3:wr.cell? ⟨g,z*4+3,none⟩=some (.int .i64 x2):=by rw [hv.bn.cell];exact e3
        have z0:=hv.bn.frozen (z*4)
        have z1:=hv.bn.frozen (z*4+1)
        have z2:=hv.bn.frozen (z*4+2)
        have z3:=hv.bn.frozen (z*4+3)
        have hXg: ¬XB=g:=fun e=>by have h1:=hv.gn;rw [← e,HGX.out]at h1;cases h1
        have HGK:=hid (show Keep (fun a=>a=g) wr ((((wr.setCell ⟨g,z*4,none⟩ (.int .i64 N1)).setCell ⟨g,z*4+1,none⟩ (.int .i64 L1)).setCell ⟨g,z*4+2,none⟩ (.bool true)).setCell ⟨g,z*4+3,none⟩ (.int .i64 u1)).drew from((((Keep.refl _ wr).setR (R:=g) _ _).setR _ _).setR _ _).setR _ _ |>.drew)
        have HE9:=hid (HGK.out.cell b1 hXg)
        have HV9:=hid (own_keep HV.out HGK.out (fun k e1 e2=>own_ne HV.out hv.bn (by decide) (by rw [e1,e2])))
        have HES:=hid (HEN.out _ rfl)
        have hzc:(z:Int)<(m:Int):=by omega
        have hz00:(0:Int)≤(z:Int):=by omega
        have hi00:(0:Int)≤(i:Int):=by omega
        have hi01:(i:Int)<(r:Int):=by omega
        clear hv e0 e1 e2 e3 hfar hu9
        go_wp2_with fail
        refine At.start (L:=#[false,false,false,false,false,false,false,false,false,false,false]) (by kernel_rfl) rfl ?_
        refine AtP 0 71 ?_
        refine AtP 1 72 ?_
        refine AtP 2 73 ?_
        refine At.read 3 (some 74) (fun w'=>w'.cell? ⟨T,0,none⟩=some (.slice (some ⟨g,0,none⟩) m c)) (v:=?v3u) rfl rfl (by kernel_rfl) (fun _ _ _ h=>h) rfl tt0 (fun w' hw'=>?y3u) ?_
        case y3u=>skip;go_simp;try with_reducible rfl
        try simp only [NS]
        refine AtP 4 75 ?_
        refine AtP 5 76 ?_
        refine AtP 6 77 ?_
        refine At.read 7 (some 78) (fun w'=>w'.cell? ⟨bV,i,none⟩=some (.int .i64 z)) (v:=?v7u) rfl rfl (by kernel_rfl) (fun _ _ _ h=>h) rfl hcV (fun w' hw'=>?y7u) ?_
        case y7u=>skip;go_simp;try with_reducible rfl
        try simp only [NS]
        refine At.read 8 (some 79) (fun w'=>w'.cell? ⟨XB,0,none⟩=some (.int .i64 N1)∧w'.cell? ⟨XB,1,none⟩=some (.int .i64 L1)∧w'.cell? ⟨XB,2,none⟩=some (.bool true)∧w'.cell? ⟨XB,3,none⟩=some (.int .i64 u1)) (v:=(.agg #[.int .i64 N1,.int .i64 L1,.bool true,.int .i64 u1])) rfl rfl (by kernel_rfl) (fun _ _ _ h=>h) rfl ⟨b0,b1,b2c,b3⟩ (fun w' hw'=>?y8u) ?_
        case y8u=>obtain⟨h1,h2,h3,h4⟩:=hw';go_simp;try with_reducible rfl
        try simp only [NS]
        refine AtP 9 80 ?_
        refine AtC 10 fun K hK=>?_
        go_simp
        refine hK _ _ all_nil ?_
        clear hK K
        try simp only [NS]
        refine At.done (by kernel_rfl) ?_
        clear HGK HE HV HB b0 b1 b2c b3 tt0 hcV c0 c1 c2 c3 z0 z1 z2 z3 HEN
        generalize ((((wr.setCell ⟨g,z*4,none⟩ (.int .i64 N1)).setCell ⟨g,z*4+1,none⟩ (.int .i64 L1)).setCell ⟨g,z*4+2,none⟩ (.bool true)).setCell ⟨g,z*4+3,none⟩ (.int .i64 u1)).drew=w9 at*
        have e9:=HE9.out
        have hQ:qq≤q0+i*(bd+1)+(bd+1):=by
         have h1:=HQ1.out.2
         have h2:=HQ0.out
         omega
        clear HE9
        go_wp2_with fail
        go_roundw
        case rel=>
         first
         |exact⟨i+1,L1,_,_,by omega,rfl,by go_num,hid (by rw [Nat.add_mul,Nat.one_mul];omega),HES,HV9⟩
         |((repeat apply Exists.intro);refine⟨?_,rfl⟩;exact⟨i+1,L1,_,_,by omega,rfl,by go_num,hid (by rw [Nat.add_mul,Nat.one_mul];omega),HES,HV9⟩)
        case measure=>simp [intOf];omega
     · have hlb:(bd:Int)≤L1:=by omega
       have hu9:=HU.out
       have HEN:=hid (fun w' hw=>HE.out.node (i:=z) (w':=w') hzm N1 L1 u1 sd hL1 hu9 hw)
       have b3:wr.cell? ⟨XB,3,none⟩=some (.int .i64 u1):=HB.out.cell 3
       obtain⟨fr,ns,hv⟩:=HE.out.tv
       have tt0:wr.cell? ⟨T,0,none⟩=some (.slice (some ⟨g,0,none⟩) m c):=hv.bt.cell 0
       obtain⟨bV',hVe,hcV⟩:=HVC2.out wr HV.out
       injection hVe with hVe
       injection hVe with hVe
       subst hVe
       obtain⟨x0,x1,x2,x3,e0,e1,e2,e3,_,_⟩:=hv.ok.2 z hzm
       have c0:wr.cell? ⟨g,z*4,none⟩=some (.int .i64 x0):=by rw [hv.bn.cell];exact e0
       have c1:wr.cell? ⟨g,z*4+1,none⟩=some (.int .i64 x1):=by rw [hv.bn.cell];exact e1
       have c2:wr.cell? ⟨g,z*4+2,none⟩=some (.bool x3):=by rw [hv.bn.cell];exact e2
       have c3:wr.cell? ⟨g,z*4+3,none⟩=some (.int .i64 x2):=by rw [hv.bn.cell];exact e3
       have z0:=hv.bn.frozen (z*4)
       have z1:=hv.bn.frozen (z*4+1)
       have z2:=hv.bn.frozen (z*4+2)
       have z3:=hv.bn.frozen (z*4+3)
       have hXg: ¬XB=g:=fun e=>by have h1:=hv.gn;rw [← e,HGX.out]at h1;cases h1
       have HGK:=hid (show Keep (fun a=>a=g) wr ((((wr.setCell ⟨g,z*4,none⟩ (.int .i64 N1)).setCell ⟨g,z*4+1,none⟩ (.int .i64 L1)).setCell ⟨g,z*4+2,none⟩ (.bool sd)).setCell ⟨g,z*4+3,none⟩ (.int .i64 u1)).drew from((((Keep.refl _ wr).setR (R:=g) _ _).setR _ _).setR _ _).setR _ _ |>.drew)
       have HE9:=hid (HGK.out.cell b1 hXg)
       have HV9:=hid (own_keep HV.out HGK.out (fun k e1 e2=>own_ne HV.out hv.bn (by decide) (by rw [e1,e2])))
       have HES:=hid (HEN.out _ rfl)
       have hzc:(z:Int)<(m:Int):=by omega
       have hz00:(0:Int)≤(z:Int):=by omega
       have hi00:(0:Int)≤(i:Int):=by omega
       have hi01:(i:Int)<(r:Int):=by omega
       clear hv e0 e1 e2 e3 hfar hu9
       go_wp2_with fail
       refine At.start (L:=#[false,false,false,false,false,false,false,false,false,false,false]) (by kernel_rfl) rfl ?_
       refine AtP 0 71 ?_
       refine AtP 1 72 ?_
       refine AtP 2 73 ?_
       refine At.read 3 (some 74) (fun w'=>w'.cell? ⟨T,0,none⟩=some (.slice (some ⟨g,0,none⟩) m c)) (v:=?v3v) rfl rfl (by kernel_rfl) (fun _ _ _ h=>h) rfl tt0 (fun w' hw'=>?y3v) ?_
       case y3v=>skip;go_simp;try with_reducible rfl
       try simp only [NS]
       refine AtP 4 75 ?_
       refine AtP 5 76 ?_
       refine AtP 6 77 ?_
       refine At.read 7 (some 78) (fun w'=>w'.cell? ⟨bV,i,none⟩=some (.int .i64 z)) (v:=?v7v) rfl rfl (by kernel_rfl) (fun _ _ _ h=>h) rfl hcV (fun w' hw'=>?y7v) ?_
       case y7v=>skip;go_simp;try with_reducible rfl
       try simp only [NS]
       refine At.read 8 (some 79) (fun w'=>w'.cell? ⟨XB,0,none⟩=some (.int .i64 N1)∧w'.cell? ⟨XB,1,none⟩=some (.int .i64 L1)∧w'.cell? ⟨XB,2,none⟩=some (.bool sd)∧w'.cell? ⟨XB,3,none⟩=some (.int .i64 u1)) (v:=(.agg #[.int .i64 N1,.int .i64 L1,.bool sd,.int .i64 u1])) rfl rfl (by kernel_rfl) (fun _ _ _ h=>h) rfl ⟨b0,b1,b2c,b3⟩ (fun w' hw'=>?y8v) ?_
       case y8v=>obtain⟨h1,h2,h3,h4⟩:=hw';go_simp;try with_reducible rfl
       try simp only [NS]
       refine AtP 9 80 ?_
       refine AtC 10 fun K hK=>?_
       go_simp
       refine hK _ _ all_nil ?_
       clear hK K
       try simp only [NS]
       refine At.done (by kernel_rfl) ?_
       clear HGK HE HV HB b0 b1 b2c b3 tt0 hcV c0 c1 c2 c3 z0 z1 z2 z3 HEN
       generalize ((((wr.setCell ⟨g,z*4,none⟩ (.int .i64 N1)).setCell ⟨g,z*4+1,none⟩ (.int .i64 L1)).setCell ⟨g,z*4+2,none⟩ (.bool sd)).setCell ⟨g,z*4+3,none⟩ (.int .i64 u1)).drew=w9 at*
       have e9:=HE9.out
       have hQ:qq≤q0+i*(bd+1)+(bd+1):=by
        have h1:=HQ1.out.2
        have h2:=HQ0.out
        omega
       clear HE9
       go_wp2_with fail
       go_roundw
       case rel=>
        first
        |exact⟨i+1,L1,_,_,by omega,rfl,by go_num,hid (by rw [Nat.add_mul,Nat.one_mul];omega),HES,HV9⟩
        |((repeat apply Exists.intro);refine⟨?_,rfl⟩;exact⟨i+1,L1,_,_,by omega,rfl,by go_num,hid (by rw [Nat.add_mul,Nat.one_mul];omega),HES,HV9⟩)
       case measure=>simp [intOf];omega
  · have hri:i=r:=by omega
    have HZ:=hid (show WbP G base (TN G) w b2 W A0 (q0+39*(bd+1)) (.returned (.tuple #[])) wr from by
     obtain⟨fr',ns,hv⟩:=HE.out.tv
     refine⟨A,rfl,HE.out.ws.up ?_,hv.fits,HE.out.gr,HE.out.keep⟩
     have h1:=HQ0.out
     have h2:i*(bd+1)≤39*(bd+1):=Nat.mul_le_mul_right _ (by omega)
     omega)
    go_wp2_with fail
    go_end0
    exact HZ.out
def ncells (u:Int):List Value:=[.int .i64 0,.int .i64 0,.bool false,.int .i64 u]
theorem ncells_len (u:Int):(ncells u).length=4:=rfl
theorem ncells_one (u:Int): ∀v∈ncells u,v.oneCell'=true:=by
 intro v hv
 unfold ncells at hv
 simp at hv
 rcases hv with rfl|rfl|rfl<;>rfl
theorem info_tnode :(Tryz.prog.info? 181).map (fun i=>(i.zero,i.size,i.bytes))=some (some (.agg #[.int .i64 0,.int .i64 0,.bool false,.int .i64 0]),4,32):=by kernel_rfl
def gN :Nat→Nat→Nat→Nat
 |0,_,_=>0
 |f+1,a,b=>a*b+(if a*b=1 then 0 else gN f ((a+1)/2) ((b+1)/2))
theorem gN_39 : ∀a,a<6→ ∀b,b<6→gN 4 a b≤39:=by decide
theorem gN_ge (f a b:Nat):a*b≤gN (f+1) a b:=Nat.le_add_right _ _
theorem up_expr (o s k a:Nat) (ho:o≤500) (hs:s≤64) (hk:k<64) (ha:0<a) (ha8:a≤8):
 wrap64 (wrap64 ((o:Int)+(s:Int)+wrap64 (wrap64 ((wrap64 ((k:Int)/(a:Int))).tdiv 2)*(((a:Int)+1)/2)))+wrap64 (((k:Int)%(a:Int)).tdiv 2))=((o+s+k/a/2*((a+1)/2)+k%a/2:Nat):Int):=by
 have h1:k/a≤k:=Nat.div_le_self _ _
 have h2:k%a≤k:=Nat.mod_le _ _
 have e1:(k:Int)/(a:Int)=((k/a:Nat):Int):=by simp
 have e2:(k:Int)%(a:Int)=((k%a:Nat):Int):=by simp
 rw [e1,e2]
 generalize k/a=q at*
 generalize k%a=r at*
 have e3:wrap64 (q:Int)=q:=IntWalk.wrap64_in _ (by omega)
 have e4:(q:Int).tdiv 2=((q/2:Nat):Int):=by rw [Int.tdiv_eq_ediv_of_nonneg (by omega)];omega
 have e5:(r:Int).tdiv 2=((r/2:Nat):Int):=by rw [Int.tdiv_eq_ediv_of_nonneg (by omega)];omega
 have e6:((a:Int)+1)/2=(((a+1)/2:Nat):Int):=by omega
 rw [e3,e4,e5,e6]
 have hq:q/2≤32:=by omega
 have ha2:(a+1)/2≤4:=by omega
 have hp:q/2*((a+1)/2)≤32*4:=Nat.mul_le_mul hq ha2
 have e7:wrap64 ((q/2:Nat):Int)=((q/2:Nat):Int):=IntWalk.wrap64_in _ (by omega)
 rw [e7,←Int.natCast_mul]
 generalize q/2*((a+1)/2)=P at*
 rw [IntWalk.wrap64_in (P:Int) (by omega),IntWalk.wrap64_in ((r/2:Nat):Int) (by omega),IntWalk.wrap64_in ((o:Int)+s+P) (by omega),IntWalk.wrap64_in _ (by omega)]
 omega
structure NI (w0:World) (T n tot:Nat) (us:List Int) (A:Option Addr) (m c:Nat) (w:World):Prop where
 blk:Blk w T 178 #[.slice A m c,.int .i64 n,.bool false]
 own:w.ownsRow w0.heap.size 181 4 (.slice A m c) m (fl ncells us)
 keep:Keep (fun _=>False) w0 w
 p:w0.heap.size≤T
 ok: ∀(i:Nat) (u:Int),us[i]? =some u→u=-1∨((i:Int)<u∧u<tot)
theorem NI.len {w0 w:World} {T n tot:Nat} {us:List Int} {A:Option Addr} {m c:Nat} (h:NI w0 T n tot us A m c w):us.length=m:=(RdS.of_own h.own).llen ncells_len (by omega)
def TnewP (n:Nat) (w:World) (e:Ending) (w':World):Prop:=
 ∃(T:Nat) (A:Option Addr) (m c:Nat),e=.returned (.pointer (some ⟨T,0,none⟩))∧w.heap.size≤T∧Blk w' T 178 #[.slice A m c,.int .i64 n,.bool false]∧n≤m∧m≤c∧m≤39∧(0<m→ ∃g cs,A=some ⟨g,0,none⟩∧w.heap.size≤g∧Blk w' g 181 cs∧NodeOk m cs)∧Keep (fun _=>False) w w'
theorem NI.done {w0 w:World} {T n:Nat} {us:List Int} {A:Option Addr} {m c:Nat} (h:NI w0 T n m us A m c w) (hn:n≤m) (hm:m≤39):TnewP n w0 (.returned (.pointer (some ⟨T,0,none⟩))) w:=by
 refine⟨T,A,m,c,rfl,h.p,h.blk,hn,own_cap h.own,hm,fun hm0=>?_,h.keep⟩
 have hl:=h.len
 rcases h.own.2 with⟨_,h0⟩|⟨g,cap,cur,hv,hb,hg,hnc,hcm,hcs,ht⟩
 · omega
 · injection hv with h1 h2 h3
   subst h1 h3
   refine⟨g,cur,rfl,hb,hg,?_,fun i hi=>?_⟩
   · rw [hcs];exact Nat.mul_le_mul_right 4 hnc
   · obtain⟨u,hu⟩: ∃u,us[i]? =some u:=⟨_,List.getElem?_eq_getElem (by omega)⟩
     have key: ∀r,r<4→cur[i*4+r]? =(ncells u)[r]?:=fun r hr=>by
      have h1:=fl_at ncells_len us i r u hu hr
      rw [← ht,List.getElem?_take,if_pos (by omega)]at h1
      rw [← h1]
      simp
     exact⟨0,0,u,false,key 0 (by omega),key 1 (by omega),key 2 (by omega),key 3 (by omega),Int.le_refl _,h.ok i u hu⟩
theorem up_lim {o s k a b tot:Nat} (ha:0<a) (hs:s=a*b) (hk:k<s) (ht:o+s+(a+1)/2*((b+1)/2)≤tot):(((o+k:Nat):Int)<((o+s+k/a/2*((a+1)/2)+k%a/2:Nat):Int))∧((o+s+k/a/2*((a+1)/2)+k%a/2:Nat):Int)<tot:=by
 have h1:k/a<b:=Nat.div_lt_of_lt_mul (by rw [← hs];exact hk)
 have h2:k%a<a:=Nat.mod_lt _ ha
 have h3:(k/a/2+1)*((a+1)/2)≤(b+1)/2*((a+1)/2):=Nat.mul_le_mul_right _ (by omega)
 rw [Nat.add_mul,Nat.one_mul,Nat.mul_comm ((b+1)/2)]at h3
 generalize k/a/2*((a+1)/2)=P at*
 generalize (a+1)/2*((b+1)/2)=Q at*
 omega
theorem tnew_pos (w:World) (W H n:Nat) (hW0:0<W) (hH0:0<H) (hW:W≤5) (hH:H≤5) (hn:W*H=n):
 Calls Tryz.prog 75 #[.int .i64 W,.int .i64 H] w (TnewP n w):=by
 obtain⟨i0,hi0,hz0,hz1,hz2⟩:=info_parts info_tnode
 have hm64:W*H≤25:=Nat.mul_le_mul hW hH
 have hm0:0<W*H:=Nat.mul_pos hW0 hH0
 have e1:IntKind.i64.wrap ((W:Int)*(H:Int))=(n:Int):=by rw [← Int.natCast_mul,IntWalk.i64_in _ (by omega),hn]
 rw [hn]at hm64 hm0
 have e2:((n:Int)==0)=false:=by simp only [beq_eq_false_iff_ne];omega
 obtain⟨tot,htot⟩: ∃tot,gN 4 W H=tot:=⟨_,rfl⟩
 have ht39:tot≤39:=by rw [← htot];exact gN_39 W (by omega) H (by omega)
 have hnt:n≤tot:=by rw [← htot,←hn];exact gN_ge 3 W H
 have HTOT:=hid htot
 clear htot hn
 go_enter Tryz.func75,Tryz.ntmps75
 go_wp2_with fail
 have HN0:Hid (NI w w.heap.size n tot [] none 0 0 (w.alloc (.cells #[.slice none 0 0,.int .i64 n,.bool false] 178))):=hid
  ⟨Blk.new _ _ _,World.ownsRow_nil _ _ _ _,(Keep.refl _ w).alloc _,Nat.le_refl _,fun i u h=>by simp at h⟩
 go_loopw [6,7,8] (fun u v q wr=> ∃(f a b o:Nat) (A:Option Addr) (c:Nat) (us:List Int),u=.int .i64 a∧v=.int .i64 b∧q=.int .i64 o∧0<a∧0<b∧a≤8∧b≤8∧o≤39∧Hid (a≤2^f∧b≤2^f∧o+gN (f+1) a b=tot)∧Hid (NI w w.heap.size n tot us A o c wr)) (fun u v _ _=>(intOf u).toNat+(intOf v).toNat)
 case atStart=>exact⟨3,W,H,0,none,0,[],rfl,rfl,rfl,hW0,hH0,by omega,by omega,by omega,hid ⟨by omega,by omega,by rw [Nat.zero_add];exact HTOT.out⟩,HN0⟩
 case round=>
  obtain⟨f,a,b,o,A,c,us,rfl,rfl,rfl,ha0,hb0,ha1,hb1,ho39,HFB,HN⟩:=hrel
  clear HN0 HTOT
  obtain⟨s,hs⟩: ∃s,a*b=s:=⟨_,rfl⟩
  have hs64:s≤8*8:=by rw [← hs];exact Nat.mul_le_mul ha1 hb1
  have hs0:0<s:=by rw [← hs];exact Nat.mul_pos ha0 hb0
  have eS:IntKind.i64.wrap ((a:Int)*(b:Int))=(s:Int):=by rw [← Int.natCast_mul,IntWalk.i64_in _ (by rw [hs];omega),hs]
  have HS:=hid hs
  have hst:o+s≤tot:=by have h1:=HFB.out.2.2;have h2:=gN_ge f a b;omega
  have HNX:=hid (show s≠1→ ∃f',f=f'+1∧(a+1)/2≤2^f'∧(b+1)/2≤2^f'∧o+s+gN (f'+1) ((a+1)/2) ((b+1)/2)=tot from fun h=>by
   obtain⟨h1,h2,h3⟩:=HFB.out
   cases f with
   |zero=>
    have:a=1:=by simpa using(show a=1 by simp at h1;omega)
    have:b=1:=by simpa using(show b=1 by simp at h2;omega)
    subst a b
    omega
   |succ f'=>
    rw [Nat.pow_succ]at h1 h2
    refine⟨f',rfl,by omega,by omega,?_⟩
    have h4:gN (f'+1+1) a b=a*b+(if a*b=1 then 0 else gN (f'+1) ((a+1)/2) ((b+1)/2)):=rfl
    rw [hs,if_neg h]at h4
    omega)
  have HUBA:=hid (show 1<s→ ∀k,k<s→(((o+k:Nat):Int)<((o+s+k/a/2*((a+1)/2)+k%a/2:Nat):Int))∧((o+s+k/a/2*((a+1)/2)+k%a/2:Nat):Int)<tot from fun h1 k hk=>by
   obtain⟨f',_,_,_,h2⟩:=HNX.out (by omega)
   have h3:=gN_ge f' ((a+1)/2) ((b+1)/2)
   exact up_lim ha0 HS.out.symm hk (by omega))
  clear hs
  have HNk:Hid (NI w w.heap.size n tot us A (o+0) c wr):=HN
  clear HN
  go_wp2_with fail
  obtain⟨wo,rfl⟩: ∃wo:World,wo=wr:=⟨_,rfl⟩
  go_loopw [10,11] (fun v _ wr=> ∃(k:Nat) (A:Option Addr) (c:Nat) (us:List Int),k≤s∧v=.int .i64 k∧Hid (NI w w.heap.size n tot us A (o+k) c wr)) (fun v _ _=>s-(intOf v).toNat)
  case atStart=>exact⟨0,A,c,us,by omega,rfl,HNk⟩
  case round=>
   clear HNk A c us
   obtain⟨k,A,c,us,hk,rfl,HN⟩:=hrel
   by_cases hks:k<s
   · have t0:wr.cell? ⟨w.heap.size,0,none⟩=some (.slice A (o+k) c):=HN.out.blk.cell 0
     by_cases hs1:1<s
     · have HU:=hid (HUBA.out hs1 k hks)
       have HEX:=hid (up_expr o s k a (by omega) (by omega) (by omega) ha0 (by omega))
       go_wp2_with fail
       go_quiet (fail)
       rw [HEX.out]
       generalize o+s+k/a/2*((a+1)/2)+k%a/2=up at*
       have HUB:=hid (show(up:Int)=-1∨(((o+k:Nat):Int)<(up:Int)∧(up:Int)<tot)from .inr HU.out)
       have HNq:Hid (NI w w.heap.size n tot us A (o+k) c (wr.drewN nq)):=hid ⟨HN.out.blk.drewN nq,own_keep HN.out.own ((Keep.refl (fun _=>False) wr).drewN nq) (fun _ _ h=>h),HN.out.keep.drewN nq,HN.out.p,HN.out.ok⟩
       clear HN HEX HU
       generalize wr.drewN nq=w5 at*
       have t5:w5.cell? ⟨w.heap.size,0,none⟩=some (.slice A (o+k) c):=HNq.out.blk.cell 0
       have hb5:w.heap.size≤w5.heap.size:=HNq.out.keep.size
       go_wp2_with (
        at_builtin
        go_must (refine wpList_append_rows w5 rfl (.tmp 62) (.tmp 65) 176 rfl w.heap.size 181 i0 _ 4 32 Tryz.underlying176 hi0 hz0 hz1 hz2 rfl (by omega) HNq.out.own rfl (ncells ((up:Int))).toArray rfl rfl (fun v hv=>ncells_one _ v hv) (by simp only [maxLen];omega) (by omega) hb5 ?_)
        intro A6 c6 w6 hown6 hk6
        have HB6:=hid (HNq.out.blk.keep hk6 (own_ne HNq.out.own HNq.out.blk (by decide)))
        have t6:w6.cell? ⟨w.heap.size,0,none⟩=some (.slice A (o+k) c):=HB6.out.cell 0
        have f6:=HB6.out.frozen 0
        have HK6:=hid (keep_app HNq.out.keep HNq.out.own (Nat.le_refl _) hk6)
        have HO6:=hid hown6
        clear hown6 hk6)
       have HN7:Hid (NI w w.heap.size n tot (us++[(up:Int)]) A6 (o+(k+1)) c6 (w6.setCell ⟨w.heap.size,0,none⟩ (.slice A6 (o+k+1) c6))):=hid (by
        have hs:=Keep.set1 w6 w.heap.size 0 (.slice A6 (o+k+1) c6)
        have hne:=own_ne HO6.out HB6.out (by decide)
        have hl:=HNq.out.len
        refine⟨HB6.out.set_ 0 _,?_,HK6.out.setCell (.inr (Nat.le_refl _)) _,Nat.le_refl _,fun j u hj=>?_⟩
        · rw [fl_snoc]
          exact own_keep HO6.out hs (fun k e hk=>hne (by rw [← hk];exact e))
        · rcases Nat.lt_or_ge j us.length with h1|h1
          · rw [List.getElem?_append_left h1]at hj
            exact HNq.out.ok j u hj
          · rw [List.getElem?_append_right h1]at hj
            have hj0:j-us.length=0:=by
             rcases Nat.eq_zero_or_pos (j-us.length)with h2|h2
             · exact h2
             · rw [List.getElem?_eq_none (by simp;omega)]at hj;cases hj
            rw [hj0]at hj
            simp at hj
            subst hj
            have hjk:j=o+k:=by omega
            rw [hjk]
            exact HUB.out)
       clear HNq HB6 HK6 HO6 t6 f6
       go_roundw
       case rel=>
        first
        |exact⟨k+1,A6,c6,_,by omega,by go_num,HN7⟩
        |((repeat apply Exists.intro);refine⟨?_,rfl⟩;exact⟨k+1,A6,c6,_,by omega,by go_num,HN7⟩)
       case measure=>simp [intOf];omega
     · have HUB:=hid (show(-1:Int)=-1∨(((o+k:Nat):Int)<(-1:Int)∧(-1:Int)<tot)from .inl rfl)
       have HNq:=HN
       clear HN
       have hb5:w.heap.size≤wr.heap.size:=HNq.out.keep.size
       go_wp2_with (
        at_builtin
        go_must (refine wpList_append_rows wr rfl (.tmp 62) (.tmp 65) 176 rfl w.heap.size 181 i0 _ 4 32 Tryz.underlying176 hi0 hz0 hz1 hz2 rfl (by omega) HNq.out.own rfl (ncells ((-1:Int))).toArray rfl rfl (fun v hv=>ncells_one _ v hv) (by simp only [maxLen];omega) (by omega) hb5 ?_)
        intro A6 c6 w6 hown6 hk6
        have HB6:=hid (HNq.out.blk.keep hk6 (own_ne HNq.out.own HNq.out.blk (by decide)))
        have t6:w6.cell? ⟨w.heap.size,0,none⟩=some (.slice A (o+k) c):=HB6.out.cell 0
        have f6:=HB6.out.frozen 0
        have HK6:=hid (keep_app HNq.out.keep HNq.out.own (Nat.le_refl _) hk6)
        have HO6:=hid hown6
        clear hown6 hk6)
       have HN7:Hid (NI w w.heap.size n tot (us++[(-1:Int)]) A6 (o+(k+1)) c6 (w6.setCell ⟨w.heap.size,0,none⟩ (.slice A6 (o+k+1) c6))):=hid (by
        have hs:=Keep.set1 w6 w.heap.size 0 (.slice A6 (o+k+1) c6)
        have hne:=own_ne HO6.out HB6.out (by decide)
        have hl:=HNq.out.len
        refine⟨HB6.out.set_ 0 _,?_,HK6.out.setCell (.inr (Nat.le_refl _)) _,Nat.le_refl _,fun j u hj=>?_⟩
        · rw [fl_snoc]
          exact own_keep HO6.out hs (fun k e hk=>hne (by rw [← hk];exact e))
        · rcases Nat.lt_or_ge j us.length with h1|h1
          · rw [List.getElem?_append_left h1]at hj
            exact HNq.out.ok j u hj
          · rw [List.getElem?_append_right h1]at hj
            have hj0:j-us.length=0:=by
             rcases Nat.eq_zero_or_pos (j-us.length)with h2|h2
             · exact h2
             · rw [List.getElem?_eq_none (by simp;omega)]at hj;cases hj
            rw [hj0]at hj
            simp at hj
            subst hj
            have hjk:j=o+k:=by omega
            rw [hjk]
            exact HUB.out)
       clear HNq HB6 HK6 HO6 t6 f6
       go_roundw
       case rel=>
        first
        |exact⟨k+1,A6,c6,_,by omega,by go_num,HN7⟩
        |((repeat apply Exists.intro);refine⟨?_,rfl⟩;exact⟨k+1,A6,c6,_,by omega,by go_num,HN7⟩)
       case measure=>simp [intOf];omega
   · obtain rfl:s=k:=by omega
     by_cases h11:s=1
     · subst h11
       have HZ:=hid (show TnewP n w (.returned (.pointer (some ⟨w.heap.size,0,none⟩))) wr from by
        have h1:=HFB.out.2.2
        have h4:gN (f+1) a b=a*b+(if a*b=1 then 0 else gN f ((a+1)/2) ((b+1)/2)):=rfl
        rw [HS.out,if_pos rfl]at h4
        have e:o+1=tot:=by omega
        have h2:=HN.out
        rw [e]at h2
        exact h2.done hnt ht39)
       go_wp2_with fail
       go_ret
       exact HZ.out
     · obtain⟨f',rfl,h1,h2,h3⟩:=HNX.out h11
       have HREL:Hid (∀ x y z:Int,x=(((a+1)/2:Nat):Int)→y=(((b+1)/2:Nat):Int)→z=((o+s:Nat):Int)→ ∃(f a b o:Nat) (A:Option Addr) (c:Nat) (us:List Int),Value.int .i64 x=.int .i64 a∧Value.int .i64 y=.int .i64 b∧Value.int .i64 z=.int .i64 o∧0<a∧0<b∧a≤8∧b≤8∧o≤39∧Hid (a≤2^f∧b≤2^f∧o+gN (f+1) a b=tot)∧Hid (NI w w.heap.size n tot us A o c wr)):=
        hid (fun x y z e1 e2 e3=>⟨f',(a+1)/2,(b+1)/2,o+s,A,c,us,by rw [e1],by rw [e2],by rw [e3],by omega,by omega,by omega,by omega,by omega,hid ⟨h1,h2,h3⟩,HN⟩)
       have hab:1<a∨1<b:=by
        rcases Nat.lt_or_ge 1 a with h|h
        · exact .inl h
        · refine .inr ?_
          have h3:=HS.out
          rw [show a=1 by omega,Nat.one_mul]at h3
          omega
       have hs1:((s:Int)==1)=false:=by simp only [beq_eq_false_iff_ne];omega
       clear HN h1 h2 h3 HNX HFB HUBA
       go_wp2_with fail
       exact⟨HREL.out _ _ _ (by omega) (by omega) (by omega),by simp only [intOf];omega⟩
theorem tnew_any (w:World) (W H n:Nat) (hW:W≤5) (hH:H≤5) (hn:W*H=n):Calls Tryz.prog 75 #[.int .i64 W,.int .i64 H] w (TnewP n w):=by
 by_cases h0:n=0
 · subst h0
   have HZ:=hid (show TnewP 0 w (.returned (.pointer (some ⟨w.heap.size,0,none⟩))) (w.alloc (.cells #[.slice none 0 0,.int .i64 0,.bool false] 178))from
    ⟨w.heap.size,none,0,0,rfl,Nat.le_refl _,Blk.new _ _ _,by omega,by omega,by omega,fun h=>by omega,(Keep.refl _ w).alloc _⟩)
   have e1:IntKind.i64.wrap ((W:Int)*(H:Int))=0:=by rw [← Int.natCast_mul,hn];rfl
   have e2:(W:Int)*(H:Int)=0:=by rw [← Int.natCast_mul,hn];rfl
   clear hn
   go_enter Tryz.func75,Tryz.ntmps75
   go_wp2_with (first|refine wpList_max rfl _ _ _ rfl _ _ rfl rfl ?_|refine wpList_min rfl _ _ _ rfl _ _ rfl rfl ?_)
   go_ret
   exact HZ.out
 · refine tnew_pos w W H n ?_ ?_ hW hH hn
   · rcases Nat.eq_zero_or_pos W with h|h
     · rw [h,Nat.zero_mul]at hn;omega
     · exact h
   · rcases Nat.eq_zero_or_pos H with h|h
     · rw [h,Nat.mul_zero]at hn;omega
     · exact h
def upd (G:Nat→Option Kd) (b:Nat) (k:Kd) (j:Nat):Option Kd:=if j=b then some k else G j
section
variable {G G':Nat→Option Kd} {base b:Nat} {k:Kd} {w w':World}
theorem upd_self :upd G b k b=some k:=if_pos rfl
theorem upd_ne {j:Nat} (h:j≠b):upd G b k j=G j:=if_neg h
theorem upd_some (hb:G b=none) {j:Nat} {q:Kd} (h:G j=some q):upd G b k j=some q:=by
 rw [upd_ne (fun e=>by rw [e,hb]at h;cases h)]
 exact h
theorem KdAt.upd (hb:G b=none) {j:Nat} {q:Kd} (h:KdAt G w j q):KdAt (upd G b k) w j q:=by
 cases q with
 |ro=>trivial
 |node m=>exact h
 |tree n=>
  obtain⟨A,m,c,fr,h1,h2,h3,h4,h5⟩:=h
  exact⟨A,m,c,fr,h1,h2,h3,h4,fun hm=>by obtain⟨g,e,hg⟩:=h5 hm;exact⟨g,e,upd_some hb hg⟩⟩
 |part n=>
  obtain⟨cs,h1,h2,h3⟩:=h
  exact⟨cs,h1,h2,fun i hi=>by
   obtain⟨P,h4,h5⟩:=h3 i hi
   exact⟨P,h4,h5.pl,h5.np,h5.nb,h5.cb,h5.ends,h5.bytes,h5.rp,h5.rb,fun a e=>upd_some hb (h5.ga a e),fun a e=>upd_some hb (h5.gb a e),h5.l3,h5.l17⟩⟩
 |band n=>
  obtain⟨pl,A,c,gi,gu,st,h1,h2,h3,h4,h5,h6,h7,h8⟩:=h
  exact⟨pl,A,c,gi,gu,st,h1,h2,h3,h4,h5,fun hn=>by obtain⟨g,e,hg⟩:=h6 hn;exact⟨g,e,upd_some hb hg⟩,upd_some hb h7,upd_some hb h8⟩
theorem Fits.add (h:Fits G base w) (hb:G b=none) (h1:base≤b) (h2:b<w.heap.size) (hk:KdAt (upd G b k) w b k):Fits (upd G b k) base w:=
 ⟨fun j q hj=>by
  by_cases e:j=b
  · subst e
    rw [upd_self]at hj
    injection hj with hj
    subst hj
    exact⟨h1,h2,hk⟩
  · rw [upd_ne e]at hj
    obtain⟨a1,a2,a3⟩:=h.at_ j q hj
    exact⟨a1,a2,a3.upd hb⟩⟩
def Ext (B:Nat) (G G':Nat→Option Kd):Prop:=(∀ j,j<B→G' j=G j)∧ ∀j q,G j=some q→G' j=some q
theorem Ext.refl (B:Nat):Ext B G G:=⟨fun _ _=>rfl,fun _ _ h=>h⟩
theorem Ext.trans {B B':Nat} {G2:Nat→Option Kd} (h:Ext B G G') (h2:Ext B' G' G2) (hB:B≤B'):Ext B G G2:=⟨fun j hj=>(h2.1 j (by omega)).trans (h.1 j hj),fun j q hq=>h2.2 j q (h.2 j q hq)⟩
theorem Ext.upd {B:Nat} (hb:G b=none) (h:B≤b):Ext B G (upd G b k):=⟨fun j hj=>upd_ne (by omega),fun j q hq=>upd_some hb hq⟩
def TB (B B2:Nat) (w:World) (n T:Nat):Prop:= ∃(A:Option Addr) (m c:Nat),B≤T∧T<B2∧Blk w T 178 #[.slice A m c,.int .i64 n,.bool false]∧n≤m∧m≤c∧m≤39∧(0<m→ ∃g cs,A=some ⟨g,0,none⟩∧B≤g∧g<B2∧Blk w g 181 cs∧NodeOk m cs)
theorem TnewP.tb {n:Nat} {e:Ending} (h:TnewP n w e w'): ∃T,e=.returned (.pointer (some ⟨T,0,none⟩))∧TB w.heap.size w'.heap.size w' n T∧Keep (fun _=>False) w w':=by
 obtain⟨T,A,m,c,h1,h2,h3,h4,h5,h6,h7,h8⟩:=h
 exact⟨T,h1,⟨A,m,c,h2,h3.lt,h3,h4,h5,h6,fun hm=>by obtain⟨g,cs,a1,a2,a3,a4⟩:=h7 hm;exact⟨g,cs,a1,a2,a3.lt,a3,a4⟩⟩,h8⟩
theorem TB.keep {S:Nat→Prop} {B B2 n T:Nat} (h:TB B B2 w n T) (hk:Keep S w w') (h1: ∀j cs,Blk w j 178 cs→ ¬S j) (h2: ∀j cs,Blk w j 181 cs→ ¬S j):TB B B2 w' n T:=by
 obtain⟨A,m,c,a1,a2,a3,a4,a5,a6,a7⟩:=h
 exact⟨A,m,c,a1,a2,a3.keep hk (h1 _ _ a3),a4,a5,a6,fun hm=>by obtain⟨g,cs,b1,b2,b3,b4,b5⟩:=a7 hm;exact⟨g,cs,b1,b2,b3,b4.keep hk (h2 _ _ b4),b5⟩⟩
theorem Fits.addTree {n B B2 T:Nat} (h:Fits G base w) (hB:base≤B) (hN: ∀j,B≤j→G j=none) (t:TB B B2 w n T): ∃G',Ext B G G'∧Fits G' base w∧G' T=some (.tree n)∧ ∀j,B2≤j→G' j=none:=by
 obtain⟨A,m,c,hT,hT2,bT,hnm,hmc,hm,hA⟩:=t
 rcases Nat.eq_zero_or_pos m with h0|h0
 · have e:=hN T hT
   exact⟨upd G T (.tree n),Ext.upd e hT,h.add e (by omega) bT.lt ⟨A,m,c,false,bT,hnm,hmc,hm,fun h=>by omega⟩,upd_self,fun j hj=>by rw [upd_ne (by omega)];exact hN j (by omega)⟩
 · obtain⟨g,cs,e,hg,hg2,bg,hok⟩:=hA h0
   have e1:=hN g hg
   have hne:g≠T:=Blk.ne_ bg bT (by decide)
   have h1:=h.add (k:=.node m) e1 (by omega) bg.lt ⟨cs,bg,hok⟩
   have e2:upd G g (.node m) T=none:=by rw [upd_ne (fun e=>hne e.symm)];exact hN T hT
   exact⟨upd (upd G g (.node m)) T (.tree n),(Ext.upd e1 hg).trans (Ext.upd e2 hT) (Nat.le_refl _),h1.add e2 (by omega) bT.lt ⟨A,m,c,false,bT,hnm,hmc,hm,fun _=>⟨g,e,by rw [upd_ne hne];exact upd_self⟩⟩,upd_self,fun j hj=>by rw [upd_ne (by omega),upd_ne (by omega)];exact hN j (by omega)⟩
end
def pv0 :Pv:=⟨0,[],none,0,[],none,0,0,3⟩
theorem Pv.clen (P:Pv):P.cells.length=5:=rfl
theorem Pv.one (P:Pv): ∀v∈P.cells,v.oneCell'=true:=by
 intro v hv
 unfold Pv.cells at hv
 simp at hv
 rcases hv with rfl|rfl|rfl|rfl|rfl<;>rfl
theorem info_part :(Tryz.prog.info? 139).map (fun i=>(i.zero,i.size,i.bytes))=some (some (.agg #[.int .i64 0,.slice none 0 0,.slice none 0 0,.int .i64 0,.int .i64 0]),5,72):=by kernel_rfl
theorem pv0_ok (G:Nat→Option Kd) (w:World):PartOk G w pv0:=
 ⟨by decide,by decide,by decide,by decide,EndsOk.nil,(fun _ h=>by cases h),⟨rfl,fun h=>absurd h (by decide)⟩,Rd.nil _,(fun a e=>by cases e),(fun a e=>by cases e),by decide,by decide⟩
def NewBP (G:Nat→Option Kd) (base:Nat) (n:Nat) (w:World) (e:Ending) (w':World):Prop:=
 ∃G' b,e=.returned (.pointer (some ⟨b,0,none⟩))∧Ext w.heap.size G G'∧Fits G' base w'∧G' b=some (.band n)∧w.heap.size≤b∧Keep (fun _=>False) w w'
structure BandI (w0:World) (b n pl t1 t2 B2 B3:Nat) (k:Nat) (A:Option Addr) (c:Nat) (w:World):Prop where
 blk:Blk w b 137 #[.int .i64 pl,.slice A k c,.pointer (some ⟨t1,0,none⟩),.pointer (some ⟨t2,0,none⟩),.bool false]
 own:w.ownsRow B3 139 5 (.slice A k c) k (fl Pv.cells (List.replicate k pv0))
 keep:Keep (fun _=>False) w0 w
 tb1:TB w0.heap.size B2 w n t1
 tb2:TB B2 B3 w n t2
 b2:w0.heap.size≤B2
 b3:B2≤B3
 b4:B3≤b
theorem PartRow.fresh {w:World} {B k c:Nat} {A:Option Addr} (h:w.ownsRow B 139 5 (.slice A k c) k (fl Pv.cells (List.replicate k pv0))) (hk:0<k): ∃g cs,A=some ⟨g,0,none⟩∧B≤g∧Blk w g 139 cs∧ ∀G,PartRow G w k cs:=by
 rcases h.2 with⟨_,h0⟩|⟨g,cap,cur,hv,hb,hg,hnc,hcm,hcs,ht⟩
 · omega
 · injection hv with h1 h2 h3
   subst h1 h3
   refine⟨g,cur,rfl,hb,hg,fun G=>⟨by rw [hcs];exact Nat.mul_le_mul_right 5 hnc,fun i hi=>⟨pv0,fun j v hj=>?_,pv0_ok G w⟩⟩⟩
   have hj5:j<5:=(List.getElem?_eq_some_iff.1 hj).1
   have h1:=fl_at Pv.clen (List.replicate k pv0) i j pv0 (by rw [List.getElem?_replicate,if_pos hi]) hj5
   rw [← ht,List.getElem?_take,if_pos (by omega),hj]at h1
   simpa using h1
theorem BandI.done {G:Nat→Option Kd} {base:Nat} {w0 w:World} {b n pl t1 t2 B2 B3:Nat} {A:Option Addr} {c:Nat} (h:BandI w0 b n pl t1 t2 B2 B3 n A c w) (hF:Fits G base w0) (hb:base≤w0.heap.size) (hn:n≤25) (hpl:pl≤15):NewBP G base n w0 (.returned (.pointer (some ⟨b,0,none⟩))) w:=by
 have hF1:=hF.keepF h.keep
 obtain⟨G1,x1,f1,g1,n1⟩:=hF1.addTree hb (fun j hj=>hF.none_of hj) h.tb1
 obtain⟨G2,x2,f2,g2,n2⟩:=f1.addTree (by have:=h.b2;omega) n1 h.tb2
 have x12:=x1.trans x2 h.b2
 have hbz:w0.heap.size≤b:=by have:=h.b2;have:=h.b3;have:=h.b4;omega
 rcases Nat.eq_zero_or_pos n with h0|h0
 · have e:=n2 b h.b4
   exact⟨upd G2 b (.band n),b,rfl,x12.trans (Ext.upd e (B:=B2) (by have:=h.b3;have:=h.b4;omega)) h.b2,f2.add e (by omega) h.blk.lt ⟨pl,A,c,t1,t2,false,h.blk,own_cap h.own,hn,by omega,by omega,fun h=>by omega,upd_some e (x2.2 _ _ g1),upd_some e g2⟩,upd_self,hbz,h.keep⟩
 · obtain⟨g,cs,eA,hg,bg,hp⟩:=PartRow.fresh h.own h0
   have e:=n2 g hg
   have f3:=f2.add (k:=.part n) e (by have:=h.b2;have:=h.b3;omega) bg.lt ⟨cs,bg,hp _⟩
   have hne:g≠b:=Blk.ne_ bg h.blk (by decide)
   have e2:upd G2 g (.part n) b=none:=by rw [upd_ne (fun e=>hne e.symm)];exact n2 b h.b4
   refine⟨upd (upd G2 g (.part n)) b (.band n),b,rfl,(x12.trans (Ext.upd e (B:=B2) (by have:=h.b3;omega)) h.b2).trans (Ext.upd e2 (B:=B2) (by have:=h.b3;have:=h.b4;omega)) h.b2,f3.add e2 (by omega) h.blk.lt ⟨pl,A,c,t1,t2,false,h.blk,own_cap h.own,hn,by omega,by omega,fun _=>⟨g,eA,upd_some e2 upd_self⟩,upd_some e2 (upd_some e (x2.2 _ _ g1)),upd_some e2 (upd_some e g2)⟩,upd_self,hbz,h.keep⟩
theorem nband_any (G:Nat→Option Kd) (base:Nat) (w:World) (W H n pl:Nat) (hF:Fits G base w) (hb:base≤w.heap.size) (hW:W≤5) (hH:H≤5) (hn:W*H=n) (hpl:pl≤15):
 Calls Tryz.prog 55 #[.int .i64 W,.int .i64 H,.int .i64 pl] w (NewBP G base n w):=by
 obtain⟨i0,hi0,hz0,hz1,hz2⟩:=info_parts info_part
 have hn25:n≤5*5:=by rw [← hn];exact Nat.mul_le_mul hW hH
 have e1:(W:Int)*(H:Int)=(n:Int):=by rw [← hn];push_cast;rfl
 have e2:IntKind.i64.wrap (n:Int)=(n:Int):=IntWalk.i64_in _ (by omega)
 have HNN:=hid hn
 have HFF:=hid hF
 clear hn hF
 go_enter Tryz.func55,Tryz.ntmps55
 go_wp2_with fail
 refine(tnew_any _ W H n hW hH HNN.out).mono ?_
 intro e w1 hnew
 obtain⟨t1,rfl,htb1,hk1⟩:=hnew.tb
 have HT1:=hid htb1
 have HK1:=hid hk1
 clear hnew htb1 hk1
 go_wp2_with fail
 refine(tnew_any _ W H n hW hH HNN.out).mono ?_
 intro e w2 hnew
 obtain⟨t2,rfl,htb2,hk2⟩:=hnew.tb
 have HB0:=hid (show BandI w w2.heap.size n pl t1 t2 w1.heap.size w2.heap.size 0 none 0 (w2.alloc (.cells #[.int .i64 pl,.slice none 0 0,.pointer (some ⟨t1,0,none⟩),.pointer (some ⟨t2,0,none⟩),.bool false] 137))from by
  have hka:Keep (fun _=>False) w2 (w2.alloc (.cells #[.int .i64 pl,.slice none 0 0,.pointer (some ⟨t1,0,none⟩),.pointer (some ⟨t2,0,none⟩),.bool false] 137)):=(Keep.refl _ w2).alloc _
  exact⟨Blk.new _ _ _,World.ownsRow_nil _ _ _ _,(HK1.out.trans hk2 (fun _ _ h=>h)).trans hka (fun _ _ h=>h),HT1.out.keep (hk2.trans hka (fun _ _ h=>h)) (fun _ _ _ h=>h) (fun _ _ _ h=>h),htb2.keep hka (fun _ _ _ h=>h) (fun _ _ _ h=>h),HK1.out.size,hk2.size,Nat.le_refl _⟩)
 clear hnew htb2 hk2 HT1 HK1
 go_wp2_with fail
 generalize w2.alloc (.cells #[.int .i64 pl,.slice none 0 0,.pointer (some ⟨t1,0,none⟩),.pointer (some ⟨t2,0,none⟩),.bool false] 137)=w3 at*
 generalize w2.heap.size=B3 at*
 generalize w1.heap.size=B2 at*
 go_loopw [8] (fun v wr=> ∃(k:Nat) (A:Option Addr) (c:Nat),k≤n∧v=.int .i64 k∧Hid (BandI w B3 n pl t1 t2 B2 B3 k A c wr)) (fun v _=>n-(intOf v).toNat)
 case atStart=>exact⟨0,none,0,by omega,rfl,HB0⟩
 case round=>
  clear HB0
  obtain⟨k,A,c,hk,rfl,HB⟩:=hrel
  by_cases hkn:k<n
  · have b1:wr.cell? ⟨B3,1,none⟩=some (.slice A k c):=HB.out.blk.cell 1
    have hb3:B3≤wr.heap.size:=by have:=HB.out.blk.lt;omega
    have HOW:=hid HB.out.own
    have HP1:=hid (Pv.one pv0)
    go_wp2_with (first|(first|refine wpList_max rfl _ _ _ rfl _ _ rfl rfl ?_|refine wpList_min rfl _ _ _ rfl _ _ rfl rfl ?_)|(
     at_builtin
     go_must (refine wpList_append_rows wr rfl (.tmp 31) (.tmp 33) 134 rfl B3 139 i0 _ 5 72 Tryz.underlying134 hi0 hz0 hz1 hz2 rfl (by omega) HOW.out rfl (Pv.cells pv0).toArray rfl rfl (fun v hv=>HP1.out v hv) (by simp only [maxLen];omega) (by omega) hb3 ?_)
     intro A6 c6 w6 hown6 hk6
     have HB6:=hid (HB.out.blk.keep hk6 (own_ne HB.out.own HB.out.blk (by decide)))
     have t6:w6.cell? ⟨B3,1,none⟩=some (.slice A k c):=HB6.out.cell 1
     have f6:=HB6.out.frozen 1
     have HN7:=hid (show BandI w B3 n pl t1 t2 B2 B3 (k+1) A6 c6 (w6.setCell ⟨B3,1,none⟩ (.slice A6 (k+1) c6))from by
      have hs:=Keep.set1 w6 B3 1 (.slice A6 (k+1) c6)
      have hT: ∀(j:Nat) (cs:Array Value),Blk wr j 178 cs→ ¬(Value.slice A k c).ownBlock=some j:=fun j cs hb=>own_ne HB.out.own hb (by decide)
      have hN: ∀(j:Nat) (cs:Array Value),Blk wr j 181 cs→ ¬(Value.slice A k c).ownBlock=some j:=fun j cs hb=>own_ne HB.out.own hb (by decide)
      refine⟨HB6.out.set_ 1 _,?_,(keep_app HB.out.keep HB.out.own (by have:=HB.out.b2;have:=HB.out.b3;omega) hk6).setCell (.inr (by have:=HB.out.b2;have:=HB.out.b3;show w.heap.size≤B3;omega)) _,(HB.out.tb1.keep hk6 hT hN).keep hs (fun j cs hb e=>Blk.ne_ hb HB6.out (by decide) e) (fun j cs hb e=>Blk.ne_ hb HB6.out (by decide) e),(HB.out.tb2.keep hk6 hT hN).keep hs (fun j cs hb e=>Blk.ne_ hb HB6.out (by decide) e) (fun j cs hb e=>Blk.ne_ hb HB6.out (by decide) e),HB.out.b2,HB.out.b3,HB.out.b4⟩
      rw [List.replicate_succ',fl_snoc]
      exact own_keep hown6 hs (fun j e1 e2=>own_ne hown6 HB6.out (by decide) (by rw [e1,e2])))
     clear hown6 hk6))
    go_roundw
    case rel=>exact⟨k+1,A6,c6,by omega,by go_num,HN7⟩
    case measure=>simp [intOf]<;>omega
  · obtain rfl:k=n:=by omega
    have HZ:=hid (HB.out.done HFF.out hb (by omega) hpl)
    go_wp2_with (first|refine wpList_max rfl _ _ _ rfl _ _ rfl rfl ?_|refine wpList_min rfl _ _ _ rfl _ _ rfl rfl ?_)
    go_ret
    exact HZ.out
def PT (G:Nat→Option Kd) (j:Nat):Prop:= ∃n,G j=some (.part n)
structure Bv (G:Nat→Option Kd) (base:Nat) (w:World) (b g n:Nat) (pl:Int) (c gi gu:Nat) (st:Bool) (cs:Array Value):Prop where
 fits:Fits G base w
 gb:G b=some (.band n)
 gp:G g=some (.part n)
 bb:Blk w b 137 #[.int .i64 pl,.slice (some ⟨g,0,none⟩) n c,.pointer (some ⟨gi,0,none⟩),.pointer (some ⟨gu,0,none⟩),.bool st]
 bp:Blk w g 139 cs
 ok:PartRow G w n cs
 nc:n≤c
 n25:n≤25
 p0:0≤pl
 p15:pl≤15
 gi:G gi=some (.tree n)
 gu:G gu=some (.tree n)
section
variable {G :Nat→Option Kd} {base:Nat} {w w':World} {b g n:Nat} {pl:Int} {c gi gu:Nat} {st:Bool} {cs:Array Value}
theorem Fits.band (h:Fits G base w) (hb:G b=some (.band n)) (hn:0<n): ∃g pl c gi gu st cs,Bv G base w b g n pl c gi gu st cs:=by
 obtain⟨_,_,pl,A,c,gi,gu,st,h1,h2,h3,h4,h5,h6,h7,h8⟩:=h.at_ b _ hb
 obtain⟨g,e,hg⟩:=h6 hn
 subst e
 obtain⟨_,_,cs,h9,h10⟩:=h.at_ g _ hg
 exact⟨g,pl,c,gi,gu,st,cs,h,hb,hg,h1,h9,h10,h2,h3,h4,h5,h7,h8⟩
theorem Bv.keep {S:Nat→Prop} (h:Bv G base w b g n pl c gi gu st cs) (hk:Keep S w w') (hF:Fits G base w') (h1: ¬S b) (h2: ¬S g) (h3: ∀j,S j→G j≠some .ro):Bv G base w' b g n pl c gi gu st cs:=
 ⟨hF,h.gb,h.gp,h.bb.keep hk h1,h.bp.keep hk h2,h.ok.keep hk h3,h.nc,h.n25,h.p0,h.p15,h.gi,h.gu⟩
theorem Bv.keepF (h:Bv G base w b g n pl c gi gu st cs) (hk:Keep (fun _=>False) w w'):Bv G base w' b g n pl c gi gu st cs:=h.keep hk (h.fits.keepF hk) id id (fun _ h=>h.elim)
theorem Bv.keepN {S:Nat→Prop} (h:Bv G base w b g n pl c gi gu st cs) (hk:Keep S w w') (hS: ∀j,S j→G j=none):Bv G base w' b g n pl c gi gu st cs:=
 h.keep hk (h.fits.keep hk hS) (fun hs=>by have:=hS _ hs;rw [h.gb]at this;cases this) (fun hs=>by have:=hS _ hs;rw [h.gp]at this;cases this) (fun j hj e=>by rw [hS j hj]at e;cases e)
theorem TN.not {j:Nat} (h:TN G j):G j≠some (.band n)∧G j≠some (.part n)∧G j≠some .ro∧G j≠none:=by
 rcases h with⟨m,e⟩|⟨m,e⟩<;>rw [e]<;>simp
theorem Bv.keepT (h:Bv G base w b g n pl c gi gu st cs) (hk:Keep (TN G) w w') (hF:Fits G base w'):Bv G base w' b g n pl c gi gu st cs:=
 h.keep hk hF (fun hs=>(TN.not hs).1 h.gb) (fun hs=>(TN.not hs).2.1 h.gp) (fun _ hs=>(TN.not (n:=0) hs).2.2.1)
theorem Bv.part (h:Bv G base w b g n pl c gi gu st cs) {k:Nat} (hk:k<n): ∃P:Pv,PartOk G w P∧w.rangeAt g (k*5) P.cells:=by
 obtain⟨P,h1,h2⟩:=h.ok.2 k hk
 exact⟨P,h2,fun j v hj=>by rw [h.bp.cell];exact h1 j v hj⟩
theorem Bv.setSt (h:Bv G base w b g n pl c gi gu st cs) (s:Bool):Bv G base (w.setCell ⟨b,4,none⟩ (.bool s)) b g n pl c gi gu s cs:=by
 have hk:=Keep.set1 w b 4 (.bool s)
 have hb:Blk (w.setCell ⟨b,4,none⟩ (.bool s)) b 137 #[.int .i64 pl,.slice (some ⟨g,0,none⟩) n c,.pointer (some ⟨gi,0,none⟩),.pointer (some ⟨gu,0,none⟩),.bool s]:=h.bb.set_ 4 (.bool s)
 exact⟨h.fits.step h.gb (by intro h;cases h) hk ⟨pl,_,c,gi,gu,s,hb,h.nc,h.n25,h.p0,h.p15,fun _=>⟨g,rfl,h.gp⟩,h.gi,h.gu⟩,h.gb,h.gp,hb,h.bp.keep hk (Blk.ne_ h.bp h.bb (by decide)),h.ok.keep hk (fun j e hr=>by rw [show j=b from e,h.gb]at hr;cases hr),h.nc,h.n25,h.p0,h.p15,h.gi,h.gu⟩
theorem PartRow.setRow {Q:Pv} {k:Nat} {l:List Value} (h:PartRow G w n cs) (hk:k<n) (hl:l.length≤5) (hQ:PartOk G w Q) (hc: ∀j v,Q.cells[j]? =some v→(setL cs (k*5) l)[k*5+j]? =some v):PartRow G w n (setL cs (k*5) l):=by
 refine⟨by rw [setL_size];exact h.1,fun i hi=>?_⟩
 by_cases e:i=k
 · subst e
   exact⟨Q,hc,hQ⟩
 · obtain⟨P,h1,h2⟩:=h.2 i hi
   refine⟨P,fun j v hj=>?_,h2⟩
   have hj5:j<5:=(List.getElem?_eq_some_iff.1 hj).1
   rw [setL_out l cs (k*5) (i*5+j) (by omega)]
   exact h1 j v hj
theorem Bv.parts {l:List Value} {k:Nat} {Q:Pv} (h:Bv G base w b g n pl c gi gu st cs) (hk:Keep (fun j=>j=g) w w') (hkn:k<n) (hl:l.length≤5) (hb:Blk w' g 139 (setL cs (k*5) l)) (hQ:PartOk G w Q) (hc: ∀j v,Q.cells[j]? =some v→(setL cs (k*5) l)[k*5+j]? =some v):Bv G base w' b g n pl c gi gu st (setL cs (k*5) l):=by
 have hro: ∀j,(fun j=>j=g) j→G j≠some .ro:=fun j e hr=>by rw [show j=g from e,h.gp]at hr;cases hr
 have hp:=(h.ok.setRow hkn hl hQ hc).keep hk hro
 exact⟨h.fits.step h.gp (by intro h;cases h) hk ⟨_,hb,hp⟩,h.gb,h.gp,h.bb.keep hk (Blk.ne_ h.bb h.bp (by decide)),hb,hp,h.nc,h.n25,h.p0,h.p15,h.gi,h.gu⟩
end
def Pv.blk (P:Pv):Value:=.agg #[.int .i64 P.pl,.slice P.A P.ps.length P.cA,.slice P.B P.bs.length P.cB]
theorem add_any (G:Nat→Option Kd) (base:Nat) (w:World) (b n k:Nat) (Q:Pv) (hF:Fits G base w) (hG:G b=some (.band n)) (hk:k<n) (hQ:PartOk G w Q):
 Calls Tryz.prog 61 #[.pointer (some ⟨b,0,none⟩),.int .i64 k,Q.blk] w (fun e w'=>e=.returned (.tuple #[])∧Fits G base w'∧Keep (PT G) w w'):=by
 obtain⟨g,pl,c,gi,gu,st,cs,hv⟩:=hF.band hG (by omega)
 have hnc:=hv.nc
 have hn25:=hv.n25
 have HV:=hid hv
 have HQ:=hid hQ
 have HBX:=hid (Blk.new w 117 #[.int .i64 Q.pl,.slice Q.A Q.ps.length Q.cA,.slice Q.B Q.bs.length Q.cB])
 have hka:Keep (fun _=>False) w (w.alloc (.cells #[.int .i64 Q.pl,.slice Q.A Q.ps.length Q.cA,.slice Q.B Q.bs.length Q.cB] 117)):=(Keep.refl _ w).alloc _
 have HV1:=hid (hv.keepF hka)
 have HQ1:=hid (hQ.keep hka (fun _ h=>h.elim))
 have HKA:=hid hka
 have hd:decide ((k:Int)<n)=true:=by simp;omega
 have hd2:decide (k<n)=true:=by simp;omega
 have hk0:(0:Int)≤(k:Int):=by omega
 have hk1:(k:Int)<(n:Int):=by omega
 unfold Pv.blk
 clear hv hQ hF hG hka HV HQ
 go_enter Tryz.func61,Tryz.ntmps61
 go_upto_region 1 with fail
 generalize w.alloc (.cells #[.int .i64 Q.pl,.slice Q.A Q.ps.length Q.cA,.slice Q.B Q.bs.length Q.cB] 117)=w1 at*
 generalize w.heap.size=gx at*
 have b1:w1.cell? ⟨b,1,none⟩=some (.slice (some ⟨g,0,none⟩) n c):=HV1.out.bb.cell 1
 go_wp2_with fail
 have d1:w1.drew.cell? ⟨b,1,none⟩=some (.slice (some ⟨g,0,none⟩) n c):=b1
 have r1:w1.drew.rangeAt gx 0 [.int .i64 Q.pl,.slice Q.A Q.ps.length Q.cA,.slice Q.B Q.bs.length Q.cB]:=HBX.out.drew.range
 have HV2:=hid (HV1.out.keepF ((Keep.refl (fun _=>False) w1).drew))
 obtain⟨P,hP,hPr⟩:=HV2.out.part hk
 have HPO:=hid hP
 have HPR:=hid hPr
 have hsz:k*5+5≤cs.size:=by have:=HV2.out.ok.1;omega
 have HGN:=hid HV2.out.bp
 clear hP hPr b1
 refine At.start (L:=#[false,false,false,false,false,false,false,false,false]) (by kernel_rfl) rfl ?_
 refine AtP 0 17 ?_
 refine AtP 1 18 ?_
 refine AtP 2 19 ?_
 refine AtL 3 20 Tryz.underlying134 ?_
 refine AtP 4 21 ?_
 first|refine AtL 5 22 Tryz.underlying117 ?_|refine AtR 5 22 Tryz.underlying117 ?_
 refine AtP 6 23 ?_
 refine AtP 7 24 ?_
 refine AtC 8 fun K hK=>?_
 refine wp_store_in HGN.out 117 _ _ rfl (k*5) #[.int .i64 Q.pl,.slice Q.A Q.ps.length Q.cA,.slice Q.B Q.bs.length Q.cB] rfl rfl (by show k*5+3≤_;omega) (by kernel_rfl) (by simp [Value.oneCell']) ?_
 intro w2 hb2 hk2
 have HZ:=hid (show Fits G base w2∧Keep (PT G) w w2 from by
  have hQ2:PartOk G w1.drew { Q with sd:=P.sd,lb:=P.lb }:=by
   have h:=HQ1.out.keep ((Keep.refl (fun _=>False) w1).drew) (fun _ h=>h.elim)
   exact⟨h.pl,h.np,h.nb,h.cb,h.ends,h.bytes,h.rp,h.rb,h.ga,h.gb,HPO.out.l3,HPO.out.l17⟩
  have h:=HV2.out.parts (k:=k) (Q:={ Q with sd:=P.sd,lb:=P.lb }) hk2 hk (l:=[.int .i64 Q.pl,.slice Q.A Q.ps.length Q.cA,.slice Q.B Q.bs.length Q.cB]) (by simp) hb2 hQ2 (fun j v hj=>by
   have hj5:j<5:=(List.getElem?_eq_some_iff.1 hj).1
   by_cases h3:j<3
   · rw [setL_in _ _ _ _ (by show k*5+3≤_;omega) (by simpa using h3)]
     rcases (show j=0∨j=1∨j=2 by omega)with rfl|rfl|rfl<;>exact hj
   · rw [setL_out _ _ _ _ (by right;show k*5+3≤_;omega)]
     have h4:=HPR.out j
     rw [show(⟨g,k*5+j,none⟩:Addr)=⟨g,k*5+j,none⟩from rfl]at h4
     have h5:=h4 v (by rcases (show j=3∨j=4 by omega)with rfl|rfl<;>exact hj)
     rwa [HGN.out.cell]at h5)
  exact⟨h.fits,((HKA.out.drew).mono (T:=PT G) (fun _ _ h=>h.elim)).trans hk2 (fun i _ e=>by rw [show i=g from e];exact⟨n,HV2.out.gp⟩)⟩)
 clear hb2 hk2
 refine hK _ _ all_nil ?_
 clear hK K
 try simp only [NS]
 refine At.done (by kernel_rfl) ?_
 go_wp2_with fail
 go_end0
 exact⟨rfl,HZ.out.1,HZ.out.2⟩
end Go.Proofs.YthfogcgdijmaoaaGreat
