/-
  Part 31 of the proof: FillS TileS GramInts LawS0 LawW RefClean. Conditions: those of the statements.
-/
import Derived.Test.YthfogcgdijmaoaaGreatW2
import Derived.Test.YthfogcgdijmaoaaGreatW3
import Derived.Test.YthfogcgdijmaoaaGreatW7
import Derived.Test.YthfogcgdijmaoaaGreatW10
import Derived.Test.YthfogcgdijmaoaaGreatW14
import Derived.Test.YthfogcgdijmaoaaGreatW16
import Derived.Test.YthfogcgdijmaoaaGreatW27
import Derived.Test.YthfogcgdijmaoaaGreatW28
import Derived.Test.YthfogcgdijmaoaaGreatW29
import Derived.Test.YthfogcgdijmaoaaGreatW30
set_option maxRecDepth 100000
set_option maxHeartbeats 16000000
set_option linter.unusedVariables false
set_option linter.unusedSimpArgs false
namespace Go.Proofs.YthfogcgdijmaoaaGreat
open Go.RowKit
section
variable {t91 :TypeId} {G G':Nat→Option Kd} {w0 w w':World} {us:List Un} {bl:Option (Nat×Array Value)}
theorem Wk.kinds {S:Nat→Prop} (h:Wk t91 G w0 us bl w) (hk:Keep S w w') (hS: ∀j,S j→G j≠none∧G j≠some .ro) (hF:Fits G w0.heap.size w'):Wk t91 G w0 us bl w'∧Nx G w G w':=by
 refine⟨⟨hF,h.keep.new hk (fun j hj=>?_),fun i u hu=>?_,h.ap,fun g cs hg=>?_⟩,Mono.refl,S,hk,fun j hj=>(hS j hj).2⟩
 · cases e:G j with
   |none=>exact absurd e (hS j hj).1
   |some q=>exact(h.fits.at_ j q e).1
 · obtain⟨h1,h2⟩:=h.un i u hu
   refine⟨own_keep h1 hk (fun j e hs=>?_),h2⟩
   obtain⟨a,ea,rfl⟩:=own_some e
   exact(hS _ hs).1 (h2 a ea)
 · obtain⟨h1,h2,h3,h4⟩:=h.bk g cs hg
   exact⟨h1.keep hk (fun hs=>(hS _ hs).1 h2),h2,h3,h4⟩
theorem Wk.store (h:Wk t91 G w0 us none w) (i:Nat) {u:Un} (hu:us[i]? =some u) (hs:u.size=1) {j:Nat} (hj:j<u.n) (v:Value):
 ∃g,u.A=some ⟨g,0,none⟩∧(∀ k x,u.xs[k]? =some x→w.cell? ⟨g,k,none⟩=some x)∧(∀ k,w.frozen? ⟨g,k,none⟩=false)∧Wk t91 G w0 (us.set i { u with xs:=u.xs.set j v }) none (w.setCell ⟨g,j,none⟩ v)∧Nx G w G (w.setCell ⟨g,j,none⟩ v):=by
 obtain⟨h1,h2⟩:=h.un i u hu
 obtain⟨e,size,A,n,c,xs⟩:=u
 subst hs
 obtain⟨g,hA,_,_,hc,hf⟩:=own_at h1 (by show 0<n;exact Nat.lt_of_le_of_lt (Nat.zero_le _) hj)
 have hA':A=some ⟨g,0,none⟩:=hA
 subst hA'
 have hk:=Keep.set1 w g j v
 have hx:=h.row i (u':=⟨e,1,some ⟨g,0,none⟩,n,c,xs.set j v⟩) hu (World.ownsRow.stored h1 j v).1 (hk.mono (fun k _ e=>by rw [show k=g from e];rfl)) (fun k hk'=>.inl hk')
 exact⟨g,rfl,hc,hf,hx.1,hx.2⟩
end
def RowsOk (G:Nat→Option Kd) (w:World) (vs:List Value) (ls:List Int):Prop:=vs.length=ls.length∧ ∀(i:Nat) (v:Value),vs[i]? =some v→ ∃(A:Option Addr) (n c:Nat) (zs:List Int),v=.slice A n c∧ls[i]? =some (n:Int)∧n≤c∧Ro G w A n 1 (zs.map (Value.int .i64))
section
variable {G G':Nat→Option Kd} {w w':World} {vs:List Value} {ls:List Int}
theorem RowsOk.nx (h:RowsOk G w vs ls) (hx:Nx G w G' w'):RowsOk G' w' vs ls:=⟨h.1,fun i v hv=>by
 obtain⟨A,n,c,zs,h1,h2,h3,h4⟩:=h.2 i v hv
 exact⟨A,n,c,zs,h1,h2,h3,h4.nx hx⟩⟩
theorem RowsOk.nil :RowsOk G w [] []:=⟨rfl,fun i v h=>by simp at h⟩
theorem RowsOk.snoc (h:RowsOk G w vs ls) {A:Option Addr} {n c:Nat} {zs:List Int} (hc:n≤c) (hr:Ro G w A n 1 (zs.map (Value.int .i64))):RowsOk G w (vs++[.slice A n c]) (ls++[(n:Int)]):=by
 refine⟨by simp [h.1],fun i v hv=>?_⟩
 rcases Nat.lt_trichotomy i vs.length with h1|h1|h1
 · rw [List.getElem?_append_left h1]at hv
   obtain⟨A',n',c',zs',a1,a2,a3,a4⟩:=h.2 i v hv
   exact⟨A',n',c',zs',a1,by rw [List.getElem?_append_left (by rw [← h.1];exact h1)];exact a2,a3,a4⟩
 · subst h1
   simp at hv
   subst hv
   exact⟨A,n,c,zs,rfl,by rw [h.1];simp,hc,hr⟩
 · rw [List.getElem?_append_right (by omega),List.getElem?_eq_none (by simp;omega)]at hv;cases hv
theorem RowsOk.set (h:RowsOk G w vs ls) {i:Nat} {A:Option Addr} {n c:Nat} {zs:List Int} (hi:ls[i]? =some (n:Int)) (hc:n≤c) (hr:Ro G w A n 1 (zs.map (Value.int .i64))):RowsOk G w (vs.set i (.slice A n c)) ls:=by
 refine⟨by simp [h.1],fun j v hv=>?_⟩
 by_cases e:i=j
 · subst e
   have hl:i<vs.length:=by rw [h.1];exact(List.getElem?_eq_some_iff.1 hi).1
   rw [List.getElem?_set_self hl]at hv
   injection hv with hv
   subst hv
   exact⟨A,n,c,zs,rfl,hi,hc,hr⟩
 · rw [List.getElem?_set_ne e]at hv
   exact h.2 j v hv
theorem RowsOk.of_rr {t91:TypeId} {w0:World} {us:List Un} {bl:Option (Nat×Array Value)} (h:Wk t91 G w0 us bl w) (hr:RR w' w.heap.size vs ls):RowsOk (roF G w.heap.size w'.heap.size) w' vs ls:=
 ⟨hr.len,fun i v hv=>by
  obtain⟨k,h1,n,A,c,e1,e2,hc,zs,_,ho⟩:=hr.at_ i v hv
  subst e1
  exact⟨A,n,c,zs,e2,h1,hc,h.ro (RdS.of_own ho) (fun a e=>own_blt ho e)⟩⟩
end
structure Fl0 (G:Nat→Option Kd) (w:World) (s:Nat) (m:Im) (p:Pm):Prop where
 bm:RoB G w s 29 m.cells
 bp:RoB G w (s+1) 31 p.cells
theorem Fl0.nx {G G':Nat→Option Kd} {w w':World} {s:Nat} {m:Im} {p:Pm} (h:Fl0 G w s m p) (hx:Nx G w G' w'):Fl0 G' w' s m p:=⟨h.bm.nx hx,h.bp.nx hx⟩
structure InOk (G:Nat→Option Kd) (base NB:Nat) (w:World) (lev prec:Nat) (t:Rc) (cs:List Cm) (A:Option Addr) (outs:List Pln):Prop where
 row:Ro G w A outs.length 7 (fl Pln.cells outs)
 ok:OutsOk G base NB w lev prec t cs outs
 len:outs.length=cs.length
theorem InOk.nx {G G':Nat→Option Kd} {base NB:Nat} {w w':World} {lev prec:Nat} {t:Rc} {cs:List Cm} {A:Option Addr} {outs:List Pln} (h:InOk G base NB w lev prec t cs A outs) (hx:Nx G w G' w'):InOk G' base NB w' lev prec t cs A outs:=⟨h.row.nx hx,h.ok.nx hx,h.len⟩
def FillP (G:Nat→Option Kd) (w0 w:World) (e:Ending) (w':World):Prop:=e=.returned (.tuple #[])∧ ∃G',Wk 91 G' w0 [] none w'∧Nx G w G' w'
section
variable {t91 :TypeId} {G G':Nat→Option Kd} {w0 w w':World} {us:List Un}
theorem Wk.kindsRo {S:Nat→Prop} (h:Wk t91 G w0 us none w) (hk:Keep S w w') (hS: ∀j,S j→G j≠none∧G j≠some .ro) (hF:Fits G w0.heap.size w'):
 Wk t91 (roF G w.heap.size w'.heap.size) w0 us none w'∧Nx G w (roF G w.heap.size w'.heap.size) w':=by
 have h1:=h.kinds hk hS hF
 refine⟨⟨hF.roF h.keep.size (Nat.le_refl _),h1.1.keep,fun i u hu=>⟨(h1.1.un i u hu).1,fun a e=>?_⟩,h.ap,fun g cs e=>by cases e⟩,h1.2.trans (Nx.mono (roF_mono _ _))⟩
 exact roF_out ((h.un i u hu).2 a e) (.inl (own_blt (h.un i u hu).1 e).2)
theorem wk_put (h:Wk t91 G w0 us none w) (i:Nat) {A:Option Addr} {n c:Nat} {zs:List Int} (hu:us[i]? =some ⟨5,1,A,n,c,zs.map (Value.int .u8)⟩) (hn:n≤70368744177664) (s:Nat) (x:Int) (hs1:1≤s) (hs2:s≤8):
 Calls Tryz.prog 24 #[.slice A n c,.int .i64 s,.int .i64 x] w fun e w'=> ∃A' c',e=.returned (.slice A' (n+s) c')∧Wk t91 G w0 (us.set i ⟨5,1,A',n+s,c',(zs++putB x s).map (Value.int .u8)⟩) none w'∧Nx G w G w':=by
 have ho:w.ownsRow w0.heap.size 5 1 (.slice A n c) n (zs.map (Value.int .u8)):=h.at_ i hu
 refine(refput_any A n c zs s x w w0.heap.size ho h.keep.size hn (by omega) (by omega)).mono ?_
 rintro e w' ⟨v',rfl,h1,h2,h3,h4⟩
 rw [Int.toNat_natCast]at h1
 obtain⟨A',c',rfl⟩:=own_form h1
 have hx:=h.row i (u':=⟨5,1,A',n+s,c',(zs++putB x s).map (Value.int .u8)⟩) hu h1 h3 (fun j hj=>by
  rcases h4 with h5|⟨k,h5,h6⟩
  · exact .inl (by rw [← h5];exact hj)
  · rw [h5]at hj
    injection hj with hj
    exact .inr (by omega))
 exact⟨A',c',rfl,hx.1,hx.2⟩
end
structure TlOk (G:Nat→Option Kd) (base NB:Nat) (w:World) (t:Rc) (cs:List Cm) (p:Pm) (A KA:Option Addr) (outs:List Pln) (ks:List Ky):Prop where
 pl:InOk G base NB w p.lev p.prec t cs A outs
 ky:Ro G w KA ks.length 4 (fl Ky.cells ks)
 ok: ∀k∈ks,KeyOk t cs p k
theorem TlOk.nx {G G':Nat→Option Kd} {base NB:Nat} {w w':World} {t:Rc} {cs:List Cm} {p:Pm} {A KA:Option Addr} {outs:List Pln} {ks:List Ky} (h:TlOk G base NB w t cs p A KA outs ks) (hx:Nx G w G' w'):TlOk G' base NB w' t cs p A KA outs ks:=⟨h.pl.nx hx,h.ky.nx hx,h.ok⟩
theorem TlOk.heads {G:Nat→Option Kd} {base NB:Nat} {w:World} {t:Rc} {cs:List Cm} {p:Pm} {A KA:Option Addr} {outs:List Pln} {ks:List Ky} (h:TlOk G base NB w t cs p A KA outs ks) {k:Ky} (hk:k∈ks):
 ∃(bA oA hb ho db do':Nat) (P:Pln) (d:Hd2) (x:Hd1),A=some ⟨bA,oA,none⟩∧k.comp<outs.length∧w.cell? ⟨bA,oA+k.comp*7+6,none⟩=some (.slice (some ⟨hb,ho,none⟩) P.hs.length P.cH)∧k.res<P.hs.length∧w.cell? ⟨hb,ho+k.res,none⟩=some (.slice (some ⟨db,do',none⟩) d.n d.c)∧k.prec<d.n∧w.cell? ⟨db,do'+k.prec,none⟩=some (.slice x.A x.n x.c)∧Hd1Ok G base NB w x∧k.lay<p.lay:=by
 obtain⟨hl,C,hC,hr,hp⟩:=h.ok k hk
 have hcl:k.comp<cs.length:=(List.getElem?_eq_some_iff.1 hC).1
 have hol:k.comp<outs.length:=by rw [h.pl.len];exact hcl
 obtain⟨P,hP⟩: ∃P,outs[k.comp]? =some P:=⟨_,List.getElem?_eq_getElem hol⟩
 obtain⟨hpo,C',hC',hPp⟩:=h.pl.ok _ P hP
 have e:C=C':=by rw [show cs[k.comp]? =some C from hC]at hC';injection hC'
 subst e
 have hrl:k.res<P.hs.length:=by rw [hpo.hl];show k.res<p.lev+1;exact Nat.lt_succ_of_le hr
 obtain⟨d,hd⟩: ∃d,P.hs[k.res]? =some d:=⟨_,List.getElem?_eq_getElem hrl⟩
 obtain⟨hdn,hdo⟩:=hpo.hok _ d hd
 have hpn:k.prec<d.n:=by
  rw [hPp]at hdn
  have h1:(k.prec:Int)<(d.n:Int):=by rw [hdn];exact hp
  exact Int.ofNat_lt.1 h1
 have hdl:d.ds.length=d.n:=by have:=hdo.ro.1.1;simpa using this
 obtain⟨x,hx⟩: ∃x,d.ds[k.prec]? =some x:=⟨_,List.getElem?_eq_getElem (by omega)⟩
 obtain⟨bA,oA,hA,hrw⟩:=RdS.get (f:=Pln.cells) h.pl.row.1 Pln.len hol hP
 obtain⟨hb,ho,hH,hc1⟩:=hpo.heads.1.cell (i:=k.res) (j:=0) (v:=d.val) hrl (by rw [Nat.mul_one,Nat.add_zero,List.getElem?_map,hd];rfl)
 obtain⟨db,do',hD,hc2⟩:=hdo.ro.1.cell (i:=k.prec) (j:=0) (v:=x.val) hpn (by rw [Nat.mul_one,Nat.add_zero,List.getElem?_map,hx];rfl)
 rw [Nat.mul_one,Nat.add_zero]at hc1 hc2
 refine⟨bA,oA,hb,ho,db,do',P,d,x,hA,hol,?_,hrl,?_,hpn,hc2,hdo.ok x (List.mem_of_getElem? hx),hl⟩
 · have:=hrw 6 _ rfl
   rw [hH]at this
   exact this
 · rw [hc1]
   show some (Value.slice d.A d.n d.c)=_
   rw [hD]
def Til18P (w:World) (e:Ending) (w':World):Prop:= ∃(A:Option Addr) (n c:Nat) (ys:List Int),e=.returned (.slice A n c)∧By w w.heap.size A n c ys w'∧n≤3000000000
theorem ints_same (w:World) (A B:Option Addr) (n ca cb:Nat) (zs:List Int) (ha:Rd w A n (zs.map (Value.int .i64))) (hb:Rd w B n (zs.map (Value.int .i64))) (hn:n≤9223372036854775807):
 Calls Tryz.prog 13 #[.slice A n ca,.slice B n cb] w fun e w'=>e=.returned (.bool true)∧Keep (fun _=>False) w w':=by
 have HA:=hid ha
 have HB:=hid hb
 clear ha hb
 go_enter Tryz.func13,Tryz.ntmps13
 go_wp2_with fail
 go_loopw [5] (fun v wr=> ∃i:Nat,i≤n∧v=.int .i64 i∧Hid (Keep (fun _=>False) w wr)) (fun v _=>n-(intOf v).toNat)
 case atStart=>exact⟨0,by omega,rfl,hid (Keep.refl _ w)⟩
 case round=>
  obtain⟨i,hi,rfl,HK⟩:=hrel
  by_cases hin:i<n
  · obtain⟨b,o,rfl,b0⟩:=HA.out.int_ix hin
    obtain⟨b',o',rfl,b1⟩:=HB.out.int_ix hin
    have c0:wr.cell? ⟨b,o+i,none⟩=some (.int .i64 (zs.getD i 0)):=HK.out.cell b0 (fun h=>h)
    have c1:wr.cell? ⟨b',o'+i,none⟩=some (.int .i64 (zs.getD i 0)):=HK.out.cell b1 (fun h=>h)
    have HK2:=hid HK.out.drew
    clear b0 b1
    generalize zs.getD i 0=y at*
    go_wp2_with fail
    refine At.start (L:=#[false,false,false,false,false,false,false,false,false]) (by kernel_rfl) rfl ?_
    refine AtP 0 17 ?_
    refine AtP 1 18 ?_
    refine AtP 2 19 ?_
    refine At.read 3 (some 20) (fun w'=>w'.cell? ⟨b,o+i,none⟩=some (.int .i64 y)) (v:=?v3a) rfl rfl (by kernel_rfl) (fun _ _ _ h=>h) rfl c0 (fun w' hw'=>?y3a) ?_
    case y3a=>skip;go_simp;try with_reducible rfl
    try simp only [NS]
    refine AtP 4 21 ?_
    refine AtP 5 22 ?_
    refine AtP 6 23 ?_
    refine At.read 7 (some 24) (fun w'=>w'.cell? ⟨b',o'+i,none⟩=some (.int .i64 y)) (v:=?v7a) rfl rfl (by kernel_rfl) (fun _ _ _ h=>h) rfl c1 (fun w' hw'=>?y7a) ?_
    case y7a=>skip;go_simp;try with_reducible rfl
    try simp only [NS]
    refine AtP 8 25 ?_
    refine At.done (by kernel_rfl) ?_
    go_wp2_with fail
    exact⟨⟨i+1,by omega,by go_num,HK2⟩,by simp [intOf];omega⟩
  · obtain rfl:n=i:=by omega
    go_wp2_with fail
    go_ret
    exact⟨rfl,HK.out⟩
def EncW (w:World) (e:Ending) (w':World):Prop:=
 ∃(A:Option Addr) (n c:Nat) (zs:List Int),e=.returned (.tuple #[.slice A n c,.int .i64 0])∧Keep (fun _=>False) w w'∧w'.ownsRow w.heap.size 5 1 (.slice A n c) n (zs.map (Value.int .u8))∧Bytes zs∧n≤50000000000∧2≤zs.length
def MakeL (w:World) (e:Ending) (w':World):Prop:=
 ∃(m:Im) (p:Pm) (nx ny:Nat),e=.returned (.tuple #[.agg m.cells,.agg p.cells])∧Keep (fun _=>False) w w'∧0≤nx∧0≤ny∧
  ∀(w2:World) (RA:Option Addr) (rn rc:Nat) (rem:List Int),Keep (fun _=>False) w' w2→Rd w2 RA rn (rem.map (Value.int .u8))→Bytes rem→rn≤1000→Calls Tryz.prog 9 #[.agg m.cells,.agg p.cells,.slice RA rn rc] w2 (EncW w2)
theorem FmOk.keepF {w w':World} {f:Fm} (h:FmOk w f) (hk:Keep (fun _=>False) w w'):FmOk w' f:=
 { x:=h.x,y:=h.y,ox:=h.ox,oy:=h.oy,comps:=h.comps,depth:=h.depth,sub:=h.sub,tx:=h.tx,ty:=h.ty,lev:=h.lev,cbw:=h.cbw,cbh:=h.cbh,prec:=h.prec,style:=h.style,order:=h.order,lay:=h.lay
   zs:=by obtain⟨zs,h1⟩:=h.zs;exact⟨zs,h1.keep hk (fun _ _ h=>h)⟩
   nb:=h.nb }
theorem own_facts {w:World} {base:Nat} {e:TypeId} {A:Option Addr} {n c:Nat} {xs:List Value} (h:w.ownsRow base e 1 (.slice A n c) n xs):Rd w A n xs∧(∀ ad,A=some ad→ad.block<w.heap.size)∧n≤c∧c≤9223372036854775807:=by
 refine⟨Rd.of_own h,fun ad e=>by subst e;exact(h.lt ad.block (by simp [Value.ownBlock])).2,?_⟩
 rcases h.2 with⟨hv,hn⟩|⟨g,cap,cur,hv,_,_,h1,h2,_⟩
 · injection hv with _ h2 h3
   omega
 · injection hv with _ _ h3
   simp only [maxLen]at h2
   omega
theorem info_u8L :(Tryz.prog.info? 5).map (fun i=>(i.zero,i.size,i.bytes))=some (some (.int .u8 0),1,1):=by kernel_rfl
theorem wp_app {o:Oper} {a:Act} {K:Act→World→Prop} {Q:Exit→Act→World→Prop} (s x:Operand) (ho:o.op=.call { callee:=.builtin .append,args:=#[s,x],argTypes:=#[25,25] })
 {w0 w:World} {A:Option Addr} {n c:Nat} {zs:List Int} (hown:w.ownsRow w0.heap.size 5 1 (.slice A n c) n (zs.map (Value.int .u8))) (hk:Keep (fun _=>False) w0 w) (hs:a.eval s=.slice A n c)
 {X:Option Addr} {m d:Nat} {xs:List Int} (hr:Rd w X m (xs.map (Value.int .u8))) (hx:a.eval x=.slice X m d) (hb:n+m≤100000000000)
 (h: ∀A' c' w',w'.ownsRow w0.heap.size 5 1 (.slice A' (n+m) c') (n+m) ((zs++xs).map (Value.int .u8))→Keep (fun _=>False) w0 w'→K (a.put o.dst (.slice A' (n+m) c')) w'):o.wp Tryz.prog a w K Q:=by
 obtain⟨i0,hi0,hz0,hz1,hz2⟩:=info_parts info_u8L
 refine wp_append_src w s x 25 ho w0.heap.size 5 i0 _ 1 Tryz.underlying25 hi0 hz0 hz1 hz2 rfl _ n _ hs hown X m d _ hx hr (oneCell_ints _ _) (by simp only [maxLen];omega) (by omega) hk.size ?_
 intro v' w' h2 hg _ _
 obtain⟨A',c',rfl⟩:=own_form h2
 rw [← List.map_append]at h2
 exact h A' c' w' h2 (hk.new ((Keep.refl (fun i=>(Value.slice A n c).ownBlock=some i) w).grown hg (fun k hk=>.inl hk)) (fun i e=>(hown.lt i e).1))
theorem wpList_app {ops:Array Oper} {rest:List Oper} {o:Oper} {a:Act} {Q:Exit→Act→World→Prop} (hgd:o.guard=none) (s x:Operand) (ho:o.op=.call { callee:=.builtin .append,args:=#[s,x],argTypes:=#[25,25] })
 {w0 w:World} {A:Option Addr} {n c:Nat} {zs:List Int} (hown:w.ownsRow w0.heap.size 5 1 (.slice A n c) n (zs.map (Value.int .u8))) (hk:Keep (fun _=>False) w0 w) (hs:a.eval s=.slice A n c)
 {X:Option Addr} {m d:Nat} {xs:List Int} (hr:Rd w X m (xs.map (Value.int .u8))) (hx:a.eval x=.slice X m d) (hb:n+m≤100000000000)
 (h: ∀A' c' w',w'.ownsRow w0.heap.size 5 1 (.slice A' (n+m) c') (n+m) ((zs++xs).map (Value.int .u8))→Keep (fun _=>False) w0 w'→wpList Tryz.prog ops Q rest (a.put o.dst (.slice A' (n+m) c')) w'):wpList Tryz.prog ops Q (o::rest) a w:=
 wpList_plain hgd fun _ hK=>wp_app s x ho hown hk hs hr hx hb fun A' c' w' h2 h3=>hK _ _ (h A' c' w' h2 h3)
theorem own_none (w0 w:World) (hk:Keep (fun _=>False) w0 w):(w.alloc (.cells #[] 5)).ownsRow w0.heap.size 5 1 (.slice (some ⟨w.heap.size,0,none⟩) 0 0) 0 (([]:List Int).map (Value.int .u8)):=
 ⟨rfl,.inr ⟨w.heap.size,0,#[],rfl,hk.size,Blk.new w _ _,Nat.le_refl _,by simp only [maxLen];omega,rfl,rfl⟩⟩
structure Row8 where
 g:Nat
 n:Nat
 c:Nat
 xs:List Int
def own8 (w0 w:World) (r:Row8):Prop:=w.ownsRow w0.heap.size 5 1 (.slice (some ⟨r.g,0,none⟩) r.n r.c) r.n (r.xs.map (Value.int .u8))
theorem own8_lt {w0 w:World} {r:Row8} (h:own8 w0 w r):w0.heap.size≤r.g∧r.g<w.heap.size:=World.ownsRow.lt h r.g (by simp [Value.ownBlock])
theorem own8_keep {S:Nat→Prop} {w0 w w':World} {r:Row8} (h:own8 w0 w r) (hk:Keep S w w') (hS: ¬S r.g):own8 w0 w' r:=
 own_keep h hk (fun k e=>by simp [Value.ownBlock]at e;rw [← e];exact hS)
structure St (w0 w:World) (r1 r2:Option Row8):Prop where
 k:Keep (fun _=>False) w0 w
 o1: ∀r,r1=some r→own8 w0 w r
 o2: ∀r,r2=some r→own8 w0 w r
 ne: ∀r s,r1=some r→r2=some s→r.g≠s.g
theorem St.flip {w0 w:World} {r1 r2:Option Row8} (h:St w0 w r1 r2):St w0 w r2 r1:=⟨h.k,h.o2,h.o1,fun r s e1 e2 e=>h.ne s r e2 e1 e.symm⟩
theorem St.begin_ (w0:World):St w0 w0.drew none none:=by
 refine⟨(Keep.refl _ w0).drew,?_,?_,?_⟩
 · intro r e;cases e
 · intro r e;cases e
 · intro r s e;cases e
theorem St.new1 {w0 w:World} {r2:Option Row8} (h:St w0 w none r2):St w0 (w.alloc (.cells #[] 5)) (some ⟨w.heap.size,0,0,[]⟩) r2:=
 ⟨h.k.alloc _,fun r e=>by cases e;exact own_none w0 w h.k,fun r e=>own8_keep (h.o2 r e) ((Keep.refl (fun _=>False) w).alloc _) id,fun r s e1 e2=>by
  cases e1
  have:=(own8_lt (h.o2 s e2)).2
  simp only
  omega⟩
theorem St.new2 {w0 w:World} {r1:Option Row8} (h:St w0 w r1 none):St w0 (w.alloc (.cells #[] 5)) r1 (some ⟨w.heap.size,0,0,[]⟩):=h.flip.new1.flip
theorem wp_st1 {o:Oper} {a:Act} {K:Act→World→Prop} {Q:Exit→Act→World→Prop} (s x:Operand) (ho:o.op=.call { callee:=.builtin .append,args:=#[s,x],argTypes:=#[25,25] })
 {w0 w:World} {g n c:Nat} {zs:List Int} {r2:Option Row8} (hst:St w0 w (some ⟨g,n,c,zs⟩) r2) (hs:a.eval s=.slice (some ⟨g,0,none⟩) n c)
 {X:Option Addr} {m d:Nat} {xs:List Int} (hr:Rd w0 X m (xs.map (Value.int .u8))) (hx:a.eval x=.slice X m d) (N:Nat) (hN:n+m=N) (hb:N≤100000000000)
 (h: ∀g' c' w',St w0 w' (some ⟨g',N,c',zs++xs⟩) r2→K (a.put o.dst (.slice (some ⟨g',0,none⟩) N c')) w'):o.wp Tryz.prog a w K Q:=by
 subst hN
 obtain⟨i0,hi0,hz0,hz1,hz2⟩:=info_parts info_u8L
 have ho1:=hst.o1 _ rfl
 refine wp_append_src w s x 25 ho w0.heap.size 5 i0 _ 1 Tryz.underlying25 hi0 hz0 hz1 hz2 rfl _ n _ hs ho1 X m d _ hx (hr.keep hst.k (fun _ _ h=>h)) (oneCell_ints _ _) (by simp only [maxLen];omega) (by omega) hst.k.size ?_
 intro v' w' h2 hg hat _
 have hg': ∃g',v'.ownBlock=some g'∧(g'=g∨g'=w.heap.size):=by
  rcases hat with h|h
  · exact⟨g,h,.inl rfl⟩
  · exact⟨_,h,.inr rfl⟩
 obtain⟨g',hv,hg'⟩:=hg'
 have hf: ∃c',v'=.slice (some ⟨g',0,none⟩) (n+m) c':=by
  rcases h2.2 with⟨e,_⟩|⟨g1,c1,_,e,_⟩
  · rw [e]at hv;simp [Value.ownBlock]at hv
  · rw [e]at hv;simp [Value.ownBlock]at hv;subst hv;exact⟨_,e⟩
 obtain⟨c',rfl⟩:=hf
 rw [← List.map_append]at h2
 have hlt:=own8_lt ho1
 have hkg:Keep (fun i=>i=g) w w':=(Keep.refl _ w).grown hg (fun k hk=>by simp [Value.ownBlock]at hk;exact .inl hk.symm)
 refine h g' c' w' ⟨hst.k.new hkg (fun i e=>by rw [show i=g from e];exact hlt.1),fun r e=>by cases e;exact h2,fun r e=>own8_keep (hst.o2 r e) hkg (fun h=>hst.ne _ r rfl e (show g=r.g from h.symm)),fun r s e1 e2=>?_⟩
 cases e1
 show g'≠s.g
 rcases hg' with rfl|rfl
 · exact hst.ne _ s rfl e2
 · have:=(own8_lt (hst.o2 s e2)).2
   omega
theorem wp_st2 {o:Oper} {a:Act} {K:Act→World→Prop} {Q:Exit→Act→World→Prop} (s x:Operand) (ho:o.op=.call { callee:=.builtin .append,args:=#[s,x],argTypes:=#[25,25] })
 {w0 w:World} {g n c:Nat} {zs:List Int} {r1:Option Row8} (hst:St w0 w r1 (some ⟨g,n,c,zs⟩)) (hs:a.eval s=.slice (some ⟨g,0,none⟩) n c)
 {X:Option Addr} {m d:Nat} {xs:List Int} (hr:Rd w0 X m (xs.map (Value.int .u8))) (hx:a.eval x=.slice X m d) (N:Nat) (hN:n+m=N) (hb:N≤100000000000)
 (h: ∀g' c' w',St w0 w' r1 (some ⟨g',N,c',zs++xs⟩)→K (a.put o.dst (.slice (some ⟨g',0,none⟩) N c')) w'):o.wp Tryz.prog a w K Q:=
 wp_st1 s x ho hst.flip hs hr hx N hN hb fun g' c' w' h'=>h g' c' w' h'.flip
def RowOk (w:World) (v:Value):Prop:= ∃(A:Option Addr) (n c:Nat) (xs:List Int),v=.slice A n c∧Rd w A n (xs.map (Value.int .u8))∧Bytes xs∧n≤c∧n≤90000000000
theorem RowOk.keep {w w':World} {v:Value} (h:RowOk w v) (hk:Keep (fun _=>False) w w'):RowOk w' v:=by
 obtain⟨A,n,c,xs,e,h1,h2⟩:=h
 exact⟨A,n,c,xs,e,h1.keep hk (fun _ _ h=>h),h2⟩
theorem RowOk.of8 {w0 w:World} {g n c:Nat} {xs:List Int} (h:own8 w0 w ⟨g,n,c,xs⟩) (hb:Bytes xs) (hn:n≤90000000000):RowOk w (.slice (some ⟨g,0,none⟩) n c):=
 ⟨_,n,c,xs,rfl,Rd.of_own h,hb,(own_facts h).2.2.1,hn⟩
def wkL (zs:List Int):List (Int×Nat):=(walkM zs).getD []
def wkE (zs:List Int):Int:=match walkM zs with
 |none=>10
 |some _=>0
theorem walk_same {w w':World} {zs:List Int} {e:Ending} (h:WalkP w zs e w'): ∃(M:Option Addr) (cm:Nat) (T:Option Addr) (ct:Nat),e=.returned (.tuple #[.slice M (wkL zs).length cm,.slice T (wkL zs).length ct,.int .i64 (wkE zs)])∧Keep (fun _=>False) w w'∧
 Rd w' M (wkL zs).length (((wkL zs).map (·.1)).map (Value.int .i64))∧Rd w' T (wkL zs).length (((wkL zs).map fun p=>(p.2:Int)).map (Value.int .i64))∧(wkL zs).length≤9223372036854775807:=by
 obtain⟨hk,hp⟩:=h
 unfold wkL wkE
 cases hm:walkM zs with
 |none=>
  rw [hm]at hp
  exact⟨none,0,none,0,hp,hk,Rd.nil _,Rd.nil _,Nat.zero_le _⟩
 |some l=>
  rw [hm]at hp
  obtain⟨M,cm,T,ct,he,h1,h2⟩:=hp
  obtain⟨_,_,h3,h4⟩:=own_facts h1
  exact⟨M,cm,T,ct,he,hk,Rd.of_own h1,Rd.of_own h2,by show l.length≤_;omega⟩
theorem tdiv2 {x:Int} (h0:-9223372036854775808≤x) (h1:x≤9223372036854775807):-4611686018427387904≤x.tdiv 2∧x.tdiv 2≤4611686018427387904:=by
 rcases Int.le_total 0 x with h|h
 · rw [Int.tdiv_eq_ediv_of_nonneg h];omega
 · have e:x.tdiv 2=-((-x).tdiv 2):=by rw [Int.neg_tdiv,Int.neg_neg]
   rw [e,Int.tdiv_eq_ediv_of_nonneg (by omega)]
   omega
theorem refclean_any (w:World) (A:Option Addr) (n c:Nat) (zs:List Int) (hr:Rd w A n (zs.map (Value.int .u8))) (hby:Bytes zs) (hn:n≤1099511627776):
 Calls Tryz.prog 15 #[.slice A n c] w fun e w'=>e=.returned (.bool (cleanB zs))∧w=w':=by
 have hl:zs.length=n:=by have:=hr.1;simpa using this
 have HR:=hid hr
 have HL:=hid hl
 clear hr hl
 go_enter Tryz.func15,Tryz.ntmps15
 go_wp2_with fail
 go_loop [3] (fun v=> ∃i:Nat,i≤n∧v=.int .i64 i∧Hid (∀ j,j≤i→badAt zs j=false)) (fun v=>n-(intOf v).toNat)
 case atStart=>exact⟨0,by omega,rfl,hid (fun j h=>by
  obtain rfl:j=0:=by omega
  rfl)⟩
 case round=>
  obtain⟨i,hi,rfl,HN⟩:=hrel
  have hw1:IntKind.i64.wrap ((i:Int)+1)=(i:Int)+1:=IntWalk.i64_in _ (by omega)
  by_cases hin:i+1<n
  · obtain⟨b,o,rfl,b0⟩:=HR.out.int_ix (k:=i) (by omega)
    obtain⟨b',o',e',b1⟩:=HR.out.int_ix (k:=i+1) (by omega)
    injection e' with e'
    injection e' with e1 e2 _
    subst e1 e2
    have hc1:(i:Int)+1<(n:Int):=by omega
    have hc0:i<n:=by omega
    have hp1:(0:Int)≤(i:Int)+1:=by omega
    have hn1:((i:Int)+1).toNat=i+1:=by omega
    have HB:=hid (show badAt zs (i+1)=((zs.getD i 0==255)&&decide (143<zs.getD (i+1) 0))from rfl)
    generalize zs.getD i 0=y0 at*
    generalize zs.getD (i+1) 0=y1 at*
    by_cases h0:y0=255
    · subst h0
      by_cases h1:143<y1
      · have HF:=hid (clean_false (zs:=zs) (i:=i+1) (by rw [HL.out];exact hin) (by rw [HB.out];simpa using h1))
        go_wp2_with fail
        go_ret
        exact⟨ret_bool HF.out.symm,rfl⟩
      · have HG:=hid (show∀j,j≤i+1→badAt zs j=false from fun j hj=>by
         by_cases h:j=i+1
         · rw [h,HB.out];simpa using h1
         · exact HN.out j (by omega))
        go_wp2_with fail
        exact⟨⟨i+1,by omega,rfl,HG⟩,by simp [intOf];omega⟩
    · have he:(y0==255)=false:=by simpa using h0
      have HG:=hid (show∀j,j≤i+1→badAt zs j=false from fun j hj=>by
       by_cases h:j=i+1
       · rw [h,HB.out,he];rfl
       · exact HN.out j (by omega))
      go_wp2_with fail
      exact⟨⟨i+1,by omega,rfl,HG⟩,by simp [intOf];omega⟩
  · have hc1: ¬(i:Int)+1<(n:Int):=by omega
    have HF:=hid (clean_true (zs:=zs) (fun j hj=>HN.out j (by have:=HL.out;omega)))
    go_wp2_with fail
    go_ret
    exact⟨ret_bool HF.out.symm,rfl⟩
end Go.Proofs.YthfogcgdijmaoaaGreat
