/-
  Part 26 of the proof: Expo Seg CodQ. Conditions: those of the statements.
-/
import Derived.Test.YthfogcgdijmaoaaGreatJ10
import Derived.Test.YthfogcgdijmaoaaGreatJ18
import Derived.Test.YthfogcgdijmaoaaGreatJ22
import Derived.Test.YthfogcgdijmaoaaGreatJ25
set_option maxRecDepth 100000
set_option maxHeartbeats 16000000
set_option linter.unusedVariables false
set_option linter.unusedSimpArgs false
namespace Go.Proofs.YthfogcgdijmaoaaGreat
open Go.RowKit
def IntsP (k:Nat) (b:Int) (w:World) (e:Ending) (w':World):Prop:= ∃(A:Option Addr) (c:Nat) (zs:List Int),e=.returned (.slice A k c)∧zs.length=k∧(∀ z∈zs,0≤z∧z≤b)∧k≤c∧w'.ownsRow w.heap.size 3 1 (.slice A k c) k (zs.map (Value.int .i64))∧Keep (fun _=>False) w w'
theorem bitN_any (w:World) (b:Bool):Calls Tryz.prog 49 #[.bool b] w (SomeN 0 1 w):=
 (bit17_any w b).mono fun e w' h=>by
  obtain⟨rfl,rfl⟩:=h
  cases b
  · exact⟨0,by omega,by omega,rfl,rfl⟩
  · exact⟨1,by omega,by omega,rfl,rfl⟩
theorem Keep.appNew {w0 w w':World} {base n size:Nat} {e:TypeId} {v:Value} {xs:List Value} (h:Keep (fun _=>False) w0 w) (ho:w.ownsRow base e size v n xs) (hb:w0.heap.size≤base) {o:Obj} (hg:(w.alloc o).grownBy w' v.ownBlock):Keep (fun _=>False) w0 w':=
 keep_app h ho hb (((Keep.refl _ w).alloc o).grown hg (fun k hk=>.inl hk))
theorem Blk.app {w w':World} {base n size:Nat} {e t:TypeId} {v:Value} {xs:List Value} {g:Nat} {cs:Array Value} (h:Blk w g t cs) (ho:w.ownsRow base e size v n xs) (hne:e≠t) {o:Obj} (hg:(w.alloc o).grownBy w' v.ownBlock):Blk w' g t cs:=
 h.keep (((Keep.refl _ w).alloc o).grown hg (fun k hk=>.inl hk)) (own_ne ho h hne)
structure EI (w0:World) (m:Im) (p:Pm) (A:Option Addr) (n c:Nat) (zs:List Int) (w:World):Prop where
 bp:Blk w (w0.heap.size+1) 31 p.cells
 own:w.ownsRow w0.heap.size 3 1 (.slice A n c) n (zs.map (Value.int .i64))
 keep:Keep (fun _=>False) w0 w
 lim: ∀z∈zs,0≤z∧z≤13
theorem expo_any (w:World) (m:Im) (p:Pm) (cs:List Cm) (hcs:RdS w m.A m.n 5 (cms cs)) (hl:cs.length=m.n) (hC: ∀c∈cs,c.depth≤10) (hn4:m.n≤4) (hL:p.lev≤5):
 Calls Tryz.prog 50 #[.agg m.cells,.agg p.cells] w (IntsP (1+3*p.lev) 13 w):=by
 obtain⟨i0,hi0,hz0,hz1,hz2⟩:=info_parts info_int
 have HC:=hid hC
 have HR:=hid hcs
 have HL:=hid hl
 have HMC:=hid (show m.cells=#[.int .i64 m.x,.int .i64 m.y,.int .i64 m.ox,.int .i64 m.oy,.slice m.A m.n m.c]from rfl)
 have HPC:=hid (show p.cells=#[.int .i64 p.tx,.int .i64 p.ty,.int .i64 p.lev,.int .i64 p.cbw,.int .i64 p.cbh,.int .i64 p.prec,.int .i64 p.style,.int .i64 p.order,.int .i64 p.lay,.bool p.rct,.bool p.sop,.bool p.eph]from rfl)
 have HB1:=hid ((Blk.new w 29 m.cells).alloc (.cells p.cells 31))
 have HB2:=hid (Blk.new1 w (.cells m.cells 29) 31 p.cells)
 have HK0:=hid (((Keep.refl (fun _=>False) w).alloc (.cells m.cells 29)).alloc (.cells p.cells 31))
 clear hC hcs hl
 go_enter Tryz.func50,Tryz.ntmps50
 go_wp2_with fail
 generalize (w.alloc (.cells m.cells 29)).alloc (.cells p.cells 31)=w1 at*
 have m4:w1.cell? ⟨w.heap.size,4,none⟩=some (.slice m.A m.n m.c):=by rw [HB1.out.cell,HMC.out];rfl
 go_loop [5,6] (fun d v=> ∃(i:Nat) (z:Int),i≤m.n∧v=.int .i64 i∧d=.int .i64 z∧0≤z∧z≤10) (fun _ v=>m.n-(intOf v).toNat)
 case atStart=>exact⟨0,0,by omega,rfl,rfl,by omega,by omega⟩
 case round=>
  obtain⟨i,z,hi,rfl,rfl,hz0',hz10⟩:=hrel
  by_cases hin:i<m.n
  · obtain⟨b,o,C,hm,hA,c0,c1,c2,c3,c4⟩:=comp_cells (HR.out.keep0 HK0.out) HL.out hin
    have hd:=HC.out C hm
    rw [hA]at m4
    clear hm hA c1 c2 c3 c4
    go_wp2_with (first|refine wpList_max rfl _ _ _ rfl _ _ rfl rfl ?_|refine wpList_min rfl _ _ _ rfl _ _ rfl rfl ?_)
    go_round
    case rel=>exact⟨i+1,max z C.depth,by omega,by go_num,rfl,by omega,by omega⟩
    case measure=>simp [intOf]<;>omega
  · obtain rfl:i=m.n:=by omega
    have p9:w1.cell? ⟨w.heap.size+1,9,none⟩=some (.bool p.rct):=by rw [HB2.out.cell,HPC.out];rfl
    go_wp2_with (go_at_call 49;refine(bitN_any _ _).mono ?_;rintro e w2 ⟨q,hq0,hq1,rfl,rfl⟩)
    have hb1:w.heap.size≤w1.heap.size:=HK0.out.size
    have HI0:=hid (show EI w m p (some ⟨w1.heap.size,0,none⟩) 1 1 [z+q] (w1.alloc (.cells #[.int .i64 (z+q)] 3))from
     ⟨HB2.out.alloc _,own_new w1 w.heap.size 3 #[.int .i64 (z+q)] 1 rfl (by simp only [maxLen];omega) hb1,HK0.out.alloc _,fun x hx=>by rw [List.mem_singleton]at hx;omega⟩)
    clear p9 m4
    go_loopw [7,8] (fun l v wr=> ∃(k n:Nat) (A:Option Addr) (c:Nat) (zs:List Int),k≤p.lev∧v=.int .i64 k∧l=.slice A n c∧n=1+3*k∧Hid (EI w m p A n c zs wr)) (fun _ v _=>p.lev-(intOf v).toNat)
    case atStart=>exact⟨0,1,_,1,_,by omega,rfl,rfl,rfl,HI0⟩
    case round=>
     clear HI0
     obtain⟨k,n,A,c,zs,hk,rfl,rfl,hn,HI⟩:=hrel
     have p2c:wr.cell? ⟨w.heap.size+1,2,none⟩=some (.int .i64 p.lev):=by rw [HI.out.bp.cell,HPC.out];rfl
     by_cases hkl:k<p.lev
     · have hb:w.heap.size≤wr.heap.size:=HI.out.keep.size
       have HOW:=hid (own_keepF HI.out.own ((Keep.refl (fun _=>False) wr).alloc (.cells #[.int .i64 (z+q+1),.int .i64 (z+q+1),.int .i64 (z+q+2)] 3)))
       have HRD:=hid (show Rd (wr.alloc (.cells #[.int .i64 (z+q+1),.int .i64 (z+q+1),.int .i64 (z+q+2)] 3)) (some ⟨wr.heap.size,0,none⟩) 3 ([z+q+1,z+q+1,z+q+2].map (Value.int .i64))from Rd.of_own (own_new wr w.heap.size 3 #[.int .i64 (z+q+1),.int .i64 (z+q+1),.int .i64 (z+q+2)] 3 rfl (by simp only [maxLen];omega) hb))
       go_wp2_with (
        at_builtin
        go_must (refine wpList_append_src _ rfl (.tmp 37) (.tmp 44) 22 rfl w.heap.size 3 i0 _ 8 Tryz.underlying22 hi0 hz0 hz1 hz2 rfl HOW.out rfl HRD.out rfl (oneCell_ints _ _) (by simp only [maxLen];omega) (by omega) (by simp;omega) ?_)
        intro v2 w3 hown2 hg2 hat2 _hold2
        obtain⟨A3,c3,rfl⟩:=own_form hown2
        have HN6:=hid (show EI w m p A3 (n+3) c3 (zs++[z+q+1,z+q+1,z+q+2]) w3 from
         ⟨HI.out.bp.app HI.out.own (by decide) hg2,by rw [List.map_append];exact hown2,HI.out.keep.appNew HI.out.own (Nat.le_refl _) hg2,fun x hx=>by
          rcases List.mem_append.1 hx with h|h
          · exact HI.out.lim x h
          · simp at h;omega⟩)
        clear hown2 hg2 hat2 _hold2)
       go_roundw
       case rel=>exact⟨k+1,n+3,A3,c3,_,by omega,by go_num,by first|rfl|rw [hn],by omega,HN6⟩
       case measure=>simp [intOf]<;>omega
     · have HZ:=hid (show IntsP (1+3*p.lev) 13 w (.returned (.slice A n c)) wr from by
        obtain rfl:k=p.lev:=by omega
        subst hn
        exact⟨A,c,zs,rfl,by have:=HI.out.own.1;simpa using this,HI.out.lim,own_cap HI.out.own,HI.out.own,HI.out.keep⟩)
       go_wp2_with fail
       go_ret
       exact HZ.out
theorem putB_bytes (x:Int): ∀s,Bytes (putB x s)
 |0=>fun z h=>by cases h
 |s+1=>fun z h=>by
  rcases List.mem_cons.1 h with rfl|h
  · have h1:=Int.emod_nonneg (IntKind.u64.wrap x/2^(8*s)) (show(256:Int)≠0 by omega)
    have h2:=Int.emod_lt_of_pos (IntKind.u64.wrap x/2^(8*s)) (show(0:Int)<256 by omega)
    omega
  · exact putB_bytes x s z h
theorem Bytes.app {a b:List Int} (ha:Bytes a) (hb:Bytes b):Bytes (a++b):=fun z h=>by
 rcases List.mem_append.1 h with h|h
 · exact ha z h
 · exact hb z h
structure By (w0:World) (base:Nat) (A:Option Addr) (n c:Nat) (zs:List Int) (w:World):Prop where
 own:w.ownsRow base 5 1 (.slice A n c) n (zs.map (Value.int .u8))
 keep:Keep (fun _=>False) w0 w
 bytes:Bytes zs
 b0:w0.heap.size≤base
 b1:base≤w.heap.size
def Loc (w:World) (A A':Option Addr):Prop:=A'=A∨ ∃a,A'=some a∧w.heap.size≤a.block
section
variable {w0 w w':World} {base:Nat} {A A' X:Option Addr} {n c n' c':Nat} {zs:List Int}
theorem By.len (h:By w0 base A n c zs w):zs.length=n:=by have:=h.own.1;simpa using this
theorem By.nil (w0:World):By w0 w0.heap.size none 0 0 [] w0:=⟨World.ownsRow_nil _ _ _ _,Keep.refl _ _,fun _ h=>(by cases h),Nat.le_refl _,Nat.le_refl _⟩
theorem By.keepF (h:By w0 base A n c zs w) (hk:Keep (fun _=>False) w w'):By w0 base A n c zs w':=⟨own_keepF h.own hk,h.keep.trans hk (fun _ _ h=>h),h.bytes,h.b0,Nat.le_trans h.b1 hk.size⟩
theorem By.rd (h:By w0 base A n c zs w):Rd w A n (zs.map (Value.int .u8)):=Rd.of_own h.own
theorem By.lt (h:By w0 base A n c zs w) {a:Addr} (e:A=some a):a.block<w.heap.size:=by subst e;exact(h.own.lt a.block (by simp [Value.ownBlock])).2
theorem loc_of {v v':Value} (hv:v=.slice A n c) (hv':v'=.slice A' n' c') (h:v'.ownBlock=v.ownBlock∨ ∃k,v'.ownBlock=some k∧w.heap.size≤k) (hA: ∀a,A=some a→a=⟨a.block,0,none⟩) (hA': ∀a,A'=some a→a=⟨a.block,0,none⟩):Loc w A A':=by
 subst hv hv'
 rcases A' with _|a'
 · rcases A with _|a
   · exact .inl rfl
   · rcases h with h|⟨k,h,_⟩<;>simp [Value.ownBlock]at h
 · rcases h with h|⟨k,h,hk⟩
   · rcases A with _|a
     · simp [Value.ownBlock]at h
     · simp [Value.ownBlock]at h
       rw [hA a rfl,hA' a' rfl,h]
       exact .inl rfl
   · simp [Value.ownBlock]at h
     exact .inr ⟨a',rfl,by omega⟩
theorem own_head {e:TypeId} {size:Nat} {xs:List Value} (h:w.ownsRow base e size (.slice A n c) n xs): ∀a,A=some a→a=⟨a.block,0,none⟩:=by
 intro a e
 subst e
 rcases h.2 with⟨hv,_⟩|⟨g,cap,cur,hv,_⟩
 · cases hv
 · injection hv with hv
   injection hv with hv
   rw [hv]
theorem Loc.apart (h:Loc w A A') (hx: ∀a x,A=some a→X=some x→a.block≠x.block) (hw: ∀x,X=some x→x.block<w.heap.size): ∀a x,A'=some a→X=some x→a.block≠x.block:=by
 intro a x ea ex
 rcases h with h|⟨b,h,hb⟩
 · rw [h]at ea;exact hx a x ea ex
 · rw [ea]at h;injection h with h;subst h;have:=hw x ex;omega
end
theorem put_at (w0 w:World) (base:Nat) (A:Option Addr) (n c:Nat) (zs:List Int) (s:Nat) (x:Int) (h:By w0 base A n c zs w) (hn:n≤70368744177664) (hs1:1≤s) (hs2:s≤8):
 Calls Tryz.prog 24 #[.slice A n c,.int .i64 s,.int .i64 x] w fun e w'=> ∃A' c',e=.returned (.slice A' (n+s) c')∧By w0 base A' (n+s) c' (zs++putB x s) w'∧Keep (fun k=>(Value.slice A n c).ownBlock=some k) w w'∧Loc w A A':=by
 refine(refput_any A n c zs s x w base h.own h.b1 hn (by omega) (by omega)).mono ?_
 rintro e w' ⟨v',rfl,h1,h2,h3,h4⟩
 rw [Int.toNat_natCast]at h1
 obtain⟨A',c',rfl⟩:=own_form h1
 exact⟨A',c',rfl,⟨h1,keep_app h.keep h.own h.b0 h3,h.bytes.app (putB_bytes x s),h.b0,Nat.le_trans h.b1 h3.size⟩,h3,loc_of rfl rfl h4 (own_head h.own) (own_head h1)⟩
def segB (mark:Int) (xs:List Int):List Int:=putB mark 2++(putB ((xs.length:Int)+2) 2++xs)
theorem segB_len (mark:Int) (xs:List Int):(segB mark xs).length=4+xs.length:=by
 unfold segB
 simp only [List.length_append,putB_length]
 omega
def FA (A:Option Addr) (k:Nat):Prop:= ∃a,A=some a∧a.block=k
theorem fa_of {A:Option Addr} {n c k:Nat} (h:(Value.slice A n c).ownBlock=some k):FA A k:=by
 rcases A with _|a
 · simp [Value.ownBlock]at h
 · simp [Value.ownBlock]at h
   exact⟨a,rfl,h⟩
theorem fa_own {A:Option Addr} {n c k:Nat} (h:FA A k):(Value.slice A n c).ownBlock=some k:=by
 obtain⟨a,rfl,h⟩:=h
 simp [Value.ownBlock,h]
theorem Loc.keep {w w1 w2:World} {A A1:Option Addr} (h:Loc w A A1) (h1:Keep (FA A) w w1) (h2:Keep (FA A1) w1 w2):Keep (FA A) w w2:=
 h1.trans h2 (fun i hi hf=>by
  obtain⟨a,e,hb⟩:=hf
  rcases h with h|⟨b,h,hb2⟩
  · exact⟨a,by rw [← h];exact e,hb⟩
  · rw [e]at h;injection h with h;subst h;omega)
theorem Loc.trans {w w1:World} {A A1 A2:Option Addr} (h:Loc w A A1) (h2:Loc w1 A1 A2) (hs:w.heap.size≤w1.heap.size):Loc w A A2:=by
 rcases h2 with e|⟨a,e,ha⟩
 · rw [e];exact h
 · exact .inr ⟨a,e,by omega⟩
def MoreP (w0 w:World) (base:Nat) (A:Option Addr) (n k:Nat) (zs ys:List Int) (e:Ending) (w':World):Prop:=
 ∃A' c',e=.returned (.slice A' (n+k) c')∧By w0 base A' (n+k) c' (zs++ys) w'∧Loc w A A'∧Keep (FA A) w w'
theorem seg_any (w0 w:World) (base:Nat) (A:Option Addr) (n c:Nat) (zs:List Int) (mark:Int) (X:Option Addr) (m cx:Nat) (xs:List Int) (h:By w0 base A n c zs w) (hx:Rd w X m (xs.map (Value.int .u8))) (hb:Bytes xs)
 (hap: ∀a x,A=some a→X=some x→a.block≠x.block) (hlt: ∀x,X=some x→x.block<w.heap.size) (hn:n≤1000000) (hm:m≤1000000):
 Calls Tryz.prog 34 #[.slice A n c,.int .i64 mark,.slice X m cx] w (MoreP w0 w base A n (4+m) zs (segB mark xs)):=by
 obtain⟨i0,hi0,hz0,hz1,hz2⟩:=info_parts info_u8
 have hxl:=hx.len
 have HX:=hid hx
 have HB:=hid hb
 have HH:=hid h
 have HAP:=hid hap
 have HLT:=hid hlt
 have HXL:=hid hxl
 clear h hx hb hap hlt hxl
 go_enter Tryz.func34,Tryz.ntmps34
 go_wp2_with fail
 refine(put_at w0 _ base A n c zs 2 mark HH.out (by omega) (by omega) (by omega)).mono ?_
 rintro e w1 ⟨A1,c1,rfl,h1,hk1,hl1⟩
 have H1:=hid h1
 have hne1: ∀x,X=some x→ ¬(Value.slice A n c).ownBlock=some x.block:=fun x ex e=>by
  rcases A with _|a
  · simp [Value.ownBlock]at e
  · simp [Value.ownBlock]at e
    exact HAP.out a x rfl ex e
 have HX1:=hid (HX.out.keep hk1 hne1)
 have HA1:=hid (hl1.apart HAP.out HLT.out)
 have HL1:=hid hl1
 have hs1:=hk1.size
 have HK1:=hid (hk1.mono (fun _ _ h=>fa_of h))
 clear h1 hk1 hl1 hne1
 go_wp2_with fail
 refine(put_at w0 _ base A1 (n+2) c1 (zs++putB mark 2) 2 _ H1.out (by omega) (by omega) (by omega)).mono ?_
 rintro e w2 ⟨A2,c2,rfl,h2,hk2,hl2⟩
 have hne2: ∀x,X=some x→ ¬(Value.slice A1 (n+2) c1).ownBlock=some x.block:=fun x ex e=>by
  rcases A1 with _|a
  · simp [Value.ownBlock]at e
  · simp [Value.ownBlock]at e
    exact HA1.out a x rfl ex e
 have H2:=hid h2
 have HX2:=hid (HX1.out.keep hk2 hne2)
 have HA2:=hid (hl2.apart HA1.out (fun x ex=>by have:=HLT.out x ex;omega))
 have HL2:=hid (HL1.out.trans hl2 hs1)
 have HKA:=hid (HL1.out.keep HK1.out (hk2.mono (fun _ _ h=>fa_of h)))
 have HS2:=hid (show w.heap.size≤w2.heap.size by have:=hk2.size;omega)
 have hb2:=H2.out.b1
 have hb0:=H2.out.b0
 clear h2 hk2 hl2 hne2
 go_wp2_with (
  at_builtin
  go_must (refine wpList_append_src _ rfl (.tmp 13) (.tmp 14) 25 rfl base 5 i0 _ 1 Tryz.underlying25 hi0 hz0 hz1 hz2 rfl H2.out.own rfl HX2.out rfl (oneCell_ints _ _) (by simp only [maxLen];omega) (by omega) hb2 ?_)
  intro v2 w3 hown2 hg2 hat2 _hold2
  obtain⟨A3,c3,rfl⟩:=own_form hown2
  have HZ:=hid (show MoreP w0 w base A n (4+m) zs (segB mark xs) (.returned (.slice A3 (n+2+2+m) c3)) w3 from by
   have hk3:Keep (fun k=>(Value.slice A2 (n+2+2) c2).ownBlock=some k) w2 w3:=(Keep.refl _ w2).grown hg2 (fun k hk=>.inl hk)
   rw [← List.map_append]at hown2
   have hown3:=hown2
   rw [show n+2+2+m=n+(4+m) by omega]at hown3 ⊢
   refine⟨A3,c3,rfl,⟨?_,keep_app H2.out.keep H2.out.own hb0 hk3,?_,hb0,Nat.le_trans hb2 hk3.size⟩,?_⟩
   · have e:zs++segB mark xs=zs++putB mark 2++putB ((m:Int)+2) 2++xs:=by unfold segB;rw [HXL.out];simp only [List.append_assoc]
     rw [e]
     exact hown3
   · exact HH.out.bytes.app ((putB_bytes _ _).app ((putB_bytes _ _).app HB.out))
   · have hl3:Loc w2 A2 A3:=loc_of rfl rfl (hat2.imp id (fun e=>⟨_,e,Nat.le_refl _⟩)) (own_head H2.out.own) (own_head hown2)
     exact⟨HL2.out.trans hl3 HS2.out,HL2.out.keep HKA.out (hk3.mono (fun _ _ h=>fa_of h))⟩)
  clear hown2 hg2 hat2 _hold2)
 go_ret
 exact HZ.out
theorem crefine_any (w:World) (base:Nat) (d:Cd) (band style:Int) (raw:Bool) (u:Ws) (ph:Nat) (h:Cod base d band style raw u ph w) (plane:Nat) (hp:plane≤40) (hl:ph+7200≤536870912):
 Calls Tryz.prog 109 #[.pointer (some ⟨d.g,0,none⟩),.int .i64 plane] w (CodP base d band style raw u (ph+7200) w):=by
 have HR0:=hid h
 have HM0:=hid (Mv.refl d u w)
 have hWl:=h.rd.w1
 have hHl:=h.rd.h1
 have hW0:=h.rd.w0
 have hH0:=h.rd.h0
 have hN:=h.rd.n144
 have hN0:0<d.W*d.H:=Nat.mul_pos hW0 hH0
 have e1:(d.W:Int)*(d.H:Int)=((d.W*d.H:Nat):Int):=by push_cast;rfl
 have e2:IntKind.i64.wrap ((d.W*d.H:Nat):Int)=((d.W*d.H:Nat):Int):=IntWalk.i64_in _ (by omega)
 have e3:wrap64 ((d.W*d.H:Nat):Int)=((d.W*d.H:Nat):Int):=IntWalk.wrap64_in _ (by omega)
 have HIX:=hid (fun x y (hx:x<d.W) (hy:y<d.H)=>ix_lt hx hy)
 have HAT:=hid (fun w n (hn:n<d.W*d.H)=>at_any w d.W d.H n hW0 (by omega) hH0 (by omega) hn)
 clear h
 obtain⟨N,hNN⟩: ∃N,d.W*d.H=N:=⟨_,rfl⟩
 have HNN:=hid hNN
 rw [hNN]at e1 e2 e3 hN hN0
 clear hNN
 go_enter Tryz.func109,Tryz.ntmps109
 go_wp2_with fail
 go_loopw [4] (fun v wr=> ∃(n:Nat) (u1:Ws),n≤N∧v=.int .i64 n∧Hid (Cod base d band style raw u1 (ph+32*n) wr)∧Hid (Mv d u u1 w wr)) (fun v _=>N-(intOf v).toNat)
 case atStart=>exact⟨0,u,by omega,rfl,HR0,HM0⟩
 case round=>
  clear HR0 HM0
  obtain⟨n,u1,hn,rfl,HC,HM⟩:=hrel
  have q0:=(HC.out.place (v:=0) (by rw [HNN.out];omega))
  obtain⟨c0,c1,_⟩:=q0
  go_wp2_with fail
  go_quiet (fail)
  replace HC:=hid (HC.out.keepF ((Keep.refl _ wr).drewN nq))
  replace HM:=hid (HM.out.aside ((Keep.refl _ wr).drewN nq))
  clear c0 c1
  generalize wr.drewN nq=wq at*
  by_cases hnN:n<N
  · go_wp2_with fail
    have p0:wq.drew.cell? ⟨d.g,0,none⟩=some (.int .i64 d.W):=(HC.out.place (v:=0) (by rw [HNN.out];omega)).1
    have p1:wq.drew.cell? ⟨d.g,1,none⟩=some (.int .i64 d.H):=(HC.out.place (v:=0) (by rw [HNN.out];omega)).2.1
    refine At.start (L:=#[false,false,false,false,false,false,false,false,false,false,false,false,false,false,false]) (by kernel_rfl) rfl ?_
    refine AtP 0 (some 25) ?_
    try simp only [NS]
    refine AtP 1 (some 26) ?_
    try simp only [NS]
    refine AtP 2 (some 27) ?_
    try simp only [NS]
    first|refine AtL 3 (some 28) Tryz.underlying3 ?_|refine AtR 3 (some 28) Tryz.underlying3 ?_
    try simp only [NS]
    refine AtP 4 (some 29) ?_
    try simp only [NS]
    refine AtP 5 (some 30) ?_
    try simp only [NS]
    refine AtP 6 (some 31) ?_
    try simp only [NS]
    first|refine AtL 7 (some 32) Tryz.underlying3 ?_|refine AtR 7 (some 32) Tryz.underlying3 ?_
    try simp only [NS]
    refine AtP 8 (some 33) ?_
    try simp only [NS]
    refine AtC 9 fun K hK=>?_
    go_simp
    refine(HAT.out _ n (by rw [HNN.out];exact hnN)).mono ?_
    rintro e w2 ⟨x,y,m,hx,hy,rfl,hw⟩
    have hk:Keep (fun _=>False) wq w2:=by rw [hw];exact(Keep.refl _ wq).drew.drewN m
    have p0:w2.cell? ⟨d.g,0,none⟩=some (.int .i64 d.W):=by rw [hw];exact p0
    have p1:w2.cell? ⟨d.g,1,none⟩=some (.int .i64 d.H):=by rw [hw];exact p1
    replace HC:=hid (HC.out.keepF hk)
    replace HM:=hid (HM.out.aside hk)
    clear hk hw
    refine hK _ _ all_nil ?_
    clear hK K
    try simp only [NS]
    refine AtP 10 (some 24) ?_
    try simp only [NS]
    refine AtP 11 (some 35) ?_
    try simp only [NS]
    refine AtP 12 (some 36) ?_
    try simp only [NS]
    refine AtP 13 (some 5) ?_
    try simp only [NS]
    refine AtP 14 (some 6) ?_
    try simp only [NS]
    refine At.done (by kernel_rfl) ?_
    have hix:=HIX.out x y hx hy
    have hxl:x<100:=by omega
    have hyl:y<100:=by omega
    obtain⟨v,hv⟩: ∃v,y*d.W+x=v:=⟨_,rfl⟩
    rw [hv]at hix
    obtain⟨r0,r1,r6,r7,r8,⟨sg,hsg⟩,⟨se,hse⟩,⟨ag,hag⟩,fse,fag⟩:=HC.out.place hix
    rw [HNN.out]at r6 r7 r8
    have hixN:v<N:=by rw [← HNN.out];exact hix
    have HIV:=hid hix
    have f1:(y:Int)*(d.W:Int)=((y*d.W:Nat):Int):=by push_cast;rfl
    have f2:IntKind.i64.wrap ((y*d.W:Nat):Int)=((y*d.W:Nat):Int):=IntWalk.i64_in _ (by omega)
    generalize y*d.W=q at*
    have f3:(q:Int)+(x:Int)=(v:Int):=by omega
    have HXY:=hid (And.intro hx hy)
    have HV:=hid hv
    clear hv hx hy p0 p1 r1 hix
    cases sg with
    |false=>
     go_wp2_with fail
     go_roundw
     case rel=>exact⟨n+1,u1,by omega,by go_num,hid (HC.out.up (by omega) (by omega)),HM⟩
     case measure=>simp [intOf];omega
    |true=>
     cases se with
     |true=>
      go_wp2_with fail
      go_roundw
      case rel=>exact⟨n+1,u1,by omega,by go_num,hid (HC.out.up (by omega) (by omega)),HM⟩
      case measure=>simp [intOf];omega
     |false=>
      go_wp2_with fail
      refine(around_any _ d band style raw HC.out.rd x y (by omega) (by omega)).mono ?_
      rintro e w3 ⟨a,b,c,ha,hb,hc,rfl,hk⟩
      have HC3:=hid (HC.out.keepF hk)
      have HM3:=hid (HM.out.aside hk)
      obtain⟨_,_,_,_,s8,_,_,⟨ag3,hag3⟩,_,fag3⟩:=HC3.out.place HIV.out
      rw [HNN.out]at s8
      have HMG:=hid (fun kn hk=>cmag_any w3 base d band style raw u1 (ph+32*n) HC3.out v plane kn HIV.out hp hk (by omega))
      clear hk HC HM r0 r6 r7 r8 hsg hse hag fse fag
      go_wp2_with fail
      refine(refine7_any _ _ _).mono ?_
      rintro e w4 ⟨k,hk1,hk2,rfl,hw⟩
      cases hw
      obtain⟨kn,rfl⟩: ∃kn:Nat,k=kn:=⟨k.toNat,by omega⟩
      go_wp2_with fail
      refine(HMG.out kn (by omega)).mono ?_
      rintro e w4 ⟨bb,u4,rfl,h4,m4⟩
      have HC4:=hid h4
      have HM4:=hid (HM3.out.trans m4)
      obtain⟨_,_,_,_,t8,_,_,⟨ag4,hag4⟩,_,fag4⟩:=h4.place HIV.out
      rw [HNN.out]at t8
      clear h4 m4 s8 hag3 fag3 HMG
      go_wp2_with fail
      go_roundw
      case rel=>exact⟨n+1,u4,by omega,by go_num,hid (((HC4.out.setBool HC4.out.rd.again v true)).up (by omega) (by omega)),hid (HM4.out.set (.inr (.inr (.inr (.inr (.inr rfl))))) v _)⟩
      case measure=>simp [intOf];omega
  · obtain rfl:n=N:=by omega
    go_wp2_with fail
    go_end0
    exact⟨u1,rfl,HC.out.up (by omega) (by omega),HM.out⟩
end Go.Proofs.YthfogcgdijmaoaaGreat
