/-
  Part 7 of the proof: Leaf Leaf2 Cod Bunch Num15 CloneI FormS Form. Conditions: those of the statements.
-/
import Derived.Test.YthfogcgdijmaoaaGreatW1
import Derived.Test.YthfogcgdijmaoaaGreatW2
import Derived.Test.YthfogcgdijmaoaaGreatW6
import Derived.Deep.QuietTactic
import Derived.BigQuiet
import Derived.ChangeSame
import Derived.Test.YthfogcgdijmaoaaGreatChecked
set_option maxRecDepth 100000
set_option maxHeartbeats 16000000
set_option linter.unusedVariables false
set_option linter.unusedSimpArgs false
namespace Go.Proofs.YthfogcgdijmaoaaGreat
open Go.RowKit
def SomeB (w:World) (e:Ending) (w':World):Prop:= ∃b:Bool,e=.returned (.bool b)∧w=w'
def SomeN (a b:Int) (w:World) (e:Ending) (w':World):Prop:= ∃k:Int,a≤k∧k≤b∧e=.returned (.int .i64 k)∧w=w'
def kindM (k:Nat):Int:=if k=0 then 2 else(((k-1)%3:Nat):Int)
theorem kind_any (w:World) (k:Nat) (hk:k≤1000000):Calls Tryz.prog 107 #[.int .i64 k] w (SomeN 0 2 w):=by
 have HD:Hid (∀ z:Int,0≤z→z≤2→SomeN 0 2 w (.returned (.int .i64 z)) w):=hid (fun z h1 h2=>⟨z,h1,h2,rfl,rfl⟩)
 by_cases h0:k=0
 · subst h0
   go_enter Tryz.func107,Tryz.ntmps107
   go_wp2_with fail
   go_ret
   exact HD.out 2 (by omega) (by omega)
 · obtain⟨j,rfl⟩: ∃j,k=j+1:=⟨k-1,by omega⟩
   have h1:(((j+1:Nat):Int)==0)=false:=by simp;omega
   have h2:IntKind.i64.wrap (((j+1:Nat):Int)-1)=(j:Int):=by rw [IntWalk.i64_in _ (by omega)];omega
   go_enter Tryz.func107,Tryz.ntmps107
   go_wp2_with fail
   go_ret
   exact HD.out _ (by first|omega|(simp;omega)) (by first|omega|(simp;omega))
theorem count_any8 (w:World) (p:Nat) (hp:p≤1000):Calls Tryz.prog 84 #[.int .i64 p] w fun e w'=>e=.returned (.int .i64 ((3*p-2:Nat):Int))∧w=w':=by
 by_cases h0:p<1
 · obtain rfl:p=0:=by omega
   go_enter Tryz.func84,Tryz.ntmps84
   go_wp2_with fail
   go_ret
   exact⟨rfl,rfl⟩
 · go_enter Tryz.func84,Tryz.ntmps84
   go_wp2_with fail
   go_ret
   exact⟨ret_i64 (by omega),rfl⟩
theorem one_any (w:World) (b:Bool):Calls Tryz.prog 83 #[.bool b] w fun e w'=>e=.returned (.int .i64 (if b then 1 else 0))∧w=w':=by
 cases b
 all_goals
  go_enter Tryz.func83,Tryz.ntmps83
  go_wp2_with fail
  go_ret
  exact⟨rfl,rfl⟩
theorem bit17_any (w:World) (b:Bool):Calls Tryz.prog 49 #[.bool b] w fun e w'=>e=.returned (.int .i64 (if b then 1 else 0))∧w=w':=by
 cases b
 all_goals
  go_enter Tryz.func49,Tryz.ntmps49
  go_wp2_with fail
  go_ret
  exact⟨rfl,rfl⟩
theorem may_any (w:World) (x y b s:Nat) (hx:1≤x∧x≤64) (hy:1≤y∧y≤64) (hb:b≤3) (hs:s≤63):Calls Tryz.prog 81 #[.int .i64 x,.int .i64 y,.int .i64 b,.int .i64 s] w fun e w'=>e=.returned (.bool true)∧w=w':=by
 have hsd:decide ((s:Int)≤63)=true:=by simp;omega
 go_enter Tryz.func81,Tryz.ntmps81
 go_wp2_with fail
 go_ret
 exact⟨rfl,rfl⟩
theorem ends8_any (w:World) (s:Int) (k:Nat) (hk:k≤1000000):Calls Tryz.prog 91 #[.int .i64 s,.int .i64 k] w (SomeB w):=by
 have HD:Hid (∀ b:Bool,SomeB w (.returned (.bool b)) w):=hid (fun b=>⟨b,rfl,rfl⟩)
 have KA:=fun w=>kind_any w k hk
 go_enter Tryz.func91,Tryz.ntmps91
 go_wp2_with (go_at_call 107;refine(KA _).mono ?_;rintro e w2 ⟨z,_,_,rfl,rfl⟩)
 all_goals(go_ret;exact HD.out _)
theorem israw_any (w:World) (s:Int) (k:Nat) (hk:k≤1000000):Calls Tryz.prog 85 #[.int .i64 s,.int .i64 k] w (SomeB w):=by
 have HD:Hid (∀ b:Bool,SomeB w (.returned (.bool b)) w):=hid (fun b=>⟨b,rfl,rfl⟩)
 have KA:=fun w=>kind_any w k hk
 go_enter Tryz.func85,Tryz.ntmps85
 go_wp2_with (go_at_call 107;refine(KA _).mono ?_;rintro e w2 ⟨z,_,_,rfl,rfl⟩)
 all_goals(go_ret;exact HD.out _)
theorem ends14_any (w:World) (s:Int) (k:Nat) (hk:k≤1000000):Calls Tryz.prog 113 #[.int .i64 s,.int .i64 k] w (SomeB w):=by
 have HD:Hid (∀ b:Bool,SomeB w (.returned (.bool b)) w):=hid (fun b=>⟨b,rfl,rfl⟩)
 have KA:=fun w=>ends8_any w s k hk
 go_enter Tryz.func113,Tryz.ntmps113
 go_wp2_with (go_at_call 91;refine(KA _).mono ?_;rintro e w2 ⟨z,rfl,rfl⟩)
 all_goals(go_ret;exact HD.out _)
def SomeXY (W H:Nat) (w:World) (e:Ending) (w':World):Prop:= ∃x y n:Nat,x<W∧y<H∧e=.returned (.tuple #[.int .i64 x,.int .i64 y])∧w'=w.drewN n
theorem at_math (W H k:Nat) (hW:0<W) (hk:k<W*H):
 4*W*(k/W/4)≤k∧4*(k/W/4)<H∧0<min 4 (H-4*(k/W/4))∧(k-4*W*(k/W/4))/min 4 (H-4*(k/W/4))<W∧4*(k/W/4)+(k-4*W*(k/W/4))%min 4 (H-4*(k/W/4))<H:=by
 have h1:k/W<H:=by rw [Nat.div_lt_iff_lt_mul hW,Nat.mul_comm];exact hk
 have h2:=Nat.div_add_mod k W
 have h3:=Nat.mod_lt k hW
 generalize hq:k/W=q at*
 generalize hr:k%W=r at*
 obtain⟨s,hs⟩: ∃s,q/4=s:=⟨_,rfl⟩
 rw [hs]
 have h4:4*s≤q:=by omega
 have h5:q<4*s+4:=by omega
 have e1:4*W*s=W*(4*s):=by rw [Nat.mul_comm 4 W,Nat.mul_assoc]
 have h6:W*(4*s)≤W*q:=Nat.mul_le_mul_left W h4
 rw [e1]
 have hm:0<min 4 (H-4*s):=by omega
 refine⟨by omega,by omega,hm,?_,?_⟩
 · rw [Nat.div_lt_iff_lt_mul hm]
   have e2:W*q=W*(4*s)+W*(q-4*s):=by rw [← Nat.mul_add];congr 1;omega
   have h7:W*(q-4*s)+W≤W*min 4 (H-4*s):=by
    have:q-4*s+1≤min 4 (H-4*s):=by omega
    have:=Nat.mul_le_mul_left W this
    rwa [Nat.mul_add,Nat.mul_one]at this
   omega
 · have:=Nat.mod_lt (k-W*(4*s)) hm
   omega
theorem at_any (w:World) (W H k:Nat) (hW:0<W) (hW2:W≤64) (hH:0<H) (hH2:H≤64) (hk:k<W*H):Calls Tryz.prog 116 #[.int .i64 W,.int .i64 H,.int .i64 k] w (SomeXY W H w):=by
 obtain⟨m1,m2,m3,m4,m5⟩:=at_math W H k hW hk
 have hk2:W*H≤64*64:=Nat.mul_le_mul hW2 hH2
 have hk3:k<4096:=by omega
 have hq:k/W<H:=by rw [Nat.div_lt_iff_lt_mul hW,Nat.mul_comm];exact hk
 have e1:(k:Int)/(W:Int)=((k/W:Nat):Int):=by simp
 have hql:k/W≤k:=Nat.div_le_self _ _
 have hws:4*W*(k/W/4)≤k:=m1
 clear hk hk2
 generalize k/W=q at*
 obtain⟨s,hs⟩: ∃s,q/4=s:=⟨_,rfl⟩
 rw [hs]at m1 m2 m3 m4 m5 hws
 have e4:(4*(W:Int))*(s:Int)=((4*W*s:Nat):Int):=by push_cast;rfl
 have e3:(q:Int)/4=(s:Int):=by omega
 have e3':(q:Int).tdiv 4=(s:Int):=by rw [Int.tdiv_eq_ediv_of_nonneg (by omega)];exact e3
 have hs2:s≤16:=by omega
 generalize 4*W*s=p at*
 have hwq:IntKind.i64.wrap (q:Int)=q:=IntWalk.i64_in _ (by omega)
 have hws':IntKind.i64.wrap (s:Int)=s:=IntWalk.i64_in _ (by omega)
 have e5:IntKind.i64.wrap (p:Int)=p:=IntWalk.i64_in _ (by omega)
 obtain⟨R,hR⟩: ∃R,min 4 (H-4*s)=R:=⟨_,rfl⟩
 rw [hR]at m3 m4 m5
 have hRi:min (4:Int) ((H:Int)-4*(s:Int))=(R:Int):=by omega
 have e6:((k:Int)-(p:Int))=((k-p:Nat):Int):=by omega
 generalize k-p=t at*
 have e7:(t:Int)/(R:Int)=((t/R:Nat):Int):=by simp
 have e8:(t:Int)%(R:Int)=((t%R:Nat):Int):=by simp
 have e7':(t:Int).tdiv (R:Int)=((t/R:Nat):Int):=by rw [Int.tdiv_eq_ediv_of_nonneg (by omega)];exact e7
 have e8':(t:Int).tmod (R:Int)=((t%R:Nat):Int):=by rw [Int.tmod_eq_emod_of_nonneg (by omega)];exact e8
 generalize t/R=x at*
 generalize t%R=y at*
 have e9:IntKind.i64.wrap (x:Int)=x:=IntWalk.i64_in _ (by omega)
 have e9':IntKind.i64.wrap (y:Int)=y:=IntWalk.i64_in _ (by omega)
 have HD:Hid (∀ n,SomeXY W H w (.returned (.tuple #[.int .i64 x,.int .i64 (4*s+y)])) (w.drewN n)):=hid (fun n=>⟨x,4*s+y,n,m4,m5,by push_cast;rfl,rfl⟩)
 have hz1: ¬(W:Int)=0:=by omega
 have hz2: ¬(R:Int)=0:=by omega
 have hz3:((W:Int)==0)=false:=by simp;omega
 have hz4:((R:Int)==0)=false:=by simp;omega
 clear e3 e7 e8 hs
 go_enter Tryz.func116,Tryz.ntmps116
 go_wp2_with ((first|refine wpList_max rfl _ _ _ rfl _ _ rfl rfl ?_|refine wpList_min rfl _ _ _ rfl _ _ rfl rfl ?_))
 go_quiet (fail)
 go_wp2_with fail
 exact bodyPost_ret (v:=.tuple #[_,_]) (by simp [results,Tryz.results116,go_sem]<;>exact⟨rfl,rfl⟩) rfl (HD.out _)
theorem zero_any (w:World) (b h v d:Int) (hh:0≤h∧h≤2) (hv:0≤v∧v≤2) (hd:0≤d∧d≤4):Calls Tryz.prog 124 #[.int .i64 b,.int .i64 h,.int .i64 v,.int .i64 d] w (SomeN 0 8 w):=by
 have HD:Hid (∀ z:Int,0≤z→z≤8→SomeN 0 8 w (.returned (.int .i64 z)) w):=hid (fun z h1 h2=>⟨z,h1,h2,rfl,rfl⟩)
 obtain⟨h1,h2⟩:=hh
 obtain⟨v1,v2⟩:=hv
 obtain⟨d1,d2⟩:=hd
 by_cases hb:b=3
 · subst hb
   go_enter Tryz.func124,Tryz.ntmps124
   go_wp2_with ((first|refine wpList_max rfl _ _ _ rfl _ _ rfl rfl ?_|refine wpList_min rfl _ _ _ rfl _ _ rfl rfl ?_))
   all_goals(go_ret;refine HD.out _ ?_ ?_<;>omega)
 · have hb1:(b==3)=false:=by simpa using hb
   clear hb
   by_cases hb2:b=1
   · subst hb2
     go_enter Tryz.func124,Tryz.ntmps124
     go_wp2_with ((first|refine wpList_max rfl _ _ _ rfl _ _ rfl rfl ?_|refine wpList_min rfl _ _ _ rfl _ _ rfl rfl ?_))
     all_goals(go_ret;refine HD.out _ ?_ ?_<;>omega)
   · have hb3:(b==1)=false:=by simpa using hb2
     clear hb2
     go_enter Tryz.func124,Tryz.ntmps124
     go_wp2_with ((first|refine wpList_max rfl _ _ _ rfl _ _ rfl rfl ?_|refine wpList_min rfl _ _ _ rfl _ _ rfl rfl ?_))
     all_goals(go_ret;refine HD.out _ ?_ ?_<;>omega)
def SignP (w:World) (e:Ending) (w':World):Prop:= ∃k t:Nat,9≤k∧k≤13∧t≤1∧e=.returned (.tuple #[.int .i64 k,.int .i64 t])∧w=w'
theorem sign7_any (w:World) (h v:Int) (hh:-1≤h∧h≤1) (hv:-1≤v∧v≤1):Calls Tryz.prog 126 #[.int .i64 h,.int .i64 v] w (SignP w):=by
 have HD:Hid (∀ k t:Nat,9≤k→k≤13→t≤1→SignP w (.returned (.tuple #[.int .i64 k,.int .i64 t])) w):=hid (fun k t h1 h2 h3=>⟨k,t,h1,h2,h3,rfl,rfl⟩)
 rcases (show h=-1∨h=0∨h=1 by omega)with rfl|rfl|rfl<;>rcases (show v=-1∨v=0∨v=1 by omega)with rfl|rfl|rfl
 all_goals(
  go_enter Tryz.func126,Tryz.ntmps126
  go_wp2_with fail
  refine bodyPost_ret (v:=.tuple #[_,_]) (by simp [results,Tryz.results126,go_sem]<;>exact⟨rfl,rfl⟩) rfl ?_
  first
  |exact HD.out 13 0 (by omega) (by omega) (by omega)
  |exact HD.out 13 1 (by omega) (by omega) (by omega)
  |exact HD.out 12 0 (by omega) (by omega) (by omega)
  |exact HD.out 12 1 (by omega) (by omega) (by omega)
  |exact HD.out 11 0 (by omega) (by omega) (by omega)
  |exact HD.out 11 1 (by omega) (by omega) (by omega)
  |exact HD.out 10 0 (by omega) (by omega) (by omega)
  |exact HD.out 10 1 (by omega) (by omega) (by omega)
  |exact HD.out 9 0 (by omega) (by omega) (by omega)
  |exact HD.out 9 1 (by omega) (by omega) (by omega))
theorem refine7_any (w:World) (b:Bool) (n:Int):Calls Tryz.prog 121 #[.bool b,.int .i64 n] w (SomeN 14 16 w):=by
 have HD:Hid (∀ z:Int,14≤z→z≤16→SomeN 14 16 w (.returned (.int .i64 z)) w):=hid (fun z h1 h2=>⟨z,h1,h2,rfl,rfl⟩)
 cases b
 all_goals(
  go_enter Tryz.func121,Tryz.ntmps121
  go_wp2_with fail
  all_goals(go_ret;refine HD.out _ ?_ ?_<;>omega))
def passM (t n l:Nat):Nat:=if l<1 then 0 else if l>n then t else t*l/n
theorem passM_le {t n l:Nat} (hn:0<n):passM t n l≤t:=by
 unfold passM
 split
 · omega
 · split
   · omega
   · have:t*l≤t*n:=Nat.mul_le_mul_left t (by omega)
     exact Nat.div_le_of_le_mul (by rw [Nat.mul_comm n t];exact this)
theorem passM_mono {t n l:Nat} (hn:0<n):passM t n l≤passM t n (l+1):=by
 by_cases h1:l<1
 · rw [show passM t n l=0 from if_pos h1];omega
 · by_cases h2:l+1>n
   · rw [show passM t n (l+1)=t by unfold passM;rw [if_neg (by omega),if_pos h2]]
     exact passM_le hn
   · unfold passM
     rw [if_neg h1,if_neg (by omega),if_neg (by omega),if_neg h2]
     exact Nat.div_le_div_right (Nat.mul_le_mul_left t (by omega))
theorem passes_any (w:World) (t n l:Nat) (ht:t≤1000) (hn:0<n) (hn2:n≤8) (hl:l≤100):Calls Tryz.prog 95 #[.int .i64 t,.int .i64 n,.int .i64 l] w fun e w'=>e=.returned (.int .i64 (passM t n l))∧w=w':=by
 by_cases h1:l<1
 · rw [show passM t n l=0 from if_pos h1]
   obtain rfl:l=0:=by omega
   go_enter Tryz.func95,Tryz.ntmps95
   go_wp2_with fail
   go_ret
   exact⟨rfl,rfl⟩
 · by_cases h2:l>n
   · rw [show passM t n l=t by unfold passM;rw [if_neg h1,if_pos h2]]
     go_enter Tryz.func95,Tryz.ntmps95
     go_wp2_with fail
     go_ret
     exact⟨rfl,rfl⟩
   · have e0:passM t n l=t*l/n:=by unfold passM;rw [if_neg h1,if_neg h2]
     have e0l:passM t n l≤t:=passM_le hn
     rw [e0]at e0l ⊢
     have e1:t*l≤1000*100:=Nat.mul_le_mul ht hl
     have e2:(t:Int)*(l:Int)=((t*l:Nat):Int):=by push_cast;rfl
     generalize t*l=m at*
     have e3:(m:Int)/(n:Int)=((m/n:Nat):Int):=by simp
     have e3':(m:Int).tdiv (n:Int)=((m/n:Nat):Int):=by rw [Int.tdiv_eq_ediv_of_nonneg (by omega)];exact e3
     generalize m/n=q at*
     have e4:IntKind.i64.wrap (m:Int)=m:=IntWalk.i64_in _ (by omega)
     have e5:wrap64 (m:Int)=m:=IntWalk.wrap64_in _ (by omega)
     have e6:IntKind.i64.wrap (q:Int)=q:=IntWalk.i64_in _ (by omega)
     have e7:wrap64 (q:Int)=q:=IntWalk.wrap64_in _ (by omega)
     have hz1: ¬(n:Int)=0:=by omega
     have hz3:((n:Int)==0)=false:=by simp;omega
     clear e0
     go_enter Tryz.func95,Tryz.ntmps95
     go_wp2_with fail
     go_ret
     exact⟨rfl,rfl⟩
structure Cd where
 g:Nat
 gm:Nat
 gn:Nat
 gs:Nat
 ge:Nat
 ga:Nat
 W:Nat
 H:Nat
 E:Nat
 R:Nat
def IRow (w:World) (g N:Nat) (Q:Int→Prop):Prop:= ∃cs,Blk w g 3 cs∧ ∀i,i<N→ ∃z,Q z∧cs[i]? =some (.int .i64 z)
def BRow (w:World) (g N:Nat):Prop:= ∃cs,Blk w g 4 cs∧ ∀i,i<N→ ∃b,cs[i]? =some (.bool b)
section
variable {w w':World} {g N:Nat} {Q:Int→Prop}
theorem IRow.cell (h:IRow w g N Q) {i:Nat} (hi:i<N): ∃z,Q z∧w.cell? ⟨g,i,none⟩=some (.int .i64 z):=by
 obtain⟨cs,hb,hc⟩:=h
 obtain⟨z,hz,he⟩:=hc i hi
 exact⟨z,hz,(hb.cell i).trans he⟩
theorem BRow.cell (h:BRow w g N) {i:Nat} (hi:i<N): ∃b,w.cell? ⟨g,i,none⟩=some (.bool b):=by
 obtain⟨cs,hb,hc⟩:=h
 obtain⟨b,he⟩:=hc i hi
 exact⟨b,(hb.cell i).trans he⟩
theorem IRow.frozen (h:IRow w g N Q) (i:Nat):w.frozen? ⟨g,i,none⟩=false:=by obtain⟨cs,hb,_⟩:=h;exact hb.frozen i
theorem BRow.frozen (h:BRow w g N) (i:Nat):w.frozen? ⟨g,i,none⟩=false:=by obtain⟨cs,hb,_⟩:=h;exact hb.frozen i
theorem IRow.keep {S:Nat→Prop} (h:IRow w g N Q) (hk:Keep S w w') (hS: ¬S g):IRow w' g N Q:=by
 obtain⟨cs,hb,hc⟩:=h
 exact⟨cs,hb.keep hk hS,hc⟩
theorem BRow.keep {S:Nat→Prop} (h:BRow w g N) (hk:Keep S w w') (hS: ¬S g):BRow w' g N:=by
 obtain⟨cs,hb,hc⟩:=h
 exact⟨cs,hb.keep hk hS,hc⟩
theorem set_at {cs:Array Value} {i j:Nat} {v u:Value} (h:cs[j]? =some u):(cs.setIfInBounds i v)[j]? =if i=j then some v else some u:=by
 have hj:=(Array.getElem?_eq_some_iff.1 h).1
 rw [Array.getElem?_setIfInBounds]
 split
 · rename_i e
   subst e
   simp [hj]
 · exact h
theorem IRow.set (h:IRow w g N Q) (i:Nat) {z:Int} (hz:Q z):IRow (w.setCell ⟨g,i,none⟩ (.int .i64 z)) g N Q:=by
 obtain⟨cs,hb,hc⟩:=h
 refine⟨_,hb.set_ i _,fun j hj=>?_⟩
 obtain⟨y,hy,he⟩:=hc j hj
 rw [set_at he]
 split
 · exact⟨z,hz,rfl⟩
 · exact⟨y,hy,rfl⟩
theorem BRow.set (h:BRow w g N) (i:Nat) (b:Bool):BRow (w.setCell ⟨g,i,none⟩ (.bool b)) g N:=by
 obtain⟨cs,hb,hc⟩:=h
 refine⟨_,hb.set_ i _,fun j hj=>?_⟩
 obtain⟨y,he⟩:=hc j hj
 rw [set_at he]
 split
 · exact⟨b,rfl⟩
 · exact⟨y,rfl⟩
theorem IRow.lt (h:IRow w g N Q):g<w.heap.size:=by obtain⟨cs,hb,_⟩:=h;exact hb.lt
theorem BRow.lt (h:BRow w g N):g<w.heap.size:=by obtain⟨cs,hb,_⟩:=h;exact hb.lt
end
structure CdC (d:Cd) (band style:Int) (raw:Bool) (cs:Array Value):Prop where
 c0:cs[0]? =some (.int .i64 d.W)
 c1:cs[1]? =some (.int .i64 d.H)
 c2:cs[2]? =some (.int .i64 band)
 c3:cs[3]? =some (.int .i64 style)
 c4:cs[4]? =some (.slice (some ⟨d.gm,0,none⟩) (d.W*d.H) (d.W*d.H))
 c5:cs[5]? =some (.slice (some ⟨d.gn,0,none⟩) (d.W*d.H) (d.W*d.H))
 c6:cs[6]? =some (.slice (some ⟨d.gs,0,none⟩) (d.W*d.H) (d.W*d.H))
 c7:cs[7]? =some (.slice (some ⟨d.ge,0,none⟩) (d.W*d.H) (d.W*d.H))
 c8:cs[8]? =some (.slice (some ⟨d.ga,0,none⟩) (d.W*d.H) (d.W*d.H))
 cx: ∀k,k<19→ ∃i m:Nat,i≤46∧m≤1∧cs[9+k*2]? =some (.int .i64 i)∧cs[9+k*2+1]? =some (.int .i64 m)
 c47:cs[47]? =some (.bool true)
 c48:cs[48]? =some (.bool raw)
 c49:cs[49]? =some (.pointer (some ⟨d.E,0,none⟩))
 c50:cs[50]? =some (.pointer (some ⟨d.R,0,none⟩))
structure CdR (d:Cd) (band style:Int) (raw:Bool) (w:World):Prop where
 blk: ∃cs,Blk w d.g 165 cs∧CdC d band style raw cs
 mag:IRow w d.gm (d.W*d.H) (fun z=>0≤z∧z≤1073741823)
 neg:IRow w d.gn (d.W*d.H) (fun z=>0≤z∧z≤1)
 sig:BRow w d.gs (d.W*d.H)
 seen:BRow w d.ge (d.W*d.H)
 again:BRow w d.ga (d.W*d.H)
 w0:0<d.W
 h0:0<d.H
 w1:d.W≤12
 h1:d.H≤12
section
variable {d :Cd} {band style:Int} {raw:Bool} {w w':World}
theorem CdR.keep {S:Nat→Prop} (h:CdR d band style raw w) (hk:Keep S w w') (h1: ¬S d.g) (h2: ¬S d.gm) (h3: ¬S d.gn) (h4: ¬S d.gs) (h5: ¬S d.ge) (h6: ¬S d.ga):CdR d band style raw w':=by
 obtain⟨⟨cs,hb,hc⟩,a,b,c,e,f,r1,r2,r3,r4⟩:=h
 exact⟨⟨cs,hb.keep hk h1,hc⟩,a.keep hk h2,b.keep hk h3,c.keep hk h4,e.keep hk h5,f.keep hk h6,r1,r2,r3,r4⟩
theorem CdR.keepF (h:CdR d band style raw w) (hk:Keep (fun _=>False) w w'):CdR d band style raw w':=h.keep hk id id id id id id
theorem CdR.drewN (h:CdR d band style raw w) (n:Nat):CdR d band style raw (w.drewN n):=h.keepF ((Keep.refl _ w).drewN n)
theorem CdR.f (h:CdR d band style raw w): ∃cs,(∀ i,w.cell? ⟨d.g,i,none⟩=cs[i]?)∧(∀ i,w.frozen? ⟨d.g,i,none⟩=false)∧CdC d band style raw cs:=by
 obtain⟨cs,hb,hc⟩:=h.blk
 exact⟨cs,hb.cell,hb.frozen,hc⟩
theorem CdR.n144 (h:CdR d band style raw w):d.W*d.H≤12*12:=Nat.mul_le_mul h.w1 h.h1
theorem ix_lt {W H x y:Nat} (hx:x<W) (hy:y<H):y*W+x<W*H:=by
 have:(y+1)*W≤H*W:=Nat.mul_le_mul_right W hy
 rw [Nat.add_mul,Nat.one_mul,Nat.mul_comm H W]at this
 omega
end
section
variable {P :Program} {ops:Array Oper} {Q:Exit→Act→World→Prop} {md:Region.Mode}
def putsA (a:Act):List (Nat×Tmp)→List (Option Value)→Act
 |(_,d)::J,some v::vs=>putsA (a.put (some d) v) J vs
 |_::J,none::vs=>putsA a J vs
 |_,_=>a
def putsL (L:Array Bool):List (Nat×Tmp)→List Bool→Array Bool
 |(j,_)::J,true::bs=>putsL (L.setIfInBounds j true) J bs
 |_::J,false::bs=>putsL L J bs
 |_,_=>L
theorem true_comm (L:Array Bool) (i j:Nat):(L.setIfInBounds i true).setIfInBounds j true=(L.setIfInBounds j true).setIfInBounds i true:=by
 by_cases e:i=j
 · subst e;rfl
 · exact Array.setIfInBounds_comm _ _ e
theorem putsL_set : ∀(J:List (Nat×Tmp)) (bs:List Bool) (L:Array Bool) (i:Nat) (j:Nat×Tmp),J[i]? =some j→bs.length=J.length→putsL L J (bs.set i true)=(putsL L J bs).setIfInBounds j.1 true
 |[],_,_,_,_,h,_=>by simp at h
 |_::_,[],_,_,_,_,h=>by simp at h
 |(k,d)::J,b::bs,L,0,j,h,hl=>by
  simp at h
  subst h
  have key: ∀(J:List (Nat×Tmp)) (bs:List Bool) (L:Array Bool),putsL (L.setIfInBounds k true) J bs=(putsL L J bs).setIfInBounds k true:=fun J=>by
   induction J with
   |nil=>intro bs L;cases bs<;>rfl
   |cons x J ih=>
    intro bs L
    cases bs with
    |nil=>rfl
    |cons b bs=>
     cases b with
     |true=>show putsL ((L.setIfInBounds k true).setIfInBounds x.1 true) J bs=_;rw [true_comm,ih];rfl
     |false=>exact ih bs L
  cases b with
  |true=>
   show putsL (L.setIfInBounds k true) J bs=(putsL (L.setIfInBounds k true) J bs).setIfInBounds k true
   rw [key,Array.setIfInBounds_setIfInBounds]
  |false=>exact key J bs L
 |(k,d)::J,b::bs,L,i+1,j,h,hl=>by
  simp at h hl
  cases b with
  |true=>exact putsL_set J bs _ i j h hl
  |false=>exact putsL_set J bs _ i j h hl
theorem put_comm (a:Act) {d e:Tmp} (h:d≠e) (v u:Value):(a.put (some d) v).put (some e) u=(a.put (some e) u).put (some d) v:=by
 unfold Act.put
 simp only
 congr 1
 exact Array.setIfInBounds_comm _ _ h
theorem putsA_put {d:Tmp} {v:Value}: ∀(J:List (Nat×Tmp)) (vs:List (Option Value)) (a:Act),(∀ k∈J,k.2≠d)→putsA (a.put (some d) v) J vs=(putsA a J vs).put (some d) v
 |[],vs,a,_=>by cases vs<;>rfl
 |x::J,[],a,_=>rfl
 |x::J,none::vs,a,h=>putsA_put J vs a (fun k hk=>h k (List.mem_cons_of_mem _ hk))
 |x::J,some u::vs,a,h=>by
  show putsA ((a.put (some d) v).put (some x.2) u) J vs=_
  rw [put_comm a (fun e=>h x (List.mem_cons_self ..) e.symm) v u,putsA_put J vs _ (fun k hk=>h k (List.mem_cons_of_mem _ hk))]
  rfl
theorem putsA_set : ∀(J:List (Nat×Tmp)) (vs:List (Option Value)) (a:Act) (i:Nat) (j:Nat×Tmp) (v:Value),(J.map (·.2)).Nodup→J[i]? =some j→vs[i]? =some none→putsA a J (vs.set i (some v))=(putsA a J vs).put (some j.2) v
 |[],_,_,_,_,_,_,h,_=>by simp at h
 |_::_,[],_,_,_,_,_,_,h=>by simp at h
 |(k,d)::J,u::vs,a,0,j,v,hn,h,hv=>by
  simp at h hv
  subst h hv
  simp at hn
  exact putsA_put J vs a (fun x hx e=>hn.1 x.1 (by rw [← e];exact hx))
 |(k,d)::J,u::vs,a,i+1,j,v,hn,h,hv=>by
  simp at h hv hn
  cases u with
  |none=>exact putsA_set J vs a i j v (by simpa using hn.2) h hv
  |some x=>exact putsA_set J vs _ i j v (by simpa using hn.2) h hv
def allBs :Nat→List (List Bool)
 |0=>[[]]
 |n+1=>(allBs n).flatMap fun bs=>[true::bs,false::bs]
theorem mem_allBs : ∀(bs:List Bool),bs∈allBs bs.length
 |[]=>by simp [allBs]
 |b::bs=>by
  simp only [allBs,List.length_cons,List.mem_flatMap]
  exact⟨bs,mem_allBs bs,by cases b<;>simp⟩
def bunchB (md:Region.Mode) (ops:Array Oper) (L:Array Bool) (J:List (Nat×Tmp)):Bool:=
 (allBs J.length).all fun bs=>bs.all id||(!(Region.ready md ops (putsL L J bs)).isEmpty&&(Region.ready md ops (putsL L J bs)).all fun j=>(List.range J.length).any fun i=>(J.getD i (0,0)).1==j&&!bs.getD i true)
def J0 (J:List (Nat×Tmp)):List (Option Value):=J.map fun _=>none
theorem wanted_none {o:Oper} {t:Nat→Option Bool} (h:o.guard=none):Region.wanted o t=true:=by unfold Region.wanted;rw [h]
theorem At.bunch (J:List (Nat×Tmp)) (R:Nat→Value→World→Prop) (R2:Value→Value→Prop) (hnd:(J.map (·.2)).Nodup) {f:Nat} {L:Array Bool} {a:Act} {w:World}
 (hR: ∀j v w w',R j v w→Keep (fun _=>False) w w'→R j v w')
 (hB:bunchB md ops L J=true)
 (hstep: ∀(i:Nat) (j:Nat×Tmp) (oj:Oper),J[i]? =some j→ops[j.1]? =some oj→oj.guard=none∧ ∀(vs:List (Option Value)) (w':World) (K:Act→World→Prop),vs.length=J.length→Keep (fun _=>False) w w'→
  (∀ v w'',R j.1 v w''→Keep (fun _=>False) w' w''→(∀ k u,R k u w'→R2 v u∧R2 u v)→K ((putsA a J vs).put (some j.2) v) w'')→Oper.wp P oj (putsA a J vs) w' K Q)
 (hops: ∀j∈J,(ops[j.1]?).isSome=true)
 (hend: ∀(vs:List Value) (w':World),vs.length=J.length→Keep (fun _=>False) w w'→(∀ (i:Nat) (j:Nat×Tmp) (v:Value),J[i]? =some j→vs[i]? =some v→R j.1 v w')→(∀ (i i':Nat) (v v':Value),i≠i'→vs[i]? =some v→vs[i']? =some v'→R2 v v')→At P md ops Q f [] (putsL L J (vs.map fun _=>true)) (putsA a J (vs.map some)) w'):
 ∀(n:Nat) (vs:List (Option Value)) (w':World),vs.length=J.length→(vs.filter (·.isNone)).length=n→Keep (fun _=>False) w w'→(∀ (i:Nat) (j:Nat×Tmp) (v:Value),J[i]? =some j→vs[i]? =some (some v)→R j.1 v w')→(∀ (i i':Nat) (v v':Value),i≠i'→vs[i]? =some (some v)→vs[i']? =some (some v')→R2 v v')→
  At P md ops Q (n+f) [] (putsL L J (vs.map (·.isSome))) (putsA a J vs) w'
 |0,vs,w',hl,hn,hk,hr,hr2=>by
  have hall: ∀x∈vs,x.isNone=false:=fun x hx=>by
   have h:=List.eq_nil_of_length_eq_zero hn
   rw [List.filter_eq_nil_iff]at h
   have:=h x hx
   cases x<;>simp_all
  obtain⟨us,rfl⟩: ∃us:List Value,vs=us.map some:=by
   refine⟨vs.filterMap id,?_⟩
   clear hn hr hl hr2
   induction vs with
   |nil=>rfl
   |cons x vs ih=>
    have hx:=hall x (List.mem_cons_self ..)
    cases x with
    |none=>simp at hx
    |some x=>
     show some x::vs=some x::(vs.filterMap id).map some
     rw [← ih (fun y hy=>hall y (List.mem_cons_of_mem _ hy))]
  have e:(us.map some).map (·.isSome)=us.map fun _=>true:=by simp
  rw [e,Nat.zero_add]
  exact hend us w' (by simpa using hl) hk (fun i j v hj hv=>hr i j v hj (by simp [hv])) (fun i i' v v' hne h1 h2=>hr2 i i' v v' hne (by simp [h1]) (by simp [h2]))
 |n+1,vs,w',hl,hn,hk,hr,hr2=>by
  intro hp
  have hb:=List.all_eq_true.1 hB (vs.map (·.isSome)) (by have:=mem_allBs (vs.map (·.isSome));rwa [List.length_map,hl]at this)
  have hnall:(vs.map (·.isSome)).all id=false:=by
   rw [List.all_eq_false]
   obtain⟨x,hx⟩: ∃x,x∈vs.filter (·.isNone):=by
    cases h:vs.filter (·.isNone)with
    |nil=>rw [h]at hn;simp at hn
    |cons x l=>exact⟨x,by simp⟩
   rw [List.mem_filter]at hx
   exact⟨x.isSome,List.mem_map.2 ⟨x,hx.1,rfl⟩,by cases x<;>simp_all⟩
  rw [hnall,Bool.false_or,Bool.and_eq_true]at hb
  rw [show n+1+f=(n+f)+1 by omega]
  refine⟨fun h0=>?_,fun j hj=>?_⟩
  · rw [h0]at hb;simp at hb
  · have h2:=List.all_eq_true.1 hb.2 j hj
    rw [List.any_eq_true]at h2
    obtain⟨i,hi,h3⟩:=h2
    rw [List.mem_range]at hi
    simp only [Bool.and_eq_true,beq_iff_eq,Bool.not_eq_true']at h3
    have hji:J[i]? =some (J.getD i (0,0)):=by simp [hi]
    have hvn:vs[i]? =some none:=by
     have h4:=h3.2
     have hil:i<vs.length:=by omega
     rw [List.getD_eq_getElem?_getD,List.getElem?_map,List.getElem?_eq_getElem hil]at h4
     rw [List.getElem?_eq_getElem hil]
     simp at h4
     rw [h4]
    generalize hjj:J.getD i (0,0)=jj at*
    obtain⟨rfl,_⟩:=h3
    have hmem:jj∈J:=List.mem_of_getElem? hji
    obtain⟨oj,hoj⟩:=Option.isSome_iff_exists.1 (hops jj hmem)
    obtain⟨hg,hst⟩:=hstep i jj oj hji hoj
    unfold wpOp
    simp only [hoj,wanted_none hg,if_true]
    refine .inl (hst vs w' _ hl hk (fun v w'' hv hk' hv2=>⟨fun _ hq _=>(by cases hq),?_⟩))
    have ih:=At.bunch J R R2 hnd hR hB hstep hops hend n (vs.set i (some v)) w'' (by rw [List.length_set];exact hl) ?_ (hk.trans hk' (fun _ _ h=>h)) (fun i' j' v' h1 h2=>?_) (fun i1 i2 v1 v2 hne h1 h2=>?_)
    · rw [putsA_set J vs a i jj v hnd hji hvn,List.map_set,Option.isSome_some,putsL_set J _ L i jj hji (by rw [List.length_map];exact hl)]at ih
      exact ih (fun _ hq=>by cases hq)
    · have hil:i<vs.length:=by omega
      have key: ∀(vs:List (Option Value)) (i:Nat),vs[i]? =some none→((vs.set i (some v)).filter (·.isNone)).length+1=(vs.filter (·.isNone)).length:=fun vs=>by
       induction vs with
       |nil=>intro i h;simp at h
       |cons x vs ih2=>
        intro i h
        cases i with
        |zero=>simp at h;subst h;simp
        |succ i=>
         simp at h
         have:=ih2 i h
         cases x<;>simp<;>simpa using this
      have:=key vs i hvn
      omega
    · by_cases e:i=i'
      · subst e
        rw [List.getElem?_set_self (by omega)]at h2
        rw [hji]at h1
        cases h1;cases h2
        exact hv
      · rw [List.getElem?_set_ne e]at h2
        exact hR _ _ _ _ (hr i' j' v' h1 h2) hk'
    · have hJ: ∀(i:Nat) (u:Value),vs[i]? =some (some u)→ ∃k,R k u w':=fun i u hu=>by
       have hlt:i<J.length:=by have:=(List.getElem?_eq_some_iff.1 hu).1;omega
       exact⟨_,hr i _ u (List.getElem?_eq_getElem hlt) hu⟩
      by_cases e1:i=i1
      · subst e1
        rw [List.getElem?_set_self (by omega)]at h1
        rw [List.getElem?_set_ne hne]at h2
        cases h1
        obtain⟨k,hk2⟩:=hJ i2 v2 h2
        exact(hv2 k v2 hk2).1
      · rw [List.getElem?_set_ne e1]at h1
        by_cases e2:i=i2
        · subst e2
          rw [List.getElem?_set_self (by omega)]at h2
          cases h2
          obtain⟨k,hk2⟩:=hJ i1 v1 h1
          exact(hv2 k v1 hk2).2
        · rw [List.getElem?_set_ne e2]at h2
          exact hr2 i1 i2 v1 v2 hne h1 h2
theorem putsA_eval : ∀(J:List (Nat×Tmp)) (vs:List (Option Value)) (a:Act) (s:Tmp),(∀ k∈J,k.2≠s)→(putsA a J vs).eval (.tmp s)=a.eval (.tmp s)
 |[],vs,_,_,_=>by cases vs<;>rfl
 |x::J,[],_,_,_=>rfl
 |x::J,none::vs,a,s,h=>putsA_eval J vs a s (fun k hk=>h k (List.mem_cons_of_mem _ hk))
 |x::J,some u::vs,a,s,h=>by
  show(putsA (a.put (some x.2) u) J vs).eval _=_
  rw [putsA_eval J vs _ s (fun k hk=>h k (List.mem_cons_of_mem _ hk))]
  have:=h x (List.mem_cons_self ..)
  simp only [Act.eval,Act.put,Array.getD_eq_getD_getElem?]
  rw [Array.getElem?_setIfInBounds_ne this]
end
theorem log2_any (w:World) (n:Nat) (hn1:1≤n) (hn:n≤1000):
 Calls Tryz.prog 102 #[.int .i64 n] w (SomeN 0 10 w):=by
 have HD:Hid (∀ z:Int,0≤z→z≤10→SomeN 0 10 w (.returned (.int .i64 z)) w):=hid (fun z h1 h2=>⟨z,h1,h2,rfl,rfl⟩)
 go_enter Tryz.func102,Tryz.ntmps102
 go_wp2_with fail
 go_loop [3] (fun v=> ∃k:Nat,k≤10∧v=.int .i64 k) (fun v=>10-(intOf v).toNat)
 case atStart=>exact⟨0,by omega,rfl⟩
 case round=>
  obtain⟨k,hk,rfl⟩:=hrel
  have H10:Hid (¬ 0<(n:Int)/2^(10+1)):=hid (by show¬0<(n:Int)/2048;omega)
  go_wp2_with fail
  · have hlt:k<10:=by
     rcases Nat.lt_or_ge k 10 with h|h
     · exact h
     · obtain rfl:k=10:=by omega
       exact absurd (by assumption) H10.out
    exact⟨⟨k+1,by omega,by go_num⟩,by simp [intOf]<;>omega⟩
  · go_ret
    exact HD.out _ (by omega) (by omega)
theorem clone_ints (A:Option Addr) (n c:Nat) (zs:List Int) (w:World) (h:Rd w A n (zs.map (Value.int .i64))) (hn:n≤1099511627776):
 Calls Tryz.prog 26 #[.slice A n c] w fun e w'=> ∃v',e=.returned v'∧w'.ownsRow w.heap.size 3 1 v' n (zs.map (Value.int .i64))∧Keep (fun _=>False) w w':=by
 obtain⟨i0,hi0,hz0,hz1,hz2⟩:=info_parts info_int
 have q: ∀(w:World) (a:Option Addr) (n c:Nat),(binOp .eql 22 (.slice a n c) (.slice none 0 0)).run Tryz.prog w=.ok (.bool a.isNone) w:=fun w a n c=>Lib.run_eql_slice_nil w _ _ a n c 0 0 Tryz.underlying22
 rcases A with _|ad
 · have hn0:n=0:=by
    rcases Nat.eq_zero_or_pos n with h0|h0
    · exact h0
    · obtain⟨_,h,_⟩:=h.2 h0;cases h
   subst hn0
   have hz:zs=[]:=List.eq_nil_of_length_eq_zero (by simpa using h.len)
   subst hz
   go_enter Tryz.func26,Tryz.ntmps26
   go_wp2
   go_ret
   exact⟨_,rfl,World.ownsRow_nil _ _ _ _,Keep.refl _ _⟩
 · go_enter Tryz.func26,Tryz.ntmps26
   go_wp2_with (
    at_builtin
    refine wpList_append_src _ rfl (.tmp 5) (.tmp 6) _ rfl w.heap.size 3 i0 _ 8 Tryz.underlying22 hi0 hz0 hz1 hz2 rfl
     (World.ownsRow_made w #[] 0 (Nat.le_refl _) (by simp [maxLen]) rfl) rfl (h.alloc _) rfl (oneCell_ints _ _) (by simp only [maxLen];omega) (by omega) (by simp) ?_
    intro v1 w1 hown hg hat _hold)
   go_ret
   refine⟨v1,rfl,by simpa using hown,((Keep.refl _ w).alloc _).grown hg (fun k hk=>?_)⟩
   simp [Value.ownBlock]at hk
   omega
structure Fm where
 x:Int
 y:Int
 ox:Int
 oy:Int
 comps:Int
 depth:Int
 sub:Int
 sg:Bool
 rct:Bool
 sop:Bool
 eph:Bool
 tx:Int
 ty:Int
 lev:Int
 cbw:Int
 cbh:Int
 prec:Int
 style:Int
 order:Int
 lay:Int
 A:Option Addr
 n:Nat
 c:Nat
def Fm.cells (f:Fm):Array Value:=#[.int .i64 f.x,.int .i64 f.y,.int .i64 f.ox,.int .i64 f.oy,.int .i64 f.comps,.int .i64 f.depth,.int .i64 f.sub,.bool f.sg,.bool f.rct,.bool f.sop,.bool f.eph,.int .i64 f.tx,.int .i64 f.ty,.int .i64 f.lev,.int .i64 f.cbw,.int .i64 f.cbh,.int .i64 f.prec,.int .i64 f.style,.int .i64 f.order,.int .i64 f.lay,.slice f.A f.n f.c]
def R64 (z:Int):Prop:=-9223372036854775808≤z∧z≤9223372036854775807
structure FmOk (w:World) (f:Fm):Prop where
 x:R64 f.x
 y:R64 f.y
 ox:R64 f.ox
 oy:R64 f.oy
 comps:R64 f.comps
 depth:R64 f.depth
 sub:R64 f.sub
 tx:R64 f.tx
 ty:R64 f.ty
 lev:R64 f.lev
 cbw:R64 f.cbw
 cbh:R64 f.cbh
 prec:R64 f.prec
 style:R64 f.style
 order:R64 f.order
 lay:R64 f.lay
 zs: ∃zs:List Int,Rd w f.A f.n (zs.map (Value.int .i64))
 nb:f.n≤9223372036854775807
end Go.Proofs.YthfogcgdijmaoaaGreat
namespace Go.Proofs.YthfogcgdijmaoaaGreat
open Go.RowKit Go.ChangeShapes Go.WideShapes
theorem wf_r64 {x:Int} (h:(Lit.int .i64 x).wf=true):R64 x:=wf_i64 h
set_option linter.unusedSimpArgs false in
theorem open_form {H:Type} {enc:TypeId×Value→H} {w:World} {base:Nat} {held:Bool} {r:Reach} {b0:Nat} {v:Value} {d:DataW H} {ps:List MemPlace} (hval:Value.okWide Tryz.prog w r b0 24 v)
 (hd:DataW.Trod enc Tryz.prog w base (fun _=>true) held 24 v d ps): ∃f:Fm,v=.agg f.cells∧FmOk w f:=by
 simp only [Value.okWide,Tryz.underlying24]at hval
 obtain⟨cs,rfl,_,_⟩:=hval
 obtain⟨fuel,hf⟩:=hd
 have hcF:Tryz.prog.cellsOf 24=21:=by kernel_rfl
 have hcI:Tryz.prog.cellsOf 3=1:=by kernel_rfl
 have hcB:Tryz.prog.cellsOf 4=1:=by kernel_rfl
 have hcS:Tryz.prog.cellsOf 22=1:=by kernel_rfl
 obtain⟨l,rfl⟩: ∃l:List Value,cs=l.toArray:=⟨cs.toList,by simp⟩
 obtain⟨ys,m,_,_,hl,hlen,hfd⟩:=DataW.trod_struct Tryz.underlying24 hf
 rw [hcF]at hl
 replace hl:l.length=21:=hl
 replace hlen:ys.length=21:=hlen
 match l,hl with
 |[c0,c1,c2,c3,c4,c5,c6,c7,c8,c9,c10,c11,c12,c13,c14,c15,c16,c17,c18,c19,c20],_=>
 match ys,hlen with
 |[y0,y1,y2,y3,y4,y5,y6,y7,y8,y9,y10,y11,y12,y13,y14,y15,y16,y17,y18,y19,y20],_=>
 have g0:=hfd 0 _ rfl
 have g1:=hfd 1 _ rfl
 have g2:=hfd 2 _ rfl
 have g3:=hfd 3 _ rfl
 have g4:=hfd 4 _ rfl
 have g5:=hfd 5 _ rfl
 have g6:=hfd 6 _ rfl
 have g7:=hfd 7 _ rfl
 have g8:=hfd 8 _ rfl
 have g9:=hfd 9 _ rfl
 have g10:=hfd 10 _ rfl
 have g11:=hfd 11 _ rfl
 have g12:=hfd 12 _ rfl
 have g13:=hfd 13 _ rfl
 have g14:=hfd 14 _ rfl
 have g15:=hfd 15 _ rfl
 have g16:=hfd 16 _ rfl
 have g17:=hfd 17 _ rfl
 have g18:=hfd 18 _ rfl
 have g19:=hfd 19 _ rfl
 have g20:=hfd 20 _ rfl
 clear hfd hf hl hlen
 replace g0:DataW.trod enc Tryz.prog w base (fun _=>true) held m 3 [c0]=some y0:=by have h:DataW.trod enc Tryz.prog w base (fun _=>true) held m 3 (([c0,c1,c2,c3,c4,c5,c6,c7,c8,c9,c10,c11,c12,c13,c14,c15,c16,c17,c18,c19,c20].drop 0).take (Tryz.prog.cellsOf 3))=some y0:=g0;rw [hcI]at h;exact h
 replace g1:DataW.trod enc Tryz.prog w base (fun _=>true) held m 3 [c1]=some y1:=by have h:DataW.trod enc Tryz.prog w base (fun _=>true) held m 3 (([c0,c1,c2,c3,c4,c5,c6,c7,c8,c9,c10,c11,c12,c13,c14,c15,c16,c17,c18,c19,c20].drop 1).take (Tryz.prog.cellsOf 3))=some y1:=g1;rw [hcI]at h;exact h
 replace g2:DataW.trod enc Tryz.prog w base (fun _=>true) held m 3 [c2]=some y2:=by have h:DataW.trod enc Tryz.prog w base (fun _=>true) held m 3 (([c0,c1,c2,c3,c4,c5,c6,c7,c8,c9,c10,c11,c12,c13,c14,c15,c16,c17,c18,c19,c20].drop 2).take (Tryz.prog.cellsOf 3))=some y2:=g2;rw [hcI]at h;exact h
 replace g3:DataW.trod enc Tryz.prog w base (fun _=>true) held m 3 [c3]=some y3:=by have h:DataW.trod enc Tryz.prog w base (fun _=>true) held m 3 (([c0,c1,c2,c3,c4,c5,c6,c7,c8,c9,c10,c11,c12,c13,c14,c15,c16,c17,c18,c19,c20].drop 3).take (Tryz.prog.cellsOf 3))=some y3:=g3;rw [hcI]at h;exact h
 replace g4:DataW.trod enc Tryz.prog w base (fun _=>true) held m 3 [c4]=some y4:=by have h:DataW.trod enc Tryz.prog w base (fun _=>true) held m 3 (([c0,c1,c2,c3,c4,c5,c6,c7,c8,c9,c10,c11,c12,c13,c14,c15,c16,c17,c18,c19,c20].drop 4).take (Tryz.prog.cellsOf 3))=some y4:=g4;rw [hcI]at h;exact h
 replace g5:DataW.trod enc Tryz.prog w base (fun _=>true) held m 3 [c5]=some y5:=by have h:DataW.trod enc Tryz.prog w base (fun _=>true) held m 3 (([c0,c1,c2,c3,c4,c5,c6,c7,c8,c9,c10,c11,c12,c13,c14,c15,c16,c17,c18,c19,c20].drop 5).take (Tryz.prog.cellsOf 3))=some y5:=g5;rw [hcI]at h;exact h
 replace g6:DataW.trod enc Tryz.prog w base (fun _=>true) held m 3 [c6]=some y6:=by have h:DataW.trod enc Tryz.prog w base (fun _=>true) held m 3 (([c0,c1,c2,c3,c4,c5,c6,c7,c8,c9,c10,c11,c12,c13,c14,c15,c16,c17,c18,c19,c20].drop 6).take (Tryz.prog.cellsOf 3))=some y6:=g6;rw [hcI]at h;exact h
 replace g7:DataW.trod enc Tryz.prog w base (fun _=>true) held m 4 [c7]=some y7:=by have h:DataW.trod enc Tryz.prog w base (fun _=>true) held m 4 (([c0,c1,c2,c3,c4,c5,c6,c7,c8,c9,c10,c11,c12,c13,c14,c15,c16,c17,c18,c19,c20].drop 7).take (Tryz.prog.cellsOf 4))=some y7:=g7;rw [hcB]at h;exact h
 replace g8:DataW.trod enc Tryz.prog w base (fun _=>true) held m 4 [c8]=some y8:=by have h:DataW.trod enc Tryz.prog w base (fun _=>true) held m 4 (([c0,c1,c2,c3,c4,c5,c6,c7,c8,c9,c10,c11,c12,c13,c14,c15,c16,c17,c18,c19,c20].drop 8).take (Tryz.prog.cellsOf 4))=some y8:=g8;rw [hcB]at h;exact h
 replace g9:DataW.trod enc Tryz.prog w base (fun _=>true) held m 4 [c9]=some y9:=by have h:DataW.trod enc Tryz.prog w base (fun _=>true) held m 4 (([c0,c1,c2,c3,c4,c5,c6,c7,c8,c9,c10,c11,c12,c13,c14,c15,c16,c17,c18,c19,c20].drop 9).take (Tryz.prog.cellsOf 4))=some y9:=g9;rw [hcB]at h;exact h
 replace g10:DataW.trod enc Tryz.prog w base (fun _=>true) held m 4 [c10]=some y10:=by have h:DataW.trod enc Tryz.prog w base (fun _=>true) held m 4 (([c0,c1,c2,c3,c4,c5,c6,c7,c8,c9,c10,c11,c12,c13,c14,c15,c16,c17,c18,c19,c20].drop 10).take (Tryz.prog.cellsOf 4))=some y10:=g10;rw [hcB]at h;exact h
 replace g11:DataW.trod enc Tryz.prog w base (fun _=>true) held m 3 [c11]=some y11:=by have h:DataW.trod enc Tryz.prog w base (fun _=>true) held m 3 (([c0,c1,c2,c3,c4,c5,c6,c7,c8,c9,c10,c11,c12,c13,c14,c15,c16,c17,c18,c19,c20].drop 11).take (Tryz.prog.cellsOf 3))=some y11:=g11;rw [hcI]at h;exact h
 replace g12:DataW.trod enc Tryz.prog w base (fun _=>true) held m 3 [c12]=some y12:=by have h:DataW.trod enc Tryz.prog w base (fun _=>true) held m 3 (([c0,c1,c2,c3,c4,c5,c6,c7,c8,c9,c10,c11,c12,c13,c14,c15,c16,c17,c18,c19,c20].drop 12).take (Tryz.prog.cellsOf 3))=some y12:=g12;rw [hcI]at h;exact h
 replace g13:DataW.trod enc Tryz.prog w base (fun _=>true) held m 3 [c13]=some y13:=by have h:DataW.trod enc Tryz.prog w base (fun _=>true) held m 3 (([c0,c1,c2,c3,c4,c5,c6,c7,c8,c9,c10,c11,c12,c13,c14,c15,c16,c17,c18,c19,c20].drop 13).take (Tryz.prog.cellsOf 3))=some y13:=g13;rw [hcI]at h;exact h
 replace g14:DataW.trod enc Tryz.prog w base (fun _=>true) held m 3 [c14]=some y14:=by have h:DataW.trod enc Tryz.prog w base (fun _=>true) held m 3 (([c0,c1,c2,c3,c4,c5,c6,c7,c8,c9,c10,c11,c12,c13,c14,c15,c16,c17,c18,c19,c20].drop 14).take (Tryz.prog.cellsOf 3))=some y14:=g14;rw [hcI]at h;exact h
 replace g15:DataW.trod enc Tryz.prog w base (fun _=>true) held m 3 [c15]=some y15:=by have h:DataW.trod enc Tryz.prog w base (fun _=>true) held m 3 (([c0,c1,c2,c3,c4,c5,c6,c7,c8,c9,c10,c11,c12,c13,c14,c15,c16,c17,c18,c19,c20].drop 15).take (Tryz.prog.cellsOf 3))=some y15:=g15;rw [hcI]at h;exact h
 replace g16:DataW.trod enc Tryz.prog w base (fun _=>true) held m 3 [c16]=some y16:=by have h:DataW.trod enc Tryz.prog w base (fun _=>true) held m 3 (([c0,c1,c2,c3,c4,c5,c6,c7,c8,c9,c10,c11,c12,c13,c14,c15,c16,c17,c18,c19,c20].drop 16).take (Tryz.prog.cellsOf 3))=some y16:=g16;rw [hcI]at h;exact h
 replace g17:DataW.trod enc Tryz.prog w base (fun _=>true) held m 3 [c17]=some y17:=by have h:DataW.trod enc Tryz.prog w base (fun _=>true) held m 3 (([c0,c1,c2,c3,c4,c5,c6,c7,c8,c9,c10,c11,c12,c13,c14,c15,c16,c17,c18,c19,c20].drop 17).take (Tryz.prog.cellsOf 3))=some y17:=g17;rw [hcI]at h;exact h
 replace g18:DataW.trod enc Tryz.prog w base (fun _=>true) held m 3 [c18]=some y18:=by have h:DataW.trod enc Tryz.prog w base (fun _=>true) held m 3 (([c0,c1,c2,c3,c4,c5,c6,c7,c8,c9,c10,c11,c12,c13,c14,c15,c16,c17,c18,c19,c20].drop 18).take (Tryz.prog.cellsOf 3))=some y18:=g18;rw [hcI]at h;exact h
 replace g19:DataW.trod enc Tryz.prog w base (fun _=>true) held m 3 [c19]=some y19:=by have h:DataW.trod enc Tryz.prog w base (fun _=>true) held m 3 (([c0,c1,c2,c3,c4,c5,c6,c7,c8,c9,c10,c11,c12,c13,c14,c15,c16,c17,c18,c19,c20].drop 19).take (Tryz.prog.cellsOf 3))=some y19:=g19;rw [hcI]at h;exact h
 replace g20:DataW.trod enc Tryz.prog w base (fun _=>true) held m 22 [c20]=some y20:=by have h:DataW.trod enc Tryz.prog w base (fun _=>true) held m 22 (([c0,c1,c2,c3,c4,c5,c6,c7,c8,c9,c10,c11,c12,c13,c14,c15,c16,c17,c18,c19,c20].drop 20).take (Tryz.prog.cellsOf 22))=some y20:=g20;rw [hcS]at h;exact h
 obtain⟨x,e0,_,s0⟩:=DataW.trod_int Tryz.underlying3 g0
 injection e0 with e0 _
 subst e0
 obtain⟨y,e1,_,s1⟩:=DataW.trod_int Tryz.underlying3 g1
 injection e1 with e1 _
 subst e1
 obtain⟨ox,e2,_,s2⟩:=DataW.trod_int Tryz.underlying3 g2
 injection e2 with e2 _
 subst e2
 obtain⟨oy,e3,_,s3⟩:=DataW.trod_int Tryz.underlying3 g3
 injection e3 with e3 _
 subst e3
 obtain⟨comps,e4,_,s4⟩:=DataW.trod_int Tryz.underlying3 g4
 injection e4 with e4 _
 subst e4
 obtain⟨depth,e5,_,s5⟩:=DataW.trod_int Tryz.underlying3 g5
 injection e5 with e5 _
 subst e5
 obtain⟨sub,e6,_,s6⟩:=DataW.trod_int Tryz.underlying3 g6
 injection e6 with e6 _
 subst e6
 obtain⟨sg,e7,_⟩:=DataW.trod_bool Tryz.underlying4 g7
 injection e7 with e7 _
 subst e7
 obtain⟨rct,e8,_⟩:=DataW.trod_bool Tryz.underlying4 g8
 injection e8 with e8 _
 subst e8
 obtain⟨sop,e9,_⟩:=DataW.trod_bool Tryz.underlying4 g9
 injection e9 with e9 _
 subst e9
 obtain⟨eph,e10,_⟩:=DataW.trod_bool Tryz.underlying4 g10
 injection e10 with e10 _
 subst e10
 obtain⟨tx,e11,_,s11⟩:=DataW.trod_int Tryz.underlying3 g11
 injection e11 with e11 _
 subst e11
 obtain⟨ty,e12,_,s12⟩:=DataW.trod_int Tryz.underlying3 g12
 injection e12 with e12 _
 subst e12
 obtain⟨lev,e13,_,s13⟩:=DataW.trod_int Tryz.underlying3 g13
 injection e13 with e13 _
 subst e13
 obtain⟨cbw,e14,_,s14⟩:=DataW.trod_int Tryz.underlying3 g14
 injection e14 with e14 _
 subst e14
 obtain⟨cbh,e15,_,s15⟩:=DataW.trod_int Tryz.underlying3 g15
 injection e15 with e15 _
 subst e15
 obtain⟨prec,e16,_,s16⟩:=DataW.trod_int Tryz.underlying3 g16
 injection e16 with e16 _
 subst e16
 obtain⟨style,e17,_,s17⟩:=DataW.trod_int Tryz.underlying3 g17
 injection e17 with e17 _
 subst e17
 obtain⟨order,e18,_,s18⟩:=DataW.trod_int Tryz.underlying3 g18
 injection e18 with e18 _
 subst e18
 obtain⟨lay,e19,_,s19⟩:=DataW.trod_int Tryz.underlying3 g19
 injection e19 with e19 _
 subst e19
 rcases open_ints Tryz.underlying22 Tryz.underlying3 hcI g20 with⟨e20,_⟩|⟨x20,k20,c20',zs,e20,_,hlc,hm,hz,_,hcell,_⟩
 · injection e20 with e20 _
   subst e20
   exact⟨⟨x,y,ox,oy,comps,depth,sub,sg,rct,sop,eph,tx,ty,lev,cbw,cbh,prec,style,order,lay,none,0,0⟩,rfl,{
    x:=wf_r64 s0
    y:=wf_r64 s1
    ox:=wf_r64 s2
    oy:=wf_r64 s3
    comps:=wf_r64 s4
    depth:=wf_r64 s5
    sub:=wf_r64 s6
    tx:=wf_r64 s11
    ty:=wf_r64 s12
    lev:=wf_r64 s13
    cbw:=wf_r64 s14
    cbh:=wf_r64 s15
    prec:=wf_r64 s16
    style:=wf_r64 s17
    order:=wf_r64 s18
    lay:=wf_r64 s19
    zs:=⟨[],Rd.nil _⟩
    nb:=Nat.zero_le _ }⟩
 · injection e20 with e20 _
   subst e20
   simp only [if_true]at hz
   exact⟨⟨x,y,ox,oy,comps,depth,sub,sg,rct,sop,eph,tx,ty,lev,cbw,cbh,prec,style,order,lay,some x20,k20,c20'⟩,rfl,{
    x:=wf_r64 s0
    y:=wf_r64 s1
    ox:=wf_r64 s2
    oy:=wf_r64 s3
    comps:=wf_r64 s4
    depth:=wf_r64 s5
    sub:=wf_r64 s6
    tx:=wf_r64 s11
    ty:=wf_r64 s12
    lev:=wf_r64 s13
    cbw:=wf_r64 s14
    cbh:=wf_r64 s15
    prec:=wf_r64 s16
    style:=wf_r64 s17
    order:=wf_r64 s18
    lay:=wf_r64 s19
    zs:=⟨zs.take k20,by simp;omega,fun hn=>⟨x20,rfl,fun j u hu=>by
     rw [List.getElem?_map,List.getElem?_take]at hu
     have hj:j<k20:=by
      rcases Nat.lt_or_ge j k20 with h|h
      · exact h
      · rw [if_neg (by omega)]at hu;cases hu
     rw [if_pos hj]at hu
     have hjl:j<zs.length:=by omega
     rw [hcell j hjl]
     simp [hjl]at hu
     subst hu
     simp [hjl]⟩⟩
    nb:=by simp only [maxLen]at hm;show k20≤_;omega }⟩
end Go.Proofs.YthfogcgdijmaoaaGreat
