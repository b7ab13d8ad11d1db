/-
  Part 4 of the proof: SStates. Conditions: those of the statements.
-/
import Derived.Test.YthfogcgdijmaoaaGreatW1
import Derived.Test.YthfogcgdijmaoaaGreatProg
import Derived.Deep.MidRow
import Derived.Deep.CutRange
import Derived.Deep.WholeRow
set_option maxRecDepth 100000
set_option maxHeartbeats 16000000
set_option linter.unusedVariables false
set_option linter.unusedSimpArgs false
namespace Go.Proofs.YthfogcgdijmaoaaGreat
open Go.RowKit
def tab :List (Nat×Nat×Nat×Bool):=[(22017,1,1,true),(13313,2,6,false),(6145,3,9,false),(2753,4,12,false),(1313,5,29,false),(545,38,33,false),(22017,7,6,true),(21505,8,14,false),(18433,9,14,false),(14337,10,14,false),(12289,11,17,false),(9217,12,18,false),(7169,13,20,false),(5633,29,21,false),(22017,15,14,true),(21505,16,14,false),(20737,17,15,false),(18433,18,16,false),(14337,19,17,false),(13313,20,18,false),(12289,21,19,false),(10241,22,19,false),(9217,23,20,false),(8705,24,21,false),(7169,25,22,false),(6145,26,23,false),(5633,27,24,false),(5121,28,25,false),(4609,29,26,false),(4353,30,27,false),(2753,31,28,false),(2497,32,29,false),(2209,33,30,false),(1313,34,31,false),(1089,35,32,false),(673,36,33,false),(545,37,34,false),(321,38,35,false),(273,39,36,false),(133,40,37,false),(73,41,38,false),(37,42,39,false),(21,43,40,false),(9,44,41,false),(5,45,42,false),(1,45,43,false),(22017,46,46,false)]
def tabAt (i:Nat):Nat×Nat×Nat×Bool:=tab.getD i (0,0,0,false)
def cells4 (s:Nat×Nat×Nat×Bool):List Value:=[.int .i64 s.1,.int .i64 s.2.1,.int .i64 s.2.2.1,.bool s.2.2.2]
def tabCells :Array Value:=(tab.flatMap cells4).toArray
def zero4 :Array Value:=#[.int .i64 0,.int .i64 0,.int .i64 0,.bool false]
def zeroTab :Array Value:=((List.replicate 47 zero4.toList).flatMap id).toArray
def same1 (x y:Option Value):Bool:=
 match x,y with
 |some (Value.int IntKind.i64 a),some (Value.int IntKind.i64 b)=>a==b
 |some (Value.bool a),some (Value.bool b)=>a==b
 |_,_=>false
theorem same1_eq {x y:Option Value} (h:same1 x y=true):x=y:=by
 unfold same1 at h
 split at h
 · simp at h;rw [h]
 · simp at h;rw [h]
 · cases h
theorem push_modify (a:Array Obj) (x:Obj) (f:Obj→Obj):(a.push x).modify a.size f=a.push (f x):=by
 apply Array.ext
 · simp
 · intro i h1 h2
   simp only [Array.getElem_modify,Array.getElem_push]
   by_cases h:a.size=i
   · subst h
     simp
   · have hi:i<a.size:=by simp at h1;omega
     simp [h,hi]
theorem setRow_new (w:World) (c c':Array Value) (t:TypeId):(w.alloc (.cells c t)).setRow w.heap.size c'=w.alloc (.cells c' t):=by
 unfold World.setRow
 show({ w.alloc (.cells c t)with heap:=(w.heap.push (.cells c t)).modify w.heap.size _ }:World)=_
 rw [push_modify]
 rfl
theorem wpList_act {P:Program} {ops:Array Oper} {Q:Exit→Act→World→Prop} {l:List Oper} {a a':Act} {w:World} (h:a=a') (hw:wpList P ops Q l a' w):wpList P ops Q l a w:=by rw [h];exact hw
def rcells4 (s:Nat×Nat×Nat×Bool):List Value:=[.int .i64 s.1,.int .i64 s.2.1,.int .i64 s.2.2.1,.int .i64 (if s.2.2.2 then 1 else 0)]
def rCells :Array Value:=(tab.flatMap rcells4).toArray
def rZero :Array Value:=(List.replicate 188 (Value.int .i64 0)).toArray
theorem rtab_size :rCells.size=188:=by decide +kernel
theorem rtab_one :rCells.all (·.oneCell')=true:=by decide +kernel
theorem rtab_cell (i j:Nat) (hi:i<47) (hj:j<4):rCells[i*4+j]? =(rcells4 (tabAt i))[j]?:=by
 have: ∀i,i<47→ ∀j,j<4→same1 (rCells[i*4+j]?) (rcells4 (tabAt i))[j]? =true:=by decide +kernel
 exact same1_eq (this i hi j hj)
def pickM (zs:List Int) (x:Int):Int:=if x<0 then 0 else zs.getD x.toNat 0
def begM (x:Int):Int:=if x=0 then 4 else if x=17 then 3 else if x=18 then 46 else 0
def begTab :List Int:=[4,0,0,0,0,0,0,0,0,0,0,0,0,0,0,0,0,3,46]
theorem rbegin_any (x:Int) (w:World):
 Calls Tryz.prog 115 #[.int .i64 x] w fun e w'=>e=.returned (.int .i64 (begM x))∧w=w':=by
 by_cases h0:x=0
 · subst h0
   go_enter Tryz.func115,Tryz.ntmps115
   go_wp2_with fail
   go_ret
   exact⟨rfl,rfl⟩
 · by_cases h1:x=17
   · subst h1
     go_enter Tryz.func115,Tryz.ntmps115
     go_wp2_with fail
     go_ret
     exact⟨rfl,rfl⟩
   · by_cases h2:x=18
     · subst h2
       go_enter Tryz.func115,Tryz.ntmps115
       go_wp2_with fail
       go_ret
       exact⟨rfl,rfl⟩
     · have HM:=hid (show begM x=0 by unfold begM;rw [if_neg h0,if_neg h1,if_neg h2])
       have a0:(x==0)=false:=by simpa using h0
       have a1:(x==17)=false:=by simpa using h1
       have a2:(x==18)=false:=by simpa using h2
       clear h0 h1 h2
       go_enter Tryz.func115,Tryz.ntmps115
       go_wp2_with fail
       go_ret
       exact⟨by rw [HM.out];rfl,rfl⟩
theorem rows_any (w:World):
 Calls Tryz.prog 135 #[] w fun e w'=>e=.returned (.agg rCells)∧Keep (fun _=>False) w w':=by
 have hz: ∀w,(zeroValue 210).run Tryz.prog w=.ok (.agg rZero) w:=fun _=>by kernel_rfl
 go_enter Tryz.func135,Tryz.ntmps135
 go_upto_region 1 with fail
 refine wp_region_lit ?_
 iterate 48 (refine wpList_build rfl _ _ rfl (by kernel_rfl) ?_)
 refine wpList_act (a':=⟨#[Value.pointer (some ⟨w.heap.size,0,none⟩),Value.agg (rcells4 (tabAt 0)).toArray,Value.agg (rcells4 (tabAt 1)).toArray,Value.agg (rcells4 (tabAt 2)).toArray,Value.agg (rcells4 (tabAt 3)).toArray,Value.agg (rcells4 (tabAt 4)).toArray,Value.agg (rcells4 (tabAt 5)).toArray,Value.agg (rcells4 (tabAt 6)).toArray,Value.agg (rcells4 (tabAt 7)).toArray,Value.agg (rcells4 (tabAt 8)).toArray,Value.agg (rcells4 (tabAt 9)).toArray,Value.agg (rcells4 (tabAt 10)).toArray,Value.agg (rcells4 (tabAt 11)).toArray,Value.agg (rcells4 (tabAt 12)).toArray,Value.agg (rcells4 (tabAt 13)).toArray,Value.agg (rcells4 (tabAt 14)).toArray,Value.agg (rcells4 (tabAt 15)).toArray,Value.agg (rcells4 (tabAt 16)).toArray,Value.agg (rcells4 (tabAt 17)).toArray,Value.agg (rcells4 (tabAt 18)).toArray,Value.agg (rcells4 (tabAt 19)).toArray,Value.agg (rcells4 (tabAt 20)).toArray,Value.agg (rcells4 (tabAt 21)).toArray,Value.agg (rcells4 (tabAt 22)).toArray,Value.agg (rcells4 (tabAt 23)).toArray,Value.agg (rcells4 (tabAt 24)).toArray,Value.agg (rcells4 (tabAt 25)).toArray,Value.agg (rcells4 (tabAt 26)).toArray,Value.agg (rcells4 (tabAt 27)).toArray,Value.agg (rcells4 (tabAt 28)).toArray,Value.agg (rcells4 (tabAt 29)).toArray,Value.agg (rcells4 (tabAt 30)).toArray,Value.agg (rcells4 (tabAt 31)).toArray,Value.agg (rcells4 (tabAt 32)).toArray,Value.agg (rcells4 (tabAt 33)).toArray,Value.agg (rcells4 (tabAt 34)).toArray,Value.agg (rcells4 (tabAt 35)).toArray,Value.agg (rcells4 (tabAt 36)).toArray,Value.agg (rcells4 (tabAt 37)).toArray,Value.agg (rcells4 (tabAt 38)).toArray,Value.agg (rcells4 (tabAt 39)).toArray,Value.agg (rcells4 (tabAt 40)).toArray,Value.agg (rcells4 (tabAt 41)).toArray,Value.agg (rcells4 (tabAt 42)).toArray,Value.agg (rcells4 (tabAt 43)).toArray,Value.agg (rcells4 (tabAt 44)).toArray,Value.agg (rcells4 (tabAt 45)).toArray,Value.agg (rcells4 (tabAt 46)).toArray,Value.agg rCells],[]⟩) (by kernel_rfl) ?_
 clear hz
 go_wp2_with (
  refine wpList_store_row rfl 210 _ _ rfl w.heap.size rCells rfl rfl 210 rZero ?hg (by rw [rtab_size];kernel_rfl) (by rw [rtab_size];decide +kernel) rtab_one ?_)
 case hg=>exact Blk.new w 210 rZero
 rw [setRow_new]
 have hl:=run_loadVar_new (P:=Tryz.prog) w 210 rCells 47 209 Tryz.underlying210 (by rw [rtab_size];kernel_rfl)
 refine bodyPost_ret (v:=.agg rCells) ?_ rfl ⟨rfl,(Keep.refl _ w).alloc _⟩
 simp only [results,Tryz.results135,Act.put]
 simp [asAddr,Sem.run_bind,hl]
theorem rat_none (x:Int) (w:World) (h:x<0∨46<x):
 Calls Tryz.prog 133 #[.int .i64 x] w fun e w'=>e=.returned (.agg #[.int .i64 0,.int .i64 0,.int .i64 0,.bool false])∧Keep (fun _=>False) w w':=by
 by_cases h0:x<0
 · clear h
   go_enter Tryz.func133,Tryz.ntmps133
   go_wp2_with fail
   exact bodyPost_ret (v:=.agg #[.int .i64 0,.int .i64 0,.int .i64 0,.bool false]) (by simp [results,Tryz.results133,go_sem]) rfl ⟨rfl,(Keep.refl _ w).alloc _⟩
 · have h1:46<x:=by omega
   clear h
   go_enter Tryz.func133,Tryz.ntmps133
   go_wp2_with fail
   exact bodyPost_ret (v:=.agg #[.int .i64 0,.int .i64 0,.int .i64 0,.bool false]) (by simp [results,Tryz.results133,go_sem]) rfl ⟨rfl,(Keep.refl _ w).alloc _⟩
theorem rat_any (i:Nat) (w:World) (h:i<47):
 Calls Tryz.prog 133 #[.int .i64 i] w fun e w'=>e=.returned (.agg (cells4 (tabAt i)).toArray)∧Keep (fun _=>False) w w':=by
 have hz: ∀w,(zeroValue 210).run Tryz.prog w=.ok (.agg rZero) w:=fun _=>by kernel_rfl
 have t0:rCells[i*4]? =some (.int .i64 (tabAt i).1):=rtab_cell i 0 h (by omega)
 have t1:rCells[i*4+1]? =some (.int .i64 (tabAt i).2.1):=rtab_cell i 1 h (by omega)
 have t2:rCells[i*4+2]? =some (.int .i64 (tabAt i).2.2.1):=rtab_cell i 2 h (by omega)
 have t3:rCells[i*4+3]? =some (.int .i64 (if(tabAt i).2.2.2 then 1 else 0)):=rtab_cell i 3 h (by omega)
 obtain⟨q,m,l,s,ht⟩: ∃q m l s,tabAt i=(q,m,l,s):=⟨_,_,_,_,rfl⟩
 rw [ht]at t0 t1 t2 t3 ⊢
 simp only at t0 t1 t2 t3
 clear ht
 go_enter Tryz.func133,Tryz.ntmps133
 go_wp2_with fail
 refine(rows_any _).mono ?_
 rintro e w1 ⟨rfl,hk1⟩
 go_wp2_with (
  refine wpList_store_row rfl 210 _ _ rfl w1.heap.size rCells rfl rfl 210 rZero ?hg (by rw [rtab_size];kernel_rfl) (by rw [rtab_size];decide +kernel) rtab_one ?_)
 case hg=>exact Blk.new w1 210 rZero
 rw [setRow_new]
 have hb0:Blk (w1.alloc (.cells rCells 210)) w.heap.size 203 #[.int .i64 0,.int .i64 0,.int .i64 0,.bool false]:=((Blk.new w 203 _).keep hk1 (fun h=>h)).alloc _
 have hb1:Blk (w1.alloc (.cells rCells 210)) w1.heap.size 210 rCells:=Blk.new _ _ _
 have hks:=hk1.size
 simp only [World.size_alloc]at hks
 have hne:w.heap.size≠w1.heap.size:=by omega
 have HKK:=hid (((Keep.refl (fun _=>False) w).alloc _).trans hk1 (fun _ _ h=>h) |>.alloc (.cells rCells 210))
 generalize hw2:w1.alloc (.cells rCells 210)=w2 at*
 generalize w1.heap.size=g at*
 have c0:w2.cell? ⟨g,i*4,none⟩=some (.int .i64 q):=(hb1.cell _).trans t0
 have c1:w2.cell? ⟨g,i*4+1,none⟩=some (.int .i64 m):=(hb1.cell _).trans t1
 have c2:w2.cell? ⟨g,i*4+2,none⟩=some (.int .i64 l):=(hb1.cell _).trans t2
 have c3:w2.cell? ⟨g,i*4+3,none⟩=some (.int .i64 (if s=true then 1 else 0)):=(hb1.cell _).trans t3
 have z0:w2.cell? ⟨w.heap.size,0,none⟩=some (.int .i64 0):=hb0.cell 0
 have z1:w2.cell? ⟨w.heap.size,1,none⟩=some (.int .i64 0):=hb0.cell 1
 have z2:w2.cell? ⟨w.heap.size,2,none⟩=some (.int .i64 0):=hb0.cell 2
 have z3:w2.cell? ⟨w.heap.size,3,none⟩=some (.bool false):=hb0.cell 3
 have f0:=hb0.frozen 0
 have f1:=hb0.frozen 1
 have f2:=hb0.frozen 2
 have f3:=hb0.frozen 3
 have HB0:=hid hb0
 clear hw2 hz hb1 hb0 t0 t1 t2 t3 hk1 hks
 have hi47:(i:Int)<47:=by omega
 simp only [Act.put]
 cases s with
 |true=>
  simp only [if_true]at c3
  have HB9:=hid (((((HB0.out.set_ 0 (.int .i64 q)).set_ 1 (.int .i64 m)).set_ 2 (.int .i64 l)).set_ 3 (.bool true)).drew)
  have HK9:=hid (((((HKK.out.setCell (p:=⟨w.heap.size,0,none⟩) (.inr (Nat.le_refl _)) (.int .i64 q)).setCell (p:=⟨w.heap.size,1,none⟩) (.inr (Nat.le_refl _)) (.int .i64 m)).setCell (p:=⟨w.heap.size,2,none⟩) (.inr (Nat.le_refl _)) (.int .i64 l)).setCell (p:=⟨w.heap.size,3,none⟩) (.inr (Nat.le_refl _)) (.bool true)).drew)
  go_region
  go_wp2_with fail
  generalize ((((w2.setCell ⟨w.heap.size,0,none⟩ (.int .i64 q)).setCell ⟨w.heap.size,1,none⟩ (.int .i64 m)).setCell ⟨w.heap.size,2,none⟩ (.int .i64 l)).setCell ⟨w.heap.size,3,none⟩ (.bool true)).drew=w9 at*
  have e0:w9.cell? ⟨w.heap.size,0,none⟩=some (.int .i64 q):=HB9.out.cell 0
  have e1:w9.cell? ⟨w.heap.size,1,none⟩=some (.int .i64 m):=HB9.out.cell 1
  have e2:w9.cell? ⟨w.heap.size,2,none⟩=some (.int .i64 l):=HB9.out.cell 2
  have e3:w9.cell? ⟨w.heap.size,3,none⟩=some (.bool true):=HB9.out.cell 3
  exact bodyPost_ret (v:=.agg #[.int .i64 q,.int .i64 m,.int .i64 l,.bool true]) (by simp [results,Tryz.results133,go_sem,e0,e1,e2,e3]) rfl ⟨rfl,HK9.out⟩
 |false=>
  simp only [Bool.false_eq_true,if_false]at c3
  have HB9:=hid (((((HB0.out.set_ 0 (.int .i64 q)).set_ 1 (.int .i64 m)).set_ 2 (.int .i64 l)).set_ 3 (.bool false)).drew)
  have HK9:=hid (((((HKK.out.setCell (p:=⟨w.heap.size,0,none⟩) (.inr (Nat.le_refl _)) (.int .i64 q)).setCell (p:=⟨w.heap.size,1,none⟩) (.inr (Nat.le_refl _)) (.int .i64 m)).setCell (p:=⟨w.heap.size,2,none⟩) (.inr (Nat.le_refl _)) (.int .i64 l)).setCell (p:=⟨w.heap.size,3,none⟩) (.inr (Nat.le_refl _)) (.bool false)).drew)
  go_region
  go_wp2_with fail
  generalize ((((w2.setCell ⟨w.heap.size,0,none⟩ (.int .i64 q)).setCell ⟨w.heap.size,1,none⟩ (.int .i64 m)).setCell ⟨w.heap.size,2,none⟩ (.int .i64 l)).setCell ⟨w.heap.size,3,none⟩ (.bool false)).drew=w9 at*
  have e0:w9.cell? ⟨w.heap.size,0,none⟩=some (.int .i64 q):=HB9.out.cell 0
  have e1:w9.cell? ⟨w.heap.size,1,none⟩=some (.int .i64 m):=HB9.out.cell 1
  have e2:w9.cell? ⟨w.heap.size,2,none⟩=some (.int .i64 l):=HB9.out.cell 2
  have e3:w9.cell? ⟨w.heap.size,3,none⟩=some (.bool false):=HB9.out.cell 3
  exact bodyPost_ret (v:=.agg #[.int .i64 q,.int .i64 m,.int .i64 l,.bool false]) (by simp [results,Tryz.results133,go_sem,e0,e1,e2,e3]) rfl ⟨rfl,HK9.out⟩
def valM (x:Int):Nat×Nat×Nat×Bool:=if 0≤x∧x<47 then tabAt x.toNat else(0,0,0,false)
theorem rat_all (x:Int) (q m l:Nat) (s:Bool) (w:World) (ht:valM x=(q,m,l,s)):
 Calls Tryz.prog 133 #[.int .i64 x] w fun e w'=>e=.returned (.agg #[.int .i64 q,.int .i64 m,.int .i64 l,.bool s])∧Keep (fun _=>False) w w':=by
 unfold valM at ht
 by_cases h:0≤x∧x<47
 · rw [if_pos h]at ht
   obtain⟨i,rfl⟩:=Int.eq_ofNat_of_zero_le h.1
   rw [Int.toNat_natCast]at ht
   refine(rat_any i w (by omega)).mono ?_
   rintro e w' ⟨rfl,hk⟩
   rw [ht]
   exact⟨rfl,hk⟩
 · rw [if_neg h]at ht
   injection ht with e1 e2
   injection e2 with e2 e3
   injection e3 with e3 e4
   subst e1 e2 e3 e4
   exact rat_none x w (by omega)
end Go.Proofs.YthfogcgdijmaoaaGreat
