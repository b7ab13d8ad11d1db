/-
  Part 28 of the proof: Rank. Conditions: those of the statements.
-/
import Derived.Test.YthfogcgdijmaoaaGreatJ10
import Derived.Test.YthfogcgdijmaoaaGreatJ16
set_option maxRecDepth 100000
set_option maxHeartbeats 16000000
set_option linter.unusedVariables false
set_option linter.unusedSimpArgs false
namespace Go.Proofs.YthfogcgdijmaoaaGreat
open Go.RowKit
structure Spt where
 res:Nat
 comp:Nat
 prec:Nat
 x:Int
 y:Int
def Spt.cells (s:Spt):List Value:=[.int .i64 s.res,.int .i64 s.comp,.int .i64 s.prec,.int .i64 s.x,.int .i64 s.y]
def Six (cs:Array Value):Prop:= ∃a b c d e f:Int,cs=#[.int .i64 a,.int .i64 b,.int .i64 c,.int .i64 d,.int .i64 e,.int .i64 f]
def RankP (w:World) (e:Ending) (w':World):Prop:= ∃cs,e=.returned (.agg cs)∧Six cs∧Keep (fun _=>False) w w'
theorem rank_any (w:World) (o:Nat) (s:Spt) (l:Nat) (ho:o≤4):
 Calls Tryz.prog 63 #[.int .i64 o,.agg s.cells.toArray,.int .i64 l] w (RankP w):=by
 have HB:=hid (Blk.new w 125 s.cells.toArray)
 have HK:=hid (((Keep.refl (fun _=>False) w).alloc (.cells s.cells.toArray 125)).alloc (.cells #[.int .i64 0,.int .i64 0,.int .i64 0,.int .i64 0,.int .i64 0,.int .i64 0] 126))
 have HB2:=hid (Blk.new1 w (.cells s.cells.toArray 125) 126 #[.int .i64 0,.int .i64 0,.int .i64 0,.int .i64 0,.int .i64 0,.int .i64 0])
 have HB3:=hid (HB.out.alloc (.cells #[.int .i64 0,.int .i64 0,.int .i64 0,.int .i64 0,.int .i64 0,.int .i64 0] 126))
 have HD:=hid (show∀(a b c d e f:Int) (w':World),Keep (fun _=>False) w w'→RankP w (.returned (.agg #[.int .i64 a,.int .i64 b,.int .i64 c,.int .i64 d,.int .i64 e,.int .i64 f])) w' from fun a b c d e f w' hk=>⟨_,rfl,⟨a,b,c,d,e,f,rfl⟩,hk⟩)
 obtain⟨res,comp,prec,x,y⟩:=s
 unfold Spt.cells at*
 simp only at HB HK HB2 HB3 ⊢
 have c0:=HB3.out.cell 0
 have c1:=HB3.out.cell 1
 have c2:=HB3.out.cell 2
 have c3:=HB3.out.cell 3
 have c4:=HB3.out.cell 4
 simp at c0 c1 c2 c3 c4
 rcases (show o=0∨o=1∨o=2∨o=3∨o=4 by omega)with rfl|rfl|rfl|rfl|rfl
 all_goals(
  go_enter Tryz.func63,Tryz.ntmps63
  go_wp2_with (refine wpList_store_row rfl _ _ _ rfl (w.heap.size+1) _ rfl rfl _ _ HB2.out (by kernel_rfl) rfl (by simp [Value.oneCell']) ?_)
  exact bodyPost_ret (ret_row rfl _ _ (w.heap.size+1) 126 _ _ HB2.out.row rfl Tryz.underlying126 rfl (by kernel_rfl)) rfl (HD.out _ _ _ _ _ _ _ (HK.out.row (.inr (by omega)) _)))
theorem less_any (w:World) (a b:Array Value) (ha:Six a) (hb:Six b):
 Calls Tryz.prog 112 #[.agg a,.agg b] w (fun e w'=> ∃r:Bool,e=.returned (.bool r)∧Keep (fun _=>False) w w'):=by
 have HK:=hid (((Keep.refl (fun _=>False) w).alloc (.cells a 126)).alloc (.cells b 126))
 have HB1:=hid ((Blk.new w 126 a).alloc (.cells b 126))
 have HB2:=hid (Blk.new1 w (.cells a 126) 126 b)
 have HSa:=hid (show∀i:Nat,i<6→ ∃z:Int,a[i]?=some (.int .i64 z)from by
  obtain⟨x0,x1,x2,x3,x4,x5,rfl⟩:=ha
  intro i hi
  rcases (show i=0∨i=1∨i=2∨i=3∨i=4∨i=5 by omega)with rfl|rfl|rfl|rfl|rfl|rfl
  all_goals exact⟨_,rfl⟩)
 have HSb:=hid (show∀i:Nat,i<6→ ∃z:Int,b[i]?=some (.int .i64 z)from by
  obtain⟨x0,x1,x2,x3,x4,x5,rfl⟩:=hb
  intro i hi
  rcases (show i=0∨i=1∨i=2∨i=3∨i=4∨i=5 by omega)with rfl|rfl|rfl|rfl|rfl|rfl
  all_goals exact⟨_,rfl⟩)
 clear ha hb
 go_enter Tryz.func112,Tryz.ntmps112
 go_wp2_with fail
 generalize (w.alloc (.cells a 126)).alloc (.cells b 126)=w1 at*
 go_loopw [5] (fun v wr=> ∃i:Nat,i≤6∧v=.int .i64 i∧Hid (Keep (fun _=>False) w wr)∧Hid (Blk wr w.heap.size 126 a)∧Hid (Blk wr (w.heap.size+1) 126 b)) (fun v _=>6-(intOf v).toNat)
 case atStart=>exact⟨0,by omega,rfl,HK,HB1,HB2⟩
 case round=>
  clear HK HB1 HB2
  obtain⟨i,hi,rfl,HK,HB1,HB2⟩:=hrel
  by_cases hi6:i<6
  · obtain⟨z1,e1⟩:=HSa.out i hi6
    obtain⟨z2,e2⟩:=HSb.out i hi6
    have c1:wr.cell? ⟨w.heap.size,i,none⟩=some (.int .i64 z1):=by rw [HB1.out.cell];exact e1
    have c2:wr.cell? ⟨w.heap.size+1,i,none⟩=some (.int .i64 z2):=by rw [HB2.out.cell];exact e2
    clear e1 e2
    have hi0:(0:Int)≤(i:Int):=by omega
    have hi1:(i:Int)<6:=by omega
    by_cases hz:z1=z2
    · subst hz
      go_wp2_with fail
      go_quiet (fail)
      go_wp2_with fail
      go_roundw
      case rel=>exact⟨i+1,by omega,by go_num,hid (HK.out.drewN _),hid (HB1.out.drewN _),hid (HB2.out.drewN _)⟩
      case measure=>simp [intOf]<;>omega
    · have hz2:(z1==z2)=false:=by simpa using hz
      go_wp2_with fail
      go_quiet (fail)
      go_wp2_with fail
      go_quiet (fail)
      go_wp2_with fail
      go_ret
      exact⟨_,rfl,(HK.out.drewN _).drewN _⟩
  · obtain rfl:i=6:=by omega
    go_wp2_with fail
    go_ret
    exact⟨_,rfl,HK.out⟩
end Go.Proofs.YthfogcgdijmaoaaGreat
